/- Printed (wip/gprint.py). -/
import Derived.Test.YtajfefjmfelnbaaSubA
import Derived.Test.YtajfefjmfelnbaaBStatex1
import Derived.Test.YtajfefjmfelnbaaBStatex2
import Derived.Test.YtajfefjmfelnbaaBStatex6
import Derived.Test.YtajfefjmfelnbaaSubR
import Derived.Test.YtajfefjmfelnbaaSubR13
namespace Go.Proofs.Ytajfefjmfelnbaa.BState
open Go.RowKit Go.Proofs.YtajfefjmfelnbaaW.PrintWords Go.Proofs.YtajfefjmfelnbaaW.PrintLast Go.Proofs.YtajfefjmfelnbaaW.PrintMore
attribute [local go_sem] max2_int min2_int max_two min_two max_three min_three max_four min_four   -- for this text's walks alone
set_option linter.unusedVariables false
set_option linter.unusedSimpArgs false

set_option maxHeartbeats 80000000 in
set_option maxRecDepth 100000 in
noncomputable def sub_c2 : { P : Prop // Held_ P → sub_c1.1 } := by
 apply Subtype.mk
 intro hP_
 intro k A0 c0 l0 a1 a2 a3 r1 r2 r3 r4 r5 r6 r7 r8 r9 r10 w hu46 hu68 HR0 HC0 t142 A5 t143 A6 c7 c7b0 c7b1 c7b2 y144 Ny144 t147 A8 ji9 hji9 c10b0 c11b0 y149 Ny149 A12 ji13 hji13 c14b0 c15b0 t154 A16 t155 A17 t156 A18 c19 c19b0 c19b1 t158 A20 za_1 gb141 w22 GW141 GE141 za_2 za_3 za_4 za_5 za_6 za_7 za_8 za_9 za_10 za_11 za_12 za_13 za_14 za_15 za_16 za_17 za_18 za_19 za_20 za_21 za_22 za_23 za_24 za_25 za_26 za_27 za_28 za_29 za_30 za_31 za_32 gb157 w32 GE157 GW157 NB141_157 NB157_141 za_33 za_34 za_35 nd za_36 u13 u14 u15 u16 u17 u18 u19 u20 u21 u22 u23 u24 u25 u26 u27 u28 u29 u30 u31 u32 u33 u34 u35 u36 u37 u38 u39 u40 u41 u42 u43 u44 u45 u46 u47 u48 u49 u50 u51 u52 za_37 za_38 za_39 za_40 za_41 za_42 za_43 za_44 za_45 za_46 za_47 za_48 za_49 za_50 za_51 za_52 za_53 za_54 za_55 za_56 za_57 za_58 za_59 za_60 za_61 za_62 za_63 za_64 za_65 za_66 za_67 za_68 za_69 za_70 za_71 za_72 za_73 za_74 za_75 za_76 za_77 za_78 za_79 za_80 za_81 za_82 za_83 za_84 za_85 za_86 za_87 za_88 za_89 za_90 za_91 za_92 za_93 za_94 za_95 za_96 za_97 za_98 za_99 za_100 za_101 za_102 za_103 za_104 za_105 za_106 za_107 za_108 za_109 za_110 za_111 za_112 za_113 za_114 za_115 za_116 za_117 za_118 za_119 za_120 za_121 za_122 za_123 za_124 za_125 za_126 za_127 za_128 za_129 za_130 za_131 za_132 za_133 za_134 za_135 za_136 za_137 za_138 za_139 za_140 za_141 za_142 za_143 za_144 za_145 za_146 za_147 za_148 za_149 za_150 za_151 za_152 za_153 za_154 za_155 za_156 za_157 za_158 za_159 za_160 za_161 za_162 za_163 za_164 za_165 za_166 za_167 za_168 za_169 za_170 za_171 za_172 za_173 za_174 u195 y009_20 za_175 za_176 za_177 kj20 HJ20 hnb51 hnc51 za_178 za_179 wr u12 za_180 za_181 za_182 za_183 za_184 za_185 za_186 za_187 za_188 za_189 za_190 za_191 za_192 za_193 za_194 za_195 za_196 za_197 za_198 za_199 za_200 za_201 za_202 za_203 za_204 za_205 za_206 za_207 za_208 za_209 za_210 za_211 za_212 za_213 za_214 za_215 za_216 za_217 za_218 za_219 za_220 za_221 za_222 za_223 za_224 za_225 za_226 za_227 za_228 za_229 za_230 za_231 za_232 za_233 za_234 za_235 za_236 za_237 za_238 za_239 za_240 za_241 za_242 za_243 za_244 za_245 za_246 za_247 za_248 za_249 za_250 za_251 za_252 za_253 za_254 za_255 za_256 za_257 za_258 za_259 za_260 u134 u135 za_261 za_262 za_263 za_264 za_265 za_266 za_267 za_268 za_269 za_270 za_271 u147 za_272 za_273 za_274 za_275 za_276 za_277 za_278 za_279 za_280 za_281 za_282 za_283 za_284 za_285 za_286 za_287 za_288 za_289 za_290 za_291 za_292 za_293 za_294 za_295 za_296 u173 za_297 za_298 za_299 za_300 za_301 za_302 za_303 za_304 za_305 za_306 za_307 za_308 za_309 za_310 za_311 za_312 za_313 za_314 za_315 za_316 za_317 za_318 za_319 za_320 x10_2 x11_2 y007_2 y008_2 z7 z8 P7 P8 BK141 BK157 HB k2 za_321 HK2 za_322 za_323 za_324 za_325 wc u53 u54 u55 u56 u57 u58 u59 u60 u61 u62 u63 u64 u65 u66 u67 u68 u69 u70 u71 u72 u73 u74 u75 u76 u77 u78 u79 u80 u81 u82 u83 u84 u85 u86 u87 u88 u89 u90 u91 u92 u93 u94 u95 u96 u97 u98 u99 u100 u101 u102 u103 u104 u105 u106 u107 u108 u109 u110 u111 u112 u113 u114 u115 u116 u117 u118 u119 u120 u121 u122 u123 u124 u125 u126 u127 u128 u129 u130 u131 u132 u133 u136 u137 u138 u139 u140 u141 u142 u143 u144 u145 u146 u148 u149 u150 u151 u152 u153 u154 u155 u156 u157 u158 u159 u160 u161 u162 u163 u164 u165 u166 u167 u168 u169 u170 u171 u172 u174 u175 u176 u177 u178 u179 u180 u181 u182 u183 u184 u185 u186 u187 u188 u189 u190 u191 u192 u193 u194 hcut
 obtain ⟨kq, x61_52, rfl, HA, HJ52, P7, P8, BK141, BK157, HB⟩ := hcut
 cases kq with
 | zero => exact absurd HA.out (by simp [roadsteadlaw10_Sub.j2])
 | succ kj52 =>
  have H := HA.out
  clear HA
  simp only [roadsteadlaw10_Sub.j2] at H
  by_cases c55 : x61_52 = true
  ·subst c55
   have H1 : (if 0 ≤ x11_2 then (if x11_2 < (l0.length : Int) then (if (wrap64 (x10_2 + (wrap64 (1 + (wrap64 (Int.tmod (rd l0 x11_2) 3)))))) ≥ a3 then (some (a1, ((⟨#[110]⟩ : ByteArray) ++ t143), (rdOf ByteArray.empty y144 (ji9)), (rdOf ByteArray.empty y149 (ji13)), (wrap64 (1 + (wrap64 (t154 * 3)))), (wrap64 (1 + (Int.tmod t155 9))), (Int.tmod t156 a3), y007_2, y008_2, y009_20)) else (if (rd l0 x11_2) > 200 then (roadsteadlaw10_Sub.j3 kj52 l0 a2 a3 (wrap64 (x10_2 + (wrap64 (1 + (wrap64 (Int.tmod (rd l0 x11_2) 3)))))) x11_2 (decide ((y007_2.length : Int) < 20)) a1 ((⟨#[110]⟩ : ByteArray) ++ t143) (rdOf ByteArray.empty y144 (ji9)) (rdOf ByteArray.empty y149 (ji13)) (wrap64 (1 + (wrap64 (t154 * 3)))) (wrap64 (1 + (Int.tmod t155 9))) (Int.tmod t156 a3) y007_2 y008_2 y009_20) else (roadsteadlaw10_Sub.j3 kj52 l0 a2 a3 (wrap64 (x10_2 + (wrap64 (1 + (wrap64 (Int.tmod (rd l0 x11_2) 3)))))) x11_2 false a1 ((⟨#[110]⟩ : ByteArray) ++ t143) (rdOf ByteArray.empty y144 (ji9)) (rdOf ByteArray.empty y149 (ji13)) (wrap64 (1 + (wrap64 (t154 * 3)))) (wrap64 (1 + (Int.tmod t155 9))) (Int.tmod t156 a3) y007_2 y008_2 y009_20))) else (none)) else (none)) = some (r1, r2, r3, r4, r5, r6, r7, r8, r9, r10) := by rw [if_pos rfl] at H; exact H
   clear H
   have H := H1
   clear H1
   by_cases c56 : 0 ≤ x11_2
   ·rw [if_pos c56] at H
    have c56b0 : decide (0 ≤ x11_2) = true := decide_eq_true c56
    clear c56
    by_cases c57 : x11_2 < (l0.length : Int)
    ·rw [if_pos c57] at H
     have c57b0 : decide (x11_2 < (l0.length : Int)) = true := decide_eq_true c57
     clear c57
     by_cases c58 : (wrap64 (x10_2 + (wrap64 (1 + (wrap64 (Int.tmod (rd l0 x11_2) 3)))))) ≥ a3
     ·rw [if_pos c58] at H
      have c58b0 : decide (a3 ≤ (wrap64 (x10_2 + (wrap64 (1 + (wrap64 (Int.tmod (rd l0 x11_2) 3))))))) = true := decide_eq_true c58
      clear c58
      simp only [Option.some.injEq, Prod.mk.injEq] at H
      obtain ⟨rfl, rfl, rfl, rfl, rfl, rfl, rfl, rfl, rfl, rfl⟩ := H
      have p161 : 0 ≤ (x11_2 : Int) := of_decide_eq_true (by first | (with_reducible assumption) | assumption)
      have q161 : x11_2 < (l0.length : Int) := of_decide_eq_true (by first | (with_reducible assumption) | assumption)
      obtain ⟨ad161, e161, hx161_0⟩ := Kd.at_int HR0.out x11_2 p161 q161
      cases e161
      replace hx161_0 := (HB.out.cell (World.block_lt_of_cell? w _ hx161_0)).trans hx161_0
      replace p161 := eq_true p161
      replace q161 := eq_true q161
      have hnb59 := NB157_141.out
      have hnc59 := NB141_157.out
      have hcz60_0 : wc.cell? ⟨gb157, 0, none⟩ = some (.int .i64 a1) := (blk_cell BK157.out 0).trans rfl
      have hcz60_1 : wc.cell? ⟨gb157, 1, none⟩ = some (.string ((⟨#[110]⟩ : ByteArray) ++ t143)) := (blk_cell BK157.out 1).trans rfl
      have hcz60_2 : wc.cell? ⟨gb157, 2, none⟩ = some (.string (rdOf ByteArray.empty y144 (ji9))) := (blk_cell BK157.out 2).trans rfl
      have hcz60_3 : wc.cell? ⟨gb157, 3, none⟩ = some (.string (rdOf ByteArray.empty y149 (ji13))) := (blk_cell BK157.out 3).trans rfl
      have hcz60_4 : wc.cell? ⟨gb157, 4, none⟩ = some (.int .i64 (wrap64 (1 + (wrap64 (t154 * 3))))) := (blk_cell BK157.out 4).trans rfl
      have hcz60_5 : wc.cell? ⟨gb157, 5, none⟩ = some (.int .i64 (wrap64 (1 + (Int.tmod t155 9)))) := (blk_cell BK157.out 5).trans rfl
      have hcz60_6 : wc.cell? ⟨gb157, 6, none⟩ = some (.int .i64 (Int.tmod t156 a3)) := (blk_cell BK157.out 6).trans rfl
      have hcz60_7 : wc.cell? ⟨gb157, 7, none⟩ = some (z7) := (blk_cell BK157.out 7).trans rfl
      have hcz60_8 : wc.cell? ⟨gb157, 8, none⟩ = some (z8) := (blk_cell BK157.out 8).trans rfl
      have hcz60_9 : wc.cell? ⟨gb157, 9, none⟩ = some (.string y009_20) := (blk_cell BK157.out 9).trans rfl
      have hfz60_0 := blk_frozen BK157.out 0
      have hfz60_1 := blk_frozen BK157.out 1
      have hfz60_2 := blk_frozen BK157.out 2
      have hfz60_3 := blk_frozen BK157.out 3
      have hfz60_4 := blk_frozen BK157.out 4
      have hfz60_5 := blk_frozen BK157.out 5
      have hfz60_6 := blk_frozen BK157.out 6
      have hfz60_7 := blk_frozen BK157.out 7
      have hfz60_8 := blk_frozen BK157.out 8
      have hfz60_9 := blk_frozen BK157.out 9
      have hcz61_0 : wc.cell? ⟨gb141, 0, none⟩ = some (.int .i64 0) := (blk_cell BK141.out 0).trans rfl
      have hcz61_1 : wc.cell? ⟨gb141, 1, none⟩ = some (.string (⟨#[]⟩ : ByteArray)) := (blk_cell BK141.out 1).trans rfl
      have hcz61_2 : wc.cell? ⟨gb141, 2, none⟩ = some (.string (⟨#[]⟩ : ByteArray)) := (blk_cell BK141.out 2).trans rfl
      have hcz61_3 : wc.cell? ⟨gb141, 3, none⟩ = some (.string (⟨#[]⟩ : ByteArray)) := (blk_cell BK141.out 3).trans rfl
      have hcz61_4 : wc.cell? ⟨gb141, 4, none⟩ = some (.int .i64 0) := (blk_cell BK141.out 4).trans rfl
      have hcz61_5 : wc.cell? ⟨gb141, 5, none⟩ = some (.int .i64 0) := (blk_cell BK141.out 5).trans rfl
      have hcz61_6 : wc.cell? ⟨gb141, 6, none⟩ = some (.int .i64 0) := (blk_cell BK141.out 6).trans rfl
      have hcz61_7 : wc.cell? ⟨gb141, 7, none⟩ = some (.slice none 0 0) := (blk_cell BK141.out 7).trans rfl
      have hcz61_8 : wc.cell? ⟨gb141, 8, none⟩ = some (.slice none 0 0) := (blk_cell BK141.out 8).trans rfl
      have hcz61_9 : wc.cell? ⟨gb141, 9, none⟩ = some (.string (⟨#[]⟩ : ByteArray)) := (blk_cell BK141.out 9).trans rfl
      have hfz61_0 := blk_frozen BK141.out 0
      have hfz61_1 := blk_frozen BK141.out 1
      have hfz61_2 := blk_frozen BK141.out 2
      have hfz61_3 := blk_frozen BK141.out 3
      have hfz61_4 := blk_frozen BK141.out 4
      have hfz61_5 := blk_frozen BK141.out 5
      have hfz61_6 := blk_frozen BK141.out 6
      have hfz61_7 := blk_frozen BK141.out 7
      have hfz61_8 := blk_frozen BK141.out 8
      have hfz61_9 := blk_frozen BK141.out 9
      obtain ⟨Ao62, co62, eo62⟩ := Kd.R_slice P7.out
      subst eo62
      obtain ⟨Ao63, co63, eo63⟩ := Kd.R_slice P8.out
      subst eo63
      go_wp2
      refine bodyPost_ret (results_cell_row rfl _ _ gb141 46 #[.int .i64 a1, .string ((⟨#[110]⟩ : ByteArray) ++ t143), .string (rdOf ByteArray.empty y144 (ji9)), .string (rdOf ByteArray.empty y149 (ji13)), .int .i64 (wrap64 (1 + (wrap64 (t154 * 3)))), .int .i64 (wrap64 (1 + (Int.tmod t155 9))), .int .i64 (Int.tmod t156 a3), .slice Ao62 y007_2.length co62, .slice Ao63 y008_2.length co63, .string y009_20] (0, 0) _ rfl (by (with_reducible repeat (first | refine blk_drewN ?_ _ | refine blk_drew ?_ | refine blk_alloc ?_ _)); refine blk_put (cs := #[.int .i64 a1, .string ((⟨#[110]⟩ : ByteArray) ++ t143), .string (rdOf ByteArray.empty y144 (ji9)), .string (rdOf ByteArray.empty y149 (ji13)), .int .i64 (wrap64 (1 + (wrap64 (t154 * 3)))), .int .i64 (wrap64 (1 + (Int.tmod t155 9))), .int .i64 (Int.tmod t156 a3), .slice Ao62 y007_2.length co62, .slice Ao63 y008_2.length co63, .string (⟨#[]⟩ : ByteArray)]) ?_ 9 _ rfl; refine blk_put (cs := #[.int .i64 a1, .string ((⟨#[110]⟩ : ByteArray) ++ t143), .string (rdOf ByteArray.empty y144 (ji9)), .string (rdOf ByteArray.empty y149 (ji13)), .int .i64 (wrap64 (1 + (wrap64 (t154 * 3)))), .int .i64 (wrap64 (1 + (Int.tmod t155 9))), .int .i64 (Int.tmod t156 a3), .slice Ao62 y007_2.length co62, .slice none 0 0, .string (⟨#[]⟩ : ByteArray)]) ?_ 8 _ rfl; refine blk_put (cs := #[.int .i64 a1, .string ((⟨#[110]⟩ : ByteArray) ++ t143), .string (rdOf ByteArray.empty y144 (ji9)), .string (rdOf ByteArray.empty y149 (ji13)), .int .i64 (wrap64 (1 + (wrap64 (t154 * 3)))), .int .i64 (wrap64 (1 + (Int.tmod t155 9))), .int .i64 (Int.tmod t156 a3), .slice none 0 0, .slice none 0 0, .string (⟨#[]⟩ : ByteArray)]) ?_ 7 _ rfl; refine blk_put (cs := #[.int .i64 a1, .string ((⟨#[110]⟩ : ByteArray) ++ t143), .string (rdOf ByteArray.empty y144 (ji9)), .string (rdOf ByteArray.empty y149 (ji13)), .int .i64 (wrap64 (1 + (wrap64 (t154 * 3)))), .int .i64 (wrap64 (1 + (Int.tmod t155 9))), .int .i64 0, .slice none 0 0, .slice none 0 0, .string (⟨#[]⟩ : ByteArray)]) ?_ 6 _ rfl; refine blk_put (cs := #[.int .i64 a1, .string ((⟨#[110]⟩ : ByteArray) ++ t143), .string (rdOf ByteArray.empty y144 (ji9)), .string (rdOf ByteArray.empty y149 (ji13)), .int .i64 (wrap64 (1 + (wrap64 (t154 * 3)))), .int .i64 0, .int .i64 0, .slice none 0 0, .slice none 0 0, .string (⟨#[]⟩ : ByteArray)]) ?_ 5 _ rfl; refine blk_put (cs := #[.int .i64 a1, .string ((⟨#[110]⟩ : ByteArray) ++ t143), .string (rdOf ByteArray.empty y144 (ji9)), .string (rdOf ByteArray.empty y149 (ji13)), .int .i64 0, .int .i64 0, .int .i64 0, .slice none 0 0, .slice none 0 0, .string (⟨#[]⟩ : ByteArray)]) ?_ 4 _ rfl; refine blk_put (cs := #[.int .i64 a1, .string ((⟨#[110]⟩ : ByteArray) ++ t143), .string (rdOf ByteArray.empty y144 (ji9)), .string (⟨#[]⟩ : ByteArray), .int .i64 0, .int .i64 0, .int .i64 0, .slice none 0 0, .slice none 0 0, .string (⟨#[]⟩ : ByteArray)]) ?_ 3 _ rfl; refine blk_put (cs := #[.int .i64 a1, .string ((⟨#[110]⟩ : ByteArray) ++ t143), .string (⟨#[]⟩ : ByteArray), .string (⟨#[]⟩ : ByteArray), .int .i64 0, .int .i64 0, .int .i64 0, .slice none 0 0, .slice none 0 0, .string (⟨#[]⟩ : ByteArray)]) ?_ 2 _ rfl; refine blk_put (cs := #[.int .i64 a1, .string (⟨#[]⟩ : ByteArray), .string (⟨#[]⟩ : ByteArray), .string (⟨#[]⟩ : ByteArray), .int .i64 0, .int .i64 0, .int .i64 0, .slice none 0 0, .slice none 0 0, .string (⟨#[]⟩ : ByteArray)]) ?_ 1 _ rfl; refine blk_put (cs := #[.int .i64 0, .string (⟨#[]⟩ : ByteArray), .string (⟨#[]⟩ : ByteArray), .string (⟨#[]⟩ : ByteArray), .int .i64 0, .int .i64 0, .int .i64 0, .slice none 0 0, .slice none 0 0, .string (⟨#[]⟩ : ByteArray)]) ?_ 0 _ rfl; exact BK141.out) Try.underlying46 rfl (by kernel_rfl)) rfl ?_
      exact ⟨_, _, by first | rfl | (simp [errW_none, errW_some] <;> rfl) | (simp only [← hji9, ← hji13]; first | rfl | (simp [errW_none, errW_some] <;> rfl)) | (simp [*, errW_none, errW_some] <;> rfl), by (with_reducible repeat (first | apply Kd.R_alloc | apply Kd.R_drewN | apply Kd.R_drew)); exact Kd.R_mono (Kd.R_far (p := ⟨gb141, 9, none⟩) (Kd.R_far (p := ⟨gb141, 8, none⟩) (Kd.R_far (p := ⟨gb141, 7, none⟩) (Kd.R_far (p := ⟨gb141, 6, none⟩) (Kd.R_far (p := ⟨gb141, 5, none⟩) (Kd.R_far (p := ⟨gb141, 4, none⟩) (Kd.R_far (p := ⟨gb141, 3, none⟩) (Kd.R_far (p := ⟨gb141, 2, none⟩) (Kd.R_far (p := ⟨gb141, 1, none⟩) (Kd.R_far (p := ⟨gb141, 0, none⟩) (Kd.R_types P7.out BK141.out (by decide)) (fun _ hk => hk.2) (.int .i64 a1)) (fun _ hk => hk.2) (.string ((⟨#[110]⟩ : ByteArray) ++ t143))) (fun _ hk => hk.2) (.string (rdOf ByteArray.empty y144 (ji9)))) (fun _ hk => hk.2) (.string (rdOf ByteArray.empty y149 (ji13)))) (fun _ hk => hk.2) (.int .i64 (wrap64 (1 + (wrap64 (t154 * 3)))))) (fun _ hk => hk.2) (.int .i64 (wrap64 (1 + (Int.tmod t155 9))))) (fun _ hk => hk.2) (.int .i64 (Int.tmod t156 a3))) (fun _ hk => hk.2) (.slice Ao62 y007_2.length co62)) (fun _ hk => hk.2) (.slice Ao63 y008_2.length co63)) (fun _ hk => hk.2) (.string y009_20)) (fun _ hk => trivial), by (with_reducible repeat (first | apply Kd.R_alloc | apply Kd.R_drewN | apply Kd.R_drew)); exact Kd.R_mono (Kd.R_far (p := ⟨gb141, 9, none⟩) (Kd.R_far (p := ⟨gb141, 8, none⟩) (Kd.R_far (p := ⟨gb141, 7, none⟩) (Kd.R_far (p := ⟨gb141, 6, none⟩) (Kd.R_far (p := ⟨gb141, 5, none⟩) (Kd.R_far (p := ⟨gb141, 4, none⟩) (Kd.R_far (p := ⟨gb141, 3, none⟩) (Kd.R_far (p := ⟨gb141, 2, none⟩) (Kd.R_far (p := ⟨gb141, 1, none⟩) (Kd.R_far (p := ⟨gb141, 0, none⟩) (Kd.R_types P8.out BK141.out (by decide)) (fun _ hk => hk.2) (.int .i64 a1)) (fun _ hk => hk.2) (.string ((⟨#[110]⟩ : ByteArray) ++ t143))) (fun _ hk => hk.2) (.string (rdOf ByteArray.empty y144 (ji9)))) (fun _ hk => hk.2) (.string (rdOf ByteArray.empty y149 (ji13)))) (fun _ hk => hk.2) (.int .i64 (wrap64 (1 + (wrap64 (t154 * 3)))))) (fun _ hk => hk.2) (.int .i64 (wrap64 (1 + (Int.tmod t155 9))))) (fun _ hk => hk.2) (.int .i64 (Int.tmod t156 a3))) (fun _ hk => hk.2) (.slice Ao62 y007_2.length co62)) (fun _ hk => hk.2) (.slice Ao63 y008_2.length co63)) (fun _ hk => hk.2) (.string y009_20)) (fun _ hk => trivial), by repeat (with_reducible first | exact HB.out | apply below_alloc | apply pw_below_drewN | apply below_drew1 | refine below_set ?_ GE141.out | refine below_set ?_ GE157.out)⟩
     ·rw [if_neg c58] at H
      have c58b0 : decide (a3 ≤ (wrap64 (x10_2 + (wrap64 (1 + (wrap64 (Int.tmod (rd l0 x11_2) 3))))))) = false := decide_eq_false c58
      clear c58
      have HC64 := Aside0.mk H
      clear H
      have p161 : 0 ≤ (x11_2 : Int) := of_decide_eq_true (by first | (with_reducible assumption) | assumption)
      have q161 : x11_2 < (l0.length : Int) := of_decide_eq_true (by first | (with_reducible assumption) | assumption)
      obtain ⟨ad161, e161, hx161_0⟩ := Kd.at_int HR0.out x11_2 p161 q161
      cases e161
      replace hx161_0 := (HB.out.cell (World.block_lt_of_cell? w _ hx161_0)).trans hx161_0
      replace p161 := eq_true p161
      replace q161 := eq_true q161
      go_upto_region 10 with (fail)
      go_cut [86] (fun v86 wc => ∃ (kq : Nat) (x86_63 : Bool), v86 = .bool x86_63 ∧ Aside0 (roadsteadlaw10_Sub.j3 kq l0 a2 a3 (wrap64 (x10_2 + (wrap64 (1 + (wrap64 (Int.tmod (rd l0 x11_2) 3)))))) x11_2 x86_63 a1 ((⟨#[110]⟩ : ByteArray) ++ t143) (rdOf ByteArray.empty y144 (ji9)) (rdOf ByteArray.empty y149 (ji13)) (wrap64 (1 + (wrap64 (t154 * 3)))) (wrap64 (1 + (Int.tmod t155 9))) (Int.tmod t156 a3) y007_2 y008_2 y009_20 = some (r1, r2, r3, r4, r5, r6, r7, r8, r9, r10)) ∧ Aside0 (kq ≤ kj52) ∧ Aside0 (Kd.R (Kd.int .i64) 3 wc w.heap.size (fun _ => True) z7 y007_2) ∧ Aside0 (Kd.R k68 68 wc w.heap.size (fun _ => True) z8 y008_2) ∧ Aside0 (wc.heap[gb141]? = some (.cells #[.int .i64 0, .string (⟨#[]⟩ : ByteArray), .string (⟨#[]⟩ : ByteArray), .string (⟨#[]⟩ : ByteArray), .int .i64 0, .int .i64 0, .int .i64 0, (.slice none 0 0), (.slice none 0 0), .string (⟨#[]⟩ : ByteArray)] 46 (0, 0))) ∧ Aside0 (wc.heap[gb157]? = some (.cells #[.int .i64 a1, .string ((⟨#[110]⟩ : ByteArray) ++ t143), .string (rdOf ByteArray.empty y144 (ji9)), .string (rdOf ByteArray.empty y149 (ji13)), .int .i64 (wrap64 (1 + (wrap64 (t154 * 3)))), .int .i64 (wrap64 (1 + (Int.tmod t155 9))), .int .i64 (Int.tmod t156 a3), z7, z8, .string y009_20] 46 (0, 0))) ∧ Aside0 (Below w.heap.size w wc))
      case first =>
       have H := HC64.out
       clear HC64
       by_cases c65 : (rd l0 x11_2) > 200
       ·rw [if_pos c65] at H
        have c65b0 : decide (200 < (rd l0 x11_2)) = true := decide_eq_true c65
        clear c65
        (first | rw [c65b0] | (simp only [i64_w, i32_w]; rw [c65b0]) | skip)
        have H' := Aside0.mk H
        clear H
        have p162 : 0 ≤ (x11_2 : Int) := of_decide_eq_true (by first | (with_reducible assumption) | assumption)
        have q162 : x11_2 < (l0.length : Int) := of_decide_eq_true (by first | (with_reducible assumption) | assumption)
        obtain ⟨ad162, e162, hx162_0⟩ := Kd.at_int HR0.out x11_2 p162 q162
        obtain rfl : ad161 = ad162 := (by injection e162)
        replace hx162_0 := (HB.out.cell (World.block_lt_of_cell? w _ hx162_0)).trans hx162_0
        replace p162 := eq_true p162
        replace q162 := eq_true q162
        have hnb66 := NB157_141.out
        have hnc66 := NB141_157.out
        have hcz67_0 : wc.cell? ⟨gb157, 0, none⟩ = some (.int .i64 a1) := (blk_cell BK157.out 0).trans rfl
        have hcz67_1 : wc.cell? ⟨gb157, 1, none⟩ = some (.string ((⟨#[110]⟩ : ByteArray) ++ t143)) := (blk_cell BK157.out 1).trans rfl
        have hcz67_2 : wc.cell? ⟨gb157, 2, none⟩ = some (.string (rdOf ByteArray.empty y144 (ji9))) := (blk_cell BK157.out 2).trans rfl
        have hcz67_3 : wc.cell? ⟨gb157, 3, none⟩ = some (.string (rdOf ByteArray.empty y149 (ji13))) := (blk_cell BK157.out 3).trans rfl
        have hcz67_4 : wc.cell? ⟨gb157, 4, none⟩ = some (.int .i64 (wrap64 (1 + (wrap64 (t154 * 3))))) := (blk_cell BK157.out 4).trans rfl
        have hcz67_5 : wc.cell? ⟨gb157, 5, none⟩ = some (.int .i64 (wrap64 (1 + (Int.tmod t155 9)))) := (blk_cell BK157.out 5).trans rfl
        have hcz67_6 : wc.cell? ⟨gb157, 6, none⟩ = some (.int .i64 (Int.tmod t156 a3)) := (blk_cell BK157.out 6).trans rfl
        have hcz67_7 : wc.cell? ⟨gb157, 7, none⟩ = some (z7) := (blk_cell BK157.out 7).trans rfl
        have hcz67_8 : wc.cell? ⟨gb157, 8, none⟩ = some (z8) := (blk_cell BK157.out 8).trans rfl
        have hcz67_9 : wc.cell? ⟨gb157, 9, none⟩ = some (.string y009_20) := (blk_cell BK157.out 9).trans rfl
        have hfz67_0 := blk_frozen BK157.out 0
        have hfz67_1 := blk_frozen BK157.out 1
        have hfz67_2 := blk_frozen BK157.out 2
        have hfz67_3 := blk_frozen BK157.out 3
        have hfz67_4 := blk_frozen BK157.out 4
        have hfz67_5 := blk_frozen BK157.out 5
        have hfz67_6 := blk_frozen BK157.out 6
        have hfz67_7 := blk_frozen BK157.out 7
        have hfz67_8 := blk_frozen BK157.out 8
        have hfz67_9 := blk_frozen BK157.out 9
        obtain ⟨Ao68, co68, eo68⟩ := Kd.R_slice P7.out
        subst eo68
        go_wp2
        go_meet
        case rel => exact ⟨_, (decide ((y007_2.length : Int) < 20)), (by first | rfl | (simp; done) | (simp [*]; done)), H', ⟨by have := HJ20.out; have := HK2.out; have := HJ52.out; first | omega | exact Nat.le_refl _⟩, ⟨by (with_reducible repeat (first | apply Kd.R_alloc | apply Kd.R_drewN | apply Kd.R_drew)); exact P7.out⟩, ⟨by (with_reducible repeat (first | apply Kd.R_alloc | apply Kd.R_drewN | apply Kd.R_drew)); exact P8.out⟩, ⟨by (with_reducible repeat (first | refine blk_drewN ?_ _ | refine blk_drew ?_ | refine blk_alloc ?_ _)); exact BK141.out⟩, ⟨by (with_reducible repeat (first | refine blk_drewN ?_ _ | refine blk_drew ?_ | refine blk_alloc ?_ _)); exact BK157.out⟩, ⟨by repeat (with_reducible first | exact HB.out | apply below_alloc | apply pw_below_drewN | apply below_drew1 | refine below_set ?_ GE141.out | refine below_set ?_ GE157.out)⟩⟩
       ·rw [if_neg c65] at H
        have c65b0 : decide (200 < (rd l0 x11_2)) = false := decide_eq_false c65
        clear c65
        (first | rw [c65b0] | (simp only [i64_w, i32_w]; rw [c65b0]) | skip)
        have H' := Aside0.mk H
        clear H
        have p162 : 0 ≤ (x11_2 : Int) := of_decide_eq_true (by first | (with_reducible assumption) | assumption)
        have q162 : x11_2 < (l0.length : Int) := of_decide_eq_true (by first | (with_reducible assumption) | assumption)
        obtain ⟨ad162, e162, hx162_0⟩ := Kd.at_int HR0.out x11_2 p162 q162
        obtain rfl : ad161 = ad162 := (by injection e162)
        replace hx162_0 := (HB.out.cell (World.block_lt_of_cell? w _ hx162_0)).trans hx162_0
        replace p162 := eq_true p162
        replace q162 := eq_true q162
        go_wp2
        go_meet
        case rel => exact ⟨_, (false), (by first | rfl | (simp; done) | (simp [*]; done)), H', ⟨by have := HJ20.out; have := HK2.out; have := HJ52.out; first | omega | exact Nat.le_refl _⟩, ⟨by (with_reducible repeat (first | apply Kd.R_alloc | apply Kd.R_drewN | apply Kd.R_drew)); exact P7.out⟩, ⟨by (with_reducible repeat (first | apply Kd.R_alloc | apply Kd.R_drewN | apply Kd.R_drew)); exact P8.out⟩, ⟨by (with_reducible repeat (first | refine blk_drewN ?_ _ | refine blk_drew ?_ | refine blk_alloc ?_ _)); exact BK141.out⟩, ⟨by (with_reducible repeat (first | refine blk_drewN ?_ _ | refine blk_drew ?_ | refine blk_alloc ?_ _)); exact BK157.out⟩, ⟨by repeat (with_reducible first | exact HB.out | apply below_alloc | apply pw_below_drewN | apply below_drew1 | refine below_set ?_ GE141.out | refine below_set ?_ GE157.out)⟩⟩
      case rest =>
       clear HC64
       try clear p1
       try clear q1
       try clear hx1
       try clear c2
       try clear p2
       try clear c3
       try clear c4
       try clear c5
       try clear c6
       try clear p6
       try clear p14
       try clear q14
       try clear hx14
       try clear p15
       try clear q15
       try clear hx15
       try clear p16
       try clear q16
       try clear hx16
       try clear c22
       try clear c35
       try clear c45
       try clear c45b0
       try clear c49
       try clear c51
       try clear c54
       try clear c54b0
       try clear c55
       try clear c56
       try clear c56b0
       try clear c57
       try clear c57b0
       try clear c58
       try clear c58b0
       try clear c59
       try clear p64
       try clear c65
       try clear c65b0
       try clear c66
       try clear hcz50_0
       try clear hcz50_1
       try clear hcz50_2
       try clear hcz50_3
       try clear hcz50_4
       try clear hcz50_5
       try clear hcz50_6
       try clear hcz50_7
       try clear hcz50_8
       try clear hcz50_9
       try clear hcz52_0
       try clear hcz52_1
       try clear hcz52_2
       try clear hcz52_3
       try clear hcz52_4
       try clear hcz52_5
       try clear hcz52_6
       try clear hcz52_7
       try clear hcz52_8
       try clear hcz52_9
       try clear hcz60_0
       try clear hcz60_1
       try clear hcz60_2
       try clear hcz60_3
       try clear hcz60_4
       try clear hcz60_5
       try clear hcz60_6
       try clear hcz60_7
       try clear hcz60_8
       try clear hcz60_9
       try clear hcz61_0
       try clear hcz61_1
       try clear hcz61_2
       try clear hcz61_3
       try clear hcz61_4
       try clear hcz61_5
       try clear hcz61_6
       try clear hcz61_7
       try clear hcz61_8
       try clear hcz61_9
       try clear hcz67_0
       try clear hcz67_1
       try clear hcz67_2
       try clear hcz67_3
       try clear hcz67_4
       try clear hcz67_5
       try clear hcz67_6
       try clear hcz67_7
       try clear hcz67_8
       try clear hcz67_9
       try clear hfz50_0
       try clear hfz50_1
       try clear hfz50_2
       try clear hfz50_3
       try clear hfz50_4
       try clear hfz50_5
       try clear hfz50_6
       try clear hfz50_7
       try clear hfz50_8
       try clear hfz50_9
       try clear hfz52_0
       try clear hfz52_1
       try clear hfz52_2
       try clear hfz52_3
       try clear hfz52_4
       try clear hfz52_5
       try clear hfz52_6
       try clear hfz52_7
       try clear hfz52_8
       try clear hfz52_9
       try clear hfz60_0
       try clear hfz60_1
       try clear hfz60_2
       try clear hfz60_3
       try clear hfz60_4
       try clear hfz60_5
       try clear hfz60_6
       try clear hfz60_7
       try clear hfz60_8
       try clear hfz60_9
       try clear hfz61_0
       try clear hfz61_1
       try clear hfz61_2
       try clear hfz61_3
       try clear hfz61_4
       try clear hfz61_5
       try clear hfz61_6
       try clear hfz61_7
       try clear hfz61_8
       try clear hfz61_9
       try clear hfz67_0
       try clear hfz67_1
       try clear hfz67_2
       try clear hfz67_3
       try clear hfz67_4
       try clear hfz67_5
       try clear hfz67_6
       try clear hfz67_7
       try clear hfz67_8
       try clear hfz67_9
       try clear hx148_0
       try clear hx153_0
       try clear hx161_0
       try clear hx162_0
       try clear p1
       try clear p14
       try clear p148
       try clear p15
       try clear p153
       try clear p161
       try clear p162
       try clear p2
       try clear p6
       try clear q1
       try clear q14
       try clear q148
       try clear q15
       try clear q153
       try clear q161
       try clear q162
       obtain ⟨kq, x86_63, rfl, HA, HJ63, P7, P8, BK141, BK157, HB⟩ := hcut
       cases kq with
       | zero => exact absurd HA.out (by simp [roadsteadlaw10_Sub.j3])
       | succ kj63 =>
        have H := HA.out
        clear HA
        simp only [roadsteadlaw10_Sub.j3] at H
        by_cases c69 : x86_63 = true
        ·subst c69
         have H1 : (if y007_2.length < 17592186044416 then (roadsteadlaw10_Sub.l0 kj63 l0 a2 a3 (wrap64 (x10_2 + (wrap64 (1 + (wrap64 (Int.tmod (rd l0 x11_2) 3)))))) (wrap64 (x11_2 + 4)) a1 ((⟨#[110]⟩ : ByteArray) ++ t143) (rdOf ByteArray.empty y144 (ji9)) (rdOf ByteArray.empty y149 (ji13)) (wrap64 (1 + (wrap64 (t154 * 3)))) (wrap64 (1 + (Int.tmod t155 9))) (Int.tmod t156 a3) (y007_2 ++ [(wrap64 (x10_2 + (wrap64 (1 + (wrap64 (Int.tmod (rd l0 x11_2) 3))))))]) y008_2 y009_20) else (none)) = some (r1, r2, r3, r4, r5, r6, r7, r8, r9, r10) := by rw [if_pos rfl] at H; exact H
         clear H
         have H := H1
         clear H1
         by_cases c70 : y007_2.length < 17592186044416
         ·rw [if_pos c70] at H
          have LMc70 := Aside0.mk c70
          clear c70
          obtain ⟨y163, hy163⟩ : ∃ y_ : List Int, y_ = (y007_2 ++ [(wrap64 (x10_2 + (wrap64 (1 + (wrap64 (Int.tmod (rd l0 x11_2) 3))))))]) := ⟨_, rfl⟩
          replace H : (roadsteadlaw10_Sub.l0 kj63 l0 a2 a3 (wrap64 (x10_2 + (wrap64 (1 + (wrap64 (Int.tmod (rd l0 x11_2) 3)))))) (wrap64 (x11_2 + 4)) a1 ((⟨#[110]⟩ : ByteArray) ++ t143) (rdOf ByteArray.empty y144 (ji9)) (rdOf ByteArray.empty y149 (ji13)) (wrap64 (1 + (wrap64 (t154 * 3)))) (wrap64 (1 + (Int.tmod t155 9))) (Int.tmod t156 a3) y163 y008_2 y009_20) = some (r1, r2, r3, r4, r5, r6, r7, r8, r9, r10) := by first | (rw [hy163]; with_reducible exact H) | (have H2_ := (Option.bind_some _ _).symm.trans H; rw [hy163]; with_reducible exact H2_) | (have H2_ := (Option.bind_some _ _).symm.trans H; with_reducible exact H2_) | with_reducible exact H | (rw [hy163]; exact H) | exact H
          have Ny163 := Aside0.mk hy163
          clear hy163
          have H' := Aside0.mk H
          clear H
          have hnb71 := NB157_141.out
          have hnc71 := NB141_157.out
          have hcz72_0 : wc.cell? ⟨gb157, 0, none⟩ = some (.int .i64 a1) := (blk_cell BK157.out 0).trans rfl
          have hcz72_1 : wc.cell? ⟨gb157, 1, none⟩ = some (.string ((⟨#[110]⟩ : ByteArray) ++ t143)) := (blk_cell BK157.out 1).trans rfl
          have hcz72_2 : wc.cell? ⟨gb157, 2, none⟩ = some (.string (rdOf ByteArray.empty y144 (ji9))) := (blk_cell BK157.out 2).trans rfl
          have hcz72_3 : wc.cell? ⟨gb157, 3, none⟩ = some (.string (rdOf ByteArray.empty y149 (ji13))) := (blk_cell BK157.out 3).trans rfl
          have hcz72_4 : wc.cell? ⟨gb157, 4, none⟩ = some (.int .i64 (wrap64 (1 + (wrap64 (t154 * 3))))) := (blk_cell BK157.out 4).trans rfl
          have hcz72_5 : wc.cell? ⟨gb157, 5, none⟩ = some (.int .i64 (wrap64 (1 + (Int.tmod t155 9)))) := (blk_cell BK157.out 5).trans rfl
          have hcz72_6 : wc.cell? ⟨gb157, 6, none⟩ = some (.int .i64 (Int.tmod t156 a3)) := (blk_cell BK157.out 6).trans rfl
          have hcz72_7 : wc.cell? ⟨gb157, 7, none⟩ = some (z7) := (blk_cell BK157.out 7).trans rfl
          have hcz72_8 : wc.cell? ⟨gb157, 8, none⟩ = some (z8) := (blk_cell BK157.out 8).trans rfl
          have hcz72_9 : wc.cell? ⟨gb157, 9, none⟩ = some (.string y009_20) := (blk_cell BK157.out 9).trans rfl
          have hfz72_0 := blk_frozen BK157.out 0
          have hfz72_1 := blk_frozen BK157.out 1
          have hfz72_2 := blk_frozen BK157.out 2
          have hfz72_3 := blk_frozen BK157.out 3
          have hfz72_4 := blk_frozen BK157.out 4
          have hfz72_5 := blk_frozen BK157.out 5
          have hfz72_6 := blk_frozen BK157.out 6
          have hfz72_7 := blk_frozen BK157.out 7
          have hfz72_8 := blk_frozen BK157.out 8
          have hfz72_9 := blk_frozen BK157.out 9
          go_wp2_with (first | ((with_reducible refine gate_builtin (b := .append) (xs := #[.tmp 88, .tmp 90]) rfl ?_); (try (refine gate_guard (by rfl) ?_; dsimp only)); at_builtin; refine Kd.R_append (Kd.int .i64) (w0 := w) w.heap.size rfl (.tmp 88) (.tmp 90) 43 3 (.int .i64 0) 8 rfl Try.underlying43 info3 rfl (by decide) (by omega) z7 y007_2 (wrap64 (x10_2 + (wrap64 (1 + (wrap64 (Int.tmod (rd l0 x11_2) 3)))))) [.int .i64 (wrap64 (x10_2 + (wrap64 (1 + (wrap64 (Int.tmod (rd l0 x11_2) 3))))))] (fun _ => True) (fun _ => False) rfl rfl ?aP (fun _ hk => hk.elim) ?aF ?aO ?aB ?aS ?aL ?_; (case aP => exact rfl); (case aB => exact (by repeat (with_reducible first | exact HB.out | apply below_alloc | apply pw_below_drewN | apply below_drew1 | refine below_set ?_ GE141.out | refine below_set ?_ GE157.out))); (case aF => exact (fun _ _ => trivial)); (case aO => exact (by (with_reducible repeat (first | apply Kd.R_alloc | apply Kd.R_drewN | apply Kd.R_drew)); exact P7.out)); (case aS => exact (below_size (by repeat (with_reducible first | exact HB.out | apply below_alloc | apply pw_below_drewN | apply below_drew1 | refine below_set ?_ GE141.out | refine below_set ?_ GE157.out)))); (case aL => have := LMc70.out; omega); intro v164 w73 ho hb hg hat; rw [← Ny163.out] at ho; have n0_ := Aside0.mk (Kd.R_over' (by (with_reducible repeat (first | apply Kd.R_alloc | apply Kd.R_drewN | apply Kd.R_drew)); exact P8.out) (Kd.R_typed (by (with_reducible repeat (first | apply Kd.R_alloc | apply Kd.R_drewN | apply Kd.R_drew)); exact P7.out)) (by decide) hg); have n1_ := Aside0.mk (blk_grown (g := gb141) (o := .cells #[.int .i64 0, .string (⟨#[]⟩ : ByteArray), .string (⟨#[]⟩ : ByteArray), .string (⟨#[]⟩ : ByteArray), .int .i64 0, .int .i64 0, .int .i64 0, .slice none 0 0, .slice none 0 0, .string (⟨#[]⟩ : ByteArray)] 46 (0, 0)) (by (with_reducible repeat (first | refine blk_drewN ?_ _ | refine blk_drew ?_ | refine blk_alloc ?_ _)); exact BK141.out) hg (Kd.R_ne P7.out BK141.out (by decide))); have n2_ := Aside0.mk (blk_grown (g := gb157) (o := .cells #[.int .i64 a1, .string ((⟨#[110]⟩ : ByteArray) ++ t143), .string (rdOf ByteArray.empty y144 (ji9)), .string (rdOf ByteArray.empty y149 (ji13)), .int .i64 (wrap64 (1 + (wrap64 (t154 * 3)))), .int .i64 (wrap64 (1 + (Int.tmod t155 9))), .int .i64 (Int.tmod t156 a3), z7, z8, .string y009_20] 46 (0, 0)) (by (with_reducible repeat (first | refine blk_drewN ?_ _ | refine blk_drew ?_ | refine blk_alloc ?_ _)); exact BK157.out) hg (Kd.R_ne P7.out BK157.out (by decide))); have n3_ := Aside0.mk (hb); have n4_ := Aside0.mk (ho); clear P8; clear BK141; clear BK157; clear HB; clear P7; have P8 := n0_; have BK141 := n1_; have BK157 := n2_; have HB := n3_; have HO165 := n4_; clear n0_ n1_ n2_ n3_ n4_; clear ho hb hg hat; obtain ⟨Ao74, co74, eo74⟩ := Kd.R_slice HO165.out; subst eo74; have hcz75_0 : w73.cell? ⟨gb157, 0, none⟩ = some (.int .i64 a1) := (blk_cell BK157.out 0).trans rfl; have hcz75_1 : w73.cell? ⟨gb157, 1, none⟩ = some (.string ((⟨#[110]⟩ : ByteArray) ++ t143)) := (blk_cell BK157.out 1).trans rfl; have hcz75_2 : w73.cell? ⟨gb157, 2, none⟩ = some (.string (rdOf ByteArray.empty y144 (ji9))) := (blk_cell BK157.out 2).trans rfl; have hcz75_3 : w73.cell? ⟨gb157, 3, none⟩ = some (.string (rdOf ByteArray.empty y149 (ji13))) := (blk_cell BK157.out 3).trans rfl; have hcz75_4 : w73.cell? ⟨gb157, 4, none⟩ = some (.int .i64 (wrap64 (1 + (wrap64 (t154 * 3))))) := (blk_cell BK157.out 4).trans rfl; have hcz75_5 : w73.cell? ⟨gb157, 5, none⟩ = some (.int .i64 (wrap64 (1 + (Int.tmod t155 9)))) := (blk_cell BK157.out 5).trans rfl; have hcz75_6 : w73.cell? ⟨gb157, 6, none⟩ = some (.int .i64 (Int.tmod t156 a3)) := (blk_cell BK157.out 6).trans rfl; have hcz75_7 : w73.cell? ⟨gb157, 7, none⟩ = some (z7) := (blk_cell BK157.out 7).trans rfl; have hcz75_8 : w73.cell? ⟨gb157, 8, none⟩ = some (z8) := (blk_cell BK157.out 8).trans rfl; have hcz75_9 : w73.cell? ⟨gb157, 9, none⟩ = some (.string y009_20) := (blk_cell BK157.out 9).trans rfl; have hfz75_0 := blk_frozen BK157.out 0; have hfz75_1 := blk_frozen BK157.out 1; have hfz75_2 := blk_frozen BK157.out 2; have hfz75_3 := blk_frozen BK157.out 3; have hfz75_4 := blk_frozen BK157.out 4; have hfz75_5 := blk_frozen BK157.out 5; have hfz75_6 := blk_frozen BK157.out 6; have hfz75_7 := blk_frozen BK157.out 7; have hfz75_8 := blk_frozen BK157.out 8; have hfz75_9 := blk_frozen BK157.out 9))
          go_roundg kj63
          case measure => have := HJ20.out; have := HK2.out; have := HJ52.out; have := HJ63.out; omega
          case rel => exact ⟨((wrap64 (x10_2 + (wrap64 (1 + (wrap64 (Int.tmod (rd l0 x11_2) 3))))))), (wrap64 (x11_2 + 4)), (y163), (y008_2), (.slice Ao74 y163.length co74), (z8), (by first | rfl | (simp; done) | (simp [*]; done)), (by first | rfl | (simp; done) | (simp [*]; done)), H', ⟨by have := HJ20.out; have := HK2.out; have := HJ52.out; have := HJ63.out; omega⟩, ⟨by (with_reducible repeat (first | apply Kd.R_alloc | apply Kd.R_drewN | apply Kd.R_drew)); exact Kd.R_mono (Kd.R_far (p := ⟨gb157, 7, none⟩) (Kd.R_types HO165.out BK157.out (by decide)) (fun _ hk => hk.2) (.slice Ao74 y163.length co74)) (fun _ hk => trivial)⟩, ⟨by (with_reducible repeat (first | apply Kd.R_alloc | apply Kd.R_drewN | apply Kd.R_drew)); exact Kd.R_mono (Kd.R_far (p := ⟨gb157, 7, none⟩) (Kd.R_types P8.out BK157.out (by decide)) (fun _ hk => hk.2) (.slice Ao74 y163.length co74)) (fun _ hk => trivial)⟩, ⟨by (with_reducible repeat (first | refine blk_drewN ?_ _ | refine blk_drew ?_ | refine blk_alloc ?_ _)); refine blk_far ?_ NB141_157.out _; exact BK141.out⟩, ⟨by (with_reducible repeat (first | refine blk_drewN ?_ _ | refine blk_drew ?_ | refine blk_alloc ?_ _)); refine blk_put (cs := #[.int .i64 a1, .string ((⟨#[110]⟩ : ByteArray) ++ t143), .string (rdOf ByteArray.empty y144 (ji9)), .string (rdOf ByteArray.empty y149 (ji13)), .int .i64 (wrap64 (1 + (wrap64 (t154 * 3)))), .int .i64 (wrap64 (1 + (Int.tmod t155 9))), .int .i64 (Int.tmod t156 a3), z7, z8, .string y009_20]) ?_ 7 _ rfl; exact BK157.out⟩, ⟨by repeat (with_reducible first | exact HB.out | apply below_alloc | apply pw_below_drewN | apply below_drew1 | refine below_set ?_ GE141.out | refine below_set ?_ GE157.out)⟩⟩
         ·rw [if_neg c70] at H
          exact absurd H (by simp)
        ·replace c69 := Bool.eq_false_iff.mpr c69
         subst c69
         have H1 : (if (y008_2.length : Int) = 30 then (some (a1, ((⟨#[110]⟩ : ByteArray) ++ t143), (rdOf ByteArray.empty y144 (ji9)), (rdOf ByteArray.empty y149 (ji13)), (wrap64 (1 + (wrap64 (t154 * 3)))), (wrap64 (1 + (Int.tmod t155 9))), (Int.tmod t156 a3), y007_2, y008_2, y009_20)) else (if 0 ≤ (wrap64 (x11_2 + 1)) then (if (wrap64 (x11_2 + 1)) < (l0.length : Int) then ((roadsteadlaw10_text.f kj63 (wrap64 (rd l0 (wrap64 (x11_2 + 1)))) 60).bind fun t167 => ((some (([(⟨#[]⟩ : ByteArray), (⟨#[97, 61, 49]⟩ : ByteArray), (⟨#[98, 61, 50]⟩ : ByteArray)] : List ByteArray) : List ByteArray)).bind fun y168 => (if 0 ≤ (wrap64 (x11_2 + 2)) then (if (wrap64 (x11_2 + 2)) < (l0.length : Int) then (if 0 ≤ (Int.tmod (rd l0 (wrap64 (x11_2 + 2))) 3) then (if (Int.tmod (rd l0 (wrap64 (x11_2 + 2))) 3) < (y168.length : Int) then (if (rd l0 (wrap64 (x11_2 + 2))) > 128 then (roadsteadlaw10_Sub.j4 kj63 l0 a2 a3 (wrap64 (x10_2 + (wrap64 (1 + (wrap64 (Int.tmod (rd l0 x11_2) 3)))))) x11_2 a1 ((⟨#[110]⟩ : ByteArray) ++ t143) (rdOf ByteArray.empty y144 (ji9)) (rdOf ByteArray.empty y149 (ji13)) (wrap64 (1 + (wrap64 (t154 * 3)))) (wrap64 (1 + (Int.tmod t155 9))) (Int.tmod t156 a3) y007_2 y008_2 y009_20 (wrap64 (x10_2 + (wrap64 (1 + (wrap64 (Int.tmod (rd l0 x11_2) 3)))))) t167 (rdOf ByteArray.empty y168 (Int.tmod (rd l0 (wrap64 (x11_2 + 2))) 3)) 0 0 false (⟨#[]⟩ : ByteArray) (Int.tmod (wrap64 (rd l0 (wrap64 (x11_2 + 2)))) 10)) else (roadsteadlaw10_Sub.j4 kj63 l0 a2 a3 (wrap64 (x10_2 + (wrap64 (1 + (wrap64 (Int.tmod (rd l0 x11_2) 3)))))) x11_2 a1 ((⟨#[110]⟩ : ByteArray) ++ t143) (rdOf ByteArray.empty y144 (ji9)) (rdOf ByteArray.empty y149 (ji13)) (wrap64 (1 + (wrap64 (t154 * 3)))) (wrap64 (1 + (Int.tmod t155 9))) (Int.tmod t156 a3) y007_2 y008_2 y009_20 (wrap64 (x10_2 + (wrap64 (1 + (wrap64 (Int.tmod (rd l0 x11_2) 3)))))) t167 (rdOf ByteArray.empty y168 (Int.tmod (rd l0 (wrap64 (x11_2 + 2))) 3)) 0 0 false (⟨#[]⟩ : ByteArray) 0)) else (none)) else (none)) else (none)) else (none)))) else (none)) else (none))) = some (r1, r2, r3, r4, r5, r6, r7, r8, r9, r10) := by rw [if_neg (show ¬ (false = true) by decide)] at H; exact H
         clear H
         have H := H1
         clear H1
         by_cases c76 : (y008_2.length : Int) = 30
         ·rw [if_pos c76] at H
          have c76b0 : ((y008_2.length : Int) == 30) = true := beq_iff_eq.mpr c76
          have c76b1 : ((y008_2.length : Int) != 30) = false := bne_eq_false_iff_eq.mpr c76
          clear c76
          simp only [Option.some.injEq, Prod.mk.injEq] at H
          obtain ⟨rfl, rfl, rfl, rfl, rfl, rfl, rfl, rfl, rfl, rfl⟩ := H
          have hnb77 := NB157_141.out
          have hnc77 := NB141_157.out
          have hcz78_0 : wc.cell? ⟨gb157, 0, none⟩ = some (.int .i64 a1) := (blk_cell BK157.out 0).trans rfl
          have hcz78_1 : wc.cell? ⟨gb157, 1, none⟩ = some (.string ((⟨#[110]⟩ : ByteArray) ++ t143)) := (blk_cell BK157.out 1).trans rfl
          have hcz78_2 : wc.cell? ⟨gb157, 2, none⟩ = some (.string (rdOf ByteArray.empty y144 (ji9))) := (blk_cell BK157.out 2).trans rfl
          have hcz78_3 : wc.cell? ⟨gb157, 3, none⟩ = some (.string (rdOf ByteArray.empty y149 (ji13))) := (blk_cell BK157.out 3).trans rfl
          have hcz78_4 : wc.cell? ⟨gb157, 4, none⟩ = some (.int .i64 (wrap64 (1 + (wrap64 (t154 * 3))))) := (blk_cell BK157.out 4).trans rfl
          have hcz78_5 : wc.cell? ⟨gb157, 5, none⟩ = some (.int .i64 (wrap64 (1 + (Int.tmod t155 9)))) := (blk_cell BK157.out 5).trans rfl
          have hcz78_6 : wc.cell? ⟨gb157, 6, none⟩ = some (.int .i64 (Int.tmod t156 a3)) := (blk_cell BK157.out 6).trans rfl
          have hcz78_7 : wc.cell? ⟨gb157, 7, none⟩ = some (z7) := (blk_cell BK157.out 7).trans rfl
          have hcz78_8 : wc.cell? ⟨gb157, 8, none⟩ = some (z8) := (blk_cell BK157.out 8).trans rfl
          have hcz78_9 : wc.cell? ⟨gb157, 9, none⟩ = some (.string y009_20) := (blk_cell BK157.out 9).trans rfl
          have hfz78_0 := blk_frozen BK157.out 0
          have hfz78_1 := blk_frozen BK157.out 1
          have hfz78_2 := blk_frozen BK157.out 2
          have hfz78_3 := blk_frozen BK157.out 3
          have hfz78_4 := blk_frozen BK157.out 4
          have hfz78_5 := blk_frozen BK157.out 5
          have hfz78_6 := blk_frozen BK157.out 6
          have hfz78_7 := blk_frozen BK157.out 7
          have hfz78_8 := blk_frozen BK157.out 8
          have hfz78_9 := blk_frozen BK157.out 9
          obtain ⟨Ao79, co79, eo79⟩ := Kd.R_slice P8.out
          subst eo79
          have hcz80_0 : wc.cell? ⟨gb141, 0, none⟩ = some (.int .i64 0) := (blk_cell BK141.out 0).trans rfl
          have hcz80_1 : wc.cell? ⟨gb141, 1, none⟩ = some (.string (⟨#[]⟩ : ByteArray)) := (blk_cell BK141.out 1).trans rfl
          have hcz80_2 : wc.cell? ⟨gb141, 2, none⟩ = some (.string (⟨#[]⟩ : ByteArray)) := (blk_cell BK141.out 2).trans rfl
          have hcz80_3 : wc.cell? ⟨gb141, 3, none⟩ = some (.string (⟨#[]⟩ : ByteArray)) := (blk_cell BK141.out 3).trans rfl
          have hcz80_4 : wc.cell? ⟨gb141, 4, none⟩ = some (.int .i64 0) := (blk_cell BK141.out 4).trans rfl
          have hcz80_5 : wc.cell? ⟨gb141, 5, none⟩ = some (.int .i64 0) := (blk_cell BK141.out 5).trans rfl
          have hcz80_6 : wc.cell? ⟨gb141, 6, none⟩ = some (.int .i64 0) := (blk_cell BK141.out 6).trans rfl
          have hcz80_7 : wc.cell? ⟨gb141, 7, none⟩ = some (.slice none 0 0) := (blk_cell BK141.out 7).trans rfl
          have hcz80_8 : wc.cell? ⟨gb141, 8, none⟩ = some (.slice none 0 0) := (blk_cell BK141.out 8).trans rfl
          have hcz80_9 : wc.cell? ⟨gb141, 9, none⟩ = some (.string (⟨#[]⟩ : ByteArray)) := (blk_cell BK141.out 9).trans rfl
          have hfz80_0 := blk_frozen BK141.out 0
          have hfz80_1 := blk_frozen BK141.out 1
          have hfz80_2 := blk_frozen BK141.out 2
          have hfz80_3 := blk_frozen BK141.out 3
          have hfz80_4 := blk_frozen BK141.out 4
          have hfz80_5 := blk_frozen BK141.out 5
          have hfz80_6 := blk_frozen BK141.out 6
          have hfz80_7 := blk_frozen BK141.out 7
          have hfz80_8 := blk_frozen BK141.out 8
          have hfz80_9 := blk_frozen BK141.out 9
          obtain ⟨Ao81, co81, eo81⟩ := Kd.R_slice P7.out
          subst eo81
          go_wp2
          refine bodyPost_ret (results_cell_row rfl _ _ gb141 46 #[.int .i64 a1, .string ((⟨#[110]⟩ : ByteArray) ++ t143), .string (rdOf ByteArray.empty y144 (ji9)), .string (rdOf ByteArray.empty y149 (ji13)), .int .i64 (wrap64 (1 + (wrap64 (t154 * 3)))), .int .i64 (wrap64 (1 + (Int.tmod t155 9))), .int .i64 (Int.tmod t156 a3), .slice Ao81 y007_2.length co81, .slice Ao79 y008_2.length co79, .string y009_20] (0, 0) _ rfl (by (with_reducible repeat (first | refine blk_drewN ?_ _ | refine blk_drew ?_ | refine blk_alloc ?_ _)); refine blk_put (cs := #[.int .i64 a1, .string ((⟨#[110]⟩ : ByteArray) ++ t143), .string (rdOf ByteArray.empty y144 (ji9)), .string (rdOf ByteArray.empty y149 (ji13)), .int .i64 (wrap64 (1 + (wrap64 (t154 * 3)))), .int .i64 (wrap64 (1 + (Int.tmod t155 9))), .int .i64 (Int.tmod t156 a3), .slice Ao81 y007_2.length co81, .slice Ao79 y008_2.length co79, .string (⟨#[]⟩ : ByteArray)]) ?_ 9 _ rfl; refine blk_put (cs := #[.int .i64 a1, .string ((⟨#[110]⟩ : ByteArray) ++ t143), .string (rdOf ByteArray.empty y144 (ji9)), .string (rdOf ByteArray.empty y149 (ji13)), .int .i64 (wrap64 (1 + (wrap64 (t154 * 3)))), .int .i64 (wrap64 (1 + (Int.tmod t155 9))), .int .i64 (Int.tmod t156 a3), .slice Ao81 y007_2.length co81, .slice none 0 0, .string (⟨#[]⟩ : ByteArray)]) ?_ 8 _ rfl; refine blk_put (cs := #[.int .i64 a1, .string ((⟨#[110]⟩ : ByteArray) ++ t143), .string (rdOf ByteArray.empty y144 (ji9)), .string (rdOf ByteArray.empty y149 (ji13)), .int .i64 (wrap64 (1 + (wrap64 (t154 * 3)))), .int .i64 (wrap64 (1 + (Int.tmod t155 9))), .int .i64 (Int.tmod t156 a3), .slice none 0 0, .slice none 0 0, .string (⟨#[]⟩ : ByteArray)]) ?_ 7 _ rfl; refine blk_put (cs := #[.int .i64 a1, .string ((⟨#[110]⟩ : ByteArray) ++ t143), .string (rdOf ByteArray.empty y144 (ji9)), .string (rdOf ByteArray.empty y149 (ji13)), .int .i64 (wrap64 (1 + (wrap64 (t154 * 3)))), .int .i64 (wrap64 (1 + (Int.tmod t155 9))), .int .i64 0, .slice none 0 0, .slice none 0 0, .string (⟨#[]⟩ : ByteArray)]) ?_ 6 _ rfl; refine blk_put (cs := #[.int .i64 a1, .string ((⟨#[110]⟩ : ByteArray) ++ t143), .string (rdOf ByteArray.empty y144 (ji9)), .string (rdOf ByteArray.empty y149 (ji13)), .int .i64 (wrap64 (1 + (wrap64 (t154 * 3)))), .int .i64 0, .int .i64 0, .slice none 0 0, .slice none 0 0, .string (⟨#[]⟩ : ByteArray)]) ?_ 5 _ rfl; refine blk_put (cs := #[.int .i64 a1, .string ((⟨#[110]⟩ : ByteArray) ++ t143), .string (rdOf ByteArray.empty y144 (ji9)), .string (rdOf ByteArray.empty y149 (ji13)), .int .i64 0, .int .i64 0, .int .i64 0, .slice none 0 0, .slice none 0 0, .string (⟨#[]⟩ : ByteArray)]) ?_ 4 _ rfl; refine blk_put (cs := #[.int .i64 a1, .string ((⟨#[110]⟩ : ByteArray) ++ t143), .string (rdOf ByteArray.empty y144 (ji9)), .string (⟨#[]⟩ : ByteArray), .int .i64 0, .int .i64 0, .int .i64 0, .slice none 0 0, .slice none 0 0, .string (⟨#[]⟩ : ByteArray)]) ?_ 3 _ rfl; refine blk_put (cs := #[.int .i64 a1, .string ((⟨#[110]⟩ : ByteArray) ++ t143), .string (⟨#[]⟩ : ByteArray), .string (⟨#[]⟩ : ByteArray), .int .i64 0, .int .i64 0, .int .i64 0, .slice none 0 0, .slice none 0 0, .string (⟨#[]⟩ : ByteArray)]) ?_ 2 _ rfl; refine blk_put (cs := #[.int .i64 a1, .string (⟨#[]⟩ : ByteArray), .string (⟨#[]⟩ : ByteArray), .string (⟨#[]⟩ : ByteArray), .int .i64 0, .int .i64 0, .int .i64 0, .slice none 0 0, .slice none 0 0, .string (⟨#[]⟩ : ByteArray)]) ?_ 1 _ rfl; refine blk_put (cs := #[.int .i64 0, .string (⟨#[]⟩ : ByteArray), .string (⟨#[]⟩ : ByteArray), .string (⟨#[]⟩ : ByteArray), .int .i64 0, .int .i64 0, .int .i64 0, .slice none 0 0, .slice none 0 0, .string (⟨#[]⟩ : ByteArray)]) ?_ 0 _ rfl; exact BK141.out) Try.underlying46 rfl (by kernel_rfl)) rfl ?_
          exact ⟨_, _, by first | rfl | (simp [errW_none, errW_some] <;> rfl) | (simp only [← hji9, ← hji13]; first | rfl | (simp [errW_none, errW_some] <;> rfl)) | (simp [*, errW_none, errW_some] <;> rfl), by (with_reducible repeat (first | apply Kd.R_alloc | apply Kd.R_drewN | apply Kd.R_drew)); exact Kd.R_mono (Kd.R_far (p := ⟨gb141, 9, none⟩) (Kd.R_far (p := ⟨gb141, 8, none⟩) (Kd.R_far (p := ⟨gb141, 7, none⟩) (Kd.R_far (p := ⟨gb141, 6, none⟩) (Kd.R_far (p := ⟨gb141, 5, none⟩) (Kd.R_far (p := ⟨gb141, 4, none⟩) (Kd.R_far (p := ⟨gb141, 3, none⟩) (Kd.R_far (p := ⟨gb141, 2, none⟩) (Kd.R_far (p := ⟨gb141, 1, none⟩) (Kd.R_far (p := ⟨gb141, 0, none⟩) (Kd.R_types P7.out BK141.out (by decide)) (fun _ hk => hk.2) (.int .i64 a1)) (fun _ hk => hk.2) (.string ((⟨#[110]⟩ : ByteArray) ++ t143))) (fun _ hk => hk.2) (.string (rdOf ByteArray.empty y144 (ji9)))) (fun _ hk => hk.2) (.string (rdOf ByteArray.empty y149 (ji13)))) (fun _ hk => hk.2) (.int .i64 (wrap64 (1 + (wrap64 (t154 * 3)))))) (fun _ hk => hk.2) (.int .i64 (wrap64 (1 + (Int.tmod t155 9))))) (fun _ hk => hk.2) (.int .i64 (Int.tmod t156 a3))) (fun _ hk => hk.2) (.slice Ao81 y007_2.length co81)) (fun _ hk => hk.2) (.slice Ao79 y008_2.length co79)) (fun _ hk => hk.2) (.string y009_20)) (fun _ hk => trivial), by (with_reducible repeat (first | apply Kd.R_alloc | apply Kd.R_drewN | apply Kd.R_drew)); exact Kd.R_mono (Kd.R_far (p := ⟨gb141, 9, none⟩) (Kd.R_far (p := ⟨gb141, 8, none⟩) (Kd.R_far (p := ⟨gb141, 7, none⟩) (Kd.R_far (p := ⟨gb141, 6, none⟩) (Kd.R_far (p := ⟨gb141, 5, none⟩) (Kd.R_far (p := ⟨gb141, 4, none⟩) (Kd.R_far (p := ⟨gb141, 3, none⟩) (Kd.R_far (p := ⟨gb141, 2, none⟩) (Kd.R_far (p := ⟨gb141, 1, none⟩) (Kd.R_far (p := ⟨gb141, 0, none⟩) (Kd.R_types P8.out BK141.out (by decide)) (fun _ hk => hk.2) (.int .i64 a1)) (fun _ hk => hk.2) (.string ((⟨#[110]⟩ : ByteArray) ++ t143))) (fun _ hk => hk.2) (.string (rdOf ByteArray.empty y144 (ji9)))) (fun _ hk => hk.2) (.string (rdOf ByteArray.empty y149 (ji13)))) (fun _ hk => hk.2) (.int .i64 (wrap64 (1 + (wrap64 (t154 * 3)))))) (fun _ hk => hk.2) (.int .i64 (wrap64 (1 + (Int.tmod t155 9))))) (fun _ hk => hk.2) (.int .i64 (Int.tmod t156 a3))) (fun _ hk => hk.2) (.slice Ao81 y007_2.length co81)) (fun _ hk => hk.2) (.slice Ao79 y008_2.length co79)) (fun _ hk => hk.2) (.string y009_20)) (fun _ hk => trivial), by repeat (with_reducible first | exact HB.out | apply below_alloc | apply pw_below_drewN | apply below_drew1 | refine below_set ?_ GE141.out | refine below_set ?_ GE157.out)⟩
         ·rw [if_neg c76] at H
          have c76b0 : ((y008_2.length : Int) == 30) = false := beq_eq_false_iff_ne.mpr c76
          have c76b1 : ((y008_2.length : Int) != 30) = true := bne_iff_ne.mpr c76
          obtain ⟨ji82, hji82⟩ : ∃ j_ : Int, (wrap64 (x11_2 + 1)) = j_ := ⟨_, rfl⟩
          replace H : (if 0 ≤ (ji82) then (if (ji82) < (l0.length : Int) then ((roadsteadlaw10_text.f kj63 (wrap64 (rd l0 (ji82))) 60).bind fun t167 => ((some (([(⟨#[]⟩ : ByteArray), (⟨#[97, 61, 49]⟩ : ByteArray), (⟨#[98, 61, 50]⟩ : ByteArray)] : List ByteArray) : List ByteArray)).bind fun y168 => (if 0 ≤ (wrap64 (x11_2 + 2)) then (if (wrap64 (x11_2 + 2)) < (l0.length : Int) then (if 0 ≤ (Int.tmod (rd l0 (wrap64 (x11_2 + 2))) 3) then (if (Int.tmod (rd l0 (wrap64 (x11_2 + 2))) 3) < (y168.length : Int) then (if (rd l0 (wrap64 (x11_2 + 2))) > 128 then (roadsteadlaw10_Sub.j4 kj63 l0 a2 a3 (wrap64 (x10_2 + (wrap64 (1 + (wrap64 (Int.tmod (rd l0 x11_2) 3)))))) x11_2 a1 ((⟨#[110]⟩ : ByteArray) ++ t143) (rdOf ByteArray.empty y144 (ji9)) (rdOf ByteArray.empty y149 (ji13)) (wrap64 (1 + (wrap64 (t154 * 3)))) (wrap64 (1 + (Int.tmod t155 9))) (Int.tmod t156 a3) y007_2 y008_2 y009_20 (wrap64 (x10_2 + (wrap64 (1 + (wrap64 (Int.tmod (rd l0 x11_2) 3)))))) t167 (rdOf ByteArray.empty y168 (Int.tmod (rd l0 (wrap64 (x11_2 + 2))) 3)) 0 0 false (⟨#[]⟩ : ByteArray) (Int.tmod (wrap64 (rd l0 (wrap64 (x11_2 + 2)))) 10)) else (roadsteadlaw10_Sub.j4 kj63 l0 a2 a3 (wrap64 (x10_2 + (wrap64 (1 + (wrap64 (Int.tmod (rd l0 x11_2) 3)))))) x11_2 a1 ((⟨#[110]⟩ : ByteArray) ++ t143) (rdOf ByteArray.empty y144 (ji9)) (rdOf ByteArray.empty y149 (ji13)) (wrap64 (1 + (wrap64 (t154 * 3)))) (wrap64 (1 + (Int.tmod t155 9))) (Int.tmod t156 a3) y007_2 y008_2 y009_20 (wrap64 (x10_2 + (wrap64 (1 + (wrap64 (Int.tmod (rd l0 x11_2) 3)))))) t167 (rdOf ByteArray.empty y168 (Int.tmod (rd l0 (wrap64 (x11_2 + 2))) 3)) 0 0 false (⟨#[]⟩ : ByteArray) 0)) else (none)) else (none)) else (none)) else (none)))) else (none)) else (none)) = some (r1, r2, r3, r4, r5, r6, r7, r8, r9, r10) := by first | (rw [hji82] at H; exact H) | (simp only [hji82] at H ⊢; exact H)
          have hji82w : (IntKind.i64.wrap (x11_2 + 1)) = ji82 := (i64_w _).trans hji82
          by_cases c83 : 0 ≤ (ji82)
          ·rw [if_pos c83] at H
           have c83b0 : decide (0 ≤ (ji82)) = true := decide_eq_true c83
           clear c83
           by_cases c84 : (ji82) < (l0.length : Int)
           ·rw [if_pos c84] at H
            have c84b0 : decide ((ji82) < (l0.length : Int)) = true := decide_eq_true c84
            clear c84
            replace H := Option.bind_eq_some_iff.mp H
            obtain ⟨t167, A850, H⟩ := H
            replace H : ((some (([(⟨#[]⟩ : ByteArray), (⟨#[97, 61, 49]⟩ : ByteArray), (⟨#[98, 61, 50]⟩ : ByteArray)] : List ByteArray) : List ByteArray)).bind fun y168 => (if 0 ≤ (wrap64 (x11_2 + 2)) then (if (wrap64 (x11_2 + 2)) < (l0.length : Int) then (if 0 ≤ (Int.tmod (rd l0 (wrap64 (x11_2 + 2))) 3) then (if (Int.tmod (rd l0 (wrap64 (x11_2 + 2))) 3) < (y168.length : Int) then (if (rd l0 (wrap64 (x11_2 + 2))) > 128 then (roadsteadlaw10_Sub.j4 kj63 l0 a2 a3 (wrap64 (x10_2 + (wrap64 (1 + (wrap64 (Int.tmod (rd l0 x11_2) 3)))))) x11_2 a1 ((⟨#[110]⟩ : ByteArray) ++ t143) (rdOf ByteArray.empty y144 (ji9)) (rdOf ByteArray.empty y149 (ji13)) (wrap64 (1 + (wrap64 (t154 * 3)))) (wrap64 (1 + (Int.tmod t155 9))) (Int.tmod t156 a3) y007_2 y008_2 y009_20 (wrap64 (x10_2 + (wrap64 (1 + (wrap64 (Int.tmod (rd l0 x11_2) 3)))))) t167 (rdOf ByteArray.empty y168 (Int.tmod (rd l0 (wrap64 (x11_2 + 2))) 3)) 0 0 false (⟨#[]⟩ : ByteArray) (Int.tmod (wrap64 (rd l0 (wrap64 (x11_2 + 2)))) 10)) else (roadsteadlaw10_Sub.j4 kj63 l0 a2 a3 (wrap64 (x10_2 + (wrap64 (1 + (wrap64 (Int.tmod (rd l0 x11_2) 3)))))) x11_2 a1 ((⟨#[110]⟩ : ByteArray) ++ t143) (rdOf ByteArray.empty y144 (ji9)) (rdOf ByteArray.empty y149 (ji13)) (wrap64 (1 + (wrap64 (t154 * 3)))) (wrap64 (1 + (Int.tmod t155 9))) (Int.tmod t156 a3) y007_2 y008_2 y009_20 (wrap64 (x10_2 + (wrap64 (1 + (wrap64 (Int.tmod (rd l0 x11_2) 3)))))) t167 (rdOf ByteArray.empty y168 (Int.tmod (rd l0 (wrap64 (x11_2 + 2))) 3)) 0 0 false (⟨#[]⟩ : ByteArray) 0)) else (none)) else (none)) else (none)) else (none))) = some (r1, r2, r3, r4, r5, r6, r7, r8, r9, r10) := H
            have A85 := Aside0.mk A850
            clear A850
            obtain ⟨y168, hy168⟩ : ∃ y_ : List ByteArray, y_ = (([(⟨#[]⟩ : ByteArray), (⟨#[97, 61, 49]⟩ : ByteArray), (⟨#[98, 61, 50]⟩ : ByteArray)] : List ByteArray)) := ⟨_, rfl⟩
            replace H : (if 0 ≤ (wrap64 (x11_2 + 2)) then (if (wrap64 (x11_2 + 2)) < (l0.length : Int) then (if 0 ≤ (Int.tmod (rd l0 (wrap64 (x11_2 + 2))) 3) then (if (Int.tmod (rd l0 (wrap64 (x11_2 + 2))) 3) < (y168.length : Int) then (if (rd l0 (wrap64 (x11_2 + 2))) > 128 then (roadsteadlaw10_Sub.j4 kj63 l0 a2 a3 (wrap64 (x10_2 + (wrap64 (1 + (wrap64 (Int.tmod (rd l0 x11_2) 3)))))) x11_2 a1 ((⟨#[110]⟩ : ByteArray) ++ t143) (rdOf ByteArray.empty y144 (ji9)) (rdOf ByteArray.empty y149 (ji13)) (wrap64 (1 + (wrap64 (t154 * 3)))) (wrap64 (1 + (Int.tmod t155 9))) (Int.tmod t156 a3) y007_2 y008_2 y009_20 (wrap64 (x10_2 + (wrap64 (1 + (wrap64 (Int.tmod (rd l0 x11_2) 3)))))) t167 (rdOf ByteArray.empty y168 (Int.tmod (rd l0 (wrap64 (x11_2 + 2))) 3)) 0 0 false (⟨#[]⟩ : ByteArray) (Int.tmod (wrap64 (rd l0 (wrap64 (x11_2 + 2)))) 10)) else (roadsteadlaw10_Sub.j4 kj63 l0 a2 a3 (wrap64 (x10_2 + (wrap64 (1 + (wrap64 (Int.tmod (rd l0 x11_2) 3)))))) x11_2 a1 ((⟨#[110]⟩ : ByteArray) ++ t143) (rdOf ByteArray.empty y144 (ji9)) (rdOf ByteArray.empty y149 (ji13)) (wrap64 (1 + (wrap64 (t154 * 3)))) (wrap64 (1 + (Int.tmod t155 9))) (Int.tmod t156 a3) y007_2 y008_2 y009_20 (wrap64 (x10_2 + (wrap64 (1 + (wrap64 (Int.tmod (rd l0 x11_2) 3)))))) t167 (rdOf ByteArray.empty y168 (Int.tmod (rd l0 (wrap64 (x11_2 + 2))) 3)) 0 0 false (⟨#[]⟩ : ByteArray) 0)) else (none)) else (none)) else (none)) else (none)) = some (r1, r2, r3, r4, r5, r6, r7, r8, r9, r10) := by first | (rw [hy168]; with_reducible exact H) | (have H2_ := (Option.bind_some _ _).symm.trans H; rw [hy168]; with_reducible exact H2_) | (have H2_ := (Option.bind_some _ _).symm.trans H; with_reducible exact H2_) | with_reducible exact H | (rw [hy168]; exact H) | exact H
            have Ny168 := Aside0.mk hy168
            clear hy168
            obtain ⟨ji86, hji86⟩ : ∃ j_ : Int, (wrap64 (x11_2 + 2)) = j_ := ⟨_, rfl⟩
            replace H : (if 0 ≤ (ji86) then (if (ji86) < (l0.length : Int) then (if 0 ≤ (Int.tmod (rd l0 (ji86)) 3) then (if (Int.tmod (rd l0 (ji86)) 3) < (y168.length : Int) then (if (rd l0 (ji86)) > 128 then (roadsteadlaw10_Sub.j4 kj63 l0 a2 a3 (wrap64 (x10_2 + (wrap64 (1 + (wrap64 (Int.tmod (rd l0 x11_2) 3)))))) x11_2 a1 ((⟨#[110]⟩ : ByteArray) ++ t143) (rdOf ByteArray.empty y144 (ji9)) (rdOf ByteArray.empty y149 (ji13)) (wrap64 (1 + (wrap64 (t154 * 3)))) (wrap64 (1 + (Int.tmod t155 9))) (Int.tmod t156 a3) y007_2 y008_2 y009_20 (wrap64 (x10_2 + (wrap64 (1 + (wrap64 (Int.tmod (rd l0 x11_2) 3)))))) t167 (rdOf ByteArray.empty y168 (Int.tmod (rd l0 (ji86)) 3)) 0 0 false (⟨#[]⟩ : ByteArray) (Int.tmod (wrap64 (rd l0 (ji86))) 10)) else (roadsteadlaw10_Sub.j4 kj63 l0 a2 a3 (wrap64 (x10_2 + (wrap64 (1 + (wrap64 (Int.tmod (rd l0 x11_2) 3)))))) x11_2 a1 ((⟨#[110]⟩ : ByteArray) ++ t143) (rdOf ByteArray.empty y144 (ji9)) (rdOf ByteArray.empty y149 (ji13)) (wrap64 (1 + (wrap64 (t154 * 3)))) (wrap64 (1 + (Int.tmod t155 9))) (Int.tmod t156 a3) y007_2 y008_2 y009_20 (wrap64 (x10_2 + (wrap64 (1 + (wrap64 (Int.tmod (rd l0 x11_2) 3)))))) t167 (rdOf ByteArray.empty y168 (Int.tmod (rd l0 (ji86)) 3)) 0 0 false (⟨#[]⟩ : ByteArray) 0)) else (none)) else (none)) else (none)) else (none)) = some (r1, r2, r3, r4, r5, r6, r7, r8, r9, r10) := by first | (rw [hji86] at H; exact H) | (simp only [hji86] at H ⊢; exact H)
            (try rw [hji86] at A85)
            have hji86w : (IntKind.i64.wrap (x11_2 + 2)) = ji86 := (i64_w _).trans hji86
            by_cases c87 : 0 ≤ (ji86)
            ·rw [if_pos c87] at H
             have c87b0 : decide (0 ≤ (ji86)) = true := decide_eq_true c87
             clear c87
             by_cases c88 : (ji86) < (l0.length : Int)
             ·rw [if_pos c88] at H
              have c88b0 : decide ((ji86) < (l0.length : Int)) = true := decide_eq_true c88
              clear c88
              obtain ⟨ji89, hji89⟩ : ∃ j_ : Int, (Int.tmod (rd l0 (ji86)) 3) = j_ := ⟨_, rfl⟩
              replace H : (if 0 ≤ (ji89) then (if (ji89) < (y168.length : Int) then (if (rd l0 (ji86)) > 128 then (roadsteadlaw10_Sub.j4 kj63 l0 a2 a3 (wrap64 (x10_2 + (wrap64 (1 + (wrap64 (Int.tmod (rd l0 x11_2) 3)))))) x11_2 a1 ((⟨#[110]⟩ : ByteArray) ++ t143) (rdOf ByteArray.empty y144 (ji9)) (rdOf ByteArray.empty y149 (ji13)) (wrap64 (1 + (wrap64 (t154 * 3)))) (wrap64 (1 + (Int.tmod t155 9))) (Int.tmod t156 a3) y007_2 y008_2 y009_20 (wrap64 (x10_2 + (wrap64 (1 + (wrap64 (Int.tmod (rd l0 x11_2) 3)))))) t167 (rdOf ByteArray.empty y168 (ji89)) 0 0 false (⟨#[]⟩ : ByteArray) (Int.tmod (wrap64 (rd l0 (ji86))) 10)) else (roadsteadlaw10_Sub.j4 kj63 l0 a2 a3 (wrap64 (x10_2 + (wrap64 (1 + (wrap64 (Int.tmod (rd l0 x11_2) 3)))))) x11_2 a1 ((⟨#[110]⟩ : ByteArray) ++ t143) (rdOf ByteArray.empty y144 (ji9)) (rdOf ByteArray.empty y149 (ji13)) (wrap64 (1 + (wrap64 (t154 * 3)))) (wrap64 (1 + (Int.tmod t155 9))) (Int.tmod t156 a3) y007_2 y008_2 y009_20 (wrap64 (x10_2 + (wrap64 (1 + (wrap64 (Int.tmod (rd l0 x11_2) 3)))))) t167 (rdOf ByteArray.empty y168 (ji89)) 0 0 false (⟨#[]⟩ : ByteArray) 0)) else (none)) else (none)) = some (r1, r2, r3, r4, r5, r6, r7, r8, r9, r10) := by first | (rw [hji89] at H; exact H) | (simp only [hji89] at H ⊢; exact H)
              (try rw [hji89] at A85)
              by_cases c90 : 0 ≤ (ji89)
              ·rw [if_pos c90] at H
               have c90b0 : decide (0 ≤ (ji89)) = true := decide_eq_true c90
               clear c90
               by_cases c91 : (ji89) < (y168.length : Int)
               ·rw [if_pos c91] at H
                have c91b0 : decide ((ji89) < (y168.length : Int)) = true := decide_eq_true c91
                clear c91
                have HC92 := Aside0.mk H
                clear H
                have hnb93 := NB157_141.out
                have hnc93 := NB141_157.out
                have hcz94_0 : wc.cell? ⟨gb157, 0, none⟩ = some (.int .i64 a1) := (blk_cell BK157.out 0).trans rfl
                have hcz94_1 : wc.cell? ⟨gb157, 1, none⟩ = some (.string ((⟨#[110]⟩ : ByteArray) ++ t143)) := (blk_cell BK157.out 1).trans rfl
                have hcz94_2 : wc.cell? ⟨gb157, 2, none⟩ = some (.string (rdOf ByteArray.empty y144 (ji9))) := (blk_cell BK157.out 2).trans rfl
                have hcz94_3 : wc.cell? ⟨gb157, 3, none⟩ = some (.string (rdOf ByteArray.empty y149 (ji13))) := (blk_cell BK157.out 3).trans rfl
                have hcz94_4 : wc.cell? ⟨gb157, 4, none⟩ = some (.int .i64 (wrap64 (1 + (wrap64 (t154 * 3))))) := (blk_cell BK157.out 4).trans rfl
                have hcz94_5 : wc.cell? ⟨gb157, 5, none⟩ = some (.int .i64 (wrap64 (1 + (Int.tmod t155 9)))) := (blk_cell BK157.out 5).trans rfl
                have hcz94_6 : wc.cell? ⟨gb157, 6, none⟩ = some (.int .i64 (Int.tmod t156 a3)) := (blk_cell BK157.out 6).trans rfl
                have hcz94_7 : wc.cell? ⟨gb157, 7, none⟩ = some (z7) := (blk_cell BK157.out 7).trans rfl
                have hcz94_8 : wc.cell? ⟨gb157, 8, none⟩ = some (z8) := (blk_cell BK157.out 8).trans rfl
                have hcz94_9 : wc.cell? ⟨gb157, 9, none⟩ = some (.string y009_20) := (blk_cell BK157.out 9).trans rfl
                have hfz94_0 := blk_frozen BK157.out 0
                have hfz94_1 := blk_frozen BK157.out 1
                have hfz94_2 := blk_frozen BK157.out 2
                have hfz94_3 := blk_frozen BK157.out 3
                have hfz94_4 := blk_frozen BK157.out 4
                have hfz94_5 := blk_frozen BK157.out 5
                have hfz94_6 := blk_frozen BK157.out 6
                have hfz94_7 := blk_frozen BK157.out 7
                have hfz94_8 := blk_frozen BK157.out 8
                have hfz94_9 := blk_frozen BK157.out 9
                obtain ⟨Ao95, co95, eo95⟩ := Kd.R_slice P8.out
                subst eo95
                try go_wp2
                have pi172 : (0 ≤ ((ji89) : Int)) = True := eq_true (of_decide_eq_true (by first | (with_reducible assumption) | assumption))
                have qi172 : ((ji89) < (y168.length : Int)) = True := eq_true (of_decide_eq_true (by first | (with_reducible assumption) | assumption))
                have p166 : 0 ≤ ((ji82) : Int) := of_decide_eq_true (by first | (with_reducible assumption) | assumption)
                have q166 : (ji82) < (l0.length : Int) := of_decide_eq_true (by first | (with_reducible assumption) | assumption)
                obtain ⟨ad166, e166, hx166_0⟩ := Kd.at_int HR0.out (ji82) p166 q166
                have hw166_0 := hx166_0
                obtain rfl : ad161 = ad166 := (by injection e166)
                replace hx166_0 := (HB.out.cell (World.block_lt_of_cell? w _ hx166_0)).trans hx166_0
                replace p166 := eq_true p166
                replace q166 := eq_true q166
                have p171 : 0 ≤ ((ji86) : Int) := of_decide_eq_true (by first | (with_reducible assumption) | assumption)
                have q171 : (ji86) < (l0.length : Int) := of_decide_eq_true (by first | (with_reducible assumption) | assumption)
                obtain ⟨ad171, e171, hx171_0⟩ := Kd.at_int HR0.out (ji86) p171 q171
                have hw171_0 := hx171_0
                obtain rfl : ad161 = ad171 := (by injection e171)
                replace hx171_0 := (HB.out.cell (World.block_lt_of_cell? w _ hx171_0)).trans hx171_0
                replace p171 := eq_true p171
                replace q171 := eq_true q171
                have hs1_ := lit_at y168 (ji89) (of_decide_eq_true c90b0) (of_decide_eq_true c91b0)
                have hy1_ : y168.length = 3 := by rw [Ny168.out]; rfl
                have hb1_ := of_decide_eq_true c90b0
                have hb2_ := of_decide_eq_true c91b0
                have hn1_ : Int.tmod (rd l0 (ji86)) 3 = ((ji89.toNat : Nat) : Int) := by rw [hji89]; omega
                have hm1_ : ji89.toNat < 3 := by omega
                have hmi_ : (((ji89.toNat : Nat) : Int) < 3) = True := eq_true (by omega)
                have hw1_ := block_lt_of_cell hx166_0
                have hw2_ := block_lt_of_cell hx171_0
                have hx1_ := Aside0.mk hx166_0
                have hx2_ := Aside0.mk hx171_0
                refine sub_r13 ad161 c0 l0 kj63 (wrap64 (x10_2 + (wrap64 (1 + (wrap64 (Int.tmod (rd l0 x11_2) 3)))))) x11_2 ji82 ji86 (rd l0 (ji82)) (rd l0 (ji86)) t167 _ ji89.toNat wc _ _ _ _ _ _ _ _ _ _ _ _ _ _ _ _ _ _ _ _ _ _ _ _ _ _ _ _ _ _ _ _ _ _ _ _ _ _ _ _ _ _ _ _ _ _ _ _ _ _ _ _ _ _ _ _ _ _ _ _ _ _ _ _ _ _ _ _ _ _ _ _ _ _ _ _ _ _ _ _ _ _ _ _ _ _ _ _ _ _ _ _ _ _ _ _ _ _ _ _ _ _ _ _ _ _ _ _ _ _ _ _ _ _ _ _ _ _ _ _ _ _ _ _ _ _ _ _ _ _ _ _ _ _ _ _ _ _ _ _ _ _ _ _ _ _ _ _ _ _ _ _ _ _ _ _ _ _ _ _ _ _ _ _ _ _ _ _ _ _ _ _ _ _ _ _ _ _ _ _ _ _ _ _ _ _ _ _ _ _ _ _ _ A85 hji82 hji82w hji86 hji86w p166 q166 p171 q171 ⟨fun w' hb_ => (hb_.cell hw1_).trans hx1_.out⟩ ⟨fun w' hb_ => (hb_.cell hw2_).trans hx2_.out⟩ hn1_ hm1_ hmi_ (by rw [← hs1_, Ny168.out]; rfl) (fun _ _ d_ _ _ h => by cases d_ <;> exact h) ⟨fun _ _ _ _ _ _ _ _ _ _ _ _ _ _ _ _ _ _ gb173 w102 hge_ hbel_ hrow_ => ?_⟩
                have hx174_0 : w102.cell? (ad161.add ((ji86)).toNat) = some (.int .u8 (rd l0 (ji86))) := (hbel_.cell hw2_).trans hx2_.out
                clear hs1_ hy1_ hb1_ hb2_ hn1_ hm1_ hmi_ hw1_ hw2_ hx1_ hx2_ hx166_0 hx171_0
                have hlt_ := (Array.getElem?_eq_some_iff.1 BK141.out).1
                have hlu_ := (Array.getElem?_eq_some_iff.1 BK157.out).1
                have GE173 := Aside0.mk (Nat.le_trans HB.out.size hge_)
                have GW173 := GE173
                have NB141_173 := Aside0.mk (Nat.ne_of_lt (Nat.lt_of_lt_of_le hlt_ hge_))
                have NB173_141 := Aside0.mk (Nat.ne_of_gt (Nat.lt_of_lt_of_le hlt_ hge_))
                have NB157_173 := Aside0.mk (Nat.ne_of_lt (Nat.lt_of_lt_of_le hlu_ hge_))
                have NB173_157 := Aside0.mk (Nat.ne_of_gt (Nat.lt_of_lt_of_le hlu_ hge_))
                have n0_ := Aside0.mk (Kd.R_below P7.out hbel_)
                have n1_ := Aside0.mk (Kd.R_below (Kd.R_mono (Kd.R_elderB P8.out gb173 hge_) (fun _ hk => hk.2)) hbel_)
                have n2_ := Aside0.mk ((hbel_.block _ hlt_).trans BK141.out)
                have n3_ := Aside0.mk ((hbel_.block _ hlu_).trans BK157.out)
                have n4_ := Aside0.mk (below_step HB.out hbel_)
                have BK173 := Aside0.mk hrow_
                clear P7 P8 BK141 BK157 HB hge_ hbel_ hrow_ hlt_ hlu_
                have P7 := n0_
                have P8 := n1_
                have BK141 := n2_
                have BK157 := n3_
                have HB := n4_
                clear n0_ n1_ n2_ n3_ n4_
                go_upto_if 120 with (fail)
                go_cut [] (fun wc => ∃ (kq : Nat) (x174007_91 : Int), Aside0 (roadsteadlaw10_Sub.j4 kq l0 a2 a3 (wrap64 (x10_2 + (wrap64 (1 + (wrap64 (Int.tmod (rd l0 x11_2) 3)))))) x11_2 a1 ((⟨#[110]⟩ : ByteArray) ++ t143) (rdOf ByteArray.empty y144 (ji9)) (rdOf ByteArray.empty y149 (ji13)) (wrap64 (1 + (wrap64 (t154 * 3)))) (wrap64 (1 + (Int.tmod t155 9))) (Int.tmod t156 a3) y007_2 y008_2 y009_20 (wrap64 (x10_2 + (wrap64 (1 + (wrap64 (Int.tmod (rd l0 x11_2) 3)))))) t167 (rdOf ByteArray.empty y168 (ji89)) 0 0 false (⟨#[]⟩ : ByteArray) x174007_91 = some (r1, r2, r3, r4, r5, r6, r7, r8, r9, r10)) ∧ Aside0 (kq ≤ kj63) ∧ Aside0 (Kd.R (Kd.int .i64) 3 wc w.heap.size (fun _ => True) z7 y007_2) ∧ Aside0 (Kd.R k68 68 wc w.heap.size (fun k_ => k_ ≠ gb173) (.slice Ao95 y008_2.length co95) y008_2) ∧ Aside0 (wc.heap[gb141]? = some (.cells #[.int .i64 0, .string (⟨#[]⟩ : ByteArray), .string (⟨#[]⟩ : ByteArray), .string (⟨#[]⟩ : ByteArray), .int .i64 0, .int .i64 0, .int .i64 0, (.slice none 0 0), (.slice none 0 0), .string (⟨#[]⟩ : ByteArray)] 46 (0, 0))) ∧ Aside0 (wc.heap[gb157]? = some (.cells #[.int .i64 a1, .string ((⟨#[110]⟩ : ByteArray) ++ t143), .string (rdOf ByteArray.empty y144 (ji9)), .string (rdOf ByteArray.empty y149 (ji13)), .int .i64 (wrap64 (1 + (wrap64 (t154 * 3)))), .int .i64 (wrap64 (1 + (Int.tmod t155 9))), .int .i64 (Int.tmod t156 a3), z7, (.slice Ao95 y008_2.length co95), .string y009_20] 46 (0, 0))) ∧ Aside0 (wc.heap[gb173]? = some (.cells #[.int .i64 (wrap64 (x10_2 + (wrap64 (1 + (wrap64 (Int.tmod (rd l0 x11_2) 3)))))), .string t167, .string (rdOf ByteArray.empty y168 (ji89)), .int .i64 0, .int .i64 0, .bool false, .string (⟨#[]⟩ : ByteArray), .int .i64 x174007_91] 68 (0, 0))) ∧ Aside0 (Below w.heap.size w wc))
                case first =>
                 have H := HC92.out
                 clear HC92
                 by_cases c112 : (rd l0 (ji86)) > 128
                 ·rw [if_pos c112] at H
                  have c112b0 : decide (128 < (rd l0 (ji86))) = true := decide_eq_true c112
                  clear c112
                  (first | rw [c112b0] | (simp only [i64_w, i32_w]; rw [c112b0]) | skip)
                  have H' := Aside0.mk H
                  clear H
                  have p175 : 0 ≤ ((ji86) : Int) := of_decide_eq_true (by first | (with_reducible assumption) | assumption)
                  have q175 : (ji86) < (l0.length : Int) := of_decide_eq_true (by first | (with_reducible assumption) | assumption)
                  obtain ⟨ad175, e175, hx175_0⟩ := Kd.at_int HR0.out (ji86) p175 q175
                  obtain rfl : ad161 = ad175 := (by injection e175)
                  have hn175_0 : ad161.block ≠ gb173 := Nat.ne_of_lt (Nat.lt_of_lt_of_le (by have := World.block_lt_of_cell? _ _ hx175_0; first | rwa [add_block] at this | exact this) GW173.out)
                  have hn175_1 : ad161.block ≠ gb173 := Nat.ne_of_lt (Nat.lt_of_lt_of_le (by have := World.block_lt_of_cell? _ _ hx175_0; first | rwa [add_block] at this | exact this) GW173.out)
                  have hn175_2 : ad161.block ≠ gb173 := Nat.ne_of_lt (Nat.lt_of_lt_of_le (by have := World.block_lt_of_cell? _ _ hx175_0; first | rwa [add_block] at this | exact this) GW173.out)
                  have hn175_3 : ad161.block ≠ gb173 := Nat.ne_of_lt (Nat.lt_of_lt_of_le (by have := World.block_lt_of_cell? _ _ hx175_0; first | rwa [add_block] at this | exact this) GW173.out)
                  have hn175_4 : ad161.block ≠ gb173 := Nat.ne_of_lt (Nat.lt_of_lt_of_le (by have := World.block_lt_of_cell? _ _ hx175_0; first | rwa [add_block] at this | exact this) GW173.out)
                  have hn175_5 : ad161.block ≠ gb173 := Nat.ne_of_lt (Nat.lt_of_lt_of_le (by have := World.block_lt_of_cell? _ _ hx175_0; first | rwa [add_block] at this | exact this) GW173.out)
                  have hn175_6 : ad161.block ≠ gb173 := Nat.ne_of_lt (Nat.lt_of_lt_of_le (by have := World.block_lt_of_cell? _ _ hx175_0; first | rwa [add_block] at this | exact this) GW173.out)
                  have hn175_7 : ad161.block ≠ gb173 := Nat.ne_of_lt (Nat.lt_of_lt_of_le (by have := World.block_lt_of_cell? _ _ hx175_0; first | rwa [add_block] at this | exact this) GW173.out)
                  replace hx175_0 := (HB.out.cell (World.block_lt_of_cell? w _ hx175_0)).trans hx175_0
                  clear hn175_0
                  clear hn175_1
                  clear hn175_2
                  clear hn175_3
                  clear hn175_4
                  clear hn175_5
                  clear hn175_6
                  clear hn175_7
                  replace p175 := eq_true p175
                  replace q175 := eq_true q175
                  have hnb113 := NB173_141.out
                  have hnc113 := NB141_173.out
                  have hnb114 := NB173_157.out
                  have hnc114 := NB157_173.out
                  have hcz115_3 : w102.cell? ⟨gb173, 3, none⟩ = some (.int .i64 0) := (blk_cell BK173.out 3).trans rfl
                  have hcz115_4 : w102.cell? ⟨gb173, 4, none⟩ = some (.int .i64 0) := (blk_cell BK173.out 4).trans rfl
                  have hcz115_5 : w102.cell? ⟨gb173, 5, none⟩ = some (.bool false) := (blk_cell BK173.out 5).trans rfl
                  have hcz115_6 : w102.cell? ⟨gb173, 6, none⟩ = some (.string (⟨#[]⟩ : ByteArray)) := (blk_cell BK173.out 6).trans rfl
                  have hcz115_7 : w102.cell? ⟨gb173, 7, none⟩ = some (.int .i64 0) := (blk_cell BK173.out 7).trans rfl
                  have hfz115_0 := blk_frozen BK173.out 0
                  have hfz115_1 := blk_frozen BK173.out 1
                  have hfz115_2 := blk_frozen BK173.out 2
                  have hfz115_3 := blk_frozen BK173.out 3
                  have hfz115_4 := blk_frozen BK173.out 4
                  have hfz115_5 := blk_frozen BK173.out 5
                  have hfz115_6 := blk_frozen BK173.out 6
                  have hfz115_7 := blk_frozen BK173.out 7
                  go_wp2
                  go_meet
                  case rel => exact ⟨_, (Int.tmod (wrap64 (rd l0 (ji86))) 10), H', ⟨by have := HJ20.out; have := HK2.out; have := HJ52.out; have := HJ63.out; first | omega | exact Nat.le_refl _⟩, ⟨by (with_reducible repeat (first | apply Kd.R_alloc | apply Kd.R_drewN | apply Kd.R_drew)); exact Kd.R_mono (Kd.R_far (p := ⟨gb173, 7, none⟩) (Kd.R_types P7.out BK173.out (by decide)) (fun _ hk => hk.2) (.int .i64 (Int.tmod (wrap64 (rd l0 (ji86))) 10))) (fun _ hk => trivial)⟩, ⟨by (with_reducible repeat (first | apply Kd.R_alloc | apply Kd.R_drewN | apply Kd.R_drew)); exact Kd.R_far (p := ⟨gb173, 7, none⟩) P8.out (fun _ hk => hk) (.int .i64 (Int.tmod (wrap64 (rd l0 (ji86))) 10))⟩, ⟨by (with_reducible repeat (first | refine blk_drewN ?_ _ | refine blk_drew ?_ | refine blk_alloc ?_ _)); refine blk_far ?_ NB141_173.out _; exact BK141.out⟩, ⟨by (with_reducible repeat (first | refine blk_drewN ?_ _ | refine blk_drew ?_ | refine blk_alloc ?_ _)); refine blk_far ?_ NB157_173.out _; exact BK157.out⟩, ⟨by (with_reducible repeat (first | refine blk_drewN ?_ _ | refine blk_drew ?_ | refine blk_alloc ?_ _)); refine blk_put (cs := #[.int .i64 (wrap64 (x10_2 + (wrap64 (1 + (wrap64 (Int.tmod (rd l0 x11_2) 3)))))), .string t167, .string (rdOf ByteArray.empty y168 (ji89)), .int .i64 0, .int .i64 0, .bool false, .string (⟨#[]⟩ : ByteArray), .int .i64 0]) ?_ 7 _ rfl; exact BK173.out⟩, ⟨by repeat (with_reducible first | exact HB.out | apply below_alloc | apply pw_below_drewN | apply below_drew1 | refine below_set ?_ GE141.out | refine below_set ?_ GE157.out | refine below_set ?_ GE173.out)⟩⟩
                 ·rw [if_neg c112] at H
                  have c112b0 : decide (128 < (rd l0 (ji86))) = false := decide_eq_false c112
                  clear c112
                  (first | rw [c112b0] | (simp only [i64_w, i32_w]; rw [c112b0]) | skip)
                  have H' := Aside0.mk H
                  clear H
                  go_wp2
                  go_meet
                  case rel => exact ⟨_, (0), H', ⟨by have := HJ20.out; have := HK2.out; have := HJ52.out; have := HJ63.out; first | omega | exact Nat.le_refl _⟩, ⟨by (with_reducible repeat (first | apply Kd.R_alloc | apply Kd.R_drewN | apply Kd.R_drew)); exact Kd.R_mono P7.out (fun _ _ => trivial)⟩, ⟨by (with_reducible repeat (first | apply Kd.R_alloc | apply Kd.R_drewN | apply Kd.R_drew)); exact P8.out⟩, ⟨by (with_reducible repeat (first | refine blk_drewN ?_ _ | refine blk_drew ?_ | refine blk_alloc ?_ _)); exact BK141.out⟩, ⟨by (with_reducible repeat (first | refine blk_drewN ?_ _ | refine blk_drew ?_ | refine blk_alloc ?_ _)); exact BK157.out⟩, ⟨by (with_reducible repeat (first | refine blk_drewN ?_ _ | refine blk_drew ?_ | refine blk_alloc ?_ _)); exact BK173.out⟩, ⟨by repeat (with_reducible first | exact HB.out | apply below_alloc | apply pw_below_drewN | apply below_drew1 | refine below_set ?_ GE141.out | refine below_set ?_ GE157.out | refine below_set ?_ GE173.out)⟩⟩
                case rest =>
                 clear HC92
                 try clear c1
                 try clear p1
                 try clear q1
                 try clear hx1
                 try clear p2
                 try clear c3
                 try clear p6
                 try clear c11
                 try clear p17
                 try clear q17
                 try clear hx17
                 try clear c35
                 try clear p64
                 try clear c112
                 try clear c112b0
                 try clear c113
                 try clear c114
                 try clear hcz115_0
                 try clear hcz115_1
                 try clear hcz115_2
                 try clear hcz115_3
                 try clear hcz115_4
                 try clear hcz115_5
                 try clear hcz115_6
                 try clear hcz115_7
                 try clear hfz115_0
                 try clear hfz115_1
                 try clear hfz115_2
                 try clear hfz115_3
                 try clear hfz115_4
                 try clear hfz115_5
                 try clear hfz115_6
                 try clear hfz115_7
                 try clear hx172_0
                 try clear hx174_0
                 try clear hx175_0
                 try clear p172
                 try clear p174
                 try clear p175
                 try clear q172
                 try clear q174
                 try clear q175
                 rename_i zb_1 zb_2 zb_3 zb_4 zb_5 zb_6 zb_7 zb_8 zb_9 zb_10 zb_11 zb_12 zb_13 zb_14 zb_15 zb_16 zb_17 zb_18 zb_19 zb_20 zb_21 zb_22 zb_23 zb_24 zb_25 zb_26 zb_27 zb_28 zb_29 zb_30 zb_31 zb_32 zb_33 zb_34 zb_35 zb_36 zb_37 zb_38 zb_39 zb_40 zb_41 zb_42 zb_43 zb_44 zb_45 zb_46 zb_47 zb_48 zb_49 zb_50 zb_51 zb_52 zb_53 zb_54 zb_55 zb_56 zb_57 zb_58 zb_59 zb_60 zb_61 zb_62 zb_63 zb_64 zb_65 zb_66 zb_67 zb_68 zb_69 zb_70 zb_71 zb_72 zb_73 zb_74 zb_75 zb_76 zb_77 zb_78 zb_79 zb_80 zb_81 zb_82 zb_83 zb_84 zb_85 zb_86 zb_87 zb_88 zb_89 zb_90 zb_91 zb_92 zb_93 zb_94 zb_95 zb_96 zb_97 zb_98 zb_99 zb_100 zb_101 zb_102 zb_103 zb_104 zb_105 zb_106 zb_107 zb_108 zb_109 zb_110 zb_111 zb_112 zb_113 zb_114 zb_115 zb_116 zb_117 zb_118 zb_119 zb_120 zb_121 zb_122 zb_123 zb_124 zb_125 zb_126 zb_127 zb_128 zb_129 zb_130 zb_131 zb_132 zb_133 zb_134 zb_135 zb_136 zb_137 zb_138 zb_139 zb_140 zb_141 zb_142 zb_143 zb_144 zb_145 zb_146 zb_147 zb_148 zb_149 zb_150 zb_151 zb_152 zb_153 zb_154 zb_155 zb_156 zb_157 zb_158 zb_159 zb_160 zb_161 zb_162 zb_163 zb_164 zb_165 zb_166 zb_167 zb_168 zb_169 zb_170 zb_171 zb_172 zb_173 zb_174 zb_175 zb_176 zb_177 zb_178 zb_179 zb_180 zb_181 zb_182 zb_183 zb_184 zb_185 zb_186 zb_187 zb_188 zb_189 zb_190 zb_191 zb_192 zb_193 zb_194 zb_195 zb_196 zb_197 zb_198 zb_199 zb_200 zb_201 zb_202 zb_203 zb_204 zb_205 zb_206 zb_207 zb_208 zb_209 zb_210 zb_211 zb_212 zb_213 zb_214 zb_215 zb_216 zb_217 zb_218 zb_219 zb_220 zb_221 zb_222 zb_223 zb_224 zb_225 zb_226 zb_227 zb_228 zb_229 zb_230 zb_231 zb_232 zb_233 zb_234 zb_235 zb_236 zb_237 zb_238 zb_239 zb_240 zb_241 zb_242 zb_243 zb_244 zb_245 zb_246 zb_247 zb_248 zb_249 zb_250 zb_251 zb_252 zb_253 zb_254 zb_255 zb_256 zb_257 zb_258 zb_259 zb_260 zb_261 zb_262 zb_263 zb_264 zb_265 zb_266 zb_267 zb_268 zb_269 zb_270 zb_271 zb_272 zb_273 zb_274 zb_275 zb_276 zb_277 zb_278 zb_279 zb_280 zb_281 zb_282 zb_283 zb_284 zb_285 zb_286 zb_287 zb_288 zb_289 zb_290 zb_291 zb_292 zb_293 zb_294 zb_295 zb_296 zb_297 zb_298 zb_299 zb_300 zb_301 zb_302 zb_303 zb_304 zb_305 zb_306 zb_307 zb_308
                 revert k c0 l0 a1 a2 a3 r1 r2 r3 r4 r5 r6 r7 r8 r9 r10 w hu46 hu68 HC0 t142 A5 t143 A6 c7 c7b0 c7b1 c7b2 y144 Ny144 t147 A8 ji9 hji9 c10b0 c11b0 y149 Ny149 A12 ji13 hji13 c14b0 c15b0 t154 A16 t155 A17 t156 A18 c19 c19b0 c19b1 t158 A20 za_1 gb141 w22 GW141 GE141 za_2 za_3 za_4 za_5 za_6 za_7 za_8 za_9 za_10 za_11 za_12 za_13 za_14 za_15 za_16 za_17 za_18 za_19 za_20 za_21 za_22 za_23 za_24 za_25 za_26 za_27 za_28 za_29 za_30 za_31 za_32 gb157 w32 GE157 GW157 NB141_157 NB157_141 za_33 za_34 za_35 nd za_36 u13 u14 u15 u16 u17 u18 u19 u20 u21 u22 u23 u24 u25 u26 u27 u28 u29 u30 u31 u32 u33 u34 u35 u36 u37 u38 u39 u40 u41 u42 u43 u44 u45 u46 u47 u48 u49 u50 u51 u52 za_37 za_38 za_39 za_40 za_41 za_42 za_43 za_44 za_45 za_46 za_47 za_48 za_49 za_50 za_51 za_52 za_53 za_54 za_55 za_56 za_57 za_58 za_59 za_60 za_61 za_62 za_63 za_64 za_65 za_66 za_67 za_68 za_69 za_70 za_71 za_72 za_73 za_74 za_75 za_76 za_77 za_78 za_79 za_80 za_81 za_82 za_83 za_84 za_85 za_86 za_87 za_88 za_89 za_90 za_91 za_92 za_93 za_94 za_95 za_96 za_97 za_98 za_99 za_100 za_101 za_102 za_103 za_104 za_105 za_106 za_107 za_108 za_109 za_110 za_111 za_112 za_113 za_114 za_115 za_116 za_117 za_118 za_119 za_120 za_121 za_122 za_123 za_124 za_125 za_126 za_127 za_128 za_129 za_130 za_131 za_132 za_133 za_134 za_135 za_136 za_137 za_138 za_139 za_140 za_141 za_142 za_143 za_144 za_145 za_146 za_147 za_148 za_149 za_150 za_151 za_152 za_153 za_154 za_155 za_156 za_157 za_158 za_159 za_160 za_161 za_162 za_163 za_164 za_165 za_166 za_167 za_168 za_169 za_170 za_171 za_172 za_173 za_174 u195 y009_20 za_175 za_176 za_177 kj20 HJ20 hnb51 hnc51 za_178 za_179 wr u12 za_180 za_181 za_182 za_183 za_184 za_185 za_186 za_187 za_188 za_189 za_190 za_191 za_192 za_193 za_194 za_195 za_196 za_197 za_198 za_199 za_200 za_201 za_202 za_203 za_204 za_205 za_206 za_207 za_208 za_209 za_210 za_211 za_212 za_213 za_214 za_215 za_216 za_217 za_218 za_219 za_220 za_221 za_222 za_223 za_224 za_225 za_226 za_227 za_228 za_229 za_230 za_231 za_232 za_233 za_234 za_235 za_236 za_237 za_238 za_239 za_240 za_241 za_242 za_243 za_244 za_245 za_246 za_247 za_248 za_249 za_250 za_251 za_252 za_253 za_254 za_255 za_256 za_257 za_258 za_259 za_260 u134 u135 za_261 za_262 za_263 za_264 za_265 za_266 za_267 za_268 za_269 za_270 za_271 u147 za_272 za_273 za_274 za_275 za_276 za_277 za_278 za_279 za_280 za_281 za_282 za_283 za_284 za_285 za_286 za_287 za_288 za_289 za_290 za_291 za_292 za_293 za_294 za_295 za_296 u173 za_297 za_298 za_299 za_300 za_301 za_302 za_303 za_304 za_305 za_306 za_307 za_308 za_309 za_310 za_311 za_312 za_313 za_314 za_315 za_316 za_317 za_318 za_319 x10_2 x11_2 y007_2 y008_2 z7 zb_1 zb_2 zb_3 k2 za_321 HK2 zb_4 zb_5 zb_6 zb_7 zb_8 zb_9 zb_10 zb_11 zb_12 zb_13 zb_14 zb_15 zb_16 zb_17 zb_18 zb_19 zb_20 zb_21 zb_22 zb_23 zb_24 zb_25 zb_26 zb_27 zb_28 zb_29 zb_30 zb_31 zb_32 zb_33 zb_34 zb_35 zb_36 zb_37 zb_38 zb_39 zb_40 zb_41 zb_42 zb_43 zb_44 zb_45 zb_46 zb_47 zb_48 zb_49 zb_50 zb_51 zb_52 zb_53 zb_54 zb_55 zb_56 zb_57 zb_58 zb_59 zb_60 zb_61 zb_62 zb_63 zb_64 zb_65 zb_66 zb_67 zb_68 zb_69 zb_70 zb_71 zb_72 zb_73 zb_74 zb_75 zb_76 zb_77 zb_78 zb_79 zb_80 zb_81 zb_82 zb_83 zb_84 zb_85 zb_86 zb_87 zb_88 zb_89 zb_90 zb_91 zb_92 zb_93 zb_94 zb_95 zb_96 zb_97 zb_98 zb_99 zb_100 zb_101 zb_102 zb_103 zb_104 zb_105 zb_106 zb_107 zb_108 zb_109 zb_110 zb_111 zb_112 zb_113 zb_114 zb_115 zb_116 zb_117 zb_118 zb_119 zb_120 zb_121 zb_122 zb_123 zb_124 zb_125 zb_126 zb_127 zb_128 zb_129 zb_130 zb_131 zb_132 zb_133 zb_134 zb_135 zb_136 zb_137 zb_138 zb_139 zb_140 zb_141 zb_142 zb_143 zb_144 kj52 HJ52 ad161 HR0 za_320 zb_145 zb_146 zb_147 zb_148 zb_149 zb_150 zb_151 zb_152 zb_153 zb_154 zb_155 zb_156 zb_157 zb_158 zb_159 zb_160 zb_161 zb_162 zb_163 zb_164 zb_165 zb_166 zb_167 zb_168 zb_169 zb_170 zb_171 zb_172 zb_173 zb_174 zb_175 zb_176 zb_177 zb_178 zb_179 zb_180 zb_181 zb_182 zb_183 zb_184 zb_185 zb_186 zb_187 zb_188 zb_189 zb_190 zb_191 zb_192 zb_193 zb_194 zb_195 zb_196 zb_197 zb_198 zb_199 zb_200 zb_201 zb_202 zb_203 zb_204 zb_205 zb_206 zb_207 zb_208 zb_209 zb_210 zb_211 zb_212 zb_213 zb_214 zb_215 zb_216 zb_217 zb_218 zb_219 zb_220 zb_221 zb_222 zb_223 zb_224 zb_225 zb_226 zb_227 zb_228 zb_229 zb_230 zb_231 zb_232 zb_233 zb_234 zb_235 zb_236 zb_237 zb_238 zb_239 zb_240 zb_241 zb_242 zb_243 zb_244 zb_245 zb_246 zb_247 zb_248 zb_249 zb_250 zb_251 zb_252 zb_253 zb_254 zb_255 zb_256 zb_257 zb_258 zb_259 zb_260 zb_261 zb_262 zb_263 zb_264 zb_265 zb_266 zb_267 zb_268 zb_269 zb_270 zb_271 zb_272 zb_273 zb_274 zb_275 zb_276 zb_277 zb_278 zb_279 zb_280 zb_281 zb_282 zb_283 zb_284 kj63 HJ63 c76 c76b0 c76b1 ji82 hji82 hji82w c83b0 c84b0 t167 A85 y168 Ny168 ji86 hji86 hji86w c87b0 c88b0 ji89 hji89 c90b0 c91b0 hnb93 hnc93 hcz94_0 hcz94_1 hcz94_2 hcz94_3 hcz94_4 hcz94_5 hcz94_6 hcz94_7 hcz94_9 hfz94_0 hfz94_1 hfz94_2 hfz94_3 hfz94_4 hfz94_5 hfz94_6 hfz94_7 hfz94_8 hfz94_9 Ao95 co95 zb_285 zb_286 zb_287 zb_288 hcz94_8 pi172 qi172 e166 hw166_0 p166 q166 e171 hw171_0 p171 q171 zb_289 zb_290 zb_291 zb_292 zb_293 zb_294 zb_295 zb_296 zb_297 zb_298 zb_299 zb_300 zb_301 zb_302 zb_303 zb_304 zb_305 zb_306 gb173 w102 GE173 GW173 NB141_173 NB173_141 NB157_173 NB173_157 BK173 P7 P8 BK141 BK157 HB zb_307 zb_308 wc u53 u54 u55 u56 u57 u58 u59 u60 u61 u62 u63 u64 u65 u66 u67 u68 u69 u70 u71 u72 u73 u74 u75 u76 u77 u78 u79 u80 u81 u82 u83 u84 u85 u86 u87 u88 u89 u90 u91 u92 u93 u94 u95 u96 u97 u98 u99 u100 u101 u102 u103 u104 u105 u106 u107 u108 u109 u110 u111 u112 u113 u114 u115 u116 u117 u118 u119 u120 u121 u122 u123 u124 u125 u126 u127 u128 u129 u130 u131 u132 u133 u136 u137 u138 u139 u140 u141 u142 u143 u144 u145 u146 u148 u149 u150 u151 u152 u153 u154 u155 u156 u157 u158 u159 u160 u161 u162 u163 u164 u165 u166 u167 u168 u169 u170 u171 u172 u174 u175 u176 u177 u178 u179 u180 u181 u182 u183 u184 u185 u186 u187 u188 u189 u190 u191 u192 u193 u194 hcut
                 exact hP_.out
               ·rw [if_neg c91] at H
                exact absurd H (by simp)
              ·rw [if_neg c90] at H
               exact absurd H (by simp)
             ·rw [if_neg c88] at H
              exact absurd H (by simp)
            ·rw [if_neg c87] at H
             exact absurd H (by simp)
           ·rw [if_neg c84] at H
            exact absurd H (by simp)
          ·rw [if_neg c83] at H
           exact absurd H (by simp)
    ·rw [if_neg c57] at H
     exact absurd H (by simp)
   ·rw [if_neg c56] at H
    exact absurd H (by simp)
  ·replace c55 := Bool.eq_false_iff.mpr c55
   subst c55
   have H1 : (some (a1, ((⟨#[110]⟩ : ByteArray) ++ t143), (rdOf ByteArray.empty y144 (ji9)), (rdOf ByteArray.empty y149 (ji13)), (wrap64 (1 + (wrap64 (t154 * 3)))), (wrap64 (1 + (Int.tmod t155 9))), (Int.tmod t156 a3), y007_2, y008_2, y009_20)) = some (r1, r2, r3, r4, r5, r6, r7, r8, r9, r10) := by rw [if_neg (show ¬ (false = true) by decide)] at H; exact H
   clear H
   have H := H1
   clear H1
   simp only [Option.some.injEq, Prod.mk.injEq] at H
   obtain ⟨rfl, rfl, rfl, rfl, rfl, rfl, rfl, rfl, rfl, rfl⟩ := H
   have hnb182 := NB157_141.out
   have hnc182 := NB141_157.out
   have hcz183_0 : wc.cell? ⟨gb157, 0, none⟩ = some (.int .i64 a1) := (blk_cell BK157.out 0).trans rfl
   have hcz183_1 : wc.cell? ⟨gb157, 1, none⟩ = some (.string ((⟨#[110]⟩ : ByteArray) ++ t143)) := (blk_cell BK157.out 1).trans rfl
   have hcz183_2 : wc.cell? ⟨gb157, 2, none⟩ = some (.string (rdOf ByteArray.empty y144 (ji9))) := (blk_cell BK157.out 2).trans rfl
   have hcz183_3 : wc.cell? ⟨gb157, 3, none⟩ = some (.string (rdOf ByteArray.empty y149 (ji13))) := (blk_cell BK157.out 3).trans rfl
   have hcz183_4 : wc.cell? ⟨gb157, 4, none⟩ = some (.int .i64 (wrap64 (1 + (wrap64 (t154 * 3))))) := (blk_cell BK157.out 4).trans rfl
   have hcz183_5 : wc.cell? ⟨gb157, 5, none⟩ = some (.int .i64 (wrap64 (1 + (Int.tmod t155 9)))) := (blk_cell BK157.out 5).trans rfl
   have hcz183_6 : wc.cell? ⟨gb157, 6, none⟩ = some (.int .i64 (Int.tmod t156 a3)) := (blk_cell BK157.out 6).trans rfl
   have hcz183_7 : wc.cell? ⟨gb157, 7, none⟩ = some (z7) := (blk_cell BK157.out 7).trans rfl
   have hcz183_8 : wc.cell? ⟨gb157, 8, none⟩ = some (z8) := (blk_cell BK157.out 8).trans rfl
   have hcz183_9 : wc.cell? ⟨gb157, 9, none⟩ = some (.string y009_20) := (blk_cell BK157.out 9).trans rfl
   have hfz183_0 := blk_frozen BK157.out 0
   have hfz183_1 := blk_frozen BK157.out 1
   have hfz183_2 := blk_frozen BK157.out 2
   have hfz183_3 := blk_frozen BK157.out 3
   have hfz183_4 := blk_frozen BK157.out 4
   have hfz183_5 := blk_frozen BK157.out 5
   have hfz183_6 := blk_frozen BK157.out 6
   have hfz183_7 := blk_frozen BK157.out 7
   have hfz183_8 := blk_frozen BK157.out 8
   have hfz183_9 := blk_frozen BK157.out 9
   have hcz184_0 : wc.cell? ⟨gb141, 0, none⟩ = some (.int .i64 0) := (blk_cell BK141.out 0).trans rfl
   have hcz184_1 : wc.cell? ⟨gb141, 1, none⟩ = some (.string (⟨#[]⟩ : ByteArray)) := (blk_cell BK141.out 1).trans rfl
   have hcz184_2 : wc.cell? ⟨gb141, 2, none⟩ = some (.string (⟨#[]⟩ : ByteArray)) := (blk_cell BK141.out 2).trans rfl
   have hcz184_3 : wc.cell? ⟨gb141, 3, none⟩ = some (.string (⟨#[]⟩ : ByteArray)) := (blk_cell BK141.out 3).trans rfl
   have hcz184_4 : wc.cell? ⟨gb141, 4, none⟩ = some (.int .i64 0) := (blk_cell BK141.out 4).trans rfl
   have hcz184_5 : wc.cell? ⟨gb141, 5, none⟩ = some (.int .i64 0) := (blk_cell BK141.out 5).trans rfl
   have hcz184_6 : wc.cell? ⟨gb141, 6, none⟩ = some (.int .i64 0) := (blk_cell BK141.out 6).trans rfl
   have hcz184_7 : wc.cell? ⟨gb141, 7, none⟩ = some (.slice none 0 0) := (blk_cell BK141.out 7).trans rfl
   have hcz184_8 : wc.cell? ⟨gb141, 8, none⟩ = some (.slice none 0 0) := (blk_cell BK141.out 8).trans rfl
   have hcz184_9 : wc.cell? ⟨gb141, 9, none⟩ = some (.string (⟨#[]⟩ : ByteArray)) := (blk_cell BK141.out 9).trans rfl
   have hfz184_0 := blk_frozen BK141.out 0
   have hfz184_1 := blk_frozen BK141.out 1
   have hfz184_2 := blk_frozen BK141.out 2
   have hfz184_3 := blk_frozen BK141.out 3
   have hfz184_4 := blk_frozen BK141.out 4
   have hfz184_5 := blk_frozen BK141.out 5
   have hfz184_6 := blk_frozen BK141.out 6
   have hfz184_7 := blk_frozen BK141.out 7
   have hfz184_8 := blk_frozen BK141.out 8
   have hfz184_9 := blk_frozen BK141.out 9
   obtain ⟨Ao185, co185, eo185⟩ := Kd.R_slice P7.out
   subst eo185
   obtain ⟨Ao186, co186, eo186⟩ := Kd.R_slice P8.out
   subst eo186
   go_wp2
   refine bodyPost_ret (results_cell_row rfl _ _ gb141 46 #[.int .i64 a1, .string ((⟨#[110]⟩ : ByteArray) ++ t143), .string (rdOf ByteArray.empty y144 (ji9)), .string (rdOf ByteArray.empty y149 (ji13)), .int .i64 (wrap64 (1 + (wrap64 (t154 * 3)))), .int .i64 (wrap64 (1 + (Int.tmod t155 9))), .int .i64 (Int.tmod t156 a3), .slice Ao185 y007_2.length co185, .slice Ao186 y008_2.length co186, .string y009_20] (0, 0) _ rfl (by (with_reducible repeat (first | refine blk_drewN ?_ _ | refine blk_drew ?_ | refine blk_alloc ?_ _)); refine blk_put (cs := #[.int .i64 a1, .string ((⟨#[110]⟩ : ByteArray) ++ t143), .string (rdOf ByteArray.empty y144 (ji9)), .string (rdOf ByteArray.empty y149 (ji13)), .int .i64 (wrap64 (1 + (wrap64 (t154 * 3)))), .int .i64 (wrap64 (1 + (Int.tmod t155 9))), .int .i64 (Int.tmod t156 a3), .slice Ao185 y007_2.length co185, .slice Ao186 y008_2.length co186, .string (⟨#[]⟩ : ByteArray)]) ?_ 9 _ rfl; refine blk_put (cs := #[.int .i64 a1, .string ((⟨#[110]⟩ : ByteArray) ++ t143), .string (rdOf ByteArray.empty y144 (ji9)), .string (rdOf ByteArray.empty y149 (ji13)), .int .i64 (wrap64 (1 + (wrap64 (t154 * 3)))), .int .i64 (wrap64 (1 + (Int.tmod t155 9))), .int .i64 (Int.tmod t156 a3), .slice Ao185 y007_2.length co185, .slice none 0 0, .string (⟨#[]⟩ : ByteArray)]) ?_ 8 _ rfl; refine blk_put (cs := #[.int .i64 a1, .string ((⟨#[110]⟩ : ByteArray) ++ t143), .string (rdOf ByteArray.empty y144 (ji9)), .string (rdOf ByteArray.empty y149 (ji13)), .int .i64 (wrap64 (1 + (wrap64 (t154 * 3)))), .int .i64 (wrap64 (1 + (Int.tmod t155 9))), .int .i64 (Int.tmod t156 a3), .slice none 0 0, .slice none 0 0, .string (⟨#[]⟩ : ByteArray)]) ?_ 7 _ rfl; refine blk_put (cs := #[.int .i64 a1, .string ((⟨#[110]⟩ : ByteArray) ++ t143), .string (rdOf ByteArray.empty y144 (ji9)), .string (rdOf ByteArray.empty y149 (ji13)), .int .i64 (wrap64 (1 + (wrap64 (t154 * 3)))), .int .i64 (wrap64 (1 + (Int.tmod t155 9))), .int .i64 0, .slice none 0 0, .slice none 0 0, .string (⟨#[]⟩ : ByteArray)]) ?_ 6 _ rfl; refine blk_put (cs := #[.int .i64 a1, .string ((⟨#[110]⟩ : ByteArray) ++ t143), .string (rdOf ByteArray.empty y144 (ji9)), .string (rdOf ByteArray.empty y149 (ji13)), .int .i64 (wrap64 (1 + (wrap64 (t154 * 3)))), .int .i64 0, .int .i64 0, .slice none 0 0, .slice none 0 0, .string (⟨#[]⟩ : ByteArray)]) ?_ 5 _ rfl; refine blk_put (cs := #[.int .i64 a1, .string ((⟨#[110]⟩ : ByteArray) ++ t143), .string (rdOf ByteArray.empty y144 (ji9)), .string (rdOf ByteArray.empty y149 (ji13)), .int .i64 0, .int .i64 0, .int .i64 0, .slice none 0 0, .slice none 0 0, .string (⟨#[]⟩ : ByteArray)]) ?_ 4 _ rfl; refine blk_put (cs := #[.int .i64 a1, .string ((⟨#[110]⟩ : ByteArray) ++ t143), .string (rdOf ByteArray.empty y144 (ji9)), .string (⟨#[]⟩ : ByteArray), .int .i64 0, .int .i64 0, .int .i64 0, .slice none 0 0, .slice none 0 0, .string (⟨#[]⟩ : ByteArray)]) ?_ 3 _ rfl; refine blk_put (cs := #[.int .i64 a1, .string ((⟨#[110]⟩ : ByteArray) ++ t143), .string (⟨#[]⟩ : ByteArray), .string (⟨#[]⟩ : ByteArray), .int .i64 0, .int .i64 0, .int .i64 0, .slice none 0 0, .slice none 0 0, .string (⟨#[]⟩ : ByteArray)]) ?_ 2 _ rfl; refine blk_put (cs := #[.int .i64 a1, .string (⟨#[]⟩ : ByteArray), .string (⟨#[]⟩ : ByteArray), .string (⟨#[]⟩ : ByteArray), .int .i64 0, .int .i64 0, .int .i64 0, .slice none 0 0, .slice none 0 0, .string (⟨#[]⟩ : ByteArray)]) ?_ 1 _ rfl; refine blk_put (cs := #[.int .i64 0, .string (⟨#[]⟩ : ByteArray), .string (⟨#[]⟩ : ByteArray), .string (⟨#[]⟩ : ByteArray), .int .i64 0, .int .i64 0, .int .i64 0, .slice none 0 0, .slice none 0 0, .string (⟨#[]⟩ : ByteArray)]) ?_ 0 _ rfl; exact BK141.out) Try.underlying46 rfl (by kernel_rfl)) rfl ?_
   exact ⟨_, _, by first | rfl | (simp [errW_none, errW_some] <;> rfl) | (simp only [← hji9, ← hji13]; first | rfl | (simp [errW_none, errW_some] <;> rfl)) | (simp [*, errW_none, errW_some] <;> rfl), by (with_reducible repeat (first | apply Kd.R_alloc | apply Kd.R_drewN | apply Kd.R_drew)); exact Kd.R_mono (Kd.R_far (p := ⟨gb141, 9, none⟩) (Kd.R_far (p := ⟨gb141, 8, none⟩) (Kd.R_far (p := ⟨gb141, 7, none⟩) (Kd.R_far (p := ⟨gb141, 6, none⟩) (Kd.R_far (p := ⟨gb141, 5, none⟩) (Kd.R_far (p := ⟨gb141, 4, none⟩) (Kd.R_far (p := ⟨gb141, 3, none⟩) (Kd.R_far (p := ⟨gb141, 2, none⟩) (Kd.R_far (p := ⟨gb141, 1, none⟩) (Kd.R_far (p := ⟨gb141, 0, none⟩) (Kd.R_types P7.out BK141.out (by decide)) (fun _ hk => hk.2) (.int .i64 a1)) (fun _ hk => hk.2) (.string ((⟨#[110]⟩ : ByteArray) ++ t143))) (fun _ hk => hk.2) (.string (rdOf ByteArray.empty y144 (ji9)))) (fun _ hk => hk.2) (.string (rdOf ByteArray.empty y149 (ji13)))) (fun _ hk => hk.2) (.int .i64 (wrap64 (1 + (wrap64 (t154 * 3)))))) (fun _ hk => hk.2) (.int .i64 (wrap64 (1 + (Int.tmod t155 9))))) (fun _ hk => hk.2) (.int .i64 (Int.tmod t156 a3))) (fun _ hk => hk.2) (.slice Ao185 y007_2.length co185)) (fun _ hk => hk.2) (.slice Ao186 y008_2.length co186)) (fun _ hk => hk.2) (.string y009_20)) (fun _ hk => trivial), by (with_reducible repeat (first | apply Kd.R_alloc | apply Kd.R_drewN | apply Kd.R_drew)); exact Kd.R_mono (Kd.R_far (p := ⟨gb141, 9, none⟩) (Kd.R_far (p := ⟨gb141, 8, none⟩) (Kd.R_far (p := ⟨gb141, 7, none⟩) (Kd.R_far (p := ⟨gb141, 6, none⟩) (Kd.R_far (p := ⟨gb141, 5, none⟩) (Kd.R_far (p := ⟨gb141, 4, none⟩) (Kd.R_far (p := ⟨gb141, 3, none⟩) (Kd.R_far (p := ⟨gb141, 2, none⟩) (Kd.R_far (p := ⟨gb141, 1, none⟩) (Kd.R_far (p := ⟨gb141, 0, none⟩) (Kd.R_types P8.out BK141.out (by decide)) (fun _ hk => hk.2) (.int .i64 a1)) (fun _ hk => hk.2) (.string ((⟨#[110]⟩ : ByteArray) ++ t143))) (fun _ hk => hk.2) (.string (rdOf ByteArray.empty y144 (ji9)))) (fun _ hk => hk.2) (.string (rdOf ByteArray.empty y149 (ji13)))) (fun _ hk => hk.2) (.int .i64 (wrap64 (1 + (wrap64 (t154 * 3)))))) (fun _ hk => hk.2) (.int .i64 (wrap64 (1 + (Int.tmod t155 9))))) (fun _ hk => hk.2) (.int .i64 (Int.tmod t156 a3))) (fun _ hk => hk.2) (.slice Ao185 y007_2.length co185)) (fun _ hk => hk.2) (.slice Ao186 y008_2.length co186)) (fun _ hk => hk.2) (.string y009_20)) (fun _ hk => trivial), by repeat (with_reducible first | exact HB.out | apply below_alloc | apply pw_below_drewN | apply below_drew1 | refine below_set ?_ GE141.out | refine below_set ?_ GE157.out)⟩
end Go.Proofs.Ytajfefjmfelnbaa.BState
