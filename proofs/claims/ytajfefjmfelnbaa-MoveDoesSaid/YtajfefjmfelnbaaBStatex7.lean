/- Printed (wip/gprint.py). -/
import Derived.Test.YtajfefjmfelnbaaSubB
import Derived.Test.YtajfefjmfelnbaaBStatex1
import Derived.Test.YtajfefjmfelnbaaBStatex2
import Derived.Test.YtajfefjmfelnbaaBStatex6
import Derived.Test.YtajfefjmfelnbaaSubR
import Derived.Test.YtajfefjmfelnbaaSubR13
namespace Go.Proofs.Ytajfefjmfelnbaa.BState
open Go.RowKit Go.Proofs.YtajfefjmfelnbaaW.PrintWords Go.Proofs.YtajfefjmfelnbaaW.PrintLast Go.Proofs.YtajfefjmfelnbaaW.PrintMore
attribute [local go_sem] max2_int min2_int max_two min_two max_three min_three max_four min_four   -- for this text's walks alone
set_option linter.unusedVariables false
set_option linter.unusedSimpArgs false

set_option maxHeartbeats 80000000 in
set_option maxRecDepth 100000 in
theorem sub_c3 : sub_c2.1 := by
 intro k c0 l0 a1 a2 a3 r1 r2 r3 r4 r5 r6 r7 r8 r9 r10 w hu46 hu68 HC0 t142 A5 t143 A6 c7 c7b0 c7b1 c7b2 y144 Ny144 t147 A8 ji9 hji9 c10b0 c11b0 y149 Ny149 A12 ji13 hji13 c14b0 c15b0 t154 A16 t155 A17 t156 A18 c19 c19b0 c19b1 t158 A20 za_1 gb141 w22 GW141 GE141 za_2 za_3 za_4 za_5 za_6 za_7 za_8 za_9 za_10 za_11 za_12 za_13 za_14 za_15 za_16 za_17 za_18 za_19 za_20 za_21 za_22 za_23 za_24 za_25 za_26 za_27 za_28 za_29 za_30 za_31 za_32 gb157 w32 GE157 GW157 NB141_157 NB157_141 za_33 za_34 za_35 nd za_36 u13 u14 u15 u16 u17 u18 u19 u20 u21 u22 u23 u24 u25 u26 u27 u28 u29 u30 u31 u32 u33 u34 u35 u36 u37 u38 u39 u40 u41 u42 u43 u44 u45 u46 u47 u48 u49 u50 u51 u52 za_37 za_38 za_39 za_40 za_41 za_42 za_43 za_44 za_45 za_46 za_47 za_48 za_49 za_50 za_51 za_52 za_53 za_54 za_55 za_56 za_57 za_58 za_59 za_60 za_61 za_62 za_63 za_64 za_65 za_66 za_67 za_68 za_69 za_70 za_71 za_72 za_73 za_74 za_75 za_76 za_77 za_78 za_79 za_80 za_81 za_82 za_83 za_84 za_85 za_86 za_87 za_88 za_89 za_90 za_91 za_92 za_93 za_94 za_95 za_96 za_97 za_98 za_99 za_100 za_101 za_102 za_103 za_104 za_105 za_106 za_107 za_108 za_109 za_110 za_111 za_112 za_113 za_114 za_115 za_116 za_117 za_118 za_119 za_120 za_121 za_122 za_123 za_124 za_125 za_126 za_127 za_128 za_129 za_130 za_131 za_132 za_133 za_134 za_135 za_136 za_137 za_138 za_139 za_140 za_141 za_142 za_143 za_144 za_145 za_146 za_147 za_148 za_149 za_150 za_151 za_152 za_153 za_154 za_155 za_156 za_157 za_158 za_159 za_160 za_161 za_162 za_163 za_164 za_165 za_166 za_167 za_168 za_169 za_170 za_171 za_172 za_173 za_174 u195 y009_20 za_175 za_176 za_177 kj20 HJ20 hnb51 hnc51 za_178 za_179 wr u12 za_180 za_181 za_182 za_183 za_184 za_185 za_186 za_187 za_188 za_189 za_190 za_191 za_192 za_193 za_194 za_195 za_196 za_197 za_198 za_199 za_200 za_201 za_202 za_203 za_204 za_205 za_206 za_207 za_208 za_209 za_210 za_211 za_212 za_213 za_214 za_215 za_216 za_217 za_218 za_219 za_220 za_221 za_222 za_223 za_224 za_225 za_226 za_227 za_228 za_229 za_230 za_231 za_232 za_233 za_234 za_235 za_236 za_237 za_238 za_239 za_240 za_241 za_242 za_243 za_244 za_245 za_246 za_247 za_248 za_249 za_250 za_251 za_252 za_253 za_254 za_255 za_256 za_257 za_258 za_259 za_260 u134 u135 za_261 za_262 za_263 za_264 za_265 za_266 za_267 za_268 za_269 za_270 za_271 u147 za_272 za_273 za_274 za_275 za_276 za_277 za_278 za_279 za_280 za_281 za_282 za_283 za_284 za_285 za_286 za_287 za_288 za_289 za_290 za_291 za_292 za_293 za_294 za_295 za_296 u173 za_297 za_298 za_299 za_300 za_301 za_302 za_303 za_304 za_305 za_306 za_307 za_308 za_309 za_310 za_311 za_312 za_313 za_314 za_315 za_316 za_317 za_318 za_319 x10_2 x11_2 y007_2 y008_2 z7 zb_1 zb_2 zb_3 k2 za_321 HK2 zb_4 zb_5 zb_6 zb_7 zb_8 zb_9 zb_10 zb_11 zb_12 zb_13 zb_14 zb_15 zb_16 zb_17 zb_18 zb_19 zb_20 zb_21 zb_22 zb_23 zb_24 zb_25 zb_26 zb_27 zb_28 zb_29 zb_30 zb_31 zb_32 zb_33 zb_34 zb_35 zb_36 zb_37 zb_38 zb_39 zb_40 zb_41 zb_42 zb_43 zb_44 zb_45 zb_46 zb_47 zb_48 zb_49 zb_50 zb_51 zb_52 zb_53 zb_54 zb_55 zb_56 zb_57 zb_58 zb_59 zb_60 zb_61 zb_62 zb_63 zb_64 zb_65 zb_66 zb_67 zb_68 zb_69 zb_70 zb_71 zb_72 zb_73 zb_74 zb_75 zb_76 zb_77 zb_78 zb_79 zb_80 zb_81 zb_82 zb_83 zb_84 zb_85 zb_86 zb_87 zb_88 zb_89 zb_90 zb_91 zb_92 zb_93 zb_94 zb_95 zb_96 zb_97 zb_98 zb_99 zb_100 zb_101 zb_102 zb_103 zb_104 zb_105 zb_106 zb_107 zb_108 zb_109 zb_110 zb_111 zb_112 zb_113 zb_114 zb_115 zb_116 zb_117 zb_118 zb_119 zb_120 zb_121 zb_122 zb_123 zb_124 zb_125 zb_126 zb_127 zb_128 zb_129 zb_130 zb_131 zb_132 zb_133 zb_134 zb_135 zb_136 zb_137 zb_138 zb_139 zb_140 zb_141 zb_142 zb_143 zb_144 kj52 HJ52 ad161 HR0 za_320 zb_145 zb_146 zb_147 zb_148 zb_149 zb_150 zb_151 zb_152 zb_153 zb_154 zb_155 zb_156 zb_157 zb_158 zb_159 zb_160 zb_161 zb_162 zb_163 zb_164 zb_165 zb_166 zb_167 zb_168 zb_169 zb_170 zb_171 zb_172 zb_173 zb_174 zb_175 zb_176 zb_177 zb_178 zb_179 zb_180 zb_181 zb_182 zb_183 zb_184 zb_185 zb_186 zb_187 zb_188 zb_189 zb_190 zb_191 zb_192 zb_193 zb_194 zb_195 zb_196 zb_197 zb_198 zb_199 zb_200 zb_201 zb_202 zb_203 zb_204 zb_205 zb_206 zb_207 zb_208 zb_209 zb_210 zb_211 zb_212 zb_213 zb_214 zb_215 zb_216 zb_217 zb_218 zb_219 zb_220 zb_221 zb_222 zb_223 zb_224 zb_225 zb_226 zb_227 zb_228 zb_229 zb_230 zb_231 zb_232 zb_233 zb_234 zb_235 zb_236 zb_237 zb_238 zb_239 zb_240 zb_241 zb_242 zb_243 zb_244 zb_245 zb_246 zb_247 zb_248 zb_249 zb_250 zb_251 zb_252 zb_253 zb_254 zb_255 zb_256 zb_257 zb_258 zb_259 zb_260 zb_261 zb_262 zb_263 zb_264 zb_265 zb_266 zb_267 zb_268 zb_269 zb_270 zb_271 zb_272 zb_273 zb_274 zb_275 zb_276 zb_277 zb_278 zb_279 zb_280 zb_281 zb_282 zb_283 zb_284 kj63 HJ63 c76 c76b0 c76b1 ji82 hji82 hji82w c83b0 c84b0 t167 A85 y168 Ny168 ji86 hji86 hji86w c87b0 c88b0 ji89 hji89 c90b0 c91b0 hnb93 hnc93 hcz94_0 hcz94_1 hcz94_2 hcz94_3 hcz94_4 hcz94_5 hcz94_6 hcz94_7 hcz94_9 hfz94_0 hfz94_1 hfz94_2 hfz94_3 hfz94_4 hfz94_5 hfz94_6 hfz94_7 hfz94_8 hfz94_9 Ao95 co95 zb_285 zb_286 zb_287 zb_288 hcz94_8 pi172 qi172 e166 hw166_0 p166 q166 e171 hw171_0 p171 q171 zb_289 zb_290 zb_291 zb_292 zb_293 zb_294 zb_295 zb_296 zb_297 zb_298 zb_299 zb_300 zb_301 zb_302 zb_303 zb_304 zb_305 zb_306 gb173 w102 GE173 GW173 NB141_173 NB173_141 NB157_173 NB173_157 BK173 P7 P8 BK141 BK157 HB zb_307 zb_308 wc u53 u54 u55 u56 u57 u58 u59 u60 u61 u62 u63 u64 u65 u66 u67 u68 u69 u70 u71 u72 u73 u74 u75 u76 u77 u78 u79 u80 u81 u82 u83 u84 u85 u86 u87 u88 u89 u90 u91 u92 u93 u94 u95 u96 u97 u98 u99 u100 u101 u102 u103 u104 u105 u106 u107 u108 u109 u110 u111 u112 u113 u114 u115 u116 u117 u118 u119 u120 u121 u122 u123 u124 u125 u126 u127 u128 u129 u130 u131 u132 u133 u136 u137 u138 u139 u140 u141 u142 u143 u144 u145 u146 u148 u149 u150 u151 u152 u153 u154 u155 u156 u157 u158 u159 u160 u161 u162 u163 u164 u165 u166 u167 u168 u169 u170 u171 u172 u174 u175 u176 u177 u178 u179 u180 u181 u182 u183 u184 u185 u186 u187 u188 u189 u190 u191 u192 u193 u194 hcut
 obtain ⟨kq, x174007_91, HA, HJ91, P7, P8, BK141, BK157, BK173, HB⟩ := hcut
 cases kq with
 | zero => exact absurd HA.out (by simp [roadsteadlaw10_Sub.j4])
 | succ kj91 =>
  have H := HA.out
  clear HA
  simp only [roadsteadlaw10_Sub.j4] at H
  obtain ⟨ji116, hji116⟩ : ∃ j_ : Int, (wrap64 (x11_2 + 3)) = j_ := ⟨_, rfl⟩
  replace H : (if 0 ≤ (ji116) then (if (ji116) < (l0.length : Int) then (if (Int.tmod (rd l0 (ji116)) 4) = 0 then (if (wrap64 (1 + (Int.tmod t155 9))) = 0 then (none) else (if y008_2.length < 1599289640401 then (roadsteadlaw10_Sub.l0 kj91 l0 a2 a3 (wrap64 (x10_2 + (wrap64 (1 + (wrap64 (Int.tmod (rd l0 x11_2) 3)))))) (wrap64 (x11_2 + 4)) a1 ((⟨#[110]⟩ : ByteArray) ++ t143) (rdOf ByteArray.empty y144 (ji9)) (rdOf ByteArray.empty y149 (ji13)) (wrap64 (1 + (wrap64 (t154 * 3)))) (wrap64 (1 + (Int.tmod t155 9))) (Int.tmod t156 a3) y007_2 (y008_2 ++ [(⟨(wrap64 (x10_2 + (wrap64 (1 + (wrap64 (Int.tmod (rd l0 x11_2) 3)))))), t167, (rdOf ByteArray.empty y168 (ji89)), Int.tmod (wrap64 (rd l0 (ji116))) (wrap64 (1 + (Int.tmod t155 9))), 0, false, (⟨#[]⟩ : ByteArray), x174007_91⟩ : S68)]) y009_20) else (none))) else (if (Int.tmod (rd l0 (ji116)) 4) = 1 then (if (wrap64 (1 + (Int.tmod t155 9))) = 0 then (none) else (if 0 ≤ (wrap64 (x11_2 + 1)) then (if (wrap64 (x11_2 + 1)) < (l0.length : Int) then (if (wrap64 (1 + (wrap64 (t154 * 3)))) = 0 then (none) else (if y008_2.length < 1599289640401 then (roadsteadlaw10_Sub.l0 kj91 l0 a2 a3 (wrap64 (x10_2 + (wrap64 (1 + (wrap64 (Int.tmod (rd l0 x11_2) 3)))))) (wrap64 (x11_2 + 4)) a1 ((⟨#[110]⟩ : ByteArray) ++ t143) (rdOf ByteArray.empty y144 (ji9)) (rdOf ByteArray.empty y149 (ji13)) (wrap64 (1 + (wrap64 (t154 * 3)))) (wrap64 (1 + (Int.tmod t155 9))) (Int.tmod t156 a3) y007_2 (y008_2 ++ [(⟨(wrap64 (x10_2 + (wrap64 (1 + (wrap64 (Int.tmod (rd l0 x11_2) 3)))))), t167, (rdOf ByteArray.empty y168 (ji89)), wrap64 (1 + (Int.tmod (wrap64 (rd l0 (ji116))) (wrap64 (1 + (Int.tmod t155 9))))), wrap64 ((wrap64 (a2 + 1)) + (Int.tmod (wrap64 (rd l0 (wrap64 (x11_2 + 1)))) (wrap64 (1 + (wrap64 (t154 * 3)))))), false, (⟨#[]⟩ : ByteArray), x174007_91⟩ : S68)]) y009_20) else (none))) else (none)) else (none))) else (if (Int.tmod (rd l0 (ji116)) 4) = 2 then ((some (([(⟨#[110, 97, 99, 107]⟩ : ByteArray), (⟨#[116, 105, 109, 101]⟩ : ByteArray)] : List ByteArray) : List ByteArray)).bind fun y186 => (if 0 ≤ (wrap64 (x11_2 + 1)) then (if (wrap64 (x11_2 + 1)) < (l0.length : Int) then (if 0 ≤ (Int.tmod (rd l0 (wrap64 (x11_2 + 1))) 2) then (if (Int.tmod (rd l0 (wrap64 (x11_2 + 1))) 2) < (y186.length : Int) then (if y008_2.length < 1599289640401 then (roadsteadlaw10_Sub.l0 kj91 l0 a2 a3 (wrap64 (x10_2 + (wrap64 (1 + (wrap64 (Int.tmod (rd l0 x11_2) 3)))))) (wrap64 (x11_2 + 4)) a1 ((⟨#[110]⟩ : ByteArray) ++ t143) (rdOf ByteArray.empty y144 (ji9)) (rdOf ByteArray.empty y149 (ji13)) (wrap64 (1 + (wrap64 (t154 * 3)))) (wrap64 (1 + (Int.tmod t155 9))) (Int.tmod t156 a3) y007_2 (y008_2 ++ [(⟨(wrap64 (x10_2 + (wrap64 (1 + (wrap64 (Int.tmod (rd l0 x11_2) 3)))))), t167, (rdOf ByteArray.empty y168 (ji89)), (wrap64 (1 + (Int.tmod t155 9))), 0, true, rdOf ByteArray.empty y186 (Int.tmod (rd l0 (wrap64 (x11_2 + 1))) 2), x174007_91⟩ : S68)]) y009_20) else (none)) else (none)) else (none)) else (none)) else (none))) else (if y008_2.length < 1599289640401 then (roadsteadlaw10_Sub.l0 kj91 l0 a2 a3 (wrap64 (x10_2 + (wrap64 (1 + (wrap64 (Int.tmod (rd l0 x11_2) 3)))))) (wrap64 (x11_2 + 4)) a1 ((⟨#[110]⟩ : ByteArray) ++ t143) (rdOf ByteArray.empty y144 (ji9)) (rdOf ByteArray.empty y149 (ji13)) (wrap64 (1 + (wrap64 (t154 * 3)))) (wrap64 (1 + (Int.tmod t155 9))) (Int.tmod t156 a3) y007_2 (y008_2 ++ [(⟨(wrap64 (x10_2 + (wrap64 (1 + (wrap64 (Int.tmod (rd l0 x11_2) 3)))))), t167, (rdOf ByteArray.empty y168 (ji89)), 0, 0, false, (⟨#[]⟩ : ByteArray), x174007_91⟩ : S68)]) y009_20) else (none))))) else (none)) else (none)) = some (r1, r2, r3, r4, r5, r6, r7, r8, r9, r10) := by first | (rw [hji116] at H; exact H) | (simp only [hji116] at H ⊢; exact H)
  have hji116w : (IntKind.i64.wrap (x11_2 + 3)) = ji116 := (i64_w _).trans hji116
  by_cases c117 : 0 ≤ (ji116)
  ·rw [if_pos c117] at H
   have c117b0 : decide (0 ≤ (ji116)) = true := decide_eq_true c117
   clear c117
   by_cases c118 : (ji116) < (l0.length : Int)
   ·rw [if_pos c118] at H
    have c118b0 : decide ((ji116) < (l0.length : Int)) = true := decide_eq_true c118
    clear c118
    by_cases c119 : (Int.tmod (rd l0 (ji116)) 4) = 0
    ·rw [if_pos c119] at H
     have c119b0 : ((Int.tmod (rd l0 (ji116)) 4) == 0) = true := beq_iff_eq.mpr c119
     have c119b1 : ((Int.tmod (rd l0 (ji116)) 4) != 0) = false := bne_eq_false_iff_eq.mpr c119
     clear c119
     by_cases c120 : (wrap64 (1 + (Int.tmod t155 9))) = 0
     ·rw [if_pos c120] at H
      exact absurd H (by simp)
     ·rw [if_neg c120] at H
      have c120b0 : ((wrap64 (1 + (Int.tmod t155 9))) == 0) = false := beq_eq_false_iff_ne.mpr c120
      have c120b1 : ((wrap64 (1 + (Int.tmod t155 9))) != 0) = true := bne_iff_ne.mpr c120
      by_cases c121 : y008_2.length < 1599289640401
      ·rw [if_pos c121] at H
       have LMc121 := Aside0.mk c121
       clear c121
       obtain ⟨y178, hy178⟩ : ∃ y_ : List (S68), y_ = (y008_2 ++ [(⟨(wrap64 (x10_2 + (wrap64 (1 + (wrap64 (Int.tmod (rd l0 x11_2) 3)))))), t167, (rdOf ByteArray.empty y168 (ji89)), Int.tmod (wrap64 (rd l0 (ji116))) (wrap64 (1 + (Int.tmod t155 9))), 0, false, (⟨#[]⟩ : ByteArray), x174007_91⟩ : S68)]) := ⟨_, rfl⟩
       replace H : (roadsteadlaw10_Sub.l0 kj91 l0 a2 a3 (wrap64 (x10_2 + (wrap64 (1 + (wrap64 (Int.tmod (rd l0 x11_2) 3)))))) (wrap64 (x11_2 + 4)) a1 ((⟨#[110]⟩ : ByteArray) ++ t143) (rdOf ByteArray.empty y144 (ji9)) (rdOf ByteArray.empty y149 (ji13)) (wrap64 (1 + (wrap64 (t154 * 3)))) (wrap64 (1 + (Int.tmod t155 9))) (Int.tmod t156 a3) y007_2 y178 y009_20) = some (r1, r2, r3, r4, r5, r6, r7, r8, r9, r10) := by first | (rw [hy178]; with_reducible exact H) | (have H2_ := (Option.bind_some _ _).symm.trans H; rw [hy178]; with_reducible exact H2_) | (have H2_ := (Option.bind_some _ _).symm.trans H; with_reducible exact H2_) | with_reducible exact H | (rw [hy178]; exact H) | exact H
       have Ny178 := Aside0.mk hy178
       clear hy178
       have H' := Aside0.mk H
       clear H
       have p176 : 0 ≤ ((ji116) : Int) := of_decide_eq_true (by first | (with_reducible assumption) | assumption)
       have q176 : (ji116) < (l0.length : Int) := of_decide_eq_true (by first | (with_reducible assumption) | assumption)
       obtain ⟨ad176, e176, hx176_0⟩ := Kd.at_int HR0.out (ji116) p176 q176
       obtain rfl : ad161 = ad176 := (by injection e176)
       replace hx176_0 := (HB.out.cell (World.block_lt_of_cell? w _ hx176_0)).trans hx176_0
       replace p176 := eq_true p176
       replace q176 := eq_true q176
       try go_wp2
       have n0_ := Aside0.mk (Kd.R_drew P7.out)
       have n1_ := Aside0.mk (Kd.R_drew P8.out)
       have n2_ := Aside0.mk (blk_drew BK141.out)
       have n3_ := Aside0.mk (blk_drew BK157.out)
       have n4_ := Aside0.mk (blk_drew BK173.out)
       have n5_ := Aside0.mk (below_drew1 HB.out)
       clear P7
       clear P8
       clear BK141
       clear BK157
       clear BK173
       clear HB
       have P7 := n0_
       have P8 := n1_
       have BK141 := n2_
       have BK157 := n3_
       have BK173 := n4_
       have HB := n5_
       clear n0_ n1_ n2_ n3_ n4_ n5_
       have p177 : 0 ≤ ((ji116) : Int) := of_decide_eq_true (by first | (with_reducible assumption) | assumption)
       have q177 : (ji116) < (l0.length : Int) := of_decide_eq_true (by first | (with_reducible assumption) | assumption)
       obtain ⟨ad177, e177, hx177_0⟩ := Kd.at_int HR0.out (ji116) p177 q177
       have hw177_0 := hx177_0
       obtain rfl : ad161 = ad177 := (by injection e177)
       replace hx177_0 := (HB.out.cell (World.block_lt_of_cell? w _ hx177_0)).trans hx177_0
       replace p177 := eq_true p177
       replace q177 := eq_true q177
       refine start_ (n := 11) (S := fun w' => w'.cell? ⟨gb157, 0, none⟩ = some (.int .i64 a1) ∧ w'.cell? ⟨gb157, 1, none⟩ = some (.string ((⟨#[110]⟩ : ByteArray) ++ t143)) ∧ w'.cell? ⟨gb157, 2, none⟩ = some (.string (rdOf ByteArray.empty y144 (ji9))) ∧ w'.cell? ⟨gb157, 3, none⟩ = some (.string (rdOf ByteArray.empty y149 (ji13))) ∧ w'.cell? ⟨gb157, 4, none⟩ = some (.int .i64 (wrap64 (1 + (wrap64 (t154 * 3))))) ∧ w'.cell? ⟨gb157, 5, none⟩ = some (.int .i64 (wrap64 (1 + (Int.tmod t155 9)))) ∧ w'.cell? ⟨gb157, 6, none⟩ = some (.int .i64 (Int.tmod t156 a3)) ∧ w'.cell? ⟨gb157, 7, none⟩ = some (z7) ∧ w'.cell? ⟨gb157, 8, none⟩ = some (.slice Ao95 y008_2.length co95) ∧ w'.cell? ⟨gb157, 9, none⟩ = some (.string y009_20) ∧ w'.cell? (ad161.add ((ji116)).toNat) = some (.int .u8 (rd l0 (ji116)))) (ds := []) #[false, false, false, false, false, false, false, false, false, false, false] (by kernel_rfl) rfl rfl ⟨(blk_cell BK157.out 0).trans rfl, (blk_cell BK157.out 1).trans rfl, (blk_cell BK157.out 2).trans rfl, (blk_cell BK157.out 3).trans rfl, (blk_cell BK157.out 4).trans rfl, (blk_cell BK157.out 5).trans rfl, (blk_cell BK157.out 6).trans rfl, (blk_cell BK157.out 7).trans rfl, (blk_cell BK157.out 8).trans rfl, (blk_cell BK157.out 9).trans rfl, ((HB.out.cell (World.block_lt_of_cell? w _ hw177_0)).trans hw177_0)⟩ (fun hHeld => ?_); refine with_tabW roadsteadlaw10_Sub.tab18 roadsteadlaw10_Sub.bits18 (fun HT_ HW_ => ?_)
       generalize wc.drew = w122 at P7 P8 BK141 BK157 BK173 HB hx177_0 hHeld ⊢
       refine pure_ (i := 0) (N := some 137) (v := ?_) (a' := ?_) #[true, false, false, false, false, false, false, false, false, false, false] rfl rfl (any_of HT_.out (by kernel_rfl)) (fun _ _ _ h => h) (Or.inl ⟨by rfl, ?_⟩) ?_ ?_
       rotate_left
       ·intro w'
        go_simp
        with_reducible rfl
       rotate_left
       ·simp only [Act.put, List.setIfInBounds_toArray, List.set_cons_zero, List.set_cons_succ, i64_w, i32_w]
        rfl
       refine pure_ (i := 1) (N := some 138) (v := ?_) (a' := ?_) #[true, true, false, false, false, false, false, false, false, false, false] rfl rfl (any_of HT_.out (by kernel_rfl)) (fun _ _ _ h => h) (Or.inl ⟨by rfl, ?_⟩) ?_ ?_
       rotate_left
       ·intro w'
        go_simp
        with_reducible rfl
       rotate_left
       ·simp only [Act.put, List.setIfInBounds_toArray, List.set_cons_zero, List.set_cons_succ, i64_w, i32_w]
        rfl
       refine pure_ (i := 2) (N := some 139) (v := ?_) (a' := ?_) #[true, true, true, false, false, false, false, false, false, false, false] rfl rfl (any_of HT_.out (by kernel_rfl)) (fun _ _ _ h => h) (Or.inl ⟨by rfl, ?_⟩) ?_ ?_
       rotate_left
       ·intro w'
        go_simp
        with_reducible rfl
       rotate_left
       ·simp only [Act.put, List.setIfInBounds_toArray, List.set_cons_zero, List.set_cons_succ, i64_w, i32_w]
        rfl
       refine pure_ (i := 3) (N := some 140) (v := ?_) (a' := ?_) #[true, true, true, true, false, false, false, false, false, false, false] rfl rfl (any_of HT_.out (by kernel_rfl)) (fun _ _ _ h => h) (Or.inl ⟨by rfl, ?_⟩) ?_ ?_
       rotate_left
       ·intro w'
        go_simp
        with_reducible rfl
       rotate_left
       ·simp only [Act.put, List.setIfInBounds_toArray, List.set_cons_zero, List.set_cons_succ, i64_w, i32_w]
        rfl
       refine pure_ (i := 6) (N := some 143) (v := ?_) (a' := ?_) #[true, true, true, true, false, false, true, false, false, false, false] rfl rfl (any_of HT_.out (by kernel_rfl)) (fun _ _ _ h => h) (Or.inl ⟨by rfl, ?_⟩) ?_ ?_
       rotate_left
       ·intro w'
        go_simp
        with_reducible rfl
       rotate_left
       ·simp only [Act.put, List.setIfInBounds_toArray, List.set_cons_zero, List.set_cons_succ, i64_w, i32_w]
        rfl
       refine take_ (i := 4) (N := some 141) (v := ?_) (a' := ?_) #[true, true, true, true, true, false, true, false, false, false, false] rfl rfl (take_ofW HT_.out HW_.out (by kernel_rfl)) (fun _ _ _ h => h) (Or.inl ⟨by rfl, ?_⟩) hHeld ?_ ?_
       rotate_left
       ·rintro w' ⟨s0, s1, s2, s3, s4, s5, s6, s7, s8, s9, s10⟩
        go_simp
        with_reducible rfl
       rotate_left
       ·simp only [Act.put, List.setIfInBounds_toArray, List.set_cons_zero, List.set_cons_succ, i64_w, i32_w]
        rfl
       refine pure_ (i := 5) (N := some 142) (v := ?_) (a' := ?_) #[true, true, true, true, true, true, true, false, false, false, false] rfl rfl (any_of HT_.out (by kernel_rfl)) (fun _ _ _ h => h) (Or.inl ⟨by rfl, ?_⟩) ?_ ?_
       rotate_left
       ·intro w'
        go_simp
        with_reducible rfl
       rotate_left
       ·simp only [Act.put, List.setIfInBounds_toArray, List.set_cons_zero, List.set_cons_succ, i64_w, i32_w]
        rfl
       refine take_ (i := 7) (N := some 144) (v := ?_) (a' := ?_) #[true, true, true, true, true, true, true, true, false, false, false] rfl rfl (take_ofW HT_.out HW_.out (by kernel_rfl)) (fun _ _ _ h => h) (Or.inl ⟨by rfl, ?_⟩) hHeld ?_ ?_
       rotate_left
       ·rintro w' ⟨s0, s1, s2, s3, s4, s5, s6, s7, s8, s9, s10⟩
        go_simp
        with_reducible rfl
       rotate_left
       ·simp only [Act.put, List.setIfInBounds_toArray, List.set_cons_zero, List.set_cons_succ, i64_w, i32_w]
        rfl
       refine pure_ (i := 8) (N := some 145) (v := ?_) (a' := ?_) #[true, true, true, true, true, true, true, true, true, false, false] rfl rfl (any_of HT_.out (by kernel_rfl)) (fun _ _ _ h => h) (Or.inl ⟨by rfl, ?_⟩) ?_ ?_
       rotate_left
       ·intro w'
        go_simp
        with_reducible rfl
       rotate_left
       ·simp only [Act.put, List.setIfInBounds_toArray, List.set_cons_zero, List.set_cons_succ, i64_w, i32_w]
        rfl
       refine pure_ (i := 9) (N := some 146) (v := ?_) (a' := ?_) #[true, true, true, true, true, true, true, true, true, true, false] rfl rfl (any_of HT_.out (by kernel_rfl)) (fun _ _ _ h => h) (Or.inl ⟨by rfl, ?_⟩) ?_ ?_
       rotate_left
       ·intro w'
        go_simp
        with_reducible rfl
       rotate_left
       ·simp only [Act.put, List.setIfInBounds_toArray, List.set_cons_zero, List.set_cons_succ, i64_w, i32_w]
        rfl
       refine one_ (i := 10) (N := none) #[true, true, true, true, true, true, true, true, true, true, true] rfl rfl (one_of HT_.out (by kernel_rfl)) (by decide) (fun K hK => ?_)
       have hs123 : w122.cell? ⟨gb173, 3, none⟩ = some (.int .i64 0) := (blk_cell BK173.out 3).trans rfl
       have hfs123 := blk_frozen BK173.out 3
       have hns123_0 := NB141_173.out
       have hns123_1 := NB157_173.out
       have hms123_0 := NB173_141.out
       have hms123_1 := NB173_157.out
       refine skip_ (w1 := ?_) (by rfl) rfl ?_ ?_
       rotate_left
       ·go_simp
        rfl
       refine hK.out _ _ ⟨((cell_far (p := ⟨gb173, _, none⟩) NB157_173.out _).trans (hHeld.1)), ((cell_far (p := ⟨gb173, _, none⟩) NB157_173.out _).trans (hHeld.2.1)), ((cell_far (p := ⟨gb173, _, none⟩) NB157_173.out _).trans (hHeld.2.2.1)), ((cell_far (p := ⟨gb173, _, none⟩) NB157_173.out _).trans (hHeld.2.2.2.1)), ((cell_far (p := ⟨gb173, _, none⟩) NB157_173.out _).trans (hHeld.2.2.2.2.1)), ((cell_far (p := ⟨gb173, _, none⟩) NB157_173.out _).trans (hHeld.2.2.2.2.2.1)), ((cell_far (p := ⟨gb173, _, none⟩) NB157_173.out _).trans (hHeld.2.2.2.2.2.2.1)), ((cell_far (p := ⟨gb173, _, none⟩) NB157_173.out _).trans (hHeld.2.2.2.2.2.2.2.1)), ((cell_far (p := ⟨gb173, _, none⟩) NB157_173.out _).trans (hHeld.2.2.2.2.2.2.2.2.1)), ((cell_far (p := ⟨gb173, _, none⟩) NB157_173.out _).trans (hHeld.2.2.2.2.2.2.2.2.2.1)), ((cell_far (p := ⟨gb173, _, none⟩) (by first | exact Nat.ne_of_lt (Nat.lt_of_lt_of_le (by have := World.block_lt_of_cell? _ _ hw177_0; first | rwa [add_block] at this | exact this) GW173.out) | (rw [add_block]; exact Nat.ne_of_lt (Nat.lt_of_lt_of_le (by have := World.block_lt_of_cell? _ _ hw177_0; first | rwa [add_block] at this | exact this) GW173.out)) | (show (Addr.add _ _).block ≠ _; rw [add_block]; exact Nat.ne_of_lt (Nat.lt_of_lt_of_le (by have := World.block_lt_of_cell? _ _ hw177_0; first | rwa [add_block] at this | exact this) GW173.out)) | (dsimp only; exact Nat.ne_of_lt (Nat.lt_of_lt_of_le (by have := World.block_lt_of_cell? _ _ hw177_0; first | rwa [add_block] at this | exact this) GW173.out))) _).trans (hHeld.2.2.2.2.2.2.2.2.2.2))⟩ (fun hHeld => ?_)
       clear hK K
       refine done_ (done_of HT_.out (by kernel_rfl)) ?_
       have hnb124 := NB157_141.out
       have hnc124 := NB141_157.out
       have hnb125 := NB157_173.out
       have hnc125 := NB173_157.out
       have hcz126_0 : w122.cell? ⟨gb157, 0, none⟩ = some (.int .i64 a1) := (blk_cell BK157.out 0).trans rfl
       have hcz126_1 : w122.cell? ⟨gb157, 1, none⟩ = some (.string ((⟨#[110]⟩ : ByteArray) ++ t143)) := (blk_cell BK157.out 1).trans rfl
       have hcz126_2 : w122.cell? ⟨gb157, 2, none⟩ = some (.string (rdOf ByteArray.empty y144 (ji9))) := (blk_cell BK157.out 2).trans rfl
       have hcz126_3 : w122.cell? ⟨gb157, 3, none⟩ = some (.string (rdOf ByteArray.empty y149 (ji13))) := (blk_cell BK157.out 3).trans rfl
       have hcz126_4 : w122.cell? ⟨gb157, 4, none⟩ = some (.int .i64 (wrap64 (1 + (wrap64 (t154 * 3))))) := (blk_cell BK157.out 4).trans rfl
       have hcz126_5 : w122.cell? ⟨gb157, 5, none⟩ = some (.int .i64 (wrap64 (1 + (Int.tmod t155 9)))) := (blk_cell BK157.out 5).trans rfl
       have hcz126_6 : w122.cell? ⟨gb157, 6, none⟩ = some (.int .i64 (Int.tmod t156 a3)) := (blk_cell BK157.out 6).trans rfl
       have hcz126_7 : w122.cell? ⟨gb157, 7, none⟩ = some (z7) := (blk_cell BK157.out 7).trans rfl
       have hcz126_8 : w122.cell? ⟨gb157, 8, none⟩ = some (.slice Ao95 y008_2.length co95) := (blk_cell BK157.out 8).trans rfl
       have hcz126_9 : w122.cell? ⟨gb157, 9, none⟩ = some (.string y009_20) := (blk_cell BK157.out 9).trans rfl
       have hfz126_0 := blk_frozen BK157.out 0
       have hfz126_1 := blk_frozen BK157.out 1
       have hfz126_2 := blk_frozen BK157.out 2
       have hfz126_3 := blk_frozen BK157.out 3
       have hfz126_4 := blk_frozen BK157.out 4
       have hfz126_5 := blk_frozen BK157.out 5
       have hfz126_6 := blk_frozen BK157.out 6
       have hfz126_7 := blk_frozen BK157.out 7
       have hfz126_8 := blk_frozen BK157.out 8
       have hfz126_9 := blk_frozen BK157.out 9
       have hnb127 := NB173_141.out
       have hnc127 := NB141_173.out
       have hcz128_0 : w122.cell? ⟨gb173, 0, none⟩ = some (.int .i64 (wrap64 (x10_2 + (wrap64 (1 + (wrap64 (Int.tmod (rd l0 x11_2) 3))))))) := (blk_cell BK173.out 0).trans rfl
       have hcz128_1 : w122.cell? ⟨gb173, 1, none⟩ = some (.string t167) := (blk_cell BK173.out 1).trans rfl
       have hcz128_2 : w122.cell? ⟨gb173, 2, none⟩ = some (.string (rdOf ByteArray.empty y168 (ji89))) := (blk_cell BK173.out 2).trans rfl
       have hcz128_3 : w122.cell? ⟨gb173, 3, none⟩ = some (.int .i64 0) := (blk_cell BK173.out 3).trans rfl
       have hcz128_4 : w122.cell? ⟨gb173, 4, none⟩ = some (.int .i64 0) := (blk_cell BK173.out 4).trans rfl
       have hcz128_5 : w122.cell? ⟨gb173, 5, none⟩ = some (.bool false) := (blk_cell BK173.out 5).trans rfl
       have hcz128_6 : w122.cell? ⟨gb173, 6, none⟩ = some (.string (⟨#[]⟩ : ByteArray)) := (blk_cell BK173.out 6).trans rfl
       have hcz128_7 : w122.cell? ⟨gb173, 7, none⟩ = some (.int .i64 x174007_91) := (blk_cell BK173.out 7).trans rfl
       have hfz128_0 := blk_frozen BK173.out 0
       have hfz128_1 := blk_frozen BK173.out 1
       have hfz128_2 := blk_frozen BK173.out 2
       have hfz128_3 := blk_frozen BK173.out 3
       have hfz128_4 := blk_frozen BK173.out 4
       have hfz128_5 := blk_frozen BK173.out 5
       have hfz128_6 := blk_frozen BK173.out 6
       have hfz128_7 := blk_frozen BK173.out 7
       try go_wp2_with (first | ((with_reducible refine gate_builtin (b := .append) (xs := #[.tmp 190, .tmp 192]) rfl ?_); (try (refine gate_guard (by rfl) ?_; dsimp only)); at_builtin; refine Kd.R_append k68 (w0 := w) w.heap.size rfl (.tmp 190) (.tmp 192) 44 68 (.agg #[(.int .i64 0), (.string ⟨#[]⟩), (.string ⟨#[]⟩), (.int .i64 0), (.int .i64 0), (.bool false), (.string ⟨#[]⟩), (.int .i64 0)]) 88 rfl Try.underlying44 info68 rfl (by decide) (by omega) (.slice Ao95 y008_2.length co95) y008_2 (⟨(wrap64 (x10_2 + (wrap64 (1 + (wrap64 (Int.tmod (rd l0 x11_2) 3)))))), t167, (rdOf ByteArray.empty y168 (ji89)), Int.tmod (wrap64 (rd l0 (ji116))) (wrap64 (1 + (Int.tmod t155 9))), 0, false, (⟨#[]⟩ : ByteArray), x174007_91⟩ : S68) [.int .i64 (wrap64 (x10_2 + (wrap64 (1 + (wrap64 (Int.tmod (rd l0 x11_2) 3)))))), .string t167, .string (rdOf ByteArray.empty y168 (ji89)), .int .i64 (Int.tmod (wrap64 (rd l0 (ji116))) (wrap64 (1 + (Int.tmod t155 9)))), .int .i64 0, .bool false, .string (⟨#[]⟩ : ByteArray), .int .i64 x174007_91] (fun k_ => k_ ≠ gb173) (fun _ => False) rfl (by first | (go_simp; done) | (go_simp; rfl)) ?aP (fun _ hk => hk.elim) ?aF ?aO ?aB ?aS ?aL ?_; (case aP => exact k68_mkM _ _ _ (⟨(wrap64 (x10_2 + (wrap64 (1 + (wrap64 (Int.tmod (rd l0 x11_2) 3)))))), t167, (rdOf ByteArray.empty y168 (ji89)), Int.tmod (wrap64 (rd l0 (ji116))) (wrap64 (1 + (Int.tmod t155 9))), 0, false, (⟨#[]⟩ : ByteArray), x174007_91⟩ : S68)); (case aB => exact (by repeat (with_reducible first | exact HB.out | apply below_alloc | apply pw_below_drewN | apply below_drew1 | refine below_set ?_ GE141.out | refine below_set ?_ GE157.out | refine below_set ?_ GE173.out))); (case aF => exact (fun k_ hk => Kd.freshB (g := gb173) (o := .cells #[.int .i64 (wrap64 (x10_2 + (wrap64 (1 + (wrap64 (Int.tmod (rd l0 x11_2) 3)))))), .string t167, .string (rdOf ByteArray.empty y168 (ji89)), .int .i64 (Int.tmod (wrap64 (rd l0 (ji116))) (wrap64 (1 + (Int.tmod t155 9)))), .int .i64 0, .bool false, .string (⟨#[]⟩ : ByteArray), .int .i64 x174007_91] 68 (0, 0)) (by (with_reducible repeat (first | refine blk_drewN ?_ _ | refine blk_drew ?_ | refine blk_alloc ?_ _)); refine blk_put (cs := #[.int .i64 (wrap64 (x10_2 + (wrap64 (1 + (wrap64 (Int.tmod (rd l0 x11_2) 3)))))), .string t167, .string (rdOf ByteArray.empty y168 (ji89)), .int .i64 0, .int .i64 0, .bool false, .string (⟨#[]⟩ : ByteArray), .int .i64 x174007_91]) ?_ 3 _ rfl; exact BK173.out) k_ hk)); (case aO => exact (by (with_reducible repeat (first | apply Kd.R_alloc | apply Kd.R_drewN | apply Kd.R_drew)); exact Kd.R_mono (Kd.R_far (p := ⟨gb173, 3, none⟩) (Kd.R_mono P8.out (fun k_ hk => (⟨hk, hk⟩ : _ ∧ k_ ≠ gb173))) (fun _ hk => hk.2) (.int .i64 (Int.tmod (wrap64 (rd l0 (ji116))) (wrap64 (1 + (Int.tmod t155 9)))))) (fun _ hk => hk.1))); (case aS => exact (below_size (by repeat (with_reducible first | exact HB.out | apply below_alloc | apply pw_below_drewN | apply below_drew1 | refine below_set ?_ GE141.out | refine below_set ?_ GE157.out | refine below_set ?_ GE173.out)))); (case aL => have := LMc121.out; omega); intro v179 w129 ho hb hg hat; rw [← Ny178.out] at ho; have n0_ := Aside0.mk (Kd.R_over' (by (with_reducible repeat (first | apply Kd.R_alloc | apply Kd.R_drewN | apply Kd.R_drew)); exact (Kd.R_mono (Kd.R_far (p := ⟨gb173, 3, none⟩) (Kd.R_types P7.out BK173.out (by decide)) (fun _ hk => hk.2) (.int .i64 (Int.tmod (wrap64 (rd l0 (ji116))) (wrap64 (1 + (Int.tmod t155 9)))))) (fun _ h_ => h_.1))) (Kd.R_typed (by (with_reducible repeat (first | apply Kd.R_alloc | apply Kd.R_drewN | apply Kd.R_drew)); exact (Kd.R_mono (Kd.R_far (p := ⟨gb173, 3, none⟩) (Kd.R_mono P8.out (fun k_ hk => (⟨hk, hk⟩ : _ ∧ k_ ≠ gb173))) (fun _ hk => hk.2) (.int .i64 (Int.tmod (wrap64 (rd l0 (ji116))) (wrap64 (1 + (Int.tmod t155 9)))))) (fun _ h_ => h_.1)))) (by decide) hg); have n1_ := Aside0.mk (blk_grown (g := gb141) (o := .cells #[.int .i64 0, .string (⟨#[]⟩ : ByteArray), .string (⟨#[]⟩ : ByteArray), .string (⟨#[]⟩ : ByteArray), .int .i64 0, .int .i64 0, .int .i64 0, .slice none 0 0, .slice none 0 0, .string (⟨#[]⟩ : ByteArray)] 46 (0, 0)) (by (with_reducible repeat (first | refine blk_drewN ?_ _ | refine blk_drew ?_ | refine blk_alloc ?_ _)); refine blk_far ?_ NB141_173.out _; exact BK141.out) hg (Kd.R_ne P8.out BK141.out (by decide))); have n2_ := Aside0.mk (blk_grown (g := gb157) (o := .cells #[.int .i64 a1, .string ((⟨#[110]⟩ : ByteArray) ++ t143), .string (rdOf ByteArray.empty y144 (ji9)), .string (rdOf ByteArray.empty y149 (ji13)), .int .i64 (wrap64 (1 + (wrap64 (t154 * 3)))), .int .i64 (wrap64 (1 + (Int.tmod t155 9))), .int .i64 (Int.tmod t156 a3), z7, .slice Ao95 y008_2.length co95, .string y009_20] 46 (0, 0)) (by (with_reducible repeat (first | refine blk_drewN ?_ _ | refine blk_drew ?_ | refine blk_alloc ?_ _)); refine blk_far ?_ NB157_173.out _; exact BK157.out) hg (Kd.R_ne P8.out BK157.out (by decide))); have n3_ := Aside0.mk (blk_grown (g := gb173) (o := .cells #[.int .i64 (wrap64 (x10_2 + (wrap64 (1 + (wrap64 (Int.tmod (rd l0 x11_2) 3)))))), .string t167, .string (rdOf ByteArray.empty y168 (ji89)), .int .i64 (Int.tmod (wrap64 (rd l0 (ji116))) (wrap64 (1 + (Int.tmod t155 9)))), .int .i64 0, .bool false, .string (⟨#[]⟩ : ByteArray), .int .i64 x174007_91] 68 (0, 0)) (by (with_reducible repeat (first | refine blk_drewN ?_ _ | refine blk_drew ?_ | refine blk_alloc ?_ _)); refine blk_put (cs := #[.int .i64 (wrap64 (x10_2 + (wrap64 (1 + (wrap64 (Int.tmod (rd l0 x11_2) 3)))))), .string t167, .string (rdOf ByteArray.empty y168 (ji89)), .int .i64 0, .int .i64 0, .bool false, .string (⟨#[]⟩ : ByteArray), .int .i64 x174007_91]) ?_ 3 _ rfl; exact BK173.out) hg (Kd.R_away P8.out (fun _ hk => hk))); have n4_ := Aside0.mk (hb); have n5_ := Aside0.mk (ho); clear P7; clear BK141; clear BK157; clear BK173; clear HB; clear P8; have P7 := n0_; have BK141 := n1_; have BK157 := n2_; have BK173 := n3_; have HB := n4_; have HO180 := n5_; clear n0_ n1_ n2_ n3_ n4_ n5_; clear ho hb hg hat; obtain ⟨Ao130, co130, eo130⟩ := Kd.R_slice HO180.out; subst eo130; have hcz131_0 : w129.cell? ⟨gb157, 0, none⟩ = some (.int .i64 a1) := (blk_cell BK157.out 0).trans rfl; have hcz131_1 : w129.cell? ⟨gb157, 1, none⟩ = some (.string ((⟨#[110]⟩ : ByteArray) ++ t143)) := (blk_cell BK157.out 1).trans rfl; have hcz131_2 : w129.cell? ⟨gb157, 2, none⟩ = some (.string (rdOf ByteArray.empty y144 (ji9))) := (blk_cell BK157.out 2).trans rfl; have hcz131_3 : w129.cell? ⟨gb157, 3, none⟩ = some (.string (rdOf ByteArray.empty y149 (ji13))) := (blk_cell BK157.out 3).trans rfl; have hcz131_4 : w129.cell? ⟨gb157, 4, none⟩ = some (.int .i64 (wrap64 (1 + (wrap64 (t154 * 3))))) := (blk_cell BK157.out 4).trans rfl; have hcz131_5 : w129.cell? ⟨gb157, 5, none⟩ = some (.int .i64 (wrap64 (1 + (Int.tmod t155 9)))) := (blk_cell BK157.out 5).trans rfl; have hcz131_6 : w129.cell? ⟨gb157, 6, none⟩ = some (.int .i64 (Int.tmod t156 a3)) := (blk_cell BK157.out 6).trans rfl; have hcz131_7 : w129.cell? ⟨gb157, 7, none⟩ = some (z7) := (blk_cell BK157.out 7).trans rfl; have hcz131_8 : w129.cell? ⟨gb157, 8, none⟩ = some (.slice Ao95 y008_2.length co95) := (blk_cell BK157.out 8).trans rfl; have hcz131_9 : w129.cell? ⟨gb157, 9, none⟩ = some (.string y009_20) := (blk_cell BK157.out 9).trans rfl; have hfz131_0 := blk_frozen BK157.out 0; have hfz131_1 := blk_frozen BK157.out 1; have hfz131_2 := blk_frozen BK157.out 2; have hfz131_3 := blk_frozen BK157.out 3; have hfz131_4 := blk_frozen BK157.out 4; have hfz131_5 := blk_frozen BK157.out 5; have hfz131_6 := blk_frozen BK157.out 6; have hfz131_7 := blk_frozen BK157.out 7; have hfz131_8 := blk_frozen BK157.out 8; have hfz131_9 := blk_frozen BK157.out 9))
       go_roundg kj91
       case measure => have := HJ20.out; have := HK2.out; have := HJ52.out; have := HJ63.out; have := HJ91.out; omega
       case rel => exact ⟨((wrap64 (x10_2 + (wrap64 (1 + (wrap64 (Int.tmod (rd l0 x11_2) 3))))))), (wrap64 (x11_2 + 4)), (y007_2), (y178), (z7), (.slice Ao130 y178.length co130), (by first | rfl | (simp; done) | (simp [*]; done)), (by first | rfl | (simp; done) | (simp [*]; done)), H', ⟨by have := HJ20.out; have := HK2.out; have := HJ52.out; have := HJ63.out; have := HJ91.out; omega⟩, ⟨by (with_reducible repeat (first | apply Kd.R_alloc | apply Kd.R_drewN | apply Kd.R_drew)); exact Kd.R_mono (Kd.R_far (p := ⟨gb157, 8, none⟩) (Kd.R_types P7.out BK157.out (by decide)) (fun _ hk => hk.2) (.slice Ao130 y178.length co130)) (fun _ hk => trivial)⟩, ⟨by (with_reducible repeat (first | apply Kd.R_alloc | apply Kd.R_drewN | apply Kd.R_drew)); exact Kd.R_mono (Kd.R_far (p := ⟨gb157, 8, none⟩) (Kd.R_types HO180.out BK157.out (by decide)) (fun _ hk => hk.2) (.slice Ao130 y178.length co130)) (fun _ hk => trivial)⟩, ⟨by (with_reducible repeat (first | refine blk_drewN ?_ _ | refine blk_drew ?_ | refine blk_alloc ?_ _)); refine blk_far ?_ NB141_157.out _; exact BK141.out⟩, ⟨by (with_reducible repeat (first | refine blk_drewN ?_ _ | refine blk_drew ?_ | refine blk_alloc ?_ _)); refine blk_put (cs := #[.int .i64 a1, .string ((⟨#[110]⟩ : ByteArray) ++ t143), .string (rdOf ByteArray.empty y144 (ji9)), .string (rdOf ByteArray.empty y149 (ji13)), .int .i64 (wrap64 (1 + (wrap64 (t154 * 3)))), .int .i64 (wrap64 (1 + (Int.tmod t155 9))), .int .i64 (Int.tmod t156 a3), z7, .slice Ao95 y008_2.length co95, .string y009_20]) ?_ 8 _ rfl; exact BK157.out⟩, ⟨by repeat (with_reducible first | exact HB.out | apply below_alloc | apply pw_below_drewN | apply below_drew1 | refine below_set ?_ GE141.out | refine below_set ?_ GE157.out | refine below_set ?_ GE173.out)⟩⟩
      ·rw [if_neg c121] at H
       exact absurd H (by simp)
    ·rw [if_neg c119] at H
     have c119b0 : ((Int.tmod (rd l0 (ji116)) 4) == 0) = false := beq_eq_false_iff_ne.mpr c119
     have c119b1 : ((Int.tmod (rd l0 (ji116)) 4) != 0) = true := bne_iff_ne.mpr c119
     by_cases c132 : (Int.tmod (rd l0 (ji116)) 4) = 1
     ·rw [if_pos c132] at H
      have c132b0 : ((Int.tmod (rd l0 (ji116)) 4) == 1) = true := beq_iff_eq.mpr c132
      have c132b1 : ((Int.tmod (rd l0 (ji116)) 4) != 1) = false := bne_eq_false_iff_eq.mpr c132
      clear c132
      by_cases c133 : (wrap64 (1 + (Int.tmod t155 9))) = 0
      ·rw [if_pos c133] at H
       exact absurd H (by simp)
      ·rw [if_neg c133] at H
       have c133b0 : ((wrap64 (1 + (Int.tmod t155 9))) == 0) = false := beq_eq_false_iff_ne.mpr c133
       have c133b1 : ((wrap64 (1 + (Int.tmod t155 9))) != 0) = true := bne_iff_ne.mpr c133
       obtain ⟨ji134, hji134⟩ : ∃ j_ : Int, (wrap64 (x11_2 + 1)) = j_ := ⟨_, rfl⟩
       replace H : (if 0 ≤ (ji134) then (if (ji134) < (l0.length : Int) then (if (wrap64 (1 + (wrap64 (t154 * 3)))) = 0 then (none) else (if y008_2.length < 1599289640401 then (roadsteadlaw10_Sub.l0 kj91 l0 a2 a3 (wrap64 (x10_2 + (wrap64 (1 + (wrap64 (Int.tmod (rd l0 x11_2) 3)))))) (wrap64 (x11_2 + 4)) a1 ((⟨#[110]⟩ : ByteArray) ++ t143) (rdOf ByteArray.empty y144 (ji9)) (rdOf ByteArray.empty y149 (ji13)) (wrap64 (1 + (wrap64 (t154 * 3)))) (wrap64 (1 + (Int.tmod t155 9))) (Int.tmod t156 a3) y007_2 (y008_2 ++ [(⟨(wrap64 (x10_2 + (wrap64 (1 + (wrap64 (Int.tmod (rd l0 x11_2) 3)))))), t167, (rdOf ByteArray.empty y168 (ji89)), wrap64 (1 + (Int.tmod (wrap64 (rd l0 (ji116))) (wrap64 (1 + (Int.tmod t155 9))))), wrap64 ((wrap64 (a2 + 1)) + (Int.tmod (wrap64 (rd l0 (ji134))) (wrap64 (1 + (wrap64 (t154 * 3)))))), false, (⟨#[]⟩ : ByteArray), x174007_91⟩ : S68)]) y009_20) else (none))) else (none)) else (none)) = some (r1, r2, r3, r4, r5, r6, r7, r8, r9, r10) := by first | (rw [hji134] at H; exact H) | (simp only [hji134] at H ⊢; exact H)
       have hji134w : (IntKind.i64.wrap (x11_2 + 1)) = ji134 := (i64_w _).trans hji134
       obtain rfl : ji134 = ji82 := hji134.symm.trans hji82
       by_cases c135 : 0 ≤ (ji134)
       ·rw [if_pos c135] at H
        have c135b0 : decide (0 ≤ (ji134)) = true := decide_eq_true c135
        clear c135
        by_cases c136 : (ji134) < (l0.length : Int)
        ·rw [if_pos c136] at H
         have c136b0 : decide ((ji134) < (l0.length : Int)) = true := decide_eq_true c136
         clear c136
         by_cases c137 : (wrap64 (1 + (wrap64 (t154 * 3)))) = 0
         ·rw [if_pos c137] at H
          exact absurd H (by simp)
         ·rw [if_neg c137] at H
          have c137b0 : ((wrap64 (1 + (wrap64 (t154 * 3)))) == 0) = false := beq_eq_false_iff_ne.mpr c137
          have c137b1 : ((wrap64 (1 + (wrap64 (t154 * 3)))) != 0) = true := bne_iff_ne.mpr c137
          by_cases c138 : y008_2.length < 1599289640401
          ·rw [if_pos c138] at H
           have LMc138 := Aside0.mk c138
           clear c138
           obtain ⟨y183, hy183⟩ : ∃ y_ : List (S68), y_ = (y008_2 ++ [(⟨(wrap64 (x10_2 + (wrap64 (1 + (wrap64 (Int.tmod (rd l0 x11_2) 3)))))), t167, (rdOf ByteArray.empty y168 (ji89)), wrap64 (1 + (Int.tmod (wrap64 (rd l0 (ji116))) (wrap64 (1 + (Int.tmod t155 9))))), wrap64 ((wrap64 (a2 + 1)) + (Int.tmod (wrap64 (rd l0 (ji134))) (wrap64 (1 + (wrap64 (t154 * 3)))))), false, (⟨#[]⟩ : ByteArray), x174007_91⟩ : S68)]) := ⟨_, rfl⟩
           replace H : (roadsteadlaw10_Sub.l0 kj91 l0 a2 a3 (wrap64 (x10_2 + (wrap64 (1 + (wrap64 (Int.tmod (rd l0 x11_2) 3)))))) (wrap64 (x11_2 + 4)) a1 ((⟨#[110]⟩ : ByteArray) ++ t143) (rdOf ByteArray.empty y144 (ji9)) (rdOf ByteArray.empty y149 (ji13)) (wrap64 (1 + (wrap64 (t154 * 3)))) (wrap64 (1 + (Int.tmod t155 9))) (Int.tmod t156 a3) y007_2 y183 y009_20) = some (r1, r2, r3, r4, r5, r6, r7, r8, r9, r10) := by first | (rw [hy183]; with_reducible exact H) | (have H2_ := (Option.bind_some _ _).symm.trans H; rw [hy183]; with_reducible exact H2_) | (have H2_ := (Option.bind_some _ _).symm.trans H; with_reducible exact H2_) | with_reducible exact H | (rw [hy183]; exact H) | exact H
           have Ny183 := Aside0.mk hy183
           clear hy183
           have H' := Aside0.mk H
           clear H
           have p176 : 0 ≤ ((ji116) : Int) := of_decide_eq_true (by first | (with_reducible assumption) | assumption)
           have q176 : (ji116) < (l0.length : Int) := of_decide_eq_true (by first | (with_reducible assumption) | assumption)
           obtain ⟨ad176, e176, hx176_0⟩ := Kd.at_int HR0.out (ji116) p176 q176
           obtain rfl : ad161 = ad176 := (by injection e176)
           replace hx176_0 := (HB.out.cell (World.block_lt_of_cell? w _ hx176_0)).trans hx176_0
           replace p176 := eq_true p176
           replace q176 := eq_true q176
           try go_wp2
           have n0_ := Aside0.mk (Kd.R_drew P7.out)
           have n1_ := Aside0.mk (Kd.R_drew P8.out)
           have n2_ := Aside0.mk (blk_drew BK141.out)
           have n3_ := Aside0.mk (blk_drew BK157.out)
           have n4_ := Aside0.mk (blk_drew BK173.out)
           have n5_ := Aside0.mk (below_drew1 HB.out)
           clear P7
           clear P8
           clear BK141
           clear BK157
           clear BK173
           clear HB
           have P7 := n0_
           have P8 := n1_
           have BK141 := n2_
           have BK157 := n3_
           have BK173 := n4_
           have HB := n5_
           clear n0_ n1_ n2_ n3_ n4_ n5_
           have p181 : 0 ≤ ((ji116) : Int) := of_decide_eq_true (by first | (with_reducible assumption) | assumption)
           have q181 : (ji116) < (l0.length : Int) := of_decide_eq_true (by first | (with_reducible assumption) | assumption)
           obtain ⟨ad181, e181, hx181_0⟩ := Kd.at_int HR0.out (ji116) p181 q181
           have hw181_0 := hx181_0
           obtain rfl : ad161 = ad181 := (by injection e181)
           replace hx181_0 := (HB.out.cell (World.block_lt_of_cell? w _ hx181_0)).trans hx181_0
           replace p181 := eq_true p181
           replace q181 := eq_true q181
           refine start_ (n := 12) (S := fun w' => w'.cell? ⟨gb157, 0, none⟩ = some (.int .i64 a1) ∧ w'.cell? ⟨gb157, 1, none⟩ = some (.string ((⟨#[110]⟩ : ByteArray) ++ t143)) ∧ w'.cell? ⟨gb157, 2, none⟩ = some (.string (rdOf ByteArray.empty y144 (ji9))) ∧ w'.cell? ⟨gb157, 3, none⟩ = some (.string (rdOf ByteArray.empty y149 (ji13))) ∧ w'.cell? ⟨gb157, 4, none⟩ = some (.int .i64 (wrap64 (1 + (wrap64 (t154 * 3))))) ∧ w'.cell? ⟨gb157, 5, none⟩ = some (.int .i64 (wrap64 (1 + (Int.tmod t155 9)))) ∧ w'.cell? ⟨gb157, 6, none⟩ = some (.int .i64 (Int.tmod t156 a3)) ∧ w'.cell? ⟨gb157, 7, none⟩ = some (z7) ∧ w'.cell? ⟨gb157, 8, none⟩ = some (.slice Ao95 y008_2.length co95) ∧ w'.cell? ⟨gb157, 9, none⟩ = some (.string y009_20) ∧ w'.cell? (ad161.add ((ji116)).toNat) = some (.int .u8 (rd l0 (ji116)))) (ds := []) #[false, false, false, false, false, false, false, false, false, false, false, false] (by kernel_rfl) rfl rfl ⟨(blk_cell BK157.out 0).trans rfl, (blk_cell BK157.out 1).trans rfl, (blk_cell BK157.out 2).trans rfl, (blk_cell BK157.out 3).trans rfl, (blk_cell BK157.out 4).trans rfl, (blk_cell BK157.out 5).trans rfl, (blk_cell BK157.out 6).trans rfl, (blk_cell BK157.out 7).trans rfl, (blk_cell BK157.out 8).trans rfl, (blk_cell BK157.out 9).trans rfl, ((HB.out.cell (World.block_lt_of_cell? w _ hw181_0)).trans hw181_0)⟩ (fun hHeld => ?_); refine with_tabW roadsteadlaw10_Sub.tab20 roadsteadlaw10_Sub.bits20 (fun HT_ HW_ => ?_)
           generalize wc.drew = w139 at P7 P8 BK141 BK157 BK173 HB hx181_0 hHeld ⊢
           refine pure_ (i := 0) (N := some 149) (v := ?_) (a' := ?_) #[true, false, false, false, false, false, false, false, false, false, false, false] rfl rfl (any_of HT_.out (by kernel_rfl)) (fun _ _ _ h => h) (Or.inl ⟨by rfl, ?_⟩) ?_ ?_
           rotate_left
           ·intro w'
            go_simp
            with_reducible rfl
           rotate_left
           ·simp only [Act.put, List.setIfInBounds_toArray, List.set_cons_zero, List.set_cons_succ, i64_w, i32_w]
            rfl
           refine pure_ (i := 1) (N := some 150) (v := ?_) (a' := ?_) #[true, true, false, false, false, false, false, false, false, false, false, false] rfl rfl (any_of HT_.out (by kernel_rfl)) (fun _ _ _ h => h) (Or.inl ⟨by rfl, ?_⟩) ?_ ?_
           rotate_left
           ·intro w'
            go_simp
            with_reducible rfl
           rotate_left
           ·simp only [Act.put, List.setIfInBounds_toArray, List.set_cons_zero, List.set_cons_succ, i64_w, i32_w]
            rfl
           refine pure_ (i := 2) (N := some 151) (v := ?_) (a' := ?_) #[true, true, true, false, false, false, false, false, false, false, false, false] rfl rfl (any_of HT_.out (by kernel_rfl)) (fun _ _ _ h => h) (Or.inl ⟨by rfl, ?_⟩) ?_ ?_
           rotate_left
           ·intro w'
            go_simp
            with_reducible rfl
           rotate_left
           ·simp only [Act.put, List.setIfInBounds_toArray, List.set_cons_zero, List.set_cons_succ, i64_w, i32_w]
            rfl
           refine pure_ (i := 3) (N := some 152) (v := ?_) (a' := ?_) #[true, true, true, true, false, false, false, false, false, false, false, false] rfl rfl (any_of HT_.out (by kernel_rfl)) (fun _ _ _ h => h) (Or.inl ⟨by rfl, ?_⟩) ?_ ?_
           rotate_left
           ·intro w'
            go_simp
            with_reducible rfl
           rotate_left
           ·simp only [Act.put, List.setIfInBounds_toArray, List.set_cons_zero, List.set_cons_succ, i64_w, i32_w]
            rfl
           refine pure_ (i := 6) (N := some 155) (v := ?_) (a' := ?_) #[true, true, true, true, false, false, true, false, false, false, false, false] rfl rfl (any_of HT_.out (by kernel_rfl)) (fun _ _ _ h => h) (Or.inl ⟨by rfl, ?_⟩) ?_ ?_
           rotate_left
           ·intro w'
            go_simp
            with_reducible rfl
           rotate_left
           ·simp only [Act.put, List.setIfInBounds_toArray, List.set_cons_zero, List.set_cons_succ, i64_w, i32_w]
            rfl
           refine take_ (i := 4) (N := some 153) (v := ?_) (a' := ?_) #[true, true, true, true, true, false, true, false, false, false, false, false] rfl rfl (take_ofW HT_.out HW_.out (by kernel_rfl)) (fun _ _ _ h => h) (Or.inl ⟨by rfl, ?_⟩) hHeld ?_ ?_
           rotate_left
           ·rintro w' ⟨s0, s1, s2, s3, s4, s5, s6, s7, s8, s9, s10⟩
            go_simp
            with_reducible rfl
           rotate_left
           ·simp only [Act.put, List.setIfInBounds_toArray, List.set_cons_zero, List.set_cons_succ, i64_w, i32_w]
            rfl
           refine pure_ (i := 5) (N := some 154) (v := ?_) (a' := ?_) #[true, true, true, true, true, true, true, false, false, false, false, false] rfl rfl (any_of HT_.out (by kernel_rfl)) (fun _ _ _ h => h) (Or.inl ⟨by rfl, ?_⟩) ?_ ?_
           rotate_left
           ·intro w'
            go_simp
            with_reducible rfl
           rotate_left
           ·simp only [Act.put, List.setIfInBounds_toArray, List.set_cons_zero, List.set_cons_succ, i64_w, i32_w]
            rfl
           refine take_ (i := 7) (N := some 156) (v := ?_) (a' := ?_) #[true, true, true, true, true, true, true, true, false, false, false, false] rfl rfl (take_ofW HT_.out HW_.out (by kernel_rfl)) (fun _ _ _ h => h) (Or.inl ⟨by rfl, ?_⟩) hHeld ?_ ?_
           rotate_left
           ·rintro w' ⟨s0, s1, s2, s3, s4, s5, s6, s7, s8, s9, s10⟩
            go_simp
            with_reducible rfl
           rotate_left
           ·simp only [Act.put, List.setIfInBounds_toArray, List.set_cons_zero, List.set_cons_succ, i64_w, i32_w]
            rfl
           refine pure_ (i := 8) (N := some 157) (v := ?_) (a' := ?_) #[true, true, true, true, true, true, true, true, true, false, false, false] rfl rfl (any_of HT_.out (by kernel_rfl)) (fun _ _ _ h => h) (Or.inl ⟨by rfl, ?_⟩) ?_ ?_
           rotate_left
           ·intro w'
            go_simp
            with_reducible rfl
           rotate_left
           ·simp only [Act.put, List.setIfInBounds_toArray, List.set_cons_zero, List.set_cons_succ, i64_w, i32_w]
            rfl
           refine pure_ (i := 9) (N := some 158) (v := ?_) (a' := ?_) #[true, true, true, true, true, true, true, true, true, true, false, false] rfl rfl (any_of HT_.out (by kernel_rfl)) (fun _ _ _ h => h) (Or.inl ⟨by rfl, ?_⟩) ?_ ?_
           rotate_left
           ·intro w'
            go_simp
            with_reducible rfl
           rotate_left
           ·simp only [Act.put, List.setIfInBounds_toArray, List.set_cons_zero, List.set_cons_succ, i64_w, i32_w]
            rfl
           refine pure_ (i := 10) (N := some 159) (v := ?_) (a' := ?_) #[true, true, true, true, true, true, true, true, true, true, true, false] rfl rfl (any_of HT_.out (by kernel_rfl)) (fun _ _ _ h => h) (Or.inl ⟨by rfl, ?_⟩) ?_ ?_
           rotate_left
           ·intro w'
            go_simp
            with_reducible rfl
           rotate_left
           ·simp only [Act.put, List.setIfInBounds_toArray, List.set_cons_zero, List.set_cons_succ, i64_w, i32_w]
            rfl
           refine one_ (i := 11) (N := none) #[true, true, true, true, true, true, true, true, true, true, true, true] rfl rfl (one_of HT_.out (by kernel_rfl)) (by decide) (fun K hK => ?_)
           have hs140 : w139.cell? ⟨gb173, 3, none⟩ = some (.int .i64 0) := (blk_cell BK173.out 3).trans rfl
           have hfs140 := blk_frozen BK173.out 3
           have hns140_0 := NB141_173.out
           have hns140_1 := NB157_173.out
           have hms140_0 := NB173_141.out
           have hms140_1 := NB173_157.out
           refine skip_ (w1 := ?_) (by rfl) rfl ?_ ?_
           rotate_left
           ·go_simp
            rfl
           refine hK.out _ _ ⟨((cell_far (p := ⟨gb173, _, none⟩) NB157_173.out _).trans (hHeld.1)), ((cell_far (p := ⟨gb173, _, none⟩) NB157_173.out _).trans (hHeld.2.1)), ((cell_far (p := ⟨gb173, _, none⟩) NB157_173.out _).trans (hHeld.2.2.1)), ((cell_far (p := ⟨gb173, _, none⟩) NB157_173.out _).trans (hHeld.2.2.2.1)), ((cell_far (p := ⟨gb173, _, none⟩) NB157_173.out _).trans (hHeld.2.2.2.2.1)), ((cell_far (p := ⟨gb173, _, none⟩) NB157_173.out _).trans (hHeld.2.2.2.2.2.1)), ((cell_far (p := ⟨gb173, _, none⟩) NB157_173.out _).trans (hHeld.2.2.2.2.2.2.1)), ((cell_far (p := ⟨gb173, _, none⟩) NB157_173.out _).trans (hHeld.2.2.2.2.2.2.2.1)), ((cell_far (p := ⟨gb173, _, none⟩) NB157_173.out _).trans (hHeld.2.2.2.2.2.2.2.2.1)), ((cell_far (p := ⟨gb173, _, none⟩) NB157_173.out _).trans (hHeld.2.2.2.2.2.2.2.2.2.1)), ((cell_far (p := ⟨gb173, _, none⟩) (by first | exact Nat.ne_of_lt (Nat.lt_of_lt_of_le (by have := World.block_lt_of_cell? _ _ hw181_0; first | rwa [add_block] at this | exact this) GW173.out) | (rw [add_block]; exact Nat.ne_of_lt (Nat.lt_of_lt_of_le (by have := World.block_lt_of_cell? _ _ hw181_0; first | rwa [add_block] at this | exact this) GW173.out)) | (show (Addr.add _ _).block ≠ _; rw [add_block]; exact Nat.ne_of_lt (Nat.lt_of_lt_of_le (by have := World.block_lt_of_cell? _ _ hw181_0; first | rwa [add_block] at this | exact this) GW173.out)) | (dsimp only; exact Nat.ne_of_lt (Nat.lt_of_lt_of_le (by have := World.block_lt_of_cell? _ _ hw181_0; first | rwa [add_block] at this | exact this) GW173.out))) _).trans (hHeld.2.2.2.2.2.2.2.2.2.2))⟩ (fun hHeld => ?_)
           clear hK K
           refine done_ (done_of HT_.out (by kernel_rfl)) ?_
           try go_wp2
           have n0_ : Aside0 (Kd.R (Kd.int .i64) 3 (w139.setCell ⟨gb173, 3, none⟩ (.int .i64 (wrap64 (1 + (Int.tmod (wrap64 (rd l0 (ji116))) (wrap64 (1 + (Int.tmod t155 9)))))))) w.heap.size (fun _ => True) z7 y007_2) := ⟨by (with_reducible repeat (first | apply Kd.R_alloc | apply Kd.R_drewN | apply Kd.R_drew)); exact Kd.R_mono (Kd.R_far (p := ⟨gb173, 3, none⟩) (Kd.R_types P7.out BK173.out (by decide)) (fun _ hk => hk.2) (.int .i64 (wrap64 (1 + (Int.tmod (wrap64 (rd l0 (ji116))) (wrap64 (1 + (Int.tmod t155 9)))))))) (fun _ hk => trivial)⟩
           have n1_ : Aside0 (Kd.R k68 68 (w139.setCell ⟨gb173, 3, none⟩ (.int .i64 (wrap64 (1 + (Int.tmod (wrap64 (rd l0 (ji116))) (wrap64 (1 + (Int.tmod t155 9)))))))) w.heap.size (fun k_ => k_ ≠ gb173) (.slice Ao95 y008_2.length co95) y008_2) := ⟨by (with_reducible repeat (first | apply Kd.R_alloc | apply Kd.R_drewN | apply Kd.R_drew)); exact Kd.R_mono (Kd.R_far (p := ⟨gb173, 3, none⟩) (Kd.R_mono P8.out (fun k_ hk => (⟨hk, hk⟩ : _ ∧ k_ ≠ gb173))) (fun _ hk => hk.2) (.int .i64 (wrap64 (1 + (Int.tmod (wrap64 (rd l0 (ji116))) (wrap64 (1 + (Int.tmod t155 9)))))))) (fun _ hk => hk.1)⟩
           have n2_ : Aside0 ((w139.setCell ⟨gb173, 3, none⟩ (.int .i64 (wrap64 (1 + (Int.tmod (wrap64 (rd l0 (ji116))) (wrap64 (1 + (Int.tmod t155 9)))))))).heap[gb141]? = some (.cells #[.int .i64 0, .string (⟨#[]⟩ : ByteArray), .string (⟨#[]⟩ : ByteArray), .string (⟨#[]⟩ : ByteArray), .int .i64 0, .int .i64 0, .int .i64 0, .slice none 0 0, .slice none 0 0, .string (⟨#[]⟩ : ByteArray)] 46 (0, 0))) := ⟨by (with_reducible repeat (first | refine blk_drewN ?_ _ | refine blk_drew ?_ | refine blk_alloc ?_ _)); refine blk_far ?_ NB141_173.out _; exact BK141.out⟩
           have n3_ : Aside0 ((w139.setCell ⟨gb173, 3, none⟩ (.int .i64 (wrap64 (1 + (Int.tmod (wrap64 (rd l0 (ji116))) (wrap64 (1 + (Int.tmod t155 9)))))))).heap[gb157]? = some (.cells #[.int .i64 a1, .string ((⟨#[110]⟩ : ByteArray) ++ t143), .string (rdOf ByteArray.empty y144 (ji9)), .string (rdOf ByteArray.empty y149 (ji13)), .int .i64 (wrap64 (1 + (wrap64 (t154 * 3)))), .int .i64 (wrap64 (1 + (Int.tmod t155 9))), .int .i64 (Int.tmod t156 a3), z7, .slice Ao95 y008_2.length co95, .string y009_20] 46 (0, 0))) := ⟨by (with_reducible repeat (first | refine blk_drewN ?_ _ | refine blk_drew ?_ | refine blk_alloc ?_ _)); refine blk_far ?_ NB157_173.out _; exact BK157.out⟩
           have n4_ : Aside0 ((w139.setCell ⟨gb173, 3, none⟩ (.int .i64 (wrap64 (1 + (Int.tmod (wrap64 (rd l0 (ji116))) (wrap64 (1 + (Int.tmod t155 9)))))))).heap[gb173]? = some (.cells #[.int .i64 (wrap64 (x10_2 + (wrap64 (1 + (wrap64 (Int.tmod (rd l0 x11_2) 3)))))), .string t167, .string (rdOf ByteArray.empty y168 (ji89)), .int .i64 (wrap64 (1 + (Int.tmod (wrap64 (rd l0 (ji116))) (wrap64 (1 + (Int.tmod t155 9)))))), .int .i64 0, .bool false, .string (⟨#[]⟩ : ByteArray), .int .i64 x174007_91] 68 (0, 0))) := ⟨by (with_reducible repeat (first | refine blk_drewN ?_ _ | refine blk_drew ?_ | refine blk_alloc ?_ _)); refine blk_put (cs := #[.int .i64 (wrap64 (x10_2 + (wrap64 (1 + (wrap64 (Int.tmod (rd l0 x11_2) 3)))))), .string t167, .string (rdOf ByteArray.empty y168 (ji89)), .int .i64 0, .int .i64 0, .bool false, .string (⟨#[]⟩ : ByteArray), .int .i64 x174007_91]) ?_ 3 _ rfl; exact BK173.out⟩
           have n5_ : Aside0 (Below w.heap.size w (w139.setCell ⟨gb173, 3, none⟩ (.int .i64 (wrap64 (1 + (Int.tmod (wrap64 (rd l0 (ji116))) (wrap64 (1 + (Int.tmod t155 9))))))))) := ⟨by repeat (with_reducible first | exact HB.out | apply below_alloc | apply pw_below_drewN | apply below_drew1 | refine below_set ?_ GE141.out | refine below_set ?_ GE157.out | refine below_set ?_ GE173.out)⟩
           (try clear P7)
           (try clear P8)
           (try clear BK141)
           (try clear BK157)
           (try clear BK173)
           (try clear HB)
           generalize (w139.setCell ⟨gb173, 3, none⟩ (.int .i64 (wrap64 (1 + (Int.tmod (wrap64 (rd l0 (ji116))) (wrap64 (1 + (Int.tmod t155 9)))))))) = w141 at n0_ n1_ n2_ n3_ n4_ n5_ ⊢
           have P7 := n0_
           have P8 := n1_
           have BK141 := n2_
           have BK157 := n3_
           have BK173 := n4_
           have HB := n5_
           clear n0_ n1_ n2_ n3_ n4_ n5_
           have n0_ := Aside0.mk (Kd.R_drew P7.out)
           have n1_ := Aside0.mk (Kd.R_drew P8.out)
           have n2_ := Aside0.mk (blk_drew BK141.out)
           have n3_ := Aside0.mk (blk_drew BK157.out)
           have n4_ := Aside0.mk (blk_drew BK173.out)
           have n5_ := Aside0.mk (below_drew1 HB.out)
           clear P7
           clear P8
           clear BK141
           clear BK157
           clear BK173
           clear HB
           have P7 := n0_
           have P8 := n1_
           have BK141 := n2_
           have BK157 := n3_
           have BK173 := n4_
           have HB := n5_
           clear n0_ n1_ n2_ n3_ n4_ n5_
           have p182 : 0 ≤ ((ji134) : Int) := of_decide_eq_true (by first | (with_reducible assumption) | assumption)
           have q182 : (ji134) < (l0.length : Int) := of_decide_eq_true (by first | (with_reducible assumption) | assumption)
           obtain ⟨ad182, e182, hx182_0⟩ := Kd.at_int HR0.out (ji134) p182 q182
           have hw182_0 := hx182_0
           obtain rfl : ad161 = ad182 := (by injection e182)
           replace hx182_0 := (HB.out.cell (World.block_lt_of_cell? w _ hx182_0)).trans hx182_0
           replace p182 := eq_true p182
           replace q182 := eq_true q182
           refine start_ (n := 14) (S := fun w' => w'.cell? ⟨gb157, 0, none⟩ = some (.int .i64 a1) ∧ w'.cell? ⟨gb157, 1, none⟩ = some (.string ((⟨#[110]⟩ : ByteArray) ++ t143)) ∧ w'.cell? ⟨gb157, 2, none⟩ = some (.string (rdOf ByteArray.empty y144 (ji9))) ∧ w'.cell? ⟨gb157, 3, none⟩ = some (.string (rdOf ByteArray.empty y149 (ji13))) ∧ w'.cell? ⟨gb157, 4, none⟩ = some (.int .i64 (wrap64 (1 + (wrap64 (t154 * 3))))) ∧ w'.cell? ⟨gb157, 5, none⟩ = some (.int .i64 (wrap64 (1 + (Int.tmod t155 9)))) ∧ w'.cell? ⟨gb157, 6, none⟩ = some (.int .i64 (Int.tmod t156 a3)) ∧ w'.cell? ⟨gb157, 7, none⟩ = some (z7) ∧ w'.cell? ⟨gb157, 8, none⟩ = some (.slice Ao95 y008_2.length co95) ∧ w'.cell? ⟨gb157, 9, none⟩ = some (.string y009_20) ∧ w'.cell? (ad161.add ((ji134)).toNat) = some (.int .u8 (rd l0 (ji134)))) (ds := []) #[false, false, false, false, false, false, false, false, false, false, false, false, false, false] (by kernel_rfl) rfl rfl ⟨(blk_cell BK157.out 0).trans rfl, (blk_cell BK157.out 1).trans rfl, (blk_cell BK157.out 2).trans rfl, (blk_cell BK157.out 3).trans rfl, (blk_cell BK157.out 4).trans rfl, (blk_cell BK157.out 5).trans rfl, (blk_cell BK157.out 6).trans rfl, (blk_cell BK157.out 7).trans rfl, (blk_cell BK157.out 8).trans rfl, (blk_cell BK157.out 9).trans rfl, ((HB.out.cell (World.block_lt_of_cell? w _ hw182_0)).trans hw182_0)⟩ (fun hHeld => ?_); refine with_tabW roadsteadlaw10_Sub.tab21 roadsteadlaw10_Sub.bits21 (fun HT_ HW_ => ?_)
           generalize w141.drew = w142 at P7 P8 BK141 BK157 BK173 HB hx182_0 hHeld ⊢
           refine pure_ (i := 0) (N := some 160) (v := ?_) (a' := ?_) #[true, false, false, false, false, false, false, false, false, false, false, false, false, false] rfl rfl (any_of HT_.out (by kernel_rfl)) (fun _ _ _ h => h) (Or.inl ⟨by rfl, ?_⟩) ?_ ?_
           rotate_left
           ·intro w'
            go_simp
            with_reducible rfl
           rotate_left
           ·simp only [Act.put, List.setIfInBounds_toArray, List.set_cons_zero, List.set_cons_succ, i64_w, i32_w]
            rfl
           refine pure_ (i := 1) (N := some 161) (v := ?_) (a' := ?_) #[true, true, false, false, false, false, false, false, false, false, false, false, false, false] rfl rfl (any_of HT_.out (by kernel_rfl)) (fun _ _ _ h => h) (Or.inl ⟨by rfl, ?_⟩) ?_ ?_
           rotate_left
           ·intro w'
            go_simp
            with_reducible rfl
           rotate_left
           ·simp only [Act.put, List.setIfInBounds_toArray, List.set_cons_zero, List.set_cons_succ, i64_w, i32_w]
            rfl
           refine pure_ (i := 2) (N := some 162) (v := ?_) (a' := ?_) #[true, true, true, false, false, false, false, false, false, false, false, false, false, false] rfl rfl (any_of HT_.out (by kernel_rfl)) (fun _ _ _ h => h) (Or.inl ⟨by rfl, ?_⟩) ?_ ?_
           rotate_left
           ·intro w'
            go_simp
            with_reducible rfl
           rotate_left
           ·simp only [Act.put, List.setIfInBounds_toArray, List.set_cons_zero, List.set_cons_succ, i64_w, i32_w]
            rfl
           refine pure_ (i := 3) (N := some 163) (v := ?_) (a' := ?_) #[true, true, true, true, false, false, false, false, false, false, false, false, false, false] rfl rfl (any_of HT_.out (by kernel_rfl)) (fun _ _ _ h => h) (Or.inl ⟨by rfl, ?_⟩) ?_ ?_
           rotate_left
           ·intro w'
            go_simp
            with_reducible rfl
           rotate_left
           ·simp only [Act.put, List.setIfInBounds_toArray, List.set_cons_zero, List.set_cons_succ, i64_w, i32_w]
            rfl
           refine pure_ (i := 4) (N := some 164) (v := ?_) (a' := ?_) #[true, true, true, true, true, false, false, false, false, false, false, false, false, false] rfl rfl (any_of HT_.out (by kernel_rfl)) (fun _ _ _ h => h) (Or.inl ⟨by rfl, ?_⟩) ?_ ?_
           rotate_left
           ·intro w'
            go_simp
            with_reducible rfl
           rotate_left
           ·simp only [Act.put, List.setIfInBounds_toArray, List.set_cons_zero, List.set_cons_succ, i64_w, i32_w]
            rfl
           refine pure_ (i := 5) (N := some 165) (v := ?_) (a' := ?_) #[true, true, true, true, true, true, false, false, false, false, false, false, false, false] rfl rfl (any_of HT_.out (by kernel_rfl)) (fun _ _ _ h => h) (Or.inl ⟨by rfl, ?_⟩) ?_ ?_
           rotate_left
           ·intro w'
            go_simp
            with_reducible rfl
           rotate_left
           ·simp only [Act.put, List.setIfInBounds_toArray, List.set_cons_zero, List.set_cons_succ, i64_w, i32_w]
            rfl
           refine pure_ (i := 8) (N := some 168) (v := ?_) (a' := ?_) #[true, true, true, true, true, true, false, false, true, false, false, false, false, false] rfl rfl (any_of HT_.out (by kernel_rfl)) (fun _ _ _ h => h) (Or.inl ⟨by rfl, ?_⟩) ?_ ?_
           rotate_left
           ·intro w'
            go_simp
            with_reducible rfl
           rotate_left
           ·simp only [Act.put, List.setIfInBounds_toArray, List.set_cons_zero, List.set_cons_succ, i64_w, i32_w]
            rfl
           refine take_ (i := 6) (N := some 166) (v := ?_) (a' := ?_) #[true, true, true, true, true, true, true, false, true, false, false, false, false, false] rfl rfl (take_ofW HT_.out HW_.out (by kernel_rfl)) (fun _ _ _ h => h) (Or.inl ⟨by rfl, ?_⟩) hHeld ?_ ?_
           rotate_left
           ·rintro w' ⟨s0, s1, s2, s3, s4, s5, s6, s7, s8, s9, s10⟩
            go_simp
            with_reducible rfl
           rotate_left
           ·simp only [Act.put, List.setIfInBounds_toArray, List.set_cons_zero, List.set_cons_succ, i64_w, i32_w]
            rfl
           refine pure_ (i := 7) (N := some 167) (v := ?_) (a' := ?_) #[true, true, true, true, true, true, true, true, true, false, false, false, false, false] rfl rfl (any_of HT_.out (by kernel_rfl)) (fun _ _ _ h => h) (Or.inl ⟨by rfl, ?_⟩) ?_ ?_
           rotate_left
           ·intro w'
            go_simp
            with_reducible rfl
           rotate_left
           ·simp only [Act.put, List.setIfInBounds_toArray, List.set_cons_zero, List.set_cons_succ, i64_w, i32_w]
            rfl
           refine take_ (i := 9) (N := some 169) (v := ?_) (a' := ?_) #[true, true, true, true, true, true, true, true, true, true, false, false, false, false] rfl rfl (take_ofW HT_.out HW_.out (by kernel_rfl)) (fun _ _ _ h => h) (Or.inl ⟨by rfl, ?_⟩) hHeld ?_ ?_
           rotate_left
           ·rintro w' ⟨s0, s1, s2, s3, s4, s5, s6, s7, s8, s9, s10⟩
            go_simp
            with_reducible rfl
           rotate_left
           ·simp only [Act.put, List.setIfInBounds_toArray, List.set_cons_zero, List.set_cons_succ, i64_w, i32_w]
            rfl
           refine pure_ (i := 10) (N := some 170) (v := ?_) (a' := ?_) #[true, true, true, true, true, true, true, true, true, true, true, false, false, false] rfl rfl (any_of HT_.out (by kernel_rfl)) (fun _ _ _ h => h) (Or.inl ⟨by rfl, ?_⟩) ?_ ?_
           rotate_left
           ·intro w'
            go_simp
            with_reducible rfl
           rotate_left
           ·simp only [Act.put, List.setIfInBounds_toArray, List.set_cons_zero, List.set_cons_succ, i64_w, i32_w]
            rfl
           refine pure_ (i := 11) (N := some 171) (v := ?_) (a' := ?_) #[true, true, true, true, true, true, true, true, true, true, true, true, false, false] rfl rfl (any_of HT_.out (by kernel_rfl)) (fun _ _ _ h => h) (Or.inl ⟨by rfl, ?_⟩) ?_ ?_
           rotate_left
           ·intro w'
            go_simp
            with_reducible rfl
           rotate_left
           ·simp only [Act.put, List.setIfInBounds_toArray, List.set_cons_zero, List.set_cons_succ, i64_w, i32_w]
            rfl
           refine pure_ (i := 12) (N := some 172) (v := ?_) (a' := ?_) #[true, true, true, true, true, true, true, true, true, true, true, true, true, false] rfl rfl (any_of HT_.out (by kernel_rfl)) (fun _ _ _ h => h) (Or.inl ⟨by rfl, ?_⟩) ?_ ?_
           rotate_left
           ·intro w'
            go_simp
            with_reducible rfl
           rotate_left
           ·simp only [Act.put, List.setIfInBounds_toArray, List.set_cons_zero, List.set_cons_succ, i64_w, i32_w]
            rfl
           refine one_ (i := 13) (N := none) #[true, true, true, true, true, true, true, true, true, true, true, true, true, true] rfl rfl (one_of HT_.out (by kernel_rfl)) (by decide) (fun K hK => ?_)
           have hs143 : w142.cell? ⟨gb173, 4, none⟩ = some (.int .i64 0) := (blk_cell BK173.out 4).trans rfl
           have hfs143 := blk_frozen BK173.out 4
           have hns143_0 := NB141_173.out
           have hns143_1 := NB157_173.out
           have hms143_0 := NB173_141.out
           have hms143_1 := NB173_157.out
           refine skip_ (w1 := ?_) (by rfl) rfl ?_ ?_
           rotate_left
           ·go_simp
            rfl
           refine hK.out _ _ ⟨((cell_far (p := ⟨gb173, _, none⟩) NB157_173.out _).trans (hHeld.1)), ((cell_far (p := ⟨gb173, _, none⟩) NB157_173.out _).trans (hHeld.2.1)), ((cell_far (p := ⟨gb173, _, none⟩) NB157_173.out _).trans (hHeld.2.2.1)), ((cell_far (p := ⟨gb173, _, none⟩) NB157_173.out _).trans (hHeld.2.2.2.1)), ((cell_far (p := ⟨gb173, _, none⟩) NB157_173.out _).trans (hHeld.2.2.2.2.1)), ((cell_far (p := ⟨gb173, _, none⟩) NB157_173.out _).trans (hHeld.2.2.2.2.2.1)), ((cell_far (p := ⟨gb173, _, none⟩) NB157_173.out _).trans (hHeld.2.2.2.2.2.2.1)), ((cell_far (p := ⟨gb173, _, none⟩) NB157_173.out _).trans (hHeld.2.2.2.2.2.2.2.1)), ((cell_far (p := ⟨gb173, _, none⟩) NB157_173.out _).trans (hHeld.2.2.2.2.2.2.2.2.1)), ((cell_far (p := ⟨gb173, _, none⟩) NB157_173.out _).trans (hHeld.2.2.2.2.2.2.2.2.2.1)), ((cell_far (p := ⟨gb173, _, none⟩) (by first | exact Nat.ne_of_lt (Nat.lt_of_lt_of_le (by have := World.block_lt_of_cell? _ _ hw182_0; first | rwa [add_block] at this | exact this) GW173.out) | (rw [add_block]; exact Nat.ne_of_lt (Nat.lt_of_lt_of_le (by have := World.block_lt_of_cell? _ _ hw182_0; first | rwa [add_block] at this | exact this) GW173.out)) | (show (Addr.add _ _).block ≠ _; rw [add_block]; exact Nat.ne_of_lt (Nat.lt_of_lt_of_le (by have := World.block_lt_of_cell? _ _ hw182_0; first | rwa [add_block] at this | exact this) GW173.out)) | (dsimp only; exact Nat.ne_of_lt (Nat.lt_of_lt_of_le (by have := World.block_lt_of_cell? _ _ hw182_0; first | rwa [add_block] at this | exact this) GW173.out))) _).trans (hHeld.2.2.2.2.2.2.2.2.2.2))⟩ (fun hHeld => ?_)
           clear hK K
           refine done_ (done_of HT_.out (by kernel_rfl)) ?_
           have hnb144 := NB157_141.out
           have hnc144 := NB141_157.out
           have hnb145 := NB157_173.out
           have hnc145 := NB173_157.out
           have hcz146_0 : w142.cell? ⟨gb157, 0, none⟩ = some (.int .i64 a1) := (blk_cell BK157.out 0).trans rfl
           have hcz146_1 : w142.cell? ⟨gb157, 1, none⟩ = some (.string ((⟨#[110]⟩ : ByteArray) ++ t143)) := (blk_cell BK157.out 1).trans rfl
           have hcz146_2 : w142.cell? ⟨gb157, 2, none⟩ = some (.string (rdOf ByteArray.empty y144 (ji9))) := (blk_cell BK157.out 2).trans rfl
           have hcz146_3 : w142.cell? ⟨gb157, 3, none⟩ = some (.string (rdOf ByteArray.empty y149 (ji13))) := (blk_cell BK157.out 3).trans rfl
           have hcz146_4 : w142.cell? ⟨gb157, 4, none⟩ = some (.int .i64 (wrap64 (1 + (wrap64 (t154 * 3))))) := (blk_cell BK157.out 4).trans rfl
           have hcz146_5 : w142.cell? ⟨gb157, 5, none⟩ = some (.int .i64 (wrap64 (1 + (Int.tmod t155 9)))) := (blk_cell BK157.out 5).trans rfl
           have hcz146_6 : w142.cell? ⟨gb157, 6, none⟩ = some (.int .i64 (Int.tmod t156 a3)) := (blk_cell BK157.out 6).trans rfl
           have hcz146_7 : w142.cell? ⟨gb157, 7, none⟩ = some (z7) := (blk_cell BK157.out 7).trans rfl
           have hcz146_8 : w142.cell? ⟨gb157, 8, none⟩ = some (.slice Ao95 y008_2.length co95) := (blk_cell BK157.out 8).trans rfl
           have hcz146_9 : w142.cell? ⟨gb157, 9, none⟩ = some (.string y009_20) := (blk_cell BK157.out 9).trans rfl
           have hfz146_0 := blk_frozen BK157.out 0
           have hfz146_1 := blk_frozen BK157.out 1
           have hfz146_2 := blk_frozen BK157.out 2
           have hfz146_3 := blk_frozen BK157.out 3
           have hfz146_4 := blk_frozen BK157.out 4
           have hfz146_5 := blk_frozen BK157.out 5
           have hfz146_6 := blk_frozen BK157.out 6
           have hfz146_7 := blk_frozen BK157.out 7
           have hfz146_8 := blk_frozen BK157.out 8
           have hfz146_9 := blk_frozen BK157.out 9
           have hnb147 := NB173_141.out
           have hnc147 := NB141_173.out
           have hcz148_0 : w142.cell? ⟨gb173, 0, none⟩ = some (.int .i64 (wrap64 (x10_2 + (wrap64 (1 + (wrap64 (Int.tmod (rd l0 x11_2) 3))))))) := (blk_cell BK173.out 0).trans rfl
           have hcz148_1 : w142.cell? ⟨gb173, 1, none⟩ = some (.string t167) := (blk_cell BK173.out 1).trans rfl
           have hcz148_2 : w142.cell? ⟨gb173, 2, none⟩ = some (.string (rdOf ByteArray.empty y168 (ji89))) := (blk_cell BK173.out 2).trans rfl
           have hcz148_3 : w142.cell? ⟨gb173, 3, none⟩ = some (.int .i64 (wrap64 (1 + (Int.tmod (wrap64 (rd l0 (ji116))) (wrap64 (1 + (Int.tmod t155 9))))))) := (blk_cell BK173.out 3).trans rfl
           have hcz148_4 : w142.cell? ⟨gb173, 4, none⟩ = some (.int .i64 0) := (blk_cell BK173.out 4).trans rfl
           have hcz148_5 : w142.cell? ⟨gb173, 5, none⟩ = some (.bool false) := (blk_cell BK173.out 5).trans rfl
           have hcz148_6 : w142.cell? ⟨gb173, 6, none⟩ = some (.string (⟨#[]⟩ : ByteArray)) := (blk_cell BK173.out 6).trans rfl
           have hcz148_7 : w142.cell? ⟨gb173, 7, none⟩ = some (.int .i64 x174007_91) := (blk_cell BK173.out 7).trans rfl
           have hfz148_0 := blk_frozen BK173.out 0
           have hfz148_1 := blk_frozen BK173.out 1
           have hfz148_2 := blk_frozen BK173.out 2
           have hfz148_3 := blk_frozen BK173.out 3
           have hfz148_4 := blk_frozen BK173.out 4
           have hfz148_5 := blk_frozen BK173.out 5
           have hfz148_6 := blk_frozen BK173.out 6
           have hfz148_7 := blk_frozen BK173.out 7
           try go_wp2_with (first | ((with_reducible refine gate_builtin (b := .append) (xs := #[.tmp 190, .tmp 192]) rfl ?_); (try (refine gate_guard (by rfl) ?_; dsimp only)); at_builtin; refine Kd.R_append k68 (w0 := w) w.heap.size rfl (.tmp 190) (.tmp 192) 44 68 (.agg #[(.int .i64 0), (.string ⟨#[]⟩), (.string ⟨#[]⟩), (.int .i64 0), (.int .i64 0), (.bool false), (.string ⟨#[]⟩), (.int .i64 0)]) 88 rfl Try.underlying44 info68 rfl (by decide) (by omega) (.slice Ao95 y008_2.length co95) y008_2 (⟨(wrap64 (x10_2 + (wrap64 (1 + (wrap64 (Int.tmod (rd l0 x11_2) 3)))))), t167, (rdOf ByteArray.empty y168 (ji89)), wrap64 (1 + (Int.tmod (wrap64 (rd l0 (ji116))) (wrap64 (1 + (Int.tmod t155 9))))), wrap64 ((wrap64 (a2 + 1)) + (Int.tmod (wrap64 (rd l0 (ji134))) (wrap64 (1 + (wrap64 (t154 * 3)))))), false, (⟨#[]⟩ : ByteArray), x174007_91⟩ : S68) [.int .i64 (wrap64 (x10_2 + (wrap64 (1 + (wrap64 (Int.tmod (rd l0 x11_2) 3)))))), .string t167, .string (rdOf ByteArray.empty y168 (ji89)), .int .i64 (wrap64 (1 + (Int.tmod (wrap64 (rd l0 (ji116))) (wrap64 (1 + (Int.tmod t155 9)))))), .int .i64 (wrap64 ((wrap64 (a2 + 1)) + (Int.tmod (wrap64 (rd l0 (ji134))) (wrap64 (1 + (wrap64 (t154 * 3))))))), .bool false, .string (⟨#[]⟩ : ByteArray), .int .i64 x174007_91] (fun k_ => k_ ≠ gb173) (fun _ => False) rfl (by first | (go_simp; done) | (go_simp; rfl)) ?aP (fun _ hk => hk.elim) ?aF ?aO ?aB ?aS ?aL ?_; (case aP => exact k68_mkM _ _ _ (⟨(wrap64 (x10_2 + (wrap64 (1 + (wrap64 (Int.tmod (rd l0 x11_2) 3)))))), t167, (rdOf ByteArray.empty y168 (ji89)), wrap64 (1 + (Int.tmod (wrap64 (rd l0 (ji116))) (wrap64 (1 + (Int.tmod t155 9))))), wrap64 ((wrap64 (a2 + 1)) + (Int.tmod (wrap64 (rd l0 (ji134))) (wrap64 (1 + (wrap64 (t154 * 3)))))), false, (⟨#[]⟩ : ByteArray), x174007_91⟩ : S68)); (case aB => exact (by repeat (with_reducible first | exact HB.out | apply below_alloc | apply pw_below_drewN | apply below_drew1 | refine below_set ?_ GE141.out | refine below_set ?_ GE157.out | refine below_set ?_ GE173.out))); (case aF => exact (fun k_ hk => Kd.freshB (g := gb173) (o := .cells #[.int .i64 (wrap64 (x10_2 + (wrap64 (1 + (wrap64 (Int.tmod (rd l0 x11_2) 3)))))), .string t167, .string (rdOf ByteArray.empty y168 (ji89)), .int .i64 (wrap64 (1 + (Int.tmod (wrap64 (rd l0 (ji116))) (wrap64 (1 + (Int.tmod t155 9)))))), .int .i64 (wrap64 ((wrap64 (a2 + 1)) + (Int.tmod (wrap64 (rd l0 (ji134))) (wrap64 (1 + (wrap64 (t154 * 3))))))), .bool false, .string (⟨#[]⟩ : ByteArray), .int .i64 x174007_91] 68 (0, 0)) (by (with_reducible repeat (first | refine blk_drewN ?_ _ | refine blk_drew ?_ | refine blk_alloc ?_ _)); refine blk_put (cs := #[.int .i64 (wrap64 (x10_2 + (wrap64 (1 + (wrap64 (Int.tmod (rd l0 x11_2) 3)))))), .string t167, .string (rdOf ByteArray.empty y168 (ji89)), .int .i64 (wrap64 (1 + (Int.tmod (wrap64 (rd l0 (ji116))) (wrap64 (1 + (Int.tmod t155 9)))))), .int .i64 0, .bool false, .string (⟨#[]⟩ : ByteArray), .int .i64 x174007_91]) ?_ 4 _ rfl; exact BK173.out) k_ hk)); (case aO => exact (by (with_reducible repeat (first | apply Kd.R_alloc | apply Kd.R_drewN | apply Kd.R_drew)); exact Kd.R_mono (Kd.R_far (p := ⟨gb173, 4, none⟩) (Kd.R_mono P8.out (fun k_ hk => (⟨hk, hk⟩ : _ ∧ k_ ≠ gb173))) (fun _ hk => hk.2) (.int .i64 (wrap64 ((wrap64 (a2 + 1)) + (Int.tmod (wrap64 (rd l0 (ji134))) (wrap64 (1 + (wrap64 (t154 * 3))))))))) (fun _ hk => hk.1))); (case aS => exact (below_size (by repeat (with_reducible first | exact HB.out | apply below_alloc | apply pw_below_drewN | apply below_drew1 | refine below_set ?_ GE141.out | refine below_set ?_ GE157.out | refine below_set ?_ GE173.out)))); (case aL => have := LMc138.out; omega); intro v184 w149 ho hb hg hat; rw [← Ny183.out] at ho; have n0_ := Aside0.mk (Kd.R_over' (by (with_reducible repeat (first | apply Kd.R_alloc | apply Kd.R_drewN | apply Kd.R_drew)); exact (Kd.R_mono (Kd.R_far (p := ⟨gb173, 4, none⟩) (Kd.R_types P7.out BK173.out (by decide)) (fun _ hk => hk.2) (.int .i64 (wrap64 ((wrap64 (a2 + 1)) + (Int.tmod (wrap64 (rd l0 (ji134))) (wrap64 (1 + (wrap64 (t154 * 3))))))))) (fun _ h_ => h_.1))) (Kd.R_typed (by (with_reducible repeat (first | apply Kd.R_alloc | apply Kd.R_drewN | apply Kd.R_drew)); exact (Kd.R_mono (Kd.R_far (p := ⟨gb173, 4, none⟩) (Kd.R_mono P8.out (fun k_ hk => (⟨hk, hk⟩ : _ ∧ k_ ≠ gb173))) (fun _ hk => hk.2) (.int .i64 (wrap64 ((wrap64 (a2 + 1)) + (Int.tmod (wrap64 (rd l0 (ji134))) (wrap64 (1 + (wrap64 (t154 * 3))))))))) (fun _ h_ => h_.1)))) (by decide) hg); have n1_ := Aside0.mk (blk_grown (g := gb141) (o := .cells #[.int .i64 0, .string (⟨#[]⟩ : ByteArray), .string (⟨#[]⟩ : ByteArray), .string (⟨#[]⟩ : ByteArray), .int .i64 0, .int .i64 0, .int .i64 0, .slice none 0 0, .slice none 0 0, .string (⟨#[]⟩ : ByteArray)] 46 (0, 0)) (by (with_reducible repeat (first | refine blk_drewN ?_ _ | refine blk_drew ?_ | refine blk_alloc ?_ _)); refine blk_far ?_ NB141_173.out _; exact BK141.out) hg (Kd.R_ne P8.out BK141.out (by decide))); have n2_ := Aside0.mk (blk_grown (g := gb157) (o := .cells #[.int .i64 a1, .string ((⟨#[110]⟩ : ByteArray) ++ t143), .string (rdOf ByteArray.empty y144 (ji9)), .string (rdOf ByteArray.empty y149 (ji13)), .int .i64 (wrap64 (1 + (wrap64 (t154 * 3)))), .int .i64 (wrap64 (1 + (Int.tmod t155 9))), .int .i64 (Int.tmod t156 a3), z7, .slice Ao95 y008_2.length co95, .string y009_20] 46 (0, 0)) (by (with_reducible repeat (first | refine blk_drewN ?_ _ | refine blk_drew ?_ | refine blk_alloc ?_ _)); refine blk_far ?_ NB157_173.out _; exact BK157.out) hg (Kd.R_ne P8.out BK157.out (by decide))); have n3_ := Aside0.mk (blk_grown (g := gb173) (o := .cells #[.int .i64 (wrap64 (x10_2 + (wrap64 (1 + (wrap64 (Int.tmod (rd l0 x11_2) 3)))))), .string t167, .string (rdOf ByteArray.empty y168 (ji89)), .int .i64 (wrap64 (1 + (Int.tmod (wrap64 (rd l0 (ji116))) (wrap64 (1 + (Int.tmod t155 9)))))), .int .i64 (wrap64 ((wrap64 (a2 + 1)) + (Int.tmod (wrap64 (rd l0 (ji134))) (wrap64 (1 + (wrap64 (t154 * 3))))))), .bool false, .string (⟨#[]⟩ : ByteArray), .int .i64 x174007_91] 68 (0, 0)) (by (with_reducible repeat (first | refine blk_drewN ?_ _ | refine blk_drew ?_ | refine blk_alloc ?_ _)); refine blk_put (cs := #[.int .i64 (wrap64 (x10_2 + (wrap64 (1 + (wrap64 (Int.tmod (rd l0 x11_2) 3)))))), .string t167, .string (rdOf ByteArray.empty y168 (ji89)), .int .i64 (wrap64 (1 + (Int.tmod (wrap64 (rd l0 (ji116))) (wrap64 (1 + (Int.tmod t155 9)))))), .int .i64 0, .bool false, .string (⟨#[]⟩ : ByteArray), .int .i64 x174007_91]) ?_ 4 _ rfl; exact BK173.out) hg (Kd.R_away P8.out (fun _ hk => hk))); have n4_ := Aside0.mk (hb); have n5_ := Aside0.mk (ho); clear P7; clear BK141; clear BK157; clear BK173; clear HB; clear P8; have P7 := n0_; have BK141 := n1_; have BK157 := n2_; have BK173 := n3_; have HB := n4_; have HO185 := n5_; clear n0_ n1_ n2_ n3_ n4_ n5_; clear ho hb hg hat; obtain ⟨Ao150, co150, eo150⟩ := Kd.R_slice HO185.out; subst eo150; have hcz151_0 : w149.cell? ⟨gb157, 0, none⟩ = some (.int .i64 a1) := (blk_cell BK157.out 0).trans rfl; have hcz151_1 : w149.cell? ⟨gb157, 1, none⟩ = some (.string ((⟨#[110]⟩ : ByteArray) ++ t143)) := (blk_cell BK157.out 1).trans rfl; have hcz151_2 : w149.cell? ⟨gb157, 2, none⟩ = some (.string (rdOf ByteArray.empty y144 (ji9))) := (blk_cell BK157.out 2).trans rfl; have hcz151_3 : w149.cell? ⟨gb157, 3, none⟩ = some (.string (rdOf ByteArray.empty y149 (ji13))) := (blk_cell BK157.out 3).trans rfl; have hcz151_4 : w149.cell? ⟨gb157, 4, none⟩ = some (.int .i64 (wrap64 (1 + (wrap64 (t154 * 3))))) := (blk_cell BK157.out 4).trans rfl; have hcz151_5 : w149.cell? ⟨gb157, 5, none⟩ = some (.int .i64 (wrap64 (1 + (Int.tmod t155 9)))) := (blk_cell BK157.out 5).trans rfl; have hcz151_6 : w149.cell? ⟨gb157, 6, none⟩ = some (.int .i64 (Int.tmod t156 a3)) := (blk_cell BK157.out 6).trans rfl; have hcz151_7 : w149.cell? ⟨gb157, 7, none⟩ = some (z7) := (blk_cell BK157.out 7).trans rfl; have hcz151_8 : w149.cell? ⟨gb157, 8, none⟩ = some (.slice Ao95 y008_2.length co95) := (blk_cell BK157.out 8).trans rfl; have hcz151_9 : w149.cell? ⟨gb157, 9, none⟩ = some (.string y009_20) := (blk_cell BK157.out 9).trans rfl; have hfz151_0 := blk_frozen BK157.out 0; have hfz151_1 := blk_frozen BK157.out 1; have hfz151_2 := blk_frozen BK157.out 2; have hfz151_3 := blk_frozen BK157.out 3; have hfz151_4 := blk_frozen BK157.out 4; have hfz151_5 := blk_frozen BK157.out 5; have hfz151_6 := blk_frozen BK157.out 6; have hfz151_7 := blk_frozen BK157.out 7; have hfz151_8 := blk_frozen BK157.out 8; have hfz151_9 := blk_frozen BK157.out 9))
           go_roundg kj91
           case measure => have := HJ20.out; have := HK2.out; have := HJ52.out; have := HJ63.out; have := HJ91.out; omega
           case rel => exact ⟨((wrap64 (x10_2 + (wrap64 (1 + (wrap64 (Int.tmod (rd l0 x11_2) 3))))))), (wrap64 (x11_2 + 4)), (y007_2), (y183), (z7), (.slice Ao150 y183.length co150), (by first | rfl | (simp; done) | (simp [*]; done)), (by first | rfl | (simp; done) | (simp [*]; done)), H', ⟨by have := HJ20.out; have := HK2.out; have := HJ52.out; have := HJ63.out; have := HJ91.out; omega⟩, ⟨by (with_reducible repeat (first | apply Kd.R_alloc | apply Kd.R_drewN | apply Kd.R_drew)); exact Kd.R_mono (Kd.R_far (p := ⟨gb157, 8, none⟩) (Kd.R_types P7.out BK157.out (by decide)) (fun _ hk => hk.2) (.slice Ao150 y183.length co150)) (fun _ hk => trivial)⟩, ⟨by (with_reducible repeat (first | apply Kd.R_alloc | apply Kd.R_drewN | apply Kd.R_drew)); exact Kd.R_mono (Kd.R_far (p := ⟨gb157, 8, none⟩) (Kd.R_types HO185.out BK157.out (by decide)) (fun _ hk => hk.2) (.slice Ao150 y183.length co150)) (fun _ hk => trivial)⟩, ⟨by (with_reducible repeat (first | refine blk_drewN ?_ _ | refine blk_drew ?_ | refine blk_alloc ?_ _)); refine blk_far ?_ NB141_157.out _; exact BK141.out⟩, ⟨by (with_reducible repeat (first | refine blk_drewN ?_ _ | refine blk_drew ?_ | refine blk_alloc ?_ _)); refine blk_put (cs := #[.int .i64 a1, .string ((⟨#[110]⟩ : ByteArray) ++ t143), .string (rdOf ByteArray.empty y144 (ji9)), .string (rdOf ByteArray.empty y149 (ji13)), .int .i64 (wrap64 (1 + (wrap64 (t154 * 3)))), .int .i64 (wrap64 (1 + (Int.tmod t155 9))), .int .i64 (Int.tmod t156 a3), z7, .slice Ao95 y008_2.length co95, .string y009_20]) ?_ 8 _ rfl; exact BK157.out⟩, ⟨by repeat (with_reducible first | exact HB.out | apply below_alloc | apply pw_below_drewN | apply below_drew1 | refine below_set ?_ GE141.out | refine below_set ?_ GE157.out | refine below_set ?_ GE173.out)⟩⟩
          ·rw [if_neg c138] at H
           exact absurd H (by simp)
        ·rw [if_neg c136] at H
         exact absurd H (by simp)
       ·rw [if_neg c135] at H
        exact absurd H (by simp)
     ·rw [if_neg c132] at H
      have c132b0 : ((Int.tmod (rd l0 (ji116)) 4) == 1) = false := beq_eq_false_iff_ne.mpr c132
      have c132b1 : ((Int.tmod (rd l0 (ji116)) 4) != 1) = true := bne_iff_ne.mpr c132
      by_cases c152 : (Int.tmod (rd l0 (ji116)) 4) = 2
      ·rw [if_pos c152] at H
       have c152b0 : ((Int.tmod (rd l0 (ji116)) 4) == 2) = true := beq_iff_eq.mpr c152
       have c152b1 : ((Int.tmod (rd l0 (ji116)) 4) != 2) = false := bne_eq_false_iff_eq.mpr c152
       clear c152
       obtain ⟨y186, hy186⟩ : ∃ y_ : List ByteArray, y_ = (([(⟨#[110, 97, 99, 107]⟩ : ByteArray), (⟨#[116, 105, 109, 101]⟩ : ByteArray)] : List ByteArray)) := ⟨_, rfl⟩
       replace H : (if 0 ≤ (wrap64 (x11_2 + 1)) then (if (wrap64 (x11_2 + 1)) < (l0.length : Int) then (if 0 ≤ (Int.tmod (rd l0 (wrap64 (x11_2 + 1))) 2) then (if (Int.tmod (rd l0 (wrap64 (x11_2 + 1))) 2) < (y186.length : Int) then (if y008_2.length < 1599289640401 then (roadsteadlaw10_Sub.l0 kj91 l0 a2 a3 (wrap64 (x10_2 + (wrap64 (1 + (wrap64 (Int.tmod (rd l0 x11_2) 3)))))) (wrap64 (x11_2 + 4)) a1 ((⟨#[110]⟩ : ByteArray) ++ t143) (rdOf ByteArray.empty y144 (ji9)) (rdOf ByteArray.empty y149 (ji13)) (wrap64 (1 + (wrap64 (t154 * 3)))) (wrap64 (1 + (Int.tmod t155 9))) (Int.tmod t156 a3) y007_2 (y008_2 ++ [(⟨(wrap64 (x10_2 + (wrap64 (1 + (wrap64 (Int.tmod (rd l0 x11_2) 3)))))), t167, (rdOf ByteArray.empty y168 (ji89)), (wrap64 (1 + (Int.tmod t155 9))), 0, true, rdOf ByteArray.empty y186 (Int.tmod (rd l0 (wrap64 (x11_2 + 1))) 2), x174007_91⟩ : S68)]) y009_20) else (none)) else (none)) else (none)) else (none)) else (none)) = some (r1, r2, r3, r4, r5, r6, r7, r8, r9, r10) := by first | (rw [hy186]; with_reducible exact H) | (have H2_ := (Option.bind_some _ _).symm.trans H; rw [hy186]; with_reducible exact H2_) | (have H2_ := (Option.bind_some _ _).symm.trans H; with_reducible exact H2_) | with_reducible exact H | (rw [hy186]; exact H) | exact H
       have Ny186 := Aside0.mk hy186
       clear hy186
       obtain ⟨ji153, hji153⟩ : ∃ j_ : Int, (wrap64 (x11_2 + 1)) = j_ := ⟨_, rfl⟩
       replace H : (if 0 ≤ (ji153) then (if (ji153) < (l0.length : Int) then (if 0 ≤ (Int.tmod (rd l0 (ji153)) 2) then (if (Int.tmod (rd l0 (ji153)) 2) < (y186.length : Int) then (if y008_2.length < 1599289640401 then (roadsteadlaw10_Sub.l0 kj91 l0 a2 a3 (wrap64 (x10_2 + (wrap64 (1 + (wrap64 (Int.tmod (rd l0 x11_2) 3)))))) (wrap64 (x11_2 + 4)) a1 ((⟨#[110]⟩ : ByteArray) ++ t143) (rdOf ByteArray.empty y144 (ji9)) (rdOf ByteArray.empty y149 (ji13)) (wrap64 (1 + (wrap64 (t154 * 3)))) (wrap64 (1 + (Int.tmod t155 9))) (Int.tmod t156 a3) y007_2 (y008_2 ++ [(⟨(wrap64 (x10_2 + (wrap64 (1 + (wrap64 (Int.tmod (rd l0 x11_2) 3)))))), t167, (rdOf ByteArray.empty y168 (ji89)), (wrap64 (1 + (Int.tmod t155 9))), 0, true, rdOf ByteArray.empty y186 (Int.tmod (rd l0 (ji153)) 2), x174007_91⟩ : S68)]) y009_20) else (none)) else (none)) else (none)) else (none)) else (none)) = some (r1, r2, r3, r4, r5, r6, r7, r8, r9, r10) := by first | (rw [hji153] at H; exact H) | (simp only [hji153] at H ⊢; exact H)
       have hji153w : (IntKind.i64.wrap (x11_2 + 1)) = ji153 := (i64_w _).trans hji153
       obtain rfl : ji153 = ji82 := hji153.symm.trans hji82
       by_cases c154 : 0 ≤ (ji153)
       ·rw [if_pos c154] at H
        have c154b0 : decide (0 ≤ (ji153)) = true := decide_eq_true c154
        clear c154
        by_cases c155 : (ji153) < (l0.length : Int)
        ·rw [if_pos c155] at H
         have c155b0 : decide ((ji153) < (l0.length : Int)) = true := decide_eq_true c155
         clear c155
         obtain ⟨ji156, hji156⟩ : ∃ j_ : Int, (Int.tmod (rd l0 (ji153)) 2) = j_ := ⟨_, rfl⟩
         replace H : (if 0 ≤ (ji156) then (if (ji156) < (y186.length : Int) then (if y008_2.length < 1599289640401 then (roadsteadlaw10_Sub.l0 kj91 l0 a2 a3 (wrap64 (x10_2 + (wrap64 (1 + (wrap64 (Int.tmod (rd l0 x11_2) 3)))))) (wrap64 (x11_2 + 4)) a1 ((⟨#[110]⟩ : ByteArray) ++ t143) (rdOf ByteArray.empty y144 (ji9)) (rdOf ByteArray.empty y149 (ji13)) (wrap64 (1 + (wrap64 (t154 * 3)))) (wrap64 (1 + (Int.tmod t155 9))) (Int.tmod t156 a3) y007_2 (y008_2 ++ [(⟨(wrap64 (x10_2 + (wrap64 (1 + (wrap64 (Int.tmod (rd l0 x11_2) 3)))))), t167, (rdOf ByteArray.empty y168 (ji89)), (wrap64 (1 + (Int.tmod t155 9))), 0, true, rdOf ByteArray.empty y186 (ji156), x174007_91⟩ : S68)]) y009_20) else (none)) else (none)) else (none)) = some (r1, r2, r3, r4, r5, r6, r7, r8, r9, r10) := by first | (rw [hji156] at H; exact H) | (simp only [hji156] at H ⊢; exact H)
         by_cases c157 : 0 ≤ (ji156)
         ·rw [if_pos c157] at H
          have c157b0 : decide (0 ≤ (ji156)) = true := decide_eq_true c157
          clear c157
          by_cases c158 : (ji156) < (y186.length : Int)
          ·rw [if_pos c158] at H
           have c158b0 : decide ((ji156) < (y186.length : Int)) = true := decide_eq_true c158
           clear c158
           by_cases c159 : y008_2.length < 1599289640401
           ·rw [if_pos c159] at H
            have LMc159 := Aside0.mk c159
            clear c159
            obtain ⟨y191, hy191⟩ : ∃ y_ : List (S68), y_ = (y008_2 ++ [(⟨(wrap64 (x10_2 + (wrap64 (1 + (wrap64 (Int.tmod (rd l0 x11_2) 3)))))), t167, (rdOf ByteArray.empty y168 (ji89)), (wrap64 (1 + (Int.tmod t155 9))), 0, true, rdOf ByteArray.empty y186 (ji156), x174007_91⟩ : S68)]) := ⟨_, rfl⟩
            replace H : (roadsteadlaw10_Sub.l0 kj91 l0 a2 a3 (wrap64 (x10_2 + (wrap64 (1 + (wrap64 (Int.tmod (rd l0 x11_2) 3)))))) (wrap64 (x11_2 + 4)) a1 ((⟨#[110]⟩ : ByteArray) ++ t143) (rdOf ByteArray.empty y144 (ji9)) (rdOf ByteArray.empty y149 (ji13)) (wrap64 (1 + (wrap64 (t154 * 3)))) (wrap64 (1 + (Int.tmod t155 9))) (Int.tmod t156 a3) y007_2 y191 y009_20) = some (r1, r2, r3, r4, r5, r6, r7, r8, r9, r10) := by first | (rw [hy191]; with_reducible exact H) | (have H2_ := (Option.bind_some _ _).symm.trans H; rw [hy191]; with_reducible exact H2_) | (have H2_ := (Option.bind_some _ _).symm.trans H; with_reducible exact H2_) | with_reducible exact H | (rw [hy191]; exact H) | exact H
            have Ny191 := Aside0.mk hy191
            clear hy191
            have H' := Aside0.mk H
            clear H
            have p176 : 0 ≤ ((ji116) : Int) := of_decide_eq_true (by first | (with_reducible assumption) | assumption)
            have q176 : (ji116) < (l0.length : Int) := of_decide_eq_true (by first | (with_reducible assumption) | assumption)
            obtain ⟨ad176, e176, hx176_0⟩ := Kd.at_int HR0.out (ji116) p176 q176
            obtain rfl : ad161 = ad176 := (by injection e176)
            replace hx176_0 := (HB.out.cell (World.block_lt_of_cell? w _ hx176_0)).trans hx176_0
            replace p176 := eq_true p176
            replace q176 := eq_true q176
            have hnb160 := NB173_141.out
            have hnc160 := NB141_173.out
            have hnb161 := NB173_157.out
            have hnc161 := NB157_173.out
            have hcz162_0 : wc.cell? ⟨gb173, 0, none⟩ = some (.int .i64 (wrap64 (x10_2 + (wrap64 (1 + (wrap64 (Int.tmod (rd l0 x11_2) 3))))))) := (blk_cell BK173.out 0).trans rfl
            have hcz162_1 : wc.cell? ⟨gb173, 1, none⟩ = some (.string t167) := (blk_cell BK173.out 1).trans rfl
            have hcz162_2 : wc.cell? ⟨gb173, 2, none⟩ = some (.string (rdOf ByteArray.empty y168 (ji89))) := (blk_cell BK173.out 2).trans rfl
            have hcz162_3 : wc.cell? ⟨gb173, 3, none⟩ = some (.int .i64 0) := (blk_cell BK173.out 3).trans rfl
            have hcz162_4 : wc.cell? ⟨gb173, 4, none⟩ = some (.int .i64 0) := (blk_cell BK173.out 4).trans rfl
            have hcz162_5 : wc.cell? ⟨gb173, 5, none⟩ = some (.bool false) := (blk_cell BK173.out 5).trans rfl
            have hcz162_6 : wc.cell? ⟨gb173, 6, none⟩ = some (.string (⟨#[]⟩ : ByteArray)) := (blk_cell BK173.out 6).trans rfl
            have hcz162_7 : wc.cell? ⟨gb173, 7, none⟩ = some (.int .i64 x174007_91) := (blk_cell BK173.out 7).trans rfl
            have hfz162_0 := blk_frozen BK173.out 0
            have hfz162_1 := blk_frozen BK173.out 1
            have hfz162_2 := blk_frozen BK173.out 2
            have hfz162_3 := blk_frozen BK173.out 3
            have hfz162_4 := blk_frozen BK173.out 4
            have hfz162_5 := blk_frozen BK173.out 5
            have hfz162_6 := blk_frozen BK173.out 6
            have hfz162_7 := blk_frozen BK173.out 7
            have hnb163 := NB157_141.out
            have hnc163 := NB141_157.out
            have hcz164_0 : wc.cell? ⟨gb157, 0, none⟩ = some (.int .i64 a1) := (blk_cell BK157.out 0).trans rfl
            have hcz164_1 : wc.cell? ⟨gb157, 1, none⟩ = some (.string ((⟨#[110]⟩ : ByteArray) ++ t143)) := (blk_cell BK157.out 1).trans rfl
            have hcz164_2 : wc.cell? ⟨gb157, 2, none⟩ = some (.string (rdOf ByteArray.empty y144 (ji9))) := (blk_cell BK157.out 2).trans rfl
            have hcz164_3 : wc.cell? ⟨gb157, 3, none⟩ = some (.string (rdOf ByteArray.empty y149 (ji13))) := (blk_cell BK157.out 3).trans rfl
            have hcz164_4 : wc.cell? ⟨gb157, 4, none⟩ = some (.int .i64 (wrap64 (1 + (wrap64 (t154 * 3))))) := (blk_cell BK157.out 4).trans rfl
            have hcz164_5 : wc.cell? ⟨gb157, 5, none⟩ = some (.int .i64 (wrap64 (1 + (Int.tmod t155 9)))) := (blk_cell BK157.out 5).trans rfl
            have hcz164_6 : wc.cell? ⟨gb157, 6, none⟩ = some (.int .i64 (Int.tmod t156 a3)) := (blk_cell BK157.out 6).trans rfl
            have hcz164_7 : wc.cell? ⟨gb157, 7, none⟩ = some (z7) := (blk_cell BK157.out 7).trans rfl
            have hcz164_8 : wc.cell? ⟨gb157, 8, none⟩ = some (.slice Ao95 y008_2.length co95) := (blk_cell BK157.out 8).trans rfl
            have hcz164_9 : wc.cell? ⟨gb157, 9, none⟩ = some (.string y009_20) := (blk_cell BK157.out 9).trans rfl
            have hfz164_0 := blk_frozen BK157.out 0
            have hfz164_1 := blk_frozen BK157.out 1
            have hfz164_2 := blk_frozen BK157.out 2
            have hfz164_3 := blk_frozen BK157.out 3
            have hfz164_4 := blk_frozen BK157.out 4
            have hfz164_5 := blk_frozen BK157.out 5
            have hfz164_6 := blk_frozen BK157.out 6
            have hfz164_7 := blk_frozen BK157.out 7
            have hfz164_8 := blk_frozen BK157.out 8
            have hfz164_9 := blk_frozen BK157.out 9
            go_wp2_with (first | ((with_reducible refine gate_dst (N := 179) rfl ?_); (try (refine gate_guard (by rfl) ?_; dsimp only)); refine Kd.R_lit Kd.string _ 9 ?hg (N := 179) ?hd (xs := ([(⟨#[110, 97, 99, 107]⟩ : ByteArray), (⟨#[116, 105, 109, 101]⟩ : ByteArray)] : List ByteArray)) (inner := [.string (⟨#[110, 97, 99, 107]⟩ : ByteArray), .string (⟨#[116, 105, 109, 101]⟩ : ByteArray)]) (ok := fun _ => True) (okp := fun _ => True) ?hr ?hp (fun _ hk => hk) trivial (Below.refl _ _) (Nat.le_refl _) (by simp) ?_; (case hd => rfl); (case hg => rfl); (case hr => first | (go_simp; done) | (go_simp; rfl)); (case hp => exact (Reps.one (show Kd.M Kd.string _ _ _ (⟨#[110, 97, 99, 107]⟩ : ByteArray) [.string (⟨#[110, 97, 99, 107]⟩ : ByteArray)] from rfl) (Reps.one (show Kd.M Kd.string _ _ _ (⟨#[116, 105, 109, 101]⟩ : ByteArray) [.string (⟨#[116, 105, 109, 101]⟩ : ByteArray)] from rfl) (Reps.none _ _)))); intro v187 w165 ho166 hb hg_ hnew_; clear hg_ hnew_; (first | rw [← Ny186.out] at ho166 | (simp only [Int.reduceToNat] at ho166; rw [← Ny186.out] at ho166)); have n0_ := Aside0.mk (Kd.R_below (by (with_reducible repeat (first | apply Kd.R_alloc | apply Kd.R_drewN | apply Kd.R_drew)); exact (Kd.R_mono (Kd.R_far (p := ⟨gb173, 3, none⟩) (Kd.R_far (p := ⟨gb173, 5, none⟩) (Kd.R_types P7.out BK173.out (by decide)) (fun _ hk => hk.2) (.bool true)) (fun _ hk => hk.2) (.int .i64 (wrap64 (1 + (Int.tmod t155 9))))) (fun _ h_ => h_.1))) hb); have n1_ := Aside0.mk (Kd.R_below (by (with_reducible repeat (first | apply Kd.R_alloc | apply Kd.R_drewN | apply Kd.R_drew)); exact (Kd.R_mono (Kd.R_far (p := ⟨gb173, 3, none⟩) (Kd.R_far (p := ⟨gb173, 5, none⟩) (Kd.R_mono P8.out (fun k_ hk => (⟨hk, hk⟩ : _ ∧ k_ ≠ gb173))) (fun _ hk => hk.2) (.bool true)) (fun _ hk => hk.2) (.int .i64 (wrap64 (1 + (Int.tmod t155 9))))) (fun _ h_ => h_.1))) hb); have n2_ := Aside0.mk (Kd.R_lower ho166 (below_size (by repeat (with_reducible first | exact HB.out | apply below_alloc | apply pw_below_drewN | apply below_drew1 | refine below_set ?_ GE141.out | refine below_set ?_ GE157.out | refine below_set ?_ GE173.out)))); have n3_ := Aside0.mk (blk_below (g := gb141) (o := .cells #[.int .i64 0, .string (⟨#[]⟩ : ByteArray), .string (⟨#[]⟩ : ByteArray), .string (⟨#[]⟩ : ByteArray), .int .i64 0, .int .i64 0, .int .i64 0, .slice none 0 0, .slice none 0 0, .string (⟨#[]⟩ : ByteArray)] 46 (0, 0)) (by (with_reducible repeat (first | refine blk_drewN ?_ _ | refine blk_drew ?_ | refine blk_alloc ?_ _)); refine blk_far ?_ NB141_173.out _; refine blk_far ?_ NB141_173.out _; exact BK141.out) hb); have n4_ := Aside0.mk (blk_below (g := gb157) (o := .cells #[.int .i64 a1, .string ((⟨#[110]⟩ : ByteArray) ++ t143), .string (rdOf ByteArray.empty y144 (ji9)), .string (rdOf ByteArray.empty y149 (ji13)), .int .i64 (wrap64 (1 + (wrap64 (t154 * 3)))), .int .i64 (wrap64 (1 + (Int.tmod t155 9))), .int .i64 (Int.tmod t156 a3), z7, .slice Ao95 y008_2.length co95, .string y009_20] 46 (0, 0)) (by (with_reducible repeat (first | refine blk_drewN ?_ _ | refine blk_drew ?_ | refine blk_alloc ?_ _)); refine blk_far ?_ NB157_173.out _; refine blk_far ?_ NB157_173.out _; exact BK157.out) hb); have n5_ := Aside0.mk (blk_below (g := gb173) (o := .cells #[.int .i64 (wrap64 (x10_2 + (wrap64 (1 + (wrap64 (Int.tmod (rd l0 x11_2) 3)))))), .string t167, .string (rdOf ByteArray.empty y168 (ji89)), .int .i64 (wrap64 (1 + (Int.tmod t155 9))), .int .i64 0, .bool true, .string (⟨#[]⟩ : ByteArray), .int .i64 x174007_91] 68 (0, 0)) (by (with_reducible repeat (first | refine blk_drewN ?_ _ | refine blk_drew ?_ | refine blk_alloc ?_ _)); refine blk_put (cs := #[.int .i64 (wrap64 (x10_2 + (wrap64 (1 + (wrap64 (Int.tmod (rd l0 x11_2) 3)))))), .string t167, .string (rdOf ByteArray.empty y168 (ji89)), .int .i64 0, .int .i64 0, .bool true, .string (⟨#[]⟩ : ByteArray), .int .i64 x174007_91]) ?_ 3 _ rfl; refine blk_put (cs := #[.int .i64 (wrap64 (x10_2 + (wrap64 (1 + (wrap64 (Int.tmod (rd l0 x11_2) 3)))))), .string t167, .string (rdOf ByteArray.empty y168 (ji89)), .int .i64 0, .int .i64 0, .bool false, .string (⟨#[]⟩ : ByteArray), .int .i64 x174007_91]) ?_ 5 _ rfl; exact BK173.out) hb); have n6_ := Aside0.mk (below_step (by repeat (with_reducible first | exact HB.out | apply below_alloc | apply pw_below_drewN | apply below_drew1 | refine below_set ?_ GE141.out | refine below_set ?_ GE157.out | refine below_set ?_ GE173.out)) hb); clear P7; clear P8; clear BK141; clear BK157; clear BK173; clear HB; have P7 := n0_; have P8 := n1_; have HO188 := n2_; have BK141 := n3_; have BK157 := n4_; have BK173 := n5_; have HB := n6_; clear n0_ n1_ n2_ n3_ n4_ n5_ n6_; clear hb ho166; have p189 : 0 ≤ ((ji153) : Int) := of_decide_eq_true (by first | (with_reducible assumption) | assumption); have q189 : (ji153) < (l0.length : Int) := of_decide_eq_true (by first | (with_reducible assumption) | assumption); obtain ⟨ad189, e189, hx189_0⟩ := Kd.at_int HR0.out (ji153) p189 q189; obtain rfl : ad161 = ad189 := (by injection e189); replace hx189_0 := (HB.out.cell (World.block_lt_of_cell? w _ hx189_0)).trans hx189_0; replace p189 := eq_true p189; replace q189 := eq_true q189; obtain ⟨Ao167, co167, eo167⟩ := Kd.R_slice HO188.out; subst eo167; have p190 : 0 ≤ ((ji156) : Int) := of_decide_eq_true (by first | (with_reducible assumption) | assumption); have q190 : (ji156) < (y186.length : Int) := of_decide_eq_true (by first | (with_reducible assumption) | assumption); obtain ⟨ad190, e190, hx190_0⟩ := Kd.at_string (Kd.R_reads' HO188.out).2.2 (ji156) p190 q190; cases e190; replace p190 := eq_true p190; replace q190 := eq_true q190; have hcz168_0 : w165.cell? ⟨gb173, 0, none⟩ = some (.int .i64 (wrap64 (x10_2 + (wrap64 (1 + (wrap64 (Int.tmod (rd l0 x11_2) 3))))))) := (blk_cell BK173.out 0).trans rfl; have hcz168_1 : w165.cell? ⟨gb173, 1, none⟩ = some (.string t167) := (blk_cell BK173.out 1).trans rfl; have hcz168_2 : w165.cell? ⟨gb173, 2, none⟩ = some (.string (rdOf ByteArray.empty y168 (ji89))) := (blk_cell BK173.out 2).trans rfl; have hcz168_3 : w165.cell? ⟨gb173, 3, none⟩ = some (.int .i64 (wrap64 (1 + (Int.tmod t155 9)))) := (blk_cell BK173.out 3).trans rfl; have hcz168_4 : w165.cell? ⟨gb173, 4, none⟩ = some (.int .i64 0) := (blk_cell BK173.out 4).trans rfl; have hcz168_5 : w165.cell? ⟨gb173, 5, none⟩ = some (.bool true) := (blk_cell BK173.out 5).trans rfl; have hcz168_6 : w165.cell? ⟨gb173, 6, none⟩ = some (.string (⟨#[]⟩ : ByteArray)) := (blk_cell BK173.out 6).trans rfl; have hcz168_7 : w165.cell? ⟨gb173, 7, none⟩ = some (.int .i64 x174007_91) := (blk_cell BK173.out 7).trans rfl; have hfz168_0 := blk_frozen BK173.out 0; have hfz168_1 := blk_frozen BK173.out 1; have hfz168_2 := blk_frozen BK173.out 2; have hfz168_3 := blk_frozen BK173.out 3; have hfz168_4 := blk_frozen BK173.out 4; have hfz168_5 := blk_frozen BK173.out 5; have hfz168_6 := blk_frozen BK173.out 6; have hfz168_7 := blk_frozen BK173.out 7; have hcz169_0 : w165.cell? ⟨gb157, 0, none⟩ = some (.int .i64 a1) := (blk_cell BK157.out 0).trans rfl; have hcz169_1 : w165.cell? ⟨gb157, 1, none⟩ = some (.string ((⟨#[110]⟩ : ByteArray) ++ t143)) := (blk_cell BK157.out 1).trans rfl; have hcz169_2 : w165.cell? ⟨gb157, 2, none⟩ = some (.string (rdOf ByteArray.empty y144 (ji9))) := (blk_cell BK157.out 2).trans rfl; have hcz169_3 : w165.cell? ⟨gb157, 3, none⟩ = some (.string (rdOf ByteArray.empty y149 (ji13))) := (blk_cell BK157.out 3).trans rfl; have hcz169_4 : w165.cell? ⟨gb157, 4, none⟩ = some (.int .i64 (wrap64 (1 + (wrap64 (t154 * 3))))) := (blk_cell BK157.out 4).trans rfl; have hcz169_5 : w165.cell? ⟨gb157, 5, none⟩ = some (.int .i64 (wrap64 (1 + (Int.tmod t155 9)))) := (blk_cell BK157.out 5).trans rfl; have hcz169_6 : w165.cell? ⟨gb157, 6, none⟩ = some (.int .i64 (Int.tmod t156 a3)) := (blk_cell BK157.out 6).trans rfl; have hcz169_7 : w165.cell? ⟨gb157, 7, none⟩ = some (z7) := (blk_cell BK157.out 7).trans rfl; have hcz169_8 : w165.cell? ⟨gb157, 8, none⟩ = some (.slice Ao95 y008_2.length co95) := (blk_cell BK157.out 8).trans rfl; have hcz169_9 : w165.cell? ⟨gb157, 9, none⟩ = some (.string y009_20) := (blk_cell BK157.out 9).trans rfl; have hfz169_0 := blk_frozen BK157.out 0; have hfz169_1 := blk_frozen BK157.out 1; have hfz169_2 := blk_frozen BK157.out 2; have hfz169_3 := blk_frozen BK157.out 3; have hfz169_4 := blk_frozen BK157.out 4; have hfz169_5 := blk_frozen BK157.out 5; have hfz169_6 := blk_frozen BK157.out 6; have hfz169_7 := blk_frozen BK157.out 7; have hfz169_8 := blk_frozen BK157.out 8; have hfz169_9 := blk_frozen BK157.out 9) | ((with_reducible refine gate_builtin (b := .append) (xs := #[.tmp 190, .tmp 192]) rfl ?_); (try (refine gate_guard (by rfl) ?_; dsimp only)); at_builtin; refine Kd.R_append k68 (w0 := w) w.heap.size rfl (.tmp 190) (.tmp 192) 44 68 (.agg #[(.int .i64 0), (.string ⟨#[]⟩), (.string ⟨#[]⟩), (.int .i64 0), (.int .i64 0), (.bool false), (.string ⟨#[]⟩), (.int .i64 0)]) 88 rfl Try.underlying44 info68 rfl (by decide) (by omega) (.slice Ao95 y008_2.length co95) y008_2 (⟨(wrap64 (x10_2 + (wrap64 (1 + (wrap64 (Int.tmod (rd l0 x11_2) 3)))))), t167, (rdOf ByteArray.empty y168 (ji89)), (wrap64 (1 + (Int.tmod t155 9))), 0, true, rdOf ByteArray.empty y186 (ji156), x174007_91⟩ : S68) [.int .i64 (wrap64 (x10_2 + (wrap64 (1 + (wrap64 (Int.tmod (rd l0 x11_2) 3)))))), .string t167, .string (rdOf ByteArray.empty y168 (ji89)), .int .i64 (wrap64 (1 + (Int.tmod t155 9))), .int .i64 0, .bool true, .string (rdOf ByteArray.empty y186 (ji156)), .int .i64 x174007_91] (fun k_ => k_ ≠ gb173) (fun _ => False) rfl (by first | (go_simp; done) | (go_simp; rfl)) ?aP (fun _ hk => hk.elim) ?aF ?aO ?aB ?aS ?aL ?_; (case aP => exact k68_mkM _ _ _ (⟨(wrap64 (x10_2 + (wrap64 (1 + (wrap64 (Int.tmod (rd l0 x11_2) 3)))))), t167, (rdOf ByteArray.empty y168 (ji89)), (wrap64 (1 + (Int.tmod t155 9))), 0, true, rdOf ByteArray.empty y186 (ji156), x174007_91⟩ : S68)); (case aB => exact (by repeat (with_reducible first | exact HB.out | apply below_alloc | apply pw_below_drewN | apply below_drew1 | refine below_set ?_ GE141.out | refine below_set ?_ GE157.out | refine below_set ?_ GE173.out))); (case aF => exact (fun k_ hk => Kd.freshB (g := gb173) (o := .cells #[.int .i64 (wrap64 (x10_2 + (wrap64 (1 + (wrap64 (Int.tmod (rd l0 x11_2) 3)))))), .string t167, .string (rdOf ByteArray.empty y168 (ji89)), .int .i64 (wrap64 (1 + (Int.tmod t155 9))), .int .i64 0, .bool true, .string (rdOf ByteArray.empty y186 (ji156)), .int .i64 x174007_91] 68 (0, 0)) (by (with_reducible repeat (first | refine blk_drewN ?_ _ | refine blk_drew ?_ | refine blk_alloc ?_ _)); refine blk_put (cs := #[.int .i64 (wrap64 (x10_2 + (wrap64 (1 + (wrap64 (Int.tmod (rd l0 x11_2) 3)))))), .string t167, .string (rdOf ByteArray.empty y168 (ji89)), .int .i64 (wrap64 (1 + (Int.tmod t155 9))), .int .i64 0, .bool true, .string (⟨#[]⟩ : ByteArray), .int .i64 x174007_91]) ?_ 6 _ rfl; exact BK173.out) k_ hk)); (case aO => exact (by (with_reducible repeat (first | apply Kd.R_alloc | apply Kd.R_drewN | apply Kd.R_drew)); exact Kd.R_mono (Kd.R_far (p := ⟨gb173, 6, none⟩) (Kd.R_mono P8.out (fun k_ hk => (⟨hk, hk⟩ : _ ∧ k_ ≠ gb173))) (fun _ hk => hk.2) (.string (rdOf ByteArray.empty y186 (ji156)))) (fun _ hk => hk.1))); (case aS => exact (below_size (by repeat (with_reducible first | exact HB.out | apply below_alloc | apply pw_below_drewN | apply below_drew1 | refine below_set ?_ GE141.out | refine below_set ?_ GE157.out | refine below_set ?_ GE173.out)))); (case aL => have := LMc159.out; omega); intro v192 w170 ho hb hg hat; rw [← Ny191.out] at ho; have n0_ := Aside0.mk (Kd.R_over' (by (with_reducible repeat (first | apply Kd.R_alloc | apply Kd.R_drewN | apply Kd.R_drew)); exact (Kd.R_mono (Kd.R_far (p := ⟨gb173, 6, none⟩) (Kd.R_types P7.out BK173.out (by decide)) (fun _ hk => hk.2) (.string (rdOf ByteArray.empty y186 (ji156)))) (fun _ h_ => h_.1))) (Kd.R_typed (by (with_reducible repeat (first | apply Kd.R_alloc | apply Kd.R_drewN | apply Kd.R_drew)); exact (Kd.R_mono (Kd.R_far (p := ⟨gb173, 6, none⟩) (Kd.R_mono P8.out (fun k_ hk => (⟨hk, hk⟩ : _ ∧ k_ ≠ gb173))) (fun _ hk => hk.2) (.string (rdOf ByteArray.empty y186 (ji156)))) (fun _ h_ => h_.1)))) (by decide) hg); have n1_ := Aside0.mk (blk_grown (g := gb141) (o := .cells #[.int .i64 0, .string (⟨#[]⟩ : ByteArray), .string (⟨#[]⟩ : ByteArray), .string (⟨#[]⟩ : ByteArray), .int .i64 0, .int .i64 0, .int .i64 0, .slice none 0 0, .slice none 0 0, .string (⟨#[]⟩ : ByteArray)] 46 (0, 0)) (by (with_reducible repeat (first | refine blk_drewN ?_ _ | refine blk_drew ?_ | refine blk_alloc ?_ _)); refine blk_far ?_ NB141_173.out _; exact BK141.out) hg (Kd.R_ne P8.out BK141.out (by decide))); have n2_ := Aside0.mk (blk_grown (g := gb157) (o := .cells #[.int .i64 a1, .string ((⟨#[110]⟩ : ByteArray) ++ t143), .string (rdOf ByteArray.empty y144 (ji9)), .string (rdOf ByteArray.empty y149 (ji13)), .int .i64 (wrap64 (1 + (wrap64 (t154 * 3)))), .int .i64 (wrap64 (1 + (Int.tmod t155 9))), .int .i64 (Int.tmod t156 a3), z7, .slice Ao95 y008_2.length co95, .string y009_20] 46 (0, 0)) (by (with_reducible repeat (first | refine blk_drewN ?_ _ | refine blk_drew ?_ | refine blk_alloc ?_ _)); refine blk_far ?_ NB157_173.out _; exact BK157.out) hg (Kd.R_ne P8.out BK157.out (by decide))); have n3_ := Aside0.mk (blk_grown (g := gb173) (o := .cells #[.int .i64 (wrap64 (x10_2 + (wrap64 (1 + (wrap64 (Int.tmod (rd l0 x11_2) 3)))))), .string t167, .string (rdOf ByteArray.empty y168 (ji89)), .int .i64 (wrap64 (1 + (Int.tmod t155 9))), .int .i64 0, .bool true, .string (rdOf ByteArray.empty y186 (ji156)), .int .i64 x174007_91] 68 (0, 0)) (by (with_reducible repeat (first | refine blk_drewN ?_ _ | refine blk_drew ?_ | refine blk_alloc ?_ _)); refine blk_put (cs := #[.int .i64 (wrap64 (x10_2 + (wrap64 (1 + (wrap64 (Int.tmod (rd l0 x11_2) 3)))))), .string t167, .string (rdOf ByteArray.empty y168 (ji89)), .int .i64 (wrap64 (1 + (Int.tmod t155 9))), .int .i64 0, .bool true, .string (⟨#[]⟩ : ByteArray), .int .i64 x174007_91]) ?_ 6 _ rfl; exact BK173.out) hg (Kd.R_away P8.out (fun _ hk => hk))); have n4_ := Aside0.mk (Kd.R_over' (by (with_reducible repeat (first | apply Kd.R_alloc | apply Kd.R_drewN | apply Kd.R_drew)); exact (Kd.R_mono (Kd.R_far (p := ⟨gb173, 6, none⟩) (Kd.R_types HO188.out BK173.out (by decide)) (fun _ hk => hk.2) (.string (rdOf ByteArray.empty y186 (ji156)))) (fun _ h_ => h_.1))) (Kd.R_typed (by (with_reducible repeat (first | apply Kd.R_alloc | apply Kd.R_drewN | apply Kd.R_drew)); exact (Kd.R_mono (Kd.R_far (p := ⟨gb173, 6, none⟩) (Kd.R_mono P8.out (fun k_ hk => (⟨hk, hk⟩ : _ ∧ k_ ≠ gb173))) (fun _ hk => hk.2) (.string (rdOf ByteArray.empty y186 (ji156)))) (fun _ h_ => h_.1)))) (by decide) hg); have n5_ := Aside0.mk (hb); have n6_ := Aside0.mk (ho); clear P7; clear BK141; clear BK157; clear BK173; clear HO188; clear HB; clear P8; have P7 := n0_; have BK141 := n1_; have BK157 := n2_; have BK173 := n3_; have HO188 := n4_; have HB := n5_; have HO193 := n6_; clear n0_ n1_ n2_ n3_ n4_ n5_ n6_; clear ho hb hg hat; obtain ⟨Ao171, co171, eo171⟩ := Kd.R_slice HO193.out; subst eo171; have hcz172_0 : w170.cell? ⟨gb157, 0, none⟩ = some (.int .i64 a1) := (blk_cell BK157.out 0).trans rfl; have hcz172_1 : w170.cell? ⟨gb157, 1, none⟩ = some (.string ((⟨#[110]⟩ : ByteArray) ++ t143)) := (blk_cell BK157.out 1).trans rfl; have hcz172_2 : w170.cell? ⟨gb157, 2, none⟩ = some (.string (rdOf ByteArray.empty y144 (ji9))) := (blk_cell BK157.out 2).trans rfl; have hcz172_3 : w170.cell? ⟨gb157, 3, none⟩ = some (.string (rdOf ByteArray.empty y149 (ji13))) := (blk_cell BK157.out 3).trans rfl; have hcz172_4 : w170.cell? ⟨gb157, 4, none⟩ = some (.int .i64 (wrap64 (1 + (wrap64 (t154 * 3))))) := (blk_cell BK157.out 4).trans rfl; have hcz172_5 : w170.cell? ⟨gb157, 5, none⟩ = some (.int .i64 (wrap64 (1 + (Int.tmod t155 9)))) := (blk_cell BK157.out 5).trans rfl; have hcz172_6 : w170.cell? ⟨gb157, 6, none⟩ = some (.int .i64 (Int.tmod t156 a3)) := (blk_cell BK157.out 6).trans rfl; have hcz172_7 : w170.cell? ⟨gb157, 7, none⟩ = some (z7) := (blk_cell BK157.out 7).trans rfl; have hcz172_8 : w170.cell? ⟨gb157, 8, none⟩ = some (.slice Ao95 y008_2.length co95) := (blk_cell BK157.out 8).trans rfl; have hcz172_9 : w170.cell? ⟨gb157, 9, none⟩ = some (.string y009_20) := (blk_cell BK157.out 9).trans rfl; have hfz172_0 := blk_frozen BK157.out 0; have hfz172_1 := blk_frozen BK157.out 1; have hfz172_2 := blk_frozen BK157.out 2; have hfz172_3 := blk_frozen BK157.out 3; have hfz172_4 := blk_frozen BK157.out 4; have hfz172_5 := blk_frozen BK157.out 5; have hfz172_6 := blk_frozen BK157.out 6; have hfz172_7 := blk_frozen BK157.out 7; have hfz172_8 := blk_frozen BK157.out 8; have hfz172_9 := blk_frozen BK157.out 9))
            go_roundg kj91
            case measure => have := HJ20.out; have := HK2.out; have := HJ52.out; have := HJ63.out; have := HJ91.out; omega
            case rel => exact ⟨((wrap64 (x10_2 + (wrap64 (1 + (wrap64 (Int.tmod (rd l0 x11_2) 3))))))), (wrap64 (x11_2 + 4)), (y007_2), (y191), (z7), (.slice Ao171 y191.length co171), (by first | rfl | (simp; done) | (simp [*]; done)), (by first | rfl | (simp; done) | (simp [*]; done)), H', ⟨by have := HJ20.out; have := HK2.out; have := HJ52.out; have := HJ63.out; have := HJ91.out; omega⟩, ⟨by (with_reducible repeat (first | apply Kd.R_alloc | apply Kd.R_drewN | apply Kd.R_drew)); exact Kd.R_mono (Kd.R_far (p := ⟨gb157, 8, none⟩) (Kd.R_types P7.out BK157.out (by decide)) (fun _ hk => hk.2) (.slice Ao171 y191.length co171)) (fun _ hk => trivial)⟩, ⟨by (with_reducible repeat (first | apply Kd.R_alloc | apply Kd.R_drewN | apply Kd.R_drew)); exact Kd.R_mono (Kd.R_far (p := ⟨gb157, 8, none⟩) (Kd.R_types HO193.out BK157.out (by decide)) (fun _ hk => hk.2) (.slice Ao171 y191.length co171)) (fun _ hk => trivial)⟩, ⟨by (with_reducible repeat (first | refine blk_drewN ?_ _ | refine blk_drew ?_ | refine blk_alloc ?_ _)); refine blk_far ?_ NB141_157.out _; exact BK141.out⟩, ⟨by (with_reducible repeat (first | refine blk_drewN ?_ _ | refine blk_drew ?_ | refine blk_alloc ?_ _)); refine blk_put (cs := #[.int .i64 a1, .string ((⟨#[110]⟩ : ByteArray) ++ t143), .string (rdOf ByteArray.empty y144 (ji9)), .string (rdOf ByteArray.empty y149 (ji13)), .int .i64 (wrap64 (1 + (wrap64 (t154 * 3)))), .int .i64 (wrap64 (1 + (Int.tmod t155 9))), .int .i64 (Int.tmod t156 a3), z7, .slice Ao95 y008_2.length co95, .string y009_20]) ?_ 8 _ rfl; exact BK157.out⟩, ⟨by repeat (with_reducible first | exact HB.out | apply below_alloc | apply pw_below_drewN | apply below_drew1 | refine below_set ?_ GE141.out | refine below_set ?_ GE157.out | refine below_set ?_ GE173.out)⟩⟩
           ·rw [if_neg c159] at H
            exact absurd H (by simp)
          ·rw [if_neg c158] at H
           exact absurd H (by simp)
         ·rw [if_neg c157] at H
          exact absurd H (by simp)
        ·rw [if_neg c155] at H
         exact absurd H (by simp)
       ·rw [if_neg c154] at H
        exact absurd H (by simp)
      ·rw [if_neg c152] at H
       have c152b0 : ((Int.tmod (rd l0 (ji116)) 4) == 2) = false := beq_eq_false_iff_ne.mpr c152
       have c152b1 : ((Int.tmod (rd l0 (ji116)) 4) != 2) = true := bne_iff_ne.mpr c152
       by_cases c173 : y008_2.length < 1599289640401
       ·rw [if_pos c173] at H
        have LMc173 := Aside0.mk c173
        clear c173
        obtain ⟨y194, hy194⟩ : ∃ y_ : List (S68), y_ = (y008_2 ++ [(⟨(wrap64 (x10_2 + (wrap64 (1 + (wrap64 (Int.tmod (rd l0 x11_2) 3)))))), t167, (rdOf ByteArray.empty y168 (ji89)), 0, 0, false, (⟨#[]⟩ : ByteArray), x174007_91⟩ : S68)]) := ⟨_, rfl⟩
        replace H : (roadsteadlaw10_Sub.l0 kj91 l0 a2 a3 (wrap64 (x10_2 + (wrap64 (1 + (wrap64 (Int.tmod (rd l0 x11_2) 3)))))) (wrap64 (x11_2 + 4)) a1 ((⟨#[110]⟩ : ByteArray) ++ t143) (rdOf ByteArray.empty y144 (ji9)) (rdOf ByteArray.empty y149 (ji13)) (wrap64 (1 + (wrap64 (t154 * 3)))) (wrap64 (1 + (Int.tmod t155 9))) (Int.tmod t156 a3) y007_2 y194 y009_20) = some (r1, r2, r3, r4, r5, r6, r7, r8, r9, r10) := by first | (rw [hy194]; with_reducible exact H) | (have H2_ := (Option.bind_some _ _).symm.trans H; rw [hy194]; with_reducible exact H2_) | (have H2_ := (Option.bind_some _ _).symm.trans H; with_reducible exact H2_) | with_reducible exact H | (rw [hy194]; exact H) | exact H
        have Ny194 := Aside0.mk hy194
        clear hy194
        have H' := Aside0.mk H
        clear H
        have p176 : 0 ≤ ((ji116) : Int) := of_decide_eq_true (by first | (with_reducible assumption) | assumption)
        have q176 : (ji116) < (l0.length : Int) := of_decide_eq_true (by first | (with_reducible assumption) | assumption)
        obtain ⟨ad176, e176, hx176_0⟩ := Kd.at_int HR0.out (ji116) p176 q176
        obtain rfl : ad161 = ad176 := (by injection e176)
        replace hx176_0 := (HB.out.cell (World.block_lt_of_cell? w _ hx176_0)).trans hx176_0
        replace p176 := eq_true p176
        replace q176 := eq_true q176
        have hnb174 := NB157_141.out
        have hnc174 := NB141_157.out
        have hnb175 := NB157_173.out
        have hnc175 := NB173_157.out
        have hcz176_0 : wc.cell? ⟨gb157, 0, none⟩ = some (.int .i64 a1) := (blk_cell BK157.out 0).trans rfl
        have hcz176_1 : wc.cell? ⟨gb157, 1, none⟩ = some (.string ((⟨#[110]⟩ : ByteArray) ++ t143)) := (blk_cell BK157.out 1).trans rfl
        have hcz176_2 : wc.cell? ⟨gb157, 2, none⟩ = some (.string (rdOf ByteArray.empty y144 (ji9))) := (blk_cell BK157.out 2).trans rfl
        have hcz176_3 : wc.cell? ⟨gb157, 3, none⟩ = some (.string (rdOf ByteArray.empty y149 (ji13))) := (blk_cell BK157.out 3).trans rfl
        have hcz176_4 : wc.cell? ⟨gb157, 4, none⟩ = some (.int .i64 (wrap64 (1 + (wrap64 (t154 * 3))))) := (blk_cell BK157.out 4).trans rfl
        have hcz176_5 : wc.cell? ⟨gb157, 5, none⟩ = some (.int .i64 (wrap64 (1 + (Int.tmod t155 9)))) := (blk_cell BK157.out 5).trans rfl
        have hcz176_6 : wc.cell? ⟨gb157, 6, none⟩ = some (.int .i64 (Int.tmod t156 a3)) := (blk_cell BK157.out 6).trans rfl
        have hcz176_7 : wc.cell? ⟨gb157, 7, none⟩ = some (z7) := (blk_cell BK157.out 7).trans rfl
        have hcz176_8 : wc.cell? ⟨gb157, 8, none⟩ = some (.slice Ao95 y008_2.length co95) := (blk_cell BK157.out 8).trans rfl
        have hcz176_9 : wc.cell? ⟨gb157, 9, none⟩ = some (.string y009_20) := (blk_cell BK157.out 9).trans rfl
        have hfz176_0 := blk_frozen BK157.out 0
        have hfz176_1 := blk_frozen BK157.out 1
        have hfz176_2 := blk_frozen BK157.out 2
        have hfz176_3 := blk_frozen BK157.out 3
        have hfz176_4 := blk_frozen BK157.out 4
        have hfz176_5 := blk_frozen BK157.out 5
        have hfz176_6 := blk_frozen BK157.out 6
        have hfz176_7 := blk_frozen BK157.out 7
        have hfz176_8 := blk_frozen BK157.out 8
        have hfz176_9 := blk_frozen BK157.out 9
        have hnb177 := NB173_141.out
        have hnc177 := NB141_173.out
        have hcz178_0 : wc.cell? ⟨gb173, 0, none⟩ = some (.int .i64 (wrap64 (x10_2 + (wrap64 (1 + (wrap64 (Int.tmod (rd l0 x11_2) 3))))))) := (blk_cell BK173.out 0).trans rfl
        have hcz178_1 : wc.cell? ⟨gb173, 1, none⟩ = some (.string t167) := (blk_cell BK173.out 1).trans rfl
        have hcz178_2 : wc.cell? ⟨gb173, 2, none⟩ = some (.string (rdOf ByteArray.empty y168 (ji89))) := (blk_cell BK173.out 2).trans rfl
        have hcz178_3 : wc.cell? ⟨gb173, 3, none⟩ = some (.int .i64 0) := (blk_cell BK173.out 3).trans rfl
        have hcz178_4 : wc.cell? ⟨gb173, 4, none⟩ = some (.int .i64 0) := (blk_cell BK173.out 4).trans rfl
        have hcz178_5 : wc.cell? ⟨gb173, 5, none⟩ = some (.bool false) := (blk_cell BK173.out 5).trans rfl
        have hcz178_6 : wc.cell? ⟨gb173, 6, none⟩ = some (.string (⟨#[]⟩ : ByteArray)) := (blk_cell BK173.out 6).trans rfl
        have hcz178_7 : wc.cell? ⟨gb173, 7, none⟩ = some (.int .i64 x174007_91) := (blk_cell BK173.out 7).trans rfl
        have hfz178_0 := blk_frozen BK173.out 0
        have hfz178_1 := blk_frozen BK173.out 1
        have hfz178_2 := blk_frozen BK173.out 2
        have hfz178_3 := blk_frozen BK173.out 3
        have hfz178_4 := blk_frozen BK173.out 4
        have hfz178_5 := blk_frozen BK173.out 5
        have hfz178_6 := blk_frozen BK173.out 6
        have hfz178_7 := blk_frozen BK173.out 7
        go_wp2_with (first | ((with_reducible refine gate_builtin (b := .append) (xs := #[.tmp 190, .tmp 192]) rfl ?_); (try (refine gate_guard (by rfl) ?_; dsimp only)); at_builtin; refine Kd.R_append k68 (w0 := w) w.heap.size rfl (.tmp 190) (.tmp 192) 44 68 (.agg #[(.int .i64 0), (.string ⟨#[]⟩), (.string ⟨#[]⟩), (.int .i64 0), (.int .i64 0), (.bool false), (.string ⟨#[]⟩), (.int .i64 0)]) 88 rfl Try.underlying44 info68 rfl (by decide) (by omega) (.slice Ao95 y008_2.length co95) y008_2 (⟨(wrap64 (x10_2 + (wrap64 (1 + (wrap64 (Int.tmod (rd l0 x11_2) 3)))))), t167, (rdOf ByteArray.empty y168 (ji89)), 0, 0, false, (⟨#[]⟩ : ByteArray), x174007_91⟩ : S68) [.int .i64 (wrap64 (x10_2 + (wrap64 (1 + (wrap64 (Int.tmod (rd l0 x11_2) 3)))))), .string t167, .string (rdOf ByteArray.empty y168 (ji89)), .int .i64 0, .int .i64 0, .bool false, .string (⟨#[]⟩ : ByteArray), .int .i64 x174007_91] (fun k_ => k_ ≠ gb173) (fun _ => False) rfl rfl ?aP (fun _ hk => hk.elim) ?aF ?aO ?aB ?aS ?aL ?_; (case aP => exact k68_mkM _ _ _ (⟨(wrap64 (x10_2 + (wrap64 (1 + (wrap64 (Int.tmod (rd l0 x11_2) 3)))))), t167, (rdOf ByteArray.empty y168 (ji89)), 0, 0, false, (⟨#[]⟩ : ByteArray), x174007_91⟩ : S68)); (case aB => exact (by repeat (with_reducible first | exact HB.out | apply below_alloc | apply pw_below_drewN | apply below_drew1 | refine below_set ?_ GE141.out | refine below_set ?_ GE157.out | refine below_set ?_ GE173.out))); (case aF => exact (fun k_ hk => Kd.freshB (g := gb173) (o := .cells #[.int .i64 (wrap64 (x10_2 + (wrap64 (1 + (wrap64 (Int.tmod (rd l0 x11_2) 3)))))), .string t167, .string (rdOf ByteArray.empty y168 (ji89)), .int .i64 0, .int .i64 0, .bool false, .string (⟨#[]⟩ : ByteArray), .int .i64 x174007_91] 68 (0, 0)) (by (with_reducible repeat (first | refine blk_drewN ?_ _ | refine blk_drew ?_ | refine blk_alloc ?_ _)); exact BK173.out) k_ hk)); (case aO => exact (by (with_reducible repeat (first | apply Kd.R_alloc | apply Kd.R_drewN | apply Kd.R_drew)); exact P8.out)); (case aS => exact (below_size (by repeat (with_reducible first | exact HB.out | apply below_alloc | apply pw_below_drewN | apply below_drew1 | refine below_set ?_ GE141.out | refine below_set ?_ GE157.out | refine below_set ?_ GE173.out)))); (case aL => have := LMc173.out; omega); intro v195 w179 ho hb hg hat; rw [← Ny194.out] at ho; have n0_ := Aside0.mk (Kd.R_over' (by (with_reducible repeat (first | apply Kd.R_alloc | apply Kd.R_drewN | apply Kd.R_drew)); exact P7.out) (Kd.R_typed (by (with_reducible repeat (first | apply Kd.R_alloc | apply Kd.R_drewN | apply Kd.R_drew)); exact P8.out)) (by decide) hg); have n1_ := Aside0.mk (blk_grown (g := gb141) (o := .cells #[.int .i64 0, .string (⟨#[]⟩ : ByteArray), .string (⟨#[]⟩ : ByteArray), .string (⟨#[]⟩ : ByteArray), .int .i64 0, .int .i64 0, .int .i64 0, .slice none 0 0, .slice none 0 0, .string (⟨#[]⟩ : ByteArray)] 46 (0, 0)) (by (with_reducible repeat (first | refine blk_drewN ?_ _ | refine blk_drew ?_ | refine blk_alloc ?_ _)); exact BK141.out) hg (Kd.R_ne P8.out BK141.out (by decide))); have n2_ := Aside0.mk (blk_grown (g := gb157) (o := .cells #[.int .i64 a1, .string ((⟨#[110]⟩ : ByteArray) ++ t143), .string (rdOf ByteArray.empty y144 (ji9)), .string (rdOf ByteArray.empty y149 (ji13)), .int .i64 (wrap64 (1 + (wrap64 (t154 * 3)))), .int .i64 (wrap64 (1 + (Int.tmod t155 9))), .int .i64 (Int.tmod t156 a3), z7, .slice Ao95 y008_2.length co95, .string y009_20] 46 (0, 0)) (by (with_reducible repeat (first | refine blk_drewN ?_ _ | refine blk_drew ?_ | refine blk_alloc ?_ _)); exact BK157.out) hg (Kd.R_ne P8.out BK157.out (by decide))); have n3_ := Aside0.mk (blk_grown (g := gb173) (o := .cells #[.int .i64 (wrap64 (x10_2 + (wrap64 (1 + (wrap64 (Int.tmod (rd l0 x11_2) 3)))))), .string t167, .string (rdOf ByteArray.empty y168 (ji89)), .int .i64 0, .int .i64 0, .bool false, .string (⟨#[]⟩ : ByteArray), .int .i64 x174007_91] 68 (0, 0)) (by (with_reducible repeat (first | refine blk_drewN ?_ _ | refine blk_drew ?_ | refine blk_alloc ?_ _)); exact BK173.out) hg (Kd.R_away P8.out (fun _ hk => hk))); have n4_ := Aside0.mk (hb); have n5_ := Aside0.mk (ho); clear P7; clear BK141; clear BK157; clear BK173; clear HB; clear P8; have P7 := n0_; have BK141 := n1_; have BK157 := n2_; have BK173 := n3_; have HB := n4_; have HO196 := n5_; clear n0_ n1_ n2_ n3_ n4_ n5_; clear ho hb hg hat; obtain ⟨Ao180, co180, eo180⟩ := Kd.R_slice HO196.out; subst eo180; have hcz181_0 : w179.cell? ⟨gb157, 0, none⟩ = some (.int .i64 a1) := (blk_cell BK157.out 0).trans rfl; have hcz181_1 : w179.cell? ⟨gb157, 1, none⟩ = some (.string ((⟨#[110]⟩ : ByteArray) ++ t143)) := (blk_cell BK157.out 1).trans rfl; have hcz181_2 : w179.cell? ⟨gb157, 2, none⟩ = some (.string (rdOf ByteArray.empty y144 (ji9))) := (blk_cell BK157.out 2).trans rfl; have hcz181_3 : w179.cell? ⟨gb157, 3, none⟩ = some (.string (rdOf ByteArray.empty y149 (ji13))) := (blk_cell BK157.out 3).trans rfl; have hcz181_4 : w179.cell? ⟨gb157, 4, none⟩ = some (.int .i64 (wrap64 (1 + (wrap64 (t154 * 3))))) := (blk_cell BK157.out 4).trans rfl; have hcz181_5 : w179.cell? ⟨gb157, 5, none⟩ = some (.int .i64 (wrap64 (1 + (Int.tmod t155 9)))) := (blk_cell BK157.out 5).trans rfl; have hcz181_6 : w179.cell? ⟨gb157, 6, none⟩ = some (.int .i64 (Int.tmod t156 a3)) := (blk_cell BK157.out 6).trans rfl; have hcz181_7 : w179.cell? ⟨gb157, 7, none⟩ = some (z7) := (blk_cell BK157.out 7).trans rfl; have hcz181_8 : w179.cell? ⟨gb157, 8, none⟩ = some (.slice Ao95 y008_2.length co95) := (blk_cell BK157.out 8).trans rfl; have hcz181_9 : w179.cell? ⟨gb157, 9, none⟩ = some (.string y009_20) := (blk_cell BK157.out 9).trans rfl; have hfz181_0 := blk_frozen BK157.out 0; have hfz181_1 := blk_frozen BK157.out 1; have hfz181_2 := blk_frozen BK157.out 2; have hfz181_3 := blk_frozen BK157.out 3; have hfz181_4 := blk_frozen BK157.out 4; have hfz181_5 := blk_frozen BK157.out 5; have hfz181_6 := blk_frozen BK157.out 6; have hfz181_7 := blk_frozen BK157.out 7; have hfz181_8 := blk_frozen BK157.out 8; have hfz181_9 := blk_frozen BK157.out 9))
        go_roundg kj91
        case measure => have := HJ20.out; have := HK2.out; have := HJ52.out; have := HJ63.out; have := HJ91.out; omega
        case rel => exact ⟨((wrap64 (x10_2 + (wrap64 (1 + (wrap64 (Int.tmod (rd l0 x11_2) 3))))))), (wrap64 (x11_2 + 4)), (y007_2), (y194), (z7), (.slice Ao180 y194.length co180), (by first | rfl | (simp; done) | (simp [*]; done)), (by first | rfl | (simp; done) | (simp [*]; done)), H', ⟨by have := HJ20.out; have := HK2.out; have := HJ52.out; have := HJ63.out; have := HJ91.out; omega⟩, ⟨by (with_reducible repeat (first | apply Kd.R_alloc | apply Kd.R_drewN | apply Kd.R_drew)); exact Kd.R_mono (Kd.R_far (p := ⟨gb157, 8, none⟩) (Kd.R_types P7.out BK157.out (by decide)) (fun _ hk => hk.2) (.slice Ao180 y194.length co180)) (fun _ hk => trivial)⟩, ⟨by (with_reducible repeat (first | apply Kd.R_alloc | apply Kd.R_drewN | apply Kd.R_drew)); exact Kd.R_mono (Kd.R_far (p := ⟨gb157, 8, none⟩) (Kd.R_types HO196.out BK157.out (by decide)) (fun _ hk => hk.2) (.slice Ao180 y194.length co180)) (fun _ hk => trivial)⟩, ⟨by (with_reducible repeat (first | refine blk_drewN ?_ _ | refine blk_drew ?_ | refine blk_alloc ?_ _)); refine blk_far ?_ NB141_157.out _; exact BK141.out⟩, ⟨by (with_reducible repeat (first | refine blk_drewN ?_ _ | refine blk_drew ?_ | refine blk_alloc ?_ _)); refine blk_put (cs := #[.int .i64 a1, .string ((⟨#[110]⟩ : ByteArray) ++ t143), .string (rdOf ByteArray.empty y144 (ji9)), .string (rdOf ByteArray.empty y149 (ji13)), .int .i64 (wrap64 (1 + (wrap64 (t154 * 3)))), .int .i64 (wrap64 (1 + (Int.tmod t155 9))), .int .i64 (Int.tmod t156 a3), z7, .slice Ao95 y008_2.length co95, .string y009_20]) ?_ 8 _ rfl; exact BK157.out⟩, ⟨by repeat (with_reducible first | exact HB.out | apply below_alloc | apply pw_below_drewN | apply below_drew1 | refine below_set ?_ GE141.out | refine below_set ?_ GE157.out | refine below_set ?_ GE173.out)⟩⟩
       ·rw [if_neg c173] at H
        exact absurd H (by simp)
   ·rw [if_neg c118] at H
    exact absurd H (by simp)
  ·rw [if_neg c117] at H
   exact absurd H (by simp)
theorem roadsteadlaw10_Sub.calls (k : Nat) (A0 : Option Addr) (c0 : Nat) (l0 : List Int) (a1 : Int) (a2 : Int) (a3 : Int) (r1 : Int) (r2 : ByteArray) (r3 : ByteArray) (r4 : ByteArray) (r5 : Int) (r6 : Int) (r7 : Int) (r8 : List Int) (r9 : List (S68)) (r10 : ByteArray) (w : World) (hr0 : Kd.C (Kd.int .u8) w A0 l0.length l0) (hc0 : l0.length ≤ c0) (h : roadsteadlaw10_Sub.f k l0 a1 a2 a3 = some (r1, r2, r3, r4, r5, r6, r7, r8, r9, r10)) :
  Calls Try.prog 24 #[.slice A0 l0.length c0, .int .i64 a1, .int .i64 a2, .int .i64 a3] w fun e w' => ∃ v7_ v8_ : Value, e = .returned (.agg #[.int .i64 r1, .string r2, .string r3, .string r4, .int .i64 r5, .int .i64 r6, .int .i64 r7, v7_, v8_, .string r10]) ∧ Kd.R (Kd.int .i64) 3 w' w.heap.size (fun _ => True) v7_ r8 ∧ Kd.R k68 68 w' w.heap.size (fun _ => True) v8_ r9 ∧ Below w.heap.size w w' :=
  sub_c1.2 ⟨sub_c2.2 ⟨sub_c3⟩⟩ k A0 c0 l0 a1 a2 a3 r1 r2 r3 r4 r5 r6 r7 r8 r9 r10 w hr0 hc0 h
end Go.Proofs.Ytajfefjmfelnbaa.BState
