/- ShaSums: the law's walk. -/
import Derived.Test.YtocjjojjkcilbaaDoorRefSum
import Derived.Deep.RegionHeld3
namespace Go.Proofs.YtocjjojjkcilbaaDoor
open Go.RowKit Go.Proofs.YtocjjojjkcilbaaDoorW.PrintWords Go.Proofs.YtocjjojjkcilbaaDoorW.PrintLast Go.Proofs.YtocjjojjkcilbaaDoorW.PrintMore
set_option linter.unusedVariables false
set_option maxHeartbeats 1000000 in
theorem shaSums.big (A : Option Addr) (c : Nat) (l : List Int) (v n : Int) (w : World) (hG : Glob w) (hr : Kd.C (Kd.int .u8) w A l.length l) (hc : l.length ≤ c) (hbig : 400 < l.length) (hl : l.length ≤ 140737488351232) :
    Calls Tryd.prog 3 #[.slice A l.length c, .int .u8 v, .int .u8 n] w fun e w' => e = .returned (.bool true) ∧ Below w.heap.size w w' := by
  have e1 : decide ((400 : Int) < (l.length : Int)) = true := decide_eq_true (by omega)
  have HG := Aside0.mk hG
  clear hG
  go_enter Tryd.func3, Tryd.ntmps3
  go_wp2_with fail
  refine (known.calls w HG.out).mono ?_
  rintro e w3 ⟨rfl, hd⟩
  go_wp2
  go_ret
  exact ⟨rfl, hd⟩
set_option maxHeartbeats 1000000 in
theorem shaSums.small (A : Option Addr) (c : Nat) (l : List Int) (v n : Int) (w : World) (hG : Glob w) (hr : Kd.C (Kd.int .u8) w A l.length l) (hc : l.length ≤ c) (hbig : l.length ≤ 400) (hb8 : ∀ x ∈ l, 0 ≤ x ∧ x < 256) (hv : 0 ≤ v ∧ v < 256) (hn : 0 ≤ n ∧ n < 256) :
    Calls Tryd.prog 3 #[.slice A l.length c, .int .u8 v, .int .u8 n] w fun e w' => e = .returned (.bool true) ∧ Below w.heap.size w w' := by
  have e1 : decide ((400 : Int) < (l.length : Int)) = false := decide_eq_false (by omega)
  have HG := Aside0.mk hG
  have HA := Aside0.mk hr
  have HB8 := Aside0.mk hb8
  obtain ⟨hn0, hn1⟩ := hn
  obtain ⟨hv0, hv1⟩ := hv
  clear hG hr hb8
  go_enter Tryd.func3, Tryd.ntmps3
  go_wp2_with fail
  refine (known.calls w HG.out).mono ?_
  rintro e w1 ⟨rfl, hd⟩
  have HB1 := Aside0.mk hd
  clear hd
  go_wp2_with ((with_reducible refine gate_dst (N := 19) rfl ?_); refine Kd.R_make (Kd.int .u8) (w0 := w) w.heap.size 5 rfl (N := 19) rfl 22 _ _ rfl n rfl rfl Tryd.underlying22 (.int .u8 0) 1 info5 rfl (by decide) (by omega) 0 (ok := fun _ => True) (okp := fun _ => True) rfl (fun _ hk => hk) trivial hn0 (by omega) HB1.out HB1.out.size ?_; intro v1 w2 ho hb hg_ hnew_; clear hg_ hnew_; have HO := Aside0.mk ho; have HB2 := Aside0.mk hb; clear ho hb)
  go_loopw [8] (fun v8 wr => ∃ (i : Nat) (xs : List Int), i ≤ xs.length ∧ v8 = .int .i64 i ∧ Aside0 ((xs.length : Int) = n) ∧ Aside0 (∀ x ∈ xs, 0 ≤ x ∧ x < 256) ∧ Aside0 (Kd.R (Kd.int .u8) 5 wr w.heap.size (fun _ => True) v1 xs) ∧ Aside0 (Below w.heap.size w wr)) (fun v8 _ => n.toNat - (intOf v8).toNat)
  case atStart => exact ⟨0, List.replicate n.toNat 0, by omega, rfl, ⟨by rw [List.length_replicate]; omega⟩, ⟨fun x hx => by rw [(List.mem_replicate.1 hx).2]; decide⟩, HO, HB2⟩
  case round =>
    clear HO HB2 HB1
    obtain ⟨i, xs, hi, rfl, HN, HX, HO, HB⟩ := hrel
    obtain ⟨A1, c1, rfl⟩ := Kd.R_slice HO.out
    by_cases hlt : i < xs.length
    · obtain ⟨g, cg, eg, gb, gl, cl, HGF⟩ := Kd.R_form HO.out (by omega)
      cases eg
      obtain ⟨hx, hf⟩ := Kd.R_celln 0 HO.out (i : Int) (by omega) (by omega)
      have HP := Aside0.mk (Kd.R_putg HO.out (i : Int) ((v + (i : Int)) % 256))
      have GB := Aside0.mk gb
      have hl256 : xs.length < 256 := by have := HN.out; omega
      clear gb gl cl HGF
      simp only [Int.toNat_natCast] at hx hf
      go_wp2
      refine ⟨⟨i + 1, xs.set i ((v + (i : Int)) % 256), by rw [List.length_set]; omega, rfl, ⟨by rw [List.length_set]; exact HN.out⟩, ⟨fun x hx => ?_⟩, ⟨?_⟩, ⟨HB.out.setCell (by exact GB.out) _⟩⟩, by have := HN.out; simp only [intOf]; omega⟩
      · rcases List.mem_or_eq_of_mem_set hx with h | rfl
        · exact HX.out x h
        · omega
      · have h := HP.out.1
        rw [Int.toNat_natCast] at h
        exact h
    · obtain rfl : i = xs.length := by omega
      have hl256 : xs.length < 256 := by have := HN.out; omega
      have hxc := (Kd.R_reads' HO.out).2
      have HXC := Aside0.mk hxc
      obtain ⟨D, hD⟩ : ∃ D, part8u 32 (digest l) = D.toArray := ⟨(part8u 32 (digest l)).toList, by simp⟩
      have heq : ∀ w, (binOp .eql 24 (.agg D.toArray) (.agg D.toArray)).run Tryd.prog w = .ok (.bool true) w := by rw [← hD]; exact eql_part _
      obtain ⟨E, hE⟩ : ∃ E, part8u 32 (digest xs) = E.toArray := ⟨(part8u 32 (digest xs)).toList, by simp⟩
      have heqE : ∀ w, (binOp .eql 24 (.agg E.toArray) (.agg E.toArray)).run Tryd.prog w = .ok (.bool true) w := by rw [← hE]; exact eql_part _
      have HD := Aside0.mk hD
      have HE := Aside0.mk hE
      clear hD hE hxc HO
      go_wp2_with fail
      refine (sha_Sum.calls _ _ l _ (HG.out.below HB.out) (Kd.C_below HA.out HB.out) hc (by omega)).mono ?_
      rintro e w3 ⟨rfl, hb⟩
      have HB3 := Aside0.mk (below_step HB.out hb)
      have HBx3 := Aside0.mk hb
      clear hb
      rw [HD.out]
      go_wp2_with fail
      refine (ref_Sum.calls _ _ l _ (Kd.C_below HA.out HB3.out) hc (by omega) HB8.out).mono ?_
      rintro e w4 ⟨rfl, hb⟩
      have HB4 := Aside0.mk (below_step HB3.out hb)
      have HBx4 := Aside0.mk (below_step HBx3.out hb)
      clear hb
      rw [HD.out]
      go_wp2_with fail
      refine (sha_Sum.calls _ _ xs _ (HG.out.below HB4.out) (Kd.C_below HXC.out.2 HBx4.out) HXC.out.1 (by omega)).mono ?_
      rintro e w5 ⟨rfl, hb⟩
      have HB5 := Aside0.mk (below_step HB4.out hb)
      have HBx5 := Aside0.mk (below_step HBx4.out hb)
      clear hb
      rw [HE.out]
      go_wp2_with fail
      refine (ref_Sum.calls _ _ xs _ (Kd.C_below HXC.out.2 HBx5.out) HXC.out.1 (by omega) HX.out).mono ?_
      rintro e w6 ⟨rfl, hb⟩
      have HB6 := Aside0.mk (below_step HB5.out hb)
      clear hb
      rw [HE.out]
      go_wp2
      go_ret
      exact ⟨by first | rfl | simp, HB6.out⟩
end Go.Proofs.YtocjjojjkcilbaaDoor
