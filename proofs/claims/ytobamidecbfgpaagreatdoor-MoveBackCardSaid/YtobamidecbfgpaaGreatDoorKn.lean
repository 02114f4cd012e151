/- Steps there and back (plain); the chapter's example, over the shadow. No condition. -/
import Derived.Test.YtobamidecbfgpaaGreatDoorRd
import Derived.Test.YtobamidecbfgpaaGreatDoorPn
namespace Go.Proofs.YtobamidecbfgpaaGreatDoor
open Go Go.Sh Go.RowKit
set_option linter.unusedVariables false
set_option linter.unusedSimpArgs false
set_option maxRecDepth 10000
variable {W : World}
def idsL (s : Sta) : List Nat := s.subs.map (·.id)
def stepP (m : Mix) (s : Sta) : Mix := stepL m (pickI m (idsL s))
theorem getD_mem {l : List Nat} {i : Nat} (h : i < l.length) : l.getD i 0 ∈ l := by
  simp only [List.getD]
  rw [List.getElem?_eq_getElem h]
  exact List.getElem_mem h
theorem pick_mem {m : Mix} {s : Sta} (hs : StaG s) {a : Nat} (h : a ∈ pickI m (idsL s)) : 1 ≤ a ∧ a ≤ 9999 := by
  have h1 := (List.mem_filter.1 h).1
  refine ⟨rise_lt hs.rise a h1, ?_⟩
  obtain ⟨x, hx, rfl⟩ := List.mem_map.1 h1
  exact (hs.subs x hx).ok.id
/-- On the way up. -/
def Fwd (src to : Nat) (m : Mix) : Prop := MixOK m ∧ (m = ⟨to, to, 0, false⟩ ∨ (m.src = src ∧ m.to = to ∧ m.back = false))
theorem fwd_step {src to : Nat} (hto : 1 ≤ to ∧ to ≤ 3) {s : Sta} (hs : StaG s) {m : Mix} (h : Fwd src to m) (hne : m.src ≠ m.to) : Fwd src to (stepP m s) := by
  obtain ⟨hm, h | ⟨h1, h2, h3⟩⟩ := h
  · rw [h] at hne; exact absurd rfl hne
  unfold stepP stepL
  split
  · rw [if_neg (by rw [h3]; simp)]
    rw [h2]
    exact ⟨⟨hto, hto, by simp, .inl ⟨rfl, rfl, rfl⟩⟩, .inl rfl⟩
  · rename_i hl
    rw [if_neg (by rw [h3]; simp)]
    have := pick_mem hs (getD_mem (show 0 < (pickI m (idsL s)).length by omega))
    have hw := hm.way
    exact ⟨⟨hm.src, hm.to, this.2, by rcases hw with hw | hw | hw <;> first | exact absurd hw.1 hne | exact .inr (.inl hw) | exact .inr (.inr hw)⟩, .inr ⟨h1, h2, h3⟩⟩
/-- On the way down, with so many ids left. -/
def Bwd (src : Nat) (s : Sta) (k : Nat) (m : Mix) : Prop := MixOK m ∧ (m = ⟨src, src, 0, false⟩ ∨ (m.src = src ∧ m.back = true ∧ m.src ≠ m.to ∧ (pickI m (idsL s)).length < k))
theorem bwd_step {src : Nat} (hsrc : 1 ≤ src ∧ src ≤ 3) {s : Sta} (hs : StaG s) {m : Mix} {k : Nat} (h : Bwd src s (k + 1) m) (hne : m.src ≠ m.to) : Bwd src s k (stepP m s) := by
  obtain ⟨hm, h | ⟨h1, h2, h3, h4⟩⟩ := h
  · rw [h] at hne; exact absurd rfl hne
  unfold stepP stepL
  split
  · try rw [if_pos h2]
    rw [h1]
    exact ⟨⟨hsrc, hsrc, by simp, .inl ⟨rfl, rfl, rfl⟩⟩, .inl rfl⟩
  · rename_i hl
    try rw [if_pos h2]
    have hg := getD_mem (show (pickI m (idsL s)).length - 1 < (pickI m (idsL s)).length by omega)
    obtain ⟨z, hz⟩ : ∃ z, z = (pickI m (idsL s)).getD ((pickI m (idsL s)).length - 1) 0 := ⟨_, rfl⟩
    rw [← hz] at hg ⊢
    have hzb := pick_mem hs hg
    have hw := hm.way
    refine ⟨⟨hm.src, hm.to, by show z - 1 ≤ 9999; omega, by rcases hw with hw | hw | hw <;> first | exact absurd hw.1 hne | exact .inr (.inl hw) | exact .inr (.inr hw)⟩, .inr ⟨h1, h2, h3, ?_⟩⟩
    have hzc : z ≤ m.cursor := by
      have := (List.mem_filter.1 hg).2
      simp [pickB, h2] at this
      omega
    have e : pickI { m with cursor := z - 1 } (idsL s) = (pickI m (idsL s)).filter (pickB { m with cursor := z - 1 }) := by
      unfold pickI
      rw [List.filter_filter]
      refine List.filter_congr fun a _ => ?_
      simp only [pickB, h2]
      by_cases ha : a ≤ z - 1
      · simp [show ¬ z - 1 < a by omega, show ¬ m.cursor < a by omega]
      · simp [show z - 1 < a by omega]
    have hlt : ((pickI m (idsL s)).filter (pickB { m with cursor := z - 1 })).length < (pickI m (idsL s)).length := by
      rw [List.length_filter_lt_length_iff_exists]
      exact ⟨z, hg, by simp [pickB, h2]; omega⟩
    rw [e]
    omega
theorem step_eq {m : Mix} {s : Sta} (hs : StaG s) (hne : m.src ≠ m.to) : Fc T W 6 [dMix m, dSta s] (.tu [dMix (stepP m s), .b true]) := by
  have hl := hs.len
  exact step6 m hne s (by omega) hs.rise (fun x hx => by have := (hs.subs x hx).ok.id; omega)
theorem known8  : Fc T W 8 [] (.b true) := by
  have b5 : Fc T W 5 [.ag [.i .i64 1, .i .i64 1, .i .i64 0, .b false], .i .i64 3] (.tu [.ag [.i .i64 1, .i .i64 2, .i .i64 0, .b false], .i .u16 0]) := begin5 1 3 (by decide) (by decide) (by decide)
  have b6 : Fc T W 6 [.ag [.i .i64 1, .i .i64 2, .i .i64 0, .b false], .ag [.i .i64 0, .i .i64 0, .i .i64 0, .nil]] (.tu [.ag [.i .i64 2, .i .i64 2, .i .i64 0, .b false], .b true]) := step6 ⟨1, 2, 0, false⟩ (by decide) ⟨0, 0, 0, []⟩ (by decide) trivial (fun x hx => by cases hx)
  have b9 : Fc T W 9 [.ag [.i .i64 2, .i .i64 2, .i .i64 0, .b false]] (.tu [.ag [.i .i64 2, .i .i64 2, .i .i64 0, .b false], .i .u16 30]) := turn9e ⟨2, 2, 0, false⟩ rfl
  refine Fc_intro (thr := thr) hmix Tryz.func8 rfl (by kernel_rfl) (by simp [Tryz.ntmps8]) ?_
  refine CW_reg fun K_ hK => ?_
  simp [wk, vk, ek, ok, lk, er_dSubs2, buildD, fillD, thr]
  refine hK _ ?_
  refine CW_reg fun K_ hK => ?_
  simp [wk, vk, ek, ok, lk, er_dSubs2, buildD, fillD, thr]
  refine CallW_use (b5) ?_
  simp [wk, vk, ek, ok, lk, er_dSubs2, buildD, fillD, thr]
  refine hK _ ?_
  refine CW_reg fun K_ hK => ?_
  simp [wk, vk, ek, ok, lk, er_dSubs2, buildD, fillD, thr]
  refine CallW_use (b6) ?_
  simp [wk, vk, ek, ok, lk, er_dSubs2, buildD, fillD, thr]
  refine hK _ ?_
  refine CW_reg fun K_ hK => ?_
  simp [wk, vk, ek, ok, lk, er_dSubs2, buildD, fillD, thr]
  refine CallW_use (b9) ?_
  simp [wk, vk, ek, ok, lk, er_dSubs2, buildD, fillD, thr]
  refine hK _ ?_
  refine CW_reg fun K_ hK => ?_
  simp [wk, vk, ek, ok, lk, er_dSubs2, buildD, fillD, thr]
  refine hK _ ?_
  refine CW_rt ?_
  refine ends_ret ?_
  simp [Tryz.results8, resD, resL, resD1, vk, wk, ok, lk, er_dSubs2, buildD, fillD, ek]
end Go.Proofs.YtobamidecbfgpaaGreatDoor
