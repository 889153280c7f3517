-- By a program (fakeprint.py: the kit's print over a copy), then proved by Lean.
import Derived.Test.YtagnpmmcoaemeaaR16x0
import Derived.Test.YtagnpmmcoaemeaaR16x4
import Derived.Test.YtagnpmmcoaemeaaR16x5
import Derived.Test.YtagnpmmcoaemeaaHand
namespace Go.Proofs.Ytagnpmmcoaemeaa.R16
open Go.RowKit Go.Proofs.YtagnpmmcoaemeaaW.PrintWords Go.Proofs.YtagnpmmcoaemeaaW.PrintLast Go.Proofs.YtagnpmmcoaemeaaW.PrintMore
attribute [local go_sem] max2_int min2_int max_two min_two max_three min_three max_four min_four   -- for this text's walks alone
set_option linter.unusedVariables false
set_option linter.unusedSimpArgs false

/-! ### rivuletlaw16_RankTurns: function 5 -/
mutual
def rivuletlaw16_RankTurns.j0 : Nat → Int → Int → List (List Int) → Bool → Option (Bool)
  | 0, _, _, _, _ => none
  | k + 1, x1, x2, x7, x32 => if x32 = true then ((rivuletlaw16_fixed.f).bind fun t218 => (some t218)) else (rivuletlaw16_RankTurns.l0 k x1 x2 x7 (([] : List Int)) 0)
def rivuletlaw16_RankTurns.l0 : Nat → Int → Int → List (List Int) → List Int → Int → Option (Bool)
  | 0, _, _, _, _, _ => none
  | k + 1, x1, x2, x7, x8, x9 => if 0 ≤ x1 then (if x1 < (x7.length : Int) then (if x9 < ((rd_L1 x7 x1).length : Int) then ((rank_Choose.f k x7 x1 x2 ([] : List Int)).bind fun bt226 => (rivuletlaw16_RankTurns.l1 k x1 x7 x8 x9 bt226.1 bt226.2 false false 0)) else ((rank_Choose.f k x7 x1 x2 x8).bind fun bt223 => (if bt223.2 = true then (some false) else ((rivuletlaw16_fixed.f).bind fun t225 => (some t225))))) else (none)) else (none)
def rivuletlaw16_RankTurns.l1 : Nat → Int → List (List Int) → List Int → Int → Int → Bool → Bool → Bool → Int → Option (Bool)
  | 0, _, _, _, _, _, _, _, _, _ => none
  | k + 1, x1, x7, x8, x9, x10, x11, x12, x13, x14 => if 0 ≤ x1 then (if x1 < (x7.length : Int) then (if x14 < ((rd_L1 x7 x1).length : Int) then (if x12 = true then (rivuletlaw16_RankTurns.l1 k x1 x7 x8 x9 x10 x11 true x13 (wrap64 (x14 + 1))) else (if 0 ≤ x14 then (rivuletlaw16_RankTurns.l1 k x1 x7 x8 x9 x10 x11 ((rd (rd_L1 x7 x1) x14) == x10) x13 (wrap64 (x14 + 1))) else (none))) else (rivuletlaw16_RankTurns.l2 k x1 x7 x8 x9 x10 x11 x12 x13 0)) else (none)) else (none)
def rivuletlaw16_RankTurns.l2 : Nat → Int → List (List Int) → List Int → Int → Int → Bool → Bool → Bool → Int → Option (Bool)
  | 0, _, _, _, _, _, _, _, _, _ => none
  | k + 1, x1, x7, x8, x9, x10, x11, x12, x13, x15 => if x15 < (x8.length : Int) then (if x13 = true then (rivuletlaw16_RankTurns.l2 k x1 x7 x8 x9 x10 x11 x12 true (wrap64 (x15 + 1))) else (if 0 ≤ x15 then (rivuletlaw16_RankTurns.l2 k x1 x7 x8 x9 x10 x11 x12 ((rd x8 x15) == x10) (wrap64 (x15 + 1))) else (none))) else (if x11 = true then (if x12 = true then (if x13 = true then (some false) else (if x10 < 0 then (some false) else (if x10 ≥ x1 then (some false) else (if x8.length < 17592186044416 then (rivuletlaw16_RankTurns.l0 k x1 x10 x7 (x8 ++ [x10]) (wrap64 (x9 + 1))) else (none))))) else (some false)) else (some false))
end
def rivuletlaw16_RankTurns.f (k : Nat) (l0 : List (List Int)) (a1 : Int) (a2 : Int) : Option (Bool) := (rivuletlaw16_cut.f k l0).bind fun t214 => ((rank_Right.f k t214).bind fun t217 => (if t217 = 0 then (if a1 < 1 then (rivuletlaw16_RankTurns.j0 k a1 a2 t214 true) else (rivuletlaw16_RankTurns.j0 k a1 a2 t214 (decide (a1 ≥ (t214.length : Int))))) else (rivuletlaw16_RankTurns.j0 k a1 a2 t214 true)))
theorem rivuletlaw16_RankTurns.mono_l : ∀ k, (∀ y0 y1 y2 y3, LeO (rivuletlaw16_RankTurns.j0 k y0 y1 y2 y3) (rivuletlaw16_RankTurns.j0 (k + 1) y0 y1 y2 y3)) ∧ (∀ y0 y1 y2 y3 y4, LeO (rivuletlaw16_RankTurns.l0 k y0 y1 y2 y3 y4) (rivuletlaw16_RankTurns.l0 (k + 1) y0 y1 y2 y3 y4)) ∧ (∀ y0 y1 y2 y3 y4 y5 y6 y7 y8, LeO (rivuletlaw16_RankTurns.l1 k y0 y1 y2 y3 y4 y5 y6 y7 y8) (rivuletlaw16_RankTurns.l1 (k + 1) y0 y1 y2 y3 y4 y5 y6 y7 y8)) ∧ (∀ y0 y1 y2 y3 y4 y5 y6 y7 y8, LeO (rivuletlaw16_RankTurns.l2 k y0 y1 y2 y3 y4 y5 y6 y7 y8) (rivuletlaw16_RankTurns.l2 (k + 1) y0 y1 y2 y3 y4 y5 y6 y7 y8))
  | 0 => ⟨fun _ _ _ _ r h => by simp [rivuletlaw16_RankTurns.j0] at h, fun _ _ _ _ _ r h => by simp [rivuletlaw16_RankTurns.l0] at h, fun _ _ _ _ _ _ _ _ _ r h => by simp [rivuletlaw16_RankTurns.l1] at h, fun _ _ _ _ _ _ _ _ _ r h => by simp [rivuletlaw16_RankTurns.l2] at h⟩
  | k + 1 => by
    obtain ⟨ih0, ih1, ih2, ih3⟩ := rivuletlaw16_RankTurns.mono_l k
    refine ⟨?_, ?_, ?_, ?_⟩
    · intro y0 y1 y2 y3
      unfold rivuletlaw16_RankTurns.j0
      repeat' first
      | (with_reducible exact ih0 _ _ _ _)
      | (with_reducible exact ih1 _ _ _ _ _)
      | (with_reducible exact ih2 _ _ _ _ _ _ _ _ _)
      | (with_reducible exact ih3 _ _ _ _ _ _ _ _ _)
      | (with_reducible exact rank_Choose.mono _ _ _ _ _)
      | (with_reducible exact rank_Right.mono _ _)
      | (with_reducible exact rivuletlaw16_cut.mono _ _)
      | (with_reducible exact LeO.refl _)
      | (with_reducible exact LeO.none _)
      | (with_reducible refine LeO.ite ?_ ?_)
      | (with_reducible refine LeO.bind ?_ (fun _ => ?_))
      | exact ih0 _ _ _ _
      | exact ih1 _ _ _ _ _
      | exact ih2 _ _ _ _ _ _ _ _ _
      | exact ih3 _ _ _ _ _ _ _ _ _
      | exact rank_Choose.mono _ _ _ _ _
      | exact rank_Right.mono _ _
      | exact rivuletlaw16_cut.mono _ _
      | exact LeO.none _
      | refine LeO.ite ?_ ?_
      | refine LeO.bind ?_ (fun _ => ?_)
    · intro y0 y1 y2 y3 y4
      unfold rivuletlaw16_RankTurns.l0
      repeat' first
      | (with_reducible exact ih0 _ _ _ _)
      | (with_reducible exact ih1 _ _ _ _ _)
      | (with_reducible exact ih2 _ _ _ _ _ _ _ _ _)
      | (with_reducible exact ih3 _ _ _ _ _ _ _ _ _)
      | (with_reducible exact rank_Choose.mono _ _ _ _ _)
      | (with_reducible exact rank_Right.mono _ _)
      | (with_reducible exact rivuletlaw16_cut.mono _ _)
      | (with_reducible exact LeO.refl _)
      | (with_reducible exact LeO.none _)
      | (with_reducible refine LeO.ite ?_ ?_)
      | (with_reducible refine LeO.bind ?_ (fun _ => ?_))
      | exact ih0 _ _ _ _
      | exact ih1 _ _ _ _ _
      | exact ih2 _ _ _ _ _ _ _ _ _
      | exact ih3 _ _ _ _ _ _ _ _ _
      | exact rank_Choose.mono _ _ _ _ _
      | exact rank_Right.mono _ _
      | exact rivuletlaw16_cut.mono _ _
      | exact LeO.none _
      | refine LeO.ite ?_ ?_
      | refine LeO.bind ?_ (fun _ => ?_)
    · intro y0 y1 y2 y3 y4 y5 y6 y7 y8
      unfold rivuletlaw16_RankTurns.l1
      repeat' first
      | (with_reducible exact ih0 _ _ _ _)
      | (with_reducible exact ih1 _ _ _ _ _)
      | (with_reducible exact ih2 _ _ _ _ _ _ _ _ _)
      | (with_reducible exact ih3 _ _ _ _ _ _ _ _ _)
      | (with_reducible exact rank_Choose.mono _ _ _ _ _)
      | (with_reducible exact rank_Right.mono _ _)
      | (with_reducible exact rivuletlaw16_cut.mono _ _)
      | (with_reducible exact LeO.refl _)
      | (with_reducible exact LeO.none _)
      | (with_reducible refine LeO.ite ?_ ?_)
      | (with_reducible refine LeO.bind ?_ (fun _ => ?_))
      | exact ih0 _ _ _ _
      | exact ih1 _ _ _ _ _
      | exact ih2 _ _ _ _ _ _ _ _ _
      | exact ih3 _ _ _ _ _ _ _ _ _
      | exact rank_Choose.mono _ _ _ _ _
      | exact rank_Right.mono _ _
      | exact rivuletlaw16_cut.mono _ _
      | exact LeO.none _
      | refine LeO.ite ?_ ?_
      | refine LeO.bind ?_ (fun _ => ?_)
    · intro y0 y1 y2 y3 y4 y5 y6 y7 y8
      unfold rivuletlaw16_RankTurns.l2
      repeat' first
      | (with_reducible exact ih0 _ _ _ _)
      | (with_reducible exact ih1 _ _ _ _ _)
      | (with_reducible exact ih2 _ _ _ _ _ _ _ _ _)
      | (with_reducible exact ih3 _ _ _ _ _ _ _ _ _)
      | (with_reducible exact rank_Choose.mono _ _ _ _ _)
      | (with_reducible exact rank_Right.mono _ _)
      | (with_reducible exact rivuletlaw16_cut.mono _ _)
      | (with_reducible exact LeO.refl _)
      | (with_reducible exact LeO.none _)
      | (with_reducible refine LeO.ite ?_ ?_)
      | (with_reducible refine LeO.bind ?_ (fun _ => ?_))
      | exact ih0 _ _ _ _
      | exact ih1 _ _ _ _ _
      | exact ih2 _ _ _ _ _ _ _ _ _
      | exact ih3 _ _ _ _ _ _ _ _ _
      | exact rank_Choose.mono _ _ _ _ _
      | exact rank_Right.mono _ _
      | exact rivuletlaw16_cut.mono _ _
      | exact LeO.none _
      | refine LeO.ite ?_ ?_
      | refine LeO.bind ?_ (fun _ => ?_)
theorem rivuletlaw16_RankTurns.mono : ∀ a0 a1 a2 k, LeO (rivuletlaw16_RankTurns.f k a0 a1 a2) (rivuletlaw16_RankTurns.f (k + 1) a0 a1 a2) := by
  intro a0 a1 a2 k
  obtain ⟨ih0, ih1, ih2, ih3⟩ := rivuletlaw16_RankTurns.mono_l k
  unfold rivuletlaw16_RankTurns.f
  repeat' first
      | (with_reducible exact ih0 _ _ _ _)
      | (with_reducible exact ih1 _ _ _ _ _)
      | (with_reducible exact ih2 _ _ _ _ _ _ _ _ _)
      | (with_reducible exact ih3 _ _ _ _ _ _ _ _ _)
      | (with_reducible exact rank_Choose.mono _ _ _ _ _)
      | (with_reducible exact rank_Right.mono _ _)
      | (with_reducible exact rivuletlaw16_cut.mono _ _)
      | (with_reducible exact LeO.refl _)
      | (with_reducible exact LeO.none _)
      | (with_reducible refine LeO.ite ?_ ?_)
      | (with_reducible refine LeO.bind ?_ (fun _ => ?_))
      | exact ih0 _ _ _ _
      | exact ih1 _ _ _ _ _
      | exact ih2 _ _ _ _ _ _ _ _ _
      | exact ih3 _ _ _ _ _ _ _ _ _
      | exact rank_Choose.mono _ _ _ _ _
      | exact rank_Right.mono _ _
      | exact rivuletlaw16_cut.mono _ _
      | exact LeO.none _
      | refine LeO.ite ?_ ?_
      | refine LeO.bind ?_ (fun _ => ?_)
set_option maxHeartbeats 8000000 in
set_option maxRecDepth 100000 in
theorem rivuletlaw16_RankTurns.calls (k : Nat) (A0 : Option Addr) (c0 : Nat) (l0 : List (List Int)) (a1 : Int) (a2 : Int) (r : Bool) (w : World) (hr0 : Kd.C (Kd.slice 3 (Kd.int .i64)) w A0 l0.length l0) (hc0 : l0.length ≤ c0) (h : rivuletlaw16_RankTurns.f k l0 a1 a2 = some r) :
    Calls Try.prog 5 #[.slice A0 l0.length c0, .int .i64 a1, .int .i64 a2] w fun e w' => e = .returned (.bool r) ∧ Below w.heap.size w w' := by
  have HR0 := Aside0.mk hr0
  have HC0 := Aside0.mk hc0
  clear hr0 hc0
  have HB := Aside0.mk (Below.refl w.heap.size w)
  have H : ((rivuletlaw16_cut.f k l0).bind fun t214 => ((rank_Right.f k t214).bind fun t217 => (if t217 = 0 then (if a1 < 1 then (rivuletlaw16_RankTurns.j0 k a1 a2 t214 true) else (rivuletlaw16_RankTurns.j0 k a1 a2 t214 (decide (a1 ≥ (t214.length : Int))))) else (rivuletlaw16_RankTurns.j0 k a1 a2 t214 true)))) = some r := h
  clear h
  replace H := Option.bind_eq_some_iff.mp H
  obtain ⟨t214, A40, H⟩ := H
  replace H : ((rank_Right.f k t214).bind fun t217 => (if t217 = 0 then (if a1 < 1 then (rivuletlaw16_RankTurns.j0 k a1 a2 t214 true) else (rivuletlaw16_RankTurns.j0 k a1 a2 t214 (decide (a1 ≥ (t214.length : Int))))) else (rivuletlaw16_RankTurns.j0 k a1 a2 t214 true))) = some r := H
  have A4 := Aside0.mk A40
  clear A40
  have HC5 := Aside0.mk H
  clear H
  go_enter Try.func5, Try.ntmps5
  go_upto_region 2 with (first | ((with_reducible refine gate_callee (f := 9) rfl ?_); refine goesL_ (some 19) rfl rfl Try.func9 (by kernel_rfl) rfl #[.slice A0 l0.length c0] rfl (by (try simp only [List.map_toArray, List.map_cons, List.map_nil]); first | done | rfl | (simp only [List.length_drop, List.length_take]; rfl)) ?_; (with_reducible refine (rivuletlaw16_cut.calls k (fun k_ => k_ < w.heap.size) _ _ l0 t214 _ ?side1 A4.out).mono ?_); (case side1 => exact Kd.V_mk HC0.out (Kd.F_below (Kd.C_F (Kd.heap_slice 3 (Kd.heap_int .i64)) HR0.out) (by repeat (first | (with_reducible first | exact HB.out | apply below_alloc | apply pw_below_drewN | apply below_drew1) | exact HB.out)))); rintro e w6 ⟨v215, rfl, ho0, hb⟩; refine ⟨_, rfl, ?_⟩; have n0_ := Aside0.mk (Kd.N_lower (Kd.N_mono (ok' := fun k_ => True) ho0 (fun k_ hk_ => trivial)) (below_size (by repeat (first | (with_reducible first | exact HB.out | apply below_alloc | apply pw_below_drewN | apply below_drew1) | exact HB.out)))); have n1_ := Aside0.mk (below_step (by repeat (first | (with_reducible first | exact HB.out | apply below_alloc | apply pw_below_drewN | apply below_drew1) | exact HB.out)) hb); clear HB; have HO216 := n0_; have HB := n1_; clear n0_ n1_; (try clear hb); (try clear hb2); (try clear hk); (try clear hi); (try clear ho0)))
  (try simp only [Act.put, List.setIfInBounds_toArray, List.set_cons_zero, List.set_cons_succ])
  go_cut [32] (fun v32 wc => ∃ (kq : Nat) (x32_4 : Bool), v32 = .bool x32_4 ∧ Aside0 (rivuletlaw16_RankTurns.j0 kq a1 a2 t214 x32_4 = some r) ∧ Aside0 (kq ≤ k) ∧ Aside0 (Kd.N (Kd.slice 3 (Kd.int .i64)) 24 wc w.heap.size (fun _ => True) v215 t214) ∧ Aside0 (Below w.heap.size w wc))
  case first =>
    have H := HC5.out
    clear HC5
    replace H := Option.bind_eq_some_iff.mp H
    obtain ⟨t217, A70, H⟩ := H
    replace H : (if t217 = 0 then (if a1 < 1 then (rivuletlaw16_RankTurns.j0 k a1 a2 t214 true) else (rivuletlaw16_RankTurns.j0 k a1 a2 t214 (decide (a1 ≥ (t214.length : Int))))) else (rivuletlaw16_RankTurns.j0 k a1 a2 t214 true)) = some r := H
    have A7 := Aside0.mk A70
    clear A70
    by_cases c8 : t217 = 0
    · rw [if_pos c8] at H
      have c8b0 : (t217 == 0) = true := beq_iff_eq.mpr c8
      have c8b1 : (t217 != 0) = false := bne_eq_false_iff_eq.mpr c8
      clear c8
      (first | rw [c8b0] | (simp only [i64_w, i32_w]; rw [c8b0]) | skip)
      by_cases c9 : a1 < 1
      · rw [if_pos c9] at H
        have c9b0 : decide (a1 < 1) = true := decide_eq_true c9
        clear c9
        have H' := Aside0.mk H
        clear H
        obtain ⟨Ao10, co10, eo10⟩ := Kd.N_slice HO216.out
        subst eo10
        go_wp2_with (first | ((with_reducible refine gate_callee (f := 10) rfl ?_); refine goesL_ (some 21) rfl rfl Try.func10 (by kernel_rfl) rfl #[.slice Ao10 t214.length co10] rfl (by (try simp only [List.map_toArray, List.map_cons, List.map_nil]); first | done | rfl | (simp only [List.length_drop, List.length_take]; rfl)) ?_; (with_reducible refine (rank_Right.calls k _ _ t214 t217 _ ?side1 ?side2 A7.out).mono ?_); (case side1 => repeat (first | exact (Kd.N_reads' HO216.out).2.2 | (with_reducible refine Kd.C_alloc ?_ _) | (with_reducible refine Kd.C_drewN ?_ _) | (with_reducible refine Kd.C_drew ?_))); (case side2 => exact (Kd.N_reads' HO216.out).2.1); rintro e w' ⟨rfl, ⟨nd, rfl⟩⟩; refine ⟨_, rfl, ?_⟩))
        go_meet
        case rel => exact ⟨_, (true), (by first | rfl | (simp; done) | (simp [*]; done)), H', ⟨by first | omega | exact Nat.le_refl _⟩, ⟨by (with_reducible repeat (first | apply Kd.N_alloc | apply Kd.N_drewN | apply Kd.N_drew)); exact HO216.out⟩, ⟨by repeat (first | (with_reducible first | exact HB.out | apply below_alloc | apply pw_below_drewN | apply below_drew1) | exact HB.out)⟩⟩
      · rw [if_neg c9] at H
        have c9b0 : decide (a1 < 1) = false := decide_eq_false c9
        clear c9
        have H' := Aside0.mk H
        clear H
        obtain ⟨Ao11, co11, eo11⟩ := Kd.N_slice HO216.out
        subst eo11
        go_wp2_with (first | ((with_reducible refine gate_callee (f := 10) rfl ?_); refine goesL_ (some 21) rfl rfl Try.func10 (by kernel_rfl) rfl #[.slice Ao11 t214.length co11] rfl (by (try simp only [List.map_toArray, List.map_cons, List.map_nil]); first | done | rfl | (simp only [List.length_drop, List.length_take]; rfl)) ?_; (with_reducible refine (rank_Right.calls k _ _ t214 t217 _ ?side1 ?side2 A7.out).mono ?_); (case side1 => repeat (first | exact (Kd.N_reads' HO216.out).2.2 | (with_reducible refine Kd.C_alloc ?_ _) | (with_reducible refine Kd.C_drewN ?_ _) | (with_reducible refine Kd.C_drew ?_))); (case side2 => exact (Kd.N_reads' HO216.out).2.1); rintro e w' ⟨rfl, ⟨nd, rfl⟩⟩; refine ⟨_, rfl, ?_⟩))
        go_meet
        case rel => exact ⟨_, (decide (a1 ≥ (t214.length : Int))), (by first | rfl | (simp; done) | (simp [*]; done)), H', ⟨by first | omega | exact Nat.le_refl _⟩, ⟨by (with_reducible repeat (first | apply Kd.N_alloc | apply Kd.N_drewN | apply Kd.N_drew)); exact HO216.out⟩, ⟨by repeat (first | (with_reducible first | exact HB.out | apply below_alloc | apply pw_below_drewN | apply below_drew1) | exact HB.out)⟩⟩
    · rw [if_neg c8] at H
      have c8b0 : (t217 == 0) = false := beq_eq_false_iff_ne.mpr c8
      have c8b1 : (t217 != 0) = true := bne_iff_ne.mpr c8
      (first | rw [c8b0] | (simp only [i64_w, i32_w]; rw [c8b0]) | skip)
      have H' := Aside0.mk H
      clear H
      obtain ⟨Ao12, co12, eo12⟩ := Kd.N_slice HO216.out
      subst eo12
      go_wp2_with (first | ((with_reducible refine gate_callee (f := 10) rfl ?_); refine goesL_ (some 21) rfl rfl Try.func10 (by kernel_rfl) rfl #[.slice Ao12 t214.length co12] rfl (by (try simp only [List.map_toArray, List.map_cons, List.map_nil]); first | done | rfl | (simp only [List.length_drop, List.length_take]; rfl)) ?_; (with_reducible refine (rank_Right.calls k _ _ t214 t217 _ ?side1 ?side2 A7.out).mono ?_); (case side1 => repeat (first | exact (Kd.N_reads' HO216.out).2.2 | (with_reducible refine Kd.C_alloc ?_ _) | (with_reducible refine Kd.C_drewN ?_ _) | (with_reducible refine Kd.C_drew ?_))); (case side2 => exact (Kd.N_reads' HO216.out).2.1); rintro e w' ⟨rfl, ⟨nd, rfl⟩⟩; refine ⟨_, rfl, ?_⟩))
      go_meet
      case rel => exact ⟨_, (true), (by first | rfl | (simp; done) | (simp [*]; done)), H', ⟨by first | omega | exact Nat.le_refl _⟩, ⟨by (with_reducible repeat (first | apply Kd.N_alloc | apply Kd.N_drewN | apply Kd.N_drew)); exact HO216.out⟩, ⟨by repeat (first | (with_reducible first | exact HB.out | apply below_alloc | apply pw_below_drewN | apply below_drew1) | exact HB.out)⟩⟩
  case rest =>
    clear HC5
    try clear c1
    try clear p2
    try clear c5
    try clear c8
    try clear c8b0
    try clear c8b1
    try clear c9
    try clear c9b0
    try clear c10
    obtain ⟨kq, x32_4, rfl, HA, HJ4, HO_7, HB⟩ := hcut
    cases kq with
    | zero => exact absurd HA.out (by simp [rivuletlaw16_RankTurns.j0])
    | succ kj4 =>
      have H := HA.out
      clear HA
      simp only [rivuletlaw16_RankTurns.j0] at H
      by_cases c13 : x32_4 = true
      · subst c13
        have H1 : ((rivuletlaw16_fixed.f).bind fun t218 => (some t218)) = some r := by rw [if_pos rfl] at H; exact H
        clear H
        have H := H1
        clear H1
        replace H := Option.bind_eq_some_iff.mp H
        obtain ⟨t218, A140, H⟩ := H
        replace H : (some t218) = some r := H
        have A14 := Aside0.mk A140
        clear A140
        obtain rfl := Option.some.inj H
        go_wp2_with (first | ((with_reducible refine gate_callee (f := 15) rfl ?_); refine goesL_ (some 33) rfl rfl Try.func15 (by kernel_rfl) rfl #[] rfl (by (try simp only [List.map_toArray, List.map_cons, List.map_nil]); first | done | rfl | (simp only [List.length_drop, List.length_take]; rfl)) ?_; (with_reducible refine (rivuletlaw16_fixed.calls  t218 _ A14.out).mono ?_); rintro e w15 ⟨rfl, hb⟩; refine ⟨_, rfl, ?_⟩; have n0_ := Aside0.mk (Kd.N_below (by (with_reducible repeat (first | apply Kd.N_alloc | apply Kd.N_drewN | apply Kd.N_drew)); exact HO_7.out) hb); have n1_ := Aside0.mk (below_step (by repeat (first | (with_reducible first | exact HB.out | apply below_alloc | apply pw_below_drewN | apply below_drew1) | exact HB.out)) hb); clear HO_7; clear HB; have HO_7 := n0_; have HB := n1_; clear n0_ n1_; (try clear hb); (try clear hb2); (try clear hk); (try clear hi)))
        go_ret
        exact ⟨by first | rfl | (simp [errW_none, errW_some] <;> rfl) | (simp [*, errW_none, errW_some] <;> rfl), by repeat (first | (with_reducible first | exact HB.out | apply below_alloc | apply pw_below_drewN | apply below_drew1) | exact HB.out)⟩
      · replace c13 := Bool.eq_false_iff.mpr c13
        subst c13
        have H1 : (rivuletlaw16_RankTurns.l0 kj4 a1 a2 t214 (([] : List Int)) 0) = some r := by rw [if_neg (show ¬ (false = true) by decide)] at H; exact H
        clear H
        have H := H1
        clear H1
        obtain ⟨y219, hy219⟩ : ∃ y_ : List Int, y_ = (([] : List Int)) := ⟨_, rfl⟩
        replace H : (rivuletlaw16_RankTurns.l0 kj4 a1 a2 t214 y219 0) = some r := by first | (rw [hy219]; with_reducible exact H) | (have H2_ := (Option.bind_some _ _).symm.trans H; rw [hy219]; with_reducible exact H2_) | (have H2_ := (Option.bind_some _ _).symm.trans H; with_reducible exact H2_) | with_reducible exact H | (rw [hy219]; exact H) | exact H
        have Ny219 := Aside0.mk hy219
        clear hy219
        have H' := Aside0.mk H
        clear H
        go_wp2_with (first | ((with_reducible refine gate_dst (N := 34) rfl ?_); (try (refine gate_guard (by rfl) ?_; dsimp only)); refine Kd.R_lit (Kd.int .i64) _ 3 ?hg (N := 34) ?hd (xs := ([] : List Int)) (inner := []) (ok := fun _ => True) (okp := fun _ => True) ?hr ?hp (fun _ hk => hk) trivial (Below.refl _ _) (Nat.le_refl _) (by simp) ?_; (case hd => rfl); (case hg => rfl); (case hr => first | (go_simp; done) | (go_simp; rfl)); (case hp => exact (Reps.none _ _)); intro v220 w16 ho17 hb hg_ hnew_; clear hg_ hnew_; (first | rw [← Ny219.out] at ho17 | (simp only [Int.reduceToNat] at ho17; rw [← Ny219.out] at ho17)); have n0_ := Aside0.mk (Kd.N_elder' (by (with_reducible repeat (first | apply Kd.N_alloc | apply Kd.N_drewN | apply Kd.N_drew)); exact HO_7.out) (Kd.R_base ho17) hb); have n1_ := Aside0.mk (Kd.R_lower ho17 (below_size (by repeat (first | (with_reducible first | exact HB.out | apply below_alloc | apply pw_below_drewN | apply below_drew1) | exact HB.out)))); have n2_ := Aside0.mk (below_step (by repeat (first | (with_reducible first | exact HB.out | apply below_alloc | apply pw_below_drewN | apply below_drew1) | exact HB.out)) hb); clear HO_7; clear HB; have HO_7 := n0_; have HO221 := n1_; have HB := n2_; clear n0_ n1_ n2_; clear hb ho17))
        go_loopg [2, 8, 9] kj4 (fun kq v2 v8 v9 w' => ∃ (x2_2 : Int) (x8_2 : List Int) (x9_2 : Int), v2 = .int .i64 x2_2 ∧ v9 = .int .i64 x9_2 ∧ Aside0 (rivuletlaw16_RankTurns.l0 kq a1 x2_2 t214 x8_2 x9_2 = some r) ∧ Aside0 (kq ≤ kj4) ∧ Aside0 (Kd.N (Kd.slice 3 (Kd.int .i64)) 24 w' w.heap.size (fun k_ => some k_ ≠ (v8 : Value).ownBlock) v215 t214) ∧ Aside0 (Kd.R (Kd.int .i64) 3 w' w.heap.size (fun _ => True) v8 x8_2) ∧ Aside0 (Below w.heap.size w w'))
        case atStart => exact ⟨(a2), (y219), (0), (by first | rfl | (simp; done) | (simp [*]; done)), (by first | rfl | (simp; done) | (simp [*]; done)), H', ⟨Nat.le_refl _⟩, ⟨by (with_reducible repeat (first | apply Kd.N_alloc | apply Kd.N_drewN | apply Kd.N_drew)); exact Kd.N_mono HO_7.out (fun _ hk => hk.2)⟩, ⟨by (with_reducible repeat (first | apply Kd.R_alloc | apply Kd.R_drewN | apply Kd.R_drew)); exact HO221.out⟩, ⟨by repeat (first | (with_reducible first | exact HB.out | apply below_alloc | apply pw_below_drewN | apply below_drew1) | exact HB.out)⟩⟩
        case round =>
          clear H'
          try clear c1
          try clear p2
          try clear c5
          try clear c8
          try clear c8b0
          try clear c8b1
          try clear c9
          try clear c9b0
          try clear c10
          try clear c13
          try clear c15
          try clear p2
          obtain ⟨x2_2, x8_2, x9_2, rfl, rfl, HA, HK2, HO_7, HO_8, HB⟩ := hrel
          cases gk with
          | zero => exact absurd HA.out (by simp [rivuletlaw16_RankTurns.l0])
          | succ k2 =>
            have H := HA.out
            clear HA
            simp only [rivuletlaw16_RankTurns.l0] at H
            by_cases c18 : 0 ≤ a1
            · rw [if_pos c18] at H
              have c18b0 : decide (0 ≤ a1) = true := decide_eq_true c18
              clear c18
              by_cases c19 : a1 < (t214.length : Int)
              · rw [if_pos c19] at H
                have c19b0 : decide (a1 < (t214.length : Int)) = true := decide_eq_true c19
                clear c19
                by_cases c20 : x9_2 < ((rd_L1 t214 a1).length : Int)
                · rw [if_pos c20] at H
                  have c20b0 : decide (x9_2 < ((rd_L1 t214 a1).length : Int)) = true := decide_eq_true c20
                  clear c20
                  replace H := Option.bind_eq_some_iff.mp H
                  obtain ⟨⟨t226, t227⟩, A210, H⟩ := H
                  replace H : (rivuletlaw16_RankTurns.l1 k2 a1 t214 x8_2 x9_2 t226 t227 false false 0) = some r := H
                  have A21 := Aside0.mk A210
                  clear A210
                  have H' := Aside0.mk H
                  clear H
                  obtain ⟨Ao22, co22, eo22⟩ := Kd.N_slice HO_7.out
                  subst eo22
                  have p222 : 0 ≤ (a1 : Int) := of_decide_eq_true (by first | (with_reducible assumption) | assumption)
                  have q222 : a1 < (t214.length : Int) := of_decide_eq_true (by first | (with_reducible assumption) | assumption)
                  obtain ⟨ad222, A222_0, c222_0, e222, hx222_0, hl222_0, hi222_0⟩ := at_L1 (Kd.N_reads' HO_7.out).2.2 a1 p222 q222
                  cases e222
                  obtain ⟨ce222, hce222, hMe222, hcc222⟩ := Kd.N_get HO_7.out [] a1 p222 (by first | exact q222 | exact of_decide_eq_true (by first | (with_reducible assumption) | assumption) | (have e_ := (Kd.N_reads' HO_7.out).1; omega))
                  obtain ⟨ua222_0, uc222_0, rfl, ul222_0, ge222_0⟩ := Kd.FK_slice_open hMe222
                  have hv222_0 := hcc222 0 _ rfl
                  rw [Nat.add_zero, show ((Kd.slice 3 (Kd.int .i64))).sz = 1 from rfl, Nat.mul_one] at hv222_0
                  replace hv222_0 := Option.some.inj (hv222_0.symm.trans hx222_0)
                  injection hv222_0 with hva_ hvn_ hvc_
                  rw [hva_] at ge222_0
                  rw [hvc_] at ul222_0
                  have HL222_0 := Aside0.mk (show Kd.V (Kd.int .i64) 3 _ w.heap.size _ _ (rd_L1 t214 a1) from Kd.V_mk ul222_0 ge222_0)
                  clear hva_ hvn_ hvc_ ge222_0 ul222_0
                  clear hcc222 hce222
                  have HR222_0 := Aside0.mk hi222_0
                  have HC222_0 := Aside0.mk hl222_0
                  clear hi222_0 hl222_0
                  replace p222 := eq_true p222
                  replace q222 := eq_true q222
                  go_wp2_with (first | ((with_reducible refine gate_callee (f := 16) rfl ?_); refine goesL_ (some 48) rfl rfl Try.func16 (by kernel_rfl) rfl #[.slice (some ad222) t214.length co22, .int .i64 a1, .int .i64 x2_2, .slice none 0 0] rfl (by (try simp only [List.map_toArray, List.map_cons, List.map_nil]); first | done | rfl | (simp only [List.length_drop, List.length_take]; rfl)) ?_; (refine (rank_Choose.calls k2 _ _ t214 a1 x2_2 _ _ ([] : List Int) t226 t227 _ ?side1 ?side2 ?side3 ?side4 A21.out).mono ?_); (case side1 => repeat (first | exact (Kd.N_reads' HO_7.out).2.2 | (with_reducible refine Kd.C_alloc ?_ _) | (with_reducible refine Kd.C_drewN ?_ _) | (with_reducible refine Kd.C_drew ?_))); (case side2 => exact (Kd.N_reads' HO_7.out).2.1); (case side3 => exact Kd.C_nil _ _); (case side4 => exact Nat.le_refl _); rintro e w23 ⟨rfl, hb⟩; refine ⟨_, rfl, ?_⟩; have n0_ := Aside0.mk (Kd.N_below (by (with_reducible repeat (first | apply Kd.N_alloc | apply Kd.N_drewN | apply Kd.N_drew)); exact HO_7.out) hb); have n1_ := Aside0.mk (Kd.R_below (by (with_reducible repeat (first | apply Kd.R_alloc | apply Kd.R_drewN | apply Kd.R_drew)); exact HO_8.out) hb); have n2_ := Aside0.mk (Kd.V_below (by (with_reducible repeat (first | apply Kd.V_alloc | apply Kd.V_drewN | apply Kd.V_drew)); exact HL222_0.out) hb); have n3_ := Aside0.mk (Kd.C_below (by repeat (first | (with_reducible exact HR222_0.out) | (with_reducible refine Kd.C_alloc ?_ _) | (with_reducible refine Kd.C_drewN ?_ _) | (with_reducible refine Kd.C_drew ?_) | exact HR222_0.out)) hb); have n4_ := Aside0.mk (below_step (by repeat (first | (with_reducible first | exact HB.out | apply below_alloc | apply pw_below_drewN | apply below_drew1) | exact HB.out)) hb); clear HO_7; clear HO_8; clear HL222_0; clear HR222_0; clear HB; have HO_7 := n0_; have HO_8 := n1_; have HL222_0 := n2_; have HR222_0 := n3_; have HB := n4_; clear n0_ n1_ n2_ n3_ n4_; (try clear hb); (try clear hb2); (try clear hk); (try clear hi)))
                  go_loopg [12, 14] k2 (fun kq v12 v14 w' => ∃ (x12_3 : Bool) (x14_3 : Int), v12 = .bool x12_3 ∧ v14 = .int .i64 x14_3 ∧ Aside0 (rivuletlaw16_RankTurns.l1 kq a1 t214 x8_2 x9_2 t226 t227 x12_3 false x14_3 = some r) ∧ Aside0 (kq ≤ k2) ∧ Aside0 (Kd.N (Kd.slice 3 (Kd.int .i64)) 24 w' w.heap.size (fun k_ => some k_ ≠ (u8 : Value).ownBlock) (.slice (some ad222) t214.length co22) t214) ∧ Aside0 (Kd.R (Kd.int .i64) 3 w' w.heap.size (fun _ => True) u8 x8_2) ∧ Aside0 (Kd.C (Kd.int .i64) w' A222_0 (rd_L1 t214 a1).length (rd_L1 t214 a1)) ∧ Aside0 (Below w.heap.size w w'))
                  case atStart => exact ⟨(false), (0), (by first | rfl | (simp; done) | (simp [*]; done)), (by first | rfl | (simp; done) | (simp [*]; done)), H', ⟨Nat.le_refl _⟩, ⟨by (with_reducible repeat (first | apply Kd.N_alloc | apply Kd.N_drewN | apply Kd.N_drew)); exact HO_7.out⟩, ⟨by (with_reducible repeat (first | apply Kd.R_alloc | apply Kd.R_drewN | apply Kd.R_drew)); exact HO_8.out⟩, ⟨by repeat (first | (with_reducible exact HR222_0.out) | (with_reducible refine Kd.C_alloc ?_ _) | (with_reducible refine Kd.C_drewN ?_ _) | (with_reducible refine Kd.C_drew ?_) | exact HR222_0.out)⟩, ⟨by repeat (first | (with_reducible first | exact HB.out | apply below_alloc | apply pw_below_drewN | apply below_drew1) | exact HB.out)⟩⟩
                  case round =>
                    clear H'
                    try clear c1
                    try clear c2
                    try clear p2
                    try clear q2
                    try clear hx2
                    try clear c5
                    try clear c8
                    try clear c8b0
                    try clear c8b1
                    try clear c9
                    try clear c9b0
                    try clear c10
                    try clear c13
                    try clear c15
                    try clear c16
                    try clear c18
                    try clear c18b0
                    try clear c19
                    try clear c19b0
                    try clear c20
                    try clear c20b0
                    try clear c22
                    try clear p22
                    try clear q22
                    try clear hx22
                    try clear hx222_0
                    try clear p2
                    try clear p222
                    try clear q222
                    obtain ⟨x12_3, x14_3, rfl, rfl, HA, HK3, HO_7, HO_8, HR222_0, HB⟩ := hrel
                    cases gk with
                    | zero => exact absurd HA.out (by simp [rivuletlaw16_RankTurns.l1])
                    | succ k3 =>
                      have H := HA.out
                      clear HA
                      simp only [rivuletlaw16_RankTurns.l1] at H
                      by_cases c24 : 0 ≤ a1
                      · rw [if_pos c24] at H
                        have c24b0 : decide (0 ≤ a1) = true := decide_eq_true c24
                        clear c24
                        by_cases c25 : a1 < (t214.length : Int)
                        · rw [if_pos c25] at H
                          have c25b0 : decide (a1 < (t214.length : Int)) = true := decide_eq_true c25
                          clear c25
                          by_cases c26 : x14_3 < ((rd_L1 t214 a1).length : Int)
                          · rw [if_pos c26] at H
                            have c26b0 : decide (x14_3 < ((rd_L1 t214 a1).length : Int)) = true := decide_eq_true c26
                            clear c26
                            by_cases c27 : x12_3 = true
                            · subst c27
                              have H1 : (rivuletlaw16_RankTurns.l1 k3 a1 t214 x8_2 x9_2 t226 t227 true false (wrap64 (x14_3 + 1))) = some r := by rw [if_pos rfl] at H; exact H
                              clear H
                              have H := H1
                              clear H1
                              have H' := Aside0.mk H
                              clear H
                              have p228 : 0 ≤ (a1 : Int) := of_decide_eq_true (by first | (with_reducible assumption) | assumption)
                              have q228 : a1 < (t214.length : Int) := of_decide_eq_true (by first | (with_reducible assumption) | assumption)
                              obtain ⟨ad228, A228_0, c228_0, e228, hx228_0, hl228_0, hi228_0⟩ := at_L1 (Kd.N_reads' HO_7.out).2.2 a1 p228 q228
                              obtain rfl : ad222 = ad228 := (by injection e228)
                              obtain ⟨ce228, hce228, hMe228, hcc228⟩ := Kd.N_get HO_7.out [] a1 p228 (by first | exact q228 | exact of_decide_eq_true (by first | (with_reducible assumption) | assumption) | (have e_ := (Kd.N_reads' HO_7.out).1; omega))
                              obtain ⟨ua228_0, uc228_0, rfl, ul228_0, ge228_0⟩ := Kd.FK_slice_open hMe228
                              have hv228_0 := hcc228 0 _ rfl
                              rw [Nat.add_zero, show ((Kd.slice 3 (Kd.int .i64))).sz = 1 from rfl, Nat.mul_one] at hv228_0
                              replace hv228_0 := Option.some.inj (hv228_0.symm.trans hx228_0)
                              injection hv228_0 with hva_ hvn_ hvc_
                              rw [hva_] at ge228_0
                              rw [hvc_] at ul228_0
                              have HL228_0 := Aside0.mk (show Kd.V (Kd.int .i64) 3 _ w.heap.size _ _ (rd_L1 t214 a1) from Kd.V_mk ul228_0 ge228_0)
                              clear hva_ hvn_ hvc_ ge228_0 ul228_0
                              clear hcc228 hce228
                              have HR228_0 := Aside0.mk hi228_0
                              have HC228_0 := Aside0.mk hl228_0
                              clear hi228_0 hl228_0
                              replace p228 := eq_true p228
                              replace q228 := eq_true q228
                              go_wp2
                              go_roundg k3
                              case measure => have := HJ4.out; have := HK2.out; have := HK3.out; omega
                              case rel => exact ⟨(true), (wrap64 (x14_3 + 1)), (by first | rfl | (simp; done) | (simp [*]; done)), (by first | rfl | (simp; done) | (simp [*]; done)), H', ⟨by have := HJ4.out; have := HK2.out; have := HK3.out; omega⟩, ⟨by (with_reducible repeat (first | apply Kd.N_alloc | apply Kd.N_drewN | apply Kd.N_drew)); exact HO_7.out⟩, ⟨by (with_reducible repeat (first | apply Kd.R_alloc | apply Kd.R_drewN | apply Kd.R_drew)); exact HO_8.out⟩, ⟨by repeat (first | (with_reducible exact HR222_0.out) | (with_reducible refine Kd.C_alloc ?_ _) | (with_reducible refine Kd.C_drewN ?_ _) | (with_reducible refine Kd.C_drew ?_) | exact HR222_0.out)⟩, ⟨by repeat (first | (with_reducible first | exact HB.out | apply below_alloc | apply pw_below_drewN | apply below_drew1) | exact HB.out)⟩⟩
                            · replace c27 := Bool.eq_false_iff.mpr c27
                              subst c27
                              have H1 : (if 0 ≤ x14_3 then (rivuletlaw16_RankTurns.l1 k3 a1 t214 x8_2 x9_2 t226 t227 ((rd (rd_L1 t214 a1) x14_3) == t226) false (wrap64 (x14_3 + 1))) else (none)) = some r := by rw [if_neg (show ¬ (false = true) by decide)] at H; exact H
                              clear H
                              have H := H1
                              clear H1
                              by_cases c28 : 0 ≤ x14_3
                              · rw [if_pos c28] at H
                                have c28b0 : decide (0 ≤ x14_3) = true := decide_eq_true c28
                                clear c28
                                have H' := Aside0.mk H
                                clear H
                                have p228 : 0 ≤ (a1 : Int) := of_decide_eq_true (by first | (with_reducible assumption) | assumption)
                                have q228 : a1 < (t214.length : Int) := of_decide_eq_true (by first | (with_reducible assumption) | assumption)
                                obtain ⟨ad228, A228_0, c228_0, e228, hx228_0, hl228_0, hi228_0⟩ := at_L1 (Kd.N_reads' HO_7.out).2.2 a1 p228 q228
                                obtain rfl : ad222 = ad228 := (by injection e228)
                                obtain ⟨ce228, hce228, hMe228, hcc228⟩ := Kd.N_get HO_7.out [] a1 p228 (by first | exact q228 | exact of_decide_eq_true (by first | (with_reducible assumption) | assumption) | (have e_ := (Kd.N_reads' HO_7.out).1; omega))
                                obtain ⟨ua228_0, uc228_0, rfl, ul228_0, ge228_0⟩ := Kd.FK_slice_open hMe228
                                have hv228_0 := hcc228 0 _ rfl
                                rw [Nat.add_zero, show ((Kd.slice 3 (Kd.int .i64))).sz = 1 from rfl, Nat.mul_one] at hv228_0
                                replace hv228_0 := Option.some.inj (hv228_0.symm.trans hx228_0)
                                injection hv228_0 with hva_ hvn_ hvc_
                                rw [hva_] at ge228_0
                                rw [hvc_] at ul228_0
                                have HL228_0 := Aside0.mk (show Kd.V (Kd.int .i64) 3 _ w.heap.size _ _ (rd_L1 t214 a1) from Kd.V_mk ul228_0 ge228_0)
                                clear hva_ hvn_ hvc_ ge228_0 ul228_0
                                clear hcc228 hce228
                                have HR228_0 := Aside0.mk hi228_0
                                have HC228_0 := Aside0.mk hl228_0
                                clear hi228_0 hl228_0
                                replace p228 := eq_true p228
                                replace q228 := eq_true q228
                                have p229 : 0 ≤ (a1 : Int) := of_decide_eq_true (by first | (with_reducible assumption) | assumption)
                                have q229 : a1 < (t214.length : Int) := of_decide_eq_true (by first | (with_reducible assumption) | assumption)
                                obtain ⟨ad229, A229_0, c229_0, e229, hx229_0, hl229_0, hi229_0⟩ := at_L1 (Kd.N_reads' HO_7.out).2.2 a1 p229 q229
                                obtain rfl : ad222 = ad229 := (by injection e229)
                                obtain ⟨ce229, hce229, hMe229, hcc229⟩ := Kd.N_get HO_7.out [] a1 p229 (by first | exact q229 | exact of_decide_eq_true (by first | (with_reducible assumption) | assumption) | (have e_ := (Kd.N_reads' HO_7.out).1; omega))
                                obtain ⟨ua229_0, uc229_0, rfl, ul229_0, ge229_0⟩ := Kd.FK_slice_open hMe229
                                have hv229_0 := hcc229 0 _ rfl
                                rw [Nat.add_zero, show ((Kd.slice 3 (Kd.int .i64))).sz = 1 from rfl, Nat.mul_one] at hv229_0
                                replace hv229_0 := Option.some.inj (hv229_0.symm.trans hx229_0)
                                injection hv229_0 with hva_ hvn_ hvc_
                                rw [hva_] at ge229_0
                                rw [hvc_] at ul229_0
                                have HL229_0 := Aside0.mk (show Kd.V (Kd.int .i64) 3 _ w.heap.size _ _ (rd_L1 t214 a1) from Kd.V_mk ul229_0 ge229_0)
                                clear hva_ hvn_ hvc_ ge229_0 ul229_0
                                clear hcc229 hce229
                                have HR229_0 := Aside0.mk hi229_0
                                have HC229_0 := Aside0.mk hl229_0
                                clear hi229_0 hl229_0
                                replace p229 := eq_true p229
                                replace q229 := eq_true q229
                                have ea_ := Option.some.inj (hx228_0.symm.trans hx229_0)
                                injection ea_ with ea_ en_ ec_
                                subst ea_
                                subst ec_
                                clear en_
                                have p230 : 0 ≤ (x14_3 : Int) := of_decide_eq_true (by first | (with_reducible assumption) | assumption)
                                have q230 : x14_3 < ((rd_L1 t214 a1).length : Int) := of_decide_eq_true (by first | (with_reducible assumption) | assumption)
                                obtain ⟨ad230, e230, hx230_0⟩ := Kd.at_int (by repeat (first | (with_reducible exact HR229_0.out) | (with_reducible refine Kd.C_alloc ?_ _) | (with_reducible refine Kd.C_drewN ?_ _) | (with_reducible refine Kd.C_drew ?_) | exact HR229_0.out)) x14_3 p230 q230
                                cases e230
                                replace p230 := eq_true p230
                                replace q230 := eq_true q230
                                go_wp2
                                go_roundg k3
                                case measure => have := HJ4.out; have := HK2.out; have := HK3.out; omega
                                case rel => exact ⟨(((rd (rd_L1 t214 a1) x14_3) == t226)), (wrap64 (x14_3 + 1)), (by first | rfl | (simp; done) | (simp [*]; done)), (by first | rfl | (simp; done) | (simp [*]; done)), H', ⟨by have := HJ4.out; have := HK2.out; have := HK3.out; omega⟩, ⟨by (with_reducible repeat (first | apply Kd.N_alloc | apply Kd.N_drewN | apply Kd.N_drew)); exact HO_7.out⟩, ⟨by (with_reducible repeat (first | apply Kd.R_alloc | apply Kd.R_drewN | apply Kd.R_drew)); exact HO_8.out⟩, ⟨by repeat (first | (with_reducible exact HR222_0.out) | (with_reducible refine Kd.C_alloc ?_ _) | (with_reducible refine Kd.C_drewN ?_ _) | (with_reducible refine Kd.C_drew ?_) | exact HR222_0.out)⟩, ⟨by repeat (first | (with_reducible first | exact HB.out | apply below_alloc | apply pw_below_drewN | apply below_drew1) | exact HB.out)⟩⟩
                              · rw [if_neg c28] at H
                                exact absurd H (by simp)
                          · rw [if_neg c26] at H
                            have c26b0 : decide (x14_3 < ((rd_L1 t214 a1).length : Int)) = false := decide_eq_false c26
                            clear c26
                            have H' := Aside0.mk H
                            clear H
                            have p228 : 0 ≤ (a1 : Int) := of_decide_eq_true (by first | (with_reducible assumption) | assumption)
                            have q228 : a1 < (t214.length : Int) := of_decide_eq_true (by first | (with_reducible assumption) | assumption)
                            obtain ⟨ad228, A228_0, c228_0, e228, hx228_0, hl228_0, hi228_0⟩ := at_L1 (Kd.N_reads' HO_7.out).2.2 a1 p228 q228
                            obtain rfl : ad222 = ad228 := (by injection e228)
                            obtain ⟨ce228, hce228, hMe228, hcc228⟩ := Kd.N_get HO_7.out [] a1 p228 (by first | exact q228 | exact of_decide_eq_true (by first | (with_reducible assumption) | assumption) | (have e_ := (Kd.N_reads' HO_7.out).1; omega))
                            obtain ⟨ua228_0, uc228_0, rfl, ul228_0, ge228_0⟩ := Kd.FK_slice_open hMe228
                            have hv228_0 := hcc228 0 _ rfl
                            rw [Nat.add_zero, show ((Kd.slice 3 (Kd.int .i64))).sz = 1 from rfl, Nat.mul_one] at hv228_0
                            replace hv228_0 := Option.some.inj (hv228_0.symm.trans hx228_0)
                            injection hv228_0 with hva_ hvn_ hvc_
                            rw [hva_] at ge228_0
                            rw [hvc_] at ul228_0
                            have HL228_0 := Aside0.mk (show Kd.V (Kd.int .i64) 3 _ w.heap.size _ _ (rd_L1 t214 a1) from Kd.V_mk ul228_0 ge228_0)
                            clear hva_ hvn_ hvc_ ge228_0 ul228_0
                            clear hcc228 hce228
                            have HR228_0 := Aside0.mk hi228_0
                            have HC228_0 := Aside0.mk hl228_0
                            clear hi228_0 hl228_0
                            replace p228 := eq_true p228
                            replace q228 := eq_true q228
                            go_wp2
                            go_loopg [13, 15] k3 (fun kq v13 v15 w' => ∃ (x13_4 : Bool) (x15_4 : Int), v13 = .bool x13_4 ∧ v15 = .int .i64 x15_4 ∧ Aside0 (rivuletlaw16_RankTurns.l2 kq a1 t214 x8_2 x9_2 t226 t227 x12_3 x13_4 x15_4 = some r) ∧ Aside0 (kq ≤ k3) ∧ Aside0 (Kd.N (Kd.slice 3 (Kd.int .i64)) 24 w' w.heap.size (fun k_ => some k_ ≠ (u8 : Value).ownBlock) (.slice (some ad222) t214.length co22) t214) ∧ Aside0 (Kd.R (Kd.int .i64) 3 w' w.heap.size (fun _ => True) u8 x8_2) ∧ Aside0 (Kd.C (Kd.int .i64) w' A222_0 (rd_L1 t214 a1).length (rd_L1 t214 a1)) ∧ Aside0 (Kd.C (Kd.int .i64) w' A228_0 (rd_L1 t214 a1).length (rd_L1 t214 a1)) ∧ Aside0 (Below w.heap.size w w'))
                            case atStart => exact ⟨(false), (0), (by first | rfl | (simp; done) | (simp [*]; done)), (by first | rfl | (simp; done) | (simp [*]; done)), H', ⟨Nat.le_refl _⟩, ⟨by (with_reducible repeat (first | apply Kd.N_alloc | apply Kd.N_drewN | apply Kd.N_drew)); exact HO_7.out⟩, ⟨by (with_reducible repeat (first | apply Kd.R_alloc | apply Kd.R_drewN | apply Kd.R_drew)); exact HO_8.out⟩, ⟨by repeat (first | (with_reducible exact HR222_0.out) | (with_reducible refine Kd.C_alloc ?_ _) | (with_reducible refine Kd.C_drewN ?_ _) | (with_reducible refine Kd.C_drew ?_) | exact HR222_0.out)⟩, ⟨by repeat (first | (with_reducible exact HR228_0.out) | (with_reducible refine Kd.C_alloc ?_ _) | (with_reducible refine Kd.C_drewN ?_ _) | (with_reducible refine Kd.C_drew ?_) | exact HR228_0.out)⟩, ⟨by repeat (first | (with_reducible first | exact HB.out | apply below_alloc | apply pw_below_drewN | apply below_drew1) | exact HB.out)⟩⟩
                            case round =>
                              clear H'
                              try clear c1
                              try clear c2
                              try clear p2
                              try clear q2
                              try clear hx2
                              try clear c5
                              try clear p6
                              try clear c8
                              try clear c8b0
                              try clear c8b1
                              try clear c9
                              try clear c9b0
                              try clear c10
                              try clear c13
                              try clear c15
                              try clear c16
                              try clear c18
                              try clear c18b0
                              try clear c19
                              try clear c19b0
                              try clear c20
                              try clear c20b0
                              try clear c22
                              try clear p22
                              try clear q22
                              try clear hx22
                              try clear p23
                              try clear q23
                              try clear hx23
                              try clear c24
                              try clear c24b0
                              try clear c25
                              try clear c25b0
                              try clear c26
                              try clear c26b0
                              try clear c27
                              try clear c28
                              try clear c28b0
                              try clear hx222_0
                              try clear hx228_0
                              try clear hx229_0
                              try clear hx230_0
                              try clear p2
                              try clear p22
                              try clear p222
                              try clear p228
                              try clear p229
                              try clear p230
                              try clear q2
                              try clear q22
                              try clear q222
                              try clear q228
                              try clear q229
                              try clear q230
                              obtain ⟨x13_4, x15_4, rfl, rfl, HA, HK4, HO_7, HO_8, HR222_0, HR228_0, HB⟩ := hrel
                              cases gk with
                              | zero => exact absurd HA.out (by simp [rivuletlaw16_RankTurns.l2])
                              | succ k4 =>
                                have H := HA.out
                                clear HA
                                simp only [rivuletlaw16_RankTurns.l2] at H
                                by_cases c29 : x15_4 < (x8_2.length : Int)
                                · rw [if_pos c29] at H
                                  have c29b0 : decide (x15_4 < (x8_2.length : Int)) = true := decide_eq_true c29
                                  clear c29
                                  by_cases c30 : x13_4 = true
                                  · subst c30
                                    have H1 : (rivuletlaw16_RankTurns.l2 k4 a1 t214 x8_2 x9_2 t226 t227 x12_3 true (wrap64 (x15_4 + 1))) = some r := by rw [if_pos rfl] at H; exact H
                                    clear H
                                    have H := H1
                                    clear H1
                                    have H' := Aside0.mk H
                                    clear H
                                    obtain ⟨Ao31, co31, eo31⟩ := Kd.R_slice HO_8.out
                                    subst eo31
                                    go_wp2
                                    go_roundg k4
                                    case measure => have := HJ4.out; have := HK2.out; have := HK3.out; have := HK4.out; omega
                                    case rel => exact ⟨(true), (wrap64 (x15_4 + 1)), (by first | rfl | (simp; done) | (simp [*]; done)), (by first | rfl | (simp; done) | (simp [*]; done)), H', ⟨by have := HJ4.out; have := HK2.out; have := HK3.out; have := HK4.out; omega⟩, ⟨by (with_reducible repeat (first | apply Kd.N_alloc | apply Kd.N_drewN | apply Kd.N_drew)); exact HO_7.out⟩, ⟨by (with_reducible repeat (first | apply Kd.R_alloc | apply Kd.R_drewN | apply Kd.R_drew)); exact HO_8.out⟩, ⟨by repeat (first | (with_reducible exact HR222_0.out) | (with_reducible refine Kd.C_alloc ?_ _) | (with_reducible refine Kd.C_drewN ?_ _) | (with_reducible refine Kd.C_drew ?_) | exact HR222_0.out)⟩, ⟨by repeat (first | (with_reducible exact HR228_0.out) | (with_reducible refine Kd.C_alloc ?_ _) | (with_reducible refine Kd.C_drewN ?_ _) | (with_reducible refine Kd.C_drew ?_) | exact HR228_0.out)⟩, ⟨by repeat (first | (with_reducible first | exact HB.out | apply below_alloc | apply pw_below_drewN | apply below_drew1) | exact HB.out)⟩⟩
                                  · replace c30 := Bool.eq_false_iff.mpr c30
                                    subst c30
                                    have H1 : (if 0 ≤ x15_4 then (rivuletlaw16_RankTurns.l2 k4 a1 t214 x8_2 x9_2 t226 t227 x12_3 ((rd x8_2 x15_4) == t226) (wrap64 (x15_4 + 1))) else (none)) = some r := by rw [if_neg (show ¬ (false = true) by decide)] at H; exact H
                                    clear H
                                    have H := H1
                                    clear H1
                                    by_cases c32 : 0 ≤ x15_4
                                    · rw [if_pos c32] at H
                                      have c32b0 : decide (0 ≤ x15_4) = true := decide_eq_true c32
                                      clear c32
                                      have H' := Aside0.mk H
                                      clear H
                                      obtain ⟨Ao33, co33, eo33⟩ := Kd.R_slice HO_8.out
                                      subst eo33
                                      have p231 : 0 ≤ (x15_4 : Int) := of_decide_eq_true (by first | (with_reducible assumption) | assumption)
                                      have q231 : x15_4 < (x8_2.length : Int) := of_decide_eq_true (by first | (with_reducible assumption) | assumption)
                                      obtain ⟨ad231, e231, hx231_0⟩ := Kd.at_int (Kd.R_reads' HO_8.out).2.2 x15_4 p231 q231
                                      cases e231
                                      replace p231 := eq_true p231
                                      replace q231 := eq_true q231
                                      go_wp2
                                      go_roundg k4
                                      case measure => have := HJ4.out; have := HK2.out; have := HK3.out; have := HK4.out; omega
                                      case rel => exact ⟨(((rd x8_2 x15_4) == t226)), (wrap64 (x15_4 + 1)), (by first | rfl | (simp; done) | (simp [*]; done)), (by first | rfl | (simp; done) | (simp [*]; done)), H', ⟨by have := HJ4.out; have := HK2.out; have := HK3.out; have := HK4.out; omega⟩, ⟨by (with_reducible repeat (first | apply Kd.N_alloc | apply Kd.N_drewN | apply Kd.N_drew)); exact HO_7.out⟩, ⟨by (with_reducible repeat (first | apply Kd.R_alloc | apply Kd.R_drewN | apply Kd.R_drew)); exact HO_8.out⟩, ⟨by repeat (first | (with_reducible exact HR222_0.out) | (with_reducible refine Kd.C_alloc ?_ _) | (with_reducible refine Kd.C_drewN ?_ _) | (with_reducible refine Kd.C_drew ?_) | exact HR222_0.out)⟩, ⟨by repeat (first | (with_reducible exact HR228_0.out) | (with_reducible refine Kd.C_alloc ?_ _) | (with_reducible refine Kd.C_drewN ?_ _) | (with_reducible refine Kd.C_drew ?_) | exact HR228_0.out)⟩, ⟨by repeat (first | (with_reducible first | exact HB.out | apply below_alloc | apply pw_below_drewN | apply below_drew1) | exact HB.out)⟩⟩
                                    · rw [if_neg c32] at H
                                      exact absurd H (by simp)
                                · rw [if_neg c29] at H
                                  have c29b0 : decide (x15_4 < (x8_2.length : Int)) = false := decide_eq_false c29
                                  clear c29
                                  by_cases c34 : t227 = true
                                  · subst c34
                                    have H1 : (if x12_3 = true then (if x13_4 = true then (some false) else (if t226 < 0 then (some false) else (if t226 ≥ a1 then (some false) else (if x8_2.length < 17592186044416 then (rivuletlaw16_RankTurns.l0 k4 a1 t226 t214 (x8_2 ++ [t226]) (wrap64 (x9_2 + 1))) else (none))))) else (some false)) = some r := by rw [if_pos rfl] at H; exact H
                                    clear H
                                    have H := H1
                                    clear H1
                                    by_cases c35 : x12_3 = true
                                    · subst c35
                                      have H1 : (if x13_4 = true then (some false) else (if t226 < 0 then (some false) else (if t226 ≥ a1 then (some false) else (if x8_2.length < 17592186044416 then (rivuletlaw16_RankTurns.l0 k4 a1 t226 t214 (x8_2 ++ [t226]) (wrap64 (x9_2 + 1))) else (none))))) = some r := by rw [if_pos rfl] at H; exact H
                                      clear H
                                      have H := H1
                                      clear H1
                                      by_cases c36 : x13_4 = true
                                      · subst c36
                                        have H1 : (some false) = some r := by rw [if_pos rfl] at H; exact H
                                        clear H
                                        have H := H1
                                        clear H1
                                        obtain rfl := Option.some.inj H
                                        obtain ⟨Ao37, co37, eo37⟩ := Kd.R_slice HO_8.out
                                        subst eo37
                                        go_wp2
                                        go_ret
                                        exact ⟨by first | rfl | (simp [errW_none, errW_some] <;> rfl) | (simp [*, errW_none, errW_some] <;> rfl), by repeat (first | (with_reducible first | exact HB.out | apply below_alloc | apply pw_below_drewN | apply below_drew1) | exact HB.out)⟩
                                      · replace c36 := Bool.eq_false_iff.mpr c36
                                        subst c36
                                        have H1 : (if t226 < 0 then (some false) else (if t226 ≥ a1 then (some false) else (if x8_2.length < 17592186044416 then (rivuletlaw16_RankTurns.l0 k4 a1 t226 t214 (x8_2 ++ [t226]) (wrap64 (x9_2 + 1))) else (none)))) = some r := by rw [if_neg (show ¬ (false = true) by decide)] at H; exact H
                                        clear H
                                        have H := H1
                                        clear H1
                                        by_cases c38 : t226 < 0
                                        · rw [if_pos c38] at H
                                          have c38b0 : decide (t226 < 0) = true := decide_eq_true c38
                                          clear c38
                                          obtain rfl := Option.some.inj H
                                          obtain ⟨Ao39, co39, eo39⟩ := Kd.R_slice HO_8.out
                                          subst eo39
                                          go_wp2
                                          go_ret
                                          exact ⟨by first | rfl | (simp [errW_none, errW_some] <;> rfl) | (simp [*, errW_none, errW_some] <;> rfl), by repeat (first | (with_reducible first | exact HB.out | apply below_alloc | apply pw_below_drewN | apply below_drew1) | exact HB.out)⟩
                                        · rw [if_neg c38] at H
                                          have c38b0 : decide (t226 < 0) = false := decide_eq_false c38
                                          clear c38
                                          by_cases c40 : t226 ≥ a1
                                          · rw [if_pos c40] at H
                                            have c40b0 : decide (a1 ≤ t226) = true := decide_eq_true c40
                                            clear c40
                                            obtain rfl := Option.some.inj H
                                            obtain ⟨Ao41, co41, eo41⟩ := Kd.R_slice HO_8.out
                                            subst eo41
                                            go_wp2
                                            go_ret
                                            exact ⟨by first | rfl | (simp [errW_none, errW_some] <;> rfl) | (simp [*, errW_none, errW_some] <;> rfl), by repeat (first | (with_reducible first | exact HB.out | apply below_alloc | apply pw_below_drewN | apply below_drew1) | exact HB.out)⟩
                                          · rw [if_neg c40] at H
                                            have c40b0 : decide (a1 ≤ t226) = false := decide_eq_false c40
                                            clear c40
                                            by_cases c42 : x8_2.length < 17592186044416
                                            · rw [if_pos c42] at H
                                              have LMc42 := Aside0.mk c42
                                              clear c42
                                              obtain ⟨y232, hy232⟩ : ∃ y_ : List Int, y_ = (x8_2 ++ [t226]) := ⟨_, rfl⟩
                                              replace H : (rivuletlaw16_RankTurns.l0 k4 a1 t226 t214 y232 (wrap64 (x9_2 + 1))) = some r := by first | (rw [hy232]; with_reducible exact H) | (have H2_ := (Option.bind_some _ _).symm.trans H; rw [hy232]; with_reducible exact H2_) | (have H2_ := (Option.bind_some _ _).symm.trans H; with_reducible exact H2_) | with_reducible exact H | (rw [hy232]; exact H) | exact H
                                              have Ny232 := Aside0.mk hy232
                                              clear hy232
                                              have H' := Aside0.mk H
                                              clear H
                                              obtain ⟨Ao43, co43, eo43⟩ := Kd.R_slice HO_8.out
                                              subst eo43
                                              go_wp2_with (first | ((with_reducible refine gate_builtin (b := .append) (xs := #[.tmp 105, .tmp 107]) rfl ?_); (try (refine gate_guard (by rfl) ?_; dsimp only)); at_builtin; refine Kd.R_append (Kd.int .i64) (w0 := w) w.heap.size rfl (.tmp 105) (.tmp 107) 24 3 (.int .i64 0) 8 rfl Try.underlying24 info3 rfl (by decide) (by omega) (.slice Ao43 x8_2.length co43) x8_2 t226 [.int .i64 t226] (fun _ => True) (fun _ => False) rfl rfl ?aP (fun _ hk => hk.elim) ?aF ?aO ?aB ?aS ?aL ?_; (case aP => exact rfl); (case aB => exact (by repeat (first | (with_reducible first | exact HB.out | apply below_alloc | apply pw_below_drewN | apply below_drew1) | exact HB.out))); (case aF => exact (fun _ _ => trivial)); (case aO => exact (by (with_reducible repeat (first | apply Kd.R_alloc | apply Kd.R_drewN | apply Kd.R_drew)); exact HO_8.out)); (case aS => exact (below_size (by repeat (first | (with_reducible first | exact HB.out | apply below_alloc | apply pw_below_drewN | apply below_drew1) | exact HB.out)))); (case aL => have := LMc42.out; omega); intro v233 w44 ho hb hg hat; rw [← Ny232.out] at ho; have n0_ := Aside0.mk (Kd.N_afterv (ok := (fun _ => True)) (by (with_reducible repeat (first | apply Kd.N_alloc | apply Kd.N_drewN | apply Kd.N_drew)); exact Kd.N_mono HO_7.out (fun _ hk => ⟨trivial, hk⟩)) hg hat); have n1_ := Aside0.mk (hb); have n2_ := Aside0.mk (ho); clear HO_7; clear HB; clear HO_8; have HO_7 := n0_; have HB := n1_; have HO234 := n2_; clear n0_ n1_ n2_; clear ho hb hg hat))
                                              go_roundg k4
                                              case measure => have := HJ4.out; have := HK2.out; have := HK3.out; have := HK4.out; omega
                                              case rel => exact ⟨(t226), (y232), (wrap64 (x9_2 + 1)), (by first | rfl | (simp; done) | (simp [*]; done)), (by first | rfl | (simp; done) | (simp [*]; done)), H', ⟨by have := HJ4.out; have := HK2.out; have := HK3.out; have := HK4.out; omega⟩, ⟨by (with_reducible repeat (first | apply Kd.N_alloc | apply Kd.N_drewN | apply Kd.N_drew)); exact Kd.N_mono HO_7.out (fun _ hk => hk.2)⟩, ⟨by (with_reducible repeat (first | apply Kd.R_alloc | apply Kd.R_drewN | apply Kd.R_drew)); exact HO234.out⟩, ⟨by repeat (first | (with_reducible first | exact HB.out | apply below_alloc | apply pw_below_drewN | apply below_drew1) | exact HB.out)⟩⟩
                                            · rw [if_neg c42] at H
                                              exact absurd H (by simp)
                                    · replace c35 := Bool.eq_false_iff.mpr c35
                                      subst c35
                                      have H1 : (some false) = some r := by rw [if_neg (show ¬ (false = true) by decide)] at H; exact H
                                      clear H
                                      have H := H1
                                      clear H1
                                      obtain rfl := Option.some.inj H
                                      obtain ⟨Ao45, co45, eo45⟩ := Kd.R_slice HO_8.out
                                      subst eo45
                                      go_wp2
                                      go_ret
                                      exact ⟨by first | rfl | (simp [errW_none, errW_some] <;> rfl) | (simp [*, errW_none, errW_some] <;> rfl), by repeat (first | (with_reducible first | exact HB.out | apply below_alloc | apply pw_below_drewN | apply below_drew1) | exact HB.out)⟩
                                  · replace c34 := Bool.eq_false_iff.mpr c34
                                    subst c34
                                    have H1 : (some false) = some r := by rw [if_neg (show ¬ (false = true) by decide)] at H; exact H
                                    clear H
                                    have H := H1
                                    clear H1
                                    obtain rfl := Option.some.inj H
                                    obtain ⟨Ao46, co46, eo46⟩ := Kd.R_slice HO_8.out
                                    subst eo46
                                    go_wp2
                                    go_ret
                                    exact ⟨by first | rfl | (simp [errW_none, errW_some] <;> rfl) | (simp [*, errW_none, errW_some] <;> rfl), by repeat (first | (with_reducible first | exact HB.out | apply below_alloc | apply pw_below_drewN | apply below_drew1) | exact HB.out)⟩
                        · rw [if_neg c25] at H
                          exact absurd H (by simp)
                      · rw [if_neg c24] at H
                        exact absurd H (by simp)
                · rw [if_neg c20] at H
                  have c20b0 : decide (x9_2 < ((rd_L1 t214 a1).length : Int)) = false := decide_eq_false c20
                  clear c20
                  replace H := Option.bind_eq_some_iff.mp H
                  obtain ⟨⟨t223, t224⟩, A470, H⟩ := H
                  replace H : (if t224 = true then (some false) else ((rivuletlaw16_fixed.f).bind fun t225 => (some t225))) = some r := H
                  have A47 := Aside0.mk A470
                  clear A470
                  by_cases c48 : t224 = true
                  · subst c48
                    have H1 : (some false) = some r := by rw [if_pos rfl] at H; exact H
                    clear H
                    have H := H1
                    clear H1
                    obtain rfl := Option.some.inj H
                    obtain ⟨Ao49, co49, eo49⟩ := Kd.N_slice HO_7.out
                    subst eo49
                    have p222 : 0 ≤ (a1 : Int) := of_decide_eq_true (by first | (with_reducible assumption) | assumption)
                    have q222 : a1 < (t214.length : Int) := of_decide_eq_true (by first | (with_reducible assumption) | assumption)
                    obtain ⟨ad222, A222_0, c222_0, e222, hx222_0, hl222_0, hi222_0⟩ := at_L1 (Kd.N_reads' HO_7.out).2.2 a1 p222 q222
                    cases e222
                    obtain ⟨ce222, hce222, hMe222, hcc222⟩ := Kd.N_get HO_7.out [] a1 p222 (by first | exact q222 | exact of_decide_eq_true (by first | (with_reducible assumption) | assumption) | (have e_ := (Kd.N_reads' HO_7.out).1; omega))
                    obtain ⟨ua222_0, uc222_0, rfl, ul222_0, ge222_0⟩ := Kd.FK_slice_open hMe222
                    have hv222_0 := hcc222 0 _ rfl
                    rw [Nat.add_zero, show ((Kd.slice 3 (Kd.int .i64))).sz = 1 from rfl, Nat.mul_one] at hv222_0
                    replace hv222_0 := Option.some.inj (hv222_0.symm.trans hx222_0)
                    injection hv222_0 with hva_ hvn_ hvc_
                    rw [hva_] at ge222_0
                    rw [hvc_] at ul222_0
                    have HL222_0 := Aside0.mk (show Kd.V (Kd.int .i64) 3 _ w.heap.size _ _ (rd_L1 t214 a1) from Kd.V_mk ul222_0 ge222_0)
                    clear hva_ hvn_ hvc_ ge222_0 ul222_0
                    clear hcc222 hce222
                    have HR222_0 := Aside0.mk hi222_0
                    have HC222_0 := Aside0.mk hl222_0
                    clear hi222_0 hl222_0
                    replace p222 := eq_true p222
                    replace q222 := eq_true q222
                    obtain ⟨Ao50, co50, eo50⟩ := Kd.R_slice HO_8.out
                    subst eo50
                    go_wp2_with (first | ((with_reducible refine gate_callee (f := 16) rfl ?_); refine goesL_ (some 115) rfl rfl Try.func16 (by kernel_rfl) rfl #[.slice (some ad222) t214.length co49, .int .i64 a1, .int .i64 x2_2, .slice Ao50 x8_2.length co50] rfl (by (try simp only [List.map_toArray, List.map_cons, List.map_nil]); first | done | rfl | (simp only [List.length_drop, List.length_take]; rfl)) ?_; (with_reducible refine (rank_Choose.calls k2 _ _ t214 a1 x2_2 _ _ x8_2 t223 true _ ?side1 ?side2 ?side3 ?side4 A47.out).mono ?_); (case side1 => repeat (first | exact (Kd.N_reads' HO_7.out).2.2 | (with_reducible refine Kd.C_alloc ?_ _) | (with_reducible refine Kd.C_drewN ?_ _) | (with_reducible refine Kd.C_drew ?_))); (case side2 => exact (Kd.N_reads' HO_7.out).2.1); (case side3 => repeat (first | exact (Kd.R_reads' HO_8.out).2.2 | (with_reducible refine Kd.C_alloc ?_ _) | (with_reducible refine Kd.C_drewN ?_ _) | (with_reducible refine Kd.C_drew ?_))); (case side4 => exact (Kd.R_reads' HO_8.out).2.1); rintro e w51 ⟨rfl, hb⟩; refine ⟨_, rfl, ?_⟩; have n0_ := Aside0.mk (Kd.N_below (by (with_reducible repeat (first | apply Kd.N_alloc | apply Kd.N_drewN | apply Kd.N_drew)); exact HO_7.out) hb); have n1_ := Aside0.mk (Kd.R_below (by (with_reducible repeat (first | apply Kd.R_alloc | apply Kd.R_drewN | apply Kd.R_drew)); exact HO_8.out) hb); have n2_ := Aside0.mk (Kd.V_below (by (with_reducible repeat (first | apply Kd.V_alloc | apply Kd.V_drewN | apply Kd.V_drew)); exact HL222_0.out) hb); have n3_ := Aside0.mk (Kd.C_below (by repeat (first | (with_reducible exact HR222_0.out) | (with_reducible refine Kd.C_alloc ?_ _) | (with_reducible refine Kd.C_drewN ?_ _) | (with_reducible refine Kd.C_drew ?_) | exact HR222_0.out)) hb); have n4_ := Aside0.mk (below_step (by repeat (first | (with_reducible first | exact HB.out | apply below_alloc | apply pw_below_drewN | apply below_drew1) | exact HB.out)) hb); clear HO_7; clear HO_8; clear HL222_0; clear HR222_0; clear HB; have HO_7 := n0_; have HO_8 := n1_; have HL222_0 := n2_; have HR222_0 := n3_; have HB := n4_; clear n0_ n1_ n2_ n3_ n4_; (try clear hb); (try clear hb2); (try clear hk); (try clear hi)))
                    go_ret
                    exact ⟨by first | rfl | (simp [errW_none, errW_some] <;> rfl) | (simp [*, errW_none, errW_some] <;> rfl), by repeat (first | (with_reducible first | exact HB.out | apply below_alloc | apply pw_below_drewN | apply below_drew1) | exact HB.out)⟩
                  · replace c48 := Bool.eq_false_iff.mpr c48
                    subst c48
                    have H1 : ((rivuletlaw16_fixed.f).bind fun t225 => (some t225)) = some r := by rw [if_neg (show ¬ (false = true) by decide)] at H; exact H
                    clear H
                    have H := H1
                    clear H1
                    replace H := Option.bind_eq_some_iff.mp H
                    obtain ⟨t225, A520, H⟩ := H
                    replace H : (some t225) = some r := H
                    have A52 := Aside0.mk A520
                    clear A520
                    obtain rfl := Option.some.inj H
                    obtain ⟨Ao53, co53, eo53⟩ := Kd.N_slice HO_7.out
                    subst eo53
                    have p222 : 0 ≤ (a1 : Int) := of_decide_eq_true (by first | (with_reducible assumption) | assumption)
                    have q222 : a1 < (t214.length : Int) := of_decide_eq_true (by first | (with_reducible assumption) | assumption)
                    obtain ⟨ad222, A222_0, c222_0, e222, hx222_0, hl222_0, hi222_0⟩ := at_L1 (Kd.N_reads' HO_7.out).2.2 a1 p222 q222
                    cases e222
                    obtain ⟨ce222, hce222, hMe222, hcc222⟩ := Kd.N_get HO_7.out [] a1 p222 (by first | exact q222 | exact of_decide_eq_true (by first | (with_reducible assumption) | assumption) | (have e_ := (Kd.N_reads' HO_7.out).1; omega))
                    obtain ⟨ua222_0, uc222_0, rfl, ul222_0, ge222_0⟩ := Kd.FK_slice_open hMe222
                    have hv222_0 := hcc222 0 _ rfl
                    rw [Nat.add_zero, show ((Kd.slice 3 (Kd.int .i64))).sz = 1 from rfl, Nat.mul_one] at hv222_0
                    replace hv222_0 := Option.some.inj (hv222_0.symm.trans hx222_0)
                    injection hv222_0 with hva_ hvn_ hvc_
                    rw [hva_] at ge222_0
                    rw [hvc_] at ul222_0
                    have HL222_0 := Aside0.mk (show Kd.V (Kd.int .i64) 3 _ w.heap.size _ _ (rd_L1 t214 a1) from Kd.V_mk ul222_0 ge222_0)
                    clear hva_ hvn_ hvc_ ge222_0 ul222_0
                    clear hcc222 hce222
                    have HR222_0 := Aside0.mk hi222_0
                    have HC222_0 := Aside0.mk hl222_0
                    clear hi222_0 hl222_0
                    replace p222 := eq_true p222
                    replace q222 := eq_true q222
                    obtain ⟨Ao54, co54, eo54⟩ := Kd.R_slice HO_8.out
                    subst eo54
                    go_wp2_with (first | ((with_reducible refine gate_callee (f := 16) rfl ?_); refine goesL_ (some 115) rfl rfl Try.func16 (by kernel_rfl) rfl #[.slice (some ad222) t214.length co53, .int .i64 a1, .int .i64 x2_2, .slice Ao54 x8_2.length co54] rfl (by (try simp only [List.map_toArray, List.map_cons, List.map_nil]); first | done | rfl | (simp only [List.length_drop, List.length_take]; rfl)) ?_; (with_reducible refine (rank_Choose.calls k2 _ _ t214 a1 x2_2 _ _ x8_2 t223 false _ ?side1 ?side2 ?side3 ?side4 A47.out).mono ?_); (case side1 => repeat (first | exact (Kd.N_reads' HO_7.out).2.2 | (with_reducible refine Kd.C_alloc ?_ _) | (with_reducible refine Kd.C_drewN ?_ _) | (with_reducible refine Kd.C_drew ?_))); (case side2 => exact (Kd.N_reads' HO_7.out).2.1); (case side3 => repeat (first | exact (Kd.R_reads' HO_8.out).2.2 | (with_reducible refine Kd.C_alloc ?_ _) | (with_reducible refine Kd.C_drewN ?_ _) | (with_reducible refine Kd.C_drew ?_))); (case side4 => exact (Kd.R_reads' HO_8.out).2.1); rintro e w55 ⟨rfl, hb⟩; refine ⟨_, rfl, ?_⟩; have n0_ := Aside0.mk (Kd.N_below (by (with_reducible repeat (first | apply Kd.N_alloc | apply Kd.N_drewN | apply Kd.N_drew)); exact HO_7.out) hb); have n1_ := Aside0.mk (Kd.R_below (by (with_reducible repeat (first | apply Kd.R_alloc | apply Kd.R_drewN | apply Kd.R_drew)); exact HO_8.out) hb); have n2_ := Aside0.mk (Kd.V_below (by (with_reducible repeat (first | apply Kd.V_alloc | apply Kd.V_drewN | apply Kd.V_drew)); exact HL222_0.out) hb); have n3_ := Aside0.mk (Kd.C_below (by repeat (first | (with_reducible exact HR222_0.out) | (with_reducible refine Kd.C_alloc ?_ _) | (with_reducible refine Kd.C_drewN ?_ _) | (with_reducible refine Kd.C_drew ?_) | exact HR222_0.out)) hb); have n4_ := Aside0.mk (below_step (by repeat (first | (with_reducible first | exact HB.out | apply below_alloc | apply pw_below_drewN | apply below_drew1) | exact HB.out)) hb); clear HO_7; clear HO_8; clear HL222_0; clear HR222_0; clear HB; have HO_7 := n0_; have HO_8 := n1_; have HL222_0 := n2_; have HR222_0 := n3_; have HB := n4_; clear n0_ n1_ n2_ n3_ n4_; (try clear hb); (try clear hb2); (try clear hk); (try clear hi)) | (go_at_call 15; (with_reducible refine (rivuletlaw16_fixed.calls  t225 _ A52.out).mono ?_); rintro e w56 ⟨rfl, hb⟩; have n0_ := Aside0.mk (Kd.N_below (by (with_reducible repeat (first | apply Kd.N_alloc | apply Kd.N_drewN | apply Kd.N_drew)); exact HO_7.out) hb); have n1_ := Aside0.mk (Kd.R_below (by (with_reducible repeat (first | apply Kd.R_alloc | apply Kd.R_drewN | apply Kd.R_drew)); exact HO_8.out) hb); have n2_ := Aside0.mk (Kd.V_below (by (with_reducible repeat (first | apply Kd.V_alloc | apply Kd.V_drewN | apply Kd.V_drew)); exact HL222_0.out) hb); have n3_ := Aside0.mk (Kd.C_below (by repeat (first | (with_reducible exact HR222_0.out) | (with_reducible refine Kd.C_alloc ?_ _) | (with_reducible refine Kd.C_drewN ?_ _) | (with_reducible refine Kd.C_drew ?_) | exact HR222_0.out)) hb); have n4_ := Aside0.mk (below_step (by repeat (first | (with_reducible first | exact HB.out | apply below_alloc | apply pw_below_drewN | apply below_drew1) | exact HB.out)) hb); clear HO_7; clear HO_8; clear HL222_0; clear HR222_0; clear HB; have HO_7 := n0_; have HO_8 := n1_; have HL222_0 := n2_; have HR222_0 := n3_; have HB := n4_; clear n0_ n1_ n2_ n3_ n4_; (try clear hb); (try clear hb2); (try clear hk); (try clear hi)))
                    go_ret
                    exact ⟨by first | rfl | (simp [errW_none, errW_some] <;> rfl) | (simp [*, errW_none, errW_some] <;> rfl), by repeat (first | (with_reducible first | exact HB.out | apply below_alloc | apply pw_below_drewN | apply below_drew1) | exact HB.out)⟩
              · rw [if_neg c19] at H
                exact absurd H (by simp)
            · rw [if_neg c18] at H
              exact absurd H (by simp)

end Go.Proofs.Ytagnpmmcoaemeaa.R16
