-- By a program (fakeprint.py: the kit's print over a copy), then proved by Lean.
import Derived.Test.YtagnpmmcoaemeaaR16x0
import Derived.Test.YtagnpmmcoaemeaaR16x6
namespace Go.Proofs.Ytagnpmmcoaemeaa.R16
open Go.RowKit Go.Proofs.YtagnpmmcoaemeaaW.PrintWords Go.Proofs.YtagnpmmcoaemeaaW.PrintLast Go.Proofs.YtagnpmmcoaemeaaW.PrintMore
attribute [local go_sem] max2_int min2_int max_two min_two max_three min_three max_four min_four   -- for this text's walks alone
set_option linter.unusedVariables false
set_option linter.unusedSimpArgs false

/-! ### rivuletref16_Right: function 11 -/
mutual
def rivuletref16_Right.j0 : Nat → List (List Int) → Bool → Option (Int)
  | 0, _, _ => none
  | k + 1, x0, x14 => if x14 = true then (some 1) else (rivuletref16_Right.l0 k x0 1)
def rivuletref16_Right.l0 : Nat → List (List Int) → Int → Option (Int)
  | 0, _, _ => none
  | k + 1, x0, x3 => if x3 < (x0.length : Int) then (if 0 ≤ x3 then (if ((rd_L1 x0 x3).length : Int) < 1 then (some 1) else (if ((rd_L1 x0 x3).length : Int) > 4 then (some 1) else (rivuletref16_Right.l0 k x0 (wrap64 (x3 + 1))))) else (none)) else (rivuletref16_Right.l1 k x0 0)
def rivuletref16_Right.l1 : Nat → List (List Int) → Int → Option (Int)
  | 0, _, _ => none
  | k + 1, x0, x4 => if x4 < (x0.length : Int) then (rivuletref16_Right.l2 k x0 x4 0) else (some 0)
def rivuletref16_Right.l2 : Nat → List (List Int) → Int → Int → Option (Int)
  | 0, _, _, _ => none
  | k + 1, x0, x4, x5 => if 0 ≤ x4 then (if x4 < (x0.length : Int) then (if x5 < ((rd_L1 x0 x4).length : Int) then (if 0 ≤ x5 then (if (rd (rd_L1 x0 x4) x5) < 0 then (rivuletref16_Right.j4 k x0 x4 x5 true) else (rivuletref16_Right.j4 k x0 x4 x5 (decide ((rd (rd_L1 x0 x4) x5) ≥ x4)))) else (none)) else (rivuletref16_Right.l1 k x0 (wrap64 (x4 + 1)))) else (none)) else (none)
def rivuletref16_Right.j4 : Nat → List (List Int) → Int → Int → Bool → Option (Int)
  | 0, _, _, _, _ => none
  | k + 1, x0, x4, x5, x68 => if x68 = true then (some 12) else (rivuletref16_Right.l3 k x0 x4 x5 0)
def rivuletref16_Right.l3 : Nat → List (List Int) → Int → Int → Int → Option (Int)
  | 0, _, _, _, _ => none
  | k + 1, x0, x4, x5, x6 => if x6 < x5 then (if 0 ≤ x4 then (if x4 < (x0.length : Int) then (if 0 ≤ x6 then (if x6 < ((rd_L1 x0 x4).length : Int) then (if 0 ≤ x5 then (if x5 < ((rd_L1 x0 x4).length : Int) then (if (rd (rd_L1 x0 x4) x6) = (rd (rd_L1 x0 x4) x5) then (some 9) else (rivuletref16_Right.l3 k x0 x4 x5 (wrap64 (x6 + 1)))) else (none)) else (none)) else (none)) else (none)) else (none)) else (none)) else (rivuletref16_Right.l2 k x0 x4 (wrap64 (x5 + 1)))
end
def rivuletref16_Right.f (k : Nat) (l0 : List (List Int)) : Option (Int) := if (l0.length : Int) < 1 then (rivuletref16_Right.j0 k l0 true) else (rivuletref16_Right.j0 k l0 (decide ((l0.length : Int) > 8)))
theorem rivuletref16_Right.mono_l : ∀ k, (∀ y0 y1, LeO (rivuletref16_Right.j0 k y0 y1) (rivuletref16_Right.j0 (k + 1) y0 y1)) ∧ (∀ y0 y1, LeO (rivuletref16_Right.l0 k y0 y1) (rivuletref16_Right.l0 (k + 1) y0 y1)) ∧ (∀ y0 y1, LeO (rivuletref16_Right.l1 k y0 y1) (rivuletref16_Right.l1 (k + 1) y0 y1)) ∧ (∀ y0 y1 y2, LeO (rivuletref16_Right.l2 k y0 y1 y2) (rivuletref16_Right.l2 (k + 1) y0 y1 y2)) ∧ (∀ y0 y1 y2 y3, LeO (rivuletref16_Right.j4 k y0 y1 y2 y3) (rivuletref16_Right.j4 (k + 1) y0 y1 y2 y3)) ∧ (∀ y0 y1 y2 y3, LeO (rivuletref16_Right.l3 k y0 y1 y2 y3) (rivuletref16_Right.l3 (k + 1) y0 y1 y2 y3))
  | 0 => ⟨fun _ _ r h => by simp [rivuletref16_Right.j0] at h, fun _ _ r h => by simp [rivuletref16_Right.l0] at h, fun _ _ r h => by simp [rivuletref16_Right.l1] at h, fun _ _ _ r h => by simp [rivuletref16_Right.l2] at h, fun _ _ _ _ r h => by simp [rivuletref16_Right.j4] at h, fun _ _ _ _ r h => by simp [rivuletref16_Right.l3] at h⟩
  | k + 1 => by
    obtain ⟨ih0, ih1, ih2, ih3, ih4, ih5⟩ := rivuletref16_Right.mono_l k
    refine ⟨?_, ?_, ?_, ?_, ?_, ?_⟩
    · intro y0 y1
      unfold rivuletref16_Right.j0
      repeat' first
      | (with_reducible exact ih0 _ _)
      | (with_reducible exact ih1 _ _)
      | (with_reducible exact ih2 _ _)
      | (with_reducible exact ih3 _ _ _)
      | (with_reducible exact ih4 _ _ _ _)
      | (with_reducible exact ih5 _ _ _ _)
      | (with_reducible exact LeO.refl _)
      | (with_reducible exact LeO.none _)
      | (with_reducible refine LeO.ite ?_ ?_)
      | (with_reducible refine LeO.bind ?_ (fun _ => ?_))
      | exact ih0 _ _
      | exact ih1 _ _
      | exact ih2 _ _
      | exact ih3 _ _ _
      | exact ih4 _ _ _ _
      | exact ih5 _ _ _ _
      | exact LeO.none _
      | refine LeO.ite ?_ ?_
      | refine LeO.bind ?_ (fun _ => ?_)
    · intro y0 y1
      unfold rivuletref16_Right.l0
      repeat' first
      | (with_reducible exact ih0 _ _)
      | (with_reducible exact ih1 _ _)
      | (with_reducible exact ih2 _ _)
      | (with_reducible exact ih3 _ _ _)
      | (with_reducible exact ih4 _ _ _ _)
      | (with_reducible exact ih5 _ _ _ _)
      | (with_reducible exact LeO.refl _)
      | (with_reducible exact LeO.none _)
      | (with_reducible refine LeO.ite ?_ ?_)
      | (with_reducible refine LeO.bind ?_ (fun _ => ?_))
      | exact ih0 _ _
      | exact ih1 _ _
      | exact ih2 _ _
      | exact ih3 _ _ _
      | exact ih4 _ _ _ _
      | exact ih5 _ _ _ _
      | exact LeO.none _
      | refine LeO.ite ?_ ?_
      | refine LeO.bind ?_ (fun _ => ?_)
    · intro y0 y1
      unfold rivuletref16_Right.l1
      repeat' first
      | (with_reducible exact ih0 _ _)
      | (with_reducible exact ih1 _ _)
      | (with_reducible exact ih2 _ _)
      | (with_reducible exact ih3 _ _ _)
      | (with_reducible exact ih4 _ _ _ _)
      | (with_reducible exact ih5 _ _ _ _)
      | (with_reducible exact LeO.refl _)
      | (with_reducible exact LeO.none _)
      | (with_reducible refine LeO.ite ?_ ?_)
      | (with_reducible refine LeO.bind ?_ (fun _ => ?_))
      | exact ih0 _ _
      | exact ih1 _ _
      | exact ih2 _ _
      | exact ih3 _ _ _
      | exact ih4 _ _ _ _
      | exact ih5 _ _ _ _
      | exact LeO.none _
      | refine LeO.ite ?_ ?_
      | refine LeO.bind ?_ (fun _ => ?_)
    · intro y0 y1 y2
      unfold rivuletref16_Right.l2
      repeat' first
      | (with_reducible exact ih0 _ _)
      | (with_reducible exact ih1 _ _)
      | (with_reducible exact ih2 _ _)
      | (with_reducible exact ih3 _ _ _)
      | (with_reducible exact ih4 _ _ _ _)
      | (with_reducible exact ih5 _ _ _ _)
      | (with_reducible exact LeO.refl _)
      | (with_reducible exact LeO.none _)
      | (with_reducible refine LeO.ite ?_ ?_)
      | (with_reducible refine LeO.bind ?_ (fun _ => ?_))
      | exact ih0 _ _
      | exact ih1 _ _
      | exact ih2 _ _
      | exact ih3 _ _ _
      | exact ih4 _ _ _ _
      | exact ih5 _ _ _ _
      | exact LeO.none _
      | refine LeO.ite ?_ ?_
      | refine LeO.bind ?_ (fun _ => ?_)
    · intro y0 y1 y2 y3
      unfold rivuletref16_Right.j4
      repeat' first
      | (with_reducible exact ih0 _ _)
      | (with_reducible exact ih1 _ _)
      | (with_reducible exact ih2 _ _)
      | (with_reducible exact ih3 _ _ _)
      | (with_reducible exact ih4 _ _ _ _)
      | (with_reducible exact ih5 _ _ _ _)
      | (with_reducible exact LeO.refl _)
      | (with_reducible exact LeO.none _)
      | (with_reducible refine LeO.ite ?_ ?_)
      | (with_reducible refine LeO.bind ?_ (fun _ => ?_))
      | exact ih0 _ _
      | exact ih1 _ _
      | exact ih2 _ _
      | exact ih3 _ _ _
      | exact ih4 _ _ _ _
      | exact ih5 _ _ _ _
      | exact LeO.none _
      | refine LeO.ite ?_ ?_
      | refine LeO.bind ?_ (fun _ => ?_)
    · intro y0 y1 y2 y3
      unfold rivuletref16_Right.l3
      repeat' first
      | (with_reducible exact ih0 _ _)
      | (with_reducible exact ih1 _ _)
      | (with_reducible exact ih2 _ _)
      | (with_reducible exact ih3 _ _ _)
      | (with_reducible exact ih4 _ _ _ _)
      | (with_reducible exact ih5 _ _ _ _)
      | (with_reducible exact LeO.refl _)
      | (with_reducible exact LeO.none _)
      | (with_reducible refine LeO.ite ?_ ?_)
      | (with_reducible refine LeO.bind ?_ (fun _ => ?_))
      | exact ih0 _ _
      | exact ih1 _ _
      | exact ih2 _ _
      | exact ih3 _ _ _
      | exact ih4 _ _ _ _
      | exact ih5 _ _ _ _
      | exact LeO.none _
      | refine LeO.ite ?_ ?_
      | refine LeO.bind ?_ (fun _ => ?_)
theorem rivuletref16_Right.mono : ∀ a0 k, LeO (rivuletref16_Right.f k a0) (rivuletref16_Right.f (k + 1) a0) := by
  intro a0 k
  obtain ⟨ih0, ih1, ih2, ih3, ih4, ih5⟩ := rivuletref16_Right.mono_l k
  unfold rivuletref16_Right.f
  repeat' first
      | (with_reducible exact ih0 _ _)
      | (with_reducible exact ih1 _ _)
      | (with_reducible exact ih2 _ _)
      | (with_reducible exact ih3 _ _ _)
      | (with_reducible exact ih4 _ _ _ _)
      | (with_reducible exact ih5 _ _ _ _)
      | (with_reducible exact LeO.refl _)
      | (with_reducible exact LeO.none _)
      | (with_reducible refine LeO.ite ?_ ?_)
      | (with_reducible refine LeO.bind ?_ (fun _ => ?_))
      | exact ih0 _ _
      | exact ih1 _ _
      | exact ih2 _ _
      | exact ih3 _ _ _
      | exact ih4 _ _ _ _
      | exact ih5 _ _ _ _
      | exact LeO.none _
      | refine LeO.ite ?_ ?_
      | refine LeO.bind ?_ (fun _ => ?_)
set_option maxHeartbeats 8000000 in
set_option maxRecDepth 100000 in
theorem rivuletref16_Right.calls (k : Nat) (A0 : Option Addr) (c0 : Nat) (l0 : List (List Int)) (r : Int) (w : World) (hr0 : Kd.C (Kd.slice 3 (Kd.int .i64)) w A0 l0.length l0) (hc0 : l0.length ≤ c0) (h : rivuletref16_Right.f k l0 = some r) :
    Calls Try.prog 11 #[.slice A0 l0.length c0] w fun e w' => e = .returned (.int .i64 r) ∧ Drawn0 w w' := by
  have HR0 := Aside0.mk hr0
  have HC0 := Aside0.mk hc0
  clear hr0 hc0
  have H : (if (l0.length : Int) < 1 then (rivuletref16_Right.j0 k l0 true) else (rivuletref16_Right.j0 k l0 (decide ((l0.length : Int) > 8)))) = some r := h
  clear h
  have HC2 := Aside0.mk H
  clear H
  go_enter Try.func11, Try.ntmps11
  go_upto_region 1 with (fail)
  repeat (go_quiet (fail); go_upto_region 1 with (fail))
  go_cut [14] (fun v14 wc => ∃ (kq : Nat) (x14_1 : Bool), v14 = .bool x14_1 ∧ Aside0 (rivuletref16_Right.j0 kq l0 x14_1 = some r) ∧ Aside0 (kq ≤ k) ∧ Drawn0 w wc)
  case first =>
    have H := HC2.out
    clear HC2
    by_cases c3 : (l0.length : Int) < 1
    · rw [if_pos c3] at H
      have c3b0 : decide ((l0.length : Int) < 1) = true := decide_eq_true c3
      have c3b1 : decide (l0.length < 1) = true := decide_eq_true (by omega)
      clear c3
      (first | rw [c3b0] | (simp only [i64_w, i32_w]; rw [c3b0]) | skip)
      have H' := Aside0.mk H
      clear H
      go_wp2
      repeat (go_quiet (fail); try go_wp2)
      go_meet
      case rel => exact ⟨_, (true), (by first | rfl | (simp; done) | (simp [*]; done)), H', ⟨by first | omega | exact Nat.le_refl _⟩, by repeat (first | exact Drawn0.refl _ | apply Drawn0.step)⟩
    · rw [if_neg c3] at H
      have c3b0 : decide ((l0.length : Int) < 1) = false := decide_eq_false c3
      have c3b1 : decide (l0.length < 1) = false := decide_eq_false (by omega)
      clear c3
      (first | rw [c3b0] | (simp only [i64_w, i32_w]; rw [c3b0]) | skip)
      have H' := Aside0.mk H
      clear H
      go_wp2
      repeat (go_quiet (fail); try go_wp2)
      go_meet
      case rel => exact ⟨_, (decide ((l0.length : Int) > 8)), (by first | rfl | (simp; done) | (simp [*]; done)), H', ⟨by first | omega | exact Nat.le_refl _⟩, by repeat (first | exact Drawn0.refl _ | apply Drawn0.step)⟩
  case rest =>
    clear HC2
    try clear c1
    try clear p2
    try clear c3
    try clear c3b0
    try clear c3b1
    obtain ⟨kq, x14_1, rfl, HA, HJ1, ⟨mc1, rfl⟩⟩ := hcut
    cases kq with
    | zero => exact absurd HA.out (by simp [rivuletref16_Right.j0])
    | succ kj1 =>
      have H := HA.out
      clear HA
      simp only [rivuletref16_Right.j0] at H
      by_cases c4 : x14_1 = true
      · subst c4
        have H1 : (some 1) = some r := by rw [if_pos rfl] at H; exact H
        clear H
        have H := H1
        clear H1
        obtain rfl := Option.some.inj H
        go_wp2
        repeat (go_quiet (fail); try go_wp2)
        go_ret
        exact ⟨by first | rfl | (simp; done) | (simp [*]; done), by repeat (first | exact Drawn0.refl _ | apply Drawn0.step)⟩
      · replace c4 := Bool.eq_false_iff.mpr c4
        subst c4
        have H1 : (rivuletref16_Right.l0 kj1 l0 1) = some r := by rw [if_neg (show ¬ (false = true) by decide)] at H; exact H
        clear H
        have H := H1
        clear H1
        have H' := Aside0.mk H
        clear H
        go_wp2
        repeat (go_quiet (fail); try go_wp2)
        go_loopg [3] kj1 (fun kq v3 w' => ∃ (x3_2 : Int), v3 = .int .i64 x3_2 ∧ Aside0 (rivuletref16_Right.l0 kq l0 x3_2 = some r) ∧ Aside0 (kq ≤ kj1) ∧ Drawn0 w w')
        case atStart => exact ⟨(1), (by first | rfl | (simp; done) | (simp [*]; done)), H', ⟨Nat.le_refl _⟩, by repeat (first | exact Drawn0.refl _ | apply Drawn0.step)⟩
        case round =>
          clear H'
          try clear c1
          try clear p2
          try clear c3
          try clear c3b0
          try clear c3b1
          try clear c4
          try clear p2
          obtain ⟨x3_2, rfl, HA, HK2, ⟨m2, rfl⟩⟩ := hrel
          cases gk with
          | zero => exact absurd HA.out (by simp [rivuletref16_Right.l0])
          | succ k2 =>
            have H := HA.out
            clear HA
            simp only [rivuletref16_Right.l0] at H
            by_cases c5 : x3_2 < (l0.length : Int)
            · rw [if_pos c5] at H
              have c5b0 : decide (x3_2 < (l0.length : Int)) = true := decide_eq_true c5
              clear c5
              by_cases c6 : 0 ≤ x3_2
              · rw [if_pos c6] at H
                have c6b0 : decide (0 ≤ x3_2) = true := decide_eq_true c6
                clear c6
                by_cases c7 : ((rd_L1 l0 x3_2).length : Int) < 1
                · rw [if_pos c7] at H
                  have c7b0 : decide (((rd_L1 l0 x3_2).length : Int) < 1) = true := decide_eq_true c7
                  have c7b1 : decide ((rd_L1 l0 x3_2).length < 1) = true := decide_eq_true (by omega)
                  clear c7
                  obtain rfl := Option.some.inj H
                  have p121 : 0 ≤ (x3_2 : Int) := of_decide_eq_true (by first | (with_reducible assumption) | assumption)
                  have q121 : x3_2 < (l0.length : Int) := of_decide_eq_true (by first | (with_reducible assumption) | assumption)
                  obtain ⟨ad121, A121_0, c121_0, e121, hx121_0, hl121_0, hi121_0⟩ := at_L1 HR0.out x3_2 p121 q121
                  cases e121
                  have HR121_0 := Aside0.mk hi121_0
                  have HC121_0 := Aside0.mk hl121_0
                  clear hi121_0 hl121_0
                  replace p121 := eq_true p121
                  replace q121 := eq_true q121
                  go_wp2
                  repeat (go_quiet (fail); try go_wp2)
                  go_ret
                  exact ⟨by first | rfl | (simp; done) | (simp [*]; done), by repeat (first | exact Drawn0.refl _ | apply Drawn0.step)⟩
                · rw [if_neg c7] at H
                  have c7b0 : decide (((rd_L1 l0 x3_2).length : Int) < 1) = false := decide_eq_false c7
                  have c7b1 : decide ((rd_L1 l0 x3_2).length < 1) = false := decide_eq_false (by omega)
                  clear c7
                  by_cases c8 : ((rd_L1 l0 x3_2).length : Int) > 4
                  · rw [if_pos c8] at H
                    have c8b0 : decide (4 < ((rd_L1 l0 x3_2).length : Int)) = true := decide_eq_true c8
                    have c8b1 : decide (4 < (rd_L1 l0 x3_2).length) = true := decide_eq_true (by omega)
                    clear c8
                    obtain rfl := Option.some.inj H
                    have p121 : 0 ≤ (x3_2 : Int) := of_decide_eq_true (by first | (with_reducible assumption) | assumption)
                    have q121 : x3_2 < (l0.length : Int) := of_decide_eq_true (by first | (with_reducible assumption) | assumption)
                    obtain ⟨ad121, A121_0, c121_0, e121, hx121_0, hl121_0, hi121_0⟩ := at_L1 HR0.out x3_2 p121 q121
                    cases e121
                    have HR121_0 := Aside0.mk hi121_0
                    have HC121_0 := Aside0.mk hl121_0
                    clear hi121_0 hl121_0
                    replace p121 := eq_true p121
                    replace q121 := eq_true q121
                    have p122 : 0 ≤ (x3_2 : Int) := of_decide_eq_true (by first | (with_reducible assumption) | assumption)
                    have q122 : x3_2 < (l0.length : Int) := of_decide_eq_true (by first | (with_reducible assumption) | assumption)
                    obtain ⟨ad122, A122_0, c122_0, e122, hx122_0, hl122_0, hi122_0⟩ := at_L1 HR0.out x3_2 p122 q122
                    obtain rfl : ad121 = ad122 := (by injection e122)
                    have HR122_0 := Aside0.mk hi122_0
                    have HC122_0 := Aside0.mk hl122_0
                    clear hi122_0 hl122_0
                    replace p122 := eq_true p122
                    replace q122 := eq_true q122
                    have ea_ := Option.some.inj (hx121_0.symm.trans hx122_0)
                    injection ea_ with ea_ en_ ec_
                    subst ea_
                    subst ec_
                    clear en_
                    go_wp2
                    repeat (go_quiet (fail); try go_wp2)
                    go_ret
                    exact ⟨by first | rfl | (simp; done) | (simp [*]; done), by repeat (first | exact Drawn0.refl _ | apply Drawn0.step)⟩
                  · rw [if_neg c8] at H
                    have c8b0 : decide (4 < ((rd_L1 l0 x3_2).length : Int)) = false := decide_eq_false c8
                    have c8b1 : decide (4 < (rd_L1 l0 x3_2).length) = false := decide_eq_false (by omega)
                    clear c8
                    have H' := Aside0.mk H
                    clear H
                    have p121 : 0 ≤ (x3_2 : Int) := of_decide_eq_true (by first | (with_reducible assumption) | assumption)
                    have q121 : x3_2 < (l0.length : Int) := of_decide_eq_true (by first | (with_reducible assumption) | assumption)
                    obtain ⟨ad121, A121_0, c121_0, e121, hx121_0, hl121_0, hi121_0⟩ := at_L1 HR0.out x3_2 p121 q121
                    cases e121
                    have HR121_0 := Aside0.mk hi121_0
                    have HC121_0 := Aside0.mk hl121_0
                    clear hi121_0 hl121_0
                    replace p121 := eq_true p121
                    replace q121 := eq_true q121
                    have p122 : 0 ≤ (x3_2 : Int) := of_decide_eq_true (by first | (with_reducible assumption) | assumption)
                    have q122 : x3_2 < (l0.length : Int) := of_decide_eq_true (by first | (with_reducible assumption) | assumption)
                    obtain ⟨ad122, A122_0, c122_0, e122, hx122_0, hl122_0, hi122_0⟩ := at_L1 HR0.out x3_2 p122 q122
                    obtain rfl : ad121 = ad122 := (by injection e122)
                    have HR122_0 := Aside0.mk hi122_0
                    have HC122_0 := Aside0.mk hl122_0
                    clear hi122_0 hl122_0
                    replace p122 := eq_true p122
                    replace q122 := eq_true q122
                    have ea_ := Option.some.inj (hx121_0.symm.trans hx122_0)
                    injection ea_ with ea_ en_ ec_
                    subst ea_
                    subst ec_
                    clear en_
                    go_wp2
                    repeat (go_quiet (fail); try go_wp2)
                    go_roundg k2
                    case measure => have := HJ1.out; have := HK2.out; omega
                    case rel => exact ⟨(wrap64 (x3_2 + 1)), (by first | rfl | (simp; done) | (simp [*]; done)), H', ⟨by have := HJ1.out; have := HK2.out; omega⟩, by repeat (first | exact Drawn0.refl _ | apply Drawn0.step)⟩
              · rw [if_neg c6] at H
                exact absurd H (by simp)
            · rw [if_neg c5] at H
              have c5b0 : decide (x3_2 < (l0.length : Int)) = false := decide_eq_false c5
              clear c5
              have H' := Aside0.mk H
              clear H
              go_wp2
              repeat (go_quiet (fail); try go_wp2)
              go_loopg [4] k2 (fun kq v4 w' => ∃ (x4_3 : Int), v4 = .int .i64 x4_3 ∧ Aside0 (rivuletref16_Right.l1 kq l0 x4_3 = some r) ∧ Aside0 (kq ≤ k2) ∧ Drawn0 w w')
              case atStart => exact ⟨(0), (by first | rfl | (simp; done) | (simp [*]; done)), H', ⟨Nat.le_refl _⟩, by repeat (first | exact Drawn0.refl _ | apply Drawn0.step)⟩
              case round =>
                clear H'
                try clear c1
                try clear p1
                try clear q1
                try clear hx1
                try clear p2
                try clear c3
                try clear c3b0
                try clear c3b1
                try clear c4
                try clear c5
                try clear c5b0
                try clear c6
                try clear c6b0
                try clear p6
                try clear c7
                try clear c7b0
                try clear c7b1
                try clear c8
                try clear c8b0
                try clear c8b1
                try clear hx121_0
                try clear hx122_0
                try clear p121
                try clear p122
                try clear p2
                try clear q121
                try clear q122
                obtain ⟨x4_3, rfl, HA, HK3, ⟨m3, rfl⟩⟩ := hrel
                cases gk with
                | zero => exact absurd HA.out (by simp [rivuletref16_Right.l1])
                | succ k3 =>
                  have H := HA.out
                  clear HA
                  simp only [rivuletref16_Right.l1] at H
                  by_cases c9 : x4_3 < (l0.length : Int)
                  · rw [if_pos c9] at H
                    have c9b0 : decide (x4_3 < (l0.length : Int)) = true := decide_eq_true c9
                    clear c9
                    have H' := Aside0.mk H
                    clear H
                    go_wp2
                    repeat (go_quiet (fail); try go_wp2)
                    go_loopg [5] k3 (fun kq v5 w' => ∃ (x5_4 : Int), v5 = .int .i64 x5_4 ∧ Aside0 (rivuletref16_Right.l2 kq l0 x4_3 x5_4 = some r) ∧ Aside0 (kq ≤ k3) ∧ Drawn0 w w')
                    case atStart => exact ⟨(0), (by first | rfl | (simp; done) | (simp [*]; done)), H', ⟨Nat.le_refl _⟩, by repeat (first | exact Drawn0.refl _ | apply Drawn0.step)⟩
                    case round =>
                      clear H'
                      try clear c1
                      try clear p1
                      try clear q1
                      try clear hx1
                      try clear p2
                      try clear c3
                      try clear c3b0
                      try clear c3b1
                      try clear c4
                      try clear c5
                      try clear c5b0
                      try clear c6
                      try clear c6b0
                      try clear p6
                      try clear c7
                      try clear c7b0
                      try clear c7b1
                      try clear c8
                      try clear c8b0
                      try clear c8b1
                      try clear c9
                      try clear c9b0
                      try clear hx121_0
                      try clear hx122_0
                      try clear p1
                      try clear p121
                      try clear p122
                      try clear p2
                      try clear p6
                      try clear q1
                      try clear q121
                      try clear q122
                      obtain ⟨x5_4, rfl, HA, HK4, ⟨m4, rfl⟩⟩ := hrel
                      cases gk with
                      | zero => exact absurd HA.out (by simp [rivuletref16_Right.l2])
                      | succ k4 =>
                        have H := HA.out
                        clear HA
                        simp only [rivuletref16_Right.l2] at H
                        by_cases c10 : 0 ≤ x4_3
                        · rw [if_pos c10] at H
                          have c10b0 : decide (0 ≤ x4_3) = true := decide_eq_true c10
                          clear c10
                          by_cases c11 : x4_3 < (l0.length : Int)
                          · rw [if_pos c11] at H
                            have c11b0 : decide (x4_3 < (l0.length : Int)) = true := decide_eq_true c11
                            clear c11
                            by_cases c12 : x5_4 < ((rd_L1 l0 x4_3).length : Int)
                            · rw [if_pos c12] at H
                              have c12b0 : decide (x5_4 < ((rd_L1 l0 x4_3).length : Int)) = true := decide_eq_true c12
                              clear c12
                              have HC13 := Aside0.mk H
                              clear H
                              have p123 : 0 ≤ (x4_3 : Int) := of_decide_eq_true (by first | (with_reducible assumption) | assumption)
                              have q123 : x4_3 < (l0.length : Int) := of_decide_eq_true (by first | (with_reducible assumption) | assumption)
                              obtain ⟨ad123, A123_0, c123_0, e123, hx123_0, hl123_0, hi123_0⟩ := at_L1 HR0.out x4_3 p123 q123
                              cases e123
                              have HR123_0 := Aside0.mk hi123_0
                              have HC123_0 := Aside0.mk hl123_0
                              clear hi123_0 hl123_0
                              replace p123 := eq_true p123
                              replace q123 := eq_true q123
                              go_upto_region 14 with (fail)
                              repeat (go_quiet (fail); go_upto_region 14 with (fail))
                              go_cut [68] (fun v68 wc => ∃ (kq : Nat) (x68_12 : Bool), v68 = .bool x68_12 ∧ Aside0 (rivuletref16_Right.j4 kq l0 x4_3 x5_4 x68_12 = some r) ∧ Aside0 (kq ≤ k4) ∧ Drawn0 w wc)
                              case first =>
                                have H := HC13.out
                                clear HC13
                                by_cases c14 : 0 ≤ x5_4
                                · rw [if_pos c14] at H
                                  have c14b0 : decide (0 ≤ x5_4) = true := decide_eq_true c14
                                  clear c14
                                  (first | rw [c14b0] | (simp only [i64_w, i32_w]; rw [c14b0]) | skip)
                                  by_cases c15 : (rd (rd_L1 l0 x4_3) x5_4) < 0
                                  · rw [if_pos c15] at H
                                    have c15b0 : decide ((rd (rd_L1 l0 x4_3) x5_4) < 0) = true := decide_eq_true c15
                                    clear c15
                                    have H' := Aside0.mk H
                                    clear H
                                    have p124 : 0 ≤ (x4_3 : Int) := of_decide_eq_true (by first | (with_reducible assumption) | assumption)
                                    have q124 : x4_3 < (l0.length : Int) := of_decide_eq_true (by first | (with_reducible assumption) | assumption)
                                    obtain ⟨ad124, A124_0, c124_0, e124, hx124_0, hl124_0, hi124_0⟩ := at_L1 HR0.out x4_3 p124 q124
                                    obtain rfl : ad123 = ad124 := (by injection e124)
                                    have HR124_0 := Aside0.mk hi124_0
                                    have HC124_0 := Aside0.mk hl124_0
                                    clear hi124_0 hl124_0
                                    replace p124 := eq_true p124
                                    replace q124 := eq_true q124
                                    have ea_ := Option.some.inj (hx123_0.symm.trans hx124_0)
                                    injection ea_ with ea_ en_ ec_
                                    subst ea_
                                    subst ec_
                                    clear en_
                                    have p125 : 0 ≤ (x5_4 : Int) := of_decide_eq_true (by first | (with_reducible assumption) | assumption)
                                    have q125 : x5_4 < ((rd_L1 l0 x4_3).length : Int) := of_decide_eq_true (by first | (with_reducible assumption) | assumption)
                                    obtain ⟨ad125, e125, hx125_0⟩ := Kd.at_int HR124_0.out x5_4 p125 q125
                                    cases e125
                                    replace p125 := eq_true p125
                                    replace q125 := eq_true q125
                                    go_wp2
                                    repeat (go_quiet (fail); try go_wp2)
                                    go_meet
                                    case rel => exact ⟨_, (true), (by first | rfl | (simp; done) | (simp [*]; done)), H', ⟨by have := HJ1.out; have := HK2.out; have := HK3.out; have := HK4.out; first | omega | exact Nat.le_refl _⟩, by repeat (first | exact Drawn0.refl _ | apply Drawn0.step)⟩
                                  · rw [if_neg c15] at H
                                    have c15b0 : decide ((rd (rd_L1 l0 x4_3) x5_4) < 0) = false := decide_eq_false c15
                                    clear c15
                                    have H' := Aside0.mk H
                                    clear H
                                    have p124 : 0 ≤ (x4_3 : Int) := of_decide_eq_true (by first | (with_reducible assumption) | assumption)
                                    have q124 : x4_3 < (l0.length : Int) := of_decide_eq_true (by first | (with_reducible assumption) | assumption)
                                    obtain ⟨ad124, A124_0, c124_0, e124, hx124_0, hl124_0, hi124_0⟩ := at_L1 HR0.out x4_3 p124 q124
                                    obtain rfl : ad123 = ad124 := (by injection e124)
                                    have HR124_0 := Aside0.mk hi124_0
                                    have HC124_0 := Aside0.mk hl124_0
                                    clear hi124_0 hl124_0
                                    replace p124 := eq_true p124
                                    replace q124 := eq_true q124
                                    have ea_ := Option.some.inj (hx123_0.symm.trans hx124_0)
                                    injection ea_ with ea_ en_ ec_
                                    subst ea_
                                    subst ec_
                                    clear en_
                                    have p125 : 0 ≤ (x5_4 : Int) := of_decide_eq_true (by first | (with_reducible assumption) | assumption)
                                    have q125 : x5_4 < ((rd_L1 l0 x4_3).length : Int) := of_decide_eq_true (by first | (with_reducible assumption) | assumption)
                                    obtain ⟨ad125, e125, hx125_0⟩ := Kd.at_int HR124_0.out x5_4 p125 q125
                                    cases e125
                                    replace p125 := eq_true p125
                                    replace q125 := eq_true q125
                                    have p126 : 0 ≤ (x4_3 : Int) := of_decide_eq_true (by first | (with_reducible assumption) | assumption)
                                    have q126 : x4_3 < (l0.length : Int) := of_decide_eq_true (by first | (with_reducible assumption) | assumption)
                                    obtain ⟨ad126, A126_0, c126_0, e126, hx126_0, hl126_0, hi126_0⟩ := at_L1 HR0.out x4_3 p126 q126
                                    obtain rfl : ad123 = ad126 := (by injection e126)
                                    have HR126_0 := Aside0.mk hi126_0
                                    have HC126_0 := Aside0.mk hl126_0
                                    clear hi126_0 hl126_0
                                    replace p126 := eq_true p126
                                    replace q126 := eq_true q126
                                    have ea_ := Option.some.inj (hx124_0.symm.trans hx126_0)
                                    injection ea_ with ea_ en_ ec_
                                    subst ea_
                                    subst ec_
                                    clear en_
                                    have p127 : 0 ≤ (x5_4 : Int) := of_decide_eq_true (by first | (with_reducible assumption) | assumption)
                                    have q127 : x5_4 < ((rd_L1 l0 x4_3).length : Int) := of_decide_eq_true (by first | (with_reducible assumption) | assumption)
                                    obtain ⟨ad127, e127, hx127_0⟩ := Kd.at_int HR126_0.out x5_4 p127 q127
                                    cases e127
                                    replace p127 := eq_true p127
                                    replace q127 := eq_true q127
                                    go_wp2
                                    repeat (go_quiet (fail); try go_wp2)
                                    go_meet
                                    case rel => exact ⟨_, (decide ((rd (rd_L1 l0 x4_3) x5_4) ≥ x4_3)), (by first | rfl | (simp; done) | (simp [*]; done)), H', ⟨by have := HJ1.out; have := HK2.out; have := HK3.out; have := HK4.out; first | omega | exact Nat.le_refl _⟩, by repeat (first | exact Drawn0.refl _ | apply Drawn0.step)⟩
                                · rw [if_neg c14] at H
                                  exact absurd H (by simp)
                              case rest =>
                                clear HC13
                                try clear c1
                                try clear p1
                                try clear q1
                                try clear hx1
                                try clear p2
                                try clear c3
                                try clear c3b0
                                try clear c3b1
                                try clear c4
                                try clear c5
                                try clear c5b0
                                try clear c6
                                try clear c6b0
                                try clear p6
                                try clear c7
                                try clear c7b0
                                try clear c7b1
                                try clear c8
                                try clear c8b0
                                try clear c8b1
                                try clear c9
                                try clear c9b0
                                try clear c10
                                try clear c10b0
                                try clear c11
                                try clear c11b0
                                try clear c12
                                try clear c12b0
                                try clear p12
                                try clear q12
                                try clear hx12
                                try clear c14
                                try clear c14b0
                                try clear c15
                                try clear c15b0
                                try clear hx121_0
                                try clear hx122_0
                                try clear hx123_0
                                try clear hx124_0
                                try clear hx125_0
                                try clear hx126_0
                                try clear hx127_0
                                try clear p1
                                try clear p121
                                try clear p122
                                try clear p123
                                try clear p124
                                try clear p125
                                try clear p126
                                try clear p127
                                try clear p2
                                try clear p6
                                try clear q1
                                try clear q121
                                try clear q122
                                try clear q123
                                try clear q124
                                try clear q125
                                try clear q126
                                try clear q127
                                obtain ⟨kq, x68_12, rfl, HA, HJ12, ⟨mc12, rfl⟩⟩ := hcut
                                cases kq with
                                | zero => exact absurd HA.out (by simp [rivuletref16_Right.j4])
                                | succ kj12 =>
                                  have H := HA.out
                                  clear HA
                                  simp only [rivuletref16_Right.j4] at H
                                  by_cases c16 : x68_12 = true
                                  · subst c16
                                    have H1 : (some 12) = some r := by rw [if_pos rfl] at H; exact H
                                    clear H
                                    have H := H1
                                    clear H1
                                    obtain rfl := Option.some.inj H
                                    go_wp2
                                    repeat (go_quiet (fail); try go_wp2)
                                    go_ret
                                    exact ⟨by first | rfl | (simp; done) | (simp [*]; done), by repeat (first | exact Drawn0.refl _ | apply Drawn0.step)⟩
                                  · replace c16 := Bool.eq_false_iff.mpr c16
                                    subst c16
                                    have H1 : (rivuletref16_Right.l3 kj12 l0 x4_3 x5_4 0) = some r := by rw [if_neg (show ¬ (false = true) by decide)] at H; exact H
                                    clear H
                                    have H := H1
                                    clear H1
                                    have H' := Aside0.mk H
                                    clear H
                                    go_wp2
                                    repeat (go_quiet (fail); try go_wp2)
                                    go_loopg [6] kj12 (fun kq v6 w' => ∃ (x6_6 : Int), v6 = .int .i64 x6_6 ∧ Aside0 (rivuletref16_Right.l3 kq l0 x4_3 x5_4 x6_6 = some r) ∧ Aside0 (kq ≤ kj12) ∧ Drawn0 w w')
                                    case atStart => exact ⟨(0), (by first | rfl | (simp; done) | (simp [*]; done)), H', ⟨Nat.le_refl _⟩, by repeat (first | exact Drawn0.refl _ | apply Drawn0.step)⟩
                                    case round =>
                                      clear H'
                                      try clear c1
                                      try clear p1
                                      try clear q1
                                      try clear hx1
                                      try clear p2
                                      try clear c3
                                      try clear c3b0
                                      try clear c3b1
                                      try clear c4
                                      try clear c5
                                      try clear c5b0
                                      try clear c6
                                      try clear c6b0
                                      try clear p6
                                      try clear c7
                                      try clear c7b0
                                      try clear c7b1
                                      try clear c8
                                      try clear c8b0
                                      try clear c8b1
                                      try clear c9
                                      try clear c9b0
                                      try clear c10
                                      try clear c10b0
                                      try clear c11
                                      try clear c11b0
                                      try clear c12
                                      try clear c12b0
                                      try clear p12
                                      try clear q12
                                      try clear hx12
                                      try clear c14
                                      try clear c14b0
                                      try clear c15
                                      try clear c15b0
                                      try clear c16
                                      try clear hx121_0
                                      try clear hx122_0
                                      try clear hx123_0
                                      try clear hx124_0
                                      try clear hx125_0
                                      try clear hx126_0
                                      try clear hx127_0
                                      try clear p1
                                      try clear p12
                                      try clear p121
                                      try clear p122
                                      try clear p123
                                      try clear p124
                                      try clear p125
                                      try clear p126
                                      try clear p127
                                      try clear p2
                                      try clear p6
                                      try clear q1
                                      try clear q12
                                      try clear q121
                                      try clear q122
                                      try clear q123
                                      try clear q124
                                      try clear q125
                                      try clear q126
                                      try clear q127
                                      obtain ⟨x6_6, rfl, HA, HK6, ⟨m6, rfl⟩⟩ := hrel
                                      cases gk with
                                      | zero => exact absurd HA.out (by simp [rivuletref16_Right.l3])
                                      | succ k6 =>
                                        have H := HA.out
                                        clear HA
                                        simp only [rivuletref16_Right.l3] at H
                                        by_cases c17 : x6_6 < x5_4
                                        · rw [if_pos c17] at H
                                          have c17b0 : decide (x6_6 < x5_4) = true := decide_eq_true c17
                                          clear c17
                                          by_cases c18 : 0 ≤ x4_3
                                          · rw [if_pos c18] at H
                                            have c18b0 : decide (0 ≤ x4_3) = true := decide_eq_true c18
                                            clear c18
                                            by_cases c19 : x4_3 < (l0.length : Int)
                                            · rw [if_pos c19] at H
                                              have c19b0 : decide (x4_3 < (l0.length : Int)) = true := decide_eq_true c19
                                              clear c19
                                              by_cases c20 : 0 ≤ x6_6
                                              · rw [if_pos c20] at H
                                                have c20b0 : decide (0 ≤ x6_6) = true := decide_eq_true c20
                                                clear c20
                                                by_cases c21 : x6_6 < ((rd_L1 l0 x4_3).length : Int)
                                                · rw [if_pos c21] at H
                                                  have c21b0 : decide (x6_6 < ((rd_L1 l0 x4_3).length : Int)) = true := decide_eq_true c21
                                                  clear c21
                                                  by_cases c22 : 0 ≤ x5_4
                                                  · rw [if_pos c22] at H
                                                    have c22b0 : decide (0 ≤ x5_4) = true := decide_eq_true c22
                                                    clear c22
                                                    by_cases c23 : x5_4 < ((rd_L1 l0 x4_3).length : Int)
                                                    · rw [if_pos c23] at H
                                                      have c23b0 : decide (x5_4 < ((rd_L1 l0 x4_3).length : Int)) = true := decide_eq_true c23
                                                      clear c23
                                                      by_cases c24 : (rd (rd_L1 l0 x4_3) x6_6) = (rd (rd_L1 l0 x4_3) x5_4)
                                                      · rw [if_pos c24] at H
                                                        have c24b0 : ((rd (rd_L1 l0 x4_3) x6_6) == (rd (rd_L1 l0 x4_3) x5_4)) = true := beq_iff_eq.mpr c24
                                                        have c24b1 : ((rd (rd_L1 l0 x4_3) x6_6) != (rd (rd_L1 l0 x4_3) x5_4)) = false := bne_eq_false_iff_eq.mpr c24
                                                        clear c24
                                                        obtain rfl := Option.some.inj H
                                                        have p128 : 0 ≤ (x4_3 : Int) := of_decide_eq_true (by first | (with_reducible assumption) | assumption)
                                                        have q128 : x4_3 < (l0.length : Int) := of_decide_eq_true (by first | (with_reducible assumption) | assumption)
                                                        obtain ⟨ad128, A128_0, c128_0, e128, hx128_0, hl128_0, hi128_0⟩ := at_L1 HR0.out x4_3 p128 q128
                                                        obtain rfl : ad123 = ad128 := (by injection e128)
                                                        have HR128_0 := Aside0.mk hi128_0
                                                        have HC128_0 := Aside0.mk hl128_0
                                                        clear hi128_0 hl128_0
                                                        replace p128 := eq_true p128
                                                        replace q128 := eq_true q128
                                                        have p129 : 0 ≤ (x6_6 : Int) := of_decide_eq_true (by first | (with_reducible assumption) | assumption)
                                                        have q129 : x6_6 < ((rd_L1 l0 x4_3).length : Int) := of_decide_eq_true (by first | (with_reducible assumption) | assumption)
                                                        obtain ⟨ad129, e129, hx129_0⟩ := Kd.at_int HR128_0.out x6_6 p129 q129
                                                        cases e129
                                                        replace p129 := eq_true p129
                                                        replace q129 := eq_true q129
                                                        have p130 : 0 ≤ (x4_3 : Int) := of_decide_eq_true (by first | (with_reducible assumption) | assumption)
                                                        have q130 : x4_3 < (l0.length : Int) := of_decide_eq_true (by first | (with_reducible assumption) | assumption)
                                                        obtain ⟨ad130, A130_0, c130_0, e130, hx130_0, hl130_0, hi130_0⟩ := at_L1 HR0.out x4_3 p130 q130
                                                        obtain rfl : ad123 = ad130 := (by injection e130)
                                                        have HR130_0 := Aside0.mk hi130_0
                                                        have HC130_0 := Aside0.mk hl130_0
                                                        clear hi130_0 hl130_0
                                                        replace p130 := eq_true p130
                                                        replace q130 := eq_true q130
                                                        have ea_ := Option.some.inj (hx128_0.symm.trans hx130_0)
                                                        injection ea_ with ea_ en_ ec_
                                                        subst ea_
                                                        subst ec_
                                                        clear en_
                                                        have p131 : 0 ≤ (x5_4 : Int) := of_decide_eq_true (by first | (with_reducible assumption) | assumption)
                                                        have q131 : x5_4 < ((rd_L1 l0 x4_3).length : Int) := of_decide_eq_true (by first | (with_reducible assumption) | assumption)
                                                        obtain ⟨ad131, e131, hx131_0⟩ := Kd.at_int HR130_0.out x5_4 p131 q131
                                                        cases e131
                                                        replace p131 := eq_true p131
                                                        replace q131 := eq_true q131
                                                        go_wp2
                                                        repeat (go_quiet (fail); try go_wp2)
                                                        go_ret
                                                        exact ⟨by first | rfl | (simp; done) | (simp [*]; done), by repeat (first | exact Drawn0.refl _ | apply Drawn0.step)⟩
                                                      · rw [if_neg c24] at H
                                                        have c24b0 : ((rd (rd_L1 l0 x4_3) x6_6) == (rd (rd_L1 l0 x4_3) x5_4)) = false := beq_eq_false_iff_ne.mpr c24
                                                        have c24b1 : ((rd (rd_L1 l0 x4_3) x6_6) != (rd (rd_L1 l0 x4_3) x5_4)) = true := bne_iff_ne.mpr c24
                                                        have H' := Aside0.mk H
                                                        clear H
                                                        have p128 : 0 ≤ (x4_3 : Int) := of_decide_eq_true (by first | (with_reducible assumption) | assumption)
                                                        have q128 : x4_3 < (l0.length : Int) := of_decide_eq_true (by first | (with_reducible assumption) | assumption)
                                                        obtain ⟨ad128, A128_0, c128_0, e128, hx128_0, hl128_0, hi128_0⟩ := at_L1 HR0.out x4_3 p128 q128
                                                        obtain rfl : ad123 = ad128 := (by injection e128)
                                                        have HR128_0 := Aside0.mk hi128_0
                                                        have HC128_0 := Aside0.mk hl128_0
                                                        clear hi128_0 hl128_0
                                                        replace p128 := eq_true p128
                                                        replace q128 := eq_true q128
                                                        have p129 : 0 ≤ (x6_6 : Int) := of_decide_eq_true (by first | (with_reducible assumption) | assumption)
                                                        have q129 : x6_6 < ((rd_L1 l0 x4_3).length : Int) := of_decide_eq_true (by first | (with_reducible assumption) | assumption)
                                                        obtain ⟨ad129, e129, hx129_0⟩ := Kd.at_int HR128_0.out x6_6 p129 q129
                                                        cases e129
                                                        replace p129 := eq_true p129
                                                        replace q129 := eq_true q129
                                                        have p130 : 0 ≤ (x4_3 : Int) := of_decide_eq_true (by first | (with_reducible assumption) | assumption)
                                                        have q130 : x4_3 < (l0.length : Int) := of_decide_eq_true (by first | (with_reducible assumption) | assumption)
                                                        obtain ⟨ad130, A130_0, c130_0, e130, hx130_0, hl130_0, hi130_0⟩ := at_L1 HR0.out x4_3 p130 q130
                                                        obtain rfl : ad123 = ad130 := (by injection e130)
                                                        have HR130_0 := Aside0.mk hi130_0
                                                        have HC130_0 := Aside0.mk hl130_0
                                                        clear hi130_0 hl130_0
                                                        replace p130 := eq_true p130
                                                        replace q130 := eq_true q130
                                                        have ea_ := Option.some.inj (hx128_0.symm.trans hx130_0)
                                                        injection ea_ with ea_ en_ ec_
                                                        subst ea_
                                                        subst ec_
                                                        clear en_
                                                        have p131 : 0 ≤ (x5_4 : Int) := of_decide_eq_true (by first | (with_reducible assumption) | assumption)
                                                        have q131 : x5_4 < ((rd_L1 l0 x4_3).length : Int) := of_decide_eq_true (by first | (with_reducible assumption) | assumption)
                                                        obtain ⟨ad131, e131, hx131_0⟩ := Kd.at_int HR130_0.out x5_4 p131 q131
                                                        cases e131
                                                        replace p131 := eq_true p131
                                                        replace q131 := eq_true q131
                                                        go_wp2
                                                        repeat (go_quiet (fail); try go_wp2)
                                                        go_roundg k6
                                                        case measure => have := HJ1.out; have := HK2.out; have := HK3.out; have := HK4.out; have := HJ12.out; have := HK6.out; omega
                                                        case rel => exact ⟨(wrap64 (x6_6 + 1)), (by first | rfl | (simp; done) | (simp [*]; done)), H', ⟨by have := HJ1.out; have := HK2.out; have := HK3.out; have := HK4.out; have := HJ12.out; have := HK6.out; omega⟩, by repeat (first | exact Drawn0.refl _ | apply Drawn0.step)⟩
                                                    · rw [if_neg c23] at H
                                                      exact absurd H (by simp)
                                                  · rw [if_neg c22] at H
                                                    exact absurd H (by simp)
                                                · rw [if_neg c21] at H
                                                  exact absurd H (by simp)
                                              · rw [if_neg c20] at H
                                                exact absurd H (by simp)
                                            · rw [if_neg c19] at H
                                              exact absurd H (by simp)
                                          · rw [if_neg c18] at H
                                            exact absurd H (by simp)
                                        · rw [if_neg c17] at H
                                          have c17b0 : decide (x6_6 < x5_4) = false := decide_eq_false c17
                                          clear c17
                                          have H' := Aside0.mk H
                                          clear H
                                          go_wp2
                                          repeat (go_quiet (fail); try go_wp2)
                                          go_roundg k6
                                          case measure => have := HJ1.out; have := HK2.out; have := HK3.out; have := HK4.out; have := HJ12.out; have := HK6.out; omega
                                          case rel => exact ⟨(wrap64 (x5_4 + 1)), (by first | rfl | (simp; done) | (simp [*]; done)), H', ⟨by have := HJ1.out; have := HK2.out; have := HK3.out; have := HK4.out; have := HJ12.out; have := HK6.out; omega⟩, by repeat (first | exact Drawn0.refl _ | apply Drawn0.step)⟩
                            · rw [if_neg c12] at H
                              have c12b0 : decide (x5_4 < ((rd_L1 l0 x4_3).length : Int)) = false := decide_eq_false c12
                              clear c12
                              have H' := Aside0.mk H
                              clear H
                              have p123 : 0 ≤ (x4_3 : Int) := of_decide_eq_true (by first | (with_reducible assumption) | assumption)
                              have q123 : x4_3 < (l0.length : Int) := of_decide_eq_true (by first | (with_reducible assumption) | assumption)
                              obtain ⟨ad123, A123_0, c123_0, e123, hx123_0, hl123_0, hi123_0⟩ := at_L1 HR0.out x4_3 p123 q123
                              cases e123
                              have HR123_0 := Aside0.mk hi123_0
                              have HC123_0 := Aside0.mk hl123_0
                              clear hi123_0 hl123_0
                              replace p123 := eq_true p123
                              replace q123 := eq_true q123
                              go_wp2
                              repeat (go_quiet (fail); try go_wp2)
                              go_roundg k4
                              case measure => have := HJ1.out; have := HK2.out; have := HK3.out; have := HK4.out; omega
                              case rel => exact ⟨(wrap64 (x4_3 + 1)), (by first | rfl | (simp; done) | (simp [*]; done)), H', ⟨by have := HJ1.out; have := HK2.out; have := HK3.out; have := HK4.out; omega⟩, by repeat (first | exact Drawn0.refl _ | apply Drawn0.step)⟩
                          · rw [if_neg c11] at H
                            exact absurd H (by simp)
                        · rw [if_neg c10] at H
                          exact absurd H (by simp)
                  · rw [if_neg c9] at H
                    have c9b0 : decide (x4_3 < (l0.length : Int)) = false := decide_eq_false c9
                    clear c9
                    obtain rfl := Option.some.inj H
                    go_wp2
                    repeat (go_quiet (fail); try go_wp2)
                    go_ret
                    exact ⟨by first | rfl | (simp; done) | (simp [*]; done), by repeat (first | exact Drawn0.refl _ | apply Drawn0.step)⟩

end Go.Proofs.Ytagnpmmcoaemeaa.R16
