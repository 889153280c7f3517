-- By a program (fakeprint.py: the kit's print over a copy), then proved by Lean.
import Derived.Test.YtagnpmmcoaemeaaR16x0
import Derived.Test.YtagnpmmcoaemeaaR16x6
namespace Go.Proofs.Ytagnpmmcoaemeaa.R16
open Go.RowKit Go.Proofs.YtagnpmmcoaemeaaW.PrintWords Go.Proofs.YtagnpmmcoaemeaaW.PrintLast Go.Proofs.YtagnpmmcoaemeaaW.PrintMore
attribute [local go_sem] max2_int min2_int max_two min_two max_three min_three max_four min_four   -- for this text's walks alone
set_option linter.unusedVariables false
set_option linter.unusedSimpArgs false

/-! ### rivuletref16_Choose: function 17 -/
mutual
def rivuletref16_Choose.j0 : Nat → List (List Int) → Int → Int → List Int → Bool → Option (Int × Bool)
  | 0, _, _, _, _, _ => none
  | k + 1, x0, x1, x2, x3, x22 => if x22 = true then (some (0, false)) else (if 0 ≤ x1 then (if x1 < (x0.length : Int) then (rivuletref16_Choose.l0 k x2 x3 (rd_L1 x0 x1) 0 0) else (none)) else (none))
def rivuletref16_Choose.l0 : Nat → Int → List Int → List Int → Int → Int → Option (Int × Bool)
  | 0, _, _, _, _, _ => none
  | k + 1, x2, x3, x10, x11, x12 => if x12 < (x10.length : Int) then (if 0 ≤ x12 then (if (rd x10 x12) = x2 then (rivuletref16_Choose.l0 k x2 x3 x10 (wrap64 (x12 + 1)) (wrap64 (x12 + 1))) else (rivuletref16_Choose.l0 k x2 x3 x10 x11 (wrap64 (x12 + 1)))) else (none)) else (rivuletref16_Choose.l1 k x3 x10 x11 0)
def rivuletref16_Choose.l1 : Nat → List Int → List Int → Int → Int → Option (Int × Bool)
  | 0, _, _, _, _ => none
  | k + 1, x3, x10, x11, x13 => if x13 < (x10.length : Int) then (if (x10.length : Int) = 0 then (none) else (if 0 ≤ (Int.tmod (wrap64 (x11 + x13)) (x10.length : Int)) then (if (Int.tmod (wrap64 (x11 + x13)) (x10.length : Int)) < (x10.length : Int) then ((rivuletref16_has.f k x3 (rd x10 (Int.tmod (wrap64 (x11 + x13)) (x10.length : Int)))).bind fun t167 => (if t167 = true then (rivuletref16_Choose.l1 k x3 x10 x11 (wrap64 (x13 + 1))) else (some (rd x10 (Int.tmod (wrap64 (x11 + x13)) (x10.length : Int)), true)))) else (none)) else (none))) else (some (0, false))
end
def rivuletref16_Choose.f (k : Nat) (l0 : List (List Int)) (a1 : Int) (a2 : Int) (l3 : List Int) : Option (Int × Bool) := if a1 < 0 then (rivuletref16_Choose.j0 k l0 a1 a2 l3 true) else (rivuletref16_Choose.j0 k l0 a1 a2 l3 (decide (a1 ≥ (l0.length : Int))))
theorem rivuletref16_Choose.mono_l : ∀ k, (∀ y0 y1 y2 y3 y4, LeO (rivuletref16_Choose.j0 k y0 y1 y2 y3 y4) (rivuletref16_Choose.j0 (k + 1) y0 y1 y2 y3 y4)) ∧ (∀ y0 y1 y2 y3 y4, LeO (rivuletref16_Choose.l0 k y0 y1 y2 y3 y4) (rivuletref16_Choose.l0 (k + 1) y0 y1 y2 y3 y4)) ∧ (∀ y0 y1 y2 y3, LeO (rivuletref16_Choose.l1 k y0 y1 y2 y3) (rivuletref16_Choose.l1 (k + 1) y0 y1 y2 y3))
  | 0 => ⟨fun _ _ _ _ _ r h => by simp [rivuletref16_Choose.j0] at h, fun _ _ _ _ _ r h => by simp [rivuletref16_Choose.l0] at h, fun _ _ _ _ r h => by simp [rivuletref16_Choose.l1] at h⟩
  | k + 1 => by
    obtain ⟨ih0, ih1, ih2⟩ := rivuletref16_Choose.mono_l k
    refine ⟨?_, ?_, ?_⟩
    · intro y0 y1 y2 y3 y4
      unfold rivuletref16_Choose.j0
      repeat' first
      | (with_reducible exact ih0 _ _ _ _ _)
      | (with_reducible exact ih1 _ _ _ _ _)
      | (with_reducible exact ih2 _ _ _ _)
      | (with_reducible exact rivuletref16_has.mono _ _ _)
      | (with_reducible exact LeO.refl _)
      | (with_reducible exact LeO.none _)
      | (with_reducible refine LeO.ite ?_ ?_)
      | (with_reducible refine LeO.bind ?_ (fun _ => ?_))
      | exact ih0 _ _ _ _ _
      | exact ih1 _ _ _ _ _
      | exact ih2 _ _ _ _
      | exact rivuletref16_has.mono _ _ _
      | exact LeO.none _
      | refine LeO.ite ?_ ?_
      | refine LeO.bind ?_ (fun _ => ?_)
    · intro y0 y1 y2 y3 y4
      unfold rivuletref16_Choose.l0
      repeat' first
      | (with_reducible exact ih0 _ _ _ _ _)
      | (with_reducible exact ih1 _ _ _ _ _)
      | (with_reducible exact ih2 _ _ _ _)
      | (with_reducible exact rivuletref16_has.mono _ _ _)
      | (with_reducible exact LeO.refl _)
      | (with_reducible exact LeO.none _)
      | (with_reducible refine LeO.ite ?_ ?_)
      | (with_reducible refine LeO.bind ?_ (fun _ => ?_))
      | exact ih0 _ _ _ _ _
      | exact ih1 _ _ _ _ _
      | exact ih2 _ _ _ _
      | exact rivuletref16_has.mono _ _ _
      | exact LeO.none _
      | refine LeO.ite ?_ ?_
      | refine LeO.bind ?_ (fun _ => ?_)
    · intro y0 y1 y2 y3
      unfold rivuletref16_Choose.l1
      repeat' first
      | (with_reducible exact ih0 _ _ _ _ _)
      | (with_reducible exact ih1 _ _ _ _ _)
      | (with_reducible exact ih2 _ _ _ _)
      | (with_reducible exact rivuletref16_has.mono _ _ _)
      | (with_reducible exact LeO.refl _)
      | (with_reducible exact LeO.none _)
      | (with_reducible refine LeO.ite ?_ ?_)
      | (with_reducible refine LeO.bind ?_ (fun _ => ?_))
      | exact ih0 _ _ _ _ _
      | exact ih1 _ _ _ _ _
      | exact ih2 _ _ _ _
      | exact rivuletref16_has.mono _ _ _
      | exact LeO.none _
      | refine LeO.ite ?_ ?_
      | refine LeO.bind ?_ (fun _ => ?_)
theorem rivuletref16_Choose.mono : ∀ a0 a1 a2 a3 k, LeO (rivuletref16_Choose.f k a0 a1 a2 a3) (rivuletref16_Choose.f (k + 1) a0 a1 a2 a3) := by
  intro a0 a1 a2 a3 k
  obtain ⟨ih0, ih1, ih2⟩ := rivuletref16_Choose.mono_l k
  unfold rivuletref16_Choose.f
  repeat' first
      | (with_reducible exact ih0 _ _ _ _ _)
      | (with_reducible exact ih1 _ _ _ _ _)
      | (with_reducible exact ih2 _ _ _ _)
      | (with_reducible exact rivuletref16_has.mono _ _ _)
      | (with_reducible exact LeO.refl _)
      | (with_reducible exact LeO.none _)
      | (with_reducible refine LeO.ite ?_ ?_)
      | (with_reducible refine LeO.bind ?_ (fun _ => ?_))
      | exact ih0 _ _ _ _ _
      | exact ih1 _ _ _ _ _
      | exact ih2 _ _ _ _
      | exact rivuletref16_has.mono _ _ _
      | exact LeO.none _
      | refine LeO.ite ?_ ?_
      | refine LeO.bind ?_ (fun _ => ?_)
set_option maxHeartbeats 8000000 in
set_option maxRecDepth 100000 in
theorem rivuletref16_Choose.calls (k : Nat) (A0 : Option Addr) (c0 : Nat) (l0 : List (List Int)) (a1 : Int) (a2 : Int) (A3 : Option Addr) (c3 : Nat) (l3 : List Int) (r1 : Int) (r2 : Bool) (w : World) (hr0 : Kd.C (Kd.slice 3 (Kd.int .i64)) w A0 l0.length l0) (hc0 : l0.length ≤ c0) (hr3 : Kd.C (Kd.int .i64) w A3 l3.length l3) (hc3 : l3.length ≤ c3) (h : rivuletref16_Choose.f k l0 a1 a2 l3 = some (r1, r2)) :
    Calls Try.prog 17 #[.slice A0 l0.length c0, .int .i64 a1, .int .i64 a2, .slice A3 l3.length c3] w fun e w' => e = .returned (.tuple #[.int .i64 r1, .bool r2]) ∧ Drawn0 w w' := by
  have HR0 := Aside0.mk hr0
  have HC0 := Aside0.mk hc0
  clear hr0 hc0
  have HR3 := Aside0.mk hr3
  have HC3 := Aside0.mk hc3
  clear hr3 hc3
  have H : (if a1 < 0 then (rivuletref16_Choose.j0 k l0 a1 a2 l3 true) else (rivuletref16_Choose.j0 k l0 a1 a2 l3 (decide (a1 ≥ (l0.length : Int))))) = some (r1, r2) := h
  clear h
  have HC5 := Aside0.mk H
  clear H
  go_enter Try.func17, Try.ntmps17
  go_upto_region 1 with (fail)
  go_cut [22] (fun v22 wc => ∃ (kq : Nat) (x22_4 : Bool), v22 = .bool x22_4 ∧ Aside0 (rivuletref16_Choose.j0 kq l0 a1 a2 l3 x22_4 = some (r1, r2)) ∧ Aside0 (kq ≤ k) ∧ Drawn0 w wc)
  case first =>
    have H := HC5.out
    clear HC5
    by_cases c6 : a1 < 0
    · rw [if_pos c6] at H
      have c6b0 : decide (a1 < 0) = true := decide_eq_true c6
      clear c6
      (first | rw [c6b0] | (simp only [i64_w, i32_w]; rw [c6b0]) | skip)
      have H' := Aside0.mk H
      clear H
      go_wp2
      go_meet
      case rel => exact ⟨_, (true), (by first | rfl | (simp; done) | (simp [*]; done)), H', ⟨by first | omega | exact Nat.le_refl _⟩, by repeat (first | exact Drawn0.refl _ | apply Drawn0.step)⟩
    · rw [if_neg c6] at H
      have c6b0 : decide (a1 < 0) = false := decide_eq_false c6
      clear c6
      (first | rw [c6b0] | (simp only [i64_w, i32_w]; rw [c6b0]) | skip)
      have H' := Aside0.mk H
      clear H
      go_wp2
      go_meet
      case rel => exact ⟨_, (decide (a1 ≥ (l0.length : Int))), (by first | rfl | (simp; done) | (simp [*]; done)), H', ⟨by first | omega | exact Nat.le_refl _⟩, by repeat (first | exact Drawn0.refl _ | apply Drawn0.step)⟩
  case rest =>
    clear HC5
    try clear c1
    try clear p2
    try clear c3
    try clear c6
    try clear c6b0
    obtain ⟨kq, x22_4, rfl, HA, HJ4, ⟨mc4, rfl⟩⟩ := hcut
    cases kq with
    | zero => exact absurd HA.out (by simp [rivuletref16_Choose.j0])
    | succ kj4 =>
      have H := HA.out
      clear HA
      simp only [rivuletref16_Choose.j0] at H
      by_cases c7 : x22_4 = true
      · subst c7
        have H1 : (some (0, false)) = some (r1, r2) := by rw [if_pos rfl] at H; exact H
        clear H
        have H := H1
        clear H1
        simp only [Option.some.injEq, Prod.mk.injEq] at H
        obtain ⟨rfl, rfl⟩ := H
        go_wp2
        go_ret2
        exact ⟨by first | rfl | (simp; done) | (simp [*]; done), by repeat (first | exact Drawn0.refl _ | apply Drawn0.step)⟩
      · replace c7 := Bool.eq_false_iff.mpr c7
        subst c7
        have H1 : (if 0 ≤ a1 then (if a1 < (l0.length : Int) then (rivuletref16_Choose.l0 kj4 a2 l3 (rd_L1 l0 a1) 0 0) else (none)) else (none)) = some (r1, r2) := by rw [if_neg (show ¬ (false = true) by decide)] at H; exact H
        clear H
        have H := H1
        clear H1
        by_cases c8 : 0 ≤ a1
        · rw [if_pos c8] at H
          have c8b0 : decide (0 ≤ a1) = true := decide_eq_true c8
          clear c8
          by_cases c9 : a1 < (l0.length : Int)
          · rw [if_pos c9] at H
            have c9b0 : decide (a1 < (l0.length : Int)) = true := decide_eq_true c9
            clear c9
            have H' := Aside0.mk H
            clear H
            have p164 : 0 ≤ (a1 : Int) := of_decide_eq_true (by first | (with_reducible assumption) | assumption)
            have q164 : a1 < (l0.length : Int) := of_decide_eq_true (by first | (with_reducible assumption) | assumption)
            obtain ⟨ad164, A164_0, c164_0, e164, hx164_0, hl164_0, hi164_0⟩ := at_L1 HR0.out a1 p164 q164
            cases e164
            have HR164_0 := Aside0.mk hi164_0
            have HC164_0 := Aside0.mk hl164_0
            clear hi164_0 hl164_0
            replace p164 := eq_true p164
            replace q164 := eq_true q164
            go_wp2
            go_loopg [11, 12] kj4 (fun kq v11 v12 w' => ∃ (x11_2 : Int) (x12_2 : Int), v11 = .int .i64 x11_2 ∧ v12 = .int .i64 x12_2 ∧ Aside0 (rivuletref16_Choose.l0 kq a2 l3 (rd_L1 l0 a1) x11_2 x12_2 = some (r1, r2)) ∧ Aside0 (kq ≤ kj4) ∧ Drawn0 w w')
            case atStart => exact ⟨(0), (0), (by first | rfl | (simp; done) | (simp [*]; done)), (by first | rfl | (simp; done) | (simp [*]; done)), H', ⟨Nat.le_refl _⟩, by repeat (first | exact Drawn0.refl _ | apply Drawn0.step)⟩
            case round =>
              clear H'
              try clear c1
              try clear p1
              try clear q1
              try clear hx1
              try clear p2
              try clear c3
              try clear c4
              try clear c6
              try clear c6b0
              try clear c7
              try clear c8
              try clear c8b0
              try clear c9
              try clear c9b0
              try clear hx164_0
              try clear p164
              try clear p2
              try clear q164
              obtain ⟨x11_2, x12_2, rfl, rfl, HA, HK2, ⟨m2, rfl⟩⟩ := hrel
              cases gk with
              | zero => exact absurd HA.out (by simp [rivuletref16_Choose.l0])
              | succ k2 =>
                have H := HA.out
                clear HA
                simp only [rivuletref16_Choose.l0] at H
                by_cases c10 : x12_2 < ((rd_L1 l0 a1).length : Int)
                · rw [if_pos c10] at H
                  have c10b0 : decide (x12_2 < ((rd_L1 l0 a1).length : Int)) = true := decide_eq_true c10
                  clear c10
                  by_cases c11 : 0 ≤ x12_2
                  · rw [if_pos c11] at H
                    have c11b0 : decide (0 ≤ x12_2) = true := decide_eq_true c11
                    clear c11
                    by_cases c12 : (rd (rd_L1 l0 a1) x12_2) = a2
                    · rw [if_pos c12] at H
                      have c12b0 : ((rd (rd_L1 l0 a1) x12_2) == a2) = true := beq_iff_eq.mpr c12
                      have c12b1 : ((rd (rd_L1 l0 a1) x12_2) != a2) = false := bne_eq_false_iff_eq.mpr c12
                      clear c12
                      have H' := Aside0.mk H
                      clear H
                      have p165 : 0 ≤ (x12_2 : Int) := of_decide_eq_true (by first | (with_reducible assumption) | assumption)
                      have q165 : x12_2 < ((rd_L1 l0 a1).length : Int) := of_decide_eq_true (by first | (with_reducible assumption) | assumption)
                      obtain ⟨ad165, e165, hx165_0⟩ := Kd.at_int HR164_0.out x12_2 p165 q165
                      cases e165
                      replace p165 := eq_true p165
                      replace q165 := eq_true q165
                      go_wp2
                      go_roundg k2
                      case measure => have := HJ4.out; have := HK2.out; omega
                      case rel => exact ⟨(wrap64 (x12_2 + 1)), (wrap64 (x12_2 + 1)), (by first | rfl | (simp; done) | (simp [*]; done)), (by first | rfl | (simp; done) | (simp [*]; done)), H', ⟨by have := HJ4.out; have := HK2.out; omega⟩, by repeat (first | exact Drawn0.refl _ | apply Drawn0.step)⟩
                    · rw [if_neg c12] at H
                      have c12b0 : ((rd (rd_L1 l0 a1) x12_2) == a2) = false := beq_eq_false_iff_ne.mpr c12
                      have c12b1 : ((rd (rd_L1 l0 a1) x12_2) != a2) = true := bne_iff_ne.mpr c12
                      have H' := Aside0.mk H
                      clear H
                      have p165 : 0 ≤ (x12_2 : Int) := of_decide_eq_true (by first | (with_reducible assumption) | assumption)
                      have q165 : x12_2 < ((rd_L1 l0 a1).length : Int) := of_decide_eq_true (by first | (with_reducible assumption) | assumption)
                      obtain ⟨ad165, e165, hx165_0⟩ := Kd.at_int HR164_0.out x12_2 p165 q165
                      cases e165
                      replace p165 := eq_true p165
                      replace q165 := eq_true q165
                      go_wp2
                      go_roundg k2
                      case measure => have := HJ4.out; have := HK2.out; omega
                      case rel => exact ⟨(x11_2), (wrap64 (x12_2 + 1)), (by first | rfl | (simp; done) | (simp [*]; done)), (by first | rfl | (simp; done) | (simp [*]; done)), H', ⟨by have := HJ4.out; have := HK2.out; omega⟩, by repeat (first | exact Drawn0.refl _ | apply Drawn0.step)⟩
                  · rw [if_neg c11] at H
                    exact absurd H (by simp)
                · rw [if_neg c10] at H
                  have c10b0 : decide (x12_2 < ((rd_L1 l0 a1).length : Int)) = false := decide_eq_false c10
                  clear c10
                  have H' := Aside0.mk H
                  clear H
                  go_wp2
                  go_loopg [13] k2 (fun kq v13 w' => ∃ (x13_3 : Int), v13 = .int .i64 x13_3 ∧ Aside0 (rivuletref16_Choose.l1 kq l3 (rd_L1 l0 a1) x11_2 x13_3 = some (r1, r2)) ∧ Aside0 (kq ≤ k2) ∧ Drawn0 w w')
                  case atStart => exact ⟨(0), (by first | rfl | (simp; done) | (simp [*]; done)), H', ⟨Nat.le_refl _⟩, by repeat (first | exact Drawn0.refl _ | apply Drawn0.step)⟩
                  case round =>
                    clear H'
                    try clear c1
                    try clear p1
                    try clear q1
                    try clear hx1
                    try clear p2
                    try clear c3
                    try clear c4
                    try clear c6
                    try clear c6b0
                    try clear p6
                    try clear c7
                    try clear c8
                    try clear c8b0
                    try clear c9
                    try clear c9b0
                    try clear c10
                    try clear c10b0
                    try clear c11
                    try clear c11b0
                    try clear c12
                    try clear c12b0
                    try clear c12b1
                    try clear hx164_0
                    try clear hx165_0
                    try clear p1
                    try clear p164
                    try clear p165
                    try clear p2
                    try clear q1
                    try clear q164
                    try clear q165
                    obtain ⟨x13_3, rfl, HA, HK3, ⟨m3, rfl⟩⟩ := hrel
                    cases gk with
                    | zero => exact absurd HA.out (by simp [rivuletref16_Choose.l1])
                    | succ k3 =>
                      have H := HA.out
                      clear HA
                      simp only [rivuletref16_Choose.l1] at H
                      by_cases c13 : x13_3 < ((rd_L1 l0 a1).length : Int)
                      · rw [if_pos c13] at H
                        have c13b0 : decide (x13_3 < ((rd_L1 l0 a1).length : Int)) = true := decide_eq_true c13
                        clear c13
                        by_cases c14 : ((rd_L1 l0 a1).length : Int) = 0
                        · rw [if_pos c14] at H
                          exact absurd H (by simp)
                        · rw [if_neg c14] at H
                          have c14b0 : (((rd_L1 l0 a1).length : Int) == 0) = false := beq_eq_false_iff_ne.mpr c14
                          have c14b1 : (((rd_L1 l0 a1).length : Int) != 0) = true := bne_iff_ne.mpr c14
                          have c14b2 : ¬ ((rd_L1 l0 a1) = []) := fun h_ => c14 (by rw [h_]; rfl)
                          obtain ⟨ji15, hji15⟩ : ∃ j_ : Int, (Int.tmod (wrap64 (x11_2 + x13_3)) ((rd_L1 l0 a1).length : Int)) = j_ := ⟨_, rfl⟩
                          replace H : (if 0 ≤ (ji15) then (if (ji15) < ((rd_L1 l0 a1).length : Int) then ((rivuletref16_has.f k3 l3 (rd (rd_L1 l0 a1) (ji15))).bind fun t167 => (if t167 = true then (rivuletref16_Choose.l1 k3 l3 (rd_L1 l0 a1) x11_2 (wrap64 (x13_3 + 1))) else (some (rd (rd_L1 l0 a1) (ji15), true)))) else (none)) else (none)) = some (r1, r2) := by first | (rw [hji15] at H; exact H) | (simp only [hji15] at H ⊢; exact H)
                          by_cases c16 : 0 ≤ (ji15)
                          · rw [if_pos c16] at H
                            have c16b0 : decide (0 ≤ (ji15)) = true := decide_eq_true c16
                            clear c16
                            by_cases c17 : (ji15) < ((rd_L1 l0 a1).length : Int)
                            · rw [if_pos c17] at H
                              have c17b0 : decide ((ji15) < ((rd_L1 l0 a1).length : Int)) = true := decide_eq_true c17
                              clear c17
                              replace H := Option.bind_eq_some_iff.mp H
                              obtain ⟨t167, A180, H⟩ := H
                              replace H : (if t167 = true then (rivuletref16_Choose.l1 k3 l3 (rd_L1 l0 a1) x11_2 (wrap64 (x13_3 + 1))) else (some (rd (rd_L1 l0 a1) (ji15), true))) = some (r1, r2) := H
                              have A18 := Aside0.mk A180
                              clear A180
                              by_cases c19 : t167 = true
                              · subst c19
                                have H1 : (rivuletref16_Choose.l1 k3 l3 (rd_L1 l0 a1) x11_2 (wrap64 (x13_3 + 1))) = some (r1, r2) := by rw [if_pos rfl] at H; exact H
                                clear H
                                have H := H1
                                clear H1
                                have H' := Aside0.mk H
                                clear H
                                have p166 : 0 ≤ ((ji15) : Int) := of_decide_eq_true (by first | (with_reducible assumption) | assumption)
                                have q166 : (ji15) < ((rd_L1 l0 a1).length : Int) := of_decide_eq_true (by first | (with_reducible assumption) | assumption)
                                obtain ⟨ad166, e166, hx166_0⟩ := Kd.at_int HR164_0.out (ji15) p166 q166
                                cases e166
                                replace p166 := eq_true p166
                                replace q166 := eq_true q166
                                go_wp2_with (first | ((with_reducible refine gate_callee (f := 31) rfl ?_); refine goesL_ (some 58) rfl rfl Try.func31 (by kernel_rfl) rfl #[.slice A3 l3.length c3, .int .i64 (rd (rd_L1 l0 a1) (ji15))] rfl (by (try simp only [List.map_toArray, List.map_cons, List.map_nil]); first | done | (simp only [hji15]; rfl) | rfl | (simp only [List.length_drop, List.length_take]; rfl)) ?_; (with_reducible refine (rivuletref16_has.calls k3 _ _ l3 (rd (rd_L1 l0 a1) (ji15)) true _ ?side1 ?side2 A18.out).mono ?_); (case side1 => repeat (first | exact HR3.out | (with_reducible refine Kd.C_alloc ?_ _) | (with_reducible refine Kd.C_drewN ?_ _) | (with_reducible refine Kd.C_drew ?_))); (case side2 => exact HC3.out); rintro e w' ⟨rfl, ⟨nd, rfl⟩⟩; refine ⟨_, rfl, ?_⟩))
                                go_roundg k3
                                case measure => have := HJ4.out; have := HK2.out; have := HK3.out; omega
                                case rel => exact ⟨(wrap64 (x13_3 + 1)), (by first | rfl | (simp; done) | (simp [*]; done)), H', ⟨by have := HJ4.out; have := HK2.out; have := HK3.out; omega⟩, by repeat (first | exact Drawn0.refl _ | apply Drawn0.step)⟩
                              · replace c19 := Bool.eq_false_iff.mpr c19
                                subst c19
                                have H1 : (some (rd (rd_L1 l0 a1) (ji15), true)) = some (r1, r2) := by rw [if_neg (show ¬ (false = true) by decide)] at H; exact H
                                clear H
                                have H := H1
                                clear H1
                                simp only [Option.some.injEq, Prod.mk.injEq] at H
                                obtain ⟨rfl, rfl⟩ := H
                                have p166 : 0 ≤ ((ji15) : Int) := of_decide_eq_true (by first | (with_reducible assumption) | assumption)
                                have q166 : (ji15) < ((rd_L1 l0 a1).length : Int) := of_decide_eq_true (by first | (with_reducible assumption) | assumption)
                                obtain ⟨ad166, e166, hx166_0⟩ := Kd.at_int HR164_0.out (ji15) p166 q166
                                cases e166
                                replace p166 := eq_true p166
                                replace q166 := eq_true q166
                                go_wp2_with (first | ((with_reducible refine gate_callee (f := 31) rfl ?_); refine goesL_ (some 58) rfl rfl Try.func31 (by kernel_rfl) rfl #[.slice A3 l3.length c3, .int .i64 (rd (rd_L1 l0 a1) (ji15))] rfl (by (try simp only [List.map_toArray, List.map_cons, List.map_nil]); first | done | (simp only [hji15]; rfl) | rfl | (simp only [List.length_drop, List.length_take]; rfl)) ?_; (with_reducible refine (rivuletref16_has.calls k3 _ _ l3 (rd (rd_L1 l0 a1) (ji15)) false _ ?side1 ?side2 A18.out).mono ?_); (case side1 => repeat (first | exact HR3.out | (with_reducible refine Kd.C_alloc ?_ _) | (with_reducible refine Kd.C_drewN ?_ _) | (with_reducible refine Kd.C_drew ?_))); (case side2 => exact HC3.out); rintro e w' ⟨rfl, ⟨nd, rfl⟩⟩; refine ⟨_, rfl, ?_⟩))
                                go_ret2
                                exact ⟨by first | rfl | (simp; done) | (simp only [← hji15] <;> (first | rfl | simp)) | (simp [*]; done), by repeat (first | exact Drawn0.refl _ | apply Drawn0.step)⟩
                            · rw [if_neg c17] at H
                              exact absurd H (by simp)
                          · rw [if_neg c16] at H
                            exact absurd H (by simp)
                      · rw [if_neg c13] at H
                        have c13b0 : decide (x13_3 < ((rd_L1 l0 a1).length : Int)) = false := decide_eq_false c13
                        clear c13
                        simp only [Option.some.injEq, Prod.mk.injEq] at H
                        obtain ⟨rfl, rfl⟩ := H
                        go_wp2
                        go_ret2
                        exact ⟨by first | rfl | (simp; done) | (simp [*]; done), by repeat (first | exact Drawn0.refl _ | apply Drawn0.step)⟩
          · rw [if_neg c9] at H
            exact absurd H (by simp)
        · rw [if_neg c8] at H
          exact absurd H (by simp)

-- NOT PRINTED: function 3 (rivuletlaw16_RankPlans)

end Go.Proofs.Ytagnpmmcoaemeaa.R16
