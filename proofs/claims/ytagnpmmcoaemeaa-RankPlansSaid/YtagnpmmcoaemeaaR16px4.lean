-- By a program (fakeprint4.py, mkplans.py: the kit's print over a copy in which the array is two numbers), then proved by Lean.
import Derived.Test.YtagnpmmcoaemeaaR16x7
import Derived.Test.YtagnpmmcoaemeaaR16x10
import Derived.Test.YtagnpmmcoaemeaaR16px1
import Derived.Test.YtagnpmmcoaemeaaR16px2
import Derived.Test.YtagnpmmcoaemeaaR16px3
namespace Go.Proofs.Ytagnpmmcoaemeaa.R16
open Go.RowKit Go.Proofs.YtagnpmmcoaemeaaW.PrintWords Go.Proofs.YtagnpmmcoaemeaaW.PrintLast Go.Proofs.YtagnpmmcoaemeaaW.PrintMore
attribute [local go_sem] max2_int min2_int max_two min_two max_three min_three max_four min_four   -- for this text's walks alone
set_option linter.unusedVariables false
set_option linter.unusedSimpArgs false

/-! ### rivuletlaw16_RankPlans: function 3 -/
def rivuletlaw16_RankPlans.j0 : Nat → Int → List Int → Int → List (List Int) → Bool → Option (Bool)
  | 0, _, _, _, _, _ => none
  | k + 1, x1, x2, x3, x7, x31 => if x31 = true then (some false) else ((rivuletref16_Right.f k x7).bind fun t181 => (if t181 = 0 then ((rank_Choose.f k x7 x1 x3 x2).bind fun bt182 => ((rivuletref16_Choose.f k x7 x1 x3 x2).bind fun bt184 => (if bt182.1 = bt184.1 then (if (bt182.2 == bt184.2) = true then ((rivuletlaw16_fixed.f).bind fun t186 => (some t186)) else (some false)) else (some false)))) else ((rivuletlaw16_fixed.f).bind fun t187 => (some t187))))
def rivuletlaw16_RankPlans.f (k : Nat) (l0 : List (List Int)) (a1 : Int) (l2 : List Int) (a3 : Int) : Option (Bool) := (rivuletlaw16_cut.f k l0).bind fun t168 => (if 0 ≤ (mn (l2.length : Int) 10) then (if (mn (l2.length : Int) 10) ≤ (l2.length : Int) then ((rank_Right.f k t168).bind fun t172 => ((rivuletref16_Right.f k t168).bind fun t173 => (if t172 = t173 then ((rank_First.f k t168).bind fun t174 => ((rivuletref16_First.f k t168).bind fun t177 => ((rivuletref04_Ints.f k t174 t177).bind fun t180 => (rivuletlaw16_RankPlans.j0 k a1 (l2.take ((mn (l2.length : Int) 10) : Int).toNat) a3 t168 (!t180))))) else (rivuletlaw16_RankPlans.j0 k a1 (l2.take ((mn (l2.length : Int) 10) : Int).toNat) a3 t168 true)))) else (none)) else (none))
theorem rivuletlaw16_RankPlans.mono_l : ∀ k, (∀ y0 y1 y2 y3 y4, LeO (rivuletlaw16_RankPlans.j0 k y0 y1 y2 y3 y4) (rivuletlaw16_RankPlans.j0 (k + 1) y0 y1 y2 y3 y4))
  | 0 => fun _ _ _ _ _ r h => by simp [rivuletlaw16_RankPlans.j0] at h
  | k + 1 => by
    have ih0 := rivuletlaw16_RankPlans.mono_l k
    · intro y0 y1 y2 y3 y4
      unfold rivuletlaw16_RankPlans.j0
      repeat' first
      | (with_reducible exact ih0 _ _ _ _ _)
      | (with_reducible exact rank_Choose.mono _ _ _ _ _)
      | (with_reducible exact rank_First.mono _ _)
      | (with_reducible exact rank_Right.mono _ _)
      | (with_reducible exact rivuletlaw16_cut.mono _ _)
      | (with_reducible exact rivuletref04_Ints.mono _ _ _)
      | (with_reducible exact rivuletref16_Choose.mono _ _ _ _ _)
      | (with_reducible exact rivuletref16_First.mono _ _)
      | (with_reducible exact rivuletref16_Right.mono _ _)
      | (with_reducible exact LeO.refl _)
      | (with_reducible exact LeO.none _)
      | (with_reducible refine LeO.ite ?_ ?_)
      | (with_reducible refine LeO.bind ?_ (fun _ => ?_))
      | exact ih0 _ _ _ _ _
      | exact rank_Choose.mono _ _ _ _ _
      | exact rank_First.mono _ _
      | exact rank_Right.mono _ _
      | exact rivuletlaw16_cut.mono _ _
      | exact rivuletref04_Ints.mono _ _ _
      | exact rivuletref16_Choose.mono _ _ _ _ _
      | exact rivuletref16_First.mono _ _
      | exact rivuletref16_Right.mono _ _
      | exact LeO.none _
      | refine LeO.ite ?_ ?_
      | refine LeO.bind ?_ (fun _ => ?_)
theorem rivuletlaw16_RankPlans.mono : ∀ a0 a1 a2 a3 k, LeO (rivuletlaw16_RankPlans.f k a0 a1 a2 a3) (rivuletlaw16_RankPlans.f (k + 1) a0 a1 a2 a3) := by
  intro a0 a1 a2 a3 k
  have ih0 := rivuletlaw16_RankPlans.mono_l k
  unfold rivuletlaw16_RankPlans.f
  repeat' first
      | (with_reducible exact ih0 _ _ _ _ _)
      | (with_reducible exact rank_Choose.mono _ _ _ _ _)
      | (with_reducible exact rank_First.mono _ _)
      | (with_reducible exact rank_Right.mono _ _)
      | (with_reducible exact rivuletlaw16_cut.mono _ _)
      | (with_reducible exact rivuletref04_Ints.mono _ _ _)
      | (with_reducible exact rivuletref16_Choose.mono _ _ _ _ _)
      | (with_reducible exact rivuletref16_First.mono _ _)
      | (with_reducible exact rivuletref16_Right.mono _ _)
      | (with_reducible exact LeO.refl _)
      | (with_reducible exact LeO.none _)
      | (with_reducible refine LeO.ite ?_ ?_)
      | (with_reducible refine LeO.bind ?_ (fun _ => ?_))
      | exact ih0 _ _ _ _ _
      | exact rank_Choose.mono _ _ _ _ _
      | exact rank_First.mono _ _
      | exact rank_Right.mono _ _
      | exact rivuletlaw16_cut.mono _ _
      | exact rivuletref04_Ints.mono _ _ _
      | exact rivuletref16_Choose.mono _ _ _ _ _
      | exact rivuletref16_First.mono _ _
      | exact rivuletref16_Right.mono _ _
      | exact LeO.none _
      | refine LeO.ite ?_ ?_
      | refine LeO.bind ?_ (fun _ => ?_)
set_option maxHeartbeats 8000000 in
set_option maxRecDepth 100000 in
theorem rivuletlaw16_RankPlans.calls (k : Nat) (A0 : Option Addr) (c0 : Nat) (l0 : List (List Int)) (a1 : Int) (A2 : Option Addr) (c2 : Nat) (l2 : List Int) (a3 : Int) (r : Bool) (w : World) (hr0 : Kd.C (Kd.slice 3 (Kd.int .i64)) w A0 l0.length l0) (hc0 : l0.length ≤ c0) (hr2 : Kd.C (Kd.int .i64) w A2 l2.length l2) (hc2 : l2.length ≤ c2) (h : rivuletlaw16_RankPlans.f k l0 a1 l2 a3 = some r) :
    Calls Try.prog 3 #[.slice A0 l0.length c0, .agg #[.int .i64 a1, .int .i64 a3], .slice A2 l2.length c2] w fun e w' => e = .returned (.bool r) ∧ Below w.heap.size w w' := by
  have HR0 := Aside0.mk hr0
  have HC0 := Aside0.mk hc0
  clear hr0 hc0
  have HR2 := Aside0.mk hr2
  have HC2 := Aside0.mk hc2
  clear hr2 hc2
  have HB := Aside0.mk (Below.refl w.heap.size w)
  have H : ((rivuletlaw16_cut.f k l0).bind fun t168 => (if 0 ≤ (mn (l2.length : Int) 10) then (if (mn (l2.length : Int) 10) ≤ (l2.length : Int) then ((rank_Right.f k t168).bind fun t172 => ((rivuletref16_Right.f k t168).bind fun t173 => (if t172 = t173 then ((rank_First.f k t168).bind fun t174 => ((rivuletref16_First.f k t168).bind fun t177 => ((rivuletref04_Ints.f k t174 t177).bind fun t180 => (rivuletlaw16_RankPlans.j0 k a1 (l2.take ((mn (l2.length : Int) 10) : Int).toNat) a3 t168 (!t180))))) else (rivuletlaw16_RankPlans.j0 k a1 (l2.take ((mn (l2.length : Int) 10) : Int).toNat) a3 t168 true)))) else (none)) else (none))) = some r := h
  clear h
  replace H := Option.bind_eq_some_iff.mp H
  obtain ⟨t168, A50, H⟩ := H
  replace H : (if 0 ≤ (mn (l2.length : Int) 10) then (if (mn (l2.length : Int) 10) ≤ (l2.length : Int) then ((rank_Right.f k t168).bind fun t172 => ((rivuletref16_Right.f k t168).bind fun t173 => (if t172 = t173 then ((rank_First.f k t168).bind fun t174 => ((rivuletref16_First.f k t168).bind fun t177 => ((rivuletref04_Ints.f k t174 t177).bind fun t180 => (rivuletlaw16_RankPlans.j0 k a1 (l2.take ((mn (l2.length : Int) 10) : Int).toNat) a3 t168 (!t180))))) else (rivuletlaw16_RankPlans.j0 k a1 (l2.take ((mn (l2.length : Int) 10) : Int).toNat) a3 t168 true)))) else (none)) else (none)) = some r := H
  have A5 := Aside0.mk A50
  clear A50
  obtain ⟨ji6, hji6⟩ : ∃ j_ : Int, (mn (l2.length : Int) 10) = j_ := ⟨_, rfl⟩
  replace H : (if 0 ≤ (ji6) then (if (ji6) ≤ (l2.length : Int) then ((rank_Right.f k t168).bind fun t172 => ((rivuletref16_Right.f k t168).bind fun t173 => (if t172 = t173 then ((rank_First.f k t168).bind fun t174 => ((rivuletref16_First.f k t168).bind fun t177 => ((rivuletref04_Ints.f k t174 t177).bind fun t180 => (rivuletlaw16_RankPlans.j0 k a1 (l2.take ((ji6) : Int).toNat) a3 t168 (!t180))))) else (rivuletlaw16_RankPlans.j0 k a1 (l2.take ((ji6) : Int).toNat) a3 t168 true)))) else (none)) else (none)) = some r := by first | (rw [hji6] at H; exact H) | (simp only [hji6] at H ⊢; exact H)
  (try rw [hji6] at A5)
  (try (have hji6h : ji6 ≤ 10 := by (rw [← hji6]; unfold mn; (repeat' split) <;> omega)))
  (try (have hji6g : ji6 ≤ 64 := by omega))
  (try (have hji6l : 0 ≤ ji6 := by (rw [← hji6]; unfold mn; (repeat' split) <;> omega)))
  (try (have hji6m : 0 ≤ ji6 := by omega))
  have hji6_ : (if 10 < (l2.length : Int) then 10 else (l2.length : Int)) = ji6 := hji6
  by_cases c7 : 0 ≤ (ji6)
  · rw [if_pos c7] at H
    have c7b0 := eq_true c7
    have c7b1 : decide (0 ≤ (ji6)) = true := decide_eq_true c7
    clear c7
    by_cases c8 : (ji6) ≤ (l2.length : Int)
    · rw [if_pos c8] at H
      have c8b0 := eq_true c8
      have c8b1 : decide ((ji6) ≤ (l2.length : Int)) = true := decide_eq_true c8
      clear c8
      have HC9 := Aside0.mk H
      clear H
      go_enter Try.func3, Try.ntmps3
      go_upto_region 1 with (fail)
      obtain ⟨w1, hw1⟩ : ∃ w1, w1 = w.alloc (Obj.cells #[.int .i64 a1, .int .i64 a3] 23) := ⟨_, rfl⟩
      have HBw := Aside0.mk (show Below w.heap.size w w1 from by rw [hw1]; exact below_alloc (Below.refl _ _) _)
      have HR0b := Aside0.mk (Kd.C_below HR0.out HBw.out)
      have HR2b := Aside0.mk (Kd.C_below HR2.out HBw.out)
      have HBb : Aside0 (w.heap.size < w1.heap.size) := Aside0.mk (by have h_ := World.alloc_heap_new w (Obj.cells #[.int .i64 a1, .int .i64 a3] 23); rw [← hw1] at h_; exact (Array.getElem?_eq_some_iff.1 h_).1)
      have HX0 : Aside0 (w1.cell? { block := w.heap.size, off := 0 } = some (.int .i64 a1)) := Aside0.mk (by rw [hw1]; unfold World.cell?; dsimp only; rw [World.alloc_heap_new]; rfl)
      have HX1 : Aside0 (w1.cell? { block := w.heap.size, off := 1 } = some (.int .i64 a3)) := Aside0.mk (by rw [hw1]; unfold World.cell?; dsimp only; rw [World.alloc_heap_new]; rfl)
      rw [← hw1]
      clear hw1 HR0 HR2 HB
      have HR0 := HR0b
      have HR2 := HR2b
      have HB := Aside0.mk (Below.refl w1.heap.size w1)
      clear HR0b HR2b
      go_upto_region 3 with (first | ((with_reducible refine gate_callee (f := 9) rfl ?_); refine goesL_ (some 13) rfl rfl Try.func9 (by kernel_rfl) rfl #[.slice A0 l0.length c0] rfl (by (try simp only [List.map_toArray, List.map_cons, List.map_nil]); first | done | rfl | (simp only [List.length_drop, List.length_take]; rfl)) ?_; (with_reducible refine (rivuletlaw16_cut.calls k (fun k_ => k_ < w1.heap.size) _ _ l0 t168 _ ?side1 A5.out).mono ?_); (case side1 => exact Kd.V_mk HC0.out (Kd.F_below (Kd.C_F (Kd.heap_slice 3 (Kd.heap_int .i64)) HR0.out) (by repeat (first | (with_reducible first | exact HB.out | apply below_alloc | apply pw_below_drewN | apply below_drew1) | exact HB.out)))); rintro e w10 ⟨v169, rfl, ho0, hb⟩; refine ⟨_, rfl, ?_⟩; have n0_ := Aside0.mk (Kd.N_lower (Kd.N_mono (ok' := fun k_ => True) ho0 (fun k_ hk_ => trivial)) (below_size (by repeat (first | (with_reducible first | exact HB.out | apply below_alloc | apply pw_below_drewN | apply below_drew1) | exact HB.out)))); have n1_ := Aside0.mk (below_step (by repeat (first | (with_reducible first | exact HB.out | apply below_alloc | apply pw_below_drewN | apply below_drew1) | exact HB.out)) hb); clear HB; have HO170 := n0_; have HB := n1_; clear n0_ n1_; (try clear hb); (try clear hb2); (try clear hk); (try clear hi); (try clear ho0); obtain ⟨i011, hi011, _, hsz11, _⟩ := info_parts info3; obtain ⟨hcut11, hA11, hC11⟩ := print_take_of (P := Try.prog) (Value.int .i64) 0 24 3 .i64 Try.underlying24 hi011 hsz11 A2 c2 l2 (ji6) (of_decide_eq_true (by first | (with_reducible assumption) | assumption)) (of_decide_eq_true (by first | (with_reducible assumption) | assumption)) HC2.out; have HR171 := Aside0.mk (Kd.C_of_reads (h1 := fun _ => rfl) (hA11 _ (Kd.reads_of_C HR2.out))); have HC171 := Aside0.mk hC11; clear hA11 hC11 hi011 hsz11))
      (try simp only [Act.put, List.setIfInBounds_toArray, List.set_cons_zero, List.set_cons_succ])
      go_cut [31] (fun v31 wc => ∃ (kq : Nat) (x31_8 : Bool), v31 = .bool x31_8 ∧ Aside0 (rivuletlaw16_RankPlans.j0 kq a1 (l2.take ((ji6) : Int).toNat) a3 t168 x31_8 = some r) ∧ Aside0 (kq ≤ k) ∧ Aside0 (Kd.N (Kd.slice 3 (Kd.int .i64)) 24 wc w1.heap.size (fun _ => True) v169 t168) ∧ Aside0 (Below w1.heap.size w1 wc))
      case first =>
        have H := HC9.out
        clear HC9
        replace H := Option.bind_eq_some_iff.mp H
        obtain ⟨t172, A120, H⟩ := H
        replace H : ((rivuletref16_Right.f k t168).bind fun t173 => (if t172 = t173 then ((rank_First.f k t168).bind fun t174 => ((rivuletref16_First.f k t168).bind fun t177 => ((rivuletref04_Ints.f k t174 t177).bind fun t180 => (rivuletlaw16_RankPlans.j0 k a1 (l2.take ((ji6) : Int).toNat) a3 t168 (!t180))))) else (rivuletlaw16_RankPlans.j0 k a1 (l2.take ((ji6) : Int).toNat) a3 t168 true))) = some r := H
        have A12 := Aside0.mk A120
        clear A120
        replace H := Option.bind_eq_some_iff.mp H
        obtain ⟨t173, A130, H⟩ := H
        replace H : (if t172 = t173 then ((rank_First.f k t168).bind fun t174 => ((rivuletref16_First.f k t168).bind fun t177 => ((rivuletref04_Ints.f k t174 t177).bind fun t180 => (rivuletlaw16_RankPlans.j0 k a1 (l2.take ((ji6) : Int).toNat) a3 t168 (!t180))))) else (rivuletlaw16_RankPlans.j0 k a1 (l2.take ((ji6) : Int).toNat) a3 t168 true)) = some r := H
        have A13 := Aside0.mk A130
        clear A130
        by_cases c14 : t172 = t173
        · rw [if_pos c14] at H
          have c14b0 : (t172 == t173) = true := beq_iff_eq.mpr c14
          have c14b1 : (t172 != t173) = false := bne_eq_false_iff_eq.mpr c14
          clear c14
          (first | rw [c14b0] | (simp only [i64_w, i32_w]; rw [c14b0]) | skip)
          replace H := Option.bind_eq_some_iff.mp H
          obtain ⟨t174, A150, H⟩ := H
          replace H : ((rivuletref16_First.f k t168).bind fun t177 => ((rivuletref04_Ints.f k t174 t177).bind fun t180 => (rivuletlaw16_RankPlans.j0 k a1 (l2.take ((ji6) : Int).toNat) a3 t168 (!t180)))) = some r := H
          have A15 := Aside0.mk A150
          clear A150
          replace H := Option.bind_eq_some_iff.mp H
          obtain ⟨t177, A160, H⟩ := H
          replace H : ((rivuletref04_Ints.f k t174 t177).bind fun t180 => (rivuletlaw16_RankPlans.j0 k a1 (l2.take ((ji6) : Int).toNat) a3 t168 (!t180))) = some r := H
          have A16 := Aside0.mk A160
          clear A160
          replace H := Option.bind_eq_some_iff.mp H
          obtain ⟨t180, A170, H⟩ := H
          replace H : (rivuletlaw16_RankPlans.j0 k a1 (l2.take ((ji6) : Int).toNat) a3 t168 (!t180)) = some r := H
          have A17 := Aside0.mk A170
          clear A170
          have H' := Aside0.mk H
          clear H
          obtain ⟨Ao18, co18, eo18⟩ := Kd.N_slice HO170.out
          subst eo18
          go_wp2_with (first | ((with_reducible refine gate_callee (f := 10) rfl ?_); refine goesL_ (some 20) rfl rfl Try.func10 (by kernel_rfl) rfl #[.slice Ao18 t168.length co18] rfl (by (try simp only [List.map_toArray, List.map_cons, List.map_nil]); first | done | rfl | (simp only [List.length_drop, List.length_take]; rfl)) ?_; (with_reducible refine (rank_Right.calls k _ _ t168 t172 _ ?side1 ?side2 A12.out).mono ?_); (case side1 => repeat (first | exact (Kd.N_reads' HO170.out).2.2 | (with_reducible refine Kd.C_alloc ?_ _) | (with_reducible refine Kd.C_drewN ?_ _) | (with_reducible refine Kd.C_drew ?_))); (case side2 => exact (Kd.N_reads' HO170.out).2.1); rintro e w' ⟨rfl, ⟨nd, rfl⟩⟩; refine ⟨_, rfl, ?_⟩) | ((with_reducible refine gate_callee (f := 11) rfl ?_); refine goesL_ (some 22) rfl rfl Try.func11 (by kernel_rfl) rfl #[.slice Ao18 t168.length co18] rfl (by (try simp only [List.map_toArray, List.map_cons, List.map_nil]); first | done | rfl | (simp only [List.length_drop, List.length_take]; rfl)) ?_; (with_reducible refine (rivuletref16_Right.calls k _ _ t168 t173 _ ?side1 ?side2 A13.out).mono ?_); (case side1 => repeat (first | exact (Kd.N_reads' HO170.out).2.2 | (with_reducible refine Kd.C_alloc ?_ _) | (with_reducible refine Kd.C_drewN ?_ _) | (with_reducible refine Kd.C_drew ?_))); (case side2 => exact (Kd.N_reads' HO170.out).2.1); rintro e w' ⟨rfl, ⟨nd, rfl⟩⟩; refine ⟨_, rfl, ?_⟩) | (go_at_call 13; (with_reducible refine (rank_First.calls k _ _ t168 t174 _ ?side1 ?side2 A15.out).mono ?_); (case side1 => repeat (first | exact (Kd.N_reads' HO170.out).2.2 | (with_reducible refine Kd.C_alloc ?_ _) | (with_reducible refine Kd.C_drewN ?_ _) | (with_reducible refine Kd.C_drew ?_))); (case side2 => exact (Kd.N_reads' HO170.out).2.1); rintro e w19 ⟨v175, rfl, ho0, hb⟩; have n0_ := Aside0.mk (Kd.N_elder' (by (with_reducible repeat (first | apply Kd.N_alloc | apply Kd.N_drewN | apply Kd.N_drew)); exact HO170.out) (Kd.R_base ho0) hb); have n1_ := Aside0.mk (Kd.R_lower ho0 (below_size (by repeat (first | (with_reducible first | exact HB.out | apply below_alloc | apply pw_below_drewN | apply below_drew1) | exact HB.out)))); have n2_ := Aside0.mk (below_step (by repeat (first | (with_reducible first | exact HB.out | apply below_alloc | apply pw_below_drewN | apply below_drew1) | exact HB.out)) hb); clear HO170; clear HB; have HO170 := n0_; have HO176 := n1_; have HB := n2_; clear n0_ n1_ n2_; (try clear hb); (try clear hb2); (try clear hk); (try clear hi); (try clear ho0)) | (go_at_call 14; (with_reducible refine (rivuletref16_First.calls k _ _ t168 t177 _ ?side1 ?side2 A16.out).mono ?_); (case side1 => repeat (first | exact (Kd.N_reads' HO170.out).2.2 | (with_reducible refine Kd.C_alloc ?_ _) | (with_reducible refine Kd.C_drewN ?_ _) | (with_reducible refine Kd.C_drew ?_))); (case side2 => exact (Kd.N_reads' HO170.out).2.1); rintro e w20 ⟨v178, rfl, ho0, hb⟩; have n0_ := Aside0.mk (Kd.N_elder' (by (with_reducible repeat (first | apply Kd.N_alloc | apply Kd.N_drewN | apply Kd.N_drew)); exact HO170.out) (Kd.R_base ho0) hb); have n1_ := Aside0.mk (Kd.R_elder' (by (with_reducible repeat (first | apply Kd.R_alloc | apply Kd.R_drewN | apply Kd.R_drew)); exact HO176.out) (Kd.R_base ho0) hb); have n2_ := Aside0.mk (Kd.R_lower (Kd.R_new' ho0 (Kd.R_lt (by (with_reducible repeat (first | apply Kd.R_alloc | apply Kd.R_drewN | apply Kd.R_drew)); exact HO176.out))) (below_size (by repeat (first | (with_reducible first | exact HB.out | apply below_alloc | apply pw_below_drewN | apply below_drew1) | exact HB.out)))); have n3_ := Aside0.mk (below_step (by repeat (first | (with_reducible first | exact HB.out | apply below_alloc | apply pw_below_drewN | apply below_drew1) | exact HB.out)) hb); clear HO170; clear HO176; clear HB; have HO170 := n0_; have HO176 := n1_; have HO179 := n2_; have HB := n3_; clear n0_ n1_ n2_ n3_; (try clear hb); (try clear hb2); (try clear hk); (try clear hi); (try clear ho0); obtain ⟨Ao21, co21, eo21⟩ := Kd.R_slice HO176.out; subst eo21; obtain ⟨Ao22, co22, eo22⟩ := Kd.R_slice HO179.out; subst eo22) | (go_at_call 12; (with_reducible refine (rivuletref04_Ints.calls k _ _ t174 _ _ t177 t180 _ ?side1 ?side2 ?side3 ?side4 A17.out).mono ?_); (case side1 => repeat (first | exact (Kd.R_reads' HO176.out).2.2 | (with_reducible refine Kd.C_alloc ?_ _) | (with_reducible refine Kd.C_drewN ?_ _) | (with_reducible refine Kd.C_drew ?_))); (case side2 => exact (Kd.R_reads' HO176.out).2.1); (case side3 => repeat (first | exact (Kd.R_reads' HO179.out).2.2 | (with_reducible refine Kd.C_alloc ?_ _) | (with_reducible refine Kd.C_drewN ?_ _) | (with_reducible refine Kd.C_drew ?_))); (case side4 => exact (Kd.R_reads' HO179.out).2.1); rintro e w' ⟨rfl, ⟨nd, rfl⟩⟩))
          go_meet
          case rel => exact ⟨_, (!t180), (by first | rfl | (simp; done) | (simp [*]; done)), H', ⟨by first | omega | exact Nat.le_refl _⟩, ⟨by (with_reducible repeat (first | apply Kd.N_alloc | apply Kd.N_drewN | apply Kd.N_drew)); exact Kd.N_mono HO170.out (fun _ hk => trivial)⟩, ⟨by repeat (first | (with_reducible first | exact HB.out | apply below_alloc | apply pw_below_drewN | apply below_drew1) | exact HB.out)⟩⟩
        · rw [if_neg c14] at H
          have c14b0 : (t172 == t173) = false := beq_eq_false_iff_ne.mpr c14
          have c14b1 : (t172 != t173) = true := bne_iff_ne.mpr c14
          (first | rw [c14b0] | (simp only [i64_w, i32_w]; rw [c14b0]) | skip)
          have H' := Aside0.mk H
          clear H
          obtain ⟨Ao23, co23, eo23⟩ := Kd.N_slice HO170.out
          subst eo23
          go_wp2_with (first | ((with_reducible refine gate_callee (f := 10) rfl ?_); refine goesL_ (some 20) rfl rfl Try.func10 (by kernel_rfl) rfl #[.slice Ao23 t168.length co23] rfl (by (try simp only [List.map_toArray, List.map_cons, List.map_nil]); first | done | rfl | (simp only [List.length_drop, List.length_take]; rfl)) ?_; (with_reducible refine (rank_Right.calls k _ _ t168 t172 _ ?side1 ?side2 A12.out).mono ?_); (case side1 => repeat (first | exact (Kd.N_reads' HO170.out).2.2 | (with_reducible refine Kd.C_alloc ?_ _) | (with_reducible refine Kd.C_drewN ?_ _) | (with_reducible refine Kd.C_drew ?_))); (case side2 => exact (Kd.N_reads' HO170.out).2.1); rintro e w' ⟨rfl, ⟨nd, rfl⟩⟩; refine ⟨_, rfl, ?_⟩) | ((with_reducible refine gate_callee (f := 11) rfl ?_); refine goesL_ (some 22) rfl rfl Try.func11 (by kernel_rfl) rfl #[.slice Ao23 t168.length co23] rfl (by (try simp only [List.map_toArray, List.map_cons, List.map_nil]); first | done | rfl | (simp only [List.length_drop, List.length_take]; rfl)) ?_; (with_reducible refine (rivuletref16_Right.calls k _ _ t168 t173 _ ?side1 ?side2 A13.out).mono ?_); (case side1 => repeat (first | exact (Kd.N_reads' HO170.out).2.2 | (with_reducible refine Kd.C_alloc ?_ _) | (with_reducible refine Kd.C_drewN ?_ _) | (with_reducible refine Kd.C_drew ?_))); (case side2 => exact (Kd.N_reads' HO170.out).2.1); rintro e w' ⟨rfl, ⟨nd, rfl⟩⟩; refine ⟨_, rfl, ?_⟩))
          go_meet
          case rel => exact ⟨_, (true), (by first | rfl | (simp; done) | (simp [*]; done)), H', ⟨by first | omega | exact Nat.le_refl _⟩, ⟨by (with_reducible repeat (first | apply Kd.N_alloc | apply Kd.N_drewN | apply Kd.N_drew)); exact HO170.out⟩, ⟨by repeat (first | (with_reducible first | exact HB.out | apply below_alloc | apply pw_below_drewN | apply below_drew1) | exact HB.out)⟩⟩
      case rest =>
        clear HC9
        try clear c1
        try clear c2
        try clear p2
        try clear c3
        try clear c7
        try clear c7b0
        try clear c7b1
        try clear c8
        try clear c8b0
        try clear c8b1
        try clear c9
        try clear c10
        try clear c11
        try clear c14
        try clear c14b0
        try clear c14b1
        obtain ⟨kq, x31_8, rfl, HA, HJ8, HO_7, HB⟩ := hcut
        have hxa := (HB.out.cell (p := { block := w.heap.size, off := 0 }) HBb.out).trans HX0.out
        have hxb := (HB.out.cell (p := { block := w.heap.size, off := 1 }) HBb.out).trans HX1.out
        cases kq with
        | zero => exact absurd HA.out (by simp [rivuletlaw16_RankPlans.j0])
        | succ kj8 =>
          have H := HA.out
          clear HA
          simp only [rivuletlaw16_RankPlans.j0] at H
          by_cases c24 : x31_8 = true
          · subst c24
            have H1 : (some false) = some r := by rw [if_pos rfl] at H; exact H
            clear H
            have H := H1
            clear H1
            obtain rfl := Option.some.inj H
            go_wp2
            go_ret
            exact ⟨by first | rfl | (simp [errW_none, errW_some] <;> rfl) | (simp only [← hji6]; first | rfl | (simp [errW_none, errW_some] <;> rfl)) | (simp [*, errW_none, errW_some] <;> rfl), below_then HBw.out HBw.out.size (by repeat (first | (with_reducible first | exact HB.out | apply below_alloc | apply pw_below_drewN | apply below_drew1) | exact HB.out))⟩
          · replace c24 := Bool.eq_false_iff.mpr c24
            subst c24
            have H1 : ((rivuletref16_Right.f kj8 t168).bind fun t181 => (if t181 = 0 then ((rank_Choose.f kj8 t168 a1 a3 (l2.take ((ji6) : Int).toNat)).bind fun bt182 => ((rivuletref16_Choose.f kj8 t168 a1 a3 (l2.take ((ji6) : Int).toNat)).bind fun bt184 => (if bt182.1 = bt184.1 then (if (bt182.2 == bt184.2) = true then ((rivuletlaw16_fixed.f).bind fun t186 => (some t186)) else (some false)) else (some false)))) else ((rivuletlaw16_fixed.f).bind fun t187 => (some t187)))) = some r := by rw [if_neg (show ¬ (false = true) by decide)] at H; exact H
            clear H
            have H := H1
            clear H1
            replace H := Option.bind_eq_some_iff.mp H
            obtain ⟨t181, A250, H⟩ := H
            replace H : (if t181 = 0 then ((rank_Choose.f kj8 t168 a1 a3 (l2.take ((ji6) : Int).toNat)).bind fun bt182 => ((rivuletref16_Choose.f kj8 t168 a1 a3 (l2.take ((ji6) : Int).toNat)).bind fun bt184 => (if bt182.1 = bt184.1 then (if (bt182.2 == bt184.2) = true then ((rivuletlaw16_fixed.f).bind fun t186 => (some t186)) else (some false)) else (some false)))) else ((rivuletlaw16_fixed.f).bind fun t187 => (some t187))) = some r := H
            have A25 := Aside0.mk A250
            clear A250
            by_cases c26 : t181 = 0
            · rw [if_pos c26] at H
              have c26b0 : (t181 == 0) = true := beq_iff_eq.mpr c26
              have c26b1 : (t181 != 0) = false := bne_eq_false_iff_eq.mpr c26
              clear c26
              replace H := Option.bind_eq_some_iff.mp H
              obtain ⟨⟨t182, t183⟩, A270, H⟩ := H
              replace H : ((rivuletref16_Choose.f kj8 t168 a1 a3 (l2.take ((ji6) : Int).toNat)).bind fun bt184 => (if t182 = bt184.1 then (if (t183 == bt184.2) = true then ((rivuletlaw16_fixed.f).bind fun t186 => (some t186)) else (some false)) else (some false))) = some r := H
              have A27 := Aside0.mk A270
              clear A270
              replace H := Option.bind_eq_some_iff.mp H
              obtain ⟨⟨t184, t185⟩, A280, H⟩ := H
              replace H : (if t182 = t184 then (if (t183 == t185) = true then ((rivuletlaw16_fixed.f).bind fun t186 => (some t186)) else (some false)) else (some false)) = some r := H
              have A28 := Aside0.mk A280
              clear A280
              by_cases c29 : t182 = t184
              · rw [if_pos c29] at H
                have c29b0 : (t182 == t184) = true := beq_iff_eq.mpr c29
                have c29b1 : (t182 != t184) = false := bne_eq_false_iff_eq.mpr c29
                clear c29
                by_cases c30 : (t183 == t185) = true
                · rw [if_pos c30] at H
                  have c30b0 : (t183 == t185) = true := c30
                  (try (have c30b1 : decide (t183 = t185) = true := by simpa using c30))
                  (try (have c30b2 : (t183 == t185) = true := by simpa using c30))
                  clear c30
                  replace H := Option.bind_eq_some_iff.mp H
                  obtain ⟨t186, A310, H⟩ := H
                  replace H : (some t186) = some r := H
                  have A31 := Aside0.mk A310
                  clear A310
                  obtain rfl := Option.some.inj H
                  obtain ⟨Ao32, co32, eo32⟩ := Kd.N_slice HO_7.out
                  subst eo32
                  go_wp2_with (first | ((with_reducible refine gate_callee (f := 11) rfl ?_); refine goesL_ (some 33) rfl rfl Try.func11 (by kernel_rfl) rfl #[.slice Ao32 t168.length co32] rfl (by (try simp only [List.map_toArray, List.map_cons, List.map_nil]); first | done | rfl | (simp only [List.length_drop, List.length_take]; rfl)) ?_; (with_reducible refine (rivuletref16_Right.calls kj8 _ _ t168 t181 _ ?side1 ?side2 A25.out).mono ?_); (case side1 => repeat (first | exact (Kd.N_reads' HO_7.out).2.2 | (with_reducible refine Kd.C_alloc ?_ _) | (with_reducible refine Kd.C_drewN ?_ _) | (with_reducible refine Kd.C_drew ?_))); (case side2 => exact (Kd.N_reads' HO_7.out).2.1); rintro e w' ⟨rfl, ⟨nd, rfl⟩⟩; refine ⟨_, rfl, ?_⟩) | ((with_reducible refine gate_callee (f := 16) rfl ?_); refine goesL_ (some 43) rfl rfl Try.func16 (by kernel_rfl) rfl #[.slice Ao32 t168.length co32, .int .i64 a1, .int .i64 a3, .slice A2 (l2.take ((ji6) : Int).toNat).length c2] rfl (by (try simp only [List.map_toArray, List.map_cons, List.map_nil]); first | done | (rw [show (l2.take ((ji6) : Int).toNat).length = (ji6).toNat from (by rw [List.length_take]; have h_ : ((ji6) : Int) ≤ (l2.length : Int) := (by rw [← hji6_]; split <;> omega); omega)] <;> rfl) | (simp only [hji6]; rfl) | rfl | (simp only [List.length_drop, List.length_take]; rfl)) ?_; (with_reducible refine (rank_Choose.calls kj8 _ _ t168 a1 a3 _ _ (l2.take ((ji6) : Int).toNat) t182 t183 _ ?side1 ?side2 ?side3 ?side4 A27.out).mono ?_); (case side1 => repeat (first | exact (Kd.N_reads' HO_7.out).2.2 | (with_reducible refine Kd.C_alloc ?_ _) | (with_reducible refine Kd.C_drewN ?_ _) | (with_reducible refine Kd.C_drew ?_))); (case side2 => exact (Kd.N_reads' HO_7.out).2.1); (case side3 => repeat (first | exact (Kd.C_below HR171.out (by repeat (first | (with_reducible first | exact HB.out | apply below_alloc | apply pw_below_drewN | apply below_drew1) | exact HB.out))) | (with_reducible refine Kd.C_alloc ?_ _) | (with_reducible refine Kd.C_drewN ?_ _) | (with_reducible refine Kd.C_drew ?_))); (case side4 => exact HC171.out); rintro e w33 ⟨rfl, hb⟩; refine ⟨_, rfl, ?_⟩; have n0_ := Aside0.mk (Kd.N_below (by (with_reducible repeat (first | apply Kd.N_alloc | apply Kd.N_drewN | apply Kd.N_drew)); exact HO_7.out) hb); have n1_ := Aside0.mk (below_step (by repeat (first | (with_reducible first | exact HB.out | apply below_alloc | apply pw_below_drewN | apply below_drew1) | exact HB.out)) hb); clear HO_7; clear HB; have HO_7 := n0_; have HB := n1_; clear n0_ n1_; have hxa_w33 := (HB.out.cell (p := { block := w.heap.size, off := 0 }) HBb.out).trans HX0.out; have hxb_w33 := (HB.out.cell (p := { block := w.heap.size, off := 1 }) HBb.out).trans HX1.out; (try clear hb); (try clear hb2); (try clear hk); (try clear hi)) | ((with_reducible refine gate_callee (f := 17) rfl ?_); refine goesL_ (some 53) rfl rfl Try.func17 (by kernel_rfl) rfl #[.slice Ao32 t168.length co32, .int .i64 a1, .int .i64 a3, .slice A2 (l2.take ((ji6) : Int).toNat).length c2] rfl (by (try simp only [List.map_toArray, List.map_cons, List.map_nil]); first | done | (rw [show (l2.take ((ji6) : Int).toNat).length = (ji6).toNat from (by rw [List.length_take]; have h_ : ((ji6) : Int) ≤ (l2.length : Int) := (by rw [← hji6_]; split <;> omega); omega)] <;> rfl) | (simp only [hji6]; rfl) | rfl | (simp only [List.length_drop, List.length_take]; rfl)) ?_; (with_reducible refine (rivuletref16_Choose.calls kj8 _ _ t168 a1 a3 _ _ (l2.take ((ji6) : Int).toNat) t184 t185 _ ?side1 ?side2 ?side3 ?side4 A28.out).mono ?_); (case side1 => repeat (first | exact (Kd.N_reads' HO_7.out).2.2 | (with_reducible refine Kd.C_alloc ?_ _) | (with_reducible refine Kd.C_drewN ?_ _) | (with_reducible refine Kd.C_drew ?_))); (case side2 => exact (Kd.N_reads' HO_7.out).2.1); (case side3 => repeat (first | exact (Kd.C_below HR171.out HB.out) | (with_reducible refine Kd.C_alloc ?_ _) | (with_reducible refine Kd.C_drewN ?_ _) | (with_reducible refine Kd.C_drew ?_))); (case side4 => exact HC171.out); rintro e w' ⟨rfl, ⟨nd, rfl⟩⟩; refine ⟨_, rfl, ?_⟩) | (go_at_call 15; (with_reducible refine (rivuletlaw16_fixed.calls  t186 _ A31.out).mono ?_); rintro e w34 ⟨rfl, hb⟩; have n0_ := Aside0.mk (Kd.N_below (by (with_reducible repeat (first | apply Kd.N_alloc | apply Kd.N_drewN | apply Kd.N_drew)); exact HO_7.out) hb); have n1_ := Aside0.mk (below_step (by repeat (first | (with_reducible first | exact HB.out | apply below_alloc | apply pw_below_drewN | apply below_drew1) | exact HB.out)) hb); clear HO_7; clear HB; have HO_7 := n0_; have HB := n1_; clear n0_ n1_; (try clear hb); (try clear hb2); (try clear hk); (try clear hi)))
                  go_ret
                  exact ⟨by first | rfl | (simp [errW_none, errW_some] <;> rfl) | (simp only [← hji6]; first | rfl | (simp [errW_none, errW_some] <;> rfl)) | (simp [*, errW_none, errW_some] <;> rfl), below_then HBw.out HBw.out.size (by repeat (first | (with_reducible first | exact HB.out | apply below_alloc | apply pw_below_drewN | apply below_drew1) | exact HB.out))⟩
                · rw [if_neg c30] at H
                  have c30b0 : (t183 == t185) = false := by simpa using c30
                  (try (have c30b1 : decide (t183 = t185) = false := by simpa using c30))
                  (try (have c30b2 : (t183 == t185) = false := by simpa using c30))
                  (try (have c30b3 : ¬ (t183 = t185) := by simpa using c30))
                  clear c30
                  obtain rfl := Option.some.inj H
                  obtain ⟨Ao35, co35, eo35⟩ := Kd.N_slice HO_7.out
                  subst eo35
                  go_wp2_with (first | ((with_reducible refine gate_callee (f := 11) rfl ?_); refine goesL_ (some 33) rfl rfl Try.func11 (by kernel_rfl) rfl #[.slice Ao35 t168.length co35] rfl (by (try simp only [List.map_toArray, List.map_cons, List.map_nil]); first | done | rfl | (simp only [List.length_drop, List.length_take]; rfl)) ?_; (with_reducible refine (rivuletref16_Right.calls kj8 _ _ t168 t181 _ ?side1 ?side2 A25.out).mono ?_); (case side1 => repeat (first | exact (Kd.N_reads' HO_7.out).2.2 | (with_reducible refine Kd.C_alloc ?_ _) | (with_reducible refine Kd.C_drewN ?_ _) | (with_reducible refine Kd.C_drew ?_))); (case side2 => exact (Kd.N_reads' HO_7.out).2.1); rintro e w' ⟨rfl, ⟨nd, rfl⟩⟩; refine ⟨_, rfl, ?_⟩) | ((with_reducible refine gate_callee (f := 16) rfl ?_); refine goesL_ (some 43) rfl rfl Try.func16 (by kernel_rfl) rfl #[.slice Ao35 t168.length co35, .int .i64 a1, .int .i64 a3, .slice A2 (l2.take ((ji6) : Int).toNat).length c2] rfl (by (try simp only [List.map_toArray, List.map_cons, List.map_nil]); first | done | (rw [show (l2.take ((ji6) : Int).toNat).length = (ji6).toNat from (by rw [List.length_take]; have h_ : ((ji6) : Int) ≤ (l2.length : Int) := (by rw [← hji6_]; split <;> omega); omega)] <;> rfl) | (simp only [hji6]; rfl) | rfl | (simp only [List.length_drop, List.length_take]; rfl)) ?_; (with_reducible refine (rank_Choose.calls kj8 _ _ t168 a1 a3 _ _ (l2.take ((ji6) : Int).toNat) t182 t183 _ ?side1 ?side2 ?side3 ?side4 A27.out).mono ?_); (case side1 => repeat (first | exact (Kd.N_reads' HO_7.out).2.2 | (with_reducible refine Kd.C_alloc ?_ _) | (with_reducible refine Kd.C_drewN ?_ _) | (with_reducible refine Kd.C_drew ?_))); (case side2 => exact (Kd.N_reads' HO_7.out).2.1); (case side3 => repeat (first | exact (Kd.C_below HR171.out (by repeat (first | (with_reducible first | exact HB.out | apply below_alloc | apply pw_below_drewN | apply below_drew1) | exact HB.out))) | (with_reducible refine Kd.C_alloc ?_ _) | (with_reducible refine Kd.C_drewN ?_ _) | (with_reducible refine Kd.C_drew ?_))); (case side4 => exact HC171.out); rintro e w36 ⟨rfl, hb⟩; refine ⟨_, rfl, ?_⟩; have n0_ := Aside0.mk (Kd.N_below (by (with_reducible repeat (first | apply Kd.N_alloc | apply Kd.N_drewN | apply Kd.N_drew)); exact HO_7.out) hb); have n1_ := Aside0.mk (below_step (by repeat (first | (with_reducible first | exact HB.out | apply below_alloc | apply pw_below_drewN | apply below_drew1) | exact HB.out)) hb); clear HO_7; clear HB; have HO_7 := n0_; have HB := n1_; clear n0_ n1_; have hxa_w36 := (HB.out.cell (p := { block := w.heap.size, off := 0 }) HBb.out).trans HX0.out; have hxb_w36 := (HB.out.cell (p := { block := w.heap.size, off := 1 }) HBb.out).trans HX1.out; (try clear hb); (try clear hb2); (try clear hk); (try clear hi)) | ((with_reducible refine gate_callee (f := 17) rfl ?_); refine goesL_ (some 53) rfl rfl Try.func17 (by kernel_rfl) rfl #[.slice Ao35 t168.length co35, .int .i64 a1, .int .i64 a3, .slice A2 (l2.take ((ji6) : Int).toNat).length c2] rfl (by (try simp only [List.map_toArray, List.map_cons, List.map_nil]); first | done | (rw [show (l2.take ((ji6) : Int).toNat).length = (ji6).toNat from (by rw [List.length_take]; have h_ : ((ji6) : Int) ≤ (l2.length : Int) := (by rw [← hji6_]; split <;> omega); omega)] <;> rfl) | (simp only [hji6]; rfl) | rfl | (simp only [List.length_drop, List.length_take]; rfl)) ?_; (with_reducible refine (rivuletref16_Choose.calls kj8 _ _ t168 a1 a3 _ _ (l2.take ((ji6) : Int).toNat) t184 t185 _ ?side1 ?side2 ?side3 ?side4 A28.out).mono ?_); (case side1 => repeat (first | exact (Kd.N_reads' HO_7.out).2.2 | (with_reducible refine Kd.C_alloc ?_ _) | (with_reducible refine Kd.C_drewN ?_ _) | (with_reducible refine Kd.C_drew ?_))); (case side2 => exact (Kd.N_reads' HO_7.out).2.1); (case side3 => repeat (first | exact (Kd.C_below HR171.out HB.out) | (with_reducible refine Kd.C_alloc ?_ _) | (with_reducible refine Kd.C_drewN ?_ _) | (with_reducible refine Kd.C_drew ?_))); (case side4 => exact HC171.out); rintro e w' ⟨rfl, ⟨nd, rfl⟩⟩; refine ⟨_, rfl, ?_⟩))
                  go_ret
                  exact ⟨by first | rfl | (simp [errW_none, errW_some] <;> rfl) | (simp only [← hji6]; first | rfl | (simp [errW_none, errW_some] <;> rfl)) | (simp [*, errW_none, errW_some] <;> rfl), below_then HBw.out HBw.out.size (by repeat (first | (with_reducible first | exact HB.out | apply below_alloc | apply pw_below_drewN | apply below_drew1) | exact HB.out))⟩
              · rw [if_neg c29] at H
                have c29b0 : (t182 == t184) = false := beq_eq_false_iff_ne.mpr c29
                have c29b1 : (t182 != t184) = true := bne_iff_ne.mpr c29
                obtain rfl := Option.some.inj H
                obtain ⟨Ao37, co37, eo37⟩ := Kd.N_slice HO_7.out
                subst eo37
                go_wp2_with (first | ((with_reducible refine gate_callee (f := 11) rfl ?_); refine goesL_ (some 33) rfl rfl Try.func11 (by kernel_rfl) rfl #[.slice Ao37 t168.length co37] rfl (by (try simp only [List.map_toArray, List.map_cons, List.map_nil]); first | done | rfl | (simp only [List.length_drop, List.length_take]; rfl)) ?_; (with_reducible refine (rivuletref16_Right.calls kj8 _ _ t168 t181 _ ?side1 ?side2 A25.out).mono ?_); (case side1 => repeat (first | exact (Kd.N_reads' HO_7.out).2.2 | (with_reducible refine Kd.C_alloc ?_ _) | (with_reducible refine Kd.C_drewN ?_ _) | (with_reducible refine Kd.C_drew ?_))); (case side2 => exact (Kd.N_reads' HO_7.out).2.1); rintro e w' ⟨rfl, ⟨nd, rfl⟩⟩; refine ⟨_, rfl, ?_⟩) | ((with_reducible refine gate_callee (f := 16) rfl ?_); refine goesL_ (some 43) rfl rfl Try.func16 (by kernel_rfl) rfl #[.slice Ao37 t168.length co37, .int .i64 a1, .int .i64 a3, .slice A2 (l2.take ((ji6) : Int).toNat).length c2] rfl (by (try simp only [List.map_toArray, List.map_cons, List.map_nil]); first | done | (rw [show (l2.take ((ji6) : Int).toNat).length = (ji6).toNat from (by rw [List.length_take]; have h_ : ((ji6) : Int) ≤ (l2.length : Int) := (by rw [← hji6_]; split <;> omega); omega)] <;> rfl) | (simp only [hji6]; rfl) | rfl | (simp only [List.length_drop, List.length_take]; rfl)) ?_; (with_reducible refine (rank_Choose.calls kj8 _ _ t168 a1 a3 _ _ (l2.take ((ji6) : Int).toNat) t182 t183 _ ?side1 ?side2 ?side3 ?side4 A27.out).mono ?_); (case side1 => repeat (first | exact (Kd.N_reads' HO_7.out).2.2 | (with_reducible refine Kd.C_alloc ?_ _) | (with_reducible refine Kd.C_drewN ?_ _) | (with_reducible refine Kd.C_drew ?_))); (case side2 => exact (Kd.N_reads' HO_7.out).2.1); (case side3 => repeat (first | exact (Kd.C_below HR171.out (by repeat (first | (with_reducible first | exact HB.out | apply below_alloc | apply pw_below_drewN | apply below_drew1) | exact HB.out))) | (with_reducible refine Kd.C_alloc ?_ _) | (with_reducible refine Kd.C_drewN ?_ _) | (with_reducible refine Kd.C_drew ?_))); (case side4 => exact HC171.out); rintro e w38 ⟨rfl, hb⟩; refine ⟨_, rfl, ?_⟩; have n0_ := Aside0.mk (Kd.N_below (by (with_reducible repeat (first | apply Kd.N_alloc | apply Kd.N_drewN | apply Kd.N_drew)); exact HO_7.out) hb); have n1_ := Aside0.mk (below_step (by repeat (first | (with_reducible first | exact HB.out | apply below_alloc | apply pw_below_drewN | apply below_drew1) | exact HB.out)) hb); clear HO_7; clear HB; have HO_7 := n0_; have HB := n1_; clear n0_ n1_; have hxa_w38 := (HB.out.cell (p := { block := w.heap.size, off := 0 }) HBb.out).trans HX0.out; have hxb_w38 := (HB.out.cell (p := { block := w.heap.size, off := 1 }) HBb.out).trans HX1.out; (try clear hb); (try clear hb2); (try clear hk); (try clear hi)) | ((with_reducible refine gate_callee (f := 17) rfl ?_); refine goesL_ (some 53) rfl rfl Try.func17 (by kernel_rfl) rfl #[.slice Ao37 t168.length co37, .int .i64 a1, .int .i64 a3, .slice A2 (l2.take ((ji6) : Int).toNat).length c2] rfl (by (try simp only [List.map_toArray, List.map_cons, List.map_nil]); first | done | (rw [show (l2.take ((ji6) : Int).toNat).length = (ji6).toNat from (by rw [List.length_take]; have h_ : ((ji6) : Int) ≤ (l2.length : Int) := (by rw [← hji6_]; split <;> omega); omega)] <;> rfl) | (simp only [hji6]; rfl) | rfl | (simp only [List.length_drop, List.length_take]; rfl)) ?_; (with_reducible refine (rivuletref16_Choose.calls kj8 _ _ t168 a1 a3 _ _ (l2.take ((ji6) : Int).toNat) t184 t185 _ ?side1 ?side2 ?side3 ?side4 A28.out).mono ?_); (case side1 => repeat (first | exact (Kd.N_reads' HO_7.out).2.2 | (with_reducible refine Kd.C_alloc ?_ _) | (with_reducible refine Kd.C_drewN ?_ _) | (with_reducible refine Kd.C_drew ?_))); (case side2 => exact (Kd.N_reads' HO_7.out).2.1); (case side3 => repeat (first | exact (Kd.C_below HR171.out HB.out) | (with_reducible refine Kd.C_alloc ?_ _) | (with_reducible refine Kd.C_drewN ?_ _) | (with_reducible refine Kd.C_drew ?_))); (case side4 => exact HC171.out); rintro e w' ⟨rfl, ⟨nd, rfl⟩⟩; refine ⟨_, rfl, ?_⟩))
                go_ret
                exact ⟨by first | rfl | (simp [errW_none, errW_some] <;> rfl) | (simp only [← hji6]; first | rfl | (simp [errW_none, errW_some] <;> rfl)) | (simp [*, errW_none, errW_some] <;> rfl), below_then HBw.out HBw.out.size (by repeat (first | (with_reducible first | exact HB.out | apply below_alloc | apply pw_below_drewN | apply below_drew1) | exact HB.out))⟩
            · rw [if_neg c26] at H
              have c26b0 : (t181 == 0) = false := beq_eq_false_iff_ne.mpr c26
              have c26b1 : (t181 != 0) = true := bne_iff_ne.mpr c26
              replace H := Option.bind_eq_some_iff.mp H
              obtain ⟨t187, A390, H⟩ := H
              replace H : (some t187) = some r := H
              have A39 := Aside0.mk A390
              clear A390
              obtain rfl := Option.some.inj H
              obtain ⟨Ao40, co40, eo40⟩ := Kd.N_slice HO_7.out
              subst eo40
              go_wp2_with (first | ((with_reducible refine gate_callee (f := 11) rfl ?_); refine goesL_ (some 33) rfl rfl Try.func11 (by kernel_rfl) rfl #[.slice Ao40 t168.length co40] rfl (by (try simp only [List.map_toArray, List.map_cons, List.map_nil]); first | done | rfl | (simp only [List.length_drop, List.length_take]; rfl)) ?_; (with_reducible refine (rivuletref16_Right.calls kj8 _ _ t168 t181 _ ?side1 ?side2 A25.out).mono ?_); (case side1 => repeat (first | exact (Kd.N_reads' HO_7.out).2.2 | (with_reducible refine Kd.C_alloc ?_ _) | (with_reducible refine Kd.C_drewN ?_ _) | (with_reducible refine Kd.C_drew ?_))); (case side2 => exact (Kd.N_reads' HO_7.out).2.1); rintro e w' ⟨rfl, ⟨nd, rfl⟩⟩; refine ⟨_, rfl, ?_⟩) | ((with_reducible refine gate_callee (f := 15) rfl ?_); refine goesL_ (some 35) rfl rfl Try.func15 (by kernel_rfl) rfl #[] rfl (by (try simp only [List.map_toArray, List.map_cons, List.map_nil]); first | done | rfl | (simp only [List.length_drop, List.length_take]; rfl)) ?_; (with_reducible refine (rivuletlaw16_fixed.calls  t187 _ A39.out).mono ?_); rintro e w41 ⟨rfl, hb⟩; refine ⟨_, rfl, ?_⟩; have n0_ := Aside0.mk (Kd.N_below (by (with_reducible repeat (first | apply Kd.N_alloc | apply Kd.N_drewN | apply Kd.N_drew)); exact HO_7.out) hb); have n1_ := Aside0.mk (below_step (by repeat (first | (with_reducible first | exact HB.out | apply below_alloc | apply pw_below_drewN | apply below_drew1) | exact HB.out)) hb); clear HO_7; clear HB; have HO_7 := n0_; have HB := n1_; clear n0_ n1_; have hxa_w41 := (HB.out.cell (p := { block := w.heap.size, off := 0 }) HBb.out).trans HX0.out; have hxb_w41 := (HB.out.cell (p := { block := w.heap.size, off := 1 }) HBb.out).trans HX1.out; (try clear hb); (try clear hb2); (try clear hk); (try clear hi)))
              go_ret
              exact ⟨by first | rfl | (simp [errW_none, errW_some] <;> rfl) | (simp only [← hji6]; first | rfl | (simp [errW_none, errW_some] <;> rfl)) | (simp [*, errW_none, errW_some] <;> rfl), below_then HBw.out HBw.out.size (by repeat (first | (with_reducible first | exact HB.out | apply below_alloc | apply pw_below_drewN | apply below_drew1) | exact HB.out))⟩
    · rw [if_neg c8] at H
      exact absurd H (by simp)
  · rw [if_neg c7] at H
    exact absurd H (by simp)

end Go.Proofs.Ytagnpmmcoaemeaa.R16
