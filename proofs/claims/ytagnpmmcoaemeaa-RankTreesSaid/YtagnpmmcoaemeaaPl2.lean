/- What the reference's Under, Top and Part come to; and that Under and Part by hand are these. Plain Lean; conditions: lists of at most a million numbers. -/
import Derived.Test.YtagnpmmcoaemeaaPl3
import Derived.Test.YtagnpmmcoaemeaaR16x3
import Derived.Test.YtagnpmmcoaemeaaR16x4
namespace Go.Proofs.Ytagnpmmcoaemeaa.R16
open Go.RowKit Go.Proofs.YtagnpmmcoaemeaaW.PrintWords Go.Proofs.YtagnpmmcoaemeaaW.PrintLast Go.Proofs.YtagnpmmcoaemeaaW.PrintMore

theorem underR_ev (P : List Int) (hP : P.length ≤ 1000000) (n : Int) : Ev (fun k => rivuletref16_Under.f k P n) (underN P n) := by
  unfold rivuletref16_Under.f
  by_cases hok : okP P n
  · have key : ∀ d i : Nat, i + d = P.length → Ev (fun k => rivuletref16_Under.l0 k P n (pick (fun i => rd P (i : Int) == n) i) (i : Int)) (underN P n) := by
      intro d
      induction d with
      | zero =>
        intro i hi
        obtain rfl : i = P.length := by omega
        have : underN P n = pick (fun i => rd P (i : Int) == n) P.length := if_pos hok
        rw [this]
        exact Ev.step (f := fun k => rivuletref16_Under.j1 k P n (pick (fun i => rd P (i : Int) == n) P.length) (P.length : Int) false) (fun k => by simp only [rivuletref16_Under.l0]; rw [if_neg (by omega)])
          (Ev.step (f := fun _ => some _) (fun k => by simp only [rivuletref16_Under.j1]; rw [if_neg (by simp)]) (Ev.now _))
      | succ d ih =>
        intro i hi
        have hlen := pick_len (fun i => rd P (i : Int) == n) i
        have hs := pick_succ (fun i => rd P (i : Int) == n) i
        have := ih (i + 1) (by omega)
        refine Ev.step (f := fun k => (rivuletref16_is.f k P n).bind fun t => rivuletref16_Under.j1 k P n (pick (fun i => rd P (i : Int) == n) i) (i : Int) t) (fun k => by simp only [rivuletref16_Under.l0]; rw [if_pos (by omega)]) ?_
        refine Ev.bind (is_ev P hP n) ?_
        rw [decide_eq_true hok]
        by_cases h1 : rd P (i : Int) = n
        · rw [if_pos (by simpa using h1)] at hs
          rw [hs] at this
          exact Ev.step (fun k => by simp only [rivuletref16_Under.j1, if_true]; rw [if_pos (by omega), if_pos (by omega), if_pos h1, if_pos (by omega), wr1 (by omega)]) this
        · rw [if_neg (by simpa using h1), List.append_nil] at hs
          rw [hs] at this
          exact Ev.step (fun k => by simp only [rivuletref16_Under.j1, if_true]; rw [if_pos (by omega), if_pos (by omega), if_neg h1, wr1 (by omega)]) this
    exact key P.length 0 (by omega)
  · have hz : underN P n = [] := if_neg hok
    rw [hz]
    have fin : Ev (fun k => rivuletref16_Under.j1 k P n [] 0 false) [] := Ev.step (f := fun _ => some []) (fun k => by simp only [rivuletref16_Under.j1]; rw [if_neg (by simp)]) (Ev.now _)
    by_cases hl : 0 < P.length
    · refine Ev.step (f := fun k => (rivuletref16_is.f k P n).bind fun t => rivuletref16_Under.j1 k P n [] 0 t) (fun k => by simp only [rivuletref16_Under.l0]; rw [if_pos (by omega)]) ?_
      refine Ev.bind (is_ev P hP n) ?_
      rw [decide_eq_false hok]
      exact fin
    · exact Ev.step (f := fun k => rivuletref16_Under.j1 k P n [] 0 false) (fun k => by simp only [rivuletref16_Under.l0]; rw [if_neg (by omega)]) fin

theorem topR_ev (P : List Int) (n : Int) (h : okP P n) : Ev (fun k => rivuletref16_Top.f k P n) (topN P n) := by
  unfold rivuletref16_Top.f
  refine path_ind h.1 (Q := fun n => okP P n → Ev (fun k => rivuletref16_Top.l0 k P n) (topN P n)) (fun h => absurd h (okP_m1 P)) (fun n ho ih _ => ?_) P.length n (by have := h.2.1; omega) h.2.2 h.2.2 h
  have h0 := ho.2.1
  have h1 := ho.2.2
  have hr := fits_at ho.1 h0 h1
  by_cases hm : 0 ≤ rd P n
  · have := ih ⟨ho.1, hm, by omega⟩
    rw [topN_up ho hm]
    exact Ev.step (fun k => by simp only [rivuletref16_Top.l0]; rw [if_pos h0, if_pos h1, if_pos hm]) this
  · rw [topN_one ho hm]
    exact Ev.step (f := fun _ => some n) (fun k => by simp only [rivuletref16_Top.l0]; rw [if_pos h0, if_pos h1, if_neg hm]) (Ev.now _)

theorem partR_ev (P : List Int) (hP : P.length ≤ 1000000) (n : Int) : Ev (fun k => rivuletref16_Part.f k P n) (partN P n) := by
  unfold rivuletref16_Part.f
  by_cases hok : okP P n
  · have key : ∀ d i : Nat, i + d = P.length → Ev (fun k => rivuletref16_Part.l0 k P n (pick (fun i => topN P (i : Int) == topN P n) i) (i : Int)) (partN P n) := by
      intro d
      induction d with
      | zero =>
        intro i hi
        obtain rfl : i = P.length := by omega
        have : partN P n = pick (fun i => topN P (i : Int) == topN P n) P.length := if_pos hok
        rw [this]
        exact Ev.step (f := fun k => rivuletref16_Part.j1 k P n (pick (fun i => topN P (i : Int) == topN P n) P.length) (P.length : Int) false) (fun k => by simp only [rivuletref16_Part.l0]; rw [if_neg (by omega)])
          (Ev.step (f := fun _ => some _) (fun k => by simp only [rivuletref16_Part.j1]; rw [if_neg (by simp)]) (Ev.now _))
      | succ d ih =>
        intro i hi
        have hlen := pick_len (fun i => topN P (i : Int) == topN P n) i
        have hs := pick_succ (fun i => topN P (i : Int) == topN P n) i
        have := ih (i + 1) (by omega)
        refine Ev.step (f := fun k => (rivuletref16_is.f k P n).bind fun t => rivuletref16_Part.j1 k P n (pick (fun i => topN P (i : Int) == topN P n) i) (i : Int) t) (fun k => by simp only [rivuletref16_Part.l0]; rw [if_pos (by omega)]) ?_
        refine Ev.bind (is_ev P hP n) ?_
        rw [decide_eq_true hok]
        refine Ev.step (fun k => by simp only [rivuletref16_Part.j1, if_true]; rfl) ?_
        refine Ev.bind (topR_ev P (i : Int) ⟨hok.1, by omega, by omega⟩) ?_
        refine Ev.bind (topR_ev P n hok) ?_
        by_cases h1 : topN P (i : Int) = topN P n
        · rw [if_pos (by simpa using h1)] at hs
          rw [hs] at this
          simp only [if_pos h1]
          exact Ev.congr (fun k => by rw [if_pos (by omega), wr1 (by omega)]) this
        · rw [if_neg (by simpa using h1), List.append_nil] at hs
          rw [hs] at this
          simp only [if_neg h1]
          exact Ev.congr (fun k => by rw [wr1 (by omega)]) this
    exact key P.length 0 (by omega)
  · have hz : partN P n = [] := if_neg hok
    rw [hz]
    have fin : Ev (fun k => rivuletref16_Part.j1 k P n [] 0 false) [] := Ev.step (f := fun _ => some []) (fun k => by simp only [rivuletref16_Part.j1]; rw [if_neg (by simp)]) (Ev.now _)
    by_cases hl : 0 < P.length
    · refine Ev.step (f := fun k => (rivuletref16_is.f k P n).bind fun t => rivuletref16_Part.j1 k P n [] 0 t) (fun k => by simp only [rivuletref16_Part.l0]; rw [if_pos (by omega)]) ?_
      refine Ev.bind (is_ev P hP n) ?_
      rw [decide_eq_false hok]
      exact fin
    · exact Ev.step (f := fun k => rivuletref16_Part.j1 k P n [] 0 false) (fun k => by simp only [rivuletref16_Part.l0]; rw [if_neg (by omega)]) fin
end Go.Proofs.Ytagnpmmcoaemeaa.R16
