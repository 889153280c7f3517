/- What Right, First and the law's own cut come to, as plain functions over lists of lists of numbers. Plain Lean; conditions: at most a million rows of at most a million numbers. -/
import Derived.Test.YtagnpmmcoaemeaaPl3
import Derived.Test.YtagnpmmcoaemeaaR16x4
import Derived.Test.YtagnpmmcoaemeaaR16x5
import Derived.Test.YtagnpmmcoaemeaaR16x9
namespace Go.Proofs.Ytagnpmmcoaemeaa.R16
open Go.RowKit Go.Proofs.YtagnpmmcoaemeaaW.PrintWords Go.Proofs.YtagnpmmcoaemeaaW.PrintLast Go.Proofs.YtagnpmmcoaemeaaW.PrintMore

/-! ### Right -/
def chkRow (row : List Int) (i : Int) : Nat → Nat → Int
  | 0, _ => 0
  | d + 1, k => if rd row (k : Int) < 0 ∨ i ≤ rd row (k : Int) then 12 else if rd row (k : Int) ∈ row.take k then 9 else chkRow row i d (k + 1)
def chkRows (P : List (List Int)) : Nat → Nat → Int
  | 0, _ => 0
  | d + 1, i => if chkRow (rd_L1 P (i : Int)) (i : Int) (rd_L1 P (i : Int)).length 0 = 0 then chkRows P d (i + 1) else chkRow (rd_L1 P (i : Int)) (i : Int) (rd_L1 P (i : Int)).length 0
def badRow (P : List (List Int)) (i : Nat) : Prop := 0 < i ∧ ((rd_L1 P (i : Int)).length = 0 ∨ 4 < (rd_L1 P (i : Int)).length)
instance (P : List (List Int)) (i : Nat) : Decidable (badRow P i) := by unfold badRow; exact inferInstance
def rightN (P : List (List Int)) : Int := if P.length = 0 ∨ 8 < P.length then 1 else if ∃ i : Nat, i < P.length ∧ badRow P i then 1 else chkRows P P.length 0

/-- Rows that are not too long. -/
def small (P : List (List Int)) : Prop := P.length ≤ 1000000 ∧ ∀ i : Nat, (rd_L1 P (i : Int)).length ≤ 1000000

theorem right2 (P : List (List Int)) (hs : small P) (i : Nat) (hi : i < P.length) (x : Int) (next : Ev (fun k => rank_Right.l1 k P (P.length : Int) ((i + 1 : Nat) : Int)) x) :
    ∀ d k : Nat, k + d = (rd_L1 P (i : Int)).length → Ev (fun q => rank_Right.l2 q (i : Int) (rd_L1 P (i : Int)) P (P.length : Int) (i : Int) (rd_L1 P (i : Int)) ((rd_L1 P (i : Int)).length : Int) (k : Int)) (if chkRow (rd_L1 P (i : Int)) (i : Int) d k = 0 then x else chkRow (rd_L1 P (i : Int)) (i : Int) d k) := by
  have hl := hs.2 i
  have hP := hs.1
  generalize rd_L1 P (i : Int) = row at hl ⊢
  intro d
  induction d with
  | zero =>
    intro k hk
    simp only [chkRow, if_true]
    exact Ev.step (fun q => by simp only [rank_Right.l2]; rw [if_neg (by omega), wr1 (by omega)]) next
  | succ d ih =>
    intro k hk
    by_cases h1 : rd row (k : Int) < 0
    · have e : chkRow row (i : Int) (d + 1) k = 12 := by simp only [chkRow]; rw [if_pos (.inl h1)]
      rw [e, if_neg (by decide)]
      exact Ev.step (f := fun q => rank_Right.j4 q (i : Int) row (k : Int) (rd row (k : Int)) P (P.length : Int) (i : Int) row (row.length : Int) (k : Int) true) (fun q => by simp only [rank_Right.l2]; rw [if_pos (by omega), if_pos (by omega), if_pos (by omega), if_pos h1])
        (Ev.step (f := fun _ => some 12) (fun q => by simp only [rank_Right.j4, if_true]) (Ev.now _))
    · by_cases h2 : (i : Int) ≤ rd row (k : Int)
      · have e : chkRow row (i : Int) (d + 1) k = 12 := by simp only [chkRow]; rw [if_pos (.inr h2)]
        rw [e, if_neg (by decide)]
        exact Ev.step (f := fun q => rank_Right.j4 q (i : Int) row (k : Int) (rd row (k : Int)) P (P.length : Int) (i : Int) row (row.length : Int) (k : Int) true) (fun q => by simp only [rank_Right.l2]; rw [if_pos (by omega), if_pos (by omega), if_pos (by omega), if_neg h1, decide_eq_true (show rd row (k : Int) ≥ (i : Int) from h2)])
          (Ev.step (f := fun _ => some 12) (fun q => by simp only [rank_Right.j4, if_true]) (Ev.now _))
      · refine Ev.step (f := fun q => rank_Right.j4 q (i : Int) row (k : Int) (rd row (k : Int)) P (P.length : Int) (i : Int) row (row.length : Int) (k : Int) false) (fun q => by simp only [rank_Right.l2]; rw [if_pos (by omega), if_pos (by omega), if_pos (by omega), if_neg h1, decide_eq_false (show ¬ rd row (k : Int) ≥ (i : Int) from h2)]) ?_
        refine Ev.step (f := fun q => (slices_Contains_int_int.f q (row.take k) (rd row (k : Int))).bind fun t => if t = true then some 9 else rank_Right.l2 q (i : Int) row P (P.length : Int) (i : Int) row (row.length : Int) ((k + 1 : Nat) : Int)) (fun q => by simp only [rank_Right.j4, if_neg Bool.false_ne_true]; rw [if_pos (by omega), if_pos (by omega), wr1 (by omega)]; rfl) ?_
        refine Ev.bind (cont_ev (row.take k) (rd row (k : Int)) (by rw [List.length_take]; omega)) ?_
        by_cases h3 : rd row (k : Int) ∈ row.take k
        · have e : chkRow row (i : Int) (d + 1) k = 9 := by simp only [chkRow]; rw [if_neg (by omega), if_pos h3]
          rw [e, if_neg (by decide)]
          simp only [decide_eq_true h3, if_true]
          exact Ev.now _
        · have e : chkRow row (i : Int) (d + 1) k = chkRow row (i : Int) d (k + 1) := by simp only [chkRow]; rw [if_neg (by omega), if_neg h3]
          rw [e]
          simp only [decide_eq_false h3, if_neg Bool.false_ne_true]
          exact ih (k + 1) (by omega)
theorem right1 (P : List (List Int)) (hs : small P) : ∀ d i : Nat, i + d = P.length → Ev (fun k => rank_Right.l1 k P (P.length : Int) (i : Int)) (chkRows P d i) := by
  have hP := hs.1
  intro d
  induction d with
  | zero =>
    intro i hi
    exact Ev.step (f := fun _ => some 0) (fun k => by simp only [rank_Right.l1]; rw [if_neg (by omega)]) (Ev.now _)
  | succ d ih =>
    intro i hi
    refine Ev.step (fun k => by simp only [rank_Right.l1]; rw [if_pos (by omega), if_pos (by omega), if_pos (by omega)]) ?_
    have := right2 P hs i (by omega) _ (ih (i + 1) (by omega)) _ 0 (Nat.zero_add _)
    simp only [chkRows]
    exact this
theorem right0 (P : List (List Int)) (hs : small P) : ∀ d i : Nat, i + d = P.length → (∀ j : Nat, j < i → ¬ badRow P j) → Ev (fun k => rank_Right.l0 k P P (P.length : Int) (i : Int)) (if ∃ i : Nat, i < P.length ∧ badRow P i then 1 else chkRows P P.length 0) := by
  have hP := hs.1
  intro d
  induction d with
  | zero =>
    intro i hi hj
    rw [if_neg (fun ⟨j, h1, h2⟩ => hj j (by omega) h2)]
    exact Ev.step (f := fun k => rank_Right.l1 k P (P.length : Int) ((0 : Nat) : Int)) (fun k => by simp only [rank_Right.l0]; rw [if_neg (by omega)]; rfl) (right1 P hs _ 0 (Nat.zero_add _))
  | succ d ih =>
    intro i hi hj
    by_cases hb : badRow P i
    · rw [if_pos ⟨i, by omega, hb⟩]
      obtain ⟨h0, h1⟩ := hb
      by_cases hz : (rd_L1 P (i : Int)).length = 0
      · exact Ev.step (f := fun _ => some 1) (fun k => by simp only [rank_Right.l0]; rw [if_pos (by omega), if_pos (by omega), if_pos (by omega), if_pos (by omega), if_pos (by omega)]) (Ev.now _)
      · exact Ev.step (f := fun _ => some 1) (fun k => by simp only [rank_Right.l0]; rw [if_pos (by omega), if_pos (by omega), if_pos (by omega), if_pos (by omega), if_neg (by omega), if_pos (by omega)]) (Ev.now _)
    · have next := ih (i + 1) (by omega) (fun j hlt => by
        by_cases e : j = i
        · subst e; exact hb
        · exact hj j (by omega))
      by_cases h0 : 0 < i
      · have h1 : ¬ (rd_L1 P (i : Int)).length = 0 := fun h => hb ⟨h0, .inl h⟩
        have h2 : ¬ 4 < (rd_L1 P (i : Int)).length := fun h => hb ⟨h0, .inr h⟩
        exact Ev.step (fun k => by simp only [rank_Right.l0]; rw [if_pos (by omega), if_pos (by omega), if_pos (by omega), if_pos (by omega), if_neg (by omega), if_neg (by omega), wr1 (by omega)]) next
      · exact Ev.step (fun k => by simp only [rank_Right.l0]; rw [if_pos (by omega), if_pos (by omega), if_pos (by omega), if_neg (by omega), wr1 (by omega)]) next
theorem right_ev (P : List (List Int)) (hs : small P) : Ev (fun k => rank_Right.f k P) (rightN P) := by
  unfold rank_Right.f rightN
  by_cases h0 : P.length = 0
  · rw [if_pos (.inl h0)]
    exact Ev.congr (fun k => by rw [if_pos (by omega)]) (Ev.step (f := fun _ => some 1) (fun k => by simp only [rank_Right.j0, if_true]) (Ev.now _))
  · by_cases h1 : 8 < P.length
    · rw [if_pos (.inr h1)]
      exact Ev.congr (f := fun k => rank_Right.j0 k P true) (fun k => by rw [if_neg (by omega), decide_eq_true (show (P.length : Int) > 8 by omega)]) (Ev.step (f := fun _ => some 1) (fun k => by simp only [rank_Right.j0, if_true]) (Ev.now _))
    · rw [if_neg (by omega)]
      exact Ev.congr (f := fun k => rank_Right.j0 k P false) (fun k => by rw [if_neg (by omega), decide_eq_false (show ¬ (P.length : Int) > 8 by omega)]) (Ev.step (f := fun k => rank_Right.l0 k P P (P.length : Int) ((0 : Nat) : Int)) (fun k => by simp only [rank_Right.j0, if_neg Bool.false_ne_true]; rfl) (right0 P hs _ 0 (Nat.zero_add _) (fun j h => by omega)))

/-- What a right plan is. -/
structure RightP (P : List (List Int)) : Prop where
  n1 : 1 ≤ P.length
  n8 : P.length ≤ 8
  r1 : ∀ i : Nat, 0 < i → i < P.length → 1 ≤ (rd_L1 P (i : Int)).length ∧ (rd_L1 P (i : Int)).length ≤ 4
  low : ∀ i k : Nat, i < P.length → k < (rd_L1 P (i : Int)).length → 0 ≤ rd (rd_L1 P (i : Int)) (k : Int) ∧ rd (rd_L1 P (i : Int)) (k : Int) < i
  one : ∀ i k : Nat, i < P.length → k < (rd_L1 P (i : Int)).length → rd (rd_L1 P (i : Int)) (k : Int) ∉ (rd_L1 P (i : Int)).take k
theorem chkRow_ok (row : List Int) (i : Int) : ∀ d k : Nat, chkRow row i d k = 0 → ∀ j : Nat, k ≤ j → j < k + d → (0 ≤ rd row (j : Int) ∧ rd row (j : Int) < i) ∧ rd row (j : Int) ∉ row.take j
  | 0, k, _, j, h1, h2 => by omega
  | d + 1, k, h, j, h1, h2 => by
    simp only [chkRow] at h
    by_cases a : rd row (k : Int) < 0 ∨ i ≤ rd row (k : Int)
    · rw [if_pos a] at h; exact absurd h (by decide)
    · rw [if_neg a] at h
      by_cases b : rd row (k : Int) ∈ row.take k
      · rw [if_pos b] at h; exact absurd h (by decide)
      · rw [if_neg b] at h
        by_cases e : j = k
        · subst e; exact ⟨by omega, b⟩
        · exact chkRow_ok row i d (k + 1) h j (by omega) (by omega)
theorem chkRows_ok (P : List (List Int)) : ∀ d i : Nat, chkRows P d i = 0 → ∀ j : Nat, i ≤ j → j < i + d → chkRow (rd_L1 P (j : Int)) (j : Int) (rd_L1 P (j : Int)).length 0 = 0
  | 0, i, _, j, h1, h2 => by omega
  | d + 1, i, h, j, h1, h2 => by
    simp only [chkRows] at h
    by_cases a : chkRow (rd_L1 P (i : Int)) (i : Int) (rd_L1 P (i : Int)).length 0 = 0
    · rw [if_pos a] at h
      by_cases e : j = i
      · subst e; exact a
      · exact chkRows_ok P d (i + 1) h j (by omega) (by omega)
    · rw [if_neg a] at h; exact absurd h a
theorem right_ok {P : List (List Int)} (h : rightN P = 0) : RightP P := by
  unfold rightN at h
  by_cases a : P.length = 0 ∨ 8 < P.length
  · rw [if_pos a] at h; exact absurd h (by decide)
  · rw [if_neg a] at h
    by_cases b : ∃ i : Nat, i < P.length ∧ badRow P i
    · rw [if_pos b] at h; exact absurd h (by decide)
    · rw [if_neg b] at h
      have hr := chkRows_ok P P.length 0 h
      refine ⟨by omega, by omega, fun i h0 h1 => ?_, fun i k hi hk => ?_, fun i k hi hk => ?_⟩
      · have : ¬ badRow P i := fun hb => b ⟨i, h1, hb⟩
        unfold badRow at this
        omega
      · exact (chkRow_ok _ _ _ 0 (hr i (by omega) (by omega)) k (by omega) (by omega)).1
      · exact (chkRow_ok _ _ _ 0 (hr i (by omega) (by omega)) k (by omega) (by omega)).2

/-! ### First -/
def firstN (P : List (List Int)) : List Int := if rightN P = 0 then (-1) :: (P.drop 1).map (fun row => rd row 0) else []
theorem first_go (Q : List (List Int)) (hQ : Q.length ≤ 1000000) (hr : ∀ i : Nat, i < Q.length → 0 < (rd_L1 Q (i : Int)).length) :
    ∀ d i : Nat, i + d = Q.length → Ev (fun k => rank_First.l0 k ((-1) :: (Q.take i).map (fun row => rd row 0)) Q (Q.length : Int) (i : Int)) ((-1) :: Q.map (fun row => rd row 0)) := by
  intro d
  induction d with
  | zero =>
    intro i hi
    obtain rfl : i = Q.length := by omega
    rw [List.take_length]
    exact Ev.step (f := fun _ => some _) (fun k => by simp only [rank_First.l0]; rw [if_neg (by omega)]) (Ev.now _)
  | succ d ih =>
    intro i hi
    have hlt : i < Q.length := by omega
    have h := ih (i + 1) (by omega)
    have hrow : rd_L1 Q (i : Int) = Q[i] := by simp [rd_L1, List.getD, hlt]
    have e : (-1) :: (Q.take (i + 1)).map (fun row => rd row 0) = ((-1) :: (Q.take i).map (fun row => rd row 0)) ++ [rd (rd_L1 Q (i : Int)) 0] := by
      rw [List.take_succ_eq_append_getElem hlt, hrow, List.map_append]; rfl
    rw [e] at h
    have h2 := hr i hlt
    exact Ev.step (fun k => by simp only [rank_First.l0]; rw [if_pos (by omega), if_pos (by omega), if_pos (by omega), if_pos (by omega), if_pos (by simp; omega), wr1 (by omega)]) h
theorem rd_L1_drop (P : List (List Int)) (i : Nat) : rd_L1 (P.drop 1) (i : Int) = rd_L1 P ((i + 1 : Nat) : Int) := by simp [rd_L1, List.getD, Nat.add_comm]
theorem first_ev (P : List (List Int)) (hs : small P) : Ev (fun k => rank_First.f k P) (firstN P) := by
  unfold rank_First.f
  refine Ev.bind (right_ev P hs) ?_
  unfold firstN
  by_cases h : rightN P = 0
  · have ho := right_ok h
    have h1 := ho.n1
    simp only [if_pos h, if_pos (show (1 : Int) ≤ (P.length : Int) by omega), Option.bind_some]
    have := first_go (P.drop 1) (by have := ho.n8; simp; omega) (fun i hi => by
      rw [rd_L1_drop]
      have := (ho.r1 (i + 1) (by omega) (by simp at hi; omega)).1
      omega) _ 0 (Nat.zero_add _)
    simpa using this
  · simp only [if_neg h]
    exact Ev.now _

/-! ### cut -/
def cutN (P : List (List Int)) : List (List Int) := (P.take 10).map (·.take 6)
theorem cut_ev (P : List (List Int)) : Ev (fun k => rivuletlaw16_cut.f k P) (cutN P) := by
  unfold rivuletlaw16_cut.f
  have key : ∀ d i : Nat, i + d = min P.length 10 → Ev (fun k => rivuletlaw16_cut.l0 k P ((P.take i).map (·.take 6)) (i : Int)) (cutN P) := by
    intro d
    induction d with
    | zero =>
      intro i hi
      have : cutN P = (P.take i).map (·.take 6) := by
        unfold cutN
        congr 1
        rcases Nat.le_total P.length 10 with h | h
        · rw [List.take_of_length_le (by omega), List.take_of_length_le (by omega)]
        · congr 1; omega
      rw [this]
      by_cases h : i < P.length
      · exact Ev.step (f := fun _ => some _) (fun k => by simp only [rivuletlaw16_cut.l0]; rw [if_pos (by omega), if_neg (by omega)]) (Ev.now _)
      · exact Ev.step (f := fun _ => some _) (fun k => by simp only [rivuletlaw16_cut.l0]; rw [if_neg (by omega)]) (Ev.now _)
    | succ d ih =>
      intro i hi
      have hlt : i < P.length := by omega
      have h := ih (i + 1) (by omega)
      have hrow : rd_L1 P (i : Int) = P[i] := by simp [rd_L1, List.getD, hlt]
      obtain ⟨m, hm, h1, h2, h3⟩ : ∃ m : Int, mn ((rd_L1 P (i : Int)).length : Int) 6 = m ∧ 0 ≤ m ∧ m ≤ (rd_L1 P (i : Int)).length ∧ m.toNat = min (rd_L1 P (i : Int)).length 6 := by
        refine ⟨_, rfl, ?_⟩
        unfold mn
        split <;> omega
      have ht : (rd_L1 P (i : Int)).take m.toNat = (rd_L1 P (i : Int)).take 6 := by
        rw [h3]
        rcases Nat.le_total (rd_L1 P (i : Int)).length 6 with h | h
        · rw [List.take_of_length_le (by omega), List.take_of_length_le (by omega)]
        · congr 1; omega
      have e : (P.take (i + 1)).map (·.take 6) = (P.take i).map (·.take 6) ++ [(rd_L1 P (i : Int)).take m.toNat] := by
        rw [ht, List.take_succ_eq_append_getElem hlt, hrow, List.map_append]; rfl
      rw [e] at h
      exact Ev.step (fun k => by simp only [rivuletlaw16_cut.l0, hm]; rw [if_pos (by omega), if_pos (by omega), if_pos (by omega), if_pos h1, if_pos h2, if_pos (by simp; omega), wr1 (by omega)]) h
  exact key _ 0 (Nat.zero_add _)
theorem cut_small (P : List (List Int)) : small (cutN P) ∧ (cutN P).length ≤ 10 := by
  have hl : (cutN P).length ≤ 10 := by simp [cutN]; omega
  refine ⟨⟨by omega, fun i => ?_⟩, hl⟩
  by_cases h : i < (cutN P).length
  · have : rd_L1 (cutN P) (i : Int) = (cutN P)[i] := by simp [rd_L1, List.getD, h]
    rw [this]
    simp [cutN]
    omega
  · have : rd_L1 (cutN P) (i : Int) = [] := by simp [rd_L1, List.getD, Nat.le_of_not_lt h]
    rw [this]
    simp
end Go.Proofs.Ytagnpmmcoaemeaa.R16
