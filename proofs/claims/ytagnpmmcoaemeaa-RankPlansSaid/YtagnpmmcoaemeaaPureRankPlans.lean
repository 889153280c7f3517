/- What is wrong with any plan, the parents at first, and who is next to be a node's parent, is as the document says: the document's Right, First and Choose come to the same plain functions as the program's. Plain Lean; no conditions at the end. -/
import Derived.Test.YtagnpmmcoaemeaaR16px4
import Derived.Test.YtagnpmmcoaemeaaPureRankTurns
import Derived.Test.YtagnpmmcoaemeaaPureRankFirst
namespace Go.Proofs.Ytagnpmmcoaemeaa.Pure
open Go.RowKit Go.Proofs.Ytagnpmmcoaemeaa.R16 Go.Proofs.YtagnpmmcoaemeaaW.PrintWords Go.Proofs.YtagnpmmcoaemeaaW.PrintLast Go.Proofs.YtagnpmmcoaemeaaW.PrintMore

theorem mem_take_rd {row : List Int} {k : Nat} (hk : k ≤ row.length) {x : Int} : x ∈ row.take k ↔ ∃ t : Nat, t < k ∧ rd row (t : Int) = x := by
  constructor
  · intro h
    obtain ⟨t, ht, e⟩ := List.mem_iff_getElem.1 h
    rw [List.length_take] at ht
    rw [List.getElem_take] at e
    exact ⟨t, by omega, by rw [rd_get (by omega)]; exact e⟩
  · rintro ⟨t, ht, e⟩
    rw [rd_get (by omega)] at e
    exact List.mem_iff_getElem.2 ⟨t, by rw [List.length_take]; omega, by rw [List.getElem_take]; exact e⟩

/-! ### the document's Right -/
theorem refR3 (P : List (List Int)) (hs : small P) (i : Nat) (hi : i < P.length) (k : Nat) (hk : k < (rd_L1 P (i : Int)).length) (y : Int)
    (next : rd (rd_L1 P (i : Int)) (k : Int) ∉ (rd_L1 P (i : Int)).take k → Ev (fun q => rivuletref16_Right.l2 q P (i : Int) ((k + 1 : Nat) : Int)) y) :
    ∀ d j : Nat, j + d = k → (∀ t : Nat, t < j → rd (rd_L1 P (i : Int)) (t : Int) ≠ rd (rd_L1 P (i : Int)) (k : Int)) →
      Ev (fun q => rivuletref16_Right.l3 q P (i : Int) (k : Int) (j : Int)) (if rd (rd_L1 P (i : Int)) (k : Int) ∈ (rd_L1 P (i : Int)).take k then 9 else y) := by
  have hl := hs.2 i
  have hP := hs.1
  intro d
  induction d with
  | zero =>
    intro j hj hn
    obtain rfl : j = k := by omega
    have hno : rd (rd_L1 P (i : Int)) (j : Int) ∉ (rd_L1 P (i : Int)).take j := fun h => by
      obtain ⟨t, ht, e⟩ := (mem_take_rd (by omega)).1 h
      exact hn t ht e
    rw [if_neg hno]
    exact Ev.step (fun q => by simp only [rivuletref16_Right.l3]; rw [if_neg (by omega), wr1 (by omega)]) (next hno)
  | succ d ih =>
    intro j hj hn
    by_cases h : rd (rd_L1 P (i : Int)) (j : Int) = rd (rd_L1 P (i : Int)) (k : Int)
    · rw [if_pos ((mem_take_rd (by omega)).2 ⟨j, by omega, h⟩)]
      exact Ev.step (f := fun _ => some 9) (fun q => by simp only [rivuletref16_Right.l3]; rw [if_pos (by omega), if_pos (by omega), if_pos (by omega), if_pos (by omega), if_pos (by omega), if_pos (by omega), if_pos (by omega), if_pos h]) (Ev.now _)
    · exact Ev.step (fun q => by simp only [rivuletref16_Right.l3]; rw [if_pos (by omega), if_pos (by omega), if_pos (by omega), if_pos (by omega), if_pos (by omega), if_pos (by omega), if_pos (by omega), if_neg h, wr1 (by omega)])
        (ih (j + 1) (by omega) (fun t ht => by
          by_cases e : t = j
          · subst e; exact h
          · exact hn t (by omega)))

theorem refR2 (P : List (List Int)) (hs : small P) (i : Nat) (hi : i < P.length) (x : Int) (next : Ev (fun k => rivuletref16_Right.l1 k P ((i + 1 : Nat) : Int)) x) :
    ∀ d k : Nat, k + d = (rd_L1 P (i : Int)).length → Ev (fun q => rivuletref16_Right.l2 q P (i : Int) (k : Int)) (if chkRow (rd_L1 P (i : Int)) (i : Int) d k = 0 then x else chkRow (rd_L1 P (i : Int)) (i : Int) d k) := by
  have hl := hs.2 i
  have hP := hs.1
  intro d
  induction d with
  | zero =>
    intro k hk
    simp only [chkRow, if_true]
    exact Ev.step (fun q => by simp only [rivuletref16_Right.l2]; rw [if_pos (by omega), if_pos (by omega), if_neg (by omega), wr1 (by omega)]) next
  | succ d ih =>
    intro k hk
    by_cases h1 : rd (rd_L1 P (i : Int)) (k : Int) < 0
    · have e : chkRow (rd_L1 P (i : Int)) (i : Int) (d + 1) k = 12 := by simp only [chkRow]; rw [if_pos (.inl h1)]
      rw [e, if_neg (by decide)]
      exact Ev.step (f := fun q => rivuletref16_Right.j4 q P (i : Int) (k : Int) true) (fun q => by simp only [rivuletref16_Right.l2]; rw [if_pos (by omega), if_pos (by omega), if_pos (by omega), if_pos (by omega), if_pos h1])
        (Ev.step (f := fun _ => some 12) (fun q => by simp only [rivuletref16_Right.j4, if_true]) (Ev.now _))
    · by_cases h2 : (i : Int) ≤ rd (rd_L1 P (i : Int)) (k : Int)
      · have e : chkRow (rd_L1 P (i : Int)) (i : Int) (d + 1) k = 12 := by simp only [chkRow]; rw [if_pos (.inr h2)]
        rw [e, if_neg (by decide)]
        exact Ev.step (f := fun q => rivuletref16_Right.j4 q P (i : Int) (k : Int) true) (fun q => by simp only [rivuletref16_Right.l2]; rw [if_pos (by omega), if_pos (by omega), if_pos (by omega), if_pos (by omega), if_neg h1, decide_eq_true (show rd (rd_L1 P (i : Int)) (k : Int) ≥ (i : Int) from h2)])
          (Ev.step (f := fun _ => some 12) (fun q => by simp only [rivuletref16_Right.j4, if_true]) (Ev.now _))
      · refine Ev.step (f := fun q => rivuletref16_Right.j4 q P (i : Int) (k : Int) false) (fun q => by simp only [rivuletref16_Right.l2]; rw [if_pos (by omega), if_pos (by omega), if_pos (by omega), if_pos (by omega), if_neg h1, decide_eq_false (show ¬ rd (rd_L1 P (i : Int)) (k : Int) ≥ (i : Int) from h2)]) ?_
        refine Ev.step (f := fun q => rivuletref16_Right.l3 q P (i : Int) (k : Int) ((0 : Nat) : Int)) (fun q => by simp only [rivuletref16_Right.j4, if_neg Bool.false_ne_true]; rfl) ?_
        have e : chkRow (rd_L1 P (i : Int)) (i : Int) (d + 1) k = if rd (rd_L1 P (i : Int)) (k : Int) ∈ (rd_L1 P (i : Int)).take k then 9 else chkRow (rd_L1 P (i : Int)) (i : Int) d (k + 1) := by
          simp only [chkRow]; rw [if_neg (by omega)]
        have h3 := refR3 P hs i hi k (by omega) (if chkRow (rd_L1 P (i : Int)) (i : Int) d (k + 1) = 0 then x else chkRow (rd_L1 P (i : Int)) (i : Int) d (k + 1)) (fun _ => ih (k + 1) (by omega)) k 0 (Nat.zero_add _) (fun t ht => by omega)
        rw [e]
        by_cases hm : rd (rd_L1 P (i : Int)) (k : Int) ∈ (rd_L1 P (i : Int)).take k
        · simp only [if_pos hm] at h3 ⊢
          exact h3
        · simp only [if_neg hm] at h3 ⊢
          exact h3
theorem refR1 (P : List (List Int)) (hs : small P) : ∀ d i : Nat, i + d = P.length → Ev (fun k => rivuletref16_Right.l1 k P (i : Int)) (chkRows P d i) := by
  have hP := hs.1
  intro d
  induction d with
  | zero =>
    intro i hi
    exact Ev.step (f := fun _ => some 0) (fun k => by simp only [rivuletref16_Right.l1]; rw [if_neg (by omega)]) (Ev.now _)
  | succ d ih =>
    intro i hi
    refine Ev.step (f := fun k => rivuletref16_Right.l2 k P (i : Int) ((0 : Nat) : Int)) (fun k => by simp only [rivuletref16_Right.l1]; rw [if_pos (by omega)]; rfl) ?_
    have := refR2 P hs i (by omega) _ (ih (i + 1) (by omega)) _ 0 (Nat.zero_add _)
    simp only [chkRows]
    exact this
theorem refR0 (P : List (List Int)) (hs : small P) (h0 : 1 ≤ P.length) : ∀ d i : Nat, 1 ≤ i → i + d = P.length → (∀ j : Nat, j < i → ¬ badRow P j) → Ev (fun k => rivuletref16_Right.l0 k P (i : Int)) (if ∃ i : Nat, i < P.length ∧ badRow P i then 1 else chkRows P P.length 0) := by
  have hP := hs.1
  intro d
  induction d with
  | zero =>
    intro i h1 hi hj
    rw [if_neg (fun ⟨j, h1, h2⟩ => hj j (by omega) h2)]
    exact Ev.step (f := fun k => rivuletref16_Right.l1 k P ((0 : Nat) : Int)) (fun k => by simp only [rivuletref16_Right.l0]; rw [if_neg (by omega)]; rfl) (refR1 P hs _ 0 (Nat.zero_add _))
  | succ d ih =>
    intro i h1 hi hj
    by_cases hb : badRow P i
    · rw [if_pos ⟨i, by omega, hb⟩]
      obtain ⟨h0, h1⟩ := hb
      by_cases hz : (rd_L1 P (i : Int)).length = 0
      · exact Ev.step (f := fun _ => some 1) (fun k => by simp only [rivuletref16_Right.l0]; rw [if_pos (by omega), if_pos (by omega), if_pos (by omega)]) (Ev.now _)
      · exact Ev.step (f := fun _ => some 1) (fun k => by simp only [rivuletref16_Right.l0]; rw [if_pos (by omega), if_pos (by omega), if_neg (by omega), if_pos (by omega)]) (Ev.now _)
    · have next := ih (i + 1) (by omega) (by omega) (fun j hlt => by
        by_cases e : j = i
        · subst e; exact hb
        · exact hj j (by omega))
      have h2 : ¬ (rd_L1 P (i : Int)).length = 0 := fun h => hb ⟨h1, .inl h⟩
      have h3 : ¬ 4 < (rd_L1 P (i : Int)).length := fun h => hb ⟨h1, .inr h⟩
      exact Ev.step (fun k => by simp only [rivuletref16_Right.l0]; rw [if_pos (by omega), if_pos (by omega), if_neg (by omega), if_neg (by omega), wr1 (by omega)]) next
theorem refRight_ev (P : List (List Int)) (hs : small P) : Ev (fun k => rivuletref16_Right.f k P) (rightN P) := by
  unfold rivuletref16_Right.f rightN
  by_cases h0 : P.length = 0
  · rw [if_pos (.inl h0)]
    exact Ev.congr (fun k => by rw [if_pos (by omega)]) (Ev.step (f := fun _ => some 1) (fun k => by simp only [rivuletref16_Right.j0, if_true]) (Ev.now _))
  · by_cases h1 : 8 < P.length
    · rw [if_pos (.inr h1)]
      exact Ev.congr (f := fun k => rivuletref16_Right.j0 k P true) (fun k => by rw [if_neg (by omega), decide_eq_true (show (P.length : Int) > 8 by omega)]) (Ev.step (f := fun _ => some 1) (fun k => by simp only [rivuletref16_Right.j0, if_true]) (Ev.now _))
    · rw [if_neg (by omega)]
      exact Ev.congr (f := fun k => rivuletref16_Right.j0 k P false) (fun k => by rw [if_neg (by omega), decide_eq_false (show ¬ (P.length : Int) > 8 by omega)]) (Ev.step (f := fun k => rivuletref16_Right.l0 k P ((1 : Nat) : Int)) (fun k => by simp only [rivuletref16_Right.j0, if_neg Bool.false_ne_true]; rfl) (refR0 P hs (by omega) (P.length - 1) 1 (by omega) (by omega) (fun j h => by
        obtain rfl : j = 0 := by omega
        exact fun hb => absurd hb.1 (by omega))))

/-! ### the document's First -/
theorem refFirst_go (P : List (List Int)) (hs : small P) (h : rightN P = 0) : ∀ d i : Nat, i + d = P.length → Ev (fun k => rivuletref16_First.l0 k P ((firstN P).take i) (i : Int)) (firstN P) := by
  have hP := hs.1
  have hl := first_len h
  have ho := right_ok h
  intro d
  induction d with
  | zero =>
    intro i hi
    rw [List.take_of_length_le (by omega)]
    refine Ev.step (f := fun k => rivuletref16_First.j1 k P (firstN P) (i : Int) false) (fun k => by simp only [rivuletref16_First.l0]; rw [if_neg (by omega)]) ?_
    exact Ev.step (f := fun _ => some (firstN P)) (fun k => by simp only [rivuletref16_First.j1, if_neg Bool.false_ne_true]) (Ev.now _)
  | succ d ih =>
    intro i hi
    have next := ih (i + 1) (by omega)
    have hlt : i < (firstN P).length := by omega
    rw [List.take_succ_eq_append_getElem hlt, ← rd_get hlt] at next
    have htl : ((firstN P).take i).length < 17592186044416 := by rw [List.length_take]; omega
    refine Ev.step (f := fun k => (rivuletref16_Right.f k P).bind fun t => rivuletref16_First.j1 k P ((firstN P).take i) (i : Int) (t == 0)) (fun k => by simp only [rivuletref16_First.l0]; rw [if_pos (by omega)]) ?_
    refine Ev.bind (refRight_ev P hs) ?_
    rw [h]
    simp only [show ((0 : Int) == 0) = true from rfl]
    by_cases hz : i = 0
    · subst hz
      have e : rd (firstN P) ((0 : Nat) : Int) = -1 := first_zero h
      rw [e] at next
      exact Ev.step (fun k => by simp only [rivuletref16_First.j1, if_true]; rw [if_pos (by omega), if_pos htl, wr1 (by omega)]) next
    · obtain ⟨q, rfl⟩ : ∃ q, i = q + 1 := ⟨i - 1, by omega⟩
      rw [first_succ h (by omega)] at next
      have hrow := (ho.r1 (q + 1) (by omega) (by omega)).1
      exact Ev.step (fun k => by simp only [rivuletref16_First.j1, if_true]; rw [if_neg (by omega), if_pos (by omega), if_pos (by omega), if_pos (by omega), if_pos htl, wr1 (by omega)]) next
theorem refFirst_ev (P : List (List Int)) (hs : small P) : Ev (fun k => rivuletref16_First.f k P) (firstN P) := by
  unfold rivuletref16_First.f
  by_cases h : rightN P = 0
  · exact refFirst_go P hs h P.length 0 (Nat.zero_add _)
  · have e : firstN P = [] := if_neg h
    rw [e]
    by_cases hz : 0 < P.length
    · refine Ev.step (f := fun k => (rivuletref16_Right.f k P).bind fun t => rivuletref16_First.j1 k P [] 0 (t == 0)) (fun k => by simp only [rivuletref16_First.l0]; rw [if_pos (by omega)]) ?_
      refine Ev.bind (refRight_ev P hs) ?_
      rw [beq_eq_false_iff_ne.2 h]
      exact Ev.step (f := fun _ => some []) (fun k => by simp only [rivuletref16_First.j1, if_neg Bool.false_ne_true]) (Ev.now _)
    · refine Ev.step (f := fun k => rivuletref16_First.j1 k P [] 0 false) (fun k => by simp only [rivuletref16_First.l0]; rw [if_neg (by omega)]) ?_
      exact Ev.step (f := fun _ => some []) (fun k => by simp only [rivuletref16_First.j1, if_neg Bool.false_ne_true]) (Ev.now _)

/-! ### the document's Choose -/
theorem has_ev (l : List Int) (a : Int) (hl : l.length ≤ 1000000) : Ev (fun k => rivuletref16_has.f k l a) (decide (a ∈ l)) := by
  unfold rivuletref16_has.f
  have key : ∀ d j : Nat, j + d = l.length → (∀ t : Nat, t < j → rd l (t : Int) ≠ a) → Ev (fun k => rivuletref16_has.l0 k l a (j : Int)) (decide (a ∈ l)) := by
    intro d
    induction d with
    | zero =>
      intro j hj hn
      have hno : a ∉ l := fun h => by
        obtain ⟨t, ht, e⟩ := List.mem_iff_getElem.1 h
        exact hn t (by omega) (by rw [rd_get ht]; exact e)
      rw [decide_eq_false hno]
      exact Ev.step (f := fun _ => some false) (fun k => by simp only [rivuletref16_has.l0]; rw [if_neg (by omega)]) (Ev.now _)
    | succ d ih =>
      intro j hj hn
      by_cases h : rd l (j : Int) = a
      · have hy : a ∈ l := by rw [← h]; exact rd_mem (by omega)
        rw [decide_eq_true hy]
        exact Ev.step (f := fun _ => some true) (fun k => by simp only [rivuletref16_has.l0]; rw [if_pos (by omega), if_pos (by omega), if_pos h]) (Ev.now _)
      · exact Ev.step (fun k => by simp only [rivuletref16_has.l0]; rw [if_pos (by omega), if_pos (by omega), if_neg h, wr1 (by omega)]) (ih (j + 1) (by omega) (fun t ht => by
          by_cases e : t = j
          · subst e; exact h
          · exact hn t (by omega)))
  exact key l.length 0 (Nat.zero_add _) (fun t ht => by omega)

/-- Who is next, of the row, from the turn j on. -/
def nextN (row wo : List Int) (s : Nat) : Nat → Nat → Int × Bool
  | 0, _ => (0, false)
  | d + 1, j => if rd row (((s + j) % row.length : Nat) : Int) ∈ wo then nextN row wo s d (j + 1) else (rd row (((s + j) % row.length : Nat) : Int), true)
theorem next_find (row wo : List Int) (s : Nat) (at_ : Int) (hs : at_ + 1 = (s : Int)) : ∀ d j : Nat, (match (((List.range d).map fun t => rotAt row at_ (j + t)).find? (fun x => !decide (x ∈ wo))) with | some x => (x, true) | none => ((0 : Int), false)) = nextN row wo s d j := by
  intro d
  induction d with
  | zero => intro j; rfl
  | succ d ih =>
    intro j
    rw [List.range_succ_eq_map, List.map_cons, List.map_map]
    have e : rotAt row at_ (j + 0) = rd row (((s + j) % row.length : Nat) : Int) := by
      unfold rotAt
      rw [hs]
      simp
    have e2 : (List.range d).map ((fun t => rotAt row at_ (j + t)) ∘ Nat.succ) = (List.range d).map fun t => rotAt row at_ (j + 1 + t) := List.map_congr_left fun t _ => by
      show rotAt row at_ (j + (t + 1)) = _
      congr 1
      omega
    rw [e, e2]
    simp only [nextN]
    by_cases h : rd row (((s + j) % row.length : Nat) : Int) ∈ wo
    · rw [if_pos h, List.find?_cons_of_neg (by show ¬ (!decide (_ ∈ wo)) = true; rw [decide_eq_true h]; decide)]
      exact ih (j + 1)
    · rw [if_neg h, List.find?_cons_of_pos (by show (!decide (_ ∈ wo)) = true; rw [decide_eq_false h]; rfl)]
theorem choose_next {P : List (List Int)} {n last : Int} (wo : List Int) (h0 : 0 ≤ n) (h1 : n < P.length) {s : Nat} (hs : idxN (rd_L1 P n) last + 1 = (s : Int)) :
    chooseN P n last wo = nextN (rd_L1 P n) wo s (rd_L1 P n).length 0 := by
  unfold chooseN
  rw [if_pos ⟨h0, h1⟩]
  have e : (if last ∈ rd_L1 P n then ((rd_L1 P n).idxOf last : Int) else -1) = idxN (rd_L1 P n) last := rfl
  rw [e, ← next_find (rd_L1 P n) wo s _ hs]
  unfold rotTo
  simp only [Nat.zero_add]
  rfl

theorem refC1 (row wo : List Int) (hr : row.length ≤ 1000000) (hw : wo.length ≤ 1000000) (s : Nat) (hs : s ≤ 1000000) : ∀ d j : Nat, j + d = row.length →
    Ev (fun k => rivuletref16_Choose.l1 k wo row (s : Int) (j : Int)) (nextN row wo s d j) := by
  intro d
  induction d with
  | zero =>
    intro j hj
    exact Ev.step (f := fun _ => some (0, false)) (fun k => by simp only [rivuletref16_Choose.l1]; rw [if_neg (by omega)]) (Ev.now _)
  | succ d ih =>
    intro j hj
    have hw1 : wrap64 ((s : Int) + (j : Int)) = ((s + j : Nat) : Int) := by unfold wrap64; omega
    have ht : Int.tmod (wrap64 ((s : Int) + (j : Int))) (row.length : Int) = (((s + j) % row.length : Nat) : Int) := by
      rw [hw1, Int.tmod_eq_emod_of_nonneg (by omega)]
      exact (Int.natCast_emod _ _).symm
    have hlt : (s + j) % row.length < row.length := Nat.mod_lt _ (by omega)
    refine Ev.step (f := fun k => (rivuletref16_has.f k wo (rd row (((s + j) % row.length : Nat) : Int))).bind fun t => if t = true then rivuletref16_Choose.l1 k wo row (s : Int) ((j + 1 : Nat) : Int) else some (rd row (((s + j) % row.length : Nat) : Int), true))
      (fun k => by simp only [rivuletref16_Choose.l1, ht]; rw [if_pos (by omega), if_neg (by omega), if_pos (by omega), if_pos (by omega), wr1 (by omega)]) ?_
    refine Ev.bind (has_ev wo _ hw) ?_
    simp only [nextN]
    by_cases h : rd row (((s + j) % row.length : Nat) : Int) ∈ wo
    · simp only [decide_eq_true h, if_true, if_pos h]
      exact ih (j + 1) (by omega)
    · simp only [decide_eq_false h, if_neg Bool.false_ne_true, if_neg h]
      exact Ev.now _
/-- Behind the place of the last one, of the first i. -/
theorem refC0 (row wo : List Int) (hr : row.length ≤ 1000000) (h1 : ∀ k : Nat, k < row.length → rd row (k : Int) ∉ row.take k) (last : Int) (y : Int × Bool)
    (next : ∀ s : Nat, idxN row last + 1 = (s : Int) → s ≤ row.length → Ev (fun k => rivuletref16_Choose.l1 k wo row (s : Int) 0) y) : ∀ d i : Nat, i + d = row.length → ∀ s : Nat, s ≤ i → (s = 0 → ∀ t : Nat, t < i → rd row (t : Int) ≠ last) → (∀ p : Nat, s = p + 1 → rd row (p : Int) = last) →
    Ev (fun k => rivuletref16_Choose.l0 k last wo row (s : Int) (i : Int)) y := by
  intro d
  induction d with
  | zero =>
    intro i hi s hsi hz hp
    refine Ev.step (f := fun k => rivuletref16_Choose.l1 k wo row (s : Int) 0) (fun k => by simp only [rivuletref16_Choose.l0]; rw [if_neg (by omega)]) (next s ?_ (by omega))
    cases s with
    | zero =>
      have hno : last ∉ row := fun h => by
        obtain ⟨t, ht, e⟩ := List.mem_iff_getElem.1 h
        exact hz rfl t (by omega) (by rw [rd_get ht]; exact e)
      unfold idxN
      rw [if_neg hno]; rfl
    | succ p =>
      have := idxN_at h1 (p := p) (by omega)
      rw [hp p rfl] at this
      omega
  | succ d ih =>
    intro i hi s hsi hz hp
    by_cases h : rd row (i : Int) = last
    · exact Ev.step (f := fun k => rivuletref16_Choose.l0 k last wo row ((i + 1 : Nat) : Int) ((i + 1 : Nat) : Int)) (fun k => by simp only [rivuletref16_Choose.l0]; rw [if_pos (by omega), if_pos (by omega), if_pos h, wr1 (by omega)])
        (ih (i + 1) (by omega) (i + 1) (Nat.le_refl _) (fun e => by omega) (fun p e => (show p = i by omega) ▸ h))
    · exact Ev.step (fun k => by simp only [rivuletref16_Choose.l0]; rw [if_pos (by omega), if_pos (by omega), if_neg h, wr1 (by omega)])
        (ih (i + 1) (by omega) s (by omega) (fun e t ht => by
          by_cases et : t = i
          · subst et; exact h
          · exact hz e t (by omega)) hp)
theorem refChoose_ev (P : List (List Int)) (hs : small P) (h : rightN P = 0) (n last : Int) (wo : List Int) (hw : wo.length ≤ 1000000) : Ev (fun k => rivuletref16_Choose.f k P n last wo) (chooseN P n last wo) := by
  have ho := right_ok h
  have hP := hs.1
  unfold rivuletref16_Choose.f
  have bad : ¬ (0 ≤ n ∧ n < P.length) → Ev (fun k => rivuletref16_Choose.j0 k P n last wo true) (chooseN P n last wo) := fun hb => by
    have e : chooseN P n last wo = (0, false) := if_neg hb
    rw [e]
    exact Ev.step (f := fun _ => some (0, false)) (fun k => by simp only [rivuletref16_Choose.j0, if_true]) (Ev.now _)
  by_cases h0 : n < 0
  · simp only [if_pos h0]
    exact bad (by omega)
  · simp only [if_neg h0]
    by_cases h1 : n ≥ (P.length : Int)
    · rw [decide_eq_true h1]
      exact bad (by omega)
    · rw [decide_eq_false h1]
      obtain ⟨i, rfl⟩ := Int.eq_ofNat_of_zero_le (show 0 ≤ n by omega)
      have hl := hs.2 i
      refine Ev.step (f := fun k => rivuletref16_Choose.l0 k last wo (rd_L1 P (i : Int)) ((0 : Nat) : Int) ((0 : Nat) : Int)) (fun k => by simp only [rivuletref16_Choose.j0, if_neg Bool.false_ne_true]; rw [if_pos (by omega), if_pos (by omega)]; rfl) ?_
      refine refC0 (rd_L1 P (i : Int)) wo hl (fun k hk => ho.one i k (by omega) hk) last _ (fun s h2 h3 => ?_) _ 0 (Nat.zero_add _) 0 (Nat.le_refl _) (fun _ t ht => by omega) (fun p e => by omega)
      rw [choose_next wo (by omega) (by omega) h2]
      exact refC1 _ wo hl hw s (by omega) _ 0 (Nat.zero_add _)

/-! ### the law -/
theorem RankPlans (l0 : List (List Int)) (a1 a3 : Int) (l2 : List Int) : ∃ k, rivuletlaw16_RankPlans.f k l0 a1 l2 a3 = some true := by
  refine Ev.rounds (g := fun k => rivuletlaw16_RankPlans.f k l0 a1 l2 a3) ?_
  unfold rivuletlaw16_RankPlans.f
  obtain ⟨hs, _⟩ := cut_small l0
  have hrows : ∀ row ∈ cutN l0, row.length ≤ 1000000 := fun row hr => by
    simp only [cutN, List.mem_map] at hr
    obtain ⟨r, _, rfl⟩ := hr
    rw [List.length_take]; omega
  refine Ev.bind (cut_ev l0) ?_
  generalize cutN l0 = P at hs hrows ⊢
  obtain ⟨m, hm, h1, h2, h3⟩ : ∃ m : Int, mn (l2.length : Int) 10 = m ∧ 0 ≤ m ∧ m ≤ (l2.length : Int) ∧ m ≤ 10 := by
    refine ⟨_, rfl, ?_⟩
    unfold mn
    split <;> omega
  simp only [hm, if_pos h1, if_pos h2]
  have hwl : (l2.take m.toNat).length ≤ 1000000 := by rw [List.length_take]; omega
  generalize l2.take m.toNat = wo at hwl ⊢
  refine Ev.bind (right_ev P hs) (Ev.bind (refRight_ev P hs) ?_)
  simp only [if_true]
  refine Ev.bind (first_ev P hs) (Ev.bind (refFirst_ev P hs) (Ev.bind (ints_ev _ _ ?_) ?_))
  · by_cases h : rightN P = 0
    · rw [first_len h]; exact hs.1
    · have e : firstN P = [] := if_neg h
      rw [e]; simp
  simp only [decide_true, Bool.not_true]
  refine Ev.step (f := fun k => (rivuletref16_Right.f k P).bind fun t181 => if t181 = 0 then (rank_Choose.f k P a1 a3 wo).bind fun bt182 => (rivuletref16_Choose.f k P a1 a3 wo).bind fun bt184 => if bt182.1 = bt184.1 then (if (bt182.2 == bt184.2) = true then (rivuletlaw16_fixed.f).bind fun t186 => some t186 else some false) else some false else (rivuletlaw16_fixed.f).bind fun t187 => some t187) (fun k => by simp only [rivuletlaw16_RankPlans.j0, if_neg Bool.false_ne_true]) ?_
  refine Ev.bind (refRight_ev P hs) ?_
  by_cases h : rightN P = 0
  · simp only [if_pos h]
    refine Ev.bind (choose_ev P hrows a1 a3 wo hwl) (Ev.bind (refChoose_ev P hs h a1 a3 wo hwl) ?_)
    simp only [if_true, beq_self_eq_true]
    exact Ev.now _
  · simp only [if_neg h]
    exact Ev.now _
end Go.Proofs.Ytagnpmmcoaemeaa.Pure
