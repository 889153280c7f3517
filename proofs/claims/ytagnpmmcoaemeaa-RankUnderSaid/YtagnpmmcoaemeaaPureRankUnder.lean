/- Each node but those without a parent is under just one, its parent; how many there are under all, and without, are all nodes. No conditions. -/
import Derived.Test.YtagnpmmcoaemeaaR16x11
import Derived.Test.YtagnpmmcoaemeaaPl3
namespace Go.Proofs.Ytagnpmmcoaemeaa.Pure
open Go.RowKit Go.Proofs.Ytagnpmmcoaemeaa.R16 Go.Proofs.YtagnpmmcoaemeaaW.PrintWords Go.Proofs.YtagnpmmcoaemeaaW.PrintLast Go.Proofs.YtagnpmmcoaemeaaW.PrintMore

/-- How many of the first n are so. -/
def cnt (p : Nat → Bool) (n : Nat) : Nat := ((List.range n).filter p).length
theorem cnt_succ (p : Nat → Bool) (n : Nat) : cnt p (n + 1) = cnt p n + if p n then 1 else 0 := by
  unfold cnt
  rw [List.range_succ, List.filter_append, List.length_append]
  by_cases h : p n = true <;> simp [h]
theorem cnt_or (p q : Nat → Bool) (n : Nat) (h : ∀ i, ¬ (p i = true ∧ q i = true)) : cnt (fun i => p i || q i) n = cnt p n + cnt q n := by
  induction n with
  | zero => rfl
  | succ n ih =>
    rw [cnt_succ, cnt_succ, cnt_succ, ih]
    have := h n
    cases hp : p n <;> cases hq : q n <;> simp [hp, hq] at this ⊢ <;> omega
theorem cnt_congr (p q : Nat → Bool) (n : Nat) (h : ∀ i, i < n → p i = q i) : cnt p n = cnt q n := by
  induction n with
  | zero => rfl
  | succ n ih => rw [cnt_succ, cnt_succ, ih (fun i hi => h i (by omega)), h n (by omega)]
theorem cnt_all (n : Nat) (p : Nat → Bool) (h : ∀ i, i < n → p i = true) : cnt p n = n := by
  induction n with
  | zero => rfl
  | succ n ih => rw [cnt_succ, ih (fun i hi => h i (by omega)), h n (by omega)]; simp

/-- How many have been told when nodes below i have been asked: those below i without a parent, and those whose parent is below i. -/
def told (P : List Int) (i : Nat) : Nat := cnt (fun j => decide (rd P (j : Int) < 0)) i + cnt (fun j => decide (0 ≤ rd P (j : Int)) && decide (rd P (j : Int) < i)) P.length
theorem told_zero (P : List Int) : told P 0 = 0 := by
  unfold told
  rw [cnt_congr _ (fun _ => false) P.length (fun i _ => by simp)]
  simp [cnt]
theorem under_cnt {P : List Int} {i : Nat} (h : okP P (i : Int)) : (underN P (i : Int)).length = cnt (fun j => rd P (j : Int) == (i : Int)) P.length := by
  have : underN P (i : Int) = pick (fun j => rd P (j : Int) == (i : Int)) P.length := if_pos h
  rw [this]
  simp [pick, cnt]
theorem told_succ {P : List Int} {i : Nat} (h : okP P (i : Int)) : told P (i + 1) = told P i + (if rd P (i : Int) < 0 then 1 else 0) + (underN P (i : Int)).length := by
  rw [under_cnt h]
  unfold told
  rw [cnt_succ]
  have e : cnt (fun j => decide (0 ≤ rd P (j : Int)) && decide (rd P (j : Int) < ((i + 1 : Nat) : Int))) P.length = cnt (fun j => (decide (0 ≤ rd P (j : Int)) && decide (rd P (j : Int) < (i : Int))) || (rd P (j : Int) == (i : Int))) P.length :=
    cnt_congr _ _ _ fun j _ => by
      rw [Bool.eq_iff_iff]
      simp
      omega
  rw [e, cnt_or _ _ _ (fun j => by simp; omega)]
  by_cases hn : rd P (i : Int) < 0 <;> simp [hn] <;> omega
theorem told_all {P : List Int} (hf : fitsP P) : told P P.length = P.length := by
  unfold told
  rw [← cnt_or _ _ _ (fun j => by simp; omega)]
  exact cnt_all _ _ fun j hj => by
    have := hf j hj
    simp
    omega
theorem told_le {P : List Int} (i : Nat) : told P i ≤ i + P.length := by
  unfold told
  have h : ∀ p n, cnt p n ≤ n := fun p n => by unfold cnt; exact Nat.le_trans (List.length_filter_le _ _) (by simp)
  have := h (fun j => decide (rd P (j : Int) < 0)) i
  have := h (fun j => decide (0 ≤ rd P (j : Int)) && decide (rd P (j : Int) < i)) P.length
  omega

theorem under1 (P : List Int) (hl : P.length ≤ 12) (i n : Nat) (hi : okP P (i : Int)) (next : Ev (fun k => rivuletlaw16_RankUnder.l0 k P (n : Int) ((i + 1 : Nat) : Int)) true) :
    ∀ d j : Nat, j + d = (underN P (i : Int)).length → Ev (fun k => rivuletlaw16_RankUnder.l1 k P (n : Int) (i : Int) (underN P (i : Int)) (j : Int)) true := by
  have hul := under_len (P := P) (n := (i : Int))
  have hi2 := hi.2.2
  intro d
  induction d with
  | zero =>
    intro j hj
    exact Ev.step (fun k => by simp only [rivuletlaw16_RankUnder.l1]; rw [if_neg (by omega), wr1 (by omega)]) next
  | succ d ih =>
    intro j hj
    have hmem : rd (underN P (i : Int)) (j : Int) ∈ underN P (i : Int) := rd_mem (by omega)
    obtain ⟨hu, hr⟩ := (mem_under hi).1 hmem
    have u0 := hu.2.1
    have u1 := hu.2.2
    have hch := path_child hu hr
    have hpl := pathN_len P (i : Int)
    refine Ev.step (fun k => by simp only [rivuletlaw16_RankUnder.l1]; rw [if_pos (by omega), if_pos (by omega), if_neg (by omega), if_neg (by omega), if_pos u0, if_pos u1, if_pos hr, wr1 (by omega)]) ?_
    refine Ev.bind (path_ev P (by omega) _) ?_
    rw [hch]
    refine Ev.congr (fun k => by rw [if_pos (by simp; omega)]) ?_
    refine Ev.bind (path_ev P (by omega) _) ?_
    refine Ev.bind (ints_ev _ _ (by simp; omega)) ?_
    simp only [List.drop_succ_cons, List.drop_zero, decide_true, if_true]
    exact ih (j + 1) (by omega)

theorem under0 (P : List Int) (hf : fitsP P) (hl : P.length ≤ 12) : ∀ d i : Nat, i + d = P.length → Ev (fun k => rivuletlaw16_RankUnder.l0 k P ((told P i : Nat) : Int) (i : Int)) true := by
  intro d
  induction d with
  | zero =>
    intro i hi
    obtain rfl : i = P.length := by omega
    exact Ev.step (f := fun _ => some true) (fun k => by simp only [rivuletlaw16_RankUnder.l0]; rw [if_neg (by omega), told_all hf, if_pos rfl]; rfl) (Ev.now _)
  | succ d ih =>
    intro i hi
    have ho : okP P (i : Int) := ⟨hf, by omega, by omega⟩
    have hs := told_succ ho
    have hle := told_le (P := P) i
    have hul := under_len (P := P) (n := (i : Int))
    have next := ih (i + 1) (by omega)
    by_cases hn : rd P (i : Int) < 0
    · rw [if_pos hn] at hs
      refine Ev.step (f := fun k => rivuletlaw16_RankUnder.j1 k P ((told P i + 1 : Nat) : Int) (i : Int)) (fun k => by simp only [rivuletlaw16_RankUnder.l0]; rw [if_pos (by omega), if_pos (by omega), if_pos hn, wr1 (by omega)]) ?_
      refine Ev.step (fun k => by simp only [rivuletlaw16_RankUnder.j1]; rfl) ?_
      refine Ev.bind (under_ev P (by omega) _) ?_
      have e : wrap64 (((told P i + 1 : Nat) : Int) + ((underN P (i : Int)).length : Int)) = ((told P (i + 1) : Nat) : Int) := by unfold wrap64; omega
      rw [e]
      exact under1 P hl i _ ho next _ 0 (Nat.zero_add _)
    · rw [if_neg hn] at hs
      refine Ev.step (f := fun k => rivuletlaw16_RankUnder.j1 k P ((told P i : Nat) : Int) (i : Int)) (fun k => by simp only [rivuletlaw16_RankUnder.l0]; rw [if_pos (by omega), if_pos (by omega), if_neg hn]) ?_
      refine Ev.step (fun k => by simp only [rivuletlaw16_RankUnder.j1]; rfl) ?_
      refine Ev.bind (under_ev P (by omega) _) ?_
      have e : wrap64 (((told P i : Nat) : Int) + ((underN P (i : Int)).length : Int)) = ((told P (i + 1) : Nat) : Int) := by unfold wrap64; omega
      rw [e]
      exact under1 P hl i _ ho next _ 0 (Nat.zero_add _)

theorem RankUnder : rivuletlaw16_RankUnder.Pure := by
  intro l0 _ _ _
  obtain ⟨m, hm, h1, h2, h3⟩ : ∃ m : Int, mn (l0.length : Int) 12 = m ∧ 0 ≤ m ∧ m ≤ l0.length ∧ m ≤ 12 := by
    refine ⟨_, rfl, ?_⟩
    unfold mn
    split <;> omega
  obtain ⟨P, hP, hl⟩ : ∃ P : List Int, l0.take m.toNat = P ∧ P.length ≤ 12 := ⟨_, rfl, by rw [List.length_take]; omega⟩
  refine Ev.rounds (g := fun k => rivuletlaw16_RankUnder.f k l0) ?_
  unfold rivuletlaw16_RankUnder.f
  simp only [hm, if_pos h1, if_pos h2, hP]
  refine Ev.bind (fits_ev P (by omega)) ?_
  by_cases hf : fitsP P
  · simp only [decide_eq_true hf, if_true]
    have := under0 P hf hl _ 0 (Nat.zero_add _)
    rw [told_zero] at this
    exact this
  · simp only [decide_eq_false hf, if_neg Bool.false_ne_true]
    refine Ev.bind (under_ev P (by omega) 0) ?_
    have : underN P 0 = [] := if_neg fun h => hf h.1
    rw [this]
    exact Ev.now _
end Go.Proofs.Ytagnpmmcoaemeaa.Pure
