/- A path falls, and ends at one without a parent; the parts are apart, and all nodes are in one; those under a node are deeper by one. No conditions. -/
import Derived.Test.YtagnpmmcoaemeaaR16x8
import Derived.Test.YtagnpmmcoaemeaaPl3
namespace Go.Proofs.Ytagnpmmcoaemeaa.Pure
open Go.RowKit Go.Proofs.Ytagnpmmcoaemeaa.R16 Go.Proofs.YtagnpmmcoaemeaaW.PrintWords Go.Proofs.YtagnpmmcoaemeaaW.PrintLast Go.Proofs.YtagnpmmcoaemeaaW.PrintMore

theorem climb3 (P : List Int) (hl : P.length ≤ 12) (i : Nat) (hi : okP P (i : Int)) (next : Ev (fun k => rivuletlaw16_RankClimbs.l0 k P ((i + 1 : Nat) : Int)) true) :
    ∀ d j : Nat, j + d = (partN P (i : Int)).length → ∀ b : Bool, (b = true ∨ ∃ q, j ≤ q ∧ q < (partN P (i : Int)).length ∧ rd (partN P (i : Int)) (q : Int) = i) → Ev (fun k => rivuletlaw16_RankClimbs.l3 k P (i : Int) b (partN P (i : Int)) (j : Int)) true := by
  have hpl := part_len (P := P) (n := (i : Int))
  have hi2 := hi.2.2
  intro d
  induction d with
  | zero =>
    intro j hj b hb
    have hbt : b = true := by
      rcases hb with h | ⟨q, h1, h2, _⟩
      · exact h
      · omega
    subst hbt
    exact Ev.step (fun k => by simp only [rivuletlaw16_RankClimbs.l3, if_true]; rw [if_neg (by omega), wr1 (by omega)]) next
  | succ d ih =>
    intro j hj b hb
    have hmem : rd (partN P (i : Int)) (j : Int) ∈ partN P (i : Int) := rd_mem (by omega)
    have hu := ((mem_part hi).1 hmem).1
    have hsame := part_same hi hmem
    have tail : ∀ b' : Bool, (b' = true ∨ ∃ q, j + 1 ≤ q ∧ q < (partN P (i : Int)).length ∧ rd (partN P (i : Int)) (q : Int) = i) → Ev (fun k => rivuletlaw16_RankClimbs.j5 k P (i : Int) b' (partN P (i : Int)) (j : Int)) true := by
      intro b' hb'
      refine Ev.step (f := fun k => (rank_Part.f k P (rd (partN P (i : Int)) (j : Int))).bind fun t267 => ((rivuletref04_Ints.f k t267 (partN P (i : Int))).bind fun t270 => (if t270 = true then (rivuletlaw16_RankClimbs.l3 k P (i : Int) b' (partN P (i : Int)) ((j + 1 : Nat) : Int)) else (some false)))) (fun k => by simp only [rivuletlaw16_RankClimbs.j5]; rw [if_pos (by omega), if_pos (by omega), wr1 (by omega)]) ?_
      refine Ev.bind (part_ev P (by omega) _) ?_
      rw [hsame]
      refine Ev.bind (ints_ev _ _ (by omega)) ?_
      simp only [decide_true, if_true]
      exact ih (j + 1) (by omega) b' hb'
    by_cases hbt : b = true
    · subst hbt
      exact Ev.step (fun k => by simp only [rivuletlaw16_RankClimbs.l3, if_true]; rw [if_pos (by omega)]) (tail true (.inl rfl))
    · refine Ev.step (f := fun k => rivuletlaw16_RankClimbs.j5 k P (i : Int) (rd (partN P (i : Int)) (j : Int) == (i : Int)) (partN P (i : Int)) (j : Int)) (fun k => by simp only [rivuletlaw16_RankClimbs.l3]; rw [if_pos (by omega), if_neg hbt, if_pos (by omega)]) (tail _ ?_)
      rcases hb with h | ⟨q, h1, h2, h3⟩
      · exact absurd h hbt
      · by_cases e : q = j
        · subst e; exact .inl (by simpa using h3)
        · exact .inr ⟨q, by omega, h2, h3⟩

theorem climb2 (P : List Int) (hl : P.length ≤ 12) (i : Nat) (hi : okP P (i : Int)) (next : Ev (fun k => rivuletlaw16_RankClimbs.l0 k P ((i + 1 : Nat) : Int)) true) :
    ∀ d j : Nat, j + d = (underN P (i : Int)).length → Ev (fun k => rivuletlaw16_RankClimbs.l2 k P (i : Int) (underN P (i : Int)) (j : Int)) true := by
  have hul := under_len (P := P) (n := (i : Int))
  intro d
  induction d with
  | zero =>
    intro j hj
    refine Ev.step (f := fun k => (rank_Part.f k P (i : Int)).bind fun t262 => (rivuletlaw16_RankClimbs.l3 k P (i : Int) false t262 0)) (fun k => by simp only [rivuletlaw16_RankClimbs.l2]; rw [if_neg (by omega)]) ?_
    refine Ev.bind (part_ev P (by omega) _) ?_
    obtain ⟨q, hq1, hq2⟩ := List.getElem_of_mem (part_self hi)
    exact climb3 P hl i hi next _ 0 (Nat.zero_add _) false (.inr ⟨q, by omega, hq1, by rw [rd_get hq1]; exact hq2⟩)
  | succ d ih =>
    intro j hj
    have hmem : rd (underN P (i : Int)) (j : Int) ∈ underN P (i : Int) := rd_mem (by omega)
    obtain ⟨hu, hr⟩ := (mem_under hi).1 hmem
    have hd := depth_child hu hi hr
    have hdl := depth_len hi
    have hpl := pathN_len P (i : Int)
    refine Ev.step (f := fun k => ((rank_Depth.f k P (rd (underN P (i : Int)) (j : Int))).bind fun t260 => ((rank_Depth.f k P (i : Int)).bind fun t261 => (if t260 = (wrap64 (t261 + 1)) then (rivuletlaw16_RankClimbs.l2 k P (i : Int) (underN P (i : Int)) ((j + 1 : Nat) : Int)) else (some false))))) (fun k => by simp only [rivuletlaw16_RankClimbs.l2]; rw [if_pos (by omega), if_pos (by omega), wr1 (by omega)]) ?_
    refine Ev.bind (depth_ev P (by omega) _) (Ev.bind (depth_ev P (by omega) _) ?_)
    have e : depthN P (rd (underN P (i : Int)) (j : Int)) = wrap64 (depthN P (i : Int) + 1) := by
      rw [hd]; unfold wrap64; unfold depthN at hdl ⊢; omega
    simp only [if_pos e]
    exact ih (j + 1) (by omega)

theorem climb1 (P : List Int) (hl : P.length ≤ 12) (i : Nat) (hi : okP P (i : Int)) (next : Ev (fun k => rivuletlaw16_RankClimbs.l0 k P ((i + 1 : Nat) : Int)) true) :
    ∀ d j : Nat, 1 ≤ j → j + d = (pathN P (i : Int)).length → Ev (fun k => rivuletlaw16_RankClimbs.l1 k P (i : Int) (pathN P (i : Int)) (j : Int)) true := by
  have hpl := pathN_len P (i : Int)
  intro d
  induction d with
  | zero =>
    intro j h1 hj
    refine Ev.step (f := fun k => (rank_Under.f k P (i : Int)).bind fun t256 => (rivuletlaw16_RankClimbs.l2 k P (i : Int) t256 0)) (fun k => by simp only [rivuletlaw16_RankClimbs.l1]; rw [if_neg (by omega)]) ?_
    refine Ev.bind (under_ev P (by omega) _) ?_
    exact climb2 P hl i hi next _ 0 (Nat.zero_add _)
  | succ d ih =>
    intro j h1 hj
    obtain ⟨q, rfl⟩ : ∃ q, j = q + 1 := ⟨j - 1, by omega⟩
    have hfall := path_fall (i : Int) hi q (by omega)
    have e : wrap64 (((q + 1 : Nat) : Int) - 1) = (q : Int) := by unfold wrap64; omega
    exact Ev.step (fun k => by simp only [rivuletlaw16_RankClimbs.l1]; rw [e, if_pos (by omega), if_pos (by omega), if_pos (by omega), if_pos (by omega), if_neg (by omega), wr1 (by omega)]) (ih (q + 1 + 1) (by omega) (by omega))

theorem climb0 (P : List Int) (hf : fitsP P) (hl : P.length ≤ 12) : ∀ d i : Nat, i + d = P.length → Ev (fun k => rivuletlaw16_RankClimbs.l0 k P (i : Int)) true := by
  intro d
  induction d with
  | zero =>
    intro i hi
    exact Ev.step (f := fun _ => some true) (fun k => by simp only [rivuletlaw16_RankClimbs.l0]; rw [if_neg (by omega)]; rfl) (Ev.now _)
  | succ d ih =>
    intro i hi
    have ho : okP P (i : Int) := ⟨hf, by omega, by omega⟩
    have hpp := path_pos ho
    have hpl := pathN_len P (i : Int)
    have hz := path_zero ho
    have hdl := depth_len ho
    obtain ⟨⟨_, t0, t1⟩, t2⟩ := top_ok (i : Int) ho
    have htop : rd (pathN P (i : Int)) (wrap64 (((pathN P (i : Int)).length : Int) - 1)) = topN P (i : Int) := by
      unfold topN
      congr 1
      unfold wrap64; omega
    have e1 : ((pathN P (i : Int)).length : Int) = wrap64 (depthN P (i : Int) + 1) := by unfold wrap64; unfold depthN at hdl ⊢; omega
    have e2 : 0 ≤ wrap64 (((pathN P (i : Int)).length : Int) - 1) := by unfold wrap64; omega
    have e3 : wrap64 (((pathN P (i : Int)).length : Int) - 1) < ((pathN P (i : Int)).length : Int) := by unfold wrap64; omega
    refine Ev.step (fun k => by simp only [rivuletlaw16_RankClimbs.l0]; rw [if_pos (by omega)]) ?_
    refine Ev.bind (path_ev P (by omega) _) (Ev.bind (depth_ev P (by omega) _) ?_)
    simp only [if_pos e1, if_pos (show (0 : Int) < ((pathN P (i : Int)).length : Int) by omega), if_pos hz, if_pos e2, if_pos e3, htop, if_neg (show ¬ topN P (i : Int) < 0 by omega), if_neg (show ¬ topN P (i : Int) ≥ (P.length : Int) by omega), if_pos t0, if_pos t1, t2]
    exact Ev.step (fun k => by simp only [rivuletlaw16_RankClimbs.j1]; rw [if_neg (by simp)]; rfl) (climb1 P hl i ho (ih (i + 1) (by omega)) ((pathN P (i : Int)).length - 1) 1 (Nat.le_refl _) (by omega))

theorem RankClimbs : rivuletlaw16_RankClimbs.Pure := by
  intro l0 _ _ _
  obtain ⟨m, hm, h1, h2, h3⟩ : ∃ m : Int, mn (l0.length : Int) 12 = m ∧ 0 ≤ m ∧ m ≤ l0.length ∧ m ≤ 12 := by
    refine ⟨_, rfl, ?_⟩
    unfold mn
    split <;> omega
  obtain ⟨P, hP, hl⟩ : ∃ P : List Int, l0.take m.toNat = P ∧ P.length ≤ 12 := ⟨_, rfl, by rw [List.length_take]; omega⟩
  refine Ev.rounds (g := fun k => rivuletlaw16_RankClimbs.f k l0) ?_
  unfold rivuletlaw16_RankClimbs.f
  simp only [hm, if_pos h1, if_pos h2, hP]
  refine Ev.bind (fits_ev P (by omega)) ?_
  by_cases hf : fitsP P
  · simp only [decide_eq_true hf, if_true]
    exact climb0 P hf hl _ 0 (Nat.zero_add _)
  · simp only [decide_eq_false hf, if_neg Bool.false_ne_true]
    refine Ev.bind (path_ev P (by omega) 0) ?_
    rw [pathN_no fun h => hf h.1]
    simp only [List.length_nil, Int.natCast_zero, if_true]
    refine Ev.bind (part_ev P (by omega) 0) ?_
    have : partN P 0 = [] := if_neg fun h => hf h.1
    rw [this]
    exact Ev.now _
end Go.Proofs.Ytagnpmmcoaemeaa.Pure
