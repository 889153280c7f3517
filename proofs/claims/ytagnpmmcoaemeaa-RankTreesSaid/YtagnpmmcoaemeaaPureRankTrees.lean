/- Whether any parents are of lower rank, and of each node its path, its depth, those under it, and its part: the program's plain functions and the document's come to the same. No conditions. -/
import Derived.Test.YtagnpmmcoaemeaaR16x4
import Derived.Test.YtagnpmmcoaemeaaPl2
namespace Go.Proofs.Ytagnpmmcoaemeaa.Pure
open Go.RowKit Go.Proofs.Ytagnpmmcoaemeaa.R16 Go.Proofs.YtagnpmmcoaemeaaW.PrintWords Go.Proofs.YtagnpmmcoaemeaaW.PrintLast Go.Proofs.YtagnpmmcoaemeaaW.PrintMore

theorem RankTrees : rivuletlaw16_RankTrees.Pure := by
  intro l0 a1 _ _ _ _
  obtain ⟨m, hm, h1, h2, h3⟩ : ∃ m : Int, mn (l0.length : Int) 12 = m ∧ 0 ≤ m ∧ m ≤ l0.length ∧ m ≤ 12 := by
    refine ⟨_, rfl, ?_⟩
    unfold mn
    split <;> omega
  obtain ⟨P, hP, hl⟩ : ∃ P : List Int, l0.take m.toNat = P ∧ P.length ≤ 1000000 := ⟨_, rfl, by rw [List.length_take]; omega⟩
  refine Ev.rounds (g := fun k => rivuletlaw16_RankTrees.f k l0 a1) ?_
  unfold rivuletlaw16_RankTrees.f
  simp only [hm, if_pos h1, if_pos h2, hP]
  refine Ev.bind (fits_ev P hl) (Ev.bind (fitsR_ev P hl) ?_)
  simp only [beq_self_eq_true, if_true]
  refine Ev.bind (path_ev P hl a1) (Ev.bind (pathR_ev P hl a1) (Ev.bind (ints_ev _ _ (Nat.le_trans (pathN_len P a1) hl)) ?_))
  simp only [decide_true, if_true]
  refine Ev.bind (depth_ev P hl a1) (Ev.bind (depthR_ev P hl a1) ?_)
  simp only [if_true]
  refine Ev.bind (under_ev P hl a1) (Ev.bind (underR_ev P hl a1) (Ev.bind (ints_ev _ _ ?_) ?_))
  · unfold underN
    split
    · exact Nat.le_trans (pick_len _ _) hl
    · simp
  simp only [decide_true, if_true]
  refine Ev.bind (part_ev P hl a1) (Ev.bind (partR_ev P hl a1) (Ev.bind (ints_ev _ _ ?_) ?_))
  · unfold partN
    split
    · exact Nat.le_trans (pick_len _ _) hl
    · simp
  simp only [decide_true, if_true]
  exact Ev.now _

end Go.Proofs.Ytagnpmmcoaemeaa.Pure
