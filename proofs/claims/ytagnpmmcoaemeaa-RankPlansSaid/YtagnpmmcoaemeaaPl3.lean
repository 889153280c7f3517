/- Plain facts on parents of lower rank: a path falls and ends at one without a parent; parts; those under a node. Plain Lean. -/
import Derived.Test.YtagnpmmcoaemeaaHandB
namespace Go.Proofs.Ytagnpmmcoaemeaa.R16
open Go.RowKit Go.Proofs.YtagnpmmcoaemeaaW.PrintWords Go.Proofs.YtagnpmmcoaemeaaW.PrintLast Go.Proofs.YtagnpmmcoaemeaaW.PrintMore

theorem under_ev (P : List Int) (hP : P.length ≤ 1000000) (n : Int) : Ev (fun k => rank_Under.f k P n) (underN P n) := by
  unfold rank_Under.f
  simp only [if_pos hP]
  exact Ev.now _
theorem part_ev (P : List Int) (hP : P.length ≤ 1000000) (n : Int) : Ev (fun k => rank_Part.f k P n) (partN P n) := by
  unfold rank_Part.f
  simp only [if_pos hP]
  exact Ev.now _

theorem rd_cons_succ (x : Int) (L : List Int) (j : Nat) : rd (x :: L) ((j + 1 : Nat) : Int) = rd L (j : Int) := by simp [rd]
theorem rd_cons_zero (x : Int) (L : List Int) : rd (x :: L) 0 = x := by simp [rd]
theorem okP_all {P : List Int} (hf : fitsP P) {Q : Int → Prop} (h : ∀ n : Int, okP P n → (0 ≤ rd P n → Q (rd P n)) → Q n) (n : Int) (ho : okP P n) : Q n :=
  path_ind hf (Q := fun n => 0 ≤ n → Q n) (fun h => by omega) (fun n ho ih _ => h n ho ih) P.length n (by have := ho.2.1; omega) ho.2.2 ho.2.2 ho.2.1
theorem okP_up {P : List Int} {n : Int} (h : okP P n) (hr : 0 ≤ rd P n) : okP P (rd P n) := ⟨h.1, hr, by have := (fits_at h.1 h.2.1 h.2.2).2; have := h.2.2; omega⟩
theorem path_pos {P : List Int} {n : Int} (h : okP P n) : 0 < (pathN P n).length := by rw [pathN_cons h]; simp
theorem path_zero {P : List Int} {n : Int} (h : okP P n) : rd (pathN P n) 0 = n := by rw [pathN_cons h, rd_cons_zero]
theorem depth_len {P : List Int} {n : Int} (h : okP P n) : ((pathN P n).length : Int) = depthN P n + 1 := by have := path_pos h; unfold depthN; omega
theorem top_ok {P : List Int} (n : Int) (h : okP P n) : okP P (topN P n) ∧ rd P (topN P n) = -1 :=
  okP_all h.1 (Q := fun n => okP P (topN P n) ∧ rd P (topN P n) = -1) (fun n ho ih => by
    have hr := fits_at ho.1 ho.2.1 ho.2.2
    by_cases hm : 0 ≤ rd P n
    · rw [topN_up ho hm]; exact ih hm
    · rw [topN_one ho hm]; exact ⟨ho, by omega⟩) n h
theorem path_fall {P : List Int} (n : Int) (h : okP P n) : ∀ j : Nat, j + 1 < (pathN P n).length → rd (pathN P n) ((j + 1 : Nat) : Int) < rd (pathN P n) (j : Int) :=
  okP_all h.1 (Q := fun n => ∀ j : Nat, j + 1 < (pathN P n).length → rd (pathN P n) ((j + 1 : Nat) : Int) < rd (pathN P n) (j : Int)) (fun n ho ih j hj => by
    have hr := fits_at ho.1 ho.2.1 ho.2.2
    by_cases hm : 0 ≤ rd P n
    · have h2 := okP_up ho hm
      rw [pathN_cons ho] at hj ⊢
      cases j with
      | zero =>
        rw [rd_cons_succ]
        have e1 : rd (n :: pathN P (rd P n)) ((0 : Nat) : Int) = n := rd_cons_zero _ _
        have e2 : rd (pathN P (rd P n)) ((0 : Nat) : Int) = rd P n := path_zero h2
        rw [e1, e2]
        exact hr.2
      | succ j =>
        rw [rd_cons_succ, rd_cons_succ]
        exact ih hm j (by simp at hj; omega)
    · rw [pathN_cons ho, pathN_no (n := rd P n) (fun h => hm h.2.1)] at hj
      simp at hj) n h
theorem path_child {P : List Int} {u n : Int} (hu : okP P u) (h : rd P u = n) : pathN P u = u :: pathN P n := by rw [pathN_cons hu, h]
theorem depth_child {P : List Int} {u n : Int} (hu : okP P u) (hn : okP P n) (h : rd P u = n) : depthN P u = depthN P n + 1 := by
  have := depth_len hn
  have h2 := depth_len hu
  rw [path_child hu h] at h2
  simp at h2
  omega
theorem mem_pick {p : Nat → Bool} {n : Nat} {x : Int} : x ∈ pick p n ↔ ∃ i : Nat, i < n ∧ p i = true ∧ x = i := by
  unfold pick
  simp only [List.mem_map, List.mem_filter, List.mem_range]
  constructor
  · rintro ⟨i, ⟨h1, h2⟩, rfl⟩; exact ⟨i, h1, h2, rfl⟩
  · rintro ⟨i, h1, h2, rfl⟩; exact ⟨i, ⟨h1, h2⟩, rfl⟩
theorem mem_under {P : List Int} {n u : Int} (hn : okP P n) : u ∈ underN P n ↔ okP P u ∧ rd P u = n := by
  have : underN P n = pick (fun i => rd P (i : Int) == n) P.length := if_pos hn
  rw [this, mem_pick]
  constructor
  · rintro ⟨i, h1, h2, rfl⟩
    exact ⟨⟨hn.1, by omega, by omega⟩, by simpa using h2⟩
  · rintro ⟨⟨_, h0, h1⟩, h2⟩
    obtain ⟨i, rfl⟩ := Int.eq_ofNat_of_zero_le h0
    exact ⟨i, by omega, by simpa using h2, rfl⟩
theorem mem_part {P : List Int} {n u : Int} (hn : okP P n) : u ∈ partN P n ↔ okP P u ∧ topN P u = topN P n := by
  have : partN P n = pick (fun i => topN P (i : Int) == topN P n) P.length := if_pos hn
  rw [this, mem_pick]
  constructor
  · rintro ⟨i, h1, h2, rfl⟩
    exact ⟨⟨hn.1, by omega, by omega⟩, by simpa using h2⟩
  · rintro ⟨⟨_, h0, h1⟩, h2⟩
    obtain ⟨i, rfl⟩ := Int.eq_ofNat_of_zero_le h0
    exact ⟨i, by omega, by simpa using h2, rfl⟩
theorem part_same {P : List Int} {n u : Int} (hn : okP P n) (hu : u ∈ partN P n) : partN P u = partN P n := by
  obtain ⟨h1, h2⟩ := (mem_part hn).1 hu
  unfold partN
  rw [if_pos h1, if_pos hn, h2]
theorem part_self {P : List Int} {n : Int} (hn : okP P n) : n ∈ partN P n := (mem_part hn).2 ⟨hn, rfl⟩
theorem part_len {P : List Int} {n : Int} : (partN P n).length ≤ P.length := by unfold partN; split; exact pick_len _ _; simp
theorem under_len {P : List Int} {n : Int} : (underN P n).length ≤ P.length := by unfold underN; split; exact pick_len _ _; simp
theorem rd_mem {L : List Int} {j : Nat} (h : j < L.length) : rd L (j : Int) ∈ L := by rw [rd_get h]; exact List.getElem_mem _
end Go.Proofs.Ytagnpmmcoaemeaa.R16
