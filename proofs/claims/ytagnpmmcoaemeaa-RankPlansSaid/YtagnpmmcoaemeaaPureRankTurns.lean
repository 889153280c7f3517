/- Whoever is chosen, one behind the other, is of lower rank, and one that the plan has; in as many turns as the row is long each one has had its turn. No conditions. -/
import Derived.Test.YtagnpmmcoaemeaaR16x7
import Derived.Test.YtagnpmmcoaemeaaPl4
namespace Go.Proofs.Ytagnpmmcoaemeaa.Pure
open Go.RowKit Go.Proofs.Ytagnpmmcoaemeaa.R16 Go.Proofs.YtagnpmmcoaemeaaW.PrintWords Go.Proofs.YtagnpmmcoaemeaaW.PrintLast Go.Proofs.YtagnpmmcoaemeaaW.PrintMore

theorem choose_ev (P : List (List Int)) (hs : ∀ row ∈ P, row.length ≤ 1000000) (n last : Int) (wo : List Int) (hw : wo.length ≤ 1000000) : Ev (fun k => rank_Choose.f k P n last wo) (chooseN P n last wo) := by
  unfold rank_Choose.f
  simp only [if_pos (And.intro hs hw)]
  exact Ev.now _

/-- The place of the last one, or -1. -/
def idxN (row : List Int) (last : Int) : Int := if last ∈ row then (row.idxOf last : Int) else -1
theorem idxN_lo (row : List Int) (last : Int) : -1 ≤ idxN row last := by unfold idxN; split <;> omega
theorem idxN_at {row : List Int} (h1 : ∀ k : Nat, k < row.length → rd row (k : Int) ∉ row.take k) {p : Nat} (hp : p < row.length) : idxN row (rd row (p : Int)) = p := by
  have hm : rd row (p : Int) ∈ row := by rw [rd_get hp]; exact List.getElem_mem _
  unfold idxN
  rw [if_pos hm]
  have h2 := List.idxOf_lt_length_of_mem hm
  have h3 : row[row.idxOf (rd row (p : Int))] = rd row (p : Int) := List.getElem_idxOf h2
  rcases Nat.lt_trichotomy (row.idxOf (rd row (p : Int))) p with h | h | h
  · refine absurd ?_ (h1 p hp)
    exact List.mem_iff_getElem.2 ⟨row.idxOf (rd row (p : Int)), by rw [List.length_take]; omega, by rw [List.getElem_take]; exact h3⟩
  · rw [h]
  · have h4 := List.not_of_lt_findIdx (p := (· == rd row (p : Int))) (xs := row) (i := p) h
    exact absurd (rd_get hp).symm (by simpa using h4)
/-- Whoever has had a turn before turn j. -/
def hadT (row : List Int) (s j : Nat) : List Int := (List.range j).map fun t => rd row (((s + t) % row.length : Nat) : Int)
theorem hadT_succ (row : List Int) (s j : Nat) : hadT row s (j + 1) = hadT row s j ++ [rd row (((s + j) % row.length : Nat) : Int)] := by simp [hadT, List.range_succ]
theorem hadT_len (row : List Int) (s j : Nat) : (hadT row s j).length = j := by simp [hadT]
theorem rd_inj {row : List Int} (h1 : ∀ k : Nat, k < row.length → rd row (k : Int) ∉ row.take k) {p q : Nat} (hp : p < row.length) (hq : q < row.length) (h : rd row (p : Int) = rd row (q : Int)) : p = q := by
  have a := idxN_at h1 hp
  have b := idxN_at h1 hq
  rw [h] at a
  omega
theorem mod_inj {m s i j : Nat} (hi : i < m) (hj : j < m) (h : (s + i) % m = (s + j) % m) : i = j := by
  have h1 : (s + i) % m = ((s % m) + i) % m := by rw [Nat.add_mod]; simp [Nat.mod_eq_of_lt hi]
  have h2 : (s + j) % m = ((s % m) + j) % m := by rw [Nat.add_mod]; simp [Nat.mod_eq_of_lt hj]
  have hs : s % m < m := Nat.mod_lt _ (by omega)
  rw [h1, h2] at h
  generalize s % m = t at h hs
  rcases Nat.lt_or_ge (t + i) m with a | a <;> rcases Nat.lt_or_ge (t + j) m with b | b
  · rw [Nat.mod_eq_of_lt a, Nat.mod_eq_of_lt b] at h; omega
  · rw [Nat.mod_eq_of_lt a, Nat.mod_eq_sub_mod b, Nat.mod_eq_of_lt (by omega)] at h; omega
  · rw [Nat.mod_eq_of_lt b, Nat.mod_eq_sub_mod a, Nat.mod_eq_of_lt (by omega)] at h; omega
  · rw [Nat.mod_eq_sub_mod a, Nat.mod_eq_of_lt (by omega), Nat.mod_eq_sub_mod b, Nat.mod_eq_of_lt (by omega)] at h; omega
theorem not_had {row : List Int} (h1 : ∀ k : Nat, k < row.length → rd row (k : Int) ∉ row.take k) {s j : Nat} (hj : j < row.length) : rd row (((s + j) % row.length : Nat) : Int) ∉ hadT row s j := by
  intro hm
  simp only [hadT, List.mem_map, List.mem_range] at hm
  obtain ⟨t, ht, he⟩ := hm
  have h0 : 0 < row.length := by omega
  have := rd_inj h1 (Nat.mod_lt (s + t) h0) (Nat.mod_lt (s + j) h0) he
  have := mod_inj (by omega) hj this
  omega
theorem all_had {row : List Int} (s : Nat) (x : Int) (hx : x ∈ row) : x ∈ hadT row s row.length := by
  obtain ⟨q, hq, rfl⟩ := List.getElem_of_mem hx
  have h0 : 0 < row.length := by omega
  simp only [hadT, List.mem_map, List.mem_range]
  refine ⟨(q + (row.length - s % row.length)) % row.length, Nat.mod_lt _ h0, ?_⟩
  have hs : s % row.length < row.length := Nat.mod_lt _ h0
  have e : (s + (q + (row.length - s % row.length)) % row.length) % row.length = q := by
    rw [Nat.add_mod, Nat.mod_mod, ← Nat.add_mod]
    have : s + (q + (row.length - s % row.length)) = q + row.length + row.length * (s / row.length) := by
      have := Nat.div_add_mod s row.length
      omega
    rw [this, Nat.add_mul_mod_self_left, Nat.add_mod_right]
    exact Nat.mod_eq_of_lt hq
  rw [e, rd_get hq]

/-- The next one: behind the place of the last one. -/
theorem choose_first {P : List (List Int)} {n last : Int} (h0 : 0 ≤ n) (h1 : n < P.length) {s : Nat} (hs : idxN (rd_L1 P n) last + 1 = (s : Int)) (hm : 0 < (rd_L1 P n).length) : chooseN P n last [] = (rd (rd_L1 P n) ((s % (rd_L1 P n).length : Nat) : Int), true) := by
  unfold chooseN
  rw [if_pos ⟨h0, h1⟩]
  have e : (if last ∈ rd_L1 P n then ((rd_L1 P n).idxOf last : Int) else -1) = idxN (rd_L1 P n) last := rfl
  rw [e]
  generalize rd_L1 P n = row at hs hm ⊢
  obtain ⟨m, hmm⟩ : ∃ m, row.length = m + 1 := ⟨row.length - 1, by omega⟩
  have hr : rotTo row (idxN row last) row.length = rotAt row (idxN row last) 0 :: (rotTo row (idxN row last) row.length).tail := by
    rw [hmm]
    simp [rotTo, List.range_succ_eq_map]
  rw [hr]
  simp only [List.not_mem_nil, decide_false, Bool.not_false, List.find?_cons_of_pos]
  unfold rotAt
  rw [hs]
  simp
theorem choose_none {P : List (List Int)} {n last : Int} (wo : List Int) (hw : ∀ x ∈ rd_L1 P n, x ∈ wo) (hm : 0 < (rd_L1 P n).length) : (chooseN P n last wo).2 = false := by
  unfold chooseN
  split
  · have hnone : (rotTo (rd_L1 P n) (if last ∈ rd_L1 P n then ((rd_L1 P n).idxOf last : Int) else -1) (rd_L1 P n).length).find? (fun x => !decide (x ∈ wo)) = none := List.find?_eq_none.2 fun x hx => by
      have : x ∈ rd_L1 P n := by
        unfold rotTo at hx
        obtain ⟨k, _, rfl⟩ := List.mem_map.1 hx
        unfold rotAt
        generalize (if last ∈ rd_L1 P n then ((rd_L1 P n).idxOf last : Int) else -1) = a
        obtain ⟨j, hj⟩ := Int.eq_ofNat_of_zero_le (show 0 ≤ (a + 1 + (k : Int)) % ((rd_L1 P n).length : Int) from Int.emod_nonneg _ (by omega))
        have hj2 := Int.emod_lt_of_pos (a + 1 + (k : Int)) (show 0 < ((rd_L1 P n).length : Int) by omega)
        rw [hj] at hj2 ⊢
        rw [rd_get (by omega)]
        exact List.getElem_mem _
      simp [hw x this]
    rw [hnone]
  · rfl

section
variable (P : List (List Int)) (n : Int) (h0 : 0 ≤ n) (h1 : n < P.length) (s : Nat) (hm : (rd_L1 P n).length ≤ 4)

theorem turn2 (j : Nat) (x : Int) (hx0 : 0 ≤ x) (hx1 : x < n) (hj : j < (rd_L1 P n).length) (hx : x ∉ hadT (rd_L1 P n) s j)
    (next : Ev (fun k => rivuletlaw16_RankTurns.l0 k n x P (hadT (rd_L1 P n) s j ++ [x]) ((j + 1 : Nat) : Int)) true) (hm : (rd_L1 P n).length ≤ 4) :
    ∀ d q : Nat, q + d = j → Ev (fun k => rivuletlaw16_RankTurns.l2 k n P (hadT (rd_L1 P n) s j) (j : Int) x true true false (q : Int)) true := by
  have hl := hadT_len (rd_L1 P n) s j
  intro d
  induction d with
  | zero =>
    intro q hq
    exact Ev.step (fun k => by simp only [rivuletlaw16_RankTurns.l2, if_true, if_neg Bool.false_ne_true]; rw [if_neg (by omega), if_neg (by omega), if_neg (by omega), if_pos (by omega), wr1 (by omega)]) next
  | succ d ih =>
    intro q hq
    have hne : (rd (hadT (rd_L1 P n) s j) (q : Int) == x) = false := by
      rw [beq_eq_false_iff_ne]
      intro h
      exact hx (by rw [← h]; exact rd_mem (by omega))
    exact Ev.step (fun k => by simp only [rivuletlaw16_RankTurns.l2, if_neg Bool.false_ne_true]; rw [if_pos (by omega), if_pos (by omega), hne, wr1 (by omega)]) (ih (q + 1) (by omega))

theorem turn1 (h0 : 0 ≤ n) (h1 : n < P.length) (j : Nat) (x : Int) (hm : (rd_L1 P n).length ≤ 4)
    (next : Ev (fun k => rivuletlaw16_RankTurns.l2 k n P (hadT (rd_L1 P n) s j) (j : Int) x true true false 0) true) :
    ∀ d q : Nat, q + d = (rd_L1 P n).length → ∀ b : Bool, (b = true ∨ ∃ t, q ≤ t ∧ t < (rd_L1 P n).length ∧ rd (rd_L1 P n) (t : Int) = x) → Ev (fun k => rivuletlaw16_RankTurns.l1 k n P (hadT (rd_L1 P n) s j) (j : Int) x true b false (q : Int)) true := by
  intro d
  induction d with
  | zero =>
    intro q hq b hb
    have hbt : b = true := by
      rcases hb with h | ⟨t, a, c, _⟩
      · exact h
      · omega
    subst hbt
    exact Ev.step (fun k => by simp only [rivuletlaw16_RankTurns.l1]; rw [if_pos h0, if_pos h1, if_neg (by omega)]) next
  | succ d ih =>
    intro q hq b hb
    by_cases hbt : b = true
    · subst hbt
      exact Ev.step (fun k => by simp only [rivuletlaw16_RankTurns.l1, if_true]; rw [if_pos h0, if_pos h1, if_pos (by omega), wr1 (by omega)]) (ih (q + 1) (by omega) true (.inl rfl))
    · refine Ev.step (fun k => by simp only [rivuletlaw16_RankTurns.l1]; rw [if_pos h0, if_pos h1, if_pos (by omega), if_neg hbt, if_pos (by omega), wr1 (by omega)]) (ih (q + 1) (by omega) _ ?_)
      rcases hb with h | ⟨t, a, c, e⟩
      · exact absurd h hbt
      · by_cases et : t = q
        · subst et; exact .inl (by simpa using e)
        · exact .inr ⟨t, by omega, c, e⟩
end

theorem turn0 (P : List (List Int)) (hs : ∀ row ∈ P, row.length ≤ 1000000) (hr : RightP P) (n : Nat) (h0 : 1 ≤ n) (h1 : n < P.length) (s : Nat) :
    ∀ d j : Nat, j + d = (rd_L1 P (n : Int)).length → ∀ last : Int, (∃ q : Nat, idxN (rd_L1 P (n : Int)) last + 1 = (q : Int) ∧ q % (rd_L1 P (n : Int)).length = (s + j) % (rd_L1 P (n : Int)).length) →
      Ev (fun k => rivuletlaw16_RankTurns.l0 k (n : Int) last P (hadT (rd_L1 P (n : Int)) s j) (j : Int)) true := by
  have hlen := hr.r1 n h0 h1
  have hone := fun k (hk : k < (rd_L1 P (n : Int)).length) => hr.one n k h1 hk
  intro d
  induction d with
  | zero =>
    intro j hj last _
    obtain rfl : j = (rd_L1 P (n : Int)).length := by omega
    refine Ev.step (fun k => by simp only [rivuletlaw16_RankTurns.l0]; rw [if_pos (by omega), if_pos (by omega), if_neg (by omega)]) ?_
    refine Ev.bind (choose_ev P hs _ _ _ (by rw [hadT_len]; omega)) ?_
    have hn := choose_none (P := P) (n := (n : Int)) (last := last) (hadT (rd_L1 P (n : Int)) s (rd_L1 P (n : Int)).length) (fun x hx => all_had s x hx) (by omega)
    simp only [hn, if_neg Bool.false_ne_true]
    exact Ev.now _
  | succ d ih =>
    intro j hj last hq
    obtain ⟨q, hq1, hq2⟩ := hq
    have hlt : (s + j) % (rd_L1 P (n : Int)).length < (rd_L1 P (n : Int)).length := Nat.mod_lt _ (by omega)
    have hch := choose_first (P := P) (n := (n : Int)) (last := last) (by omega) (by omega) hq1 (by omega)
    rw [hq2] at hch
    have hx := hr.low n _ h1 hlt
    have hnh := not_had hone (s := s) (j := j) (by omega)
    have hsucc := hadT_succ (rd_L1 P (n : Int)) s j
    have hidx := idxN_at hone hlt
    have next := ih (j + 1) (by omega) (rd (rd_L1 P (n : Int)) (((s + j) % (rd_L1 P (n : Int)).length : Nat) : Int)) ⟨(s + j) % (rd_L1 P (n : Int)).length + 1, by rw [hidx]; omega, by rw [show s + (j + 1) = s + j + 1 by omega, Nat.add_mod, Nat.mod_mod, ← Nat.add_mod]⟩
    rw [hsucc] at next
    have hmem : ∃ t, 0 ≤ t ∧ t < (rd_L1 P (n : Int)).length ∧ rd (rd_L1 P (n : Int)) (t : Int) = rd (rd_L1 P (n : Int)) (((s + j) % (rd_L1 P (n : Int)).length : Nat) : Int) := ⟨_, Nat.zero_le _, hlt, rfl⟩
    generalize rd (rd_L1 P (n : Int)) (((s + j) % (rd_L1 P (n : Int)).length : Nat) : Int) = x at hch hx hnh next hmem
    refine Ev.step (fun k => by simp only [rivuletlaw16_RankTurns.l0]; rw [if_pos (by omega), if_pos (by omega), if_pos (by omega)]) ?_
    refine Ev.bind (choose_ev P hs _ _ [] (by simp)) ?_
    rw [hch]
    exact turn1 P (n : Int) s (by omega) (by omega) j x hlen.2 (turn2 P (n : Int) s j x hx.1 hx.2 (by omega) hnh next hlen.2 j 0 (Nat.zero_add _)) _ 0 (Nat.zero_add _) false (.inr hmem)

theorem RankTurns (l0 : List (List Int)) (a1 a2 : Int) : ∃ k, rivuletlaw16_RankTurns.f k l0 a1 a2 = some true := by
  refine Ev.rounds (g := fun k => rivuletlaw16_RankTurns.f k l0 a1 a2) ?_
  unfold rivuletlaw16_RankTurns.f
  obtain ⟨hs, _⟩ := cut_small l0
  have hrows : ∀ row ∈ cutN l0, row.length ≤ 1000000 := fun row hr => by
    simp only [cutN, List.mem_map] at hr
    obtain ⟨r, _, rfl⟩ := hr
    rw [List.length_take]; omega
  refine Ev.bind (cut_ev l0) ?_
  generalize cutN l0 = P at hs hrows ⊢
  refine Ev.bind (right_ev P hs) ?_
  have fin : Ev (fun k => rivuletlaw16_RankTurns.j0 k a1 a2 P true) true := Ev.step (f := fun _ => some true) (fun k => by simp only [rivuletlaw16_RankTurns.j0, if_true]; rfl) (Ev.now _)
  by_cases h : rightN P = 0
  · simp only [if_pos h]
    by_cases h1 : a1 < 1
    · simp only [if_pos h1]; exact fin
    · simp only [if_neg h1]
      by_cases h2 : a1 < (P.length : Int)
      · rw [decide_eq_false (show ¬ a1 ≥ (P.length : Int) by omega)]
        obtain ⟨n, rfl⟩ := Int.eq_ofNat_of_zero_le (show 0 ≤ a1 by omega)
        have ho := right_ok h
        have hi := idxN_lo (rd_L1 P (n : Int)) a2
        have := turn0 P hrows ho n (by omega) (by omega) (idxN (rd_L1 P (n : Int)) a2 + 1).toNat _ 0 (Nat.zero_add _) a2 ⟨(idxN (rd_L1 P (n : Int)) a2 + 1).toNat, by omega, rfl⟩
        exact Ev.step (fun k => by simp only [rivuletlaw16_RankTurns.j0, if_neg Bool.false_ne_true]; rfl) this
      · rw [decide_eq_true (show a1 ≥ (P.length : Int) by omega)]; exact fin
  · simp only [if_neg h]; exact fin
end Go.Proofs.Ytagnpmmcoaemeaa.Pure
