/- The parents that a right plan has at first fit; node 0 has none, and all are in its part. No conditions. -/
import Derived.Test.YtagnpmmcoaemeaaR16x10
import Derived.Test.YtagnpmmcoaemeaaPl4
namespace Go.Proofs.Ytagnpmmcoaemeaa.Pure
open Go.RowKit Go.Proofs.Ytagnpmmcoaemeaa.R16 Go.Proofs.YtagnpmmcoaemeaaW.PrintWords Go.Proofs.YtagnpmmcoaemeaaW.PrintLast Go.Proofs.YtagnpmmcoaemeaaW.PrintMore

theorem first_len {P : List (List Int)} (h : rightN P = 0) : (firstN P).length = P.length := by
  have := (right_ok h).n1
  unfold firstN
  rw [if_pos h]
  simp
  omega
theorem first_zero {P : List (List Int)} (h : rightN P = 0) : rd (firstN P) 0 = -1 := by
  unfold firstN
  rw [if_pos h]
  exact rd_cons_zero _ _
theorem first_succ {P : List (List Int)} (h : rightN P = 0) {i : Nat} (hi : i + 1 < P.length) : rd (firstN P) ((i + 1 : Nat) : Int) = rd (rd_L1 P ((i + 1 : Nat) : Int)) 0 := by
  unfold firstN
  rw [if_pos h, rd_cons_succ]
  have hlt : i < (P.drop 1).length := by simp; omega
  have h1 : rd_L1 P ((i + 1 : Nat) : Int) = (P.drop 1)[i] := by
    rw [← rd_L1_drop]
    simp [rd_L1, List.getD, hlt]
    simp at hlt
    rw [List.getElem?_eq_getElem (by omega)]
    simp
  rw [h1, rd_get (by simpa using hlt)]
  simp
theorem first_fits {P : List (List Int)} (h : rightN P = 0) : fitsP (firstN P) := by
  intro i hi
  rw [first_len h] at hi
  cases i with
  | zero =>
    have e : rd (firstN P) ((0 : Nat) : Int) = -1 := first_zero h
    rw [e]
    omega
  | succ i =>
    rw [first_succ h hi]
    have := (right_ok h).low (i + 1) 0 hi (by have := ((right_ok h).r1 (i + 1) (by omega) hi).1; omega)
    have e : rd (rd_L1 P ((i + 1 : Nat) : Int)) 0 = rd (rd_L1 P ((i + 1 : Nat) : Int)) ((0 : Nat) : Int) := rfl
    rw [e]
    omega
theorem first_top {P : List (List Int)} (h : rightN P = 0) (n : Int) (ho : okP (firstN P) n) : topN (firstN P) n = 0 := by
  obtain ⟨h1, h2⟩ := top_ok n ho
  have h3 := h1.2.1
  have h4 := h1.2.2
  obtain ⟨t, ht⟩ := Int.eq_ofNat_of_zero_le h3
  rw [ht] at h2 h4 ⊢
  rw [first_len h] at h4
  cases t with
  | zero => rfl
  | succ t =>
    have hlt : t + 1 < P.length := by omega
    rw [first_succ h hlt] at h2
    have := (right_ok h).low (t + 1) 0 hlt (by have := ((right_ok h).r1 (t + 1) (by omega) hlt).1; omega)
    have e : rd (rd_L1 P ((t + 1 : Nat) : Int)) 0 = rd (rd_L1 P ((t + 1 : Nat) : Int)) ((0 : Nat) : Int) := rfl
    rw [e] at h2
    omega
theorem pick_all (p : Nat → Bool) : ∀ n, (∀ i, i < n → p i = true) → (pick p n).length = n
  | 0, _ => rfl
  | n + 1, h => by rw [pick_succ, if_pos (h n (by omega)), List.length_append, pick_all p n (fun i hi => h i (by omega))]; rfl

theorem first0 (P : List (List Int)) (h : rightN P = 0) : ∀ d i : Nat, 1 ≤ i → i + d = P.length → Ev (fun k => rivuletlaw16_RankFirst.l0 k P (firstN P) (i : Int)) true := by
  have ho := right_ok h
  have hl := first_len h
  have hf := first_fits h
  have h8 := ho.n8
  intro d
  induction d with
  | zero =>
    intro i h1 hi
    exact Ev.step (f := fun _ => some true) (fun k => by simp only [rivuletlaw16_RankFirst.l0]; rw [if_neg (by omega)]; rfl) (Ev.now _)
  | succ d ih =>
    intro i h1 hi
    obtain ⟨q, rfl⟩ : ∃ q, i = q + 1 := ⟨i - 1, by omega⟩
    have hlt : q + 1 < P.length := by omega
    have hrow := (ho.r1 (q + 1) (by omega) hlt).1
    have hs := first_succ h hlt
    have hlow := ho.low (q + 1) 0 hlt (by omega)
    have e : rd (rd_L1 P ((q + 1 : Nat) : Int)) 0 = rd (rd_L1 P ((q + 1 : Nat) : Int)) ((0 : Nat) : Int) := rfl
    have hok : okP (firstN P) ((q + 1 : Nat) : Int) := ⟨hf, by omega, by omega⟩
    have hup := okP_up hok (by rw [hs, e]; exact hlow.1)
    have hd : 1 ≤ depthN (firstN P) ((q + 1 : Nat) : Int) := by
      unfold depthN
      rw [pathN_cons hok, pathN_cons hup]
      simp only [List.length_cons]
      omega
    refine Ev.step (fun k => by simp only [rivuletlaw16_RankFirst.l0]; rw [if_pos (by omega), if_pos (by omega), if_pos (by omega), if_pos (by omega), if_pos hs]) ?_
    refine Ev.bind (depth_ev (firstN P) (by omega) _) ?_
    simp only [if_neg (show ¬ depthN (firstN P) ((q + 1 : Nat) : Int) < 1 by omega)]
    exact Ev.congr (fun k => by rw [wr1 (by omega)]) (ih (q + 1 + 1) (by omega) (by omega))

theorem RankFirst (l0 : List (List Int)) : ∃ k, rivuletlaw16_RankFirst.f k l0 = some true := by
  refine Ev.rounds (g := fun k => rivuletlaw16_RankFirst.f k l0) ?_
  unfold rivuletlaw16_RankFirst.f
  obtain ⟨hs, _⟩ := cut_small l0
  refine Ev.bind (cut_ev l0) ?_
  generalize cutN l0 = P at hs ⊢
  refine Ev.bind (first_ev P hs) (Ev.bind (right_ev P hs) ?_)
  by_cases h : rightN P = 0
  · have ho := right_ok h
    have hl := first_len h
    have hf := first_fits h
    have h8 := ho.n8
    have h1 := ho.n1
    simp only [if_pos h, if_pos (show ((firstN P).length : Int) = (P.length : Int) by omega)]
    refine Ev.bind (fits_ev (firstN P) (by omega)) ?_
    simp only [decide_eq_true hf, if_true, if_pos (show (0 : Int) < ((firstN P).length : Int) by omega), if_pos (first_zero h)]
    refine Ev.bind (part_ev (firstN P) (by omega) 0) ?_
    have h0 : okP (firstN P) 0 := ⟨hf, by omega, by omega⟩
    have hp : (partN (firstN P) 0).length = P.length := by
      have e : partN (firstN P) 0 = pick (fun i => topN (firstN P) (i : Int) == topN (firstN P) 0) (firstN P).length := if_pos h0
      rw [e, pick_all, hl]
      intro i hi
      rw [first_top h _ ⟨hf, by omega, by omega⟩, first_top h _ h0]
      rfl
    have hne : (((partN (firstN P) 0).length : Int) != (P.length : Int)) = false := by rw [hp]; simp
    rw [hne]
    exact Ev.step (f := fun k => rivuletlaw16_RankFirst.l0 k P (firstN P) ((1 : Nat) : Int)) (fun k => by simp only [rivuletlaw16_RankFirst.j0, if_neg Bool.false_ne_true]; rfl) (first0 P h (P.length - 1) 1 (by omega) (by omega))
  · have e : firstN P = [] := if_neg h
    simp only [if_neg h, e, List.length_nil, Int.natCast_zero, if_true]
    exact Ev.now _
end Go.Proofs.Ytagnpmmcoaemeaa.Pure
