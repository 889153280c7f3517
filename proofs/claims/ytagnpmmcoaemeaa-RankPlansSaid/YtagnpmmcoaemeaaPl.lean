/- What the functions of package rank and of its reference come to, as plain functions over lists of numbers: fits, paths, those under a node, parts. Plain Lean; conditions: lists of at most a million numbers. -/
import Derived.Test.YtagnpmmcoaemeaaR16x1
import Derived.Test.YtagnpmmcoaemeaaR16x2
import Derived.Test.YtagnpmmcoaemeaaR16x5
namespace Go.Proofs.Ytagnpmmcoaemeaa.R16
open Go.RowKit Go.Proofs.YtagnpmmcoaemeaaW.PrintWords Go.Proofs.YtagnpmmcoaemeaaW.PrintLast Go.Proofs.YtagnpmmcoaemeaaW.PrintMore

theorem wr1 {i : Nat} (h : i ≤ 1000000000) : wrap64 ((i : Int) + 1) = ((i + 1 : Nat) : Int) := by unfold wrap64; omega
theorem rd_nat (P : List Int) (i : Nat) : rd P (i : Int) = P.getD i 0 := by simp [rd]
theorem rd_get {P : List Int} {i : Nat} (h : i < P.length) : rd P (i : Int) = P[i] := by simp [rd, List.getD, h]

/-! ### Fits -/
def fitsP (P : List Int) : Prop := ∀ i : Nat, i < P.length → -1 ≤ rd P i ∧ rd P i < i
instance (P : List Int) : Decidable (fitsP P) := by unfold fitsP; exact inferInstance

theorem fits_ev (P : List Int) (hP : P.length ≤ 1000000) : Ev (fun k => rank_Fits.f k P) (decide (fitsP P)) := by
  have key : ∀ d i : Nat, i + d = P.length → (∀ j : Nat, j < i → -1 ≤ rd P j ∧ rd P j < j) → Ev (fun k => rank_Fits.l0 k P (P.length : Int) (i : Int)) (decide (fitsP P)) := by
    intro d
    induction d with
    | zero =>
      intro i hi hj
      have : decide (fitsP P) = true := decide_eq_true fun j hlt => hj j (by omega)
      rw [this]
      exact Ev.step (f := fun _ => some true) (fun k => by simp only [rank_Fits.l0]; rw [if_neg (by omega)]) (Ev.now _)
    | succ d ih =>
      intro i hi hj
      by_cases h1 : rd P (i : Int) < -1
      · have : decide (fitsP P) = false := decide_eq_false fun h => by have := (h i (by omega)).1; omega
        rw [this]
        exact Ev.step (f := fun _ => some false) (fun k => by simp only [rank_Fits.l0]; rw [if_pos (by omega), if_pos (by omega), if_pos (by omega), if_pos h1]) (Ev.now _)
      · by_cases h2 : rd P (i : Int) ≥ (i : Int)
        · have : decide (fitsP P) = false := decide_eq_false fun h => by have := (h i (by omega)).2; omega
          rw [this]
          exact Ev.step (f := fun _ => some false) (fun k => by simp only [rank_Fits.l0]; rw [if_pos (by omega), if_pos (by omega), if_pos (by omega), if_neg h1, if_pos h2]) (Ev.now _)
        · exact Ev.step (f := fun k => rank_Fits.l0 k P (P.length : Int) ((i + 1 : Nat) : Int)) (fun k => by simp only [rank_Fits.l0]; rw [if_pos (by omega), if_pos (by omega), if_pos (by omega), if_neg h1, if_neg h2, wr1 (by omega)]) (ih (i + 1) (by omega) fun j hlt => by
            by_cases e : j = i
            · subst e; omega
            · exact hj j (by omega))
  exact key P.length 0 (by omega) (fun j hj => by omega)

theorem fitsR_ev (P : List Int) (hP : P.length ≤ 1000000) : Ev (fun k => rivuletref16_Fits.f k P) (decide (fitsP P)) := by
  have key : ∀ d i : Nat, i + d = P.length → (∀ j : Nat, j < i → -1 ≤ rd P j ∧ rd P j < j) → Ev (fun k => rivuletref16_Fits.l0 k P (i : Int)) (decide (fitsP P)) := by
    intro d
    induction d with
    | zero =>
      intro i hi hj
      have : decide (fitsP P) = true := decide_eq_true fun j hlt => hj j (by omega)
      rw [this]
      exact Ev.step (f := fun _ => some true) (fun k => by simp only [rivuletref16_Fits.l0]; rw [if_neg (by omega)]) (Ev.now _)
    | succ d ih =>
      intro i hi hj
      by_cases h1 : rd P (i : Int) < -1
      · have : decide (fitsP P) = false := decide_eq_false fun h => by have := (h i (by omega)).1; omega
        rw [this]
        exact Ev.step (f := fun _ => some false) (fun k => by simp only [rivuletref16_Fits.l0]; rw [if_pos (by omega), if_pos (by omega), if_pos h1]) (Ev.now _)
      · by_cases h2 : rd P (i : Int) ≥ (i : Int)
        · have : decide (fitsP P) = false := decide_eq_false fun h => by have := (h i (by omega)).2; omega
          rw [this]
          exact Ev.step (f := fun _ => some false) (fun k => by simp only [rivuletref16_Fits.l0]; rw [if_pos (by omega), if_pos (by omega), if_neg h1, if_pos h2]) (Ev.now _)
        · exact Ev.step (f := fun k => rivuletref16_Fits.l0 k P ((i + 1 : Nat) : Int)) (fun k => by simp only [rivuletref16_Fits.l0]; rw [if_pos (by omega), if_pos (by omega), if_neg h1, if_neg h2, wr1 (by omega)]) (ih (i + 1) (by omega) fun j hlt => by
            by_cases e : j = i
            · subst e; omega
            · exact hj j (by omega))
  exact key P.length 0 (by omega) (fun j hj => by omega)

/-! ### Path -/
def okP (P : List Int) (n : Int) : Prop := fitsP P ∧ 0 ≤ n ∧ n < P.length
instance (P : List Int) (n : Int) : Decidable (okP P n) := by unfold okP; exact inferInstance
def pathL (P : List Int) : Nat → Int → List Int
  | 0, _ => []
  | c + 1, n => if n < 0 then [] else n :: pathL P c (rd P n)
def pathN (P : List Int) (n : Int) : List Int := if okP P n then pathL P P.length n else []
theorem fits_at {P : List Int} (h : fitsP P) {n : Int} (h0 : 0 ≤ n) (h1 : n < P.length) : -1 ≤ rd P n ∧ rd P n < n := by
  obtain ⟨i, rfl⟩ := Int.eq_ofNat_of_zero_le h0
  exact h i (by omega)
theorem pathL_len (P : List Int) : ∀ c n, (pathL P c n).length ≤ c
  | 0, _ => by simp [pathL]
  | c + 1, n => by
    have := pathL_len P c (rd P n)
    unfold pathL
    split <;> simp <;> omega
theorem pathL_stable {P : List Int} (h : fitsP P) : ∀ (c c' : Nat) (n : Int), -1 ≤ n → n < P.length → n < c → n < c' → pathL P c n = pathL P c' n
  | 0, 0, _, _, _, _, _ => rfl
  | 0, c' + 1, n, _, _, h1, _ => by simp only [pathL]; rw [if_pos (by omega)]
  | c + 1, 0, n, _, _, _, h2 => by simp only [pathL]; rw [if_pos (by omega)]
  | c + 1, c' + 1, n, h0, hl, h1, h2 => by
    simp only [pathL]
    by_cases hn : n < 0
    · rw [if_pos hn, if_pos hn]
    · have := fits_at h (n := n) (by omega) hl
      rw [if_neg hn, if_neg hn, pathL_stable h c c' (rd P n) (by omega) (by omega) (by omega) (by omega)]
theorem pathN_no {P : List Int} {n : Int} (h : ¬ okP P n) : pathN P n = [] := if_neg h
theorem pathN_cons {P : List Int} {n : Int} (h : okP P n) : pathN P n = n :: pathN P (rd P n) := by
  obtain ⟨hf, h0, h1⟩ := h
  have hr := fits_at hf h0 h1
  obtain ⟨c, hc⟩ : ∃ c, P.length = c + 1 := ⟨P.length - 1, by omega⟩
  unfold pathN
  rw [if_pos ⟨hf, h0, h1⟩, hc]
  simp only [pathL]
  rw [if_neg (by omega)]
  congr 1
  by_cases hm : 0 ≤ rd P n
  · rw [if_pos ⟨hf, hm, by omega⟩]
    exact pathL_stable hf c (c + 1) _ (by omega) (by omega) (by omega) (by omega)
  · rw [if_neg (fun h => hm h.2.1)]
    cases c with
    | zero => rfl
    | succ c => simp only [pathL]; rw [if_pos (by omega)]
theorem pathN_len (P : List Int) (n : Int) : (pathN P n).length ≤ P.length := by unfold pathN; split; exact pathL_len _ _ _; simp
/-- By the path of one's parent. -/
theorem path_ind {P : List Int} (hf : fitsP P) {Q : Int → Prop} (hm : Q (-1)) (h : ∀ n : Int, okP P n → Q (rd P n) → Q n) : ∀ (c : Nat) (n : Int), -1 ≤ n → n < P.length → n < c → Q n
  | 0, n, h0, _, h2 => by obtain rfl : n = -1 := by omega
                          exact hm
  | c + 1, n, h0, h1, h2 => by
    by_cases e : n = -1
    · rw [e]; exact hm
    · have := fits_at hf (n := n) (by omega) h1
      exact h n ⟨hf, by omega, h1⟩ (path_ind hf hm h c _ (by omega) (by omega) (by omega))
theorem okP_m1 (P : List Int) : ¬ okP P (-1) := fun h => by have := h.2.1; omega

theorem pathGo (P : List Int) (hf : fitsP P) (_hP : P.length ≤ 1000000) : ∀ n : Int, -1 ≤ n → n < P.length → ∀ out : List Int, out.length + n ≤ 1000000000 → Ev (fun k => rank_Path.l0 k P n out) (out ++ pathN P n) := fun n h0 h1 =>
  path_ind hf (Q := fun n => ∀ out : List Int, out.length + n ≤ 1000000000 → Ev (fun k => rank_Path.l0 k P n out) (out ++ pathN P n))
    (fun out _ => by
      rw [pathN_no (okP_m1 P), List.append_nil]
      exact Ev.step (f := fun _ => some out) (fun k => by simp only [rank_Path.l0, if_true]) (Ev.now _))
    (fun n ho ih out hl => by
      have hr := fits_at hf ho.2.1 ho.2.2
      have h1 := ho.2.1
      have h2 := ho.2.2
      rw [pathN_cons ho]
      have := ih (out ++ [n]) (by simp; omega)
      rw [List.append_assoc] at this
      exact Ev.step (f := fun k => rank_Path.l0 k P (rd P n) (out ++ [n])) (fun k => by simp only [rank_Path.l0]; rw [if_neg (by omega), if_pos (by omega), if_pos (by omega), if_pos (by omega)]) this)
    P.length n h0 h1 h1
theorem path_ev (P : List Int) (hP : P.length ≤ 1000000) (n : Int) : Ev (fun k => rank_Path.f k P n) (pathN P n) := by
  unfold rank_Path.f
  refine Ev.bind (fits_ev P hP) ?_
  by_cases hf : fitsP P
  · simp only [decide_eq_true hf, if_true]
    by_cases h0 : n < 0
    · simp only [if_pos h0]
      rw [pathN_no fun h => by have := h.2.1; omega]
      exact Ev.step (f := fun _ => some []) (fun k => by simp only [rank_Path.j0, if_true]) (Ev.now _)
    · simp only [if_neg h0]
      by_cases h1 : n < P.length
      · have h2 : decide (n ≥ (P.length : Int)) = false := by simp; omega
        rw [h2]
        exact Ev.step (f := fun k => rank_Path.l0 k P n []) (fun k => by simp [rank_Path.j0]) (by simpa using pathGo P hf hP n (by omega) h1 [] (by simp; omega))
      · have h2 : decide (n ≥ (P.length : Int)) = true := by simp; omega
        rw [h2, pathN_no fun h => by have := h.2.2; omega]
        exact Ev.step (f := fun _ => some []) (fun k => by simp only [rank_Path.j0, if_true]) (Ev.now _)
  · simp only [decide_eq_false hf]
    rw [pathN_no fun h => hf h.1]
    exact Ev.step (f := fun _ => some []) (fun k => by simp [rank_Path.j0]) (Ev.now _)

/-! ### Depth -/
def depthN (P : List Int) (n : Int) : Int := (((pathN P n).length - 1 : Nat) : Int)
theorem depth_ev (P : List Int) (hP : P.length ≤ 1000000) (n : Int) : Ev (fun k => rank_Depth.f k P n) (depthN P n) := by
  unfold rank_Depth.f
  refine Ev.bind (path_ev P hP n) ?_
  have := pathN_len P n
  have e : mx 0 (wrap64 (((pathN P n).length : Int) - 1)) = depthN P n := by unfold mx depthN wrap64; split <;> omega
  rw [e]
  exact Ev.now _

/-! ### The reference -/
theorem is_ev (P : List Int) (hP : P.length ≤ 1000000) (n : Int) : Ev (fun k => rivuletref16_is.f k P n) (decide (okP P n)) := by
  unfold rivuletref16_is.f
  refine Ev.bind (fitsR_ev P hP) ?_
  by_cases hf : fitsP P
  · simp only [decide_eq_true hf, if_true]
    by_cases h0 : n ≥ 0
    · simp only [if_pos h0]
      have : decide (n < (P.length : Int)) = decide (okP P n) := decide_eq_decide.2 ⟨fun h => ⟨hf, h0, h⟩, fun h => h.2.2⟩
      rw [this]
      exact Ev.now _
    · simp only [if_neg h0]
      rw [decide_eq_false fun h : okP P n => h0 h.2.1]
      exact Ev.now _
  · simp only [decide_eq_false hf]
    rw [decide_eq_false fun h : okP P n => hf h.1]
    exact Ev.now _
theorem pathRGo (P : List Int) (hf : fitsP P) (_hP : P.length ≤ 1000000) : ∀ n : Int, -1 ≤ n → n < P.length → ∀ out : List Int, out.length + n ≤ 1000000000 → Ev (fun k => rivuletref16_Path.l0 k P n out) (out ++ pathN P n) := fun n h0 h1 =>
  path_ind hf (Q := fun n => ∀ out : List Int, out.length + n ≤ 1000000000 → Ev (fun k => rivuletref16_Path.l0 k P n out) (out ++ pathN P n))
    (fun out _ => by
      rw [pathN_no (okP_m1 P), List.append_nil]
      exact Ev.step (f := fun _ => some out) (fun k => by simp only [rivuletref16_Path.l0]; rw [if_neg (by omega)]) (Ev.now _))
    (fun n ho ih out hl => by
      have hr := fits_at hf ho.2.1 ho.2.2
      have h1 := ho.2.1
      have h2 := ho.2.2
      rw [pathN_cons ho]
      have := ih (out ++ [n]) (by simp; omega)
      rw [List.append_assoc] at this
      exact Ev.step (f := fun k => rivuletref16_Path.l0 k P (rd P n) (out ++ [n])) (fun k => by simp only [rivuletref16_Path.l0]; rw [if_pos (by omega), if_pos (by omega), if_pos (by omega), if_pos (by omega)]) this)
    P.length n h0 h1 h1
theorem pathR_ev (P : List Int) (hP : P.length ≤ 1000000) (n : Int) : Ev (fun k => rivuletref16_Path.f k P n) (pathN P n) := by
  unfold rivuletref16_Path.f
  simp only [Option.bind_some]
  refine Ev.bind (is_ev P hP n) ?_
  by_cases h : okP P n
  · simp only [decide_eq_true h, if_true]
    simpa using pathRGo P h.1 hP n (by have := h.2.1; omega) h.2.2 [] (by have := h.2.2; simp; omega)
  · simp only [decide_eq_false h]
    rw [pathN_no h]
    exact Ev.now _
theorem depthRGo (P : List Int) (hf : fitsP P) (_hP : P.length ≤ 1000000) : ∀ n : Int, -1 ≤ n → n < P.length → 0 ≤ n → ∀ d : Nat, d + n ≤ 1000000000 → Ev (fun k => rivuletref16_Depth.l0 k P n (d : Int)) ((d : Int) + depthN P n) := fun n h0 h1 =>
  path_ind hf (Q := fun n => 0 ≤ n → ∀ d : Nat, d + n ≤ 1000000000 → Ev (fun k => rivuletref16_Depth.l0 k P n (d : Int)) ((d : Int) + depthN P n))
    (fun h => by omega)
    (fun n ho ih _ d hl => by
      have hr := fits_at hf ho.2.1 ho.2.2
      have h1 := ho.2.1
      have h2 := ho.2.2
      by_cases hm : 0 ≤ rd P n
      · have := ih hm (d + 1) (by omega)
        have e : ((d + 1 : Nat) : Int) + depthN P (rd P n) = (d : Int) + depthN P n := by
          unfold depthN
          rw [pathN_cons ho, pathN_cons (n := rd P n) ⟨hf, hm, by omega⟩]
          simp; omega
        rw [e] at this
        exact Ev.step (f := fun k => rivuletref16_Depth.l0 k P (rd P n) ((d + 1 : Nat) : Int)) (fun k => by simp only [rivuletref16_Depth.l0]; rw [if_pos (by omega), if_pos (by omega), if_pos (by omega), wr1 (by omega)]) this
      · have e : (d : Int) + depthN P n = d := by
          unfold depthN
          rw [pathN_cons ho, pathN_no (n := rd P n) (fun h => hm h.2.1)]
          simp
        rw [e]
        exact Ev.step (f := fun _ => some (d : Int)) (fun k => by simp only [rivuletref16_Depth.l0]; rw [if_pos (by omega), if_pos (by omega), if_neg (by omega)]) (Ev.now _))
    P.length n h0 h1 h1
theorem depthR_ev (P : List Int) (hP : P.length ≤ 1000000) (n : Int) : Ev (fun k => rivuletref16_Depth.f k P n) (depthN P n) := by
  unfold rivuletref16_Depth.f
  refine Ev.bind (is_ev P hP n) ?_
  by_cases h : okP P n
  · simp only [decide_eq_true h, if_true]
    simpa using depthRGo P h.1 hP n (by have := h.2.1; omega) h.2.2 h.2.1 0 (by have := h.2.2; simp; omega)
  · simp only [decide_eq_false h]
    have : depthN P n = 0 := by unfold depthN; rw [pathN_no h]; rfl
    rw [this]
    exact Ev.now _

/-! ### Under, Top, Part: as the program's closures ask -/
def pick (p : Nat → Bool) (n : Nat) : List Int := ((List.range n).filter p).map fun i : Nat => (i : Int)
theorem pick_succ (p : Nat → Bool) (n : Nat) : pick p (n + 1) = pick p n ++ (if p n then [(n : Int)] else []) := by
  unfold pick
  rw [List.range_succ, List.filter_append, List.map_append]
  by_cases h : p n = true <;> simp [h]
theorem pick_len (p : Nat → Bool) (n : Nat) : (pick p n).length ≤ n := by
  unfold pick
  rw [List.length_map]
  exact Nat.le_trans (List.length_filter_le _ _) (by simp)
def underN (P : List Int) (n : Int) : List Int := if okP P n then pick (fun i => rd P (i : Int) == n) P.length else []
/-- The one above all. -/
def topN (P : List Int) (n : Int) : Int := rd (pathN P n) (((pathN P n).length : Int) - 1)
def partN (P : List Int) (n : Int) : List Int := if okP P n then pick (fun i => topN P (i : Int) == topN P n) P.length else []
theorem topN_one {P : List Int} {n : Int} (h : okP P n) (hr : ¬ 0 ≤ rd P n) : topN P n = n := by
  unfold topN
  rw [pathN_cons h, pathN_no (n := rd P n) fun h => hr h.2.1]
  simp [rd]
theorem topN_up {P : List Int} {n : Int} (h : okP P n) (hr : 0 ≤ rd P n) : topN P n = topN P (rd P n) := by
  have hf := fits_at h.1 h.2.1 h.2.2
  have h2 : okP P (rd P n) := ⟨h.1, hr, by have := h.2.2; omega⟩
  unfold topN
  rw [pathN_cons h]
  have : (pathN P (rd P n)).length ≠ 0 := by rw [pathN_cons h2]; simp
  generalize pathN P (rd P n) = L at this
  unfold rd
  obtain ⟨m, hm⟩ : ∃ m, L.length = m + 1 := ⟨L.length - 1, by omega⟩
  have e1 : (((n :: L).length : Int) - 1).toNat = m + 1 := by simp; omega
  have e2 : ((L.length : Int) - 1).toNat = m := by omega
  rw [e1, e2]
  simp

/-! ### Index and Contains of the library -/
theorem idx_ev (l : List Int) (a : Int) (hl : l.length ≤ 1000000) : Ev (fun k => slices_Index_int_int.f k l a) (if a ∈ l then (l.idxOf a : Int) else -1) := by
  have key : ∀ d i : Nat, i + d = l.length → (∀ j : Nat, j < i → rd l j ≠ a) → Ev (fun k => slices_Index_int_int.l0 k l a (l.length : Int) (i : Int)) (if a ∈ l then (l.idxOf a : Int) else -1) := by
    intro d
    induction d with
    | zero =>
      intro i hi hj
      have : a ∉ l := fun hm => by
        obtain ⟨j, hj1, hj2⟩ := List.getElem_of_mem hm
        exact hj j (by omega) (by rw [rd_get hj1]; exact hj2)
      rw [if_neg this]
      exact Ev.step (f := fun _ => some (-1)) (fun k => by simp only [slices_Index_int_int.l0]; rw [if_neg (by omega)]) (Ev.now _)
    | succ d ih =>
      intro i hi hj
      by_cases h1 : a = rd l (i : Int)
      · have hlt : i < l.length := by omega
        have hm : a ∈ l := by rw [h1, rd_get hlt]; exact List.getElem_mem _
        have hx : l.idxOf a = i := by
          have h2 := List.idxOf_lt_length_of_mem hm
          have h3 : l[l.idxOf a] = a := List.getElem_idxOf h2
          rcases Nat.lt_trichotomy (l.idxOf a) i with h | h | h
          · exact absurd (by rw [rd_get h2]; exact h3) (hj _ h)
          · exact h
          · have h4 := List.not_of_lt_findIdx (p := (· == a)) (xs := l) (i := i) h
            rw [rd_get hlt] at h1
            simp [← h1] at h4
        rw [if_pos hm, hx]
        exact Ev.step (f := fun _ => some (i : Int)) (fun k => by simp only [slices_Index_int_int.l0]; rw [if_pos (by omega), if_pos (by omega), if_pos (by omega), if_pos h1]) (Ev.now _)
      · exact Ev.step (f := fun k => slices_Index_int_int.l0 k l a (l.length : Int) ((i + 1 : Nat) : Int)) (fun k => by simp only [slices_Index_int_int.l0]; rw [if_pos (by omega), if_pos (by omega), if_pos (by omega), if_neg h1, wr1 (by omega)]) (ih (i + 1) (by omega) fun j hlt => by
          by_cases e : j = i
          · subst e; exact fun h => h1 h.symm
          · exact hj j (by omega))
  exact key l.length 0 (by omega) (fun j hj => by omega)
theorem cont_ev (l : List Int) (a : Int) (hl : l.length ≤ 1000000) : Ev (fun k => slices_Contains_int_int.f k l a) (decide (a ∈ l)) := by
  unfold slices_Contains_int_int.f
  refine Ev.bind (idx_ev l a hl) ?_
  have : decide ((if a ∈ l then (l.idxOf a : Int) else -1) ≥ 0) = decide (a ∈ l) := by by_cases h : a ∈ l <;> simp [h]
  rw [this]
  exact Ev.now _
theorem ints_ev (l m : List Int) (hl : l.length ≤ 1000000) : Ev (fun k => rivuletref04_Ints.f k l m) (decide (l = m)) := by
  unfold rivuletref04_Ints.f
  by_cases hlen : l.length = m.length
  · have key : ∀ d i : Nat, i + d = l.length → (∀ j : Nat, j < i → rd l j = rd m j) → Ev (fun k => rivuletref04_Ints.l0 k l m (i : Int)) (decide (l = m)) := by
      intro d
      induction d with
      | zero =>
        intro i hi hj
        have : l = m := List.ext_getElem hlen fun j h1 h2 => by have := hj j (by omega); rwa [rd_get h1, rd_get h2] at this
        rw [decide_eq_true this]
        exact Ev.step (f := fun _ => some true) (fun k => by simp only [rivuletref04_Ints.l0]; rw [if_neg (by omega)]) (Ev.now _)
      | succ d ih =>
        intro i hi hj
        by_cases h1 : rd l (i : Int) = rd m (i : Int)
        · exact Ev.step (f := fun k => rivuletref04_Ints.l0 k l m ((i + 1 : Nat) : Int)) (fun k => by simp only [rivuletref04_Ints.l0]; rw [if_pos (by omega), if_pos (by omega), if_pos (by omega), if_pos h1, wr1 (by omega)]) (ih (i + 1) (by omega) fun j hlt => by
            by_cases e : j = i
            · subst e; exact h1
            · exact hj j (by omega))
        · rw [decide_eq_false fun h : l = m => h1 (by rw [h])]
          exact Ev.step (f := fun _ => some false) (fun k => by simp only [rivuletref04_Ints.l0]; rw [if_pos (by omega), if_pos (by omega), if_pos (by omega), if_neg h1]) (Ev.now _)
    exact Ev.congr (fun k => by rw [if_pos (by omega)]; rfl) (key l.length 0 (by omega) (fun j hj => by omega))
  · rw [decide_eq_false fun h : l = m => hlen (by rw [h])]
    exact Ev.congr (fun k => by rw [if_neg (by omega)]) (Ev.now _)
end Go.Proofs.Ytagnpmmcoaemeaa.R16
