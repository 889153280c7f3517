/- What is due, where the texts that were sent stand ahead of those that were not: a tail of the texts under way. -/
import Derived.Test.YtejmcfgmopijkaaStrs
namespace Go.Proofs.Ytejmcfgmopijkaa
open Go.RowKit

/-- The first a texts were sent, the others not. -/
def SufT (T : List Txt) (a : Nat) : Prop := ∀ (i : Nat) (x : Txt), T[i]? = some x → x.2 = decide (i < a)

theorem SufT.nil : SufT [] 0 := fun i x h => by simp at h
theorem SufT.push {T : List Txt} {a : Nat} (h : SufT T a) (ha : a ≤ T.length) (s : ByteArray) : SufT (T ++ [(s, false)]) a := fun i x hx => by
  by_cases hi : i < T.length
  · rw [List.getElem?_append_left hi] at hx; exact h i x hx
  · rw [List.getElem?_append_right (by omega)] at hx
    have : i - T.length = 0 := by
      have := (List.getElem?_eq_some_iff.1 hx).1
      simp at this; omega
    rw [this] at hx
    simp at hx
    subst hx
    simp; omega
theorem SufT.drop {T : List Txt} {a : Nat} (h : SufT T a) (k : Nat) : SufT (T.drop k) (a - k) := fun i x hx => by
  rw [List.getElem?_drop] at hx
  rw [h _ _ hx]
  simp; omega
theorem SufT.sent (T : List Txt) : SufT (T.map fun x => (x.1, true)) T.length := fun i x hx => by
  have hi := (List.getElem?_eq_some_iff.1 hx).1
  simp at hi hx
  obtain ⟨a, _, rfl⟩ := hx
  simp [hi]
theorem SufT.tail {T : List Txt} {x : Txt} {a : Nat} (h : SufT (x :: T) (a + 1)) : SufT T a := fun i y hy => by
  rw [h (i + 1) y (by simpa using hy)]
  simp
theorem itemsOf_suf : ∀ (T : List Txt) (g : Int) (a : Nat), SufT T a → itemsOf (fun x : Txt => !x.2) g T = itemsOf (fun _ => true) (g + a) (T.drop a) := by
  intro T
  induction T with
  | nil => intro g a _; simp [itemsOf]
  | cons x T ih =>
    intro g a h
    cases a with
    | zero =>
      simp
      exact itemsOf_eq _ _ fun y hy => by
        obtain ⟨i, hi⟩ := List.getElem?_of_mem hy
        have := h i y hi
        simp at this
        simp [this]
    | succ a =>
      have h0 := h 0 x rfl
      simp at h0
      simp only [itemsOf, h0, List.drop_succ_cons]
      have := ih (g + 1) a h.tail
      simp [this]
      congr 1
      omega

theorem SufT.dueL {T : List Txt} {a : Nat} (h : SufT T a) (ha : a ≤ T.length) (wait last gone now : Int) : ∃ b, b ≤ T.length ∧ dueL wait last gone now T = itemsOf (fun _ => true) (gone + (b : Nat)) (T.drop b) := by
  unfold Ytejmcfgmopijkaa.dueL
  cases hb : againB wait last (max now last) T with
  | true => exact ⟨0, Nat.zero_le _, by simp⟩
  | false =>
    refine ⟨a, ha, ?_⟩
    simp only [Bool.false_or]
    exact itemsOf_suf T gone a h
theorem SufT.dueT {T : List Txt} {a : Nat} (h : SufT T a) (ha : a ≤ T.length) (wait last gone now : Int) : ∃ b, b ≤ (dueT wait last gone now T).length ∧ SufT (dueT wait last gone now T) b := by
  unfold Ytejmcfgmopijkaa.dueT
  split
  · exact ⟨a, ha, h⟩
  · exact ⟨T.length, by simp, SufT.sent T⟩
theorem dueT_fst (wait last gone now : Int) (T : List Txt) : (dueT wait last gone now T).map (·.1) = T.map (·.1) := by
  unfold dueT
  split
  · rfl
  · simp

/-- The texts under way are the last ones of all. -/
structure OrdX (X : List ByteArray) (n : Nat) (T : List Txt) : Prop where
  fst : T.map (·.1) = X.drop n
  len : X.length = n + T.length
theorem OrdX.push {X : List ByteArray} {n : Nat} {T : List Txt} (h : OrdX X n T) (s : ByteArray) : OrdX (X ++ [s]) n (T ++ [(s, false)]) := by
  have := h.len
  refine ⟨?_, by simp; omega⟩
  rw [List.map_append, h.fst, List.drop_append_of_le_length (by omega)]
  rfl
theorem OrdX.due {X : List ByteArray} {n : Nat} {T : List Txt} (h : OrdX X n T) (wait last gone now : Int) : OrdX X n (dueT wait last gone now T) := ⟨(dueT_fst _ _ _ _ T).trans h.fst, by rw [dueT_len]; exact h.len⟩
theorem OrdX.drop {X : List ByteArray} {n k : Nat} {T : List Txt} (h : OrdX X n T) (hk : k ≤ T.length) : OrdX X (n + k) (T.drop k) := by
  have := h.len
  refine ⟨?_, by simp; omega⟩
  rw [List.map_drop, h.fst, List.drop_drop]
theorem OrdX.item {X : List ByteArray} {n b i : Nat} {T : List Txt} (h : OrdX X n T) (hi : i + b < T.length) :
    ∃ s, (itemsOf (fun _ => true) ((n : Int) + (b : Nat)) (T.drop b))[i]? = some ((n : Int) + b + i + 1, s) ∧ X[n + b + i]? = some s := by
  obtain ⟨x, hx⟩ : ∃ x, T[b + i]? = some x := ⟨T[b + i]'(by omega), List.getElem?_eq_getElem (by omega)⟩
  refine ⟨x.1, items_get _ _ _ _ (by rw [List.getElem?_drop]; exact hx), ?_⟩
  have h1 : (T.map (·.1))[b + i]? = some x.1 := by simp [hx]
  rw [h.fst, List.getElem?_drop] at h1
  rw [Nat.add_assoc]
  exact h1

/-- A row of texts, read. -/
theorem own_str {w : World} {base e : Nat} {v : Value} {X : List ByteArray} (h : w.ownsRow base e 1 v X.length (X.map Value.string)) : ∃ A cap, v = .slice A X.length cap ∧ ∀ (i : Nat) (s : ByteArray), X[i]? = some s → ∃ g, A = some ⟨g, 0, none⟩ ∧ w.cell? ⟨g, i, none⟩ = some (.string s) := by
  rcases own_form h with ⟨rfl, h0, hx⟩ | ⟨gv, cap, cur, rfl, hb, hblk, hn, hm, hs, ht⟩
  · refine ⟨none, 0, by rw [h0], fun i s hi => ?_⟩
    have := (List.getElem?_eq_some_iff.1 hi).1
    omega
  · refine ⟨_, cap, rfl, fun i s hi => ⟨gv, rfl, ?_⟩⟩
    have hlt := (List.getElem?_eq_some_iff.1 hi).1
    rw [hblk.cell i]
    have h1 : (cur.toList.take (X.length * 1))[i]? = some (.string s) := by rw [ht]; simp [hi]
    rw [List.getElem?_take] at h1
    split at h1
    · simpa using h1
    · simp at h1
/-- Rows read in a world in which nothing known has turned. -/
theorem RdI.chB0 {w w' : World} {A : Option Addr} {L : List Itm} {B : Nat} (h : RdI w A L) (c : ChB B [] w w') : RdI w' A L := fun i x hx => by
  obtain ⟨b, o, hA, hb, h0, h1⟩ := h i x hx
  have hk : w'.heap[b]? = w.heap[b]? := c.block b hb (.inr fun _ _ _ _ => by simp)
  refine ⟨b, o, hA, Nat.lt_of_lt_of_le hb c.size, ?_, ?_⟩
  · rw [← h0]; simp [World.cell?, hk]
  · rw [← h1]; simp [World.cell?, hk]
end Go.Proofs.Ytejmcfgmopijkaa
