/- An argument that is a slice of slices of numbers, as the printed contracts read it. Plain theorem over this seat's program. -/
import Derived.Deep.Matrix
import Derived.ProofKit
import Derived.Test.YtagnpmmcoaemeaaR16x0
namespace Go.Proofs.Ytagnpmmcoaemeaa
open Go.ChangeShapes Go.WideShapes Go.Deep Go.RowKit Go.Proofs.YtagnpmmcoaemeaaW.PrintWords

set_option maxRecDepth 100000 in
theorem open_plan {H : Type} {enc : TypeId × Value → H} {w : World} {base : Nat} {held : Bool} {r : Reach} {b0 : Nat} {v : Value} {d : DataW H} {p : List MemPlace}
    (hv : Value.okWide Try.prog w r b0 22 v) (h : DataW.Trod enc Try.prog w base (fun _ => true) held 22 v d p) :
    ∃ (A : Option Addr) (len cap : Nat) (l : List (List Int)), v = .slice A len cap ∧ l.length = len ∧ len ≤ cap ∧ Kd.C (Kd.slice 3 (Kd.int .i64)) w A len l := by
  obtain ⟨A, len, cap, rfl⟩ := okWide_slice Try.underlying22 hv
  obtain ⟨fuel, hf⟩ := h
  rcases open_int_rows Try.underlying22 Try.underlying24 Try.underlying3 (by kernel_rfl) (by kernel_rfl) hf with ⟨hcs, _⟩ | ⟨a, len', cap', A', L, C, Z, hcs, _, hl, hm, _, hi⟩
  · simp [Value.cells] at hcs
    obtain ⟨rfl, rfl, rfl⟩ := hcs
    exact ⟨none, 0, 0, [], rfl, rfl, Nat.le_refl _, Kd.C_nil _ _⟩
  · simp [Value.cells] at hcs
    obtain ⟨rfl, rfl, rfl⟩ := hcs
    unfold maxLen at hm
    refine ⟨some a, len, cap, (List.range len).map fun r => (Z r).take (L r), rfl, by simp, hl, ⟨by simp, by omega, fun _ => ⟨a, rfl, fun j q hq => ?_⟩⟩⟩
    have hj : j < len := by
      have := (List.getElem?_eq_some_iff.1 hq).1
      simpa using this
    simp [hj] at hq
    subst hq
    obtain ⟨hc, h1, h2, h3, _, h5, h6⟩ := hi j (by omega)
    unfold maxLen at h2
    have hlen : ((Z j).take (L j)).length = L j := by rw [List.length_take]; omega
    refine ⟨[.slice (A' j) (L j) (C j)], rfl, ⟨A' j, C j, by rw [hlen], by omega, ⟨by rw [hlen], by omega, fun hpos => ?_⟩⟩, fun i u hu => ?_⟩
    · rw [hlen] at hpos
      cases hA : A' j with
      | none => have := h5 hA; omega
      | some a' =>
        refine ⟨a', rfl, fun i x hx => ⟨[.int .i64 x], rfl, rfl, fun q u hu => ?_⟩⟩
        have hq : q = 0 := by have := (List.getElem?_eq_some_iff.1 hu).1; simp at this; exact this
        subst hq
        simp at hu
        subst hu
        have hlt : i < L j := by
          have := (List.getElem?_eq_some_iff.1 hx).1
          rw [hlen] at this
          exact this
        have hz : (Z j)[i]? = some x := by rw [List.getElem?_take] at hx; simpa [hlt] using hx
        have := (h6 a' hA).2 i (by omega)
        show w.cell? (a'.add (i * 1 + 0)) = _
        rw [Nat.mul_one, Nat.add_zero, this]
        simp [List.getD, hz]
    · have hq : i = 0 := by have := (List.getElem?_eq_some_iff.1 hu).1; simp at this; exact this
      subst hq
      simp at hu
      subst hu
      show w.cell? (a.add (j * 1 + 0)) = _
      rw [Nat.mul_one, Nat.add_zero]
      exact hc
end Go.Proofs.Ytagnpmmcoaemeaa
