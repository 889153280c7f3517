/- A script of the receiver's statements, as the walk reads it. -/
import Derived.Test.YtejmcfgmopijkaaProg
import Derived.Test.YtejmcfgmopijkaaArgs
namespace Go.Proofs.Ytejmcfgmopijkaa
open Go.ChangeShapes Go.WideShapes Go.Deep Go.RowKit

/-- A slice of calls: which, an epoch, a number. -/
structure Ops13 (w : World) (B : Nat) (A : Option Addr) (len : Nat) (K E N : Nat → Int) : Prop where
  at_ : ∀ i, i < len → ∃ b off, A = some ⟨b, off, none⟩ ∧ b < B ∧ w.cell? ⟨b, off + i * 3, none⟩ = some (.int .i64 (K i)) ∧ w.cell? ⟨b, off + i * 3 + 1, none⟩ = some (.int .i64 (E i)) ∧ w.cell? ⟨b, off + i * 3 + 2, none⟩ = some (.int .i64 (N i))

theorem Ops13.below {w w' : World} {B : Nat} {A : Option Addr} {len : Nat} {K E N : Nat → Int} (h : Ops13 w B A len K E N) (hb : Below B w w') : Ops13 w' B A len K E N :=
  ⟨fun i hi => by
    obtain ⟨b, off, hA, hB, h0, h1, h2⟩ := h.at_ i hi
    exact ⟨b, off, hA, hB, (hb.cell (p := ⟨b, _, none⟩) hB).trans h0, (hb.cell (p := ⟨b, _, none⟩) hB).trans h1, (hb.cell (p := ⟨b, _, none⟩) hB).trans h2⟩⟩

set_option maxRecDepth 100000 in
theorem open_ops13 {H : Type} {enc : TypeId × Value → H} {w : World} {base : Nat} {spare : Nat → Bool} {held : Bool} {r : Reach} {b0 : Nat} {v : Value} {d : DataW H} {p : List MemPlace}
    (hv : Value.okWide Try.prog w r b0 22 v) (h : DataW.Trod enc Try.prog w base spare held 22 v d p) :
    ∃ (A : Option Addr) (len cap : Nat) (K E N : Nat → Int), v = .slice A len cap ∧ len ≤ maxLen ∧ Ops13 w w.heap.size A len K E N := by
  obtain ⟨A, len, cap, rfl, hm, hi⟩ := open_rows Try.underlying22 Try.underlying31 (by kernel_rfl) (by kernel_rfl) (by decide) hv h
  have h1 : ∀ i, ∃ q : Int × Int × Int, i < len → ∃ b off, A = some ⟨b, off, none⟩ ∧ b < w.heap.size ∧ w.cell? ⟨b, off + i * 3, none⟩ = some (.int .i64 q.1) ∧ w.cell? ⟨b, off + i * 3 + 1, none⟩ = some (.int .i64 q.2.1) ∧ w.cell? ⟨b, off + i * 3 + 2, none⟩ = some (.int .i64 q.2.2) := by
    intro i
    by_cases hlt : i < len
    · obtain ⟨b, off, hA, hb, hf⟩ := hi i hlt
      obtain ⟨u0, y0, n0, c0, t0⟩ := hf 0 _ rfl
      obtain ⟨u1, y1, n1, c1, t1⟩ := hf 1 _ rfl
      obtain ⟨u2, y2, n2, c2, t2⟩ := hf 2 _ rfl
      obtain ⟨k, e0, _, _⟩ := DataW.trod_int Try.underlying3 t0
      obtain ⟨e, e1, _, _⟩ := DataW.trod_int Try.underlying3 t1
      obtain ⟨n, e2, _, _⟩ := DataW.trod_int Try.underlying3 t2
      simp at e0 e1 e2
      subst e0 e1 e2
      exact ⟨(k, e, n), fun _ => ⟨b, off, hA, hb, by simpa using c0, by simpa [Nat.add_assoc] using c1, by simpa [Nat.add_assoc] using c2⟩⟩
    · exact ⟨(0, 0, 0), fun h => absurd h hlt⟩
  obtain ⟨f, hf⟩ := Classical.axiomOfChoice h1
  exact ⟨A, len, cap, fun i => (f i).1, fun i => (f i).2.1, fun i => (f i).2.2, rfl, hm, ⟨hf⟩⟩
end Go.Proofs.Ytejmcfgmopijkaa
