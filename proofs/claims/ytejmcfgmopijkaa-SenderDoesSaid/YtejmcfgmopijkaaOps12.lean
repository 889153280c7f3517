/- A script of the sender's statements, as the walk reads it. -/
import Derived.Test.YtejmcfgmopijkaaProg
import Derived.Test.YtejmcfgmopijkaaArgs
namespace Go.Proofs.Ytejmcfgmopijkaa
open Go.ChangeShapes Go.WideShapes Go.Deep Go.RowKit

/-- A call of a script: which, a text, an epoch, two numbers. -/
structure Op12 where
  k : Int
  s : ByteArray
  e : Int
  n : Int
  c : Int
/-- A slice of calls. -/
structure Ops12 (w : World) (B : Nat) (A : Option Addr) (len : Nat) (f : Nat → Op12) : Prop where
  at_ : ∀ i, i < len → ∃ b off, A = some ⟨b, off, none⟩ ∧ b < B ∧ w.cell? ⟨b, off + i * 5, none⟩ = some (.int .i64 (f i).k) ∧ w.cell? ⟨b, off + i * 5 + 1, none⟩ = some (.string (f i).s) ∧ w.cell? ⟨b, off + i * 5 + 2, none⟩ = some (.int .i64 (f i).e) ∧ w.cell? ⟨b, off + i * 5 + 3, none⟩ = some (.int .i64 (f i).n) ∧ w.cell? ⟨b, off + i * 5 + 4, none⟩ = some (.int .i64 (f i).c)
  sz : ∀ i, i < len → (f i).s.size ≤ maxLen

theorem Ops12.below {w w' : World} {B : Nat} {A : Option Addr} {len : Nat} {f : Nat → Op12} (h : Ops12 w B A len f) (hb : Below B w w') : Ops12 w' B A len f :=
  ⟨fun i hi => by
    obtain ⟨b, off, hA, hB, h0, h1, h2, h3, h4⟩ := h.at_ i hi
    exact ⟨b, off, hA, hB, (hb.cell (p := ⟨b, _, none⟩) hB).trans h0, (hb.cell (p := ⟨b, _, none⟩) hB).trans h1, (hb.cell (p := ⟨b, _, none⟩) hB).trans h2, (hb.cell (p := ⟨b, _, none⟩) hB).trans h3, (hb.cell (p := ⟨b, _, none⟩) hB).trans h4⟩, h.sz⟩

set_option maxRecDepth 100000 in
theorem open_ops12 {H : Type} {enc : TypeId × Value → H} {w : World} {base : Nat} {spare : Nat → Bool} {held : Bool} {r : Reach} {b0 : Nat} {v : Value} {d : DataW H} {p : List MemPlace}
    (hv : Value.okWide Try.prog w r b0 49 v) (h : DataW.Trod enc Try.prog w base spare held 49 v d p) :
    ∃ (A : Option Addr) (len cap : Nat) (f : Nat → Op12), v = .slice A len cap ∧ len ≤ maxLen ∧ Ops12 w w.heap.size A len f := by
  obtain ⟨A, len, cap, rfl, hm, hi⟩ := open_rows Try.underlying49 Try.underlying57 (by kernel_rfl) (by kernel_rfl) (by decide) hv h
  have h1 : ∀ i, ∃ q : Op12, i < len → (∃ b off, A = some ⟨b, off, none⟩ ∧ b < w.heap.size ∧ w.cell? ⟨b, off + i * 5, none⟩ = some (.int .i64 q.k) ∧ w.cell? ⟨b, off + i * 5 + 1, none⟩ = some (.string q.s) ∧ w.cell? ⟨b, off + i * 5 + 2, none⟩ = some (.int .i64 q.e) ∧ w.cell? ⟨b, off + i * 5 + 3, none⟩ = some (.int .i64 q.n) ∧ w.cell? ⟨b, off + i * 5 + 4, none⟩ = some (.int .i64 q.c)) ∧ q.s.size ≤ maxLen := by
    intro i
    by_cases hlt : i < len
    · obtain ⟨b, off, hA, hb, hf⟩ := hi i hlt
      obtain ⟨u0, y0, n0, c0, t0⟩ := hf 0 _ rfl
      obtain ⟨u1, y1, n1, c1, t1⟩ := hf 1 _ rfl
      obtain ⟨u2, y2, n2, c2, t2⟩ := hf 2 _ rfl
      obtain ⟨u3, y3, n3, c3, t3⟩ := hf 3 _ rfl
      obtain ⟨u4, y4, n4, c4, t4⟩ := hf 4 _ rfl
      obtain ⟨k, e0, _, _⟩ := DataW.trod_int Try.underlying3 t0
      obtain ⟨s, e1, _, hs⟩ := DataW.trod_string Try.underlying9 t1
      obtain ⟨e, e2, _, _⟩ := DataW.trod_int Try.underlying3 t2
      obtain ⟨n, e3, _, _⟩ := DataW.trod_int Try.underlying3 t3
      obtain ⟨c, e4, _, _⟩ := DataW.trod_int Try.underlying3 t4
      simp at e0 e1 e2 e3 e4
      subst e0 e1 e2 e3 e4
      exact ⟨⟨k, s, e, n, c⟩, fun _ => ⟨⟨b, off, hA, hb, by simpa using c0, by simpa [Nat.add_assoc] using c1, by simpa [Nat.add_assoc] using c2, by simpa [Nat.add_assoc] using c3, by simpa [Nat.add_assoc] using c4⟩, hs⟩⟩
    · exact ⟨⟨0, ByteArray.empty, 0, 0, 0⟩, fun h => absurd h hlt⟩
  obtain ⟨f, hf⟩ := Classical.axiomOfChoice h1
  exact ⟨A, len, cap, f, rfl, hm, ⟨fun i hi => (hf i hi).1, fun i hi => (hf i hi).2⟩⟩
end Go.Proofs.Ytejmcfgmopijkaa
