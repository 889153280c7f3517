/- A script of the line's statements, and three numbers, as the walk reads them. -/
import Derived.Test.YtejmcfgmopijkaaPln
import Derived.Test.YtejmcfgmopijkaaArgs
import Derived.OpenShut
namespace Go.Proofs.Ytejmcfgmopijkaa
open Go.ChangeShapes Go.WideShapes Go.Deep Go.RowKit
set_option linter.unusedVariables false

theorem trod_int_of {H : Type} {enc : TypeId × Value → H} {P : Program} {w : World} {base : Nat} {spare : Nat → Bool} {held : Bool} {fuel : Nat} {t : TypeId} {k : IntKind} {cs : List Value} {x : DataW H × List MemPlace}
    (ht : P.underlying t = some (.int k)) (h : DataW.trod enc P w base spare held fuel t cs = some x) : ∃ n, cs = [.int k n] := by
  obtain ⟨n, h1, _⟩ := DataW.trod_int ht h
  exact ⟨n, h1⟩
theorem three_of {α : Type} (l : List α) (h : l.length = 3) : ∃ x y z, l = [x, y, z] := by
  cases l with
  | nil => cases h
  | cons x l =>
    cases l with
    | nil => cases h
    | cons y l =>
      cases l with
      | nil => cases h
      | cons z l =>
        have : l = [] := List.length_eq_zero_iff.1 (by simpa using h)
        exact ⟨x, y, z, by rw [this]⟩
set_option maxRecDepth 100000 in
theorem open_three {H : Type} {enc : TypeId × Value → H} {w : World} {base : Nat} {spare : Nat → Bool} {held : Bool} {r : Reach} {b0 : Nat} {v : Value} {d : DataW H} {p : List MemPlace}
    (hv : Value.okWide Try.prog w r b0 78 v) (h : DataW.Trod enc Try.prog w base spare held 78 v d p) :
    ∃ a b c : Int, v = .agg #[.int .i64 a, .int .i64 b, .int .i64 c] := by
  have hu : Try.prog.underlying 78 = some (.array 3 3) := by kernel_rfl
  have c3 : Try.prog.cellsOf 3 = 1 := by kernel_rfl
  have c78 : Try.prog.cellsOf 78 = 3 := by kernel_rfl
  have hag : ∃ cs, v = .agg cs ∧ cs.size = Try.prog.cellsOf 78 := by
    simp only [Value.okWide, hu] at hv
    obtain ⟨cs, h1, h2, _⟩ := hv
    exact ⟨cs, h1, h2⟩
  obtain ⟨cs, rfl, hn⟩ := hag
  rw [c78] at hn
  obtain ⟨fuel, hf⟩ := h
  obtain ⟨xs, m, rfl, _, hl, hx, hi⟩ := DataW.trod_array hu hf
  rw [c3] at hi
  have h0 := hi 0 (by omega)
  have h1 := hi 1 (by omega)
  have h2 := hi 2 (by omega)
  rw [List.getElem?_eq_getElem (by omega)] at h0 h1 h2
  obtain ⟨a, ha⟩ := trod_int_of Try.underlying3 h0
  obtain ⟨b, hb⟩ := trod_int_of Try.underlying3 h1
  obtain ⟨c, hc⟩ := trod_int_of Try.underlying3 h2
  refine ⟨a, b, c, ?_⟩
  obtain ⟨l⟩ := cs
  have hl2 : l.length = 3 := by simpa using hn
  obtain ⟨x, y, z, rfl⟩ := three_of l hl2
  simp [Value.cells] at ha hb hc
  rw [ha, hb, hc]

/-- A slice of calls. -/
structure Ops14 (w : World) (B : Nat) (A : Option Addr) (len : Nat) (f : Nat → Op14) : Prop where
  at_ : ∀ i, i < len → ∃ b off, A = some ⟨b, off, none⟩ ∧ b < B ∧ w.cell? ⟨b, off + i * 4, none⟩ = some (.int .i64 (f i).k) ∧ w.cell? ⟨b, off + i * 4 + 1, none⟩ = some (.string (f i).s) ∧ w.cell? ⟨b, off + i * 4 + 2, none⟩ = some (.int .i64 (f i).n) ∧ w.cell? ⟨b, off + i * 4 + 3, none⟩ = some (.bool (f i).b)
  sz : ∀ i, i < len → (f i).s.size ≤ maxLen

theorem Ops14.below {w w' : World} {B : Nat} {A : Option Addr} {len : Nat} {f : Nat → Op14} (h : Ops14 w B A len f) (hb : Below B w w') : Ops14 w' B A len f :=
  ⟨fun i hi => by
    obtain ⟨b, off, hA, hB, h0, h1, h2, h3⟩ := h.at_ i hi
    exact ⟨b, off, hA, hB, (hb.cell (p := ⟨b, _, none⟩) hB).trans h0, (hb.cell (p := ⟨b, _, none⟩) hB).trans h1, (hb.cell (p := ⟨b, _, none⟩) hB).trans h2, (hb.cell (p := ⟨b, _, none⟩) hB).trans h3⟩, h.sz⟩

set_option maxRecDepth 100000 in
theorem open_ops14 {H : Type} {enc : TypeId × Value → H} {w : World} {base : Nat} {spare : Nat → Bool} {held : Bool} {r : Reach} {b0 : Nat} {v : Value} {d : DataW H} {p : List MemPlace}
    (hv : Value.okWide Try.prog w r b0 79 v) (h : DataW.Trod enc Try.prog w base spare held 79 v d p) :
    ∃ (A : Option Addr) (len cap : Nat) (f : Nat → Op14), v = .slice A len cap ∧ len ≤ maxLen ∧ Ops14 w w.heap.size A len f := by
  obtain ⟨A, len, cap, rfl, hm, hi⟩ := open_rows Try.underlying79 Try.underlying85 (by kernel_rfl) (by kernel_rfl) (by decide) hv h
  have h1 : ∀ i, ∃ q : Op14, i < len → (∃ b off, A = some ⟨b, off, none⟩ ∧ b < w.heap.size ∧ w.cell? ⟨b, off + i * 4, none⟩ = some (.int .i64 q.k) ∧ w.cell? ⟨b, off + i * 4 + 1, none⟩ = some (.string q.s) ∧ w.cell? ⟨b, off + i * 4 + 2, none⟩ = some (.int .i64 q.n) ∧ w.cell? ⟨b, off + i * 4 + 3, none⟩ = some (.bool q.b)) ∧ q.s.size ≤ maxLen := by
    intro i
    by_cases hlt : i < len
    · obtain ⟨b, off, hA, hb, hf⟩ := hi i hlt
      obtain ⟨u0, y0, n0, c0, t0⟩ := hf 0 _ rfl
      obtain ⟨u1, y1, n1, c1, t1⟩ := hf 1 _ rfl
      obtain ⟨u2, y2, n2, c2, t2⟩ := hf 2 _ rfl
      obtain ⟨u3, y3, n3, c3, t3⟩ := hf 3 _ rfl
      obtain ⟨k, e0, _, _⟩ := DataW.trod_int Try.underlying3 t0
      obtain ⟨s, e1, _, hs⟩ := DataW.trod_string Try.underlying9 t1
      obtain ⟨n, e2, _, _⟩ := DataW.trod_int Try.underlying3 t2
      obtain ⟨c, e3, _⟩ := DataW.trod_bool Try.underlying4 t3
      simp at e0 e1 e2 e3
      subst e0 e1 e2 e3
      exact ⟨⟨k, s, n, c⟩, fun _ => ⟨⟨b, off, hA, hb, by simpa using c0, by simpa [Nat.add_assoc] using c1, by simpa [Nat.add_assoc] using c2, by simpa [Nat.add_assoc] using c3⟩, hs⟩⟩
    · exact ⟨⟨0, ByteArray.empty, 0, false⟩, fun h => absurd h hlt⟩
  obtain ⟨f, hf⟩ := Classical.axiomOfChoice h1
  exact ⟨A, len, cap, f, rfl, hm, ⟨fun i hi => (hf i hi).1, fun i hi => (hf i hi).2⟩⟩
end Go.Proofs.Ytejmcfgmopijkaa
