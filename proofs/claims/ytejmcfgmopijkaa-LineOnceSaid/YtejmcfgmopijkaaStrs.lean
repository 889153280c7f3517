/- A slice of texts, as the walk reads it; a text cut to twenty bytes; what is due of texts that were all sent, or none. -/
import Derived.Test.YtejmcfgmopijkaaSLaw
import Derived.Test.YtejmcfgmopijkaaArgs
import Derived.SliceStrings
namespace Go.Proofs.Ytejmcfgmopijkaa
open Go.ChangeShapes Go.WideShapes Go.Deep Go.RowKit

/-- A slice of texts. -/
structure StrsIn (w : World) (B : Nat) (A : Option Addr) (len : Nat) (f : Nat → ByteArray) : Prop where
  at_ : ∀ i, i < len → ∃ b off, A = some ⟨b, off, none⟩ ∧ b < B ∧ w.cell? ⟨b, off + i, none⟩ = some (.string (f i))
  sz : ∀ i, i < len → (f i).size ≤ maxLen

theorem StrsIn.below {w w' : World} {B : Nat} {A : Option Addr} {len : Nat} {f : Nat → ByteArray} (h : StrsIn w B A len f) (hb : Below B w w') : StrsIn w' B A len f :=
  ⟨fun i hi => by
    obtain ⟨b, off, hA, hB, h0⟩ := h.at_ i hi
    exact ⟨b, off, hA, hB, (hb.cell (p := ⟨b, _, none⟩) hB).trans h0⟩, h.sz⟩

set_option maxRecDepth 100000 in
theorem open_strs {H : Type} {enc : TypeId × Value → H} {w : World} {base : Nat} {spare : Nat → Bool} {held : Bool} {r : Reach} {b0 : Nat} {v : Value} {d : DataW H} {p : List MemPlace}
    (hv : Value.okWide Try.prog w r b0 68 v) (h : DataW.Trod enc Try.prog w base spare held 68 v d p) :
    ∃ (A : Option Addr) (len cap : Nat) (f : Nat → ByteArray), v = .slice A len cap ∧ len ≤ maxLen ∧ StrsIn w w.heap.size A len f := by
  obtain ⟨A, len, cap, rfl⟩ := okWide_slice Try.underlying68 hv
  obtain ⟨fuel, hf⟩ := h
  rcases open_strings Try.underlying68 Try.underlying9 (by kernel_rfl) hf with ⟨hcs, _⟩ | ⟨a, len', cap', ss, hcs, _, hl, hm, hss, _, hi, hz⟩
  · simp [Value.cells] at hcs
    obtain ⟨rfl, rfl, rfl⟩ := hcs
    exact ⟨none, 0, 0, fun _ => ByteArray.empty, rfl, Nat.zero_le _, ⟨fun i hi => absurd hi (by omega), fun i hi => absurd hi (by omega)⟩⟩
  · simp [Value.cells] at hcs
    obtain ⟨rfl, rfl, rfl⟩ := hcs
    have hlen : len ≤ ss.length := by rw [hss]; split <;> omega
    refine ⟨some a, len, cap, fun i => ss.getD i ByteArray.empty, rfl, by omega, ⟨fun i hlt => ?_, fun i hlt => ?_⟩⟩
    · obtain ⟨b, off, spot⟩ := a
      have h0 := hi 0 (by omega)
      have hspot : spot = none := by simpa [Addr.add] using World.cell?_spot h0
      subst hspot
      have h1 := hi i (by omega)
      exact ⟨b, off, rfl, by simpa [Addr.add] using World.block_lt_of_cell? _ _ h0, by rw [← Go.WideShapes.add_plain]; exact h1⟩
    · have : ss.getD i ByteArray.empty = ss[i]'(by omega) := by simp [List.getD, List.getElem?_eq_getElem (show i < ss.length by omega)]
      rw [this]
      exact hz _ (List.getElem_mem _)

theorem itemsOf_eq {p : Txt → Bool} : ∀ (T : List Txt) (g : Int), (∀ x ∈ T, p x = true) → itemsOf p g T = itemsOf (fun _ => true) g T := by
  intro T
  induction T with
  | nil => intro g _; rfl
  | cons x T ih => intro g h; simp only [itemsOf, ih (g + 1) (fun y hy => h y (by simp [hy])), h x (by simp)]
theorem itemsOf_no {p : Txt → Bool} : ∀ (T : List Txt) (g : Int), (∀ x ∈ T, p x = false) → itemsOf p g T = [] := by
  intro T
  induction T with
  | nil => intro g _; rfl
  | cons x T ih => intro g h; simp [itemsOf, ih (g + 1) (fun y hy => h y (by simp [hy])), h x (by simp)]
theorem items_len : ∀ (T : List Txt) (g : Int), (itemsOf (fun _ => true) g T).length = T.length := by
  intro T
  induction T with
  | nil => intro g; rfl
  | cons x T ih => intro g; simp [itemsOf, ih]
theorem items_get : ∀ (T : List Txt) (g : Int) (i : Nat) (x : Txt), T[i]? = some x → (itemsOf (fun _ => true) g T)[i]? = some (g + i + 1, x.1) := by
  intro T
  induction T with
  | nil => intro g i x h; simp at h
  | cons y T ih =>
    intro g i x h
    cases i with
    | zero => simp at h; subst h; simp [itemsOf]
    | succ i => simp at h; have := ih (g + 1) i x h; simp [itemsOf, this]; omega

theorem dueL_new {wait last gone now : Int} {T : List Txt} (h : ∀ x ∈ T, x.2 = false) : dueL wait last gone now T = itemsOf (fun _ => true) gone T := itemsOf_eq T gone fun x hx => by simp [h x hx]
theorem dueL_idle {wait last gone now : Int} {T : List Txt} (h : ∀ x ∈ T, x.2 = true) (hw : T ≠ [] → max now last - last < wait) : dueL wait last gone now T = [] := itemsOf_no T gone fun x hx => by
  have := hw (List.ne_nil_of_mem hx)
  simp only [h x hx, againB, Bool.not_true, Bool.or_false, Bool.and_eq_false_iff]
  exact .inl (by simp; omega)
theorem dueL_again {wait last gone now : Int} {T : List Txt} (h : ∀ x ∈ T, x.2 = true) (hw : wait ≤ max now last - last) : dueL wait last gone now T = itemsOf (fun _ => true) gone T := itemsOf_eq T gone fun x hx => by
  simp only [againB, decide_eq_true hw, Bool.true_and]
  cases T with
  | nil => simp at hx
  | cons y T => simp [h y (by simp)]
theorem items_nil {g : Int} {T : List Txt} (h : itemsOf (fun _ => true) g T = []) : T = [] := by
  have := items_len T g
  rw [h] at this
  exact List.length_eq_zero_iff.1 this.symm
theorem sent_map {T : List Txt} (h : ∀ x ∈ T, x.2 = true) : T.map (fun x => (x.1, true)) = T := by
  conv => rhs; rw [← List.map_id T]
  exact List.map_congr_left fun x hx => by obtain ⟨a, b⟩ := x; have := h _ hx; simp at this; simp [this]
theorem dueT_new {wait last gone now : Int} {T : List Txt} (h : ∀ x ∈ T, x.2 = false) : dueT wait last gone now T = T.map (fun x => (x.1, true)) := by
  unfold dueT
  rw [dueL_new h]
  split
  · rename_i h2; rw [items_nil h2]; rfl
  · rfl
theorem dueT_sent {wait last gone now : Int} {T : List Txt} (h : ∀ x ∈ T, x.2 = true) : dueT wait last gone now T = T := by
  unfold dueT
  split
  · rfl
  · exact sent_map h

/-- A text cut to twenty bytes. -/
def cut (s : ByteArray) : ByteArray := s.extract 0 (min s.size 20)
theorem cut_size (s : ByteArray) : (cut s).size ≤ 20 := by unfold cut; rw [ByteArray.size_extract]; omega
/-- The first texts of a list, cut, none sent. -/
def newT (f : Nat → ByteArray) (b : Bool) (n : Nat) : List Txt := (List.range n).map fun i => (cut (f i), b)
theorem newT_len (f : Nat → ByteArray) (b : Bool) (n : Nat) : (newT f b n).length = n := by simp [newT]
theorem newT_succ (f : Nat → ByteArray) (b : Bool) (n : Nat) : newT f b n ++ [(cut (f n), b)] = newT f b (n + 1) := by simp [newT, List.range_succ]
theorem newT_mem {f : Nat → ByteArray} {b : Bool} {n : Nat} : ∀ x ∈ newT f b n, x.2 = b := by
  intro x hx
  simp [newT] at hx
  obtain ⟨_, _, rfl⟩ := hx
  rfl
theorem newT_sent (f : Nat → ByteArray) (n : Nat) : (newT f false n).map (fun x => (x.1, true)) = newT f true n := by simp [newT]
theorem newT_get (f : Nat → ByteArray) (b : Bool) (n i : Nat) (h : i < n) : (newT f b n)[i]? = some (cut (f i), b) := by simp [newT, h]

/-- Due, told by how many. -/
theorem due_n {B g : Nat} {ep win wait cr gone last now last' : Int} {T T' : List Txt} {n : Nat} {w : World} (h : SndI w B g ep win wait cr T gone last) (hb : SndB win wait cr T gone last) (hBw : B ≤ w.heap.size) (hn1 : now ≤ 2000000000000000) (hn2 : 0 ≤ now)
    (hL : (dueL wait last gone now T).length = n) (hT : dueT wait last gone now T = T') (hl : dueLast wait last gone now T = last') :
    Calls Try.prog 37 #[.pointer (some ⟨g, 0, none⟩), .int .i64 now] w fun r w' => ∃ A cap, r = .returned (.slice A n cap) ∧ SndI w' B g ep win wait cr T' gone last' ∧ ChB B [111, 114] w w' := by
  subst hL
  exact (due_is h hb hBw hn1 hn2 rfl hT hl).mono fun r w' ⟨A, cap, h1, _, h3, h4⟩ => ⟨A, cap, h1, h3, h4⟩
/-- Due, with its rows to read. -/
theorem due_rd {B g : Nat} {ep win wait cr gone last now last' : Int} {T T' : List Txt} {L : List Itm} {n : Nat} {w : World} (h : SndI w B g ep win wait cr T gone last) (hb : SndB win wait cr T gone last) (hBw : B ≤ w.heap.size) (hn1 : now ≤ 2000000000000000) (hn2 : 0 ≤ now)
    (hL : dueL wait last gone now T = L) (hn : L.length = n) (hT : dueT wait last gone now T = T') (hl : dueLast wait last gone now T = last') :
    Calls Try.prog 37 #[.pointer (some ⟨g, 0, none⟩), .int .i64 now] w fun r w' => ∃ A cap, r = .returned (.slice A n cap) ∧ RdI w' A L ∧ SndI w' B g ep win wait cr T' gone last' ∧ ChB B [111, 114] w w' := by
  subst hn
  exact (due_is h hb hBw hn1 hn2 hL hT hl).mono fun r w' ⟨A, cap, h1, h2, h3, h4⟩ => by
    obtain ⟨A', cap', he, h5⟩ := own_rd h2
    injection he with e1 _ e3
    subst e1 e3
    exact ⟨A, cap, h1, h5, h3, h4⟩
end Go.Proofs.Ytejmcfgmopijkaa
