/- Rows of strings that are the same; Come where nothing is. -/
import Derived.Test.YtejmcfgmopijkaaLin8
namespace Go.Proofs.Ytejmcfgmopijkaa
open Go.RowKit
set_option linter.unusedVariables false
set_option linter.unusedSimpArgs false

/-- A row of strings, to read. -/
def RdS (w : World) (A : Option Addr) (X : List ByteArray) : Prop := ∀ (i : Nat) (s : ByteArray), X[i]? = some s → ∃ b o, A = some ⟨b, o, none⟩ ∧ b < w.heap.size ∧ w.cell? ⟨b, o + i, none⟩ = some (.string s)
theorem RdS.ch {w w' : World} {A : Option Addr} {X : List ByteArray} (h : RdS w A X) (c : Ch [] w w') : RdS w' A X := fun i s hs => by
  obtain ⟨b, o, h1, h2, h3⟩ := h i s hs
  exact ⟨b, o, h1, Nat.lt_of_lt_of_le h2 c.size, by rw [World.cell?_of_block (c.block b h2 (by simp))]; exact h3⟩
theorem own_rdS {w : World} {base e : Nat} {v : Value} {X : List ByteArray} (h : w.ownsRow base e 1 v X.length (X.map Value.string)) : ∃ A cap, v = .slice A X.length cap ∧ RdS w A X := by
  rcases own_form h with ⟨rfl, hn, hx⟩ | ⟨gv, cap, cur, rfl, _, hb, _, _, _, hx⟩
  · refine ⟨none, 0, by rw [hn], fun i s hs => ?_⟩
    have : X = [] := List.map_eq_nil_iff.1 hx
    subst this
    simp at hs
  · refine ⟨_, cap, rfl, fun i s hs => ⟨gv, 0, rfl, hb.lt, ?_⟩⟩
    have hi : i < X.length := (List.getElem?_eq_some_iff.1 hs).1
    obtain ⟨g', c', he, _, _, _, _, hc, _⟩ := own_at h (by omega)
    injection he with e1
    injection e1 with e1
    injection e1 with e1
    subst e1
    have := hc i (.string s) (by simp [hs])
    simpa using this

set_option maxRecDepth 100000 in
theorem sameS_yes (A A' : Option Addr) (c c' : Nat) (X : List ByteArray) (w : World) (h : RdS w A X) (h' : RdS w A' X) (hL : X.length ≤ 1000000) :
    Calls Try.prog 51 #[.slice A X.length c, .slice A' X.length c'] w fun r w' => r = .returned (.bool true) ∧ Ch [] w w' := by
  generalize hn : X.length = n at hL ⊢
  have Hn := Lib.hid hn
  clear hn
  go_enter Try.func51, Try.ntmps51
  go_wp2_with fail
  go_loopw [5] (fun i wr => ∃ k : Nat, i = .int .i64 k ∧ k ≤ n ∧ Ch [] w wr) (fun i _ => n - (intOf i).toNat)
  case atStart => exact ⟨0, rfl, Nat.zero_le _, Ch.refl _ _⟩
  case round =>
    obtain ⟨k, rfl, hk, hC⟩ := hrel
    by_cases hlt : k < n
    · have hx : X[k]? = some (X[k]'(by rw [Hn.out]; exact hlt)) := List.getElem?_eq_getElem _
      obtain ⟨b, o, rfl, _, c0⟩ := h.ch hC k _ hx
      obtain ⟨b2, o2, rfl, _, d0⟩ := h'.ch hC k _ hx
      generalize (X[k]'(by rw [Hn.out]; exact hlt)) = x at c0 d0
      clear hx h h'
      go_wp2_with fail
      go_quiet (fail)
      rename_i nq
      have hC2 := hC.drewN nq
      clear c0 d0 hC
      go_wp2_with fail
      go_roundw
      case rel => exact ⟨k + 1, by simp, by omega, hC2⟩
      case measure => simp [intOf]; omega
    · obtain rfl : k = n := by omega
      clear h h'
      go_wp2_with fail
      go_ret
      exact ⟨rfl, hC⟩
section
variable (B l g r gc : Nat) (win wt cr gone last had now room store : Int) (T : List Txt) (ow : Bool) (On : List Itm) (Bk : List Frm) (Out : List ByteArray) (v1 v2 v3 : Value) (w : World)
theorem come_no (i : Int) (h : LineV w B l g r gc win wt cr T gone last had ow On Bk now Out room store v1 v2 v3) (hi : ¬ (0 ≤ i ∧ i < On.length)) :
    Calls Try.prog 55 #[.pointer (some ⟨l, 0, none⟩), .int .i64 i] w fun e w' => e = .returned (.int .i64 8) ∧ Ch [] w w' := by
  have c1 := has_item B l _ v1 On i w h.b rfl h.on
  have e1 : (decide (0 ≤ i) && decide (i < On.length)) = false := by simp; omega
  rw [e1] at c1
  clear e1 hi
  go_enter Try.func55, Try.ntmps55
  go_wp2_with fail
  refine c1.mono ?_
  rintro e1 w1 ⟨rfl, c2⟩
  go_wp2_with fail
  go_ret
  exact ⟨rfl, c2⟩
end
end Go.Proofs.Ytejmcfgmopijkaa
