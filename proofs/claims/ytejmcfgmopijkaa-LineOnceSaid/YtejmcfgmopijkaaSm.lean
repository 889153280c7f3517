/- Two lists of items that are the same are the same by the law's own comparison. -/
import Derived.Test.YtejmcfgmopijkaaDue
namespace Go.Proofs.Ytejmcfgmopijkaa
open Go.RowKit
set_option linter.unusedVariables false

/-- A slice's cells read as these items. -/
def RdI (w : World) (A : Option Addr) (L : List Itm) : Prop := ∀ (i : Nat) (x : Itm), L[i]? = some x → ∃ b o, A = some ⟨b, o, none⟩ ∧ b < w.heap.size ∧ w.cell? ⟨b, o + i * 2, none⟩ = some (.int .i64 x.1) ∧ w.cell? ⟨b, o + i * 2 + 1, none⟩ = some (.string x.2)

theorem RdI.ch {w w' : World} {A : Option Addr} {L : List Itm} (h : RdI w A L) (c : Ch [] w w') : RdI w' A L := fun i x hx => by
  obtain ⟨b, o, hA, hb, h0, h1⟩ := h i x hx
  have hk : ∀ j, w'.cell? ⟨b, j, none⟩ = w.cell? ⟨b, j, none⟩ := fun j => World.cell?_of_block (a := ⟨b, j, none⟩) (c.block b hb (by simp))
  exact ⟨b, o, hA, Nat.lt_of_lt_of_le hb c.size, (hk _).trans h0, (hk _).trans h1⟩
theorem own_rd {w : World} {base e : Nat} {v : Value} {L : List Itm} (h : w.ownsRow base e 2 v L.length (itmCells L)) : ∃ A cap, v = .slice A L.length cap ∧ RdI w A L := by
  obtain ⟨A, cap, rfl, _⟩ := own_len h
  refine ⟨A, cap, rfl, fun i x hx => ?_⟩
  have hlt : i < L.length := (List.getElem?_eq_some_iff.1 hx).1
  obtain ⟨gv, cap', he, _, hg, _, _, hc, _⟩ := own_at h (by omega)
  injection he with hA _ _
  subst hA
  obtain ⟨e1, e2⟩ := itmCells_get L i x hx
  exact ⟨gv, 0, rfl, hg, by simpa using hc _ _ e1, by simpa using hc _ _ e2⟩

set_option maxHeartbeats 2000000 in
set_option maxRecDepth 100000 in
theorem same_yes (A A' : Option Addr) (c c' : Nat) (L : List Itm) (w : World) (h : RdI w A L) (h' : RdI w A' L) (hL : L.length ≤ 1000000) :
    Calls Try.prog 36 #[.slice A L.length c, .slice A' L.length c'] w fun r w' => r = .returned (.bool true) ∧ Ch [] w w' := by
  generalize hn : L.length = n at hL ⊢
  have Hn := Lib.hid hn
  clear hn
  go_enter Try.func36, Try.ntmps36
  go_wp2_with fail
  go_loopw [5] (fun i wr => ∃ k : Nat, i = .int .i64 k ∧ k ≤ n ∧ Ch [] w wr) (fun i _ => n - (intOf i).toNat)
  case atStart => exact ⟨0, rfl, Nat.zero_le _, Ch.refl _ _⟩
  case round =>
    obtain ⟨k, rfl, hk, hC⟩ := hrel
    by_cases hlt : k < n
    · have hx : L[k]? = some (L[k]'(by rw [Hn.out]; exact hlt)) := List.getElem?_eq_getElem _
      obtain ⟨b, o, rfl, _, c0, c1⟩ := h.ch hC k _ hx
      obtain ⟨b2, o2, rfl, _, d0, d1⟩ := h'.ch hC k _ hx
      generalize (L[k]'(by rw [Hn.out]; exact hlt)) = x at c0 c1 d0 d1
      clear hx h h'
      have e1 : (x.1 != x.1) = false := by simp
      go_wp2_with fail
      go_quiet (fail)
      rename_i nq
      have hC2 := hC.drewN nq
      clear c0 c1 d0 d1 hC
      go_wp2_with fail
      go_roundw
      case rel => exact ⟨k + 1, by simp, by omega, hC2⟩
      case measure => simp [intOf]; omega
    · obtain rfl : k = n := by omega
      clear h h'
      go_wp2_with fail
      go_ret
      exact ⟨rfl, hC⟩
end Go.Proofs.Ytejmcfgmopijkaa
