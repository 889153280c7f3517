/- The line in memory: its block, a sender, a receiver, two ways and what came; and what can be asked of it. -/
import Derived.Test.YtejmcfgmopijkaaCutF
import Derived.Test.YtejmcfgmopijkaaFixS
import Derived.Test.YtejmcfgmopijkaaSLaw
import Derived.BigQuiet
namespace Go.Proofs.Ytejmcfgmopijkaa
open Go.RowKit
set_option linter.unusedVariables false
set_option linter.unusedSimpArgs false

theorem has_item (B l : Nat) (cs : Array Value) (v : Value) (L : List Itm) (i : Int) (w : World) (hl : Blk w l 124 cs) (hv : cs[2]? = some v) (hr : RowW w B 76 2 v L.length (itmCells L)) :
    Calls Try.prog 78 #[.pointer (some ⟨l, 2, none⟩), .int .i64 i] w fun r w' => r = .returned (.bool (decide (0 ≤ i) && decide (i < L.length))) ∧ Ch [] w w' := by
  obtain ⟨A, cap, rfl, _, _⟩ := hr.len
  have a2 := (hl.cell 2).trans hv
  by_cases h0 : 0 ≤ i
  · by_cases h1 : i < L.length
    · rw [decide_eq_true h0, decide_eq_true h1]
      go_enter Try.func78, Try.ntmps78
      go_wp2_with fail
      go_ret
      exact ⟨by simp, Ch.refl _ _⟩
    · rw [decide_eq_true h0, decide_eq_false h1]
      go_enter Try.func78, Try.ntmps78
      go_wp2_with fail
      go_ret
      exact ⟨by simp, Ch.refl _ _⟩
  · rw [decide_eq_false h0]
    go_enter Try.func78, Try.ntmps78
    go_wp2_with fail
    go_ret
    exact ⟨by simp, Ch.refl _ _⟩
theorem has_frame (B l : Nat) (cs : Array Value) (v : Value) (L : List Frm) (i : Int) (w : World) (hl : Blk w l 124 cs) (hv : cs[3]? = some v) (hr : RowW w B 38 12 v L.length (frmCells L)) :
    Calls Try.prog 81 #[.pointer (some ⟨l, 3, none⟩), .int .i64 i] w fun r w' => r = .returned (.bool (decide (0 ≤ i) && decide (i < L.length))) ∧ Ch [] w w' := by
  obtain ⟨A, cap, rfl, _, _⟩ := hr.len
  have a2 := (hl.cell 3).trans hv
  by_cases h0 : 0 ≤ i
  · by_cases h1 : i < L.length
    · rw [decide_eq_true h0, decide_eq_true h1]
      go_enter Try.func81, Try.ntmps81
      go_wp2_with fail
      go_ret
      exact ⟨by simp, Ch.refl _ _⟩
    · rw [decide_eq_true h0, decide_eq_false h1]
      go_enter Try.func81, Try.ntmps81
      go_wp2_with fail
      go_ret
      exact ⟨by simp, Ch.refl _ _⟩
  · rw [decide_eq_false h0]
    go_enter Try.func81, Try.ntmps81
    go_wp2_with fail
    go_ret
    exact ⟨by simp, Ch.refl _ _⟩
/-- Room, and how many stand on the ways. -/
theorem lroom_c (l : Nat) (c0 c1 c2 c3 c4 c5 : Value) (room store : Int) (w : World) (hl : Blk w l 124 #[c0, c1, c2, c3, c4, c5, .int .i64 room, .int .i64 store]) (h0 : 0 ≤ store) (h1 : store ≤ 1000000) (h2 : 0 ≤ room) (h3 : room ≤ 1000000) :
    Calls Try.prog 53 #[.pointer (some ⟨l, 0, none⟩)] w fun r w' => r = .returned (.int .i64 (room - store)) ∧ Ch [] w w' := by
  have a6 := hl.cell 6
  have a7 := hl.cell 7
  simp at a6 a7
  have e1 : IntKind.i64.wrap (room - store) = room - store := IntWalk.i64_in _ (by omega)
  go_enter Try.func53, Try.ntmps53
  go_wp2_with fail
  go_quiet (fail)
  go_wp2_with fail
  go_ret
  exact ⟨rfl, (Ch.refl _ _).drewN _⟩
theorem ways_c (l n m : Nat) (A A' : Option Addr) (c c' : Nat) (c0 c1 c4 c5 c6 c7 : Value) (w : World) (hl : Blk w l 124 #[c0, c1, .slice A n c, .slice A' m c', c4, c5, c6, c7]) :
    Calls Try.prog 60 #[.pointer (some ⟨l, 0, none⟩)] w fun r w' => r = .returned (.tuple #[.int .i64 n, .int .i64 m]) ∧ Ch [] w w' := by
  have a2 := hl.cell 2
  have a3 := hl.cell 3
  simp at a2 a3
  go_enter Try.func60, Try.ntmps60
  go_wp2_with fail
  go_quiet (fail)
  go_wp2_with fail
  go_ret2
  exact ⟨rfl, (Ch.refl _ _).drewN _⟩
end Go.Proofs.Ytejmcfgmopijkaa
