/- The line's own calls: Lose. -/
import Derived.Test.YtejmcfgmopijkaaLin4
namespace Go.Proofs.Ytejmcfgmopijkaa
open Go.RowKit
set_option linter.unusedVariables false
set_option linter.unusedSimpArgs false

section
variable (B l g r gc : Nat) (win wt cr gone last had now room store : Int) (T : List Txt) (ow : Bool) (On : List Itm) (Bk : List Frm) (Out : List ByteArray) (v1 v2 v3 : Value) (w : World)
theorem lose_back_no (i : Int) (h : LineV w B l g r gc win wt cr T gone last had ow On Bk now Out room store v1 v2 v3) (hi : ¬ (0 ≤ i ∧ i < Bk.length)) :
    Calls Try.prog 75 #[.pointer (some ⟨l, 0, none⟩), .bool true, .int .i64 i] w fun e w' => e = .returned (.int .i64 8) ∧ Ch [] w w' := by
  have c1 := has_frame B l _ v2 Bk i w h.b rfl h.bk
  have e1 : (decide (0 ≤ i) && decide (i < Bk.length)) = false := by simp; omega
  rw [e1] at c1
  clear e1 hi
  go_enter Try.func75, Try.ntmps75
  go_wp2_with fail
  refine c1.mono ?_
  rintro e1 w1 ⟨rfl, c2⟩
  go_wp2_with fail
  go_ret
  exact ⟨rfl, c2⟩
theorem twice_back_no (i : Int) (h : LineV w B l g r gc win wt cr T gone last had ow On Bk now Out room store v1 v2 v3) (hi : ¬ (0 ≤ i ∧ i < Bk.length)) :
    Calls Try.prog 76 #[.pointer (some ⟨l, 0, none⟩), .bool true, .int .i64 i] w fun e w' => e = .returned (.int .i64 8) ∧ Ch [] w w' := by
  have c1 := has_frame B l _ v2 Bk i w h.b rfl h.bk
  have e1 : (decide (0 ≤ i) && decide (i < Bk.length)) = false := by simp; omega
  rw [e1] at c1
  clear e1 hi
  go_enter Try.func76, Try.ntmps76
  go_wp2_with fail
  refine c1.mono ?_
  rintro e1 w1 ⟨rfl, c2⟩
  go_wp2_with fail
  go_ret
  exact ⟨rfl, c2⟩
theorem lose_back_yes (k : Nat) (h : LineV w B l g r gc win wt cr T gone last had ow On Bk now Out room store v1 v2 v3) (hb : LineB win wt cr T gone last had On Bk now Out room store) (hBw : B ≤ w.heap.size) (hkl : k < Bk.length) :
    Calls Try.prog 75 #[.pointer (some ⟨l, 0, none⟩), .bool true, .int .i64 k] w fun e w' => e = .returned (.int .i64 0) ∧ (∃ v2', LineV w' B l g r gc win wt cr T gone last had ow On (Bk.eraseIdx k) now Out room store v1 v2' v3) ∧ ChB B [124, 38, 76] w w' := by
  have c1 := has_frame B l _ v2 Bk k w h.b rfl h.bk
  have e1 : (decide (0 ≤ (k : Int)) && decide ((k : Int) < Bk.length)) = true := by simp; omega
  rw [e1] at c1
  clear e1
  go_enter Try.func75, Try.ntmps75
  go_wp2_with fail
  refine c1.mono ?_
  rintro e1 w1 ⟨rfl, c2⟩
  have C1 : ChB B [] w w1 := c2.toB0
  have h1 := h.chB C1
  have z1 : B ≤ w1.heap.size := Nat.le_trans hBw C1.size
  clear h c1 c2
  go_wp2_with fail
  refine (cut_frame B l _ v2 Bk k w1 h1.hl h1.b rfl h1.bk z1 hb.bk hkl).mono ?_
  simp only [frm]
  rintro e2 w2 ⟨rfl, v2', hb2, hr2, c2⟩
  have d2 := h1.wayB (c2.wide (by simp))
  have h2 := h1.back d2 hb2 hr2
  have C2 : ChB B [124, 38, 76] w w2 := (C1.wide (by simp)).trans (d2.wide (by simp))
  clear h1 C1 z1 hb2 hr2 c2 d2
  go_wp2_with fail
  go_ret
  exact ⟨rfl, ⟨_, h2⟩, C2⟩
theorem lose_on_no (i : Int) (h : LineV w B l g r gc win wt cr T gone last had ow On Bk now Out room store v1 v2 v3) (hi : ¬ (0 ≤ i ∧ i < On.length)) :
    Calls Try.prog 75 #[.pointer (some ⟨l, 0, none⟩), .bool false, .int .i64 i] w fun e w' => e = .returned (.int .i64 8) ∧ Ch [] w w' := by
  have c1 := has_item B l _ v1 On i w h.b rfl h.on
  have e1 : (decide (0 ≤ i) && decide (i < On.length)) = false := by simp; omega
  rw [e1] at c1
  clear e1 hi
  go_enter Try.func75, Try.ntmps75
  go_wp2_with fail
  refine c1.mono ?_
  rintro e1 w1 ⟨rfl, c2⟩
  go_wp2_with fail
  go_ret
  exact ⟨rfl, c2⟩
theorem twice_on_no (i : Int) (h : LineV w B l g r gc win wt cr T gone last had ow On Bk now Out room store v1 v2 v3) (hi : ¬ (0 ≤ i ∧ i < On.length)) :
    Calls Try.prog 76 #[.pointer (some ⟨l, 0, none⟩), .bool false, .int .i64 i] w fun e w' => e = .returned (.int .i64 8) ∧ Ch [] w w' := by
  have c1 := has_item B l _ v1 On i w h.b rfl h.on
  have e1 : (decide (0 ≤ i) && decide (i < On.length)) = false := by simp; omega
  rw [e1] at c1
  clear e1 hi
  go_enter Try.func76, Try.ntmps76
  go_wp2_with fail
  refine c1.mono ?_
  rintro e1 w1 ⟨rfl, c2⟩
  go_wp2_with fail
  go_ret
  exact ⟨rfl, c2⟩
theorem lose_on_yes (k : Nat) (h : LineV w B l g r gc win wt cr T gone last had ow On Bk now Out room store v1 v2 v3) (hb : LineB win wt cr T gone last had On Bk now Out room store) (hBw : B ≤ w.heap.size) (hkl : k < On.length) :
    Calls Try.prog 75 #[.pointer (some ⟨l, 0, none⟩), .bool false, .int .i64 k] w fun e w' => e = .returned (.int .i64 0) ∧ (∃ v1', LineV w' B l g r gc win wt cr T gone last had ow (On.eraseIdx k) Bk now Out room store v1' v2 v3) ∧ ChB B [124, 38, 76] w w' := by
  have c1 := has_item B l _ v1 On k w h.b rfl h.on
  have e1 : (decide (0 ≤ (k : Int)) && decide ((k : Int) < On.length)) = true := by simp; omega
  rw [e1] at c1
  clear e1
  go_enter Try.func75, Try.ntmps75
  go_wp2_with fail
  refine c1.mono ?_
  rintro e1 w1 ⟨rfl, c2⟩
  have C1 : ChB B [] w w1 := c2.toB0
  have h1 := h.chB C1
  have z1 : B ≤ w1.heap.size := Nat.le_trans hBw C1.size
  clear h c1 c2
  go_wp2_with fail
  refine (cut_item B l _ v1 On k w1 h1.hl h1.b rfl h1.on z1 hb.on hkl).mono ?_
  skip
  rintro e2 w2 ⟨rfl, v2', hb2, hr2, c2⟩
  have d2 := h1.wayA (c2.wide (by simp))
  have h2 := h1.onto d2 hb2 hr2
  have C2 : ChB B [124, 38, 76] w w2 := (C1.wide (by simp)).trans (d2.wide (by simp))
  clear h1 C1 z1 hb2 hr2 c2 d2
  go_wp2_with fail
  go_ret
  exact ⟨rfl, ⟨_, h2⟩, C2⟩
end
end Go.Proofs.Ytejmcfgmopijkaa
