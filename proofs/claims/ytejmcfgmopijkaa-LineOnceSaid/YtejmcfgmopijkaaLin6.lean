/- The line's own calls: Twice. -/
import Derived.Test.YtejmcfgmopijkaaLin5
import Derived.Test.YtejmcfgmopijkaaReg
namespace Go.Proofs.Ytejmcfgmopijkaa
open Go.RowKit
set_option linter.unusedVariables false
set_option linter.unusedSimpArgs false

theorem RowW.at_ {w : World} {B size n : Nat} {e : TypeId} {g cap : Nat} {xs : List Value} (h : RowW w B e size (.slice (some ⟨g, 0, none⟩) n cap) n xs) {i : Nat} {u : Value} (hi : xs[i]? = some u) : w.cell? ⟨g, i, none⟩ = some u := by
  obtain ⟨g', cap', he, hc⟩ := h.cell hi
  injection he with he _ _
  injection he with he
  injection he with he
  subst he
  exact hc
section
variable (B l g r gc : Nat) (win wt cr gone last had now room store : Int) (T : List Txt) (ow : Bool) (On : List Itm) (Bk : List Frm) (Out : List ByteArray) (v1 v2 v3 : Value) (w : World)
set_option maxHeartbeats 4000000 in
set_option maxRecDepth 100000 in
theorem twice_back_yes (k : Nat) (x : Frm) (h : LineV w B l g r gc win wt cr T gone last had ow On Bk now Out room store v1 v2 v3) (hb : LineB win wt cr T gone last had On Bk now Out room store) (hBw : B ≤ w.heap.size) (hk : Bk[k]? = some x) :
    Calls Try.prog 76 #[.pointer (some ⟨l, 0, none⟩), .bool true, .int .i64 k] w fun e w' => e = .returned (.int .i64 0) ∧ (∃ v2', LineV w' B l g r gc win wt cr T gone last had ow On (putL Bk x) now Out room store v1 v2' v3) ∧ ChB B [124, 38, 76] w w' := by
  have hkl : k < Bk.length := (List.getElem?_eq_some_iff.1 hk).1
  have c1 := has_frame B l _ v2 Bk k w h.b rfl h.bk
  have e1 : (decide (0 ≤ (k : Int)) && decide ((k : Int) < Bk.length)) = true := by simp; omega
  rw [e1] at c1
  clear e1
  obtain ⟨xa, xc⟩ := x
  go_enter Try.func76, Try.ntmps76
  go_wp2_with fail
  refine c1.mono ?_
  rintro e1 w0 ⟨rfl, c2⟩
  have C2 : ChB B [] w w0 := c2.toB0
  have h2 := h.chB C2
  clear h c1 c2
  obtain ⟨gv, cap, hv, _⟩ := h2.bk.cell (frmCells_get Bk k (xa, xc) hk 0 _ rfl)
  subst hv
  have y0 : w0.cell? ⟨gv, k * 12, none⟩ = some (.int .i64 4) := h2.bk.at_ (frmCells_get Bk k (xa, xc) hk 0 _ rfl)
  have y1 : w0.cell? ⟨gv, k * 12 + 1, none⟩ = some (.int .i64 1) := h2.bk.at_ (frmCells_get Bk k (xa, xc) hk 1 _ rfl)
  have y2 : w0.cell? ⟨gv, k * 12 + 2, none⟩ = some (.int .i64 xa) := h2.bk.at_ (frmCells_get Bk k (xa, xc) hk 2 _ rfl)
  have y3 : w0.cell? ⟨gv, k * 12 + 3, none⟩ = some (.int .i64 xc) := h2.bk.at_ (frmCells_get Bk k (xa, xc) hk 3 _ rfl)
  have y4 : w0.cell? ⟨gv, k * 12 + 4, none⟩ = some (.bool false) := h2.bk.at_ (frmCells_get Bk k (xa, xc) hk 4 _ rfl)
  have y5 : w0.cell? ⟨gv, k * 12 + 5, none⟩ = some (.string ⟨#[]⟩) := h2.bk.at_ (frmCells_get Bk k (xa, xc) hk 5 _ rfl)
  have y6 : w0.cell? ⟨gv, k * 12 + 6, none⟩ = some (.int .i64 0) := h2.bk.at_ (frmCells_get Bk k (xa, xc) hk 6 _ rfl)
  have y7 : w0.cell? ⟨gv, k * 12 + 7, none⟩ = some (.int .i64 0) := h2.bk.at_ (frmCells_get Bk k (xa, xc) hk 7 _ rfl)
  have y8 : w0.cell? ⟨gv, k * 12 + 8, none⟩ = some (.string ⟨#[]⟩) := h2.bk.at_ (frmCells_get Bk k (xa, xc) hk 8 _ rfl)
  have y9 : w0.cell? ⟨gv, k * 12 + 9, none⟩ = some (.string ⟨#[]⟩) := h2.bk.at_ (frmCells_get Bk k (xa, xc) hk 9 _ rfl)
  have y10 : w0.cell? ⟨gv, k * 12 + 10, none⟩ = some (.int .i64 0) := h2.bk.at_ (frmCells_get Bk k (xa, xc) hk 10 _ rfl)
  have y11 : w0.cell? ⟨gv, k * 12 + 11, none⟩ = some (.slice none 0 0) := h2.bk.at_ (frmCells_get Bk k (xa, xc) hk 11 _ rfl)
  have a0 := h2.b.cell 3
  simp at a0
  have v5 : (k : Int) < (Bk.length : Int) := by omega
  have v6 : 0 ≤ (k : Int) := by omega
  go_wp2_with fail
  have c0 := (Ch.refl [] w0).drew
  have h3 := h2.chB (c0.toB0 (B := B))
  have C3 : ChB B [124, 38, 76] w w0.drew := (C2.wide (by simp)).trans c0.toB0
  clear h2 C2 c0
  go_still_tail 11, (by kernel_rfl)
  clear a0 y0 y1 y2 y3 y4 y5 y6 y7 y8 y9 y10 y11
  change wpList _ _ _ _ _ w0.drew
  generalize w0.drew = w3 at *
  go_wp2_with fail
  refine (put_frame B l _ _ Bk (xa, xc) w3 h3.hl h3.b rfl h3.bk (Nat.le_trans hBw C3.size) hb.bk).mono ?_
  rintro e4 w4 ⟨rfl, v4, hb4, hr4, c4⟩
  have d4 := h3.wayB c4
  have h4 := h3.back d4 hb4 hr4
  have C4 : ChB B [124, 38, 76] w w4 := C3.trans (d4.wide (by simp))
  go_wp2_with fail
  go_ret
  exact ⟨rfl, ⟨_, h4⟩, C4⟩
set_option maxHeartbeats 4000000 in
set_option maxRecDepth 100000 in
theorem twice_on_yes (k : Nat) (x : Itm) (h : LineV w B l g r gc win wt cr T gone last had ow On Bk now Out room store v1 v2 v3) (hb : LineB win wt cr T gone last had On Bk now Out room store) (hBw : B ≤ w.heap.size) (hk : On[k]? = some x) :
    Calls Try.prog 76 #[.pointer (some ⟨l, 0, none⟩), .bool false, .int .i64 k] w fun e w' => e = .returned (.int .i64 0) ∧ (∃ v1', LineV w' B l g r gc win wt cr T gone last had ow (putL On x) Bk now Out room store v1' v2 v3) ∧ ChB B [124, 38, 76] w w' := by
  have hkl : k < On.length := (List.getElem?_eq_some_iff.1 hk).1
  have c1 := has_item B l _ v1 On k w h.b rfl h.on
  have e1 : (decide (0 ≤ (k : Int)) && decide ((k : Int) < On.length)) = true := by simp; omega
  rw [e1] at c1
  clear e1
  obtain ⟨xa, xc⟩ := x
  go_enter Try.func76, Try.ntmps76
  go_wp2_with fail
  refine c1.mono ?_
  rintro e1 w0 ⟨rfl, c2⟩
  have C2 : ChB B [] w w0 := c2.toB0
  have h2 := h.chB C2
  clear h c1 c2
  obtain ⟨gv, cap, hv, _⟩ := h2.on.cell (itmCells_get On k (xa, xc) hk).1
  subst hv
  have y0 : w0.cell? ⟨gv, k * 2, none⟩ = some (.int .i64 xa) := h2.on.at_ (itmCells_get On k (xa, xc) hk).1
  have y1 : w0.cell? ⟨gv, k * 2 + 1, none⟩ = some (.string xc) := h2.on.at_ (itmCells_get On k (xa, xc) hk).2
  have a0 := h2.b.cell 2
  simp at a0
  have v5 : (k : Int) < (On.length : Int) := by omega
  have v6 : 0 ≤ (k : Int) := by omega
  go_wp2_with fail
  have c0 := (Ch.refl [] w0).drew
  have h3 := h2.chB (c0.toB0 (B := B))
  have C3 : ChB B [124, 38, 76] w w0.drew := (C2.wide (by simp)).trans c0.toB0
  clear h2 C2 c0
  go_still_tail 11, (by kernel_rfl)
  clear a0 y0 y1
  change wpList _ _ _ _ _ w0.drew
  generalize w0.drew = w3 at *
  go_wp2_with fail
  refine (put_item B l _ _ On (xa, xc) w3 h3.hl h3.b rfl h3.on (Nat.le_trans hBw C3.size) hb.on).mono ?_
  rintro e4 w4 ⟨rfl, v4, hb4, hr4, c4⟩
  have d4 := h3.wayA c4
  have h4 := h3.onto d4 hb4 hr4
  have C4 : ChB B [124, 38, 76] w w4 := C3.trans (d4.wide (by simp))
  go_wp2_with fail
  go_ret
  exact ⟨rfl, ⟨_, h4⟩, C4⟩
end
end Go.Proofs.Ytejmcfgmopijkaa
