/- The fixed calls of the receiver's statements answer true, whatever the world; nothing that was there turns. -/
import Derived.Test.YtejmcfgmopijkaaSame
namespace Go.Proofs.Ytejmcfgmopijkaa
open Go.RowKit

/-- A slot of twelve cells that holds a frame. -/
theorem frame_cells {w : World} {g : Nat} {ep had room : Int} (h : Blk w g 38 (ackF ep had room)) :
    w.cell? ⟨g, 0, none⟩ = some (.int .i64 4) ∧ w.cell? ⟨g, 1, none⟩ = some (.int .i64 ep) ∧ w.cell? ⟨g, 2, none⟩ = some (.int .i64 had) ∧ w.cell? ⟨g, 3, none⟩ = some (.int .i64 (creditN room)) ∧
    w.cell? ⟨g, 4, none⟩ = some (.bool false) ∧ w.cell? ⟨g, 5, none⟩ = some (.string ⟨#[]⟩) ∧ w.cell? ⟨g, 6, none⟩ = some (.int .i64 0) ∧ w.cell? ⟨g, 7, none⟩ = some (.int .i64 0) ∧
    w.cell? ⟨g, 8, none⟩ = some (.string ⟨#[]⟩) ∧ w.cell? ⟨g, 9, none⟩ = some (.string ⟨#[]⟩) ∧ w.cell? ⟨g, 10, none⟩ = some (.int .i64 0) ∧ w.cell? ⟨g, 11, none⟩ = some (.slice none 0 0) :=
  ⟨h.cell 0, h.cell 1, h.cell 2, h.cell 3, h.cell 4, h.cell 5, h.cell 6, h.cell 7, h.cell 8, h.cell 9, h.cell 10, h.cell 11⟩

set_option maxRecDepth 100000 in
set_option maxHeartbeats 2000000 in
theorem fixed13 (w : World) : Calls Try.prog 30 #[] w fun r w' => r = .returned (.bool true) ∧ Below w.heap.size w w' := by
  have hf3 := field_ack3
  go_enter Try.func30, Try.ntmps30
  go_wp2_with fail
  refine (new_i_ex (by omega) (by omega)).mono ?_
  rintro r w1 ⟨g, gc, rfl, R1, C1, g1, g2⟩
  have B1 := bgo (Below.refl _ _) C1 (by simp)
  clear C1
  go_wp2_with fail
  refine (new_i_no 0 _ (by omega)).mono ?_
  rintro r w2 ⟨rfl, rfl⟩
  go_wp2_with fail
  refine (owes_i g gc 3 0 false _ R1).mono ?_
  rintro r w2 ⟨rfl, rfl⟩
  go_wp2_with fail
  refine (take_is (c := 0) (had' := 1) (ow' := true) R1 (by omega) (by omega) rfl rfl rfl).mono ?_
  rintro r w2 ⟨rfl, R2, C2⟩
  have B2 := bgo B1 C2 (by simp; omega)
  clear R1 B1 C2
  go_wp2_with fail
  refine (take_is (c := 11) (had' := 1) (ow' := true) R2 (by omega) (by omega) rfl rfl rfl).mono ?_
  rintro r w3 ⟨rfl, R3, C3⟩
  have B3 := bgo B2 C3 (by simp; omega)
  clear R2 B2 C3
  go_wp2_with fail
  refine (take_is (c := 8) (had' := 1) (ow' := true) R3 (by omega) (by omega) rfl rfl rfl).mono ?_
  rintro r w4 ⟨rfl, R4, C4⟩
  have B4 := bgo B3 C4 (by simp; omega)
  clear R3 B3 C4
  go_wp2_with fail
  refine (take_is (c := 10) (had' := 1) (ow' := true) R4 (by omega) (by omega) rfl rfl rfl).mono ?_
  rintro r w5 ⟨rfl, R5, C5⟩
  have B5 := bgo B4 C5 (by simp; omega)
  clear R4 B4 C5
  go_wp2_with fail
  refine (owes_i g gc 3 1 true _ R5).mono ?_
  rintro r w' ⟨rfl, rfl⟩
  go_wp2_with fail
  refine (ack_i g gc 3 1 9 true _ R5).mono ?_
  rintro r w6 ⟨rfl, R6, C6⟩
  have B6 := bgo B5 C6 (by simp; omega)
  clear R5 B5 C6
  go_wp2_with (refine wpList_store_blk rfl 38 (.tmp 11) (.tmp 42) rfl _ _ rfl rfl 38 _ (Blk.new _ _ _) (by kernel_rfl) rfl (by simp [ackF, Value.oneCell']) ?_)
  intro w7 D7 C7
  have R7 := R6.ch (Ch.of_new C7) (by simp) (by simp)
  have B7 := bgo B6 (Ch.of_new C7) (by simp)
  have x0 := B6.size
  have xg : w6.heap.size ≠ g := fun e => by have := R6.b.lt; omega
  have xh : w6.heap.size ≠ gc := fun e => by have := R6.c.lt; omega
  generalize w6.heap.size = x at D7 x0 xg xh ⊢
  clear R6 B6 C7
  go_wp2_with fail
  refine (fits_is (c := 10) (ow' := false) R7 (by omega) (by omega) rfl rfl).mono ?_
  rintro r w8 ⟨rfl, R8, C8⟩
  have B8 := bgo B7 C8 (by simp; omega)
  have D8 := D7.ch C8 (by simp; omega)
  clear R7 B7 C8 D7
  go_wp2_with fail
  refine (owes_i g gc 3 1 false _ R8).mono ?_
  rintro r w' ⟨rfl, rfl⟩
  go_wp2_with fail
  refine (fits_is (c := 0) (ow' := true) R8 (by omega) (by omega) rfl rfl).mono ?_
  rintro r w9 ⟨rfl, R9, C9⟩
  have B9 := bgo B8 C9 (by simp; omega)
  have D9 := D8.ch C9 (by simp; omega)
  clear R8 B8 C9 D8
  obtain ⟨c0, c1, c2, c3, c4, c5, c6, c7, c8, c9, c10, c11⟩ := frame_cells D9
  have c3 : w9.cell? ⟨x, 3, none⟩ = some (.int .i64 9) := c3
  go_wp2_with fail
  refine (same_ack 3 1 9 _).mono ?_
  rintro r w10 ⟨rfl, C10⟩
  have R10 := R9.ch C10 (by simp) (by simp)
  have B10 := bgo B9 C10 (by simp)
  clear c0 c1 c2 c3 c4 c5 c6 c7 c8 c9 c10 c11 R9 B9 C10 D9
  go_wp2_with fail
  refine (owes_i g gc 3 1 true _ R10).mono ?_
  rintro r w' ⟨rfl, rfl⟩
  go_wp2_with fail
  refine (had_i g gc 3 1 true _ R10).mono ?_
  rintro r w' ⟨rfl, rfl⟩
  go_wp2_with fail
  refine (epoch_i g gc 3 1 true _ R10).mono ?_
  rintro r w' ⟨rfl, rfl⟩
  go_wp2_with fail
  refine (ack_is (c := 64) (room := 99) R10 rfl).mono ?_
  rintro r w11 ⟨rfl, R11, C11⟩
  have B11 := bgo B10 C11 (by simp; omega)
  clear R10 B10 C11
  go_wp2_with fail
  refine (ack_is (c := 0) (room := -1) R11 rfl).mono ?_
  rintro r w12 ⟨rfl, R12, C12⟩
  have B12 := bgo B11 C12 (by simp; omega)
  clear R11 B11 C12
  go_wp2
  go_ret
  exact ⟨rfl, B12⟩
end Go.Proofs.Ytejmcfgmopijkaa
