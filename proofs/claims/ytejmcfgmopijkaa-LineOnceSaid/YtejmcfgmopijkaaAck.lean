/- The contracts of the receiver's and its reference's Ack: the frame that is told. -/
import Derived.Test.YtejmcfgmopijkaaRcv
namespace Go.Proofs.Ytejmcfgmopijkaa
open Go.RowKit

/-- A zero frame's cells. -/
def frame0 : Array Value := #[.int .i64 0, .int .i64 0, .int .i64 0, .int .i64 0, .bool false, .string ⟨#[]⟩, .int .i64 0, .int .i64 0, .string ⟨#[]⟩, .string ⟨#[]⟩, .int .i64 0, .slice none 0 0]

/-- The credit that an ack tells. -/
def creditN (room : Int) : Int := if 0 < (if 64 < room then 64 else room) then (if 64 < room then 64 else room) else 0
/-- An ack's frame's cells. -/
def ackF (ep had room : Int) : Array Value := #[.int .i64 4, .int .i64 ep, .int .i64 had, .int .i64 (creditN room), .bool false, .string ⟨#[]⟩, .int .i64 0, .int .i64 0, .string ⟨#[]⟩, .string ⟨#[]⟩, .int .i64 0, .slice none 0 0]

theorem ackF_of {w : World} {g : Nat} {ep had room c : Int} (hc : c = creditN room) (h : Blk w g 38 #[.int .i64 4, .int .i64 ep, .int .i64 had, .int .i64 c, .bool false, .string ⟨#[]⟩, .int .i64 0, .int .i64 0, .string ⟨#[]⟩, .string ⟨#[]⟩, .int .i64 0, .slice none 0 0]) : Blk w g 38 (ackF ep had room) := by
  subst hc; exact h
theorem creditN_neg {room : Int} (h : room < 0) : 0 = creditN room := by unfold creditN; rw [if_neg (show ¬ 64 < room by omega), if_neg (by omega)]
theorem creditN_big {room : Int} (h : 64 < room) : 64 = creditN room := by unfold creditN; rw [if_pos h]; rfl
theorem creditN_mid {room : Int} (h0 : 0 ≤ room) (h : room ≤ 64) : room = creditN room := by
  unfold creditN; rw [if_neg (show ¬ 64 < room by omega)]; split <;> omega

set_option maxRecDepth 100000 in
theorem ack_i (g gc : Nat) (ep had room : Int) (ow : Bool) (w : World) (hr : RecI w g gc ep had ow) :
    Calls Try.prog 25 #[.pointer (some ⟨g, 0, none⟩), .int .i64 room] w fun r w' => r = .returned (.agg (ackF ep had room)) ∧ RecI w' g gc ep had false ∧ Ch [g] w w' := by
  have a0 := (hr.b.alloc (.cells frame0 38)).cell 0
  have a1 := (hr.b.alloc (.cells frame0 38)).cell 1
  have f1 := (hr.b.alloc (.cells frame0 38)).frozen 1
  have b0 := (hr.b.alloc (.cells frame0 38)).set_ 1 (.bool false)
  have c0 := (hr.c.alloc (.cells frame0 38)).far (p := ⟨g, 1, none⟩) (Ne.symm hr.ne) (.bool false)
  have d0 := (Blk.new w 38 frame0).far (p := ⟨g, 1, none⟩) (by have := hr.b.lt; simp; omega) (.bool false)
  have C0 : Ch [g] w ((w.alloc (.cells frame0 38)).setCell ⟨g, 1, none⟩ (.bool false)) := ((Ch.refl _ _).alloc _).setCell (.inl (by simp)) _
  simp [frame0] at a0 a1 f1
  go_enter Try.func25, Try.ntmps25
  go_wp2_with fail
  unfold frame0 at b0 c0 d0 C0
  generalize ((w.alloc _).setCell ⟨g, 1, none⟩ (.bool false)) = w2 at b0 c0 d0 C0 ⊢
  clear a0 a1 f1
  have a0 := b0.cell 0
  have a1 := c0.cell 0
  have a2 := c0.cell 1
  simp at a0 a1 a2
  have d1 : Blk w2.drew w.heap.size 38 frame0 := d0
  have C1 : Ch [g] w w2.drew := C0.drew
  have b1 : Blk w2.drew g 102 #[.pointer (some ⟨gc, 0, none⟩), .bool false] := b0
  have c1 : Blk w2.drew gc 100 #[.int .i64 ep, .int .i64 had] := c0
  clear d0 C0 b0 c0
  go_still_tail 18, (by kernel_rfl)
  change wpList _ _ _ _ _ w2.drew
  generalize w2.drew = w3 at *
  clear a0 a1 a2
  refine wpList_store_blk rfl 38 (.tmp 4) (.tmp 25) rfl w.heap.size _ rfl rfl 38 _ d1 (by kernel_rfl) rfl (by simp [Value.oneCell']) ?_
  intro w4 d2 C2
  have d3 : Blk w4 w.heap.size 38 (ackF ep had room) := d2
  have hlt1 := hr.b.lt
  have hlt2 := hr.c.lt
  have b2 := b1.ch C2 (by simp; omega)
  have c2 := c1.ch C2 (by simp; omega)
  have C3 : Ch [g] w w4 := C1.step C2 (by simp)
  clear d2 C2 C1 b1 c1 d1
  go_wp2
  all_goals refine bodyPost_ret (results_cell_row rfl _ _ w.heap.size 38 _ (0, 0) _ rfl d3 Try.underlying38 rfl (by kernel_rfl)) rfl ?_
  all_goals exact ⟨rfl, ⟨b2, c2⟩, C3⟩

set_option maxRecDepth 100000 in
theorem ack_r (g : Nat) (ep had room : Int) (ow : Bool) (w : World) (hr : RecR w g ep had ow) :
    Calls Try.prog 26 #[.pointer (some ⟨g, 0, none⟩), .int .i64 room] w fun r w' => r = .returned (.agg (ackF ep had room)) ∧ RecR w' g ep had false ∧ Ch [g] w w' := by
  have a1 := (hr.b.alloc (.cells frame0 38)).cell 2
  have f1 := (hr.b.alloc (.cells frame0 38)).frozen 2
  have b0 := (hr.b.alloc (.cells frame0 38)).set_ 2 (.bool false)
  have d0 := (Blk.new w 38 frame0).far (p := ⟨g, 2, none⟩) (by have := hr.b.lt; simp; omega) (.bool false)
  have C0 : Ch [g] w ((w.alloc (.cells frame0 38)).setCell ⟨g, 2, none⟩ (.bool false)) := ((Ch.refl _ _).alloc _).setCell (.inl (by simp)) _
  simp [frame0] at a1 f1
  go_enter Try.func26, Try.ntmps26
  go_wp2_with fail
  all_goals
    unfold frame0 at b0 d0 C0
    generalize ((w.alloc _).setCell ⟨g, 2, none⟩ (.bool false)) = w2 at b0 d0 C0 ⊢
    clear a1 f1
    have a0 := b0.cell 0
    have a1 := b0.cell 1
    simp at a0 a1
    have d1 : Blk w2.drew w.heap.size 38 frame0 := d0
    have C1 : Ch [g] w w2.drew := C0.drew
    have b1 : Blk w2.drew g 42 #[.int .i64 ep, .int .i64 had, .bool false] := b0
    clear d0 C0 b0
    go_still_tail 10, (by kernel_rfl)
    change wpList _ _ _ _ _ w2.drew
    generalize w2.drew = w3 at *
    clear a0 a1
    refine wpList_store_blk rfl 38 (.tmp 4) (.tmp 23) rfl w.heap.size _ rfl rfl 38 _ d1 (by kernel_rfl) rfl (by simp [Value.oneCell']) ?_
    intro w4 d2 C2
    have hlt1 := hr.b.lt
    have b2 := b1.ch C2 (by simp; omega)
    have C3 : Ch [g] w w4 := C1.step C2 (by simp)
    have d3 : Blk w4 w.heap.size 38 (ackF ep had room) := by first | exact ackF_of (creditN_neg (by assumption)) d2 | exact ackF_of (creditN_big (by assumption)) d2 | exact ackF_of (creditN_mid (by assumption) (by assumption)) d2
    clear d2 C2 C1 b1 d1
    go_wp2
    refine bodyPost_ret (results_cell_row rfl _ _ w.heap.size 38 _ (0, 0) _ rfl d3 Try.underlying38 rfl (by kernel_rfl)) rfl ?_
    exact ⟨rfl, ⟨b2⟩, C3⟩

theorem field_ack3 (ep had c : Int) (w : World) : Sem.run Try.prog (Instr.field 38 (.agg #[.int .i64 4, .int .i64 ep, .int .i64 had, .int .i64 c, .bool false, .string ⟨#[]⟩, .int .i64 0, .int .i64 0, .string ⟨#[]⟩, .string ⟨#[]⟩, .int .i64 0, .slice none 0 0]) 3) w = .ok (.int .i64 c) w := by kernel_rfl
theorem field_ack2 (ep had c : Int) (w : World) : Sem.run Try.prog (Instr.field 38 (.agg #[.int .i64 4, .int .i64 ep, .int .i64 had, .int .i64 c, .bool false, .string ⟨#[]⟩, .int .i64 0, .int .i64 0, .string ⟨#[]⟩, .string ⟨#[]⟩, .int .i64 0, .slice none 0 0]) 2) w = .ok (.int .i64 had) w := by kernel_rfl

/-- An ack, its cells written out. -/
theorem ack_is {g gc : Nat} {ep had room c : Int} {ow : Bool} {w : World} (hr : RecI w g gc ep had ow) (hc : creditN room = c) :
    Calls Try.prog 25 #[.pointer (some ⟨g, 0, none⟩), .int .i64 room] w fun r w' => r = .returned (.agg #[.int .i64 4, .int .i64 ep, .int .i64 had, .int .i64 c, .bool false, .string ⟨#[]⟩, .int .i64 0, .int .i64 0, .string ⟨#[]⟩, .string ⟨#[]⟩, .int .i64 0, .slice none 0 0]) ∧ RecI w' g gc ep had false ∧ Ch [g] w w' := by
  subst hc; exact ack_i g gc ep had room ow w hr
end Go.Proofs.Ytejmcfgmopijkaa
