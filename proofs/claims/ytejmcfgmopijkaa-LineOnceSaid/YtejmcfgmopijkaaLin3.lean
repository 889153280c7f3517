/- The line's own calls: Drain, Push, Under. -/
import Derived.Test.YtejmcfgmopijkaaLin2
import Derived.Test.YtejmcfgmopijkaaRefNew
namespace Go.Proofs.Ytejmcfgmopijkaa
open Go.RowKit
set_option linter.unusedVariables false
set_option linter.unusedSimpArgs false

section
variable {w w' : World} {B l g r gc : Nat} {win wt cr gone last had now room store : Int} {T : List Txt} {ow : Bool} {On : List Itm} {Bk : List Frm} {Out : List ByteArray} {v1 v2 v3 : Value} {B' : Nat} {Ts : List TypeId}
/-- The sender has turned. -/
theorem LineV.sent (h : LineV w B l g r gc win wt cr T gone last had ow On Bk now Out room store v1 v2 v3) (c : ChB B [111, 114] w w') {cr' : Int} {T' : List Txt} {gone' last' : Int} (hs : SndI w' B g 1 win wt cr' T' gone' last') : LineV w' B l g r gc win wt cr' T' gone' last' had ow On Bk now Out room store v1 v2 v3 :=
  ⟨h.hl, h.hr, h.hg, h.b.chB c (by simp), hs, h.rc.chB c (by simp) (by simp), h.on.chB c (by simp), h.bk.chB c (by simp), own_chB h.out c (by simp)⟩
/-- A number of the line's own block has turned: the store. -/
theorem LineV.stored (h : LineV w B l g r gc win wt cr T gone last had ow On Bk now Out room store v1 v2 v3) (k : Int) : LineV (w.setCell ⟨l, 7, none⟩ (.int .i64 k)) B l g r gc win wt cr T gone last had ow On Bk now Out room k v1 v2 v3 ∧ ChB B [124] w (w.setCell ⟨l, 7, none⟩ (.int .i64 k)) := by
  have cb : ChB B [124] w (w.setCell ⟨l, 7, none⟩ (.int .i64 k)) := (ChB.refl B [124] w).setCell (p := ⟨l, 7, none⟩) h.hl h.b (by simp) _
  exact ⟨⟨h.hl, h.hr, h.hg, by simpa using h.b.set_ 7 (.int .i64 k), h.s.chB cb (by simp) (by simp), h.rc.chB cb (by simp) (by simp), h.on.chB cb (by simp), h.bk.chB cb (by simp), own_chB h.out cb (by simp)⟩, cb⟩
/-- .. the clock. -/
theorem LineV.ticked (h : LineV w B l g r gc win wt cr T gone last had ow On Bk now Out room store v1 v2 v3) (k : Int) : LineV (w.setCell ⟨l, 4, none⟩ (.int .i64 k)) B l g r gc win wt cr T gone last had ow On Bk k Out room store v1 v2 v3 ∧ ChB B [124] w (w.setCell ⟨l, 4, none⟩ (.int .i64 k)) := by
  have cb : ChB B [124] w (w.setCell ⟨l, 4, none⟩ (.int .i64 k)) := (ChB.refl B [124] w).setCell (p := ⟨l, 4, none⟩) h.hl h.b (by simp) _
  exact ⟨⟨h.hl, h.hr, h.hg, by simpa using h.b.set_ 4 (.int .i64 k), h.s.chB cb (by simp) (by simp), h.rc.chB cb (by simp) (by simp), h.on.chB cb (by simp), h.bk.chB cb (by simp), own_chB h.out cb (by simp)⟩, cb⟩
end

section
variable (B l g r gc : Nat) (win wt cr gone last had now room store : Int) (T : List Txt) (ow : Bool) (On : List Itm) (Bk : List Frm) (Out : List ByteArray) (v1 v2 v3 : Value) (w : World)
theorem lunder_c (h : LineV w B l g r gc win wt cr T gone last had ow On Bk now Out room store v1 v2 v3) (hb : LineB win wt cr T gone last had On Bk now Out room store) :
    Calls Try.prog 52 #[.pointer (some ⟨l, 0, none⟩)] w fun e w' => e = .returned (.int .i64 T.length) ∧ Ch [] w w' := by
  have a0 := h.b.cell 0
  simp at a0
  have c1 := under_len (n := T.length) h.s hb.s rfl
  go_enter Try.func52, Try.ntmps52
  go_wp2_with fail
  refine c1.mono ?_
  rintro e1 w1 ⟨A, c, rfl, c2⟩
  go_wp2_with fail
  go_ret
  exact ⟨rfl, c2⟩
theorem lpush_no (s : ByteArray) (h : LineV w B l g r gc win wt cr T gone last had ow On Bk now Out room store v1 v2 v3) (hb : LineB win wt cr T gone last had On Bk now Out room store) (hr : roomN win cr T.length = 0) :
    Calls Try.prog 61 #[.pointer (some ⟨l, 0, none⟩), .string s] w fun e w' => e = .returned (.int .i64 7) ∧ ChB B [] w w' := by
  have a0 := h.b.cell 0
  simp at a0
  have c1 := push_isno (s := s) h.s hb.s hr
  clear hr
  go_enter Try.func61, Try.ntmps61
  go_wp2_with fail
  refine c1.mono ?_
  rintro e1 w1 ⟨rfl, c2⟩
  go_wp2_with fail
  go_ret
  exact ⟨rfl, c2⟩
theorem lpush_yes (s : ByteArray) (h : LineV w B l g r gc win wt cr T gone last had ow On Bk now Out room store v1 v2 v3) (hb : LineB win wt cr T gone last had On Bk now Out room store) (hBw : B ≤ w.heap.size) (hr : roomN win cr T.length ≠ 0) :
    Calls Try.prog 61 #[.pointer (some ⟨l, 0, none⟩), .string s] w fun e w' => e = .returned (.int .i64 0) ∧ LineV w' B l g r gc win wt cr (T ++ [(s, false)]) gone last had ow On Bk now Out room store v1 v2 v3 ∧ ChB B [111, 114] w w' := by
  have a0 := h.b.cell 0
  simp at a0
  have c1 := push_is (s := s) h.s hb.s hBw hr rfl rfl
  clear hr
  generalize nextN gone T = nx at c1
  go_enter Try.func61, Try.ntmps61
  go_wp2_with fail
  refine c1.mono ?_
  rintro e1 w1 ⟨rfl, s2, c2⟩
  go_wp2_with fail
  go_ret
  exact ⟨rfl, h.sent c2 s2, c2⟩
theorem drain_no (n : Int) (h : LineV w B l g r gc win wt cr T gone last had ow On Bk now Out room store v1 v2 v3) (hb : LineB win wt cr T gone last had On Bk now Out room store) (hn : n ≤ 0 ∨ store = 0) :
    Calls Try.prog 57 #[.pointer (some ⟨l, 0, none⟩), .int .i64 n] w fun e w' => e = .returned (.int .i64 0) ∧ Ch [] w w' := by
  have a7 := h.b.cell 7
  simp at a7
  have s0 := hb.s0
  obtain ⟨m, hm, hm0⟩ : ∃ m : Int, (if store < n then store else n) = m ∧ m ≤ 0 := ⟨_, rfl, by split <;> omega⟩
  have hm1 : (if 0 < m then m else 0) = 0 := if_neg (by omega)
  clear hb h hn
  go_enter Try.func57, Try.ntmps57
  go_wp2_with fail
  go_ret
  exact ⟨rfl, Ch.refl _ _⟩
theorem drain_yes (n k : Int) (h : LineV w B l g r gc win wt cr T gone last had ow On Bk now Out room store v1 v2 v3) (hb : LineB win wt cr T gone last had On Bk now Out room store) (hBw : B ≤ w.heap.size) (hk : min n store = k) (hk0 : 0 < k) :
    Calls Try.prog 57 #[.pointer (some ⟨l, 0, none⟩), .int .i64 n] w fun e w' => e = .returned (.int .i64 k) ∧ (∃ v2', LineV w' B l g r gc win wt cr T gone last had false On (putL Bk (had, creditN (room - (store - k)))) now Out room (store - k) v1 v2' v3) ∧ ChB B [124, 38, 102] w w' := by
  have a7 := h.b.cell 7
  have m7 := h.b.frozen 7
  simp at a7
  have s0 := hb.s0
  have s1 := hb.s1
  have s2 := hb.r1
  have hm : (if store < n then store else n) = k := by split <;> omega
  have hm1 : (if 0 < k then k else 0) = k := if_pos hk0
  have e1 : IntKind.i64.wrap (store - k) = store - k := IntWalk.i64_in _ (by omega)
  obtain ⟨h1, c1⟩ := h.stored (store - k)
  have hb1 : LineB win wt cr T gone last had On Bk now Out room (store - k) := ⟨hb.s, hb.h0, hb.h1, hb.on, hb.bk, hb.n0, hb.n1, hb.out, hb.r0, hb.r1, by omega, by omega⟩
  have z1 : B ≤ (w.setCell ⟨l, 7, none⟩ (.int .i64 (store - k))).heap.size := Nat.le_trans hBw c1.size
  clear hb h hk
  go_enter Try.func57, Try.ntmps57
  go_wp2_with fail
  refine (tell_c B l g r gc win wt cr gone last had now room (store - k) T ow On Bk Out v1 v2 v3 _ h1 hb1 z1).mono ?_
  rintro e2 w2 ⟨rfl, h2, c2⟩
  go_wp2_with fail
  go_ret
  exact ⟨rfl, h2, (c1.wide (by simp)).trans c2⟩
end
end Go.Proofs.Ytejmcfgmopijkaa
