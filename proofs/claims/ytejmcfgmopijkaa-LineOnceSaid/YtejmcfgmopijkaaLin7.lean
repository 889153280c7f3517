/- The line's own calls: New. -/
import Derived.Test.YtejmcfgmopijkaaLin6
namespace Go.Proofs.Ytejmcfgmopijkaa
open Go.RowKit
set_option linter.unusedVariables false
set_option linter.unusedSimpArgs false

theorem lnew_room (win wait room : Int) (w : World) (h2 : 1 ≤ win ∧ win ≤ 16) (h3 : 1 ≤ wait ∧ wait ≤ 1000) (hr : ¬ (1 ≤ room ∧ room ≤ 64)) :
    Calls Try.prog 48 #[.int .i64 win, .int .i64 wait, .int .i64 room] w fun e w' => e = .returned (.tuple #[.pointer none, .int .i64 1]) ∧ Ch [] w w' := by
  have c1 := snew_ex (ep := 1) (win := win) (wait := wait) (B := w.heap.size) (w := w) (Nat.le_refl _) (by omega) h2 h3
  by_cases h0 : room < 1
  · clear h2 h3 hr
    go_enter Try.func48, Try.ntmps48
    go_wp2_with fail
    refine c1.mono ?_
    rintro e1 w1 ⟨g, rfl, _, c2⟩
    go_wp2_with fail
    go_ret2
    exact ⟨rfl, c2⟩
  · have h1 : 64 < room := by omega
    clear h2 h3 hr
    go_enter Try.func48, Try.ntmps48
    go_wp2_with fail
    refine c1.mono ?_
    rintro e1 w1 ⟨g, rfl, _, c2⟩
    go_wp2_with fail
    go_ret2
    exact ⟨rfl, c2⟩
theorem lnew_no (win wait room : Int) (w : World) (h : ¬ ((1 ≤ win ∧ win ≤ 16) ∧ (1 ≤ wait ∧ wait ≤ 1000))) :
    Calls Try.prog 48 #[.int .i64 win, .int .i64 wait, .int .i64 room] w fun e w' => e = .returned (.tuple #[.pointer none, .int .i64 1]) ∧ Ch [] w w' := by
  have c1 := snew_no 1 win wait w (fun h' => h h'.2)
  clear h
  go_enter Try.func48, Try.ntmps48
  go_wp2_with fail
  refine c1.mono ?_
  rintro e1 w1 ⟨rfl, c2⟩
  subst c2
  go_wp2_with fail
  go_ret2
  exact ⟨rfl, Ch.refl _ _⟩
theorem lnew_yes (B : Nat) (win wait room : Int) (w : World) (hB : B ≤ w.heap.size) (h2 : 1 ≤ win ∧ win ≤ 16) (h3 : 1 ≤ wait ∧ wait ≤ 1000) (hr : 1 ≤ room ∧ room ≤ 64) :
    Calls Try.prog 48 #[.int .i64 win, .int .i64 wait, .int .i64 room] w fun e w' => ∃ l g r gc, e = .returned (.tuple #[.pointer (some ⟨l, 0, none⟩), .int .i64 0]) ∧ LineV w' B l g r gc win wait win [] 0 0 0 false [] [] 0 [] room 0 (.slice none 0 0) (.slice none 0 0) (.slice none 0 0) ∧ Ch [] w w' := by
  have c1 := snew_ex (ep := 1) (win := win) (wait := wait) (B := B) (w := w) hB (by omega) h2 h3
  obtain ⟨r0, r1⟩ := hr
  clear h2 h3
  go_enter Try.func48, Try.ntmps48
  go_wp2_with fail
  refine c1.mono ?_
  rintro e1 w1 ⟨g, rfl, S1, c2⟩
  have z1 : B ≤ w1.heap.size := Nat.le_trans hB c2.size
  clear c1
  go_wp2_with fail
  refine (new_i_yes 1 w1 (by omega) (by omega)).mono ?_
  rintro e2 w2 ⟨rfl, hrc, c3⟩
  have S2 := S1.chB (c3.toB0 (B := B) (Ts := [])) (by simp) (by simp)
  have z2 : B ≤ w2.heap.size := Nat.le_trans z1 c3.size
  have C2 : Ch [] w w2 := c2.trans c3
  have cc := (Ch.refl [] w2).alloc (.cells #[.pointer (some ⟨g, 0, none⟩), .pointer (some ⟨w1.heap.size + 1, 0, none⟩), .slice none 0 0, .slice none 0 0, .int .i64 0, .slice none 0 0, .int .i64 room, .int .i64 0] 124)
  have hb := Blk.new w2 124 #[.pointer (some ⟨g, 0, none⟩), .pointer (some ⟨w1.heap.size + 1, 0, none⟩), .slice none 0 0, .slice none 0 0, .int .i64 0, .slice none 0 0, .int .i64 room, .int .i64 0]
  have S3 := S2.chB (cc.toB0 (B := B) (Ts := [])) (by simp) (by simp)
  have R3 := hrc.chB (cc.toB0 (B := B) (Ts := [])) (by simp) (by simp)
  have C3 := C2.trans cc
  clear S1 S2 hrc c2 c3 C2 cc
  go_wp2_with fail
  go_ret2
  exact ⟨w2.heap.size, g, w1.heap.size + 1, w1.heap.size, rfl, ⟨z2, by omega, z1, hb, S3, R3, RowW.nil _ _ _ _, RowW.nil _ _ _ _, World.ownsRow_nil _ _ _ _⟩, C3⟩
end Go.Proofs.Ytejmcfgmopijkaa
