/- Never more is under way than the window; Push takes a text just if there is room; numbers are given in turn. No conditions. -/
import Derived.Test.YtejmcfgmopijkaaRows
import Derived.WalkKit
import Derived.ProofKit
import Derived.OpenShut
import Derived.ShutString
import Derived.Carry
import Derived.Deep.RegionHeld3
import Derived.Test.YtejmcfgmopijkaaPost
import Derived.Test.YtejmcfgmopijkaaSLaw
import Derived.Test.YtejmcfgmopijkaaOps12
import Derived.Test.YtejmcfgmopijkaaNum
namespace Go.Proofs.Ytejmcfgmopijkaa.senderBounds
open Go.ChangeShapes Go.WideShapes Go.ChangeAt Go.RowKit
set_option linter.unusedVariables false
set_option linter.unusedSimpArgs false

set_option maxHeartbeats 8000000 in
set_option maxRecDepth 100000 in
theorem walk (a0 : Int) (A : Option Addr) (len cap : Nat) (f : Nat → Op12) (w : World) (hl : len ≤ maxLen) (hA : Ops12 w w.heap.size A len f) :
    Calls Try.prog 9 #[.int .i64 a0, .slice A len cap] w fun e w' => e = .returned (.bool true) ∧ Below w.heap.size w w' := by
  unfold maxLen at hl
  have e1 := and15 a0
  have e2 : 0 ≤ a0 % 16 := by omega
  have e3 : a0 % 16 ≤ 15 := by omega
  go_enter Try.func9, Try.ntmps9
  go_wp2_with fail
  have w1 : 1 ≤ 1 + a0 % 16 := by omega
  have w2 : 1 + a0 % 16 ≤ 16 := by omega
  generalize 1 + a0 % 16 = win at w1 w2 ⊢
  clear e1 e2 e3
  refine (snew_ex (B := w.heap.size) (w := w) (Nat.le_refl _) (by omega) ⟨w1, w2⟩ (by omega)).mono ?_
  rintro r wa ⟨g, rfl, S1, C1⟩
  have B1 := bgo (Below.refl _ _) C1 (by simp)
  clear C1
  go_wp2_with fail
  go_loopw [8, 9] (fun nn i wr => ∃ (j : Nat) (n cr : Int) (T : List Txt) (go la : Int), nn = .int .i64 n ∧ i = .int .i64 j ∧ j ≤ 80 ∧ j ≤ len ∧ n ≤ j ∧ 0 ≤ n ∧ SndI wr w.heap.size g 1 win 3 cr T go la ∧ Below w.heap.size w wr ∧ (0 ≤ cr ∧ cr ≤ 64) ∧ 0 ≤ go ∧ (0 ≤ la ∧ la ≤ 65535) ∧ (T.length : Int) ≤ win ∧ n = go + T.length) (fun _ i _ => (80 - intOf i).toNat)
  case atStart => exact ⟨0, 0, win, [], 0, 0, rfl, rfl, by omega, by omega, by omega, by omega, S1, B1, by omega, by omega, by omega, by simp; omega, by simp⟩
  case round =>
    obtain ⟨j, n, cr, T, go, la, rfl, rfl, hj, hjl, hnj, hn0, S, B, hc, hgo, hla, hlen, hn⟩ := hrel
    clear S1 B1
    have hb : SndB win 3 cr T go la := SndB.mk' (by omega)
    have HN := Lib.hid hn
    by_cases h80 : j < 80 ∧ j < len
    · obtain ⟨h80, hlt⟩ := h80
      obtain ⟨b, off, rfl, hbb, c0, c1, c2, c3, c4⟩ := (hA.below B).at_ j hlt
      have hsz := hA.sz j hlt
      generalize f j = o at c0 c1 c2 c3 c4 hsz
      obtain ⟨ok, os, oe, on, oc⟩ := o
      simp only at c0 c1 c2 c3 c4 hsz
      clear hA hn hsz
      have D := Blk.new wr 57 #[.int .i64 ok, .string os, .int .i64 oe, .int .i64 on, .int .i64 oc]
      have CC : ChB w.heap.size [] wr (wr.alloc (.cells #[.int .i64 ok, .string os, .int .i64 oe, .int .i64 on, .int .i64 oc] 57)) := ((Ch.refl [] wr).alloc _).toB0
      have S0 := S.chB CC (by simp) (by simp)
      have B0 := ChB.go B CC (Nat.le_refl _)
      clear S B CC
      have hk : ok = 0 ∨ ok = 1 ∨ (ok ≠ 0 ∧ ok ≠ 1) := by omega
      rcases hk with rfl | rfl | ⟨hk0, hk1⟩
      · go_wp2_with fail
        generalize wr.alloc _ = wx at D S0 B0 ⊢
        generalize wr.heap.size = x at D ⊢
        clear c0 c1 c2 c3 c4 D
        have r0 := roomN_lo win cr T.length
        generalize hrm : roomN win cr T.length = rm at r0
        refine (room_is (n := rm) S0 hb hrm).mono ?_
        rintro r wy ⟨rfl, Cy⟩
        have Sy := S0.chB Cy (by simp) (by simp)
        have By := ChB.go B0 Cy (Nat.le_refl _)
        clear S0 B0 Cy
        by_cases hr : rm = 0
        · subst hr
          have HR := Lib.hid hrm
          clear hrm
          go_wp2_with fail
          refine (push_isno Sy hb HR.out).mono ?_
          rintro r w2 ⟨rfl, C2⟩
          have S2 := Sy.chB C2 (by simp) (by simp)
          have B2 := ChB.go By C2 (Nat.le_refl _)
          clear Sy By C2
          have hn2 := HN.out
          have r0 := roomN_lo win cr T.length
          have r1 := roomN_hi (win := win) (cr := cr) T.length (by omega)
          generalize hrm : roomN win cr T.length = rm at r0 r1
          have HRM := Lib.hid hrm
          clear hrm
          have hL2 := hlen
          generalize hL : T.length = L at hL2 hn2
          have HL := Lib.hid hL
          clear hL
          have HN2 := Lib.hid hn2
          clear hn2
          go_wp2_with fail
          refine (under_len (n := L) S2 hb HL.out).mono ?_
          rintro r w3 ⟨Au, cu, rfl, C3⟩
          have C3' : ChB w.heap.size [] w2 w3 := C3.toB0
          have S3 := S2.chB C3' (by simp) (by simp)
          have B3 := ChB.go B2 C3' (Nat.le_refl _)
          clear S2 B2 C3 C3'
          go_wp2_with fail
          refine (room_is (n := rm) S3 hb HRM.out).mono ?_
          rintro r w4 ⟨rfl, C4⟩
          have S4 := S3.chB C4 (by simp) (by simp)
          have B4 := ChB.go B3 C4 (Nat.le_refl _)
          clear S3 B3 C4
          go_wp2_with fail
          refine (room_is (n := rm) S4 hb HRM.out).mono ?_
          rintro r w5 ⟨rfl, C5⟩
          have S5 := S4.chB C5 (by simp) (by simp)
          have B5 := ChB.go B4 C5 (Nat.le_refl _)
          clear S4 B4 C5
          go_wp2_with fail
          refine (snext_is (n := n + 1) S5 hb (by have := HN2.out; unfold nextN; rw [HL.out]; omega)).mono ?_
          rintro r w6 ⟨rfl, C6⟩
          have S6 := S5.chB C6 (by simp) (by simp)
          have B6 := ChB.go B5 C6 (Nat.le_refl _)
          clear S5 B5 C6
          go_wp2_with fail
          refine (shad_is S6).mono ?_
          rintro r w' ⟨rfl, rfl⟩
          go_wp2_with fail
          refine (under_len (n := L) S6 hb HL.out).mono ?_
          rintro r w7 ⟨Av, cv, rfl, C7⟩
          have C7' : ChB w.heap.size [] w6 w7 := C7.toB0
          have S7 := S6.chB C7' (by simp) (by simp)
          have B7 := ChB.go B6 C7' (Nat.le_refl _)
          clear S6 B6 C7 C7'
          have hg2 := hb.g1
          have hnn : (wrap64 (go + (L : Int)) != n) = false := by have := HN2.out; rw [show wrap64 (go + (L : Int)) = n by unfold wrap64; omega]; simp
          go_wp2_with fail
          refine ⟨⟨j + 1, n, cr, T, go, la, rfl, by simp, by omega, by omega, by simp; omega, by omega, S7, B7, hc, hgo, hla, by rw [HL.out]; exact hL2, by rw [HL.out]; exact HN2.out⟩, ?_⟩
          simp [intOf]; omega
        · have hlt2 := roomN_lt (win := win) (cr := cr) (n := T.length) (by rw [hrm]; exact hr)
          have hrp : 0 < rm := by omega
          have HR := Lib.hid hrm
          clear hrm hr
          go_wp2_with fail
          have q1 : roomN win cr T.length ≠ 0 := by rw [HR.out]; omega
          have q2 : nextN go T = n + 1 := by unfold nextN; rw [← HN.out]
          have c := push_is (s := ⟨#[120]⟩) Sy hb By.size q1 q2 rfl
          clear q1 q2
          refine c.mono ?_
          clear c
          rintro r w2 ⟨rfl, S2, C2⟩
          have B2 := ChB.go By C2 (Nat.le_refl _)
          clear Sy By C2
          have hn2 : n + 1 = go + (T ++ [((⟨#[120]⟩ : ByteArray), false)]).length := by have := HN.out; simp; omega
          have hlen2 : ((T ++ [((⟨#[120]⟩ : ByteArray), false)]).length : Int) ≤ win := by simp; omega
          have hb2 : SndB win 3 cr (T ++ [((⟨#[120]⟩ : ByteArray), false)]) go la := SndB.mk' (by simp at hlen2 ⊢; omega)
          generalize T ++ [((⟨#[120]⟩ : ByteArray), false)] = T2 at S2 hn2 hlen2 hb2
          have r0 := roomN_lo win cr T2.length
          have r1 := roomN_hi (win := win) (cr := cr) T2.length (by omega)
          generalize hrm : roomN win cr T2.length = rm at r0 r1
          have HRM := Lib.hid hrm
          clear hrm
          have hL2 := hlen2
          generalize hL : T2.length = L at hL2 hn2
          have HL := Lib.hid hL
          clear hL
          have HN2 := Lib.hid hn2
          clear hn2
          go_wp2_with fail
          refine (under_len (n := L) S2 hb2 HL.out).mono ?_
          rintro r w3 ⟨Au, cu, rfl, C3⟩
          have C3' : ChB w.heap.size [] w2 w3 := C3.toB0
          have S3 := S2.chB C3' (by simp) (by simp)
          have B3 := ChB.go B2 C3' (Nat.le_refl _)
          clear S2 B2 C3 C3'
          go_wp2_with fail
          refine (room_is (n := rm) S3 hb2 HRM.out).mono ?_
          rintro r w4 ⟨rfl, C4⟩
          have S4 := S3.chB C4 (by simp) (by simp)
          have B4 := ChB.go B3 C4 (Nat.le_refl _)
          clear S3 B3 C4
          go_wp2_with fail
          refine (room_is (n := rm) S4 hb2 HRM.out).mono ?_
          rintro r w5 ⟨rfl, C5⟩
          have S5 := S4.chB C5 (by simp) (by simp)
          have B5 := ChB.go B4 C5 (Nat.le_refl _)
          clear S4 B4 C5
          go_wp2_with fail
          refine (snext_is (n := (n + 1) + 1) S5 hb2 (by have := HN2.out; unfold nextN; rw [HL.out]; omega)).mono ?_
          rintro r w6 ⟨rfl, C6⟩
          have S6 := S5.chB C6 (by simp) (by simp)
          have B6 := ChB.go B5 C6 (Nat.le_refl _)
          clear S5 B5 C6
          go_wp2_with fail
          refine (shad_is S6).mono ?_
          rintro r w' ⟨rfl, rfl⟩
          go_wp2_with fail
          refine (under_len (n := L) S6 hb2 HL.out).mono ?_
          rintro r w7 ⟨Av, cv, rfl, C7⟩
          have C7' : ChB w.heap.size [] w6 w7 := C7.toB0
          have S7 := S6.chB C7' (by simp) (by simp)
          have B7 := ChB.go B6 C7' (Nat.le_refl _)
          clear S6 B6 C7 C7'
          have hg2 := hb2.g1
          have hnn : (wrap64 (go + (L : Int)) != (n + 1)) = false := by have := HN2.out; rw [show wrap64 (go + (L : Int)) = (n + 1) by unfold wrap64; omega]; simp
          go_wp2_with fail
          refine ⟨⟨j + 1, (n + 1), cr, T2, go, la, rfl, by simp, by omega, by omega, by simp; omega, by omega, S7, B7, hc, hgo, hla, by rw [HL.out]; exact hL2, by rw [HL.out]; exact HN2.out⟩, ?_⟩
          simp [intOf]; omega
      · have f1 := and65535 on
        have f2 : 0 ≤ on % 65536 := by omega
        have f3 : on % 65536 ≤ 65535 := by omega
        go_wp2_with fail
        generalize on % 65536 = tm at f2 f3 ⊢
        generalize wr.alloc _ = wx at D S0 B0 ⊢
        generalize wr.heap.size = x at D ⊢
        clear c0 c1 c2 c3 c4 D f1
        refine (due_some (now := tm) S0 hb B0.size (by omega) f2).mono ?_
        rintro r w2 ⟨Ad, cd, rfl, _, _, S2, C2⟩
        have B2 := ChB.go B0 C2 (Nat.le_refl _)
        clear S0 B0 C2
        have hT2 := dueT_len 3 la go tm T
        have hl0 := dueLast_lo (wait := 3) (gone := go) (now := tm) T hla.1
        have hl1 := dueLast_hi (wait := 3) (gone := go) (M := 65535) T hla.2 f3
        generalize dueT 3 la go tm T = T2 at S2 hT2
        generalize dueLast 3 la go tm T = la2 at S2 hl0 hl1
        generalize (dueL 3 la go tm T).length = q
        have hn2 : n = go + T2.length := by rw [hT2]; exact HN.out
        have hlen2 : (T2.length : Int) ≤ win := by rw [hT2]; exact hlen
        have hb2 : SndB win 3 cr T2 go la2 := SndB.mk' (by omega)
        clear hT2
        have r0 := roomN_lo win cr T2.length
        have r1 := roomN_hi (win := win) (cr := cr) T2.length (by omega)
        generalize hrm : roomN win cr T2.length = rm at r0 r1
        have HRM := Lib.hid hrm
        clear hrm
        have hL2 := hlen2
        generalize hL : T2.length = L at hL2 hn2
        have HL := Lib.hid hL
        clear hL
        have HN2 := Lib.hid hn2
        clear hn2
        go_wp2_with fail
        refine (under_len (n := L) S2 hb2 HL.out).mono ?_
        rintro r w3 ⟨Au, cu, rfl, C3⟩
        have C3' : ChB w.heap.size [] w2 w3 := C3.toB0
        have S3 := S2.chB C3' (by simp) (by simp)
        have B3 := ChB.go B2 C3' (Nat.le_refl _)
        clear S2 B2 C3 C3'
        go_wp2_with fail
        refine (room_is (n := rm) S3 hb2 HRM.out).mono ?_
        rintro r w4 ⟨rfl, C4⟩
        have S4 := S3.chB C4 (by simp) (by simp)
        have B4 := ChB.go B3 C4 (Nat.le_refl _)
        clear S3 B3 C4
        go_wp2_with fail
        refine (room_is (n := rm) S4 hb2 HRM.out).mono ?_
        rintro r w5 ⟨rfl, C5⟩
        have S5 := S4.chB C5 (by simp) (by simp)
        have B5 := ChB.go B4 C5 (Nat.le_refl _)
        clear S4 B4 C5
        go_wp2_with fail
        refine (snext_is (n := n + 1) S5 hb2 (by have := HN2.out; unfold nextN; rw [HL.out]; omega)).mono ?_
        rintro r w6 ⟨rfl, C6⟩
        have S6 := S5.chB C6 (by simp) (by simp)
        have B6 := ChB.go B5 C6 (Nat.le_refl _)
        clear S5 B5 C6
        go_wp2_with fail
        refine (shad_is S6).mono ?_
        rintro r w' ⟨rfl, rfl⟩
        go_wp2_with fail
        refine (under_len (n := L) S6 hb2 HL.out).mono ?_
        rintro r w7 ⟨Av, cv, rfl, C7⟩
        have C7' : ChB w.heap.size [] w6 w7 := C7.toB0
        have S7 := S6.chB C7' (by simp) (by simp)
        have B7 := ChB.go B6 C7' (Nat.le_refl _)
        clear S6 B6 C7 C7'
        have hg2 := hb2.g1
        have hnn : (wrap64 (go + (L : Int)) != n) = false := by have := HN2.out; rw [show wrap64 (go + (L : Int)) = n by unfold wrap64; omega]; simp
        go_wp2_with fail
        refine ⟨⟨j + 1, n, cr, T2, go, la2, rfl, by simp, by omega, by omega, by simp; omega, by omega, S7, B7, hc, hgo, ⟨hl0, hl1⟩, by rw [HL.out]; exact hL2, by rw [HL.out]; exact HN2.out⟩, ?_⟩
        simp [intOf]; omega
      · have g0 : (ok == 0) = false := by simp [hk0]
        have g1 : (ok == 1) = false := by simp [hk1]
        by_cases ht : stakeN 1 go T.length 1 on oc = 0
        · obtain ⟨_, t1, t2, t3, t4, t5⟩ := stakeN_zero.1 ht
          clear ht
          go_wp2_with fail
          generalize wr.alloc _ = wx at D S0 B0 ⊢
          generalize wr.heap.size = x at D ⊢
          clear c0 c1 c2 c3 c4 D
          refine (stake_is S0 hb B0.size t1 t2 t3 t4 t5 rfl rfl).mono ?_
          rintro r w2 ⟨rfl, S2, C2⟩
          have B2 := ChB.go B0 C2 (Nat.le_refl _)
          clear S0 B0 C2
          have hT2 : (T.drop (on - go).toNat).length = T.length - (on - go).toNat := List.length_drop
          generalize T.drop (on - go).toNat = T2 at S2 hT2
          have hn2 : n = on + T2.length := by have := HN.out; omega
          have hlen2 : (T2.length : Int) ≤ win := by omega
          have hb2 : SndB win 3 oc T2 on la := SndB.mk' (by have := HN.out; omega)
          clear hT2
          have r0 := roomN_lo win oc T2.length
          have r1 := roomN_hi (win := win) (cr := oc) T2.length (by omega)
          generalize hrm : roomN win oc T2.length = rm at r0 r1
          have HRM := Lib.hid hrm
          clear hrm
          have hL2 := hlen2
          generalize hL : T2.length = L at hL2 hn2
          have HL := Lib.hid hL
          clear hL
          have HN2 := Lib.hid hn2
          clear hn2
          go_wp2_with fail
          refine (under_len (n := L) S2 hb2 HL.out).mono ?_
          rintro r w3 ⟨Au, cu, rfl, C3⟩
          have C3' : ChB w.heap.size [] w2 w3 := C3.toB0
          have S3 := S2.chB C3' (by simp) (by simp)
          have B3 := ChB.go B2 C3' (Nat.le_refl _)
          clear S2 B2 C3 C3'
          go_wp2_with fail
          refine (room_is (n := rm) S3 hb2 HRM.out).mono ?_
          rintro r w4 ⟨rfl, C4⟩
          have S4 := S3.chB C4 (by simp) (by simp)
          have B4 := ChB.go B3 C4 (Nat.le_refl _)
          clear S3 B3 C4
          go_wp2_with fail
          refine (room_is (n := rm) S4 hb2 HRM.out).mono ?_
          rintro r w5 ⟨rfl, C5⟩
          have S5 := S4.chB C5 (by simp) (by simp)
          have B5 := ChB.go B4 C5 (Nat.le_refl _)
          clear S4 B4 C5
          go_wp2_with fail
          refine (snext_is (n := n + 1) S5 hb2 (by have := HN2.out; unfold nextN; rw [HL.out]; omega)).mono ?_
          rintro r w6 ⟨rfl, C6⟩
          have S6 := S5.chB C6 (by simp) (by simp)
          have B6 := ChB.go B5 C6 (Nat.le_refl _)
          clear S5 B5 C6
          go_wp2_with fail
          refine (shad_is S6).mono ?_
          rintro r w' ⟨rfl, rfl⟩
          go_wp2_with fail
          refine (under_len (n := L) S6 hb2 HL.out).mono ?_
          rintro r w7 ⟨Av, cv, rfl, C7⟩
          have C7' : ChB w.heap.size [] w6 w7 := C7.toB0
          have S7 := S6.chB C7' (by simp) (by simp)
          have B7 := ChB.go B6 C7' (Nat.le_refl _)
          clear S6 B6 C7 C7'
          have hg2 := hb2.g1
          have hnn : (wrap64 (on + (L : Int)) != n) = false := by have := HN2.out; rw [show wrap64 (on + (L : Int)) = n by unfold wrap64; omega]; simp
          go_wp2_with fail
          refine ⟨⟨j + 1, n, oc, T2, on, la, rfl, by simp, by omega, by omega, by simp; omega, by omega, S7, B7, ⟨t1, t2⟩, t3, hla, by rw [HL.out]; exact hL2, by rw [HL.out]; exact HN2.out⟩, ?_⟩
          simp [intOf]; omega
        · obtain ⟨q, hq⟩ : ∃ q, stakeN 1 go T.length 1 on oc = q := ⟨_, rfl⟩
          rw [hq] at ht
          have HQ := Lib.hid hq
          clear hq
          go_wp2_with fail
          generalize wr.alloc _ = wx at D S0 B0 ⊢
          generalize wr.heap.size = x at D ⊢
          clear c0 c1 c2 c3 c4 D
          refine (stake_isno S0 hb HQ.out ht).mono ?_
          rintro r w2 ⟨rfl, C2⟩
          have S2 := S0.chB C2 (by simp) (by simp)
          have B2 := ChB.go B0 C2 (Nat.le_refl _)
          clear S0 B0 C2
          have hn2 := HN.out
          have r0 := roomN_lo win cr T.length
          have r1 := roomN_hi (win := win) (cr := cr) T.length (by omega)
          generalize hrm : roomN win cr T.length = rm at r0 r1
          have HRM := Lib.hid hrm
          clear hrm
          have hL2 := hlen
          generalize hL : T.length = L at hL2 hn2
          have HL := Lib.hid hL
          clear hL
          have HN2 := Lib.hid hn2
          clear hn2
          go_wp2_with fail
          refine (under_len (n := L) S2 hb HL.out).mono ?_
          rintro r w3 ⟨Au, cu, rfl, C3⟩
          have C3' : ChB w.heap.size [] w2 w3 := C3.toB0
          have S3 := S2.chB C3' (by simp) (by simp)
          have B3 := ChB.go B2 C3' (Nat.le_refl _)
          clear S2 B2 C3 C3'
          go_wp2_with fail
          refine (room_is (n := rm) S3 hb HRM.out).mono ?_
          rintro r w4 ⟨rfl, C4⟩
          have S4 := S3.chB C4 (by simp) (by simp)
          have B4 := ChB.go B3 C4 (Nat.le_refl _)
          clear S3 B3 C4
          go_wp2_with fail
          refine (room_is (n := rm) S4 hb HRM.out).mono ?_
          rintro r w5 ⟨rfl, C5⟩
          have S5 := S4.chB C5 (by simp) (by simp)
          have B5 := ChB.go B4 C5 (Nat.le_refl _)
          clear S4 B4 C5
          go_wp2_with fail
          refine (snext_is (n := n + 1) S5 hb (by have := HN2.out; unfold nextN; rw [HL.out]; omega)).mono ?_
          rintro r w6 ⟨rfl, C6⟩
          have S6 := S5.chB C6 (by simp) (by simp)
          have B6 := ChB.go B5 C6 (Nat.le_refl _)
          clear S5 B5 C6
          go_wp2_with fail
          refine (shad_is S6).mono ?_
          rintro r w' ⟨rfl, rfl⟩
          go_wp2_with fail
          refine (under_len (n := L) S6 hb HL.out).mono ?_
          rintro r w7 ⟨Av, cv, rfl, C7⟩
          have C7' : ChB w.heap.size [] w6 w7 := C7.toB0
          have S7 := S6.chB C7' (by simp) (by simp)
          have B7 := ChB.go B6 C7' (Nat.le_refl _)
          clear S6 B6 C7 C7'
          have hg2 := hb.g1
          have hnn : (wrap64 (go + (L : Int)) != n) = false := by have := HN2.out; rw [show wrap64 (go + (L : Int)) = n by unfold wrap64; omega]; simp
          go_wp2_with fail
          refine ⟨⟨j + 1, n, cr, T, go, la, rfl, by simp, by omega, by omega, by simp; omega, by omega, S7, B7, hc, hgo, hla, by rw [HL.out]; exact hL2, by rw [HL.out]; exact HN2.out⟩, ?_⟩
          simp [intOf]; omega
    · clear HN hn
      by_cases hjl2 : j < len
      · have h81 : ¬ (j : Int) < 80 := by omega
        clear h80
        go_wp2_with fail
        refine (fixed12 _).mono ?_
        rintro r w5 ⟨rfl, hb5⟩
        have B5 := B.trans (hb5.mono B.size)
        go_wp2
        go_ret
        exact ⟨rfl, B5⟩
      · clear h80
        go_wp2_with fail
        refine (fixed12 _).mono ?_
        rintro r w5 ⟨rfl, hb5⟩
        have B5 := B.trans (hb5.mono B.size)
        go_wp2
        go_ret
        exact ⟨rfl, B5⟩

theorem own : ownKnob Try.prog.godebug = none := by kernel_rfl
theorem laidOut : laidOutB Try.prog = true := by kernel_rfl

set_option maxRecDepth 100000 in
theorem lifted (os : Os) (started : os.Started) (H : Type) (enc : TypeId × Value → H) :
    ReturnsInHanded {} Try.checked os 9 .any (Rows.senderBoundsSpec.pre6 enc Try.prog Try.f9 Rows.senderBoundsRow.domain false) (Rows.senderBoundsSpec.post enc Try.prog Try.f9 false true false false) := by
  refine returnsInHanded_of_change (C := Try.checked) own started (by kernel_rfl) Try.func9
    (ChangeSpec.witness6 (enc := enc) (C := Try.checked) false ⟨#[], #[.int .i64 0, .slice none 0 0], []⟩ 8 (by kernel_rfl) (by kernel_rfl) (by kernel_rfl) (by kernel_rfl)) ?_
  intro W base args ds gs before hval0 hW hcnd _
  have hval : ∀ (j : Nat) t v, Try.f9.params[j]? = some t → args[j]? = some v → Value.okWide Try.prog W .any base t v := hval0
  have hW' := hW
  obtain ⟨p, q, hA0, hV, rfl, hfz, hnd⟩ := hW
  have hA : DataW.TrodAll enc Try.prog W 0 (fun _ => true) true Try.f9.params.toList args.toList ds p := hA0
  rw [Try.params9] at hA hval
  obtain ⟨v0, vs0, d0, ds0, p0, q0, hargs, rfl, rfl, h0, r0⟩ := trodAll_cons hA
  obtain ⟨v1, vs1, d1, ds1, p1, q1, rfl, rfl, rfl, h1, r1⟩ := trodAll_cons r0
  obtain ⟨rfl, rfl, rfl⟩ := trodAll_nil r1
  obtain rfl : args = #[v0, v1] := by cases args; simp_all
  obtain ⟨rfl, rfl⟩ := trodVars_none hV
  obtain ⟨a0, hv0, _, _, w0⟩ := open_int Try.underlying3 (hval 0 3 v0 rfl rfl) h0
  obtain ⟨A1, len1, cap1, f1, hv1, hm1, hO1⟩ := open_ops12 (hval 1 49 v1 rfl rfl) h1
  clear hA0 hval0
  have hlt0 : ∀ x ∈ p0, x.block < W.heap.size := fun x hx => hW'.lt x (by simp [hx])
  have hlt1 : ∀ x ∈ p1, x.block < W.heap.size := fun x hx => hW'.lt x (by simp [hx])
  have hstay : ∀ (W' : World), Below W.heap.size W W' → ∀ sp : Nat → Bool, (∀ p ∈ (p0 ++ (p1 ++ ([]))) ++ [], sp p.block = true) → DataW.TrodAll enc Try.prog W' 0 sp true [3, 49] [v0, v1] [d0, d1] (p0 ++ (p1 ++ ([]))) := fun W' hg sp hsp =>
    (trodAll_cons_mk (WideElems.Trod_stays laidOut (by kernel_rfl) (of_decide_eq_true (by kernel_rfl)) h0 (fun x hx => hg.same (hlt0 x hx)) (fun x hx => hsp x (by simp [hx]))) (trodAll_cons_mk (WideElems.Trod_stays laidOut (by kernel_rfl) (of_decide_eq_true (by kernel_rfl)) h1 (fun x hx => hg.same (hlt1 x hx)) (fun x hx => hsp x (by simp [hx]))) trodAll_mk0))
  have hwalk := walk a0 A1 len1 cap1 f1 W hm1 hO1
  rw [← hv0, ← hv1] at hwalk
  refine hwalk.mono fun e W' ⟨he, hg⟩ => ?_
  subst he
  exact ⟨_, rfl, post_of_below (pa := p0 ++ (p1 ++ ([]))) (pv := []) hW' (fun _ _ _ => (trodAll_cons_mk (shut_bool Try.underlying4 _) trodAll_mk0)) (fun sp hsp => hstay W' hg sp hsp) (fun _ _ => rfl) rfl
    hg (ok_one (by kernel_rfl) rfl (okWide_bool_mk Try.underlying4 _))⟩

theorem over : Rows.senderBoundsRow.holds Try.pinned (OpenSpec.ofChange Rows.senderBoundsSpec) :=
  OpenClaim.holds_of_wide 9 Try.f9 rfl rfl rfl rfl rfl rfl rfl ⟨rfl, rfl, rfl, rfl, rfl⟩ rfl rfl rfl rfl rfl (by kernel_rfl) Try.func9 (by kernel_rfl)
    (of_decide_eq_true (by kernel_rfl)) (by unfold Func.isWrapper; first | (rw [if_pos (by decide +kernel)]; kernel_rfl) | (rw [if_neg (by decide +kernel)]; exact ⟨rfl, rfl⟩))
    (fun os started H enc _ => lifted os started H enc)

theorem proved : Rows.SenderBoundsSaid :=
  over
end Go.Proofs.Ytejmcfgmopijkaa.senderBounds
#print axioms Go.Proofs.Ytejmcfgmopijkaa.senderBounds.proved
