/- What stands on both ways is never more than 64 things each; losing takes one away, doubling adds one, if there is room; neither brings anything. No conditions. -/
import Derived.Test.YtejmcfgmopijkaaRows
import Derived.WalkKit
import Derived.ProofKit
import Derived.OpenShut
import Derived.ShutString
import Derived.Carry
import Derived.Deep.RegionHeld3
import Derived.BigQuiet
import Derived.IntWalk
import Derived.Deep.Cut
import Derived.Deep.DeepCutAuto
import Derived.StillTailTactics
import Derived.Deep.RegionLaw
import Derived.Test.YtejmcfgmopijkaaPost
import Derived.Test.YtejmcfgmopijkaaNum
import Derived.Test.YtejmcfgmopijkaaLLaw
namespace Go.Proofs.Ytejmcfgmopijkaa.lineWays
open Go.ChangeShapes Go.WideShapes Go.ChangeAt Go.RowKit
set_option linter.unusedVariables false
set_option linter.unusedSimpArgs false

set_option maxHeartbeats 16000000 in
set_option maxRecDepth 100000 in
theorem walk (a0 a1 a2 : Int) (A : Option Addr) (len cap : Nat) (f : Nat → Op14) (w : World) (hl : len ≤ maxLen) (hA : Ops14 w w.heap.size A len f) :
    Calls Try.prog 17 #[.agg #[.int .i64 a0, .int .i64 a1, .int .i64 a2], .slice A len cap] w fun e w' => e = .returned (.bool true) ∧ Below w.heap.size w w' := by
  unfold maxLen at hl
  have e1 := and15 a0
  have e2 := and7 a1
  have e3 := and7 a2
  have f1 : 0 ≤ a0 % 16 := by omega
  have f2 : a0 % 16 ≤ 15 := by omega
  have f3 : 0 ≤ a1 % 8 := by omega
  have f4 : a1 % 8 ≤ 7 := by omega
  have f5 : 0 ≤ a2 % 8 := by omega
  have f6 : a2 % 8 ≤ 7 := by omega
  go_enter Try.func17, Try.ntmps17
  go_wp2_with fail
  have B0 : Below w.heap.size w (w.alloc (.cells #[.int .i64 a0, .int .i64 a1, .int .i64 a2] 78)) := bgo (Below.refl _ _) ((Ch.refl [] w).alloc _) (by simp)
  generalize w.alloc _ = w1 at B0 ⊢
  have m1 : 1 ≤ 1 + a0 % 16 ∧ 1 + a0 % 16 ≤ 16 := by omega
  have m2 : 1 ≤ 1 + a1 % 8 ∧ 1 + a1 % 8 ≤ 8 := by omega
  have m3 : 1 ≤ 1 + a2 % 8 ∧ 1 + a2 % 8 ≤ 64 := by omega
  generalize 1 + a0 % 16 = win at m1 ⊢
  generalize 1 + a1 % 8 = wt at m2 ⊢
  generalize 1 + a2 % 8 = room at m3 ⊢
  clear e1 e2 e3 f1 f2 f3 f4 f5 f6
  refine (new_q (B := w.heap.size) B0.size m1 ⟨m2.1, by omega⟩ m3).mono ?_
  rintro r w2 ⟨l, σ0, rfl, h2, hF, c2⟩
  have B2 := bgo B0 c2 (by simp)
  clear B0 c2
  go_wp2_with fail
  go_loopw [7] (fun i wr => ∃ (j : Nat) (In : List ByteArray) (σ : LSt), i = .int .i64 j ∧ j ≤ 150 ∧ j ≤ len ∧ LI wr w.heap.size l none σ ∧ Inv In σ ∧ In.length ≤ j ∧ Below w.heap.size w wr ∧ σ.now ≤ 1000 * j) (fun i _ => (150 - intOf i).toNat)
  case atStart => exact ⟨0, [], σ0, rfl, by omega, by omega, h2, hF.calm.inv, Nat.zero_le _, B2, by rw [hF.now]; omega⟩
  case round =>
    obtain ⟨j, In, σ, rfl, hj, hjl, h, hC, hIn, hB, hnow⟩ := hrel
    clear h2 B2 hF
    by_cases hlt : j < 150 ∧ j < len
    · obtain ⟨h150, hlen⟩ := hlt
      obtain ⟨b, off, rfl, hbb, c0, c1, c2, c3⟩ := (hA.below hB).at_ j hlen
      have hsz := hA.sz j hlen
      have hp := sty_play σ (f j)
      have hi' := inv_play hC (f j)
      have hpl := playIn_len In σ (f j)
      have gs : LG σ := hC.bnd (by omega) (by omega)
      have ob : σ.Out.length < 1000 := by have := hC.outlen; have := hC.hn; omega
      have oh : σ.had < 1000000 := by have := hC.hn; omega
      have hlw := lose_ways hC
      have htw := twice_ways hC
      have hcs := play_cases σ (f j)
      obtain ⟨q, τ, hpq⟩ : ∃ q τ, playS σ (f j) = (q, τ) := ⟨_, _, rfl⟩
      rw [hpq] at hp hi' hcs
      generalize playIn In σ (f j) = In2 at hi' hpl
      generalize f j = o at c0 c1 c2 c3 hsz hpq hcs
      have HPQ := Lib.hid hpq
      have na64 := hC.on
      have nb64 := hC.bk
      clear hpq hA hC
      obtain ⟨ok, os, on, oc⟩ := o
      simp only at c0 c1 c2 c3 hsz hcs
      have gt : LG τ := hi'.bnd (by omega) (by have := hp.n1; omega)
      have hway : Hid ((ok = 5 ∨ ok = 6) → τ.Out.length = σ.Out.length ∧ τ.T.length = σ.T.length ∧ (τ.On.length : Int) = (if oc then (σ.On.length : Int) else min 64 ((σ.On.length : Int) + (if q = 0 then (if ok = 5 then -1 else 1) else 0))) ∧ (τ.Bk.length : Int) = (if oc then min 64 ((σ.Bk.length : Int) + (if q = 0 then (if ok = 5 then -1 else 1) else 0)) else (σ.Bk.length : Int))) := Lib.hid (fun hk => by
        rcases hcs with ⟨h', e⟩ | ⟨h', e⟩ | ⟨h', e⟩ | ⟨h', e⟩ | ⟨h', e⟩ | ⟨h', e⟩ | ⟨h', e⟩
        · omega
        · omega
        · omega
        · omega
        · omega
        · have := hlw oc on
          rw [← e] at this
          obtain ⟨x1, x2, x3, x4⟩ := this
          rw [if_pos h']
          exact ⟨by rw [x1], by rw [x2], x3, x4⟩
        · have := htw oc on
          rw [← e] at this
          obtain ⟨x1, x2, x3, x4⟩ := this
          rw [if_neg h'.2.2.2.2.2]
          exact ⟨by rw [x1], by rw [x2], x3, x4⟩)
      clear hcs hlw htw
      have n64 : τ.On.length ≤ 64 := hi'.on
      have m64 : τ.Bk.length ≤ 64 := hi'.bk
      generalize hna : σ.On.length = na at hway na64
      generalize hnb : σ.Bk.length = nb at hway nb64
      generalize hnc : τ.On.length = nc at hway n64
      generalize hnd : τ.Bk.length = nd at hway m64
      generalize hno : σ.Out.length = no at hway ob
      generalize hnu : σ.T.length = nu at hway
      have N1 := Lib.hid hna
      have N2 := Lib.hid hnb
      have N3 := Lib.hid hnc
      have N4 := Lib.hid hnd
      have N5 := Lib.hid hno
      have N6 := Lib.hid hnu
      clear hna hnb hnc hnd hno hnu
      have hj60 : (j : Int) < 150 := by omega
      have hjn : (j : Int) < (len : Int) := by omega
      have nc1 : (nc : Int) ≤ 64 := by omega
      have na1 : (na : Int) ≤ 64 := by omega
      have nb1 : (nb : Int) ≤ 64 := by omega
      have nd1 : (nd : Int) ≤ 64 := by omega
      go_wp2_with fail
      have ca := (Ch.refl [] wr).alloc (.cells #[.int .i64 ok, .string os, .int .i64 on, .bool oc] 85)
      have D4 := Blk.new wr 85 #[.int .i64 ok, .string os, .int .i64 on, .bool oc]
      have h4 := h.ch0 ca
      have B4 := bgo hB ca (by simp)
      clear h hB ca c0 c1 c2 c3
      generalize wr.alloc _ = w4 at h4 B4 D4 ⊢
      generalize wr.heap.size = ob4 at D4 ⊢
      refine (ways_p h4 N1.out N2.out).mono ?_
      rintro r w5 ⟨rfl, h5, p5⟩
      have D5 := D4.chP p5 (.inr (.inr (by simp [lts])))
      have B5 := ChB.go B4 p5.toB (Nat.le_refl _)
      clear h4 B4 D4 p5
      go_wp2_with fail
      refine (out_p h5 gs rfl N5.out).mono ?_
      rintro r w6 ⟨Ao, co, rfl, _, _, h6, p6⟩
      have D6 := D5.chP p6 (.inr (.inr (by simp [lts])))
      have B6 := ChB.go B5 p6.toB (Nat.le_refl _)
      clear h5 B5 D5 p6
      go_wp2_with fail
      refine (under_p h6 gs N6.out).mono ?_
      rintro r w7 ⟨rfl, h7, p7⟩
      have D7 := D6.chP p7 (.inr (.inr (by simp [lts])))
      have B7 := ChB.go B6 p7.toB (Nat.le_refl _)
      clear h6 B6 D6 p7
      have d0 := D7.cell 0
      have d1 := D7.cell 1
      have d2 := D7.cell 2
      have d3 := D7.cell 3
      simp at d0 d1 d2 d3
      go_wp2_with fail
      clear d0 d1 d2 d3
      refine (play_p ⟨ok, os, on, oc⟩ h7 gs B7.size hsz (by rw [N5.out]; exact ob) oh HPQ.out).mono ?_
      rintro r w8 ⟨rfl, h8, p8⟩
      have D8 := D7.chP p8 (.inr (.inr (by simp [lts])))
      have B8 := ChB.go B7 p8.toB (Nat.le_refl _)
      clear h7 B7 D7 p8 gs
      have hq : (q = 0 ∧ ok ≠ 5 ∧ ok ≠ 6) ∨ (q ≠ 0 ∧ ok ≠ 5 ∧ ok ≠ 6) ∨ ok = 5 ∨ ok = 6 := by omega
      go_wp2_with fail
      refine (ways_p h8 N3.out N4.out).mono ?_
      rintro r w9 ⟨rfl, h9, p9⟩
      have D9 := D8.chP p9 (.inr (.inr (by simp [lts])))
      have B9 := ChB.go B8 p9.toB (Nat.le_refl _)
      clear h8 B8 D8 p9
      have d0 := D9.cell 0
      have d3 := D9.cell 3
      simp at d0 d3
      by_cases hk : ok = 5 ∨ ok = 6
      · obtain ⟨x1, x2, x3, x4⟩ := hway.out hk
        have M5 : Hid (τ.Out.length = no) := Lib.hid x1
        have M6 : Hid (τ.T.length = nu) := Lib.hid x2
        have X3 := Lib.hid x3
        have X4 := Lib.hid x4
        clear x1 x2 x3 x4 hway hq
        have hq0 : q = 0 ∨ q ≠ 0 := by omega
        rcases hk with rfl | rfl <;> rcases hq0 with rfl | hq0 <;> cases oc
        · have xa := X3.out
          rw [if_neg (by decide), if_pos rfl, if_pos rfl] at xa
          have xb := X4.out
          rw [if_neg (by decide)] at xb
          have F : (nb : Int) = (nd : Int) := by omega
          have E : (na : Int) + -1 = (nc : Int) := by omega
          have E2 : (nc : Int) < 64 := by omega
          clear xa xb
          go_wp2_with fail
          refine (out_p (O := τ.Out) h9 gt rfl M5.out).mono ?_
          rintro r w10 ⟨Ap, cp, rfl, _, _, h10, p10⟩
          have D10 := D9.chP p10 (.inr (.inr (by simp [lts])))
          have B10 := ChB.go B9 p10.toB (Nat.le_refl _)
          clear h9 B9 D9 p10 d0 d3
          go_wp2_with fail
          refine (under_p h10 gt M6.out).mono ?_
          rintro r w11 ⟨rfl, h11, p11⟩
          have D11 := D10.chP p11 (.inr (.inr (by simp [lts])))
          have B11 := ChB.go B10 p11.toB (Nat.le_refl _)
          clear h10 B10 D10 p11
          have d0 := D11.cell 0
          have d3 := D11.cell 3
          simp at d0 d3
          go_wp2_with fail
          go_roundw
          case rel => exact ⟨j + 1, In2, τ, by simp, by omega, by omega, h11, hi', by omega, B11, by have := hp.n1; omega⟩
          case measure => simp [intOf]; omega
        · have xa := X4.out
          rw [if_pos rfl, if_pos rfl, if_pos rfl] at xa
          have xb := X3.out
          rw [if_pos rfl] at xb
          have F : (na : Int) = (nc : Int) := by omega
          have E : (nb : Int) + -1 = (nd : Int) := by omega
          have E2 : (nd : Int) < 64 := by omega
          clear xa xb
          go_wp2_with fail
          refine (out_p (O := τ.Out) h9 gt rfl M5.out).mono ?_
          rintro r w10 ⟨Ap, cp, rfl, _, _, h10, p10⟩
          have D10 := D9.chP p10 (.inr (.inr (by simp [lts])))
          have B10 := ChB.go B9 p10.toB (Nat.le_refl _)
          clear h9 B9 D9 p10 d0 d3
          go_wp2_with fail
          refine (under_p h10 gt M6.out).mono ?_
          rintro r w11 ⟨rfl, h11, p11⟩
          have D11 := D10.chP p11 (.inr (.inr (by simp [lts])))
          have B11 := ChB.go B10 p11.toB (Nat.le_refl _)
          clear h10 B10 D10 p11
          have d0 := D11.cell 0
          have d3 := D11.cell 3
          simp at d0 d3
          go_wp2_with fail
          go_roundw
          case rel => exact ⟨j + 1, In2, τ, by simp, by omega, by omega, h11, hi', by omega, B11, by have := hp.n1; omega⟩
          case measure => simp [intOf]; omega
        · have xa := X3.out
          rw [if_neg (by decide), if_neg hq0] at xa
          have xb := X4.out
          rw [if_neg (by decide)] at xb
          have F : (nb : Int) = (nd : Int) := by omega
          have qe : (q == 0) = false := by simp [hq0]
          by_cases hs : (na : Int) < 64
          · have E : (na : Int) = (nc : Int) := by omega
            have E2 : (nc : Int) < 64 := by omega
            clear xa xb hs
            go_wp2_with fail
            refine (out_p (O := τ.Out) h9 gt rfl M5.out).mono ?_
            rintro r w10 ⟨Ap, cp, rfl, _, _, h10, p10⟩
            have D10 := D9.chP p10 (.inr (.inr (by simp [lts])))
            have B10 := ChB.go B9 p10.toB (Nat.le_refl _)
            clear h9 B9 D9 p10 d0 d3
            go_wp2_with fail
            refine (under_p h10 gt M6.out).mono ?_
            rintro r w11 ⟨rfl, h11, p11⟩
            have D11 := D10.chP p11 (.inr (.inr (by simp [lts])))
            have B11 := ChB.go B10 p11.toB (Nat.le_refl _)
            clear h10 B10 D10 p11
            have d0 := D11.cell 0
            have d3 := D11.cell 3
            simp at d0 d3
            go_wp2_with fail
            go_roundw
            case rel => exact ⟨j + 1, In2, τ, by simp, by omega, by omega, h11, hi', by omega, B11, by have := hp.n1; omega⟩
            case measure => simp [intOf]; omega
          · have E : (nc : Int) = 64 := by omega
            have E3 : (na : Int) = 64 := by omega
            clear xa xb hs
            go_wp2_with fail
            refine (out_p (O := τ.Out) h9 gt rfl M5.out).mono ?_
            rintro r w10 ⟨Ap, cp, rfl, _, _, h10, p10⟩
            have D10 := D9.chP p10 (.inr (.inr (by simp [lts])))
            have B10 := ChB.go B9 p10.toB (Nat.le_refl _)
            clear h9 B9 D9 p10 d0 d3
            go_wp2_with fail
            refine (under_p h10 gt M6.out).mono ?_
            rintro r w11 ⟨rfl, h11, p11⟩
            have D11 := D10.chP p11 (.inr (.inr (by simp [lts])))
            have B11 := ChB.go B10 p11.toB (Nat.le_refl _)
            clear h10 B10 D10 p11
            have d0 := D11.cell 0
            have d3 := D11.cell 3
            simp at d0 d3
            go_wp2_with fail
            go_roundw
            case rel => exact ⟨j + 1, In2, τ, by simp, by omega, by omega, h11, hi', by omega, B11, by have := hp.n1; omega⟩
            case measure => simp [intOf]; omega
        · have xa := X4.out
          rw [if_pos rfl, if_neg hq0] at xa
          have xb := X3.out
          rw [if_pos rfl] at xb
          have F : (na : Int) = (nc : Int) := by omega
          have qe : (q == 0) = false := by simp [hq0]
          by_cases hs : (nb : Int) < 64
          · have E : (nb : Int) = (nd : Int) := by omega
            have E2 : (nd : Int) < 64 := by omega
            clear xa xb hs
            go_wp2_with fail
            refine (out_p (O := τ.Out) h9 gt rfl M5.out).mono ?_
            rintro r w10 ⟨Ap, cp, rfl, _, _, h10, p10⟩
            have D10 := D9.chP p10 (.inr (.inr (by simp [lts])))
            have B10 := ChB.go B9 p10.toB (Nat.le_refl _)
            clear h9 B9 D9 p10 d0 d3
            go_wp2_with fail
            refine (under_p h10 gt M6.out).mono ?_
            rintro r w11 ⟨rfl, h11, p11⟩
            have D11 := D10.chP p11 (.inr (.inr (by simp [lts])))
            have B11 := ChB.go B10 p11.toB (Nat.le_refl _)
            clear h10 B10 D10 p11
            have d0 := D11.cell 0
            have d3 := D11.cell 3
            simp at d0 d3
            go_wp2_with fail
            go_roundw
            case rel => exact ⟨j + 1, In2, τ, by simp, by omega, by omega, h11, hi', by omega, B11, by have := hp.n1; omega⟩
            case measure => simp [intOf]; omega
          · have E : (nd : Int) = 64 := by omega
            have E3 : (nb : Int) = 64 := by omega
            clear xa xb hs
            go_wp2_with fail
            refine (out_p (O := τ.Out) h9 gt rfl M5.out).mono ?_
            rintro r w10 ⟨Ap, cp, rfl, _, _, h10, p10⟩
            have D10 := D9.chP p10 (.inr (.inr (by simp [lts])))
            have B10 := ChB.go B9 p10.toB (Nat.le_refl _)
            clear h9 B9 D9 p10 d0 d3
            go_wp2_with fail
            refine (under_p h10 gt M6.out).mono ?_
            rintro r w11 ⟨rfl, h11, p11⟩
            have D11 := D10.chP p11 (.inr (.inr (by simp [lts])))
            have B11 := ChB.go B10 p11.toB (Nat.le_refl _)
            clear h10 B10 D10 p11
            have d0 := D11.cell 0
            have d3 := D11.cell 3
            simp at d0 d3
            go_wp2_with fail
            go_roundw
            case rel => exact ⟨j + 1, In2, τ, by simp, by omega, by omega, h11, hi', by omega, B11, by have := hp.n1; omega⟩
            case measure => simp [intOf]; omega
        · have xa := X3.out
          rw [if_neg (by decide), if_pos rfl, if_neg (by decide)] at xa
          have xb := X4.out
          rw [if_neg (by decide)] at xb
          have F : (nb : Int) = (nd : Int) := by omega
          by_cases hs : (na : Int) + 1 < 64
          · have E : (na : Int) + 1 = (nc : Int) := by omega
            have E2 : (nc : Int) < 64 := by omega
            clear xa xb hs
            go_wp2_with fail
            refine (out_p (O := τ.Out) h9 gt rfl M5.out).mono ?_
            rintro r w10 ⟨Ap, cp, rfl, _, _, h10, p10⟩
            have D10 := D9.chP p10 (.inr (.inr (by simp [lts])))
            have B10 := ChB.go B9 p10.toB (Nat.le_refl _)
            clear h9 B9 D9 p10 d0 d3
            go_wp2_with fail
            refine (under_p h10 gt M6.out).mono ?_
            rintro r w11 ⟨rfl, h11, p11⟩
            have D11 := D10.chP p11 (.inr (.inr (by simp [lts])))
            have B11 := ChB.go B10 p11.toB (Nat.le_refl _)
            clear h10 B10 D10 p11
            have d0 := D11.cell 0
            have d3 := D11.cell 3
            simp at d0 d3
            go_wp2_with fail
            go_roundw
            case rel => exact ⟨j + 1, In2, τ, by simp, by omega, by omega, h11, hi', by omega, B11, by have := hp.n1; omega⟩
            case measure => simp [intOf]; omega
          · have E : (nc : Int) = 64 := by omega
            clear xa xb
            go_wp2_with fail
            refine (out_p (O := τ.Out) h9 gt rfl M5.out).mono ?_
            rintro r w10 ⟨Ap, cp, rfl, _, _, h10, p10⟩
            have D10 := D9.chP p10 (.inr (.inr (by simp [lts])))
            have B10 := ChB.go B9 p10.toB (Nat.le_refl _)
            clear h9 B9 D9 p10 d0 d3
            go_wp2_with fail
            refine (under_p h10 gt M6.out).mono ?_
            rintro r w11 ⟨rfl, h11, p11⟩
            have D11 := D10.chP p11 (.inr (.inr (by simp [lts])))
            have B11 := ChB.go B10 p11.toB (Nat.le_refl _)
            clear h10 B10 D10 p11
            have d0 := D11.cell 0
            have d3 := D11.cell 3
            simp at d0 d3
            go_wp2_with fail
            go_roundw
            case rel => exact ⟨j + 1, In2, τ, by simp, by omega, by omega, h11, hi', by omega, B11, by have := hp.n1; omega⟩
            case measure => simp [intOf]; omega
        · have xa := X4.out
          rw [if_pos rfl, if_pos rfl, if_neg (by decide)] at xa
          have xb := X3.out
          rw [if_pos rfl] at xb
          have F : (na : Int) = (nc : Int) := by omega
          by_cases hs : (nb : Int) + 1 < 64
          · have E : (nb : Int) + 1 = (nd : Int) := by omega
            have E2 : (nd : Int) < 64 := by omega
            clear xa xb hs
            go_wp2_with fail
            refine (out_p (O := τ.Out) h9 gt rfl M5.out).mono ?_
            rintro r w10 ⟨Ap, cp, rfl, _, _, h10, p10⟩
            have D10 := D9.chP p10 (.inr (.inr (by simp [lts])))
            have B10 := ChB.go B9 p10.toB (Nat.le_refl _)
            clear h9 B9 D9 p10 d0 d3
            go_wp2_with fail
            refine (under_p h10 gt M6.out).mono ?_
            rintro r w11 ⟨rfl, h11, p11⟩
            have D11 := D10.chP p11 (.inr (.inr (by simp [lts])))
            have B11 := ChB.go B10 p11.toB (Nat.le_refl _)
            clear h10 B10 D10 p11
            have d0 := D11.cell 0
            have d3 := D11.cell 3
            simp at d0 d3
            go_wp2_with fail
            go_roundw
            case rel => exact ⟨j + 1, In2, τ, by simp, by omega, by omega, h11, hi', by omega, B11, by have := hp.n1; omega⟩
            case measure => simp [intOf]; omega
          · have E : (nd : Int) = 64 := by omega
            clear xa xb
            go_wp2_with fail
            refine (out_p (O := τ.Out) h9 gt rfl M5.out).mono ?_
            rintro r w10 ⟨Ap, cp, rfl, _, _, h10, p10⟩
            have D10 := D9.chP p10 (.inr (.inr (by simp [lts])))
            have B10 := ChB.go B9 p10.toB (Nat.le_refl _)
            clear h9 B9 D9 p10 d0 d3
            go_wp2_with fail
            refine (under_p h10 gt M6.out).mono ?_
            rintro r w11 ⟨rfl, h11, p11⟩
            have D11 := D10.chP p11 (.inr (.inr (by simp [lts])))
            have B11 := ChB.go B10 p11.toB (Nat.le_refl _)
            clear h10 B10 D10 p11
            have d0 := D11.cell 0
            have d3 := D11.cell 3
            simp at d0 d3
            go_wp2_with fail
            go_roundw
            case rel => exact ⟨j + 1, In2, τ, by simp, by omega, by omega, h11, hi', by omega, B11, by have := hp.n1; omega⟩
            case measure => simp [intOf]; omega
        · have xa := X3.out
          rw [if_neg (by decide), if_neg hq0] at xa
          have xb := X4.out
          rw [if_neg (by decide)] at xb
          have F : (nb : Int) = (nd : Int) := by omega
          have qe : (q == 0) = false := by simp [hq0]
          by_cases hs : (na : Int) < 64
          · have E : (na : Int) = (nc : Int) := by omega
            have E2 : (nc : Int) < 64 := by omega
            clear xa xb hs
            go_wp2_with fail
            refine (out_p (O := τ.Out) h9 gt rfl M5.out).mono ?_
            rintro r w10 ⟨Ap, cp, rfl, _, _, h10, p10⟩
            have D10 := D9.chP p10 (.inr (.inr (by simp [lts])))
            have B10 := ChB.go B9 p10.toB (Nat.le_refl _)
            clear h9 B9 D9 p10 d0 d3
            go_wp2_with fail
            refine (under_p h10 gt M6.out).mono ?_
            rintro r w11 ⟨rfl, h11, p11⟩
            have D11 := D10.chP p11 (.inr (.inr (by simp [lts])))
            have B11 := ChB.go B10 p11.toB (Nat.le_refl _)
            clear h10 B10 D10 p11
            have d0 := D11.cell 0
            have d3 := D11.cell 3
            simp at d0 d3
            go_wp2_with fail
            go_roundw
            case rel => exact ⟨j + 1, In2, τ, by simp, by omega, by omega, h11, hi', by omega, B11, by have := hp.n1; omega⟩
            case measure => simp [intOf]; omega
          · have E : (nc : Int) = 64 := by omega
            have E3 : (na : Int) = 64 := by omega
            clear xa xb hs
            go_wp2_with fail
            refine (out_p (O := τ.Out) h9 gt rfl M5.out).mono ?_
            rintro r w10 ⟨Ap, cp, rfl, _, _, h10, p10⟩
            have D10 := D9.chP p10 (.inr (.inr (by simp [lts])))
            have B10 := ChB.go B9 p10.toB (Nat.le_refl _)
            clear h9 B9 D9 p10 d0 d3
            go_wp2_with fail
            refine (under_p h10 gt M6.out).mono ?_
            rintro r w11 ⟨rfl, h11, p11⟩
            have D11 := D10.chP p11 (.inr (.inr (by simp [lts])))
            have B11 := ChB.go B10 p11.toB (Nat.le_refl _)
            clear h10 B10 D10 p11
            have d0 := D11.cell 0
            have d3 := D11.cell 3
            simp at d0 d3
            go_wp2_with fail
            go_roundw
            case rel => exact ⟨j + 1, In2, τ, by simp, by omega, by omega, h11, hi', by omega, B11, by have := hp.n1; omega⟩
            case measure => simp [intOf]; omega
        · have xa := X4.out
          rw [if_pos rfl, if_neg hq0] at xa
          have xb := X3.out
          rw [if_pos rfl] at xb
          have F : (na : Int) = (nc : Int) := by omega
          have qe : (q == 0) = false := by simp [hq0]
          by_cases hs : (nb : Int) < 64
          · have E : (nb : Int) = (nd : Int) := by omega
            have E2 : (nd : Int) < 64 := by omega
            clear xa xb hs
            go_wp2_with fail
            refine (out_p (O := τ.Out) h9 gt rfl M5.out).mono ?_
            rintro r w10 ⟨Ap, cp, rfl, _, _, h10, p10⟩
            have D10 := D9.chP p10 (.inr (.inr (by simp [lts])))
            have B10 := ChB.go B9 p10.toB (Nat.le_refl _)
            clear h9 B9 D9 p10 d0 d3
            go_wp2_with fail
            refine (under_p h10 gt M6.out).mono ?_
            rintro r w11 ⟨rfl, h11, p11⟩
            have D11 := D10.chP p11 (.inr (.inr (by simp [lts])))
            have B11 := ChB.go B10 p11.toB (Nat.le_refl _)
            clear h10 B10 D10 p11
            have d0 := D11.cell 0
            have d3 := D11.cell 3
            simp at d0 d3
            go_wp2_with fail
            go_roundw
            case rel => exact ⟨j + 1, In2, τ, by simp, by omega, by omega, h11, hi', by omega, B11, by have := hp.n1; omega⟩
            case measure => simp [intOf]; omega
          · have E : (nd : Int) = 64 := by omega
            have E3 : (nb : Int) = 64 := by omega
            clear xa xb hs
            go_wp2_with fail
            refine (out_p (O := τ.Out) h9 gt rfl M5.out).mono ?_
            rintro r w10 ⟨Ap, cp, rfl, _, _, h10, p10⟩
            have D10 := D9.chP p10 (.inr (.inr (by simp [lts])))
            have B10 := ChB.go B9 p10.toB (Nat.le_refl _)
            clear h9 B9 D9 p10 d0 d3
            go_wp2_with fail
            refine (under_p h10 gt M6.out).mono ?_
            rintro r w11 ⟨rfl, h11, p11⟩
            have D11 := D10.chP p11 (.inr (.inr (by simp [lts])))
            have B11 := ChB.go B10 p11.toB (Nat.le_refl _)
            clear h10 B10 D10 p11
            have d0 := D11.cell 0
            have d3 := D11.cell 3
            simp at d0 d3
            go_wp2_with fail
            go_roundw
            case rel => exact ⟨j + 1, In2, τ, by simp, by omega, by omega, h11, hi', by omega, B11, by have := hp.n1; omega⟩
            case measure => simp [intOf]; omega
      · have k5 : (ok == 5) = false := by simp; omega
        have k6 : (ok == 6) = false := by simp; omega
        clear hk hway hq
        go_wp2_with fail
        go_roundw
        case rel => exact ⟨j + 1, In2, τ, by simp, by omega, by omega, h9, hi', by omega, B9, by have := hp.n1; omega⟩
        case measure => simp [intOf]; omega
    · have hnl : ¬ ((j : Int) < (len : Int)) ∨ ((j : Int) < (len : Int) ∧ ¬ ((j : Int) < 150)) := by omega
      clear hC hA hlt h
      rcases hnl with hnl | ⟨hnl, hnk⟩
      all_goals
        go_wp2_with fail
        refine (fixed14 _).mono ?_
        rintro r w9 ⟨rfl, hb9⟩
        have B9 := hB.trans (hb9.mono hB.size)
        go_wp2_with fail
        go_ret
        exact ⟨rfl, B9⟩

theorem own : ownKnob Try.prog.godebug = none := by kernel_rfl
theorem laidOut : laidOutB Try.prog = true := by kernel_rfl

set_option maxRecDepth 100000 in
theorem lifted (os : Os) (started : os.Started) (H : Type) (enc : TypeId × Value → H) :
    ReturnsInHanded {} Try.checked os 17 .any (Rows.lineWaysSpec.pre6 enc Try.prog Try.f17 Rows.lineWaysRow.domain false) (Rows.lineWaysSpec.post enc Try.prog Try.f17 false true false false) := by
  refine returnsInHanded_of_change (C := Try.checked) own started (by kernel_rfl) Try.func17
    (ChangeSpec.witness6 (enc := enc) (C := Try.checked) false ⟨#[], #[.agg #[.int .i64 0, .int .i64 0, .int .i64 0], .slice none 0 0], []⟩ 8 (by kernel_rfl) (by kernel_rfl) (by kernel_rfl) (by kernel_rfl)) ?_
  intro W base args ds gs before hval0 hW hcnd _
  have hval : ∀ (j : Nat) t v, Try.f17.params[j]? = some t → args[j]? = some v → Value.okWide Try.prog W .any base t v := hval0
  have hW' := hW
  obtain ⟨p, q, hA0, hV, rfl, hfz, hnd⟩ := hW
  have hA : DataW.TrodAll enc Try.prog W 0 (fun _ => true) true Try.f17.params.toList args.toList ds p := hA0
  rw [Try.params17] at hA hval
  obtain ⟨v0, vs0, d0, ds0, p0, q0, hargs, rfl, rfl, h0, r0⟩ := trodAll_cons hA
  obtain ⟨v1, vs1, d1, ds1, p1, q1, rfl, rfl, rfl, h1, r1⟩ := trodAll_cons r0
  obtain ⟨rfl, rfl, rfl⟩ := trodAll_nil r1
  obtain rfl : args = #[v0, v1] := by cases args; simp_all
  obtain ⟨rfl, rfl⟩ := trodVars_none hV
  obtain ⟨a0, a1, a2, hv0⟩ := open_three (hval 0 78 v0 rfl rfl) h0
  obtain ⟨A1, len1, cap1, f1, hv1, hm1, hO1⟩ := open_ops14 (hval 1 79 v1 rfl rfl) h1
  clear hA0 hval0
  have hlt0 : ∀ x ∈ p0, x.block < W.heap.size := fun x hx => hW'.lt x (by simp [hx])
  have hlt1 : ∀ x ∈ p1, x.block < W.heap.size := fun x hx => hW'.lt x (by simp [hx])
  have hstay : ∀ (W' : World), Below W.heap.size W W' → ∀ sp : Nat → Bool, (∀ p ∈ (p0 ++ (p1 ++ ([]))) ++ [], sp p.block = true) → DataW.TrodAll enc Try.prog W' 0 sp true [78, 79] [v0, v1] [d0, d1] (p0 ++ (p1 ++ ([]))) := fun W' hg sp hsp =>
    (trodAll_cons_mk (WideElems.Trod_stays laidOut (by kernel_rfl) (of_decide_eq_true (by kernel_rfl)) h0 (fun x hx => hg.same (hlt0 x hx)) (fun x hx => hsp x (by simp [hx]))) (trodAll_cons_mk (WideElems.Trod_stays laidOut (by kernel_rfl) (of_decide_eq_true (by kernel_rfl)) h1 (fun x hx => hg.same (hlt1 x hx)) (fun x hx => hsp x (by simp [hx]))) trodAll_mk0))
  have hwalk := walk a0 a1 a2 A1 len1 cap1 f1 W hm1 hO1
  rw [← hv0, ← hv1] at hwalk
  refine hwalk.mono fun e W' ⟨he, hg⟩ => ?_
  subst he
  exact ⟨_, rfl, post_of_below (pa := p0 ++ (p1 ++ ([]))) (pv := []) hW' (fun _ _ _ => (trodAll_cons_mk (shut_bool Try.underlying4 _) trodAll_mk0)) (fun sp hsp => hstay W' hg sp hsp) (fun _ _ => rfl) rfl
    hg (ok_one (by kernel_rfl) rfl (okWide_bool_mk Try.underlying4 _))⟩

theorem over : Rows.lineWaysRow.holds Try.pinned (OpenSpec.ofChange Rows.lineWaysSpec) :=
  OpenClaim.holds_of_wide 17 Try.f17 rfl rfl rfl rfl rfl rfl rfl ⟨rfl, rfl, rfl, rfl, rfl⟩ rfl rfl rfl rfl rfl (by kernel_rfl) Try.func17 (by kernel_rfl)
    (of_decide_eq_true (by kernel_rfl)) (by unfold Func.isWrapper; first | (rw [if_pos (by decide +kernel)]; kernel_rfl) | (rw [if_neg (by decide +kernel)]; exact ⟨rfl, rfl⟩))
    (fun os started H enc _ => lifted os started H enc)

theorem proved : Rows.LineWaysSaid :=
  over
end Go.Proofs.Ytejmcfgmopijkaa.lineWays
#print axioms Go.Proofs.Ytejmcfgmopijkaa.lineWays.proved
