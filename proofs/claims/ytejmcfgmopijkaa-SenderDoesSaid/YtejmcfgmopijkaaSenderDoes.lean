/- Whatever is pushed, due and told, in any order, at any times: each answer, the room, and what is under way, is as the document says. No conditions. -/
import Derived.Test.YtejmcfgmopijkaaRows
import Derived.WalkKit
import Derived.ProofKit
import Derived.OpenShut
import Derived.ShutString
import Derived.Carry
import Derived.Deep.RegionHeld3
import Derived.Test.YtejmcfgmopijkaaPost
import Derived.Test.YtejmcfgmopijkaaSLaw
import Derived.Test.YtejmcfgmopijkaaOps12
import Derived.Test.YtejmcfgmopijkaaNum
import Derived.BigQuiet
import Derived.IntWalk
import Derived.Deep.Cut
import Derived.Deep.DeepCutAuto
import Derived.Test.YtejmcfgmopijkaaStrs
import Derived.Test.YtejmcfgmopijkaaBth
namespace Go.Proofs.Ytejmcfgmopijkaa.senderDoes
open Go.ChangeShapes Go.WideShapes Go.ChangeAt Go.RowKit
set_option linter.unusedVariables false
set_option linter.unusedSimpArgs false

set_option maxHeartbeats 16000000 in
set_option maxRecDepth 100000 in
theorem walk (a0 a1 : Int) (A : Option Addr) (len cap : Nat) (f : Nat → Op12) (w : World) (hl : len ≤ maxLen) (hA : Ops12 w w.heap.size A len f) :
    Calls Try.prog 7 #[.int .i64 a0, .int .i64 a1, .slice A len cap] w fun e w' => e = .returned (.bool true) ∧ Below w.heap.size w w' := by
  unfold maxLen at hl
  have e1 := and15 a0
  have e4 := and7 a1
  have e2 : 0 ≤ a0 % 16 := by omega
  have e3 : a0 % 16 ≤ 15 := by omega
  have e5 : 0 ≤ a1 % 8 := by omega
  have e6 : a1 % 8 ≤ 7 := by omega
  go_enter Try.func7, Try.ntmps7
  go_wp2_with fail
  have hw1 : 1 ≤ 1 + a0 % 16 := by omega
  have hw2 : 1 + a0 % 16 ≤ 16 := by omega
  have t1 : 1 ≤ 1 + a1 % 8 := by omega
  have t2 : 1 + a1 % 8 ≤ 8 := by omega
  generalize 1 + a0 % 16 = win at hw1 hw2 ⊢
  generalize 1 + a1 % 8 = wt at t1 t2 ⊢
  clear e1 e2 e3 e4 e5 e6
  refine (snew_ex (B := w.heap.size) (w := w) (Nat.le_refl _) (by omega) ⟨hw1, hw2⟩ (by omega)).mono ?_
  rintro r wa ⟨g, rfl, S1, C1⟩
  have B1 := bgo (Below.refl _ _) C1 (by simp)
  clear C1
  go_wp2_with fail
  refine (rnew_yes 3 win wt wa (by omega) ⟨hw1, hw2⟩ (by omega)).mono ?_
  rintro r wb ⟨rfl, D1, C1⟩
  have z1 := B1.size
  have CC : ChB w.heap.size [] wa wb := C1.toB0
  have S2 := S1.chB CC (by simp) (by simp)
  have B2 := ChB.go B1 CC (Nat.le_refl _)
  have R2 : SndR wb w.heap.size wa.heap.size 3 win wt win [] 0 0 := ⟨_, _, ⟨z1, D1, World.ownsRow_nil _ _ _ _, World.ownsRow_nil _ _ _ _⟩⟩
  clear S1 B1 D1 C1 CC z1
  go_wp2_with fail
  generalize wa.heap.size = h at R2 ⊢
  go_loopw [13] (fun i wr => ∃ (j n : Nat) (X : List Txt) (a : Nat) (la cr : Int), i = .int .i64 j ∧ j ≤ 80 ∧ j ≤ len ∧ SndI wr w.heap.size g 3 win wt cr (X.drop n) (n : Int) la ∧ SndR wr w.heap.size h 3 win wt cr X n la ∧ Below w.heap.size w wr ∧ Hid (SufT (X.drop n) a) ∧ a + n ≤ X.length ∧ X.length ≤ j ∧ (0 ≤ cr ∧ cr ≤ 64) ∧ (0 ≤ la ∧ la ≤ 1099511627775)) (fun i _ => (80 - intOf i).toNat)
  case atStart => exact ⟨0, 0, [], 0, 0, win, rfl, by omega, by omega, S2, R2, B2, Lib.hid SufT.nil, by simp, by simp, by omega, by omega⟩
  case round =>
    obtain ⟨j, n, X, a, la, cr, rfl, hj, hjl, S, R, B, HS, ha, hXj, hc, hla⟩ := hrel
    clear S2 B2 R2
    by_cases h80 : j < 80 ∧ j < len
    · obtain ⟨h80, hlt⟩ := h80
      obtain ⟨b, off, rfl, hbb, c0, c1, c2, c3, c4⟩ := (hA.below B).at_ j hlt
      have hsz := hA.sz j hlt
      generalize f j = o at c0 c1 c2 c3 c4 hsz
      obtain ⟨ok, os, oe, on, oc⟩ := o
      simp only at c0 c1 c2 c3 c4 hsz
      clear hA
      have D := Blk.new wr 57 #[.int .i64 ok, .string os, .int .i64 oe, .int .i64 on, .int .i64 oc]
      have CC : ChB w.heap.size [] wr (wr.alloc (.cells #[.int .i64 ok, .string os, .int .i64 oe, .int .i64 on, .int .i64 oc] 57)) := ((Ch.refl [] wr).alloc _).toB0
      have S0 := S.chB CC (by simp) (by simp)
      have R0 := R.chB CC (by simp) (by simp) (by simp)
      have B0 := ChB.go B CC (Nat.le_refl _)
      clear S R B CC
      go_upto_region 10 with (fail)
      generalize wr.alloc _ = wx at D S0 B0 R0 ⊢
      generalize wr.heap.size = x at D ⊢
      have d0 := D.cell 0
      simp at d0
      clear c0 c1 c2 c3 c4
      go_cut [72] (fun v wc => v = .int .i64 ok ∧ wc = wx)
      case first =>
        go_wp2_with fail
        go_meet
        case rel => exact ⟨rfl, rfl⟩
      case rest =>
        obtain ⟨rfl, rfl⟩ := hcut
        go_step
        go_cut [15] (fun _ wc => ∃ (n : Nat) (X : List Txt) (a : Nat) (la cr : Int), SndI wc w.heap.size g 3 win wt cr (X.drop n) (n : Int) la ∧ SndR wc w.heap.size h 3 win wt cr X n la ∧ Below w.heap.size w wc ∧ Hid (SufT (X.drop n) a) ∧ a + n ≤ X.length ∧ X.length ≤ j + 1 ∧ (0 ≤ cr ∧ cr ≤ 64) ∧ (0 ≤ la ∧ la ≤ 1099511627775))
        case first =>
          have hb : SndB win wt cr (X.drop n) n la := SndB.mk' (by rw [List.length_drop]; omega)
          have hTl : (X.drop n).length = X.length - n := List.length_drop
          have hk : ok = 0 ∨ ok = 1 ∨ (ok ≠ 0 ∧ ok ≠ 1) := by omega
          rcases hk with rfl | rfl | ⟨hk0, hk1⟩
          · obtain ⟨s', hs'⟩ : ∃ s', os.extract 0 (min os.size 20) = s' := ⟨_, rfl⟩
            obtain ⟨c, hcc, hc2⟩ : ∃ c : Nat, (if (20 : Int) < (os.size : Int) then (20 : Int) else (os.size : Int)) = c ∧ c = min os.size 20 := ⟨min os.size 20, by split <;> omega, rfl⟩
            rw [← hc2] at hs'
            have hc3 : c ≤ os.size := by omega
            clear hc2
            have d1 := D.cell 1
            simp at d1
            have HTL := Lib.hid hTl
            clear hTl
            go_wp2_with fail
            clear d0 d1 D hs' hcc hc3 hsz
            by_cases hr : roomN win cr (X.drop n).length = 0
            · have hr2 : roomN win cr (X.length - n) = 0 := by rw [← HTL.out]; exact hr
              have HR2 := Lib.hid hr2
              refine (push_isno S0 hb hr).mono ?_
              clear hr hr2
              rintro r w2 ⟨rfl, C2⟩
              have S2 := S0.chB C2 (by simp) (by simp)
              have R2 := R0.chB C2 (by simp) (by simp) (by simp)
              have B2 := ChB.go B0 C2 (Nat.le_refl _)
              clear S0 R0 B0 C2
              go_wp2_with fail
              refine (rpush_isno R2 ⟨hw1, hw2⟩ hc (by omega) (by omega) HR2.out).mono ?_
              rintro r w3 ⟨rfl, C3⟩
              have S3 := S2.chB C3 (by simp) (by simp)
              have R3 := R2.chB C3 (by simp) (by simp) (by simp)
              have B3 := ChB.go B2 C3 (Nat.le_refl _)
              clear S2 R2 B2 C3
              go_wp2_with fail
              go_meet
              case rel => exact ⟨n, X, a, la, cr, S3, R3, B3, HS, ha, by omega, hc, hla⟩
            · have hlt2 := roomN_lt hr
              have hr2 : roomN win cr (X.length - n) ≠ 0 := by rw [← HTL.out]; exact hr
              have HR2 := Lib.hid hr2
              have c5 := push_is (s := s') (n := (X.length : Int) + 1) (T' := (X ++ [(s', false)]).drop n) S0 hb B0.size hr (by unfold nextN; rw [HTL.out]; omega) (List.drop_append_of_le_length (by omega)).symm
              have hS2 := HS.out.push (by rw [HTL.out]; omega) s'
              rw [← List.drop_append_of_le_length (by omega)] at hS2
              have HS2 := Lib.hid hS2
              refine c5.mono ?_
              clear hr hr2 c5 hS2
              rintro r w2 ⟨rfl, S2, C2⟩
              have R2 := R0.chB C2 (by simp) (by simp) (by simp)
              have B2 := ChB.go B0 C2 (Nat.le_refl _)
              clear S0 R0 B0 C2
              go_wp2_with fail
              refine (rpush_is (s := s') R2 B2.size ⟨hw1, hw2⟩ hc (by omega) (by omega) HR2.out rfl).mono ?_
              rintro r w3 ⟨rfl, R3, C3⟩
              have S3 := S2.chB C3 (by simp) (by simp)
              have B3 := ChB.go B2 C3 (Nat.le_refl _)
              have hXl2 : (X ++ [(s', false)]).length = X.length + 1 := by simp
              generalize X ++ [(s', false)] = X2 at S3 R3 HS2 hXl2
              clear S2 R2 B2 C3
              go_wp2_with fail
              go_meet
              case rel => exact ⟨n, X2, a, la, cr, S3, R3, B3, HS2, by omega, by omega, hc, hla⟩
          · have f1 := and40 on
            have f2 : 0 ≤ on % 1099511627776 := by omega
            have f3 : on % 1099511627776 ≤ 1099511627775 := by omega
            have d3 := D.cell 3
            simp at d3
            have HTL := Lib.hid hTl
            clear hTl
            go_wp2_with fail
            generalize on % 1099511627776 = tm at f2 f3 ⊢
            clear d0 d3 D f1 hsz
            obtain ⟨L, hL⟩ : ∃ L, dueL wt la n tm (X.drop n) = L := ⟨_, rfl⟩
            have hLr : rdueL wt la tm n X = L := by rw [suf_due HS.out]; exact hL
            obtain ⟨X', hX'⟩ : ∃ X', (X.take n ++ (X.drop n).map fun x => (x.1, true)) = X' := ⟨_, rfl⟩
            have htk : (X.take n).length = n := by rw [List.length_take]; omega
            have hX'd : X'.drop n = (X.drop n).map fun x => (x.1, true) := by rw [← hX']; exact List.drop_left' htk
            have hX'l : X'.length = X.length := by rw [← hX', List.length_append, htk, List.length_map, List.length_drop]; omega
            obtain ⟨la', hla'⟩ : ∃ la', dueLast wt la n tm (X.drop n) = la' := ⟨_, rfl⟩
            have hl0 := dueLast_lo (wait := wt) (gone := n) (now := tm) (X.drop n) hla.1
            have hl1 := dueLast_hi (wait := wt) (gone := n) (M := 1099511627775) (X.drop n) hla.2 f3
            rw [hla'] at hl0 hl1
            have hlr : (if L = [] then la else max tm la) = la' := by rw [← hla', ← hL]; rfl
            have hLn : L.length ≤ 1000 := by
              rw [← hL]
              have := itemsOf_len (fun x : Txt => againB wt la (max tm la) (X.drop n) || !x.2) (X.drop n) n
              have h2 := HTL.out
              unfold dueL
              omega
            have c5 := due_is (now := tm) (T' := X'.drop n) S0 hb B0.size (by omega) f2 hL (by rw [dueT_map, hX'd]) hla'
            have hS2 : SufT (X'.drop n) (X.drop n).length := by rw [hX'd]; exact SufT.sent _
            rw [HTL.out] at hS2
            have HS2 := Lib.hid hS2
            have HLR := Lib.hid hLr
            have HX' := Lib.hid hX'
            have HLR2 := Lib.hid hlr
            clear hS2 hLr hX' hlr hL hla' hX'd htk
            refine c5.mono ?_
            clear c5
            rintro r w2 ⟨Ad, cd, rfl, O2, S2, C2⟩
            have R2 := R0.chB C2 (by simp) (by simp) (by simp)
            have B2 := ChB.go B0 C2 (Nat.le_refl _)
            clear S0 R0 B0 C2
            go_wp2_with fail
            refine (rdue_is (now := tm) R2 B2.size (by omega) (by omega) (by omega) (by omega) (by omega) HLR.out HX'.out HLR2.out).mono ?_
            rintro r w3 ⟨Ae, ce, rfl, I3, R3, C3⟩
            have S3 := S2.chB C3 (by simp) (by simp)
            have B3 := ChB.go B2 C3 (Nat.le_refl _)
            obtain ⟨A', cap', he, J3⟩ := own_rd (own_chB O2 C3 (by simp))
            injection he with e1 _ e3
            subst e1 e3
            clear S2 R2 B2 C3 O2
            generalize hq : L.length = q at hLn
            have HQ := Lib.hid hq
            clear hq
            go_wp2_with fail
            have c6 := same_yes Ad Ae cd ce L w3 J3 I3 (by rw [HQ.out]; omega)
            rw [HQ.out] at c6
            refine c6.mono ?_
            clear c6
            rintro r w4 ⟨rfl, C4⟩
            have C5 : ChB w.heap.size [] w3 w4 := C4.toB0
            have S4 := S3.chB C5 (by simp) (by simp)
            have R4 := R3.chB C5 (by simp) (by simp) (by simp)
            have B4 := ChB.go B3 C5 (Nat.le_refl _)
            clear S3 R3 B3 C4 C5 I3 J3
            go_wp2_with fail
            go_meet
            case rel => exact ⟨n, X', X.length - n, la', cr, S4, R4, B4, HS2, by omega, by omega, hc, ⟨hl0, hl1⟩⟩
          · have g0 : (ok == 0) = false := by simp [hk0]
            have g1 : (ok == 1) = false := by simp [hk1]
            have d2 := D.cell 2
            have d3 := D.cell 3
            have d4 := D.cell 4
            simp at d2 d3 d4
            have HTL := Lib.hid hTl
            clear hTl
            by_cases ht : stakeN 3 n (X.drop n).length oe on oc = 0
            · obtain ⟨t0, t1', t2', t3, t4, t5⟩ := stakeN_zero.1 ht
              subst t0
              clear ht
              rw [HTL.out] at t4
              obtain ⟨k, hkk⟩ : ∃ k : Nat, on = n + k := ⟨(on - n).toNat, by omega⟩
              have c5 := stake_is (n := (k : Int)) (T' := X.drop (n + k)) S0 hb B0.size t1' t2' t3 (by rw [HTL.out]; omega) t5 (by omega) (by rw [show (on - (n : Int)).toNat = k by omega, List.drop_drop])
              have hS2 := HS.out.drop k
              rw [List.drop_drop] at hS2
              have HS2 := Lib.hid hS2
              have HKK := Lib.hid hkk
              have hkX : n + k ≤ X.length := by omega
              clear hS2 hkk t3 t4 t5
              go_wp2_with fail
              refine c5.mono ?_
              clear c5
              rintro r w2 ⟨rfl, S2, C2⟩
              have D2 := D.chB C2 (by simp)
              have R2 := R0.chB C2 (by simp) (by simp) (by simp)
              have B2 := ChB.go B0 C2 (Nat.le_refl _)
              clear S0 R0 B0 C2 D d0 d2 d3 d4
              have d2 := D2.cell 2
              have d3 := D2.cell 3
              have d4 := D2.cell 4
              simp at d2 d3 d4
              go_wp2_with fail
              refine (rtake_is (k := k) R2 hkX (by omega) ⟨t1', t2'⟩ HKK.out.symm).mono ?_
              rintro r w3 ⟨rfl, R3, C3⟩
              have S3 := S2.chB C3 (by simp) (by simp)
              have B3 := ChB.go B2 C3 (Nat.le_refl _)
              rw [show on = ((n + k : Nat) : Int) by have := HKK.out; omega] at S3
              clear S2 R2 B2 C3 D2 d2 d3 d4
              go_wp2_with fail
              go_meet
              case rel => exact ⟨n + k, X, a - k, la, oc, S3, R3, B3, HS2, by omega, by omega, ⟨t1', t2'⟩, hla⟩
            · obtain ⟨q, hq⟩ : ∃ q, stakeN 3 n (X.drop n).length oe on oc = q := ⟨_, rfl⟩
              rw [hq] at ht
              have c5 := stake_isno S0 hb hq ht
              rw [HTL.out] at hq
              have HQ := Lib.hid hq
              have HT := Lib.hid ht
              clear hq ht
              go_wp2_with fail
              refine c5.mono ?_
              clear c5
              rintro r w2 ⟨rfl, C2⟩
              have D2 := D.chB C2 (by simp)
              have S2 := S0.chB C2 (by simp) (by simp)
              have R2 := R0.chB C2 (by simp) (by simp) (by simp)
              have B2 := ChB.go B0 C2 (Nat.le_refl _)
              clear S0 R0 B0 C2 D d0 d2 d3 d4
              have d2 := D2.cell 2
              have d3 := D2.cell 3
              have d4 := D2.cell 4
              simp at d2 d3 d4
              go_wp2_with fail
              refine (rtake_isno (n := X.length - n) R2 (by omega) (by omega) HQ.out HT.out).mono ?_
              rintro r w3 ⟨rfl, C3⟩
              have S3 := S2.chB C3 (by simp) (by simp)
              have R3 := R2.chB C3 (by simp) (by simp) (by simp)
              have B3 := ChB.go B2 C3 (Nat.le_refl _)
              clear S2 R2 B2 C3 D2 d2 d3 d4
              go_wp2_with fail
              go_meet
              case rel => exact ⟨n, X, a, la, cr, S3, R3, B3, HS, ha, by omega, hc, hla⟩
        case rest =>
          clear S0 R0 B0 D d0 HS ha hXj hc hla
          obtain ⟨n, X, a, la, cr, S, R, B, HS, ha, hXj, hc, hla⟩ := hcut
          have hb : SndB win wt cr (X.drop n) n la := SndB.mk' (by rw [List.length_drop]; omega)
          have hTl : (X.drop n).length = X.length - n := List.length_drop
          obtain ⟨rm, hrm⟩ : ∃ rm, roomN win cr (X.drop n).length = rm := ⟨_, rfl⟩
          have HRM := Lib.hid hrm
          rw [hTl] at hrm
          have HRM2 := Lib.hid hrm
          obtain ⟨L, hL⟩ : ∃ L, itemsOf (fun _ : Txt => true) (n : Int) (X.drop n) = L := ⟨_, rfl⟩
          have hLn : L.length ≤ 1000 := by
            rw [← hL, itemsOf_all, hTl]; omega
          have HL := Lib.hid hL
          have hnx : nextN (n : Int) (X.drop n) = (X.length : Int) + 1 := by unfold nextN; rw [hTl]; omega
          have HNX := Lib.hid hnx
          have v1 : IntKind.i64.wrap ((X.length : Int) + 1) = X.length + 1 := IntWalk.i64_in _ (by omega)
          have R9 := R
          obtain ⟨vl, vs, r9⟩ := R9
          obtain ⟨Al, cl, rfl, _⟩ := own_len r9.l
          have DB := r9.b
          have k4 := DB.cell 4
          have k6 := DB.cell 6
          simp at k4 k6
          clear hrm hTl hL hnx r9
          go_wp2_with fail
          refine wp_region_noPanic ?_
          refine wp_region_held_drew (S := (fun w' => w'.cell? ⟨h, 4, none⟩ = some (.slice Al X.length cl) ∧ w'.cell? ⟨h, 6, none⟩ = some (.int .i64 n))) (by kernel_rfl) ?_ (fun hHeld => ?_)
          · exact ⟨k4, k6⟩
          have C0 := (ChB.refl w.heap.size [] wc).drew
          have S0 := S.chB C0 (by simp) (by simp)
          have R0 := R.chB C0 (by simp) (by simp) (by simp)
          have B0 := ChB.go B C0 (Nat.le_refl _)
          have DB0 := DB.chB C0 (by simp)
          clear S R B DB C0 k4 k6
          generalize wc.drew = wz0 at *
          refine reg_take (i := 0) (v := ?_) rfl (by as_aux_lemma => kernel_rfl) (by as_aux_lemma => kernel_rfl) (by as_aux_lemma => kernel_rfl) (fun _ _ _ h => h) (by rfl) ?_ (by assumption) ?_
          rotate_left
          · (intro w hSw; (try dsimp only at hSw); go_simp; try with_reducible rfl)
          try simp only [Act.put, List.setIfInBounds_toArray, List.set_cons_zero, List.set_cons_succ]
          refine reg_take (i := 2) (v := ?_) rfl (by as_aux_lemma => kernel_rfl) (by as_aux_lemma => kernel_rfl) (by as_aux_lemma => kernel_rfl) (fun _ _ _ h => h) (by rfl) ?_ (by assumption) ?_
          rotate_left
          · (intro w hSw; (try dsimp only at hSw); go_simp; try with_reducible rfl)
          try simp only [Act.put, List.setIfInBounds_toArray, List.set_cons_zero, List.set_cons_succ]
          refine reg_step (i := 1) (by as_aux_lemma => kernel_rfl) rfl (fun K hK => ?_)
          go_simp
          refine (room_is (n := rm) S0 hb HRM.out).mono ?_
          rintro r wz1 ⟨rfl, C1⟩
          have S1 := S0.chB C1 (by simp) (by simp)
          have R1 := R0.chB C1 (by simp) (by simp) (by simp)
          have B1 := ChB.go B0 C1 (Nat.le_refl _)
          have DB1 := DB0.chB C1 (by simp)
          have k4 := DB1.cell 4
          have k6 := DB1.cell 6
          simp at k4 k6
          clear S0 R0 B0 C1 DB0
          dsimp only
          refine hK.out _ _ ⟨k4, k6⟩ (fun hHeld2 => ?_)
          clear hK K hHeld k4 k6
          have hHeld := hHeld2
          clear hHeld2
          try simp only [Act.put, List.setIfInBounds_toArray, List.set_cons_zero, List.set_cons_succ]
          refine reg_step (i := 3) (by as_aux_lemma => kernel_rfl) rfl (fun K hK => ?_)
          go_simp
          refine (rroom_is (n := rm) R1 ⟨hw1, hw2⟩ hc (by omega) (by omega) HRM2.out).mono ?_
          rintro r wz2 ⟨rfl, C2⟩
          have S2 := S1.chB C2 (by simp) (by simp)
          have R2 := R1.chB C2 (by simp) (by simp) (by simp)
          have B2 := ChB.go B1 C2 (Nat.le_refl _)
          have DB2 := DB1.chB C2 (by simp)
          have k4 := DB2.cell 4
          have k6 := DB2.cell 6
          simp at k4 k6
          clear S1 R1 B1 C2 DB1
          dsimp only
          refine hK.out _ _ ⟨k4, k6⟩ (fun hHeld2 => ?_)
          clear hK K hHeld k4 k6
          have hHeld := hHeld2
          clear hHeld2
          try simp only [Act.put, List.setIfInBounds_toArray, List.set_cons_zero, List.set_cons_succ]
          refine reg_take (i := 4) (v := ?_) rfl (by as_aux_lemma => kernel_rfl) (by as_aux_lemma => kernel_rfl) (by as_aux_lemma => kernel_rfl) (fun _ _ _ h => h) (by rfl) ?_ (by assumption) ?_
          rotate_left
          · (intro w hSw; (try dsimp only at hSw); go_simp; try with_reducible rfl)
          try simp only [Act.put, List.setIfInBounds_toArray, List.set_cons_zero, List.set_cons_succ]
          refine reg_take (i := 5) (v := ?_) rfl (by as_aux_lemma => kernel_rfl) (by as_aux_lemma => kernel_rfl) (by as_aux_lemma => kernel_rfl) (fun _ _ _ h => h) (by rfl) ?_ (by assumption) ?_
          rotate_left
          · (intro w hSw; (try dsimp only at hSw); go_simp; try with_reducible rfl)
          try simp only [Act.put, List.setIfInBounds_toArray, List.set_cons_zero, List.set_cons_succ]
          refine reg_take (i := 6) (v := ?_) rfl (by as_aux_lemma => kernel_rfl) (by as_aux_lemma => kernel_rfl) (by as_aux_lemma => kernel_rfl) (fun _ _ _ h => h) (by rfl) ?_ (by assumption) ?_
          rotate_left
          · (intro w hSw; (try dsimp only at hSw); go_simp; try with_reducible rfl)
          try simp only [Act.put, List.setIfInBounds_toArray, List.set_cons_zero, List.set_cons_succ]
          refine reg_take (i := 8) (v := ?_) rfl (by as_aux_lemma => kernel_rfl) (by as_aux_lemma => kernel_rfl) (by as_aux_lemma => kernel_rfl) (fun _ _ _ h => h) (by rfl) ?_ (by assumption) ?_
          rotate_left
          · (intro w hSw; (try dsimp only at hSw); go_simp; try with_reducible rfl)
          try simp only [Act.put, List.setIfInBounds_toArray, List.set_cons_zero, List.set_cons_succ]
          refine reg_step (i := 7) (by as_aux_lemma => kernel_rfl) rfl (fun K hK => ?_)
          go_simp
          refine (under_is (L := L) S2 hb HL.out).mono ?_
          rintro r wz3 ⟨Au, cu, rfl, I3, Cx3⟩
          have C3 : ChB w.heap.size [] wz2 wz3 := Cx3.toB0
          have S3 := S2.chB C3 (by simp) (by simp)
          have R3 := R2.chB C3 (by simp) (by simp) (by simp)
          have B3 := ChB.go B2 C3 (Nat.le_refl _)
          have DB3 := DB2.chB C3 (by simp)
          have k4 := DB3.cell 4
          have k6 := DB3.cell 6
          simp at k4 k6
          clear Cx3
          clear S2 R2 B2 C3 DB2
          dsimp only
          refine hK.out _ _ ⟨k4, k6⟩ (fun hHeld2 => ?_)
          clear hK K hHeld k4 k6
          have hHeld := hHeld2
          clear hHeld2
          try simp only [Act.put, List.setIfInBounds_toArray, List.set_cons_zero, List.set_cons_succ]
          refine reg_step (i := 9) (by as_aux_lemma => kernel_rfl) rfl (fun K hK => ?_)
          go_simp
          refine (runder_is (L := L) R3 (by omega) (by omega) HL.out).mono ?_
          rintro r wz4 ⟨Av, cv, rfl, J4, Cx4⟩
          have C4 : ChB w.heap.size [] wz3 wz4 := Cx4.toB0
          have S4 := S3.chB C4 (by simp) (by simp)
          have R4 := R3.chB C4 (by simp) (by simp) (by simp)
          have B4 := ChB.go B3 C4 (Nat.le_refl _)
          have DB4 := DB3.chB C4 (by simp)
          have k4 := DB4.cell 4
          have k6 := DB4.cell 6
          simp at k4 k6
          have I4 := I3.ch Cx4
          clear Cx4 I3
          clear S3 R3 B3 C4 DB3
          dsimp only
          refine hK.out _ _ ⟨k4, k6⟩ (fun hHeld2 => ?_)
          clear hK K hHeld k4 k6
          have hHeld := hHeld2
          clear hHeld2
          try simp only [Act.put, List.setIfInBounds_toArray, List.set_cons_zero, List.set_cons_succ]
          refine reg_step (i := 10) (by as_aux_lemma => kernel_rfl) rfl (fun K hK => ?_)
          go_simp
          refine (same_yes Au Av cu cv L wz4 I4 J4 (by omega)).mono ?_
          rintro r wz5 ⟨rfl, Cx5⟩
          have C5 : ChB w.heap.size [] wz4 wz5 := Cx5.toB0
          have S5 := S4.chB C5 (by simp) (by simp)
          have R5 := R4.chB C5 (by simp) (by simp) (by simp)
          have B5 := ChB.go B4 C5 (Nat.le_refl _)
          have DB5 := DB4.chB C5 (by simp)
          have k4 := DB5.cell 4
          have k6 := DB5.cell 6
          simp at k4 k6
          clear Cx5 I4 J4
          clear S4 R4 B4 C5 DB4
          dsimp only
          refine hK.out _ _ ⟨k4, k6⟩ (fun hHeld2 => ?_)
          clear hK K hHeld k4 k6
          have hHeld := hHeld2
          clear hHeld2
          try simp only [Act.put, List.setIfInBounds_toArray, List.set_cons_zero, List.set_cons_succ]
          refine reg_take (i := 11) (v := ?_) rfl (by as_aux_lemma => kernel_rfl) (by as_aux_lemma => kernel_rfl) (by as_aux_lemma => kernel_rfl) (fun _ _ _ h => h) (by rfl) ?_ (by assumption) ?_
          rotate_left
          · (intro w hSw; (try dsimp only at hSw); go_simp; try with_reducible rfl)
          try simp only [Act.put, List.setIfInBounds_toArray, List.set_cons_zero, List.set_cons_succ]
          refine reg_take (i := 12) (v := ?_) rfl (by as_aux_lemma => kernel_rfl) (by as_aux_lemma => kernel_rfl) (by as_aux_lemma => kernel_rfl) (fun _ _ _ h => h) (by rfl) ?_ (by assumption) ?_
          rotate_left
          · (intro w hSw; (try dsimp only at hSw); go_simp; try with_reducible rfl)
          try simp only [Act.put, List.setIfInBounds_toArray, List.set_cons_zero, List.set_cons_succ]
          refine reg_take (i := 13) (v := ?_) rfl (by as_aux_lemma => kernel_rfl) (by as_aux_lemma => kernel_rfl) (by as_aux_lemma => kernel_rfl) (fun _ _ _ h => h) (by rfl) ?_ (by assumption) ?_
          rotate_left
          · (intro w hSw; (try dsimp only at hSw); go_simp; try with_reducible rfl)
          try simp only [Act.put, List.setIfInBounds_toArray, List.set_cons_zero, List.set_cons_succ]
          refine reg_take (i := 14) (v := ?_) rfl (by as_aux_lemma => kernel_rfl) (by as_aux_lemma => kernel_rfl) (by as_aux_lemma => kernel_rfl) (fun _ _ _ h => h) (by rfl) ?_ (by assumption) ?_
          rotate_left
          · (intro w hSw; (try dsimp only at hSw); go_simp; try with_reducible rfl)
          try simp only [Act.put, List.setIfInBounds_toArray, List.set_cons_zero, List.set_cons_succ]
          refine reg_take (i := 16) (v := ?_) rfl (by as_aux_lemma => kernel_rfl) (by as_aux_lemma => kernel_rfl) (by as_aux_lemma => kernel_rfl) (fun _ _ _ h => h) (by rfl) ?_ (by assumption) ?_
          rotate_left
          · (intro w hSw; (try dsimp only at hSw); go_simp; try with_reducible rfl)
          try simp only [Act.put, List.setIfInBounds_toArray, List.set_cons_zero, List.set_cons_succ]
          refine reg_take (i := 17) (v := ?_) rfl (by as_aux_lemma => kernel_rfl) (by as_aux_lemma => kernel_rfl) (by as_aux_lemma => kernel_rfl) (fun _ _ _ h => h) (by rfl) ?_ (by assumption) ?_
          rotate_left
          · (intro w hSw; (try dsimp only at hSw); go_simp; try with_reducible rfl)
          try simp only [Act.put, List.setIfInBounds_toArray, List.set_cons_zero, List.set_cons_succ]
          refine reg_take (i := 18) (v := ?_) rfl (by as_aux_lemma => kernel_rfl) (by as_aux_lemma => kernel_rfl) (by as_aux_lemma => kernel_rfl) (fun _ _ _ h => h) (by rfl) ?_ (by assumption) ?_
          rotate_left
          · (intro w hSw; (try dsimp only at hSw); go_simp; try with_reducible rfl)
          try simp only [Act.put, List.setIfInBounds_toArray, List.set_cons_zero, List.set_cons_succ]
          refine reg_take (i := 19) (v := ?_) rfl (by as_aux_lemma => kernel_rfl) (by as_aux_lemma => kernel_rfl) (by as_aux_lemma => kernel_rfl) (fun _ _ _ h => h) (by rfl) ?_ (by assumption) ?_
          rotate_left
          · (intro w hSw; (try dsimp only at hSw); go_simp; try with_reducible rfl)
          try simp only [Act.put, List.setIfInBounds_toArray, List.set_cons_zero, List.set_cons_succ]
          refine reg_take (i := 20) (v := ?_) rfl (by as_aux_lemma => kernel_rfl) (by as_aux_lemma => kernel_rfl) (by as_aux_lemma => kernel_rfl) (fun _ _ _ h => h) (by rfl) ?_ (by assumption) ?_
          rotate_left
          · (intro w hSw; (try dsimp only at hSw); go_simp; try with_reducible rfl)
          try simp only [Act.put, List.setIfInBounds_toArray, List.set_cons_zero, List.set_cons_succ]
          refine reg_take (i := 21) (v := ?_) rfl (by as_aux_lemma => kernel_rfl) (by as_aux_lemma => kernel_rfl) (by as_aux_lemma => kernel_rfl) (fun _ _ _ h => h) (by rfl) ?_ (by assumption) ?_
          rotate_left
          · (intro w hSw; (try dsimp only at hSw); go_simp; try with_reducible rfl)
          try simp only [Act.put, List.setIfInBounds_toArray, List.set_cons_zero, List.set_cons_succ]
          refine reg_step (i := 15) (by as_aux_lemma => kernel_rfl) rfl (fun K hK => ?_)
          go_simp
          refine (snext_is (n := (X.length : Int) + 1) S5 hb HNX.out).mono ?_
          rintro r wz6 ⟨rfl, C6⟩
          have S6 := S5.chB C6 (by simp) (by simp)
          have R6 := R5.chB C6 (by simp) (by simp) (by simp)
          have B6 := ChB.go B5 C6 (Nat.le_refl _)
          have DB6 := DB5.chB C6 (by simp)
          have k4 := DB6.cell 4
          have k6 := DB6.cell 6
          simp at k4 k6
          clear S5 R5 B5 C6 DB5
          dsimp only
          refine hK.out _ _ ⟨k4, k6⟩ (fun hHeld2 => ?_)
          clear hK K hHeld k4 k6
          have hHeld := hHeld2
          clear hHeld2
          try simp only [Act.put, List.setIfInBounds_toArray, List.set_cons_zero, List.set_cons_succ]
          refine reg_take (i := 22) (v := ?_) rfl (by as_aux_lemma => kernel_rfl) (by as_aux_lemma => kernel_rfl) (by as_aux_lemma => kernel_rfl) (fun _ _ _ h => h) (by rfl) ?_ (by assumption) ?_
          rotate_left
          · (intro w hSw; (try dsimp only at hSw); go_simp; try with_reducible rfl)
          try simp only [Act.put, List.setIfInBounds_toArray, List.set_cons_zero, List.set_cons_succ]
          refine reg_take (i := 23) (v := ?_) rfl (by as_aux_lemma => kernel_rfl) (by as_aux_lemma => kernel_rfl) (by as_aux_lemma => kernel_rfl) (fun _ _ _ h => h) (by rfl) ?_ (by assumption) ?_
          rotate_left
          · (intro w hSw; (try dsimp only at hSw); go_simp; try with_reducible rfl)
          try simp only [Act.put, List.setIfInBounds_toArray, List.set_cons_zero, List.set_cons_succ]
          refine reg_take (i := 24) (v := ?_) rfl (by as_aux_lemma => kernel_rfl) (by as_aux_lemma => kernel_rfl) (by as_aux_lemma => kernel_rfl) (fun _ _ _ h => h) (by rfl) ?_ (by assumption) ?_
          rotate_left
          · (intro w hSw; (try dsimp only at hSw); go_simp; try with_reducible rfl)
          try simp only [Act.put, List.setIfInBounds_toArray, List.set_cons_zero, List.set_cons_succ]
          refine reg_take (i := 25) (v := ?_) rfl (by as_aux_lemma => kernel_rfl) (by as_aux_lemma => kernel_rfl) (by as_aux_lemma => kernel_rfl) (fun _ _ _ h => h) (by rfl) ?_ (by assumption) ?_
          rotate_left
          · (intro w hSw; (try dsimp only at hSw); go_simp; try with_reducible rfl)
          try simp only [Act.put, List.setIfInBounds_toArray, List.set_cons_zero, List.set_cons_succ]
          refine reg_take (i := 27) (v := ?_) rfl (by as_aux_lemma => kernel_rfl) (by as_aux_lemma => kernel_rfl) (by as_aux_lemma => kernel_rfl) (fun _ _ _ h => h) (by rfl) ?_ (by assumption) ?_
          rotate_left
          · (intro w hSw; (try dsimp only at hSw); go_simp; try with_reducible rfl)
          try simp only [Act.put, List.setIfInBounds_toArray, List.set_cons_zero, List.set_cons_succ]
          refine reg_take (i := 28) (v := ?_) rfl (by as_aux_lemma => kernel_rfl) (by as_aux_lemma => kernel_rfl) (by as_aux_lemma => kernel_rfl) (fun _ _ _ h => h) (by rfl) ?_ (by assumption) ?_
          rotate_left
          · (intro w hSw; (try dsimp only at hSw); go_simp; try with_reducible rfl)
          try simp only [Act.put, List.setIfInBounds_toArray, List.set_cons_zero, List.set_cons_succ]
          refine reg_take (i := 29) (v := ?_) rfl (by as_aux_lemma => kernel_rfl) (by as_aux_lemma => kernel_rfl) (by as_aux_lemma => kernel_rfl) (fun _ _ _ h => h) (by rfl) ?_ (by assumption) ?_
          rotate_left
          · (intro w hSw; (try dsimp only at hSw); go_simp; try with_reducible rfl)
          try simp only [Act.put, List.setIfInBounds_toArray, List.set_cons_zero, List.set_cons_succ]
          refine reg_take (i := 30) (v := ?_) rfl (by as_aux_lemma => kernel_rfl) (by as_aux_lemma => kernel_rfl) (by as_aux_lemma => kernel_rfl) (fun _ _ _ h => h) (by rfl) ?_ (by assumption) ?_
          rotate_left
          · (intro w hSw; (try dsimp only at hSw); go_simp; try with_reducible rfl)
          try simp only [Act.put, List.setIfInBounds_toArray, List.set_cons_zero, List.set_cons_succ]
          refine reg_step (i := 26) (by as_aux_lemma => kernel_rfl) rfl (fun K hK => ?_)
          go_simp
          refine (shad_is S6).mono ?_
          rintro r wz7 ⟨rfl, rfl⟩
          dsimp only
          refine hK.out _ _ hHeld (fun hHeld2 => ?_)
          clear hK K hHeld
          have hHeld := hHeld2
          clear hHeld2
          try simp only [Act.put, List.setIfInBounds_toArray, List.set_cons_zero, List.set_cons_succ]
          refine reg_take (i := 31) (v := ?_) rfl (by as_aux_lemma => kernel_rfl) (by as_aux_lemma => kernel_rfl) (by as_aux_lemma => kernel_rfl) (fun _ _ _ h => h) (by rfl) ?_ (by assumption) ?_
          rotate_left
          · (intro w hSw; (try dsimp only at hSw); go_simp; try with_reducible rfl)
          try simp only [Act.put, List.setIfInBounds_toArray, List.set_cons_zero, List.set_cons_succ]
          refine reg_take (i := 32) (v := ?_) rfl (by as_aux_lemma => kernel_rfl) (by as_aux_lemma => kernel_rfl) (by as_aux_lemma => kernel_rfl) (fun _ _ _ h => h) (by rfl) ?_ (by assumption) ?_
          rotate_left
          · (intro w hSw; (try dsimp only at hSw); go_simp; try with_reducible rfl)
          try simp only [Act.put, List.setIfInBounds_toArray, List.set_cons_zero, List.set_cons_succ]
          refine wpAnyH_done (by kernel_rfl) ?_ _
          refine NoPanic.normal ?_
          clear hHeld
          go_wp2_with fail
          go_roundw
          case rel => exact ⟨j + 1, n, X, a, la, cr, by simp, by omega, by omega, S6, R6, B6, HS, ha, hXj, hc, hla⟩
          case measure => simp [intOf]; omega
    · by_cases hjl2 : j < len
      · have h81 : ¬ (j : Int) < 80 := by omega
        clear h80
        go_wp2_with fail
        refine (fixed12 _).mono ?_
        rintro r w5 ⟨rfl, hb5⟩
        have B5 := B.trans (hb5.mono B.size)
        go_wp2
        go_ret
        exact ⟨rfl, B5⟩
      · clear h80
        go_wp2_with fail
        refine (fixed12 _).mono ?_
        rintro r w5 ⟨rfl, hb5⟩
        have B5 := B.trans (hb5.mono B.size)
        go_wp2
        go_ret
        exact ⟨rfl, B5⟩

theorem own : ownKnob Try.prog.godebug = none := by kernel_rfl
theorem laidOut : laidOutB Try.prog = true := by kernel_rfl

set_option maxRecDepth 100000 in
theorem lifted (os : Os) (started : os.Started) (H : Type) (enc : TypeId × Value → H) :
    ReturnsInHanded {} Try.checked os 7 .any (Rows.senderDoesSpec.pre6 enc Try.prog Try.f7 Rows.senderDoesRow.domain false) (Rows.senderDoesSpec.post enc Try.prog Try.f7 false true false false) := by
  refine returnsInHanded_of_change (C := Try.checked) own started (by kernel_rfl) Try.func7
    (ChangeSpec.witness6 (enc := enc) (C := Try.checked) false ⟨#[], #[.int .i64 0, .int .i64 0, .slice none 0 0], []⟩ 8 (by kernel_rfl) (by kernel_rfl) (by kernel_rfl) (by kernel_rfl)) ?_
  intro W base args ds gs before hval0 hW hcnd _
  have hval : ∀ (j : Nat) t v, Try.f7.params[j]? = some t → args[j]? = some v → Value.okWide Try.prog W .any base t v := hval0
  have hW' := hW
  obtain ⟨p, q, hA0, hV, rfl, hfz, hnd⟩ := hW
  have hA : DataW.TrodAll enc Try.prog W 0 (fun _ => true) true Try.f7.params.toList args.toList ds p := hA0
  rw [Try.params7] at hA hval
  obtain ⟨v0, vs0, d0, ds0, p0, q0, hargs, rfl, rfl, h0, r0⟩ := trodAll_cons hA
  obtain ⟨v1, vs1, d1, ds1, p1, q1, rfl, rfl, rfl, h1, r1⟩ := trodAll_cons r0
  obtain ⟨v2, vs2, d2, ds2, p2, q2, rfl, rfl, rfl, h2, r2⟩ := trodAll_cons r1
  obtain ⟨rfl, rfl, rfl⟩ := trodAll_nil r2
  obtain rfl : args = #[v0, v1, v2] := by cases args; simp_all
  obtain ⟨rfl, rfl⟩ := trodVars_none hV
  obtain ⟨a0, hv0, _, _, w0⟩ := open_int Try.underlying3 (hval 0 3 v0 rfl rfl) h0
  obtain ⟨a1, hv1, _, _, w1⟩ := open_int Try.underlying3 (hval 1 3 v1 rfl rfl) h1
  obtain ⟨A2, len2, cap2, f2, hv2, hm2, hO2⟩ := open_ops12 (hval 2 49 v2 rfl rfl) h2
  clear hA0 hval0
  have hlt0 : ∀ x ∈ p0, x.block < W.heap.size := fun x hx => hW'.lt x (by simp [hx])
  have hlt1 : ∀ x ∈ p1, x.block < W.heap.size := fun x hx => hW'.lt x (by simp [hx])
  have hlt2 : ∀ x ∈ p2, x.block < W.heap.size := fun x hx => hW'.lt x (by simp [hx])
  have hstay : ∀ (W' : World), Below W.heap.size W W' → ∀ sp : Nat → Bool, (∀ p ∈ (p0 ++ (p1 ++ (p2 ++ ([])))) ++ [], sp p.block = true) → DataW.TrodAll enc Try.prog W' 0 sp true [3, 3, 49] [v0, v1, v2] [d0, d1, d2] (p0 ++ (p1 ++ (p2 ++ ([])))) := fun W' hg sp hsp =>
    (trodAll_cons_mk (WideElems.Trod_stays laidOut (by kernel_rfl) (of_decide_eq_true (by kernel_rfl)) h0 (fun x hx => hg.same (hlt0 x hx)) (fun x hx => hsp x (by simp [hx]))) (trodAll_cons_mk (WideElems.Trod_stays laidOut (by kernel_rfl) (of_decide_eq_true (by kernel_rfl)) h1 (fun x hx => hg.same (hlt1 x hx)) (fun x hx => hsp x (by simp [hx]))) (trodAll_cons_mk (WideElems.Trod_stays laidOut (by kernel_rfl) (of_decide_eq_true (by kernel_rfl)) h2 (fun x hx => hg.same (hlt2 x hx)) (fun x hx => hsp x (by simp [hx]))) trodAll_mk0)))
  have hwalk := walk a0 a1 A2 len2 cap2 f2 W hm2 hO2
  rw [← hv0, ← hv1, ← hv2] at hwalk
  refine hwalk.mono fun e W' ⟨he, hg⟩ => ?_
  subst he
  exact ⟨_, rfl, post_of_below (pa := p0 ++ (p1 ++ (p2 ++ ([])))) (pv := []) hW' (fun _ _ _ => (trodAll_cons_mk (shut_bool Try.underlying4 _) trodAll_mk0)) (fun sp hsp => hstay W' hg sp hsp) (fun _ _ => rfl) rfl
    hg (ok_one (by kernel_rfl) rfl (okWide_bool_mk Try.underlying4 _))⟩

theorem over : Rows.senderDoesRow.holds Try.pinned (OpenSpec.ofChange Rows.senderDoesSpec) :=
  OpenClaim.holds_of_wide 7 Try.f7 rfl rfl rfl rfl rfl rfl rfl ⟨rfl, rfl, rfl, rfl, rfl⟩ rfl rfl rfl rfl rfl (by kernel_rfl) Try.func7 (by kernel_rfl)
    (of_decide_eq_true (by kernel_rfl)) (by unfold Func.isWrapper; first | (rw [if_pos (by decide +kernel)]; kernel_rfl) | (rw [if_neg (by decide +kernel)]; exact ⟨rfl, rfl⟩))
    (fun os started H enc _ => lifted os started H enc)

theorem proved : Rows.SenderDoesSaid :=
  over
end Go.Proofs.Ytejmcfgmopijkaa.senderDoes
#print axioms Go.Proofs.Ytejmcfgmopijkaa.senderDoes.proved
