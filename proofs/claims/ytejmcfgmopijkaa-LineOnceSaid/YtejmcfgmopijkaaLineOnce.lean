/- Whatever is lost, doubled and mixed up: what comes is the first texts that were pushed, in order, each once; never more are under way than the window, nor in the store than its room. No conditions. -/
import Derived.Test.YtejmcfgmopijkaaRows
import Derived.WalkKit
import Derived.ProofKit
import Derived.OpenShut
import Derived.ShutString
import Derived.Carry
import Derived.Deep.RegionHeld3
import Derived.BigQuiet
import Derived.IntWalk
import Derived.Deep.Cut
import Derived.Deep.DeepCutAuto
import Derived.StillTailTactics
import Derived.Deep.RegionLaw
import Derived.Test.YtejmcfgmopijkaaPost
import Derived.Test.YtejmcfgmopijkaaNum
import Derived.Test.YtejmcfgmopijkaaLOnce
namespace Go.Proofs.Ytejmcfgmopijkaa.lineOnce
open Go.ChangeShapes Go.WideShapes Go.ChangeAt Go.RowKit
set_option linter.unusedVariables false
set_option linter.unusedSimpArgs false

set_option maxHeartbeats 16000000 in
set_option maxRecDepth 100000 in
theorem walk (a0 a1 a2 : Int) (A : Option Addr) (len cap : Nat) (f : Nat → Op14) (w : World) (hl : len ≤ maxLen) (hA : Ops14 w w.heap.size A len f) :
    Calls Try.prog 13 #[.agg #[.int .i64 a0, .int .i64 a1, .int .i64 a2], .slice A len cap] w fun e w' => e = .returned (.bool true) ∧ Below w.heap.size w w' := by
  obtain ⟨i0, hi, hz0, hz1, hz2⟩ := info_parts info9
  unfold maxLen at hl
  have e1 := and15 a0
  have e2 := and7 a1
  have e3 := and7 a2
  have f1 : 0 ≤ a0 % 16 := by omega
  have f2 : a0 % 16 ≤ 15 := by omega
  have f3 : 0 ≤ a1 % 8 := by omega
  have f4 : a1 % 8 ≤ 7 := by omega
  have f5 : 0 ≤ a2 % 8 := by omega
  have f6 : a2 % 8 ≤ 7 := by omega
  go_enter Try.func13, Try.ntmps13
  go_wp2_with fail
  go_quiet (fail)
  rename_i nq
  have cd := ((Ch.refl [] (w.alloc (.cells #[.int .i64 a0, .int .i64 a1, .int .i64 a2] 78))).drewN nq)
  have B0 : Below w.heap.size w ((w.alloc (.cells #[.int .i64 a0, .int .i64 a1, .int .i64 a2] 78)).drewN nq) := bgo (bgo (Below.refl _ _) ((Ch.refl [] w).alloc _) (by simp)) cd (by simp)
  go_wp2_with fail
  generalize (w.alloc _).drewN nq = w1 at B0 ⊢
  clear cd
  have m1 : 1 ≤ 1 + a0 % 16 ∧ 1 + a0 % 16 ≤ 16 := by omega
  have m2 : 1 ≤ 1 + a1 % 8 ∧ 1 + a1 % 8 ≤ 8 := by omega
  have m3 : 1 ≤ 1 + a2 % 8 ∧ 1 + a2 % 8 ≤ 64 := by omega
  generalize 1 + a0 % 16 = win at m1 ⊢
  generalize 1 + a1 % 8 = wt at m2 ⊢
  generalize 1 + a2 % 8 = room at m3 ⊢
  clear e1 e2 e3 f1 f2 f3 f4 f5 f6
  refine (new_q (B := w.heap.size) B0.size m1 ⟨m2.1, by omega⟩ m3).mono ?_
  rintro r w2 ⟨l, σ0, rfl, h2, hF, c2⟩
  have B2 := bgo B0 c2 (by simp)
  clear B0 c2
  go_wp2_with fail
  obtain ⟨vin, hv0, I3, h3⟩ := start_in h2 B2.size
  rw [← hv0]
  have B3 := bgo B2 ((Ch.refl [] w2).alloc (.cells #[] 9)) (by simp)
  clear hv0 h2 B2
  generalize w2.alloc _ = w3 at I3 h3 B3 ⊢
  go_wp2_with fail
  go_loopw [10, 11, 12] (fun vi vd i wr => ∃ (j n : Nat) (In : List ByteArray) (σ : LSt) (dr : Int), vd = .int .i64 dr ∧ i = .int .i64 j ∧ j ≤ 200 ∧ j ≤ len ∧ InRow wr w.heap.size vi n In ∧ LI wr w.heap.size l vi.ownBlock σ ∧ Once win room In n σ dr j ∧ 0 ≤ dr ∧ Below w.heap.size w wr) (fun _ _ i _ => (200 - intOf i).toNat)
  case atStart => exact ⟨0, 0, [], σ0, 0, rfl, rfl, by omega, by omega, I3, h3, ⟨hF.calm.inv, hF.win, hF.room, by rw [hF.had, hF.calm.st]; rfl, by rw [hF.now]; omega, Nat.le_refl _⟩, by omega, B3⟩
  case round =>
    obtain ⟨j, n, In, σ, dr, rfl, rfl, hj, hjl, I, h, hOn, hdr0, hB⟩ := hrel
    clear I3 h3 B3 hF
    by_cases hlt : j < 200 ∧ j < len
    · obtain ⟨h200, hlen⟩ := hlt
      obtain ⟨b, off, rfl, hbb, c0, c1, c2, c3⟩ := (hA.below hB).at_ j hlen
      have hsz := hA.sz j hlen
      obtain ⟨q, τ, hpq⟩ : ∃ q τ, playS σ (f j) = (q, τ) := ⟨_, _, rfl⟩
      obtain ⟨m, nt, rm, n2, dr2, st, gs, ob, oh, gt, H⟩ := once_step hOn hdr0 I.2 (by omega) hpq
      generalize hIn2 : playIn In σ (f j) = In2 at H
      have hcut : (f j).k = 0 ∧ q = 0 → In2 = In ++ [cut (f j).s] := fun hk => by rw [← hIn2]; unfold playIn; rw [if_pos (by rw [hpq]; exact hk)]
      have hnot : ¬ ((f j).k = 0 ∧ q = 0) → In2 = In := fun hk => by rw [← hIn2]; unfold playIn; rw [if_neg (by rw [hpq]; exact hk)]
      have hdr := H.drain
      clear hIn2
      generalize f j = o at c0 c1 c2 c3 hsz hpq hcut hnot hdr
      have HPQ := Lib.hid hpq
      have hnj : n ≤ 200 := by have := hOn.len; omega
      clear hpq hA hOn
      obtain ⟨ok, os, on, oc⟩ := o
      simp only at c0 c1 c2 c3 hsz hcut hnot hdr
      have hcut' := Lib.hid hcut
      have hnot' := Lib.hid hnot
      have hdr' := Lib.hid hdr
      clear hcut hnot hdr
      have hOn2 := H.once
      have hO := Lib.hid H.out
      have hOl := Lib.hid H.outl
      have hnt := Lib.hid H.hnt
      have hrm := Lib.hid H.hrm
      have hmn := H.mn
      have hm0 : (m : Int) ≤ (n2 : Int) := by omega
      have hn2 := H.hn2
      have hntw := H.ntw
      have hst0 := H.st0
      have hst1 := H.st1
      have hrm0 := H.rm0
      have hE1 := H.e1
      have hE2 := H.e2
      have hE3 := H.e3
      have hd0 := H.d0
      have hd1 := H.d1
      have hj60 : (j : Int) < 200 := by omega
      have hjn : (j : Int) < (len : Int) := by omega
      have hn2l := Lib.hid H.n2l
      clear H
      go_wp2_with fail
      refine (play_p ⟨ok, os, on, oc⟩ h gs hB.size hsz ob oh HPQ.out).mono ?_
      rintro r w8 ⟨rfl, h8, p8⟩
      have I8 := I.chP p8
      have B8 := ChB.go hB p8.toB (Nat.le_refl _)
      have g0 : w8.cell? ⟨b, off + j * 4, none⟩ = some (.int .i64 ok) := (B8.cell (p := ⟨b, _, none⟩) hbb).trans ((hB.cell (p := ⟨b, _, none⟩) hbb).symm.trans c0)
      have g1 : w8.cell? ⟨b, off + j * 4 + 1, none⟩ = some (.string os) := (B8.cell (p := ⟨b, _, none⟩) hbb).trans ((hB.cell (p := ⟨b, _, none⟩) hbb).symm.trans c1)
      clear I h p8 hB c0 c1 c2 c3
      have hcase : (ok = 0 ∧ q = 0) ∨ (ok = 0 ∧ q ≠ 0) ∨ ok = 4 ∨ (ok ≠ 0 ∧ ok ≠ 4) := by omega
      rcases hcase with ⟨rfl, rfl⟩ | ⟨rfl, hq0⟩ | rfl | ⟨k0, k4⟩
      · have g0' := g0
        have hI2 := hcut'.out ⟨rfl, rfl⟩
        have hdd : dr2 = dr := by have := hdr'.out; rw [if_neg (by decide)] at this; omega
        subst hdd
        obtain ⟨s', hs'⟩ : ∃ s', os.extract 0 (min os.size 20) = s' := ⟨_, rfl⟩
        have hI3 : In2 = In ++ [s'] := by rw [hI2, ← hs']; rfl
        have HI := Lib.hid hI3
        obtain ⟨c, hc, hc2⟩ : ∃ c : Nat, (if (20 : Int) < (os.size : Int) then (20 : Int) else (os.size : Int)) = c ∧ c = min os.size 20 := ⟨min os.size 20, by split <;> omega, rfl⟩
        rw [← hc2] at hs'
        have hc3 : c ≤ os.size := by omega
        clear hc2 hI2 hI3 hcut' hnot' hdr'
        go_wp2_with fail
        have ca := (Ch.refl [] w8).alloc (.cells #[.string s'] 9)
        have cd := (Ch.refl [] (w8.alloc (.cells #[.string s'] 9))).drew
        have I8d := (I8.ch0 ca).ch0 cd
        have h8d := (h8.ch0 ca).ch0 cd
        have B8d := bgo (bgo B8 ca (by simp)) cd (by simp)
        have xx := (Reads.of_blk (Blk.new w8 9 #[.string s']) (size := 1) (n := 1) rfl).drew
        have z8 : w.heap.size ≤ (w8.alloc (.cells #[.string s'] 9)).drew.heap.size := B8d.size
        have hT1 : n + 1 ≤ maxLen := by unfold maxLen; omega
        have hT2 : (n + 1) * 16 ≤ 140737488355328 := by omega
        clear I8 h8 ca cd
        go_region_law (first
          | (refine step_append_any _ (by rfl) (.tmp 67) (.tmp 81) 68 (by rfl) w.heap.size 9 i0 _ 1 16 Try.underlying68 hi hz0 hz1 hz2 rfl (by decide) _ _ _ (by rfl) I8d.1 _ _ 1 1 _ (by rfl) xx (by simp [Value.oneCell']) hT1 hT2 z8 ?_; intro v5 w5 own5 grow5 loc5))
        all_goals
          clear g0 g1 hs' hc hc3
          have h9 := h8d.more grow5 own5 (loc5.imp id (fun h => by rw [h]; try simp))
          have B9 := below_grown B8d grow5 I8d.1 (Nat.le_refl _)
          have I9 := I8d.more own5
          have g9 : w5.cell? ⟨b, off + j * 4, none⟩ = some (.int .i64 0) := (B9.cell (p := ⟨b, _, none⟩) hbb).trans ((B8.cell (p := ⟨b, _, none⟩) hbb).symm.trans g0')
          rw [← HI.out] at I9
          have hnn : n + 1 = n2 := by have := I9.2; have := hn2l.out; omega
          rw [hnn] at I9 own5
          clear own5 grow5 loc5 I8d h8d B8d HI hnn B8 xx z8
          go_wp2_with fail
          refine (out_p (O := In2.take m) (n := m) h9 gt hO.out hOl.out).mono ?_
          rintro r w10 ⟨Ao, co, rfl, _, hRo, h10, p10⟩
          have I10 := I9.chP p10
          have B10 := ChB.go B9 p10.toB (Nat.le_refl _)
          clear h9 I9 B9 p10
          obtain ⟨Ai, ci, rfl, hci, hRi⟩ := I10.rd
          have hRt := hRi.take m
          clear hRi
          have hmc : m ≤ ci := by omega
          go_wp2_with fail
          refine (sameS_n hRo hRt hOl.out (by omega)).mono ?_
          rintro r w11 ⟨rfl, c11⟩
          have I11 := I10.ch0 c11
          have h11 := h10.ch0 c11
          have B11 := bgo B10 c11 (by simp)
          clear h10 I10 B10 c11 hRo hRt
          go_wp2_with fail
          refine (under_p (n := nt) h11 gt hnt.out).mono ?_
          rintro r w12 ⟨rfl, h12, p12⟩
          have I12 := I11.chP p12
          have B12 := ChB.go B11 p12.toB (Nat.le_refl _)
          clear h11 I11 B11 p12
          go_wp2_with fail
          refine (room_p (n := rm) h12 gt hrm.out).mono ?_
          rintro r w13 ⟨rfl, h13, p13⟩
          have I13 := I12.chP p13
          have B13 := ChB.go B12 p13.toB (Nat.le_refl _)
          clear h12 I12 B12 p13
          go_wp2_with fail
          refine (room_p (n := rm) h13 gt hrm.out).mono ?_
          rintro r w14 ⟨rfl, h14, p14⟩
          have I14 := I13.chP p14
          have B14 := ChB.go B13 p14.toB (Nat.le_refl _)
          clear h13 I13 B13 p14
          go_wp2_with fail
          refine (under_p (n := nt) h14 gt hnt.out).mono ?_
          rintro r w15 ⟨rfl, h15, p15⟩
          have I15 := I14.chP p15
          have B15 := ChB.go B14 p15.toB (Nat.le_refl _)
          clear h14 I14 B14 p15
          go_wp2_with fail
          go_roundw
          case rel => exact ⟨j + 1, n2, In2, τ, dr2, rfl, by simp, by omega, by omega, I15, h15, hOn2, hd0, B15⟩
          case measure => simp [intOf]; omega
      · have hI2 := hnot'.out (fun h => hq0 h.2)
        have hdd : dr2 = dr := by have := hdr'.out; rw [if_neg (by decide)] at this; omega
        subst hdd hI2
        have hnn : n2 = n := by have := I8.2; have := hn2l.out; omega
        subst hnn
        have qe : (q == 0) = false := by simp [hq0]
        have I9 := I8
        have h9 := h8
        have B9 := B8
        clear I8 h8 B8 hcut' hnot' hdr'
        go_wp2_with fail
        refine (out_p (O := In2.take m) (n := m) h9 gt hO.out hOl.out).mono ?_
        rintro r w10 ⟨Ao, co, rfl, _, hRo, h10, p10⟩
        have I10 := I9.chP p10
        have B10 := ChB.go B9 p10.toB (Nat.le_refl _)
        clear h9 I9 B9 p10
        obtain ⟨Ai, ci, rfl, hci, hRi⟩ := I10.rd
        have hRt := hRi.take m
        clear hRi
        have hmc : m ≤ ci := by omega
        go_wp2_with fail
        refine (sameS_n hRo hRt hOl.out (by omega)).mono ?_
        rintro r w11 ⟨rfl, c11⟩
        have I11 := I10.ch0 c11
        have h11 := h10.ch0 c11
        have B11 := bgo B10 c11 (by simp)
        clear h10 I10 B10 c11 hRo hRt
        go_wp2_with fail
        refine (under_p (n := nt) h11 gt hnt.out).mono ?_
        rintro r w12 ⟨rfl, h12, p12⟩
        have I12 := I11.chP p12
        have B12 := ChB.go B11 p12.toB (Nat.le_refl _)
        clear h11 I11 B11 p12
        go_wp2_with fail
        refine (room_p (n := rm) h12 gt hrm.out).mono ?_
        rintro r w13 ⟨rfl, h13, p13⟩
        have I13 := I12.chP p13
        have B13 := ChB.go B12 p13.toB (Nat.le_refl _)
        clear h12 I12 B12 p13
        go_wp2_with fail
        refine (room_p (n := rm) h13 gt hrm.out).mono ?_
        rintro r w14 ⟨rfl, h14, p14⟩
        have I14 := I13.chP p14
        have B14 := ChB.go B13 p14.toB (Nat.le_refl _)
        clear h13 I13 B13 p14
        go_wp2_with fail
        refine (under_p (n := nt) h14 gt hnt.out).mono ?_
        rintro r w15 ⟨rfl, h15, p15⟩
        have I15 := I14.chP p15
        have B15 := ChB.go B14 p15.toB (Nat.le_refl _)
        clear h14 I14 B14 p15
        go_wp2_with fail
        go_roundw
        case rel => exact ⟨j + 1, n2, In2, τ, dr2, rfl, by simp, by omega, by omega, I15, h15, hOn2, hd0, B15⟩
        case measure => simp [intOf]; omega
      · have hI2 := hnot'.out (fun h => by have := h.1; omega)
        have hdd : dr + q = dr2 := by have := hdr'.out; rw [if_pos rfl] at this; omega
        subst hI2
        have hnn : n2 = n := by have := I8.2; have := hn2l.out; omega
        subst hnn
        have I9 := I8
        have h9 := h8
        have B9 := B8
        clear I8 h8 B8 hcut' hnot' hdr'
        go_wp2_with fail
        refine (out_p (O := In2.take m) (n := m) h9 gt hO.out hOl.out).mono ?_
        rintro r w10 ⟨Ao, co, rfl, _, hRo, h10, p10⟩
        have I10 := I9.chP p10
        have B10 := ChB.go B9 p10.toB (Nat.le_refl _)
        clear h9 I9 B9 p10
        obtain ⟨Ai, ci, rfl, hci, hRi⟩ := I10.rd
        have hRt := hRi.take m
        clear hRi
        have hmc : m ≤ ci := by omega
        go_wp2_with fail
        refine (sameS_n hRo hRt hOl.out (by omega)).mono ?_
        rintro r w11 ⟨rfl, c11⟩
        have I11 := I10.ch0 c11
        have h11 := h10.ch0 c11
        have B11 := bgo B10 c11 (by simp)
        clear h10 I10 B10 c11 hRo hRt
        go_wp2_with fail
        refine (under_p (n := nt) h11 gt hnt.out).mono ?_
        rintro r w12 ⟨rfl, h12, p12⟩
        have I12 := I11.chP p12
        have B12 := ChB.go B11 p12.toB (Nat.le_refl _)
        clear h11 I11 B11 p12
        go_wp2_with fail
        refine (room_p (n := rm) h12 gt hrm.out).mono ?_
        rintro r w13 ⟨rfl, h13, p13⟩
        have I13 := I12.chP p13
        have B13 := ChB.go B12 p13.toB (Nat.le_refl _)
        clear h12 I12 B12 p13
        go_wp2_with fail
        refine (room_p (n := rm) h13 gt hrm.out).mono ?_
        rintro r w14 ⟨rfl, h14, p14⟩
        have I14 := I13.chP p14
        have B14 := ChB.go B13 p14.toB (Nat.le_refl _)
        clear h13 I13 B13 p14
        go_wp2_with fail
        refine (under_p (n := nt) h14 gt hnt.out).mono ?_
        rintro r w15 ⟨rfl, h15, p15⟩
        have I15 := I14.chP p15
        have B15 := ChB.go B14 p15.toB (Nat.le_refl _)
        clear h14 I14 B14 p15
        go_wp2_with fail
        go_roundw
        case rel => exact ⟨j + 1, n2, In2, τ, dr2, rfl, by simp, by omega, by omega, I15, h15, hOn2, hd0, B15⟩
        case measure => simp [intOf]; omega
      · have hI2 := hnot'.out (fun h => k0 h.1)
        have hdd : dr2 = dr := by have := hdr'.out; rw [if_neg k4] at this; omega
        subst hdd hI2
        have hnn : n2 = n := by have := I8.2; have := hn2l.out; omega
        subst hnn
        have k0e : (ok == 0) = false := by simp [k0]
        have k4e : (ok == 4) = false := by simp [k4]
        have I9 := I8
        have h9 := h8
        have B9 := B8
        clear I8 h8 B8 hcut' hnot' hdr'
        go_wp2_with fail
        refine (out_p (O := In2.take m) (n := m) h9 gt hO.out hOl.out).mono ?_
        rintro r w10 ⟨Ao, co, rfl, _, hRo, h10, p10⟩
        have I10 := I9.chP p10
        have B10 := ChB.go B9 p10.toB (Nat.le_refl _)
        clear h9 I9 B9 p10
        obtain ⟨Ai, ci, rfl, hci, hRi⟩ := I10.rd
        have hRt := hRi.take m
        clear hRi
        have hmc : m ≤ ci := by omega
        go_wp2_with fail
        refine (sameS_n hRo hRt hOl.out (by omega)).mono ?_
        rintro r w11 ⟨rfl, c11⟩
        have I11 := I10.ch0 c11
        have h11 := h10.ch0 c11
        have B11 := bgo B10 c11 (by simp)
        clear h10 I10 B10 c11 hRo hRt
        go_wp2_with fail
        refine (under_p (n := nt) h11 gt hnt.out).mono ?_
        rintro r w12 ⟨rfl, h12, p12⟩
        have I12 := I11.chP p12
        have B12 := ChB.go B11 p12.toB (Nat.le_refl _)
        clear h11 I11 B11 p12
        go_wp2_with fail
        refine (room_p (n := rm) h12 gt hrm.out).mono ?_
        rintro r w13 ⟨rfl, h13, p13⟩
        have I13 := I12.chP p13
        have B13 := ChB.go B12 p13.toB (Nat.le_refl _)
        clear h12 I12 B12 p13
        go_wp2_with fail
        refine (room_p (n := rm) h13 gt hrm.out).mono ?_
        rintro r w14 ⟨rfl, h14, p14⟩
        have I14 := I13.chP p14
        have B14 := ChB.go B13 p14.toB (Nat.le_refl _)
        clear h13 I13 B13 p14
        go_wp2_with fail
        refine (under_p (n := nt) h14 gt hnt.out).mono ?_
        rintro r w15 ⟨rfl, h15, p15⟩
        have I15 := I14.chP p15
        have B15 := ChB.go B14 p15.toB (Nat.le_refl _)
        clear h14 I14 B14 p15
        go_wp2_with fail
        go_roundw
        case rel => exact ⟨j + 1, n2, In2, τ, dr2, rfl, by simp, by omega, by omega, I15, h15, hOn2, hd0, B15⟩
        case measure => simp [intOf]; omega
    · have hnl : ¬ ((j : Int) < (len : Int)) ∨ ((j : Int) < (len : Int) ∧ ¬ ((j : Int) < 200)) := by omega
      clear hOn hA hlt h I
      rcases hnl with hnl | ⟨hnl, hnk⟩
      all_goals
        go_wp2_with fail
        refine (fixed14 _).mono ?_
        rintro r w9 ⟨rfl, hb9⟩
        have B9 := hB.trans (hb9.mono hB.size)
        go_wp2_with fail
        go_ret
        exact ⟨rfl, B9⟩

theorem own : ownKnob Try.prog.godebug = none := by kernel_rfl
theorem laidOut : laidOutB Try.prog = true := by kernel_rfl

set_option maxRecDepth 100000 in
theorem lifted (os : Os) (started : os.Started) (H : Type) (enc : TypeId × Value → H) :
    ReturnsInHanded {} Try.checked os 13 .any (Rows.lineOnceSpec.pre6 enc Try.prog Try.f13 Rows.lineOnceRow.domain false) (Rows.lineOnceSpec.post enc Try.prog Try.f13 false true false false) := by
  refine returnsInHanded_of_change (C := Try.checked) own started (by kernel_rfl) Try.func13
    (ChangeSpec.witness6 (enc := enc) (C := Try.checked) false ⟨#[], #[.agg #[.int .i64 0, .int .i64 0, .int .i64 0], .slice none 0 0], []⟩ 8 (by kernel_rfl) (by kernel_rfl) (by kernel_rfl) (by kernel_rfl)) ?_
  intro W base args ds gs before hval0 hW hcnd _
  have hval : ∀ (j : Nat) t v, Try.f13.params[j]? = some t → args[j]? = some v → Value.okWide Try.prog W .any base t v := hval0
  have hW' := hW
  obtain ⟨p, q, hA0, hV, rfl, hfz, hnd⟩ := hW
  have hA : DataW.TrodAll enc Try.prog W 0 (fun _ => true) true Try.f13.params.toList args.toList ds p := hA0
  rw [Try.params13] at hA hval
  obtain ⟨v0, vs0, d0, ds0, p0, q0, hargs, rfl, rfl, h0, r0⟩ := trodAll_cons hA
  obtain ⟨v1, vs1, d1, ds1, p1, q1, rfl, rfl, rfl, h1, r1⟩ := trodAll_cons r0
  obtain ⟨rfl, rfl, rfl⟩ := trodAll_nil r1
  obtain rfl : args = #[v0, v1] := by cases args; simp_all
  obtain ⟨rfl, rfl⟩ := trodVars_none hV
  obtain ⟨a0, a1, a2, hv0⟩ := open_three (hval 0 78 v0 rfl rfl) h0
  obtain ⟨A1, len1, cap1, f1, hv1, hm1, hO1⟩ := open_ops14 (hval 1 79 v1 rfl rfl) h1
  clear hA0 hval0
  have hlt0 : ∀ x ∈ p0, x.block < W.heap.size := fun x hx => hW'.lt x (by simp [hx])
  have hlt1 : ∀ x ∈ p1, x.block < W.heap.size := fun x hx => hW'.lt x (by simp [hx])
  have hstay : ∀ (W' : World), Below W.heap.size W W' → ∀ sp : Nat → Bool, (∀ p ∈ (p0 ++ (p1 ++ ([]))) ++ [], sp p.block = true) → DataW.TrodAll enc Try.prog W' 0 sp true [78, 79] [v0, v1] [d0, d1] (p0 ++ (p1 ++ ([]))) := fun W' hg sp hsp =>
    (trodAll_cons_mk (WideElems.Trod_stays laidOut (by kernel_rfl) (of_decide_eq_true (by kernel_rfl)) h0 (fun x hx => hg.same (hlt0 x hx)) (fun x hx => hsp x (by simp [hx]))) (trodAll_cons_mk (WideElems.Trod_stays laidOut (by kernel_rfl) (of_decide_eq_true (by kernel_rfl)) h1 (fun x hx => hg.same (hlt1 x hx)) (fun x hx => hsp x (by simp [hx]))) trodAll_mk0))
  have hwalk := walk a0 a1 a2 A1 len1 cap1 f1 W hm1 hO1
  rw [← hv0, ← hv1] at hwalk
  refine hwalk.mono fun e W' ⟨he, hg⟩ => ?_
  subst he
  exact ⟨_, rfl, post_of_below (pa := p0 ++ (p1 ++ ([]))) (pv := []) hW' (fun _ _ _ => (trodAll_cons_mk (shut_bool Try.underlying4 _) trodAll_mk0)) (fun sp hsp => hstay W' hg sp hsp) (fun _ _ => rfl) rfl
    hg (ok_one (by kernel_rfl) rfl (okWide_bool_mk Try.underlying4 _))⟩

theorem over : Rows.lineOnceRow.holds Try.pinned (OpenSpec.ofChange Rows.lineOnceSpec) :=
  OpenClaim.holds_of_wide 13 Try.f13 rfl rfl rfl rfl rfl rfl rfl ⟨rfl, rfl, rfl, rfl, rfl⟩ rfl rfl rfl rfl rfl (by kernel_rfl) Try.func13 (by kernel_rfl)
    (of_decide_eq_true (by kernel_rfl)) (by unfold Func.isWrapper; first | (rw [if_pos (by decide +kernel)]; kernel_rfl) | (rw [if_neg (by decide +kernel)]; exact ⟨rfl, rfl⟩))
    (fun os started H enc _ => lifted os started H enc)

theorem proved : Rows.LineOnceSaid :=
  over
end Go.Proofs.Ytejmcfgmopijkaa.lineOnce
#print axioms Go.Proofs.Ytejmcfgmopijkaa.lineOnce.proved
