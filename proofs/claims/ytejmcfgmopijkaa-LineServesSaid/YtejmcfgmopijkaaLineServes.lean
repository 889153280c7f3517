/- Whatever has happened: when nothing is lost any more, and the store is drained, all texts that were pushed come, and nothing is under way, within five rounds for each text. No conditions. -/
import Derived.Test.YtejmcfgmopijkaaRows
import Derived.WalkKit
import Derived.ProofKit
import Derived.OpenShut
import Derived.ShutString
import Derived.Carry
import Derived.Deep.RegionHeld3
import Derived.BigQuiet
import Derived.IntWalk
import Derived.Deep.Cut
import Derived.Deep.DeepCutAuto
import Derived.StillTailTactics
import Derived.Deep.RegionLaw
import Derived.Test.YtejmcfgmopijkaaPost
import Derived.Test.YtejmcfgmopijkaaNum
import Derived.Test.YtejmcfgmopijkaaLOnce
namespace Go.Proofs.Ytejmcfgmopijkaa.lineServes
open Go.ChangeShapes Go.WideShapes Go.ChangeAt Go.RowKit
set_option linter.unusedVariables false
set_option linter.unusedSimpArgs false

/-- A line that is played: ahead of the j'th call. -/
structure Plyd (In : List ByteArray) (n : Nat) (wt : Int) (σ : LSt) (j : Nat) : Prop where
  inv : Inv In σ
  wt : σ.wt = wt
  now : σ.now ≤ 1000 * j
  len : n ≤ j
/-- .. behind it. -/
theorem plyd_step {In : List ByteArray} {n : Nat} {wt : Int} {σ : LSt} {j : Nat} {o : Op14} {q : Int} {τ : LSt} (h : Plyd In n wt σ j) (hn : In.length = n) (hj : j ≤ 100) (hp : playS σ o = (q, τ)) :
    LG σ ∧ σ.Out.length < 1000 ∧ σ.had < 1000000 ∧ Plyd (playIn In σ o) (playIn In σ o).length wt τ (j + 1) := by
  obtain ⟨inv, hw, hnow, hlen⟩ := h
  have i2 := inv_play inv o
  have sty := sty_play σ o
  rw [hp] at i2 sty
  dsimp only at i2 sty
  have hpl := playIn_len In σ o
  have hol := inv.outlen
  have hhn := inv.hn
  exact ⟨inv.bnd (by omega) (by omega), by omega, by omega, ⟨i2, by rw [sty.wt, hw], by have := sty.n1; omega, by omega⟩⟩
/-- The serving. -/
structure Serv (In : List ByteArray) (n : Nat) (σ : LSt) (wt : Int) : Prop where
  inv : Inv In σ
  hwt : σ.wt = wt
  w8 : wt ≤ 8
  now : σ.now ≤ 1000000
  len : In.length = n
  n100 : n ≤ 100
theorem Serv.rnd_ok {In : List ByteArray} {n : Nat} {σ : LSt} {wt : Int} (h : Serv In n σ wt) (i j : Nat) (hi : i ≤ 100) : LG (itn j (rnd 64 i σ)) ∧ (itn j (rnd 64 i σ)).Out.length < 1000 ∧ (itn j (rnd 64 i σ)).had < 1000000 ∧
    LG (comeS (itn j (rnd 64 i σ)) 0).2 ∧ LG (backS (comeS (itn j (rnd 64 i σ)) 0).2 0).2 ∧ LG (drainS (backS (comeS (itn j (rnd 64 i σ)) 0).2 0).2 64).2 := by
  have i1 := inv_rnd h.inv 64 i
  have i2 := inv_itn i1 j
  have hn1 := (rnd_wt h.inv 64 i).2.1
  have hn2 := (itn_parts i1 j).2.1
  have hnw : (itn j (rnd 64 i σ)).now ≤ 1000000000 := by rw [hn2]; have := h.now; omega
  have hl := h.len
  have hl2 := h.n100
  have c1 := (come_parts (itn j (rnd 64 i σ))).2.1
  have c2 := (back_parts (comeS (itn j (rnd 64 i σ)) 0).2).2.1
  have i3 := inv_come i2 0
  have i4 := inv_back i3 0
  have i5 := inv_drain i4 64
  have c3 := (drain_parts (backS (comeS (itn j (rnd 64 i σ)) 0).2 0).2 i4.s0 (by have := i4.s1; have := i4.r1; omega)).2.1
  have o1 := i2.outlen
  have o2 := i2.hn
  exact ⟨i2.bnd (by omega) hnw, by omega, by omega, i3.bnd (by omega) (by rw [c1]; exact hnw), i4.bnd (by omega) (by rw [c2, c1]; exact hnw), i5.bnd (by omega) (by rw [c3, c2, c1]; exact hnw)⟩
theorem Serv.done {In : List ByteArray} {n : Nat} {σ : LSt} {wt : Int} (h : Serv In n σ wt) (i : Nat) (hi : 3 ≤ i) (hi2 : i ≤ 100) : LG (rnd 64 i σ) ∧ (rnd 64 i σ).Out = In ∧ (rnd 64 i σ).T.length = 0 := by
  obtain ⟨k, rfl⟩ : ∃ k, i = k + 3 := ⟨i - 3, by omega⟩
  have hT := served h.inv (by rw [h.hwt]; exact h.w8) 64 (by omega) k
  exact ⟨(h.rnd_ok (k + 3) 0 hi2).1, served_out (inv_rnd h.inv 64 (k + 3)) hT, by rw [hT]; rfl⟩
/-- The line in its i'th round, behind j turns; by name, so that nothing unfolds it. -/
def At (w : World) (B l : Nat) (X : Option Nat) (σ : LSt) (i j : Nat) : Prop := LI w B l X (itn j (rnd 64 i σ))
structure Turn (w : World) (B l : Nat) (X : Option Nat) (σ : LSt) (i j : Nat) (s a b c d : LSt) (q1 q2 q3 q4 : Int) : Prop where
  e1 : comeS s 0 = (q1, a)
  e2 : backS a 0 = (q2, b)
  e3 : drainS b 64 = (q3, c)
  e4 : backS c 0 = (q4, d)
  li : LI w B l X s
  g1 : LG s
  o1 : s.Out.length < 1000
  o2 : s.had < 1000000
  g2 : LG a
  g3 : LG b
  g4 : LG c
  next : ∀ w', LI w' B l X d → At w' B l X σ i (j + 1)
theorem Serv.turn {In : List ByteArray} {n : Nat} {σ : LSt} {wt : Int} (h : Serv In n σ wt) {w : World} {B l : Nat} {X : Option Nat} {i j : Nat} (hA : At w B l X σ i j) (hi : i ≤ 100) : ∃ s a b c d q1 q2 q3 q4, Turn w B l X σ i j s a b c d q1 q2 q3 q4 := by
  obtain ⟨g1, o1, o2, g2, g3, g4⟩ := h.rnd_ok i j hi
  exact ⟨_, _, _, _, _, _, _, _, _, ⟨rfl, rfl, rfl, rfl, hA, g1, o1, o2, g2, g3, g4, fun _ h => h⟩⟩
theorem Serv.send {In : List ByteArray} {n : Nat} {σ : LSt} {wt : Int} (h : Serv In n σ wt) {w : World} {B l : Nat} {X : Option Nat} {i : Nat} (hA : At w B l X σ i 64) (hi : i ≤ 100) : ∃ s d q, sendS s 8 = (q, d) ∧ LI w B l X s ∧ LG s ∧ ∀ w', LI w' B l X d → At w' B l X σ (i + 1) 0 :=
  ⟨_, _, _, rfl, hA, (h.rnd_ok i 64 hi).1, fun _ h => h⟩

set_option maxHeartbeats 16000000 in
set_option maxRecDepth 100000 in
theorem walk (a0 a1 a2 : Int) (A : Option Addr) (len cap : Nat) (f : Nat → Op14) (w : World) (hl : len ≤ maxLen) (hA : Ops14 w w.heap.size A len f) :
    Calls Try.prog 14 #[.agg #[.int .i64 a0, .int .i64 a1, .int .i64 a2], .slice A len cap] w fun e w' => e = .returned (.bool true) ∧ Below w.heap.size w w' := by
  obtain ⟨i0, hi, hz0, hz1, hz2⟩ := info_parts info9
  unfold maxLen at hl
  have e1 := and15 a0
  have e2 := and7 a1
  have e3 := and7 a2
  have f1 : 0 ≤ a0 % 16 := by omega
  have f2 : a0 % 16 ≤ 15 := by omega
  have f3 : 0 ≤ a1 % 8 := by omega
  have f4 : a1 % 8 ≤ 7 := by omega
  have f5 : 0 ≤ a2 % 8 := by omega
  have f6 : a2 % 8 ≤ 7 := by omega
  go_enter Try.func14, Try.ntmps14
  go_wp2_with fail
  go_quiet (fail)
  rename_i nq
  have cd := ((Ch.refl [] (w.alloc (.cells #[.int .i64 a0, .int .i64 a1, .int .i64 a2] 78))).drewN nq)
  have B0 : Below w.heap.size w ((w.alloc (.cells #[.int .i64 a0, .int .i64 a1, .int .i64 a2] 78)).drewN nq) := bgo (bgo (Below.refl _ _) ((Ch.refl [] w).alloc _) (by simp)) cd (by simp)
  go_wp2_with fail
  generalize (w.alloc _).drewN nq = w1 at B0 ⊢
  clear cd
  have m1 : 1 ≤ 1 + a0 % 16 ∧ 1 + a0 % 16 ≤ 16 := by omega
  have m2 : 1 ≤ 1 + a1 % 8 ∧ 1 + a1 % 8 ≤ 8 := by omega
  have m3 : 1 ≤ 1 + a2 % 8 ∧ 1 + a2 % 8 ≤ 64 := by omega
  generalize 1 + a0 % 16 = win at m1 ⊢
  generalize 1 + a1 % 8 = wt at m2 ⊢
  generalize 1 + a2 % 8 = room at m3 ⊢
  clear e1 e2 e3 f1 f2 f3 f4 f5 f6
  refine (new_q (B := w.heap.size) B0.size m1 ⟨m2.1, by omega⟩ m3).mono ?_
  rintro r w2 ⟨l, σ0, rfl, h2, hF, c2⟩
  have B2 := bgo B0 c2 (by simp)
  clear B0 c2
  go_wp2_with fail
  obtain ⟨vin, hv0, I3, h3⟩ := start_in h2 B2.size
  rw [← hv0]
  have B3 := bgo B2 ((Ch.refl [] w2).alloc (.cells #[] 9)) (by simp)
  clear hv0 h2 B2
  generalize w2.alloc _ = w3 at I3 h3 B3 ⊢
  go_wp2_with fail
  go_loopw [10, 11] (fun vi i wr => ∃ (j n : Nat) (In : List ByteArray) (σ : LSt), i = .int .i64 j ∧ j ≤ 100 ∧ j ≤ len ∧ InRow wr w.heap.size vi n In ∧ LI wr w.heap.size l vi.ownBlock σ ∧ Plyd In n wt σ j ∧ Below w.heap.size w wr) (fun _ i _ => (100 - intOf i).toNat)
  case atStart => exact ⟨0, 0, [], σ0, rfl, by omega, by omega, I3, h3, ⟨hF.calm.inv, hF.wt, by rw [hF.now]; omega, Nat.le_refl _⟩, B3⟩
  case round =>
    obtain ⟨j, n, In, σ, rfl, hj, hjl, I, h, hOn, hB⟩ := hrel
    clear I3 h3 B3 hF
    by_cases hlt : j < 100 ∧ j < len
    · obtain ⟨h200, hlen⟩ := hlt
      obtain ⟨b, off, rfl, hbb, c0, c1, c2, c3⟩ := (hA.below hB).at_ j hlen
      have hsz := hA.sz j hlen
      obtain ⟨q, τ, hpq⟩ : ∃ q τ, playS σ (f j) = (q, τ) := ⟨_, _, rfl⟩
      obtain ⟨gs, ob, oh, hOn2⟩ := plyd_step hOn I.2 (by omega) hpq
      have hnj : n ≤ 100 := by have := hOn.len; omega
      generalize hIn2 : playIn In σ (f j) = In2 at hOn2
      have hcut : (f j).k = 0 ∧ q = 0 → In2 = In ++ [cut (f j).s] := fun hk => by rw [← hIn2]; unfold playIn; rw [if_pos (by rw [hpq]; exact hk)]
      have hnot : ¬ ((f j).k = 0 ∧ q = 0) → In2 = In := fun hk => by rw [← hIn2]; unfold playIn; rw [if_neg (by rw [hpq]; exact hk)]
      clear hIn2
      generalize f j = o at c0 c1 c2 c3 hsz hpq hcut hnot
      have HPQ := Lib.hid hpq
      clear hpq hA hOn
      obtain ⟨ok, os, on, oc⟩ := o
      simp only at c0 c1 c2 c3 hsz hcut hnot
      have hcut' := Lib.hid hcut
      have hnot' := Lib.hid hnot
      clear hcut hnot
      have hj60 : (j : Int) < 100 := by omega
      have hjn : (j : Int) < (len : Int) := by omega
      go_wp2_with fail
      refine (play_p ⟨ok, os, on, oc⟩ h gs hB.size hsz ob oh HPQ.out).mono ?_
      rintro r w8 ⟨rfl, h8, p8⟩
      have I8 := I.chP p8
      have B8 := ChB.go hB p8.toB (Nat.le_refl _)
      have g0 : w8.cell? ⟨b, off + j * 4, none⟩ = some (.int .i64 ok) := (B8.cell (p := ⟨b, _, none⟩) hbb).trans ((hB.cell (p := ⟨b, _, none⟩) hbb).symm.trans c0)
      have g1 : w8.cell? ⟨b, off + j * 4 + 1, none⟩ = some (.string os) := (B8.cell (p := ⟨b, _, none⟩) hbb).trans ((hB.cell (p := ⟨b, _, none⟩) hbb).symm.trans c1)
      clear I h p8 hB c0 c1 c2 c3
      have hcase : (ok = 0 ∧ q = 0) ∨ (ok = 0 ∧ q ≠ 0) ∨ ok ≠ 0 := by omega
      rcases hcase with ⟨rfl, rfl⟩ | ⟨rfl, hq0⟩ | k0
      · have hI2 := hcut'.out ⟨rfl, rfl⟩
        obtain ⟨s', hs'⟩ : ∃ s', os.extract 0 (min os.size 20) = s' := ⟨_, rfl⟩
        have hI3 : In2 = In ++ [s'] := by rw [hI2, ← hs']; rfl
        have HI := Lib.hid hI3
        obtain ⟨c, hc, hc2⟩ : ∃ c : Nat, (if (20 : Int) < (os.size : Int) then (20 : Int) else (os.size : Int)) = c ∧ c = min os.size 20 := ⟨min os.size 20, by split <;> omega, rfl⟩
        rw [← hc2] at hs'
        have hc3 : c ≤ os.size := by omega
        clear hc2 hI2 hI3 hcut' hnot'
        go_wp2_with fail
        have ca := (Ch.refl [] w8).alloc (.cells #[.string s'] 9)
        have cd := (Ch.refl [] (w8.alloc (.cells #[.string s'] 9))).drew
        have I8d := (I8.ch0 ca).ch0 cd
        have h8d := (h8.ch0 ca).ch0 cd
        have B8d := bgo (bgo B8 ca (by simp)) cd (by simp)
        have xx := (Reads.of_blk (Blk.new w8 9 #[.string s']) (size := 1) (n := 1) rfl).drew
        have z8 : w.heap.size ≤ (w8.alloc (.cells #[.string s'] 9)).drew.heap.size := B8d.size
        have hT1 : n + 1 ≤ maxLen := by unfold maxLen; omega
        have hT2 : (n + 1) * 16 ≤ 140737488355328 := by omega
        clear I8 h8 ca cd
        go_region_law (first
          | (refine step_append_any _ (by rfl) (.tmp 68) (.tmp 82) 68 (by rfl) w.heap.size 9 i0 _ 1 16 Try.underlying68 hi hz0 hz1 hz2 rfl (by decide) _ _ _ (by rfl) I8d.1 _ _ 1 1 _ (by rfl) xx (by simp [Value.oneCell']) hT1 hT2 z8 ?_; intro v5 w5 own5 grow5 loc5))
        all_goals
          clear g0 g1 hs' hc hc3
          have h9 := h8d.more grow5 own5 (loc5.imp id (fun h => by rw [h]; try simp))
          have B9 := below_grown B8d grow5 I8d.1 (Nat.le_refl _)
          have I9 := I8d.more own5
          rw [← HI.out] at I9
          have hL2 := I9.2
          rw [hL2] at hOn2
          clear own5 grow5 loc5 I8d h8d B8d HI B8 xx z8 hL2
          go_wp2_with fail
          go_roundw
          case rel => exact ⟨j + 1, n + 1, In2, τ, by simp, by omega, by omega, I9, h9, hOn2, B9⟩
          case measure => simp [intOf]; omega
      · have hI2 := hnot'.out (fun h => hq0 h.2)
        subst hI2
        have qe : (q == 0) = false := by simp [hq0]
        have hL2 := I8.2
        rw [hL2] at hOn2
        clear hcut' hnot' hL2
        go_wp2_with fail
        go_roundw
        case rel => exact ⟨j + 1, n, In2, τ, by simp, by omega, by omega, I8, h8, hOn2, B8⟩
        case measure => simp [intOf]; omega
      · have hI2 := hnot'.out (fun h => k0 h.1)
        subst hI2
        have k0e : (ok == 0) = false := by simp [k0]
        have hL2 := I8.2
        rw [hL2] at hOn2
        clear hcut' hnot' hL2
        go_wp2_with fail
        go_roundw
        case rel => exact ⟨j + 1, n, In2, τ, by simp, by omega, by omega, I8, h8, hOn2, B8⟩
        case measure => simp [intOf]; omega
    · have hS : Serv In n σ wt := ⟨hOn.inv, hOn.wt, m2.2, by have := hOn.now; omega, I.2, by have := hOn.len; omega⟩
      have gs := (hS.rnd_ok 0 0 (by omega)).1
      have htw : (σ.T.length : Int) ≤ 16 := by have := hOn.inv.tw; have := hOn.inv.w2; omega
      generalize hnt : σ.T.length = nt at htw
      have HNT := Lib.hid hnt
      have hcount : ∃ N : Nat, 5 * ((nt : Int) + 1) = N ∧ 3 ≤ N ∧ N ≤ 100 := ⟨5 * (nt + 1), by omega, by omega, by omega⟩
      obtain ⟨N, hN, hN3, hN100⟩ := hcount
      have hnl : ¬ ((j : Int) < (len : Int)) ∨ ((j : Int) < (len : Int) ∧ ¬ ((j : Int) < 100)) := by omega
      clear hOn hA hlt hnt
      obtain ⟨Ai, ci, rfl, hci, _⟩ := I.rd
      rcases hnl with hnl | ⟨hnl, hnk⟩
      all_goals
        go_wp2_with fail
        refine (under_p (n := nt) h gs HNT.out).mono ?_
        rintro r w4 ⟨rfl, h4, p4⟩
        have I4 := I.chP p4
        have B4 := ChB.go hB p4.toB (Nat.le_refl _)
        have h4' : At w4 w.heap.size l (Value.slice Ai n ci).ownBlock σ 0 0 := h4
        clear h h4 I hB p4 gs
        go_wp2_with fail
        go_loopw [14] (fun i wr => ∃ k : Nat, i = .int .i64 k ∧ k ≤ N ∧ InRow wr w.heap.size (.slice Ai n ci) n In ∧ At wr w.heap.size l (Value.slice Ai n ci).ownBlock σ k 0 ∧ Below w.heap.size w wr) (fun i _ => N - (intOf i).toNat)
        case atStart => exact ⟨0, rfl, Nat.zero_le _, I4, h4', B4⟩
        case round =>
          obtain ⟨k, rfl, hk, I5, h5, B5⟩ := hrel
          clear I4 h4' B4
          by_cases hkN : (k : Int) < (N : Int)
          · go_wp2_with fail
            go_loopw [15] (fun i wr => ∃ m : Nat, i = .int .i64 m ∧ m ≤ 64 ∧ InRow wr w.heap.size (.slice Ai n ci) n In ∧ At wr w.heap.size l (Value.slice Ai n ci).ownBlock σ k m ∧ Below w.heap.size w wr) (fun i _ => 64 - (intOf i).toNat)
            case atStart => exact ⟨0, rfl, by omega, I5, h5, B5⟩
            case round =>
              obtain ⟨m, rfl, hm, I6, h6, B6⟩ := hrel
              clear I5 h5 B5
              by_cases hm64 : (m : Int) < 64
              · obtain ⟨s, a, b, c, d, q1, q2, q3, q4, T⟩ := hS.turn h6 (by omega)
                have h6 := T.li
                go_wp2_with fail
                refine (come_p 0 h6 T.g1 B6.size T.o1 T.o2 T.e1).mono ?_
                rintro r w7 ⟨rfl, h7, p7⟩
                have I7 := I6.chP p7
                have B7 := ChB.go B6 p7.toB (Nat.le_refl _)
                clear h6 I6 B6 p7
                go_wp2_with fail
                refine (back_p 0 h7 T.g2 B7.size T.e2).mono ?_
                rintro r w8 ⟨rfl, h8, p8⟩
                have I8 := I7.chP p8
                have B8 := ChB.go B7 p8.toB (Nat.le_refl _)
                clear h7 I7 B7 p8
                go_wp2_with fail
                refine (drain_p 64 h8 T.g3 B8.size T.e3).mono ?_
                rintro r w9 ⟨rfl, h9, p9⟩
                have I9 := I8.chP p9
                have B9 := ChB.go B8 p9.toB (Nat.le_refl _)
                clear h8 I8 B8 p9
                go_wp2_with fail
                refine (back_p 0 h9 T.g4 B9.size T.e4).mono ?_
                rintro r w10 ⟨rfl, h10, p10⟩
                have I10 := I9.chP p10
                have B10 := ChB.go B9 p10.toB (Nat.le_refl _)
                have h11 := T.next _ h10
                clear h9 I9 B9 p10 h10 T
                go_wp2_with fail
                go_roundw
                case rel => exact ⟨m + 1, by simp, by omega, I10, h11, B10⟩
                case measure => simp [intOf]; omega
              · obtain rfl : m = 64 := by omega
                obtain ⟨s, d, q, he, h7, g7, hnx⟩ := hS.send h6 (by omega)
                have HE := Lib.hid he
                have HNX := Lib.hid hnx
                clear h6 hm64 hm he hnx
                go_wp2_with fail
                refine (send_p 8 h7 g7 B6.size HE.out).mono ?_
                rintro r w8 ⟨rfl, h8, p8⟩
                have I8 := I6.chP p8
                have B8 := ChB.go B6 p8.toB (Nat.le_refl _)
                have h9 := HNX.out _ h8
                clear h7 I6 B6 p8 h8 HNX HE
                go_wp2_with fail
                go_roundw
                case rel => exact ⟨k + 1, by simp, by omega, I8, h9, B8⟩
                case measure => simp [intOf]; omega
          · obtain rfl : k = N := by omega
            obtain ⟨g9, ho, hT⟩ := hS.done k (by omega) (by omega)
            have h6 : LI wr w.heap.size l (Value.slice Ai n ci).ownBlock (rnd 64 k σ) := h5
            have HO := Lib.hid ho
            have HT := Lib.hid hT
            have HL := Lib.hid hS.len
            clear h5 ho hT
            generalize rnd 64 k σ = σe at h6 g9 HO HT
            go_wp2_with fail
            refine (out_p (O := In) (n := n) h6 g9 HO.out HL.out).mono ?_
            rintro r w7 ⟨Ao, co, rfl, _, hRo, h7, p7⟩
            have I7 := I5.chP p7
            have B7 := ChB.go B5 p7.toB (Nat.le_refl _)
            clear I5 h6 B5 p7
            obtain ⟨Ai2, ci2, he, _, hRi⟩ := I7.rd
            injection he with e1 _ e2
            subst e1 e2
            have hn100 := hS.n100
            go_wp2_with fail
            refine (sameS_n hRo hRi HL.out (by omega)).mono ?_
            rintro r w8 ⟨rfl, c8⟩
            have h8 := h7.ch0 c8
            have B8 := bgo B7 c8 (by simp)
            clear B7 c8 hRo hRi I7 h7
            go_wp2_with fail
            refine (under_p (n := 0) h8 g9 HT.out).mono ?_
            rintro r w9 ⟨rfl, h9, p9⟩
            have B9 := ChB.go B8 p9.toB (Nat.le_refl _)
            clear h8 B8 p9 h9
            go_wp2_with fail
            refine (fixed14 _).mono ?_
            rintro r w10 ⟨rfl, hb10⟩
            have B10 := B9.trans (hb10.mono B9.size)
            go_wp2_with fail
            go_ret
            exact ⟨rfl, B10⟩

theorem own : ownKnob Try.prog.godebug = none := by kernel_rfl
theorem laidOut : laidOutB Try.prog = true := by kernel_rfl

set_option maxRecDepth 100000 in
theorem lifted (os : Os) (started : os.Started) (H : Type) (enc : TypeId × Value → H) :
    ReturnsInHanded {} Try.checked os 14 .any (Rows.lineServesSpec.pre6 enc Try.prog Try.f14 Rows.lineServesRow.domain false) (Rows.lineServesSpec.post enc Try.prog Try.f14 false true false false) := by
  refine returnsInHanded_of_change (C := Try.checked) own started (by kernel_rfl) Try.func14
    (ChangeSpec.witness6 (enc := enc) (C := Try.checked) false ⟨#[], #[.agg #[.int .i64 0, .int .i64 0, .int .i64 0], .slice none 0 0], []⟩ 8 (by kernel_rfl) (by kernel_rfl) (by kernel_rfl) (by kernel_rfl)) ?_
  intro W base args ds gs before hval0 hW hcnd _
  have hval : ∀ (j : Nat) t v, Try.f14.params[j]? = some t → args[j]? = some v → Value.okWide Try.prog W .any base t v := hval0
  have hW' := hW
  obtain ⟨p, q, hA0, hV, rfl, hfz, hnd⟩ := hW
  have hA : DataW.TrodAll enc Try.prog W 0 (fun _ => true) true Try.f14.params.toList args.toList ds p := hA0
  rw [Try.params14] at hA hval
  obtain ⟨v0, vs0, d0, ds0, p0, q0, hargs, rfl, rfl, h0, r0⟩ := trodAll_cons hA
  obtain ⟨v1, vs1, d1, ds1, p1, q1, rfl, rfl, rfl, h1, r1⟩ := trodAll_cons r0
  obtain ⟨rfl, rfl, rfl⟩ := trodAll_nil r1
  obtain rfl : args = #[v0, v1] := by cases args; simp_all
  obtain ⟨rfl, rfl⟩ := trodVars_none hV
  obtain ⟨a0, a1, a2, hv0⟩ := open_three (hval 0 78 v0 rfl rfl) h0
  obtain ⟨A1, len1, cap1, f1, hv1, hm1, hO1⟩ := open_ops14 (hval 1 79 v1 rfl rfl) h1
  clear hA0 hval0
  have hlt0 : ∀ x ∈ p0, x.block < W.heap.size := fun x hx => hW'.lt x (by simp [hx])
  have hlt1 : ∀ x ∈ p1, x.block < W.heap.size := fun x hx => hW'.lt x (by simp [hx])
  have hstay : ∀ (W' : World), Below W.heap.size W W' → ∀ sp : Nat → Bool, (∀ p ∈ (p0 ++ (p1 ++ ([]))) ++ [], sp p.block = true) → DataW.TrodAll enc Try.prog W' 0 sp true [78, 79] [v0, v1] [d0, d1] (p0 ++ (p1 ++ ([]))) := fun W' hg sp hsp =>
    (trodAll_cons_mk (WideElems.Trod_stays laidOut (by kernel_rfl) (of_decide_eq_true (by kernel_rfl)) h0 (fun x hx => hg.same (hlt0 x hx)) (fun x hx => hsp x (by simp [hx]))) (trodAll_cons_mk (WideElems.Trod_stays laidOut (by kernel_rfl) (of_decide_eq_true (by kernel_rfl)) h1 (fun x hx => hg.same (hlt1 x hx)) (fun x hx => hsp x (by simp [hx]))) trodAll_mk0))
  have hwalk := walk a0 a1 a2 A1 len1 cap1 f1 W hm1 hO1
  rw [← hv0, ← hv1] at hwalk
  refine hwalk.mono fun e W' ⟨he, hg⟩ => ?_
  subst he
  exact ⟨_, rfl, post_of_below (pa := p0 ++ (p1 ++ ([]))) (pv := []) hW' (fun _ _ _ => (trodAll_cons_mk (shut_bool Try.underlying4 _) trodAll_mk0)) (fun sp hsp => hstay W' hg sp hsp) (fun _ _ => rfl) rfl
    hg (ok_one (by kernel_rfl) rfl (okWide_bool_mk Try.underlying4 _))⟩

theorem over : Rows.lineServesRow.holds Try.pinned (OpenSpec.ofChange Rows.lineServesSpec) :=
  OpenClaim.holds_of_wide 14 Try.f14 rfl rfl rfl rfl rfl rfl rfl ⟨rfl, rfl, rfl, rfl, rfl⟩ rfl rfl rfl rfl rfl (by kernel_rfl) Try.func14 (by kernel_rfl)
    (of_decide_eq_true (by kernel_rfl)) (by unfold Func.isWrapper; first | (rw [if_pos (by decide +kernel)]; kernel_rfl) | (rw [if_neg (by decide +kernel)]; exact ⟨rfl, rfl⟩))
    (fun os started H enc _ => lifted os started H enc)

theorem proved : Rows.LineServesSaid :=
  over
end Go.Proofs.Ytejmcfgmopijkaa.lineServes
#print axioms Go.Proofs.Ytejmcfgmopijkaa.lineServes.proved
