/- What is under way is due again behind the wait, all of it; what has come is not. No conditions. -/
import Derived.Test.YtejmcfgmopijkaaRows
import Derived.WalkKit
import Derived.ProofKit
import Derived.OpenShut
import Derived.ShutString
import Derived.Carry
import Derived.Deep.RegionHeld3
import Derived.Test.YtejmcfgmopijkaaPost
import Derived.Test.YtejmcfgmopijkaaSLaw
import Derived.Test.YtejmcfgmopijkaaOps12
import Derived.Test.YtejmcfgmopijkaaNum
import Derived.Test.YtejmcfgmopijkaaStrs
namespace Go.Proofs.Ytejmcfgmopijkaa.senderAgain
open Go.ChangeShapes Go.WideShapes Go.ChangeAt Go.RowKit
set_option linter.unusedVariables false
set_option linter.unusedSimpArgs false

set_option maxHeartbeats 8000000 in
set_option maxRecDepth 100000 in
theorem walk (A : Option Addr) (len cap : Nat) (f : Nat → ByteArray) (a1 a2 : Int) (w : World) (hl : len ≤ maxLen) (hA : StrsIn w w.heap.size A len f) :
    Calls Try.prog 10 #[.slice A len cap, .int .i64 a1, .int .i64 a2] w fun e w' => e = .returned (.bool true) ∧ Below w.heap.size w w' := by
  unfold maxLen at hl
  have e1 := and7 a1
  have e2 : 0 ≤ a1 % 8 := by omega
  have e3 : a1 % 8 ≤ 7 := by omega
  go_enter Try.func10, Try.ntmps10
  go_wp2_with fail
  have w1 : 1 ≤ 1 + a1 % 8 := by omega
  have w2 : 1 + a1 % 8 ≤ 8 := by omega
  generalize 1 + a1 % 8 = wt at w1 w2 ⊢
  clear e1 e2 e3
  refine (snew_ex (B := w.heap.size) (w := w) (Nat.le_refl _) (by omega) (by omega) (by omega)).mono ?_
  rintro r wa ⟨g, rfl, S1, C1⟩
  have B1 := bgo (Below.refl _ _) C1 (by simp)
  clear C1
  obtain ⟨n, hn, hn16, hnl⟩ : ∃ n : Nat, (if (16 : Int) < (len : Int) then (16 : Int) else (len : Int)) = n ∧ n ≤ 16 ∧ n ≤ len := ⟨min len 16, by split <;> omega, by omega, by omega⟩
  go_wp2_with fail
  clear hn
  go_loopw [11] (fun i wr => ∃ (j : Nat), i = .int .i64 j ∧ j ≤ n ∧ SndI wr w.heap.size g 1 16 wt 16 (newT f false j) 0 0 ∧ Below w.heap.size w wr) (fun i _ => (16 - intOf i).toNat)
  case atStart => exact ⟨0, rfl, by omega, S1, B1⟩
  case round =>
    obtain ⟨j, rfl, hj, S, B⟩ := hrel
    clear S1 B1
    by_cases hlt : j < n
    · obtain ⟨b, off, rfl, hbb, c0⟩ := (hA.below B).at_ j (by omega)
      have hsz := hA.sz j (by omega)
      have hs1 : newT f false j ++ [(cut (f j), false)] = newT f false (j + 1) := newT_succ f false j
      have hs2 : (f j).extract 0 (min (f j).size 20) = cut (f j) := rfl
      generalize f j = s at c0 hsz hs1 hs2
      generalize cut s = s' at hs1 hs2
      obtain ⟨c, hc, hc2⟩ : ∃ c : Nat, (if (20 : Int) < (s.size : Int) then (20 : Int) else (s.size : Int)) = c ∧ c = min s.size 20 := ⟨min s.size 20, by split <;> omega, rfl⟩
      rw [← hc2] at hs2
      have hc3 : c ≤ s.size := by omega
      clear hc2
      clear hA
      have hjl : j < len := by omega
      go_wp2_with fail
      have S0 := S.chB ((ChB.refl w.heap.size [] wr).drew) (by simp) (by simp)
      have B0 := ChB.go B ((ChB.refl w.heap.size [] wr).drew) (Nat.le_refl _)
      clear S B
      go_still_tail 12, (by kernel_rfl)
      clear c0 hs2 hc
      change wpList _ _ _ _ _ wr.drew
      generalize wr.drew = wy at *
      go_wp2_with fail
      have c1 := push_is (s := s') (n := (j : Int) + 1) (T' := newT f false (j + 1)) S0 (SndB.mk' (by rw [newT_len]; omega)) B0.size (by rw [newT_len]; unfold roomN; simp; omega) (by unfold nextN; rw [newT_len]; omega) hs1
      refine c1.mono ?_
      clear c1 hs1
      rintro r wx ⟨rfl, S2, C2⟩
      have B2 := ChB.go B0 C2 (Nat.le_refl _)
      clear S0 B0 C2
      go_wp2_with fail
      go_roundw
      case rel => exact ⟨j + 1, by simp, by omega, S2, B2⟩
      case measure => simp [intOf]; omega
    · obtain rfl : j = n := by omega
      clear hlt hj
      generalize hTn : newT f false j = Tn at S
      have hTl : Tn.length = j := by rw [← hTn, newT_len]
      have hTf : ∀ x ∈ Tn, x.2 = false := by rw [← hTn]; exact newT_mem
      have hTm : Tn.map (fun x => (x.1, true)) = newT f true j := by rw [← hTn, newT_sent]
      clear hTn
      have hnn : ¬ ((j : Int) < (j : Int)) := by omega
      have HTl := Lib.hid hTl
      have HTf := Lib.hid hTf
      have HTm := Lib.hid hTm
      clear hTl hTf hTm
      go_wp2_with fail
      refine (due_n (n := j) (T' := newT f true j) (last' := 0) S (SndB.mk' (by have := HTl.out; omega)) B.size (by omega) (by omega) (by rw [dueL_new HTf.out, items_len, HTl.out]) (by rw [dueT_new HTf.out, HTm.out]) (by unfold dueLast; split <;> rfl)).mono ?_
      rintro r w3 ⟨Ax, cx, rfl, S3, C3⟩
      have B3 := ChB.go B C3 (Nat.le_refl _)
      clear S B C3 HTl HTf HTm
      obtain ⟨Tt, hTt⟩ : ∃ Tt, newT f true j = Tt := ⟨_, rfl⟩
      rw [hTt] at S3
      have HTl : Hid (Tt.length = j) := Lib.hid (by rw [← hTt, newT_len])
      have HTf : Hid (∀ x ∈ Tt, x.2 = true) := Lib.hid (by rw [← hTt]; exact newT_mem)
      have HTt := Lib.hid hTt
      clear hTt
      go_wp2_with fail
      have hL2 : dueL wt 0 0 (wt - 1) Tt = [] := dueL_idle HTf.out (by omega)
      have HL2 := Lib.hid hL2
      clear hL2
      refine (due_n (n := 0) (T' := Tt) (last' := 0) S3 (SndB.mk' (by have := HTl.out; omega)) B3.size (by omega) (by omega) (by rw [HL2.out]; rfl) (by rw [dueT_sent HTf.out]) (by unfold dueLast; rw [HL2.out]; rfl)).mono ?_
      rintro r w4 ⟨Ay, cy, rfl, S4, C4⟩
      have B4 := ChB.go B3 C4 (Nat.le_refl _)
      clear S3 B3 C4 HL2
      go_wp2_with fail
      have hL2 : dueL wt 0 0 wt Tt = itemsOf (fun _ => true) 0 Tt := dueL_again HTf.out (by omega)
      obtain ⟨la, hla, hl0, hl1, hl2⟩ : ∃ la, dueLast wt 0 0 wt Tt = la ∧ 0 ≤ la ∧ la ≤ wt ∧ (Tt ≠ [] → la = wt) := by
        refine ⟨_, rfl, ?_, ?_, ?_⟩ <;> unfold dueLast <;> rw [hL2] <;> split
        · omega
        · omega
        · omega
        · omega
        · intro h; rename_i h2; exact absurd (items_nil h2) h
        · omega
      have HL2 := Lib.hid hL2
      have HLA := Lib.hid hla
      have HLB := Lib.hid hl2
      clear hL2 hla hl2
      refine (due_n (n := j) (T' := Tt) (last' := la) S4 (SndB.mk' (by have := HTl.out; omega)) B4.size (by omega) (by omega) (by rw [HL2.out, items_len, HTl.out]) (by rw [dueT_sent HTf.out]) HLA.out).mono ?_
      rintro r w5 ⟨Az, cz, rfl, S5, C5⟩
      have B5 := ChB.go B4 C5 (Nat.le_refl _)
      clear S4 B4 C5 HL2 HLA
      go_wp2_with fail
      have hL2 : dueL wt la 0 wt Tt = [] := dueL_idle HTf.out (fun h => by have := HLB.out h; omega)
      have HL2 := Lib.hid hL2
      clear hL2
      refine (due_n (n := 0) (T' := Tt) (last' := la) S5 (SndB.mk' (by have := HTl.out; omega)) B5.size (by omega) (by omega) (by rw [HL2.out]; rfl) (by rw [dueT_sent HTf.out]) (by unfold dueLast; rw [HL2.out]; rfl)).mono ?_
      rintro r w6 ⟨Au, cu, rfl, S6, C6⟩
      have B6 := ChB.go B5 C6 (Nat.le_refl _)
      clear S5 B5 C6 HL2
      have q1 := and65535 a2
      have q2 : 0 ≤ a2 % 65536 := by omega
      have q3 : a2 % 65536 ≤ 65535 := by omega
      go_wp2_with fail
      have q4 := Int.emod_nonneg (a2 % 65536) (show (j : Int) + 1 ≠ 0 by omega)
      have q5 := Int.emod_lt_of_pos (a2 % 65536) (show (0 : Int) < (j : Int) + 1 by omega)
      obtain ⟨k, hk⟩ : ∃ k : Nat, a2 % 65536 % ((j : Int) + 1) = k := ⟨(a2 % 65536 % ((j : Int) + 1)).toNat, by omega⟩
      rw [hk] at q4 q5 ⊢
      clear hk q1 q2 q3 q4
      obtain ⟨m, hjm⟩ : ∃ m, j = k + m := ⟨j - k, by omega⟩
      have HJ := Lib.hid hjm
      have hne : ((m : Int) != wrap64 ((j : Int) - (k : Int))) = false := by rw [show wrap64 ((j : Int) - (k : Int)) = m by unfold wrap64; omega]; simp
      clear q5
      have hdT : Tt.drop k = (List.range m).map fun i => (cut (f (k + i)), true) := by
        rw [← HTt.out, hjm]
        unfold newT
        rw [List.range_add, List.map_append, List.drop_append_of_le_length (by simp), List.drop_eq_nil_of_le (by simp)]
        simp
      refine (stake_is (s := (k : Int)) (c := 16) (n := (k : Int)) (T' := Tt.drop k) S6 (SndB.mk' (by have := HTl.out; omega)) B6.size (by omega) (by omega) (by omega) (by have := HTl.out; have := HJ.out; omega) (by omega) (by omega) (by simp)).mono ?_
      rintro r w7 ⟨rfl, S7, C7⟩
      have B7 := ChB.go B6 C7 (Nat.le_refl _)
      clear S6 B6 C7
      rw [hdT] at S7
      have hl3 : ((List.range m).map fun i => (cut (f (k + i)), true)).length = m := by simp
      have hf3 : ∀ x ∈ ((List.range m).map fun i => (cut (f (k + i)), true)), x.2 = true := by simp
      have hg3 : ∀ i, i < m → ((List.range m).map fun i => (cut (f (k + i)), true))[i]? = some (cut (f (k + i)), true) := by intro i hi; simp [hi]
      generalize ((List.range m).map fun i => (cut (f (k + i)), true)) = T3 at S7 hl3 hf3 hg3
      clear hdT hjm
      have hL5 : dueL wt la k (2 * wt) T3 = itemsOf (fun _ => true) k T3 := dueL_again hf3 (by omega)
      obtain ⟨L5, hL⟩ : ∃ L5, itemsOf (fun _ => true) k T3 = L5 := ⟨_, rfl⟩
      have hlen5 : L5.length = m := by rw [← hL, items_len, hl3]
      have hget5 : ∀ i, i < m → L5[i]? = some ((k : Int) + i + 1, cut (f (k + i))) := fun i hi => by rw [← hL]; exact items_get T3 k i _ (hg3 i hi)
      rw [hL] at hL5
      obtain ⟨lb, hlb⟩ : ∃ lb, dueLast wt la k (2 * wt) T3 = lb := ⟨_, rfl⟩
      have hlb0 : 0 ≤ lb := by rw [← hlb]; exact dueLast_lo T3 hl0
      have hlb1 : lb ≤ 2 * wt := by rw [← hlb]; exact dueLast_hi T3 (by omega) (by omega)
      have HF3 := Lib.hid hf3
      have HL3 := Lib.hid hl3
      have HL5 := Lib.hid hL5
      have HLB2 := Lib.hid hlb
      have HN5 := Lib.hid hlen5
      have HG5 := Lib.hid hget5
      clear hf3 hL5 hlb hg3 hL hget5 hlen5 hl3 HTl HTf HTt HLB
      go_wp2_with fail
      refine (due_rd (n := m) (T' := T3) (last' := lb) S7 (SndB.mk' (by have := HL3.out; have := HJ.out; omega)) B7.size (by omega) (by omega) HL5.out HN5.out (by rw [dueT_sent HF3.out]) HLB2.out).mono ?_
      rintro r w8 ⟨Ad, cd, rfl, R8, S8, C8⟩
      have B8 := ChB.go B7 C8 (Nat.le_refl _)
      clear S7 B7 C8 HL5 HLB2
      go_wp2_with fail
      go_loopw [16] (fun i wr => ∃ (j : Nat), i = .int .i64 j ∧ j ≤ m ∧ Ch [] w8 wr) (fun i _ => (16 - intOf i).toNat)
      case atStart => exact ⟨0, rfl, by omega, Ch.refl _ _⟩
      case round =>
        skip
        obtain ⟨i, rfl, hi, C9⟩ := hrel
        have B9 := bgo B8 C9 (by simp)
        have R9 := R8.ch C9
        have S9 := S8.chB (C9.toB0 (B := w.heap.size) (Ts := [])) (by simp) (by simp)
        clear R8 S8 B8
        by_cases hlt : i < m
        · obtain ⟨b9, o9, rfl, hb9, d0, d1⟩ := R9 i _ (HG5.out i hlt)
          obtain ⟨b, off, rfl, hbb, c0⟩ := (hA.below B9).at_ (k + i) (by have := HJ.out; omega)
          have hsz := hA.sz (k + i) (by have := HJ.out; omega)
          have hs2 : (f (k + i)).extract 0 (min (f (k + i)).size 20) = cut (f (k + i)) := rfl
          generalize f (k + i) = s at c0 hsz hs2 d1
          generalize cut s = s' at d1 hs2
          obtain ⟨c, hc, hc2⟩ : ∃ c : Nat, (if (20 : Int) < (s.size : Int) then (20 : Int) else (s.size : Int)) = c ∧ c = min s.size 20 := ⟨min s.size 20, by split <;> omega, rfl⟩
          rw [← hc2] at hs2
          have hc3 : c ≤ s.size := by omega
          clear hc2 hA
          have hjl : k + i < len := by have := HJ.out; omega
          go_wp2_with fail
          go_quiet (fail)
          have C10 := C9.drewN nq
          generalize wr.drewN nq = wy at C10 ⊢
          go_wp2_with fail
          go_roundw
          case rel => exact ⟨i + 1, by simp, by omega, C10⟩
          case measure => have := HJ.out; simp [intOf]; omega
        · obtain rfl : i = m := by omega
          clear hlt hi
          have hrm : roomN 16 16 i = 16 - i := by have := HJ.out; unfold roomN; simp; omega
          have HRM := Lib.hid hrm
          clear hrm
          have hii : ¬ ((i : Int) < (i : Int)) := by omega
          go_wp2_with fail
          refine (room_is (n := 16 - (i : Int)) S9 (SndB.mk' (by have := HL3.out; have := HJ.out; omega)) (by rw [HL3.out]; exact HRM.out)).mono ?_
          rintro r w10 ⟨rfl, C10⟩
          have B10 := ChB.go B9 C10 (Nat.le_refl _)
          clear S9 B9 C9 C10
          have hj1 : (16 - (i : Int) == wrap64 (16 - wrap64 ((j : Int) - (k : Int)))) = true := by have := HJ.out; rw [show wrap64 (16 - wrap64 ((j : Int) - (k : Int))) = 16 - (i : Int) by unfold wrap64; omega]; simp
          go_wp2_with fail
          refine (fixed12 _).mono ?_
          rintro r w5 ⟨rfl, hb5⟩
          have B5 := B10.trans (hb5.mono B10.size)
          go_wp2
          go_ret
          exact ⟨rfl, B5⟩
theorem own : ownKnob Try.prog.godebug = none := by kernel_rfl
theorem laidOut : laidOutB Try.prog = true := by kernel_rfl

set_option maxRecDepth 100000 in
theorem lifted (os : Os) (started : os.Started) (H : Type) (enc : TypeId × Value → H) :
    ReturnsInHanded {} Try.checked os 10 .any (Rows.senderAgainSpec.pre6 enc Try.prog Try.f10 Rows.senderAgainRow.domain false) (Rows.senderAgainSpec.post enc Try.prog Try.f10 false true false false) := by
  refine returnsInHanded_of_change (C := Try.checked) own started (by kernel_rfl) Try.func10
    (ChangeSpec.witness6 (enc := enc) (C := Try.checked) false ⟨#[], #[.slice none 0 0, .int .i64 0, .int .i64 0], []⟩ 8 (by kernel_rfl) (by kernel_rfl) (by kernel_rfl) (by kernel_rfl)) ?_
  intro W base args ds gs before hval0 hW hcnd _
  have hval : ∀ (j : Nat) t v, Try.f10.params[j]? = some t → args[j]? = some v → Value.okWide Try.prog W .any base t v := hval0
  have hW' := hW
  obtain ⟨p, q, hA0, hV, rfl, hfz, hnd⟩ := hW
  have hA : DataW.TrodAll enc Try.prog W 0 (fun _ => true) true Try.f10.params.toList args.toList ds p := hA0
  rw [Try.params10] at hA hval
  obtain ⟨v0, vs0, d0, ds0, p0, q0, hargs, rfl, rfl, h0, r0⟩ := trodAll_cons hA
  obtain ⟨v1, vs1, d1, ds1, p1, q1, rfl, rfl, rfl, h1, r1⟩ := trodAll_cons r0
  obtain ⟨v2, vs2, d2, ds2, p2, q2, rfl, rfl, rfl, h2, r2⟩ := trodAll_cons r1
  obtain ⟨rfl, rfl, rfl⟩ := trodAll_nil r2
  obtain rfl : args = #[v0, v1, v2] := by cases args; simp_all
  obtain ⟨rfl, rfl⟩ := trodVars_none hV
  obtain ⟨A0, len0, cap0, f0, hv0, hm0, hO0⟩ := open_strs (hval 0 68 v0 rfl rfl) h0
  obtain ⟨a1, hv1, _, _, w1⟩ := open_int Try.underlying3 (hval 1 3 v1 rfl rfl) h1
  obtain ⟨a2, hv2, _, _, w2⟩ := open_int Try.underlying3 (hval 2 3 v2 rfl rfl) h2
  clear hA0 hval0
  have hlt0 : ∀ x ∈ p0, x.block < W.heap.size := fun x hx => hW'.lt x (by simp [hx])
  have hlt1 : ∀ x ∈ p1, x.block < W.heap.size := fun x hx => hW'.lt x (by simp [hx])
  have hlt2 : ∀ x ∈ p2, x.block < W.heap.size := fun x hx => hW'.lt x (by simp [hx])
  have hstay : ∀ (W' : World), Below W.heap.size W W' → ∀ sp : Nat → Bool, (∀ p ∈ (p0 ++ (p1 ++ (p2 ++ ([])))) ++ [], sp p.block = true) → DataW.TrodAll enc Try.prog W' 0 sp true [68, 3, 3] [v0, v1, v2] [d0, d1, d2] (p0 ++ (p1 ++ (p2 ++ ([])))) := fun W' hg sp hsp =>
    (trodAll_cons_mk (WideElems.Trod_stays laidOut (by kernel_rfl) (of_decide_eq_true (by kernel_rfl)) h0 (fun x hx => hg.same (hlt0 x hx)) (fun x hx => hsp x (by simp [hx]))) (trodAll_cons_mk (WideElems.Trod_stays laidOut (by kernel_rfl) (of_decide_eq_true (by kernel_rfl)) h1 (fun x hx => hg.same (hlt1 x hx)) (fun x hx => hsp x (by simp [hx]))) (trodAll_cons_mk (WideElems.Trod_stays laidOut (by kernel_rfl) (of_decide_eq_true (by kernel_rfl)) h2 (fun x hx => hg.same (hlt2 x hx)) (fun x hx => hsp x (by simp [hx]))) trodAll_mk0)))
  have hwalk := walk A0 len0 cap0 f0 a1 a2 W hm0 hO0
  rw [← hv0, ← hv1, ← hv2] at hwalk
  refine hwalk.mono fun e W' ⟨he, hg⟩ => ?_
  subst he
  exact ⟨_, rfl, post_of_below (pa := p0 ++ (p1 ++ (p2 ++ ([])))) (pv := []) hW' (fun _ _ _ => (trodAll_cons_mk (shut_bool Try.underlying4 _) trodAll_mk0)) (fun sp hsp => hstay W' hg sp hsp) (fun _ _ => rfl) rfl
    hg (ok_one (by kernel_rfl) rfl (okWide_bool_mk Try.underlying4 _))⟩

theorem over : Rows.senderAgainRow.holds Try.pinned (OpenSpec.ofChange Rows.senderAgainSpec) :=
  OpenClaim.holds_of_wide 10 Try.f10 rfl rfl rfl rfl rfl rfl rfl ⟨rfl, rfl, rfl, rfl, rfl⟩ rfl rfl rfl rfl rfl (by kernel_rfl) Try.func10 (by kernel_rfl)
    (of_decide_eq_true (by kernel_rfl)) (by unfold Func.isWrapper; first | (rw [if_pos (by decide +kernel)]; kernel_rfl) | (rw [if_neg (by decide +kernel)]; exact ⟨rfl, rfl⟩))
    (fun os started H enc _ => lifted os started H enc)

theorem proved : Rows.SenderAgainSaid :=
  over
end Go.Proofs.Ytejmcfgmopijkaa.senderAgain
#print axioms Go.Proofs.Ytejmcfgmopijkaa.senderAgain.proved
