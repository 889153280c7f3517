/- Each number is taken once, in order, and no other one between; Fits takes none. No conditions. -/
import Derived.Test.YtejmcfgmopijkaaRows
import Derived.WalkKit
import Derived.ProofKit
import Derived.OpenShut
import Derived.ShutString
import Derived.Carry
import Derived.Test.YtejmcfgmopijkaaPost
import Derived.Test.YtejmcfgmopijkaaFixR
import Derived.Test.YtejmcfgmopijkaaOps13
namespace Go.Proofs.Ytejmcfgmopijkaa.receiverOnce
open Go.ChangeShapes Go.WideShapes Go.ChangeAt Go.RowKit
set_option linter.unusedVariables false

set_option maxHeartbeats 2000000 in
set_option maxRecDepth 100000 in
theorem walk (A : Option Addr) (len cap : Nat) (K E N : Nat → Int) (w : World) (hl : len ≤ maxLen) (hA : Ops13 w w.heap.size A len K E N) :
    Calls Try.prog 4 #[.slice A len cap] w fun e w' => e = .returned (.bool true) ∧ Below w.heap.size w w' := by
  unfold maxLen at hl
  go_enter Try.func4, Try.ntmps4
  go_wp2_with fail
  refine (new_i_ex (w := w) (ep := 1) (by omega) (by omega)).mono ?_
  rintro r w1 ⟨g, gc, rfl, R1, C1, g1, g2⟩
  have B1 := bgo (Below.refl _ _) C1 (by simp)
  clear C1
  go_wp2_with fail
  go_loopw [5, 6] (fun n i wr => ∃ (j h : Nat) (ow : Bool), n = .int .i64 h ∧ i = .int .i64 j ∧ h ≤ j ∧ j ≤ 80 ∧ j ≤ len ∧ RecI wr g gc 1 h ow ∧ Below w.heap.size w wr) (fun _ i _ => (80 - intOf i).toNat)
  case atStart => exact ⟨0, 0, false, rfl, rfl, Nat.le_refl _, by omega, by omega, R1, B1⟩
  case round =>
    obtain ⟨j, h, ow, rfl, rfl, hh, hj, hjl, R, B⟩ := hrel
    clear R1 B1
    by_cases h80 : j < 80 ∧ j < len
    · obtain ⟨h80, hlen⟩ := h80
      obtain ⟨b, off, rfl, hb, c0, c1, c2⟩ := (hA.below B).at_ j hlen
      generalize K j = kk at c0
      generalize E j = ee at c1
      generalize N j = nn at c2
      clear hA
      have cD := Blk.new wr 31 #[.int .i64 kk, .int .i64 ee, .int .i64 nn]
      have R0 := R.ch ((Ch.refl [] wr).alloc (.cells #[.int .i64 kk, .int .i64 ee, .int .i64 nn] 31)) (by simp) (by simp)
      have B0 := B.alloc B.size (.cells #[.int .i64 kk, .int .i64 ee, .int .i64 nn] 31)
      have x0 := B.size
      have xg : wr.heap.size ≠ g := fun e => by have := R.b.lt; omega
      have xh : wr.heap.size ≠ gc := fun e => by have := R.c.lt; omega
      by_cases hy : ee = 1 ∧ nn = (h : Int) + 1
      · obtain ⟨rfl, rfl⟩ := hy
        go_wp2_with fail
        generalize wr.alloc _ = wx at cD R0 B0 ⊢
        generalize wr.heap.size = x at cD x0 xg xh ⊢
        clear R B c0 c1 c2
        refine (fits_is (c := 0) (ow' := true) R0 (by omega) (by omega) (by simp [whyN]) (by simp)).mono ?_
        rintro r w2 ⟨rfl, R2, C2⟩
        have D2 := cD.ch C2 (by simp; omega)
        have B2 := bgo B0 C2 (by simp; omega)
        clear R0 C2 B0 cD
        go_wp2_with fail
        refine (had_i g gc 1 _ true _ R2).mono ?_
        rintro r w' ⟨rfl, rfl⟩
        have c1 := D2.cell 1
        have c2 := D2.cell 2
        simp at c1 c2
        go_wp2_with fail
        refine (take_is (c := 0) (had' := (h : Int) + 1) (ow' := true) R2 (by omega) (by omega) (by simp [whyN]) (by simp [takeN, whyN]) (by simp)).mono ?_
        rintro r w3 ⟨rfl, R3, C3⟩
        have D3 := D2.ch C3 (by simp; omega)
        have B3 := bgo B2 C3 (by simp; omega)
        clear R2 C3 B2 D2 c1 c2
        have c1 := D3.cell 1
        have c2 := D3.cell 2
        simp at c1 c2
        go_wp2_with fail
        refine (had_i g gc 1 _ true _ R3).mono ?_
        rintro r w' ⟨rfl, rfl⟩
        go_wp2_with fail
        go_roundw
        case rel => exact ⟨j + 1, h + 1, true, by simp, by simp, by omega, by omega, by omega, by simpa using R3, B3⟩
        case measure => simp [intOf]; omega
      · obtain ⟨c, hc⟩ : ∃ c, whyN 1 h ee nn = c := ⟨_, rfl⟩
        have hc0 : c ≠ 0 := fun e => hy (whyN_zero.1 (by rw [hc, e]))
        have ht : takeN 1 h ee nn = h := by simp [takeN, hc, hc0]
        have hcb : (c == 0) = false := by simp [hc0]
        have Hc := Lib.hid hc
        have Ht := Lib.hid ht
        clear hc ht
        have hq : ee ≠ 1 ∨ (ee = 1 ∧ nn ≠ (h : Int) + 1) := by omega
        clear hy
        rcases hq with hq | ⟨rfl, hq⟩
        all_goals
          go_wp2_with fail
          generalize wr.alloc _ = wx at cD R0 B0 ⊢
          generalize wr.heap.size = x at cD x0 xg xh ⊢
          clear R B c0 c1 c2
          refine (fits_is (c := c) (ow' := _) R0 (by omega) (by omega) Hc.out rfl).mono ?_
          rintro r w2 ⟨rfl, R2, C2⟩
          have D2 := cD.ch C2 (by simp; omega)
          have B2 := bgo B0 C2 (by simp; omega)
          clear R0 C2 B0 cD
          go_wp2_with fail
          refine (had_i g gc 1 _ _ _ R2).mono ?_
          rintro r w' ⟨rfl, rfl⟩
          have c1 := D2.cell 1
          have c2 := D2.cell 2
          simp at c1 c2
          go_wp2_with fail
          refine (take_is (c := c) (had' := h) (ow' := _) R2 (by omega) (by omega) Hc.out Ht.out rfl).mono ?_
          rintro r w3 ⟨rfl, R3, C3⟩
          have D3 := D2.ch C3 (by simp; omega)
          have B3 := bgo B2 C3 (by simp; omega)
          clear R2 C3 B2 D2 c1 c2
          have c1 := D3.cell 1
          have c2 := D3.cell 2
          simp at c1 c2
          first | have hqb : (ee == 1) = false := by simp [hq] | have hqb : (nn == (h : Int) + 1) = false := by simp [hq]
          go_wp2_with fail
          refine (had_i g gc 1 _ _ _ R3).mono ?_
          rintro r w' ⟨rfl, rfl⟩
          go_wp2_with fail
          go_roundw
          case rel => exact ⟨j + 1, h, _, by simp, by simp, by omega, by omega, by omega, R3, B3⟩
          case measure => simp [intOf]; omega
    · by_cases hjl2 : j < len
      · have h81 : ¬ (j : Int) < 80 := by omega
        clear h80
        go_wp2_with fail
        refine (ack_i g gc 1 h h ow _ R).mono ?_
        rintro r w2 ⟨rfl, R2, C2⟩
        have B2 := bgo B C2 (by simp; omega)
        go_wp2_with (refine wpList_store_blk rfl 38 (.tmp 10) (.tmp 79) rfl _ _ rfl rfl 38 _ (Blk.new _ _ _) (by kernel_rfl) rfl (by simp [ackF, Value.oneCell']) ?_)
        intro w3 D3 C3
        have R3 := R2.ch (Ch.of_new C3) (by simp) (by simp)
        have B3 := bgo B2 (Ch.of_new C3) (by simp)
        obtain ⟨c0, c1, c2, c3, c4, c5, c6, c7, c8, c9, c10, c11⟩ := frame_cells D3
        clear R C2 B R2 B2 C3
        go_wp2_with fail
        refine (right_ack 1 h h _ (by omega) (by omega) (by omega) (by omega)).mono ?_
        rintro r w4 ⟨rfl, C4⟩
        have R4 := R3.ch C4 (by simp) (by simp)
        have B4 := bgo B3 C4 (by simp)
        have D4 := D3.ch C4 (by simp)
        clear c0 c1 c2 c3 c4 c5 c6 c7 c8 c9 c10 c11 R3 B3 D3
        have c2 := D4.cell 2
        simp [ackF] at c2
        go_wp2_with fail
        refine (owes_i g gc 1 _ false _ R4).mono ?_
        rintro r w' ⟨rfl, rfl⟩
        go_wp2_with fail
        refine (fixed13 _).mono ?_
        rintro r w5 ⟨rfl, hb⟩
        have B5 := B4.trans (hb.mono B4.size)
        go_wp2
        go_ret
        exact ⟨rfl, B5⟩
      · clear h80
        go_wp2_with fail
        refine (ack_i g gc 1 h h ow _ R).mono ?_
        rintro r w2 ⟨rfl, R2, C2⟩
        have B2 := bgo B C2 (by simp; omega)
        go_wp2_with (refine wpList_store_blk rfl 38 (.tmp 10) (.tmp 79) rfl _ _ rfl rfl 38 _ (Blk.new _ _ _) (by kernel_rfl) rfl (by simp [ackF, Value.oneCell']) ?_)
        intro w3 D3 C3
        have R3 := R2.ch (Ch.of_new C3) (by simp) (by simp)
        have B3 := bgo B2 (Ch.of_new C3) (by simp)
        obtain ⟨c0, c1, c2, c3, c4, c5, c6, c7, c8, c9, c10, c11⟩ := frame_cells D3
        clear R C2 B R2 B2 C3
        go_wp2_with fail
        refine (right_ack 1 h h _ (by omega) (by omega) (by omega) (by omega)).mono ?_
        rintro r w4 ⟨rfl, C4⟩
        have R4 := R3.ch C4 (by simp) (by simp)
        have B4 := bgo B3 C4 (by simp)
        have D4 := D3.ch C4 (by simp)
        clear c0 c1 c2 c3 c4 c5 c6 c7 c8 c9 c10 c11 R3 B3 D3
        have c2 := D4.cell 2
        simp [ackF] at c2
        go_wp2_with fail
        refine (owes_i g gc 1 _ false _ R4).mono ?_
        rintro r w' ⟨rfl, rfl⟩
        go_wp2_with fail
        refine (fixed13 _).mono ?_
        rintro r w5 ⟨rfl, hb⟩
        have B5 := B4.trans (hb.mono B4.size)
        go_wp2
        go_ret
        exact ⟨rfl, B5⟩
theorem own : ownKnob Try.prog.godebug = none := by kernel_rfl
theorem laidOut : laidOutB Try.prog = true := by kernel_rfl

set_option maxRecDepth 100000 in
theorem lifted (os : Os) (started : os.Started) (H : Type) (enc : TypeId × Value → H) :
    ReturnsInHanded {} Try.checked os 4 .any (Rows.receiverOnceSpec.pre6 enc Try.prog Try.f4 Rows.receiverOnceRow.domain false) (Rows.receiverOnceSpec.post enc Try.prog Try.f4 false true false false) := by
  refine returnsInHanded_of_change (C := Try.checked) own started (by kernel_rfl) Try.func4
    (ChangeSpec.witness6 (enc := enc) (C := Try.checked) false ⟨#[], #[.slice none 0 0], []⟩ 8 (by kernel_rfl) (by kernel_rfl) (by kernel_rfl) (by kernel_rfl)) ?_
  intro W base args ds gs before hval0 hW hcnd _
  have hval : ∀ (j : Nat) t v, Try.f4.params[j]? = some t → args[j]? = some v → Value.okWide Try.prog W .any base t v := hval0
  have hW' := hW
  obtain ⟨p, q, hA0, hV, rfl, hfz, hnd⟩ := hW
  have hA : DataW.TrodAll enc Try.prog W 0 (fun _ => true) true Try.f4.params.toList args.toList ds p := hA0
  rw [Try.params4] at hA hval
  obtain ⟨v0, vs0, d0, ds0, p0, q0, hargs, rfl, rfl, h0, r0⟩ := trodAll_cons hA
  obtain ⟨rfl, rfl, rfl⟩ := trodAll_nil r0
  obtain rfl : args = #[v0] := by cases args; simp_all
  obtain ⟨rfl, rfl⟩ := trodVars_none hV
  obtain ⟨A, len, cap, K, E, N, hv0, hm, hO⟩ := open_ops13 (hval 0 22 v0 rfl rfl) h0
  clear hA0 hval0
  have hlt0 : ∀ x ∈ p0, x.block < W.heap.size := fun x hx => hW'.lt x (by simp [hx])
  have hstay : ∀ (W' : World), Below W.heap.size W W' → ∀ sp : Nat → Bool, (∀ p ∈ (p0 ++ ([])) ++ [], sp p.block = true) → DataW.TrodAll enc Try.prog W' 0 sp true [22] [v0] [d0] (p0 ++ ([])) := fun W' hg sp hsp =>
    (trodAll_cons_mk (WideElems.Trod_stays laidOut (by kernel_rfl) (of_decide_eq_true (by kernel_rfl)) h0 (fun x hx => hg.same (hlt0 x hx)) (fun x hx => hsp x (by simp [hx]))) trodAll_mk0)
  have hwalk := walk A len cap K E N W hm hO
  rw [← hv0] at hwalk
  refine hwalk.mono fun e W' ⟨he, hg⟩ => ?_
  subst he
  exact ⟨_, rfl, post_of_below (pa := p0 ++ ([])) (pv := []) hW' (fun _ _ _ => (trodAll_cons_mk (shut_bool Try.underlying4 _) trodAll_mk0)) (fun sp hsp => hstay W' hg sp hsp) (fun _ _ => rfl) rfl
    hg (ok_one (by kernel_rfl) rfl (okWide_bool_mk Try.underlying4 _))⟩

theorem over : Rows.receiverOnceRow.holds Try.pinned (OpenSpec.ofChange Rows.receiverOnceSpec) :=
  OpenClaim.holds_of_wide 4 Try.f4 rfl rfl rfl rfl rfl rfl rfl ⟨rfl, rfl, rfl, rfl, rfl⟩ rfl rfl rfl rfl rfl (by kernel_rfl) Try.func4 (by kernel_rfl)
    (of_decide_eq_true (by kernel_rfl)) (by unfold Func.isWrapper; first | (rw [if_pos (by decide +kernel)]; kernel_rfl) | (rw [if_neg (by decide +kernel)]; exact ⟨rfl, rfl⟩))
    (fun os started H enc _ => lifted os started H enc)

theorem proved : Rows.ReceiverOnceSaid :=
  over
end Go.Proofs.Ytejmcfgmopijkaa.receiverOnce
#print axioms Go.Proofs.Ytejmcfgmopijkaa.receiverOnce.proved
