/- Numbers that come in their order are all taken; doubled ones are old; one too far ahead is none, and takes nothing. No conditions. -/
import Derived.Test.YtejmcfgmopijkaaRows
import Derived.WalkKit
import Derived.Test.YtejmcfgmopijkaaPost
import Derived.Test.YtejmcfgmopijkaaFixR
import Derived.Test.YtejmcfgmopijkaaNum
import Derived.ProofKit
import Derived.OpenShut
import Derived.ShutString
namespace Go.Proofs.Ytejmcfgmopijkaa.receiverRuns
open Go.ChangeShapes Go.WideShapes Go.ChangeAt Go.RowKit
open Go.ChangeMaps (open_string shut_string)
set_option linter.unusedVariables false

theorem own : ownKnob Try.prog.godebug = none := by kernel_rfl

set_option maxHeartbeats 2000000 in
set_option maxRecDepth 100000 in
theorem walk (a0 : Int) (a1 : Int) (w0 : (Lit.int .i64 a0).wf = true) (w1 : (Lit.int .i64 a1).wf = true) (w : World) :
    Calls Try.prog 6 #[.int .i64 a0, .int .i64 a1] w fun e w' => e = .returned (.bool true) ∧ Below w.heap.size w w' := by
  by_cases hr : a0 < 1 ∨ 1099511627776 < a0
  · go_enter Try.func6, Try.ntmps6
    go_wp2_with fail
    refine (new_i_no a0 w hr).mono ?_
    rintro r w1 ⟨rfl, rfl⟩
    go_wp2_with fail
    refine (fixed13 w).mono ?_
    rintro r w1 ⟨rfl, hb⟩
    go_wp2
    go_ret
    exact ⟨rfl, hb⟩
  · have e1 := and255 a1
    have e2 : 0 ≤ a1 % 256 := by omega
    have hE : 1 ≤ a0 ∧ a0 ≤ 1099511627776 := by omega
    go_enter Try.func6, Try.ntmps6
    go_wp2_with fail
    refine (new_i_ex (w := w) (ep := a0) hE.1 hE.2).mono ?_
    rintro r w1 ⟨g, gc, rfl, R1, C1, g1, g2⟩
    have B1 := bgo (Below.refl _ _) C1 (by simp)
    clear C1
    go_wp2_with fail
    have k0 : 0 ≤ a1 % 256 % 100 := by omega
    have k1 : a1 % 256 % 100 ≤ 99 := by omega
    generalize a1 % 256 % 100 = k at k0 k1 ⊢
    clear e1 e2 hr
    go_loopw [8] (fun i wr => ∃ (j : Nat) (ow : Bool), i = .int .i64 ((j : Int) + 1) ∧ (j : Int) ≤ k ∧ RecI wr g gc a0 j ow ∧ Below w.heap.size w wr) (fun i _ => (k + 1 - intOf i).toNat)
    case atStart => exact ⟨0, false, rfl, k0, R1, B1⟩
    case round =>
      obtain ⟨j, ow, rfl, hj, R, B⟩ := hrel
      clear R1 B1
      by_cases hlt : (j : Int) + 1 ≤ k
      · have q1 : whyN a0 j a0 ((j : Int) + 1 + 1) = 8 := by simp [whyN]; omega
        have q2 : takeN a0 j a0 ((j : Int) + 1 + 1) = j := by simp [takeN, q1]
        have q3 : whyN a0 j a0 ((j : Int) + 1) = 0 := by simp [whyN]
        have q4 : takeN a0 j a0 ((j : Int) + 1) = (j : Int) + 1 := by simp [takeN, q3]
        have q5 : whyN a0 ((j : Int) + 1) a0 ((j : Int) + 1) = 11 := by simp [whyN]; omega
        have q6 : takeN a0 ((j : Int) + 1) a0 ((j : Int) + 1) = (j : Int) + 1 := by simp [takeN, q5]
        have Q1 := Lib.hid q1
        have Q2 := Lib.hid q2
        have Q3 := Lib.hid q3
        have Q4 := Lib.hid q4
        have Q5 := Lib.hid q5
        have Q6 := Lib.hid q6
        clear q1 q2 q3 q4 q5 q6
        go_wp2_with fail
        refine (take_is (c := 8) (had' := j) (ow' := true) R (by omega) (by omega) Q1.out Q2.out (by simp)).mono ?_
        rintro r wa ⟨rfl, Ra, Ca⟩
        have Ba := bgo B Ca (by simp; omega)
        clear R B Ca Q1 Q2
        go_wp2_with fail
        refine (take_is (c := 0) (had' := (j : Int) + 1) (ow' := true) Ra (by omega) (by omega) Q3.out Q4.out (by simp)).mono ?_
        rintro r wb ⟨rfl, Rb, Cb⟩
        have Bb := bgo Ba Cb (by simp; omega)
        clear Ra Ba Cb Q3 Q4
        go_wp2_with fail
        refine (take_is (c := 11) (had' := (j : Int) + 1) (ow' := true) Rb (by omega) (by omega) Q5.out Q6.out (by simp)).mono ?_
        rintro r wc ⟨rfl, Rc, Cc⟩
        have Bc := bgo Bb Cc (by simp; omega)
        clear Rb Bb Cc Q5 Q6
        go_wp2_with fail
        refine (had_i g gc a0 _ true _ Rc).mono ?_
        rintro r w' ⟨rfl, rfl⟩
        go_wp2_with fail
        refine (owes_i g gc a0 _ true _ Rc).mono ?_
        rintro r w' ⟨rfl, rfl⟩
        by_cases h3 : ((j : Int) + 1) % 3 = 0
        · go_wp2_with fail
          refine (ack_i g gc a0 ((j : Int) + 1) ((j : Int) + 1) true _ Rc).mono ?_
          rintro r wd ⟨rfl, Rd, Cd⟩
          have Bd := bgo Bc Cd (by simp; omega)
          clear Rc Bc Cd
          go_wp2_with (refine wpList_store_blk rfl 38 (.tmp 9) (.tmp 66) rfl _ _ rfl rfl 38 _ (Blk.new _ _ _) (by kernel_rfl) rfl (by simp [ackF, Value.oneCell']) ?_)
          intro we De Ce
          have Re := Rd.ch (Ch.of_new Ce) (by simp) (by simp)
          have Be := bgo Bd (Ch.of_new Ce) (by simp)
          have x2 := De.cell 2
          have x3 := De.cell 3
          simp [ackF] at x2 x3
          clear Rd Bd Ce De
          by_cases h64 : 64 < (j : Int) + 1
          · rw [← creditN_big h64] at x3
            go_wp2_with fail
            refine (owes_i g gc a0 _ false _ Re).mono ?_
            rintro r w' ⟨rfl, rfl⟩
            go_wp2_with fail
            go_roundw
            case rel => exact ⟨j + 1, false, by simp, by simp; omega, by simpa using Re, Be⟩
            case measure => simp [intOf]; omega
          · rw [← creditN_mid (by omega) (show (j : Int) + 1 ≤ 64 by omega)] at x3
            go_wp2_with fail
            refine (owes_i g gc a0 _ false _ Re).mono ?_
            rintro r w' ⟨rfl, rfl⟩
            go_wp2_with fail
            go_roundw
            case rel => exact ⟨j + 1, false, by simp, by simp; omega, by simpa using Re, Be⟩
            case measure => simp [intOf]; omega
        · have h3b : (((j : Int) + 1) % 3 == 0) = false := by simp; omega
          go_wp2_with fail
          go_roundw
          case rel => exact ⟨j + 1, true, by simp, by simp; omega, by simpa using Rc, Bc⟩
          case measure => simp [intOf]; omega
      · go_wp2_with fail
        refine (had_i g gc a0 _ ow _ R).mono ?_
        rintro r w' ⟨rfl, rfl⟩
        have hk : (j : Int) = k := by omega
        subst hk
        go_wp2_with fail
        refine (fixed13 _).mono ?_
        rintro r w3 ⟨rfl, hb⟩
        have B3 := B.trans (hb.mono B.size)
        go_wp2
        go_ret
        exact ⟨rfl, B3⟩

set_option maxRecDepth 100000 in
theorem lifted (os : Os) (started : os.Started) (H : Type) (enc : TypeId × Value → H) :
    ReturnsInHanded {} Try.checked os 6 .any (Rows.receiverRunsSpec.pre6 enc Try.prog Try.f6 Rows.receiverRunsRow.domain false) (Rows.receiverRunsSpec.post enc Try.prog Try.f6 false true false false) := by
  refine returnsInHanded_of_change (C := Try.checked) own started (by kernel_rfl) Try.func6
    (ChangeSpec.witness6 (enc := enc) (C := Try.checked) false ⟨#[], #[.int .i64 0, .int .i64 0], []⟩ 8 (by kernel_rfl) (by kernel_rfl) (by kernel_rfl) (by kernel_rfl)) ?_
  intro W base args ds gs before hval0 hW hcnd _
  have hval : ∀ (j : Nat) t v, Try.f6.params[j]? = some t → args[j]? = some v → Value.okWide Try.prog W .any base t v := hval0
  have hW' := hW
  obtain ⟨p, q, hA0, hV, rfl, hfz, hnd⟩ := hW
  have hA : DataW.TrodAll enc Try.prog W 0 (fun _ => true) true Try.f6.params.toList args.toList ds p := hA0
  rw [Try.params6] at hA hval
  obtain ⟨v0, vs0, d0, ds0, p0, q0, hargs, rfl, rfl, h0, r0⟩ := trodAll_cons hA
  obtain ⟨v1, vs1, d1, ds1, p1, q1, rfl, rfl, rfl, h1, r1⟩ := trodAll_cons r0
  obtain ⟨rfl, rfl, rfl⟩ := trodAll_nil r1
  obtain rfl : args = #[v0, v1] := by cases args; simp_all
  obtain ⟨rfl, rfl⟩ := trodVars_none hV
  obtain ⟨a0, rfl, rfl, rfl, w0⟩ := open_int Try.underlying3 (hval 0 3 v0 rfl rfl) h0
  obtain ⟨a1, rfl, rfl, rfl, w1⟩ := open_int Try.underlying3 (hval 1 3 v1 rfl rfl) h1
  clear hA0 hval0
  simp only [List.append_nil] at hW'
  refine (walk a0 a1 w0 w1 W).mono fun e W' ⟨he, hg⟩ => ?_
  subst he
  exact ⟨_, rfl, post_of_below (pa := []) (pv := []) hW' (fun _ _ _ => (trodAll_cons_mk (shut_bool Try.underlying4 _) trodAll_mk0)) (fun sp _ => (trodAll_cons_mk (shut_int Try.underlying3 w0) (trodAll_cons_mk (shut_int Try.underlying3 w1) trodAll_mk0))) (fun _ _ => rfl) rfl
    hg (ok_one (by kernel_rfl) rfl (okWide_bool_mk Try.underlying4 _))⟩

theorem over : Rows.receiverRunsRow.holds Try.pinned (OpenSpec.ofChange Rows.receiverRunsSpec) :=
  OpenClaim.holds_of_wide 6 Try.f6 rfl rfl rfl rfl rfl rfl rfl ⟨rfl, rfl, rfl, rfl, rfl⟩ rfl rfl rfl rfl rfl (by kernel_rfl) Try.func6 (by kernel_rfl)
    (of_decide_eq_true (by kernel_rfl)) (by unfold Func.isWrapper; first | (rw [if_pos (by decide +kernel)]; kernel_rfl) | (rw [if_neg (by decide +kernel)]; exact ⟨rfl, rfl⟩))
    (fun os started H enc _ => lifted os started H enc)

/-- ████ THE STATEMENT ████ -/
theorem proved : Rows.ReceiverRunsSaid :=
  over
#print axioms proved
end Go.Proofs.Ytejmcfgmopijkaa.receiverRuns
