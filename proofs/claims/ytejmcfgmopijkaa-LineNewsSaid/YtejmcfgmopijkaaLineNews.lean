/- Whether there is a line with any window, wait and room, or why not, is as the document says; nothing is on it. No conditions. -/
import Derived.Test.YtejmcfgmopijkaaRows
import Derived.WalkKit
import Derived.Test.YtejmcfgmopijkaaPost
import Derived.Test.YtejmcfgmopijkaaLinF
import Derived.ProofKit
import Derived.OpenShut
import Derived.ShutString
namespace Go.Proofs.Ytejmcfgmopijkaa.lineNews
open Go.ChangeShapes Go.WideShapes Go.ChangeAt Go.RowKit
open Go.ChangeMaps (open_string shut_string)
set_option linter.unusedVariables false

theorem own : ownKnob Try.prog.godebug = none := by kernel_rfl

set_option maxHeartbeats 8000000 in
set_option maxRecDepth 100000 in
theorem walk (a0 : Int) (a1 : Int) (a2 : Int) (w0 : (Lit.int .i64 a0).wf = true) (w1 : (Lit.int .i64 a1).wf = true) (w2 : (Lit.int .i64 a2).wf = true) (w : World) :
    Calls Try.prog 15 #[.int .i64 a0, .int .i64 a1, .int .i64 a2] w fun e w' => e = .returned (.bool true) ∧ Below w.heap.size w w' := by
  clear w0 w1 w2
  by_cases hr : ((1 ≤ a0 ∧ a0 ≤ 16) ∧ (1 ≤ a1 ∧ a1 ≤ 1000))
  · obtain ⟨h2, h3⟩ := hr
    by_cases hm : 1 ≤ a2 ∧ a2 ≤ 64
    · have g0 : LG ⟨a0, a1, a0, [], 0, 0, 0, false, [], [], 0, [], a2, 0⟩ := (inv_new h2 h3 hm).bnd (by simp) (by show (0 : Int) ≤ 1000000000; omega)
      have c1 := new_p (B := w.heap.size) (w := w) (Nat.le_refl _) h2 h3 hm
      have c2 := fun w1 => rnew14_yes a0 a1 a2 w1 h2 h3 hm
      have C1 := Lib.hid c1
      have C2 := Lib.hid c2
      clear c1 c2
      go_enter Try.func15, Try.ntmps15
      go_wp2_with fail
      refine C1.out.mono ?_
      rintro r wa ⟨l, rfl, ha, ca⟩
      have pa : ChP w.heap.size lts none w wa := ChP.of_0 ca
      clear ca
      go_wp2_with fail
      refine (C2.out wa).mono ?_
      rintro r wb ⟨ab, rfl, cb⟩
      have h0 := ha.ch0 cb
      have p0 := pa.trans (ChP.of_0 cb) (RowX.none_ _)
      clear ha pa cb C1 C2
      go_wp2_with fail
      refine (ways_p (n := 0) (m := 0) h0 rfl rfl).mono ?_
      rintro r w1 ⟨rfl, h1, c⟩
      have p1 := p0.trans c (RowX.none_ _)
      clear h0 p0 c
      go_wp2_with fail
      refine (room_p (n := a2) h1 g0 (by show a2 - 0 = a2; omega)).mono ?_
      rintro r w2 ⟨rfl, h2, c⟩
      have p2 := p1.trans c (RowX.none_ _)
      clear h1 p1 c
      go_wp2_with fail
      refine (under_p (n := 0) h2 g0 rfl).mono ?_
      rintro r w3 ⟨rfl, h3, c⟩
      have p3 := p2.trans c (RowX.none_ _)
      clear h2 p2 c
      go_wp2_with fail
      refine (out_p (O := []) (n := 0) h3 g0 rfl rfl).mono ?_
      rintro r w4 ⟨A, cap, rfl, _, _, h4, c⟩
      have p4 := p3.trans c (RowX.none_ _)
      clear h3 p3 c
      go_wp2_with fail
      refine (come_p (τ := ⟨a0, a1, a0, [], 0, 0, 0, false, [], [], 0, [], a2, 0⟩) (q := 8) 0 h4 g0 p4.size (by simp) (by simp) (by rfl)).mono ?_
      rintro r w5 ⟨rfl, h5, c⟩
      have p5 := p4.trans c (RowX.none_ _)
      clear h4 p4 c
      go_wp2_with fail
      refine (back_p (τ := ⟨a0, a1, a0, [], 0, 0, 0, false, [], [], 0, [], a2, 0⟩) (q := 8) 0 h5 g0 p5.size (by rfl)).mono ?_
      rintro r w6 ⟨rfl, h6, c⟩
      have p6 := p5.trans c (RowX.none_ _)
      clear h5 p5 c
      go_wp2_with fail
      refine (send_p (τ := ⟨a0, a1, a0, [], 0, 0, 0, false, [], [], 0, [], a2, 0⟩) (q := 0) 0 h6 g0 p6.size (by rfl)).mono ?_
      rintro r w7 ⟨rfl, h7, c⟩
      have p7 := p6.trans c (RowX.none_ _)
      clear h6 p6 c
      go_wp2_with fail
      refine (drain_p (τ := ⟨a0, a1, a0, [], 0, 0, 0, false, [], [], 0, [], a2, 0⟩) (q := 0) 9 h7 g0 p7.size (by rfl)).mono ?_
      rintro r w8 ⟨rfl, h8, c⟩
      have p8 := p7.trans c (RowX.none_ _)
      clear h7 p7 c
      have B1 := ChB.go (Below.refl _ _) p8.toB (Nat.le_refl _)
      go_wp2_with fail
      refine (fixed14 _).mono ?_
      rintro r w5 ⟨rfl, hb5⟩
      have B5 := B1.trans (hb5.mono B1.size)
      go_wp2_with fail
      go_ret
      exact ⟨rfl, B5⟩
    · have c1 := lnew_room a0 a1 a2 w h2 h3 hm
      have c2 := fun w1 => rnew14_room a0 a1 a2 w1 h2 h3 hm
      have C1 := Lib.hid c1
      have C2 := Lib.hid c2
      clear c1 c2 h2 h3 hm
      go_enter Try.func15, Try.ntmps15
      go_wp2_with fail
      refine C1.out.mono ?_
      rintro r wa ⟨rfl, ca⟩
      go_wp2_with fail
      refine (C2.out wa).mono ?_
      rintro r wb ⟨rfl, cb⟩
      have B1 := bgo (bgo (Below.refl _ _) ca (by simp)) cb (by simp)
      go_wp2_with fail
      refine (fixed14 _).mono ?_
      rintro r w5 ⟨rfl, hb5⟩
      have B5 := B1.trans (hb5.mono B1.size)
      go_wp2_with fail
      go_ret
      exact ⟨rfl, B5⟩
  · have c1 := lnew_no a0 a1 a2 w hr
    have c2 := fun w1 => rnew14_no a0 a1 a2 w1 hr
    have C1 := Lib.hid c1
    have C2 := Lib.hid c2
    clear c1 c2 hr
    go_enter Try.func15, Try.ntmps15
    go_wp2_with fail
    refine C1.out.mono ?_
    rintro r wa ⟨rfl, ca⟩
    go_wp2_with fail
    refine (C2.out wa).mono ?_
    rintro r wb ⟨rfl, cb⟩
    have B1 := bgo (bgo (Below.refl _ _) ca (by simp)) cb (by simp)
    go_wp2_with fail
    refine (fixed14 _).mono ?_
    rintro r w5 ⟨rfl, hb5⟩
    have B5 := B1.trans (hb5.mono B1.size)
    go_wp2_with fail
    go_ret
    exact ⟨rfl, B5⟩

set_option maxRecDepth 100000 in
theorem lifted (os : Os) (started : os.Started) (H : Type) (enc : TypeId × Value → H) :
    ReturnsInHanded {} Try.checked os 15 .any (Rows.lineNewsSpec.pre6 enc Try.prog Try.f15 Rows.lineNewsRow.domain false) (Rows.lineNewsSpec.post enc Try.prog Try.f15 false true false false) := by
  refine returnsInHanded_of_change (C := Try.checked) own started (by kernel_rfl) Try.func15
    (ChangeSpec.witness6 (enc := enc) (C := Try.checked) false ⟨#[], #[.int .i64 0, .int .i64 0, .int .i64 0], []⟩ 15 (by kernel_rfl) (by kernel_rfl) (by kernel_rfl) (by kernel_rfl)) ?_
  intro W base args ds gs before hval0 hW hcnd _
  have hval : ∀ (j : Nat) t v, Try.f15.params[j]? = some t → args[j]? = some v → Value.okWide Try.prog W .any base t v := hval0
  have hW' := hW
  obtain ⟨p, q, hA0, hV, rfl, hfz, hnd⟩ := hW
  have hA : DataW.TrodAll enc Try.prog W 0 (fun _ => true) true Try.f15.params.toList args.toList ds p := hA0
  rw [Try.params15] at hA hval
  obtain ⟨v0, vs0, d0, ds0, p0, q0, hargs, rfl, rfl, h0, r0⟩ := trodAll_cons hA
  obtain ⟨v1, vs1, d1, ds1, p1, q1, rfl, rfl, rfl, h1, r1⟩ := trodAll_cons r0
  obtain ⟨v2, vs2, d2, ds2, p2, q2, rfl, rfl, rfl, h2, r2⟩ := trodAll_cons r1
  obtain ⟨rfl, rfl, rfl⟩ := trodAll_nil r2
  obtain rfl : args = #[v0, v1, v2] := by cases args; simp_all
  obtain ⟨rfl, rfl⟩ := trodVars_none hV
  obtain ⟨a0, rfl, rfl, rfl, w0⟩ := open_int Try.underlying3 (hval 0 3 v0 rfl rfl) h0
  obtain ⟨a1, rfl, rfl, rfl, w1⟩ := open_int Try.underlying3 (hval 1 3 v1 rfl rfl) h1
  obtain ⟨a2, rfl, rfl, rfl, w2⟩ := open_int Try.underlying3 (hval 2 3 v2 rfl rfl) h2
  clear hA0 hval0
  simp only [List.append_nil] at hW'
  refine (walk a0 a1 a2 w0 w1 w2 W).mono fun e W' ⟨he, hg⟩ => ?_
  subst he
  exact ⟨_, rfl, post_of_below (pa := []) (pv := []) hW' (fun _ _ _ => (trodAll_cons_mk (shut_bool Try.underlying4 _) trodAll_mk0)) (fun sp _ => (trodAll_cons_mk (shut_int Try.underlying3 w0) (trodAll_cons_mk (shut_int Try.underlying3 w1) (trodAll_cons_mk (shut_int Try.underlying3 w2) trodAll_mk0)))) (fun _ _ => rfl) rfl
    hg (ok_one (by kernel_rfl) rfl (okWide_bool_mk Try.underlying4 _))⟩

theorem over : Rows.lineNewsRow.holds Try.pinned (OpenSpec.ofChange Rows.lineNewsSpec) :=
  OpenClaim.holds_of_wide 15 Try.f15 rfl rfl rfl rfl rfl rfl rfl ⟨rfl, rfl, rfl, rfl, rfl⟩ rfl rfl rfl rfl rfl (by kernel_rfl) Try.func15 (by kernel_rfl)
    (of_decide_eq_true (by kernel_rfl)) (by unfold Func.isWrapper; first | (rw [if_pos (by decide +kernel)]; kernel_rfl) | (rw [if_neg (by decide +kernel)]; exact ⟨rfl, rfl⟩))
    (fun os started H enc _ => lifted os started H enc)

/-- ████ THE STATEMENT ████ -/
theorem proved : Rows.LineNewsSaid :=
  over
#print axioms proved
end Go.Proofs.Ytejmcfgmopijkaa.lineNews
