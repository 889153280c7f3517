/- Whether there is a sender of any epoch, window and wait, or why not, is as the document says; its room is its window. No conditions. -/
import Derived.Test.YtejmcfgmopijkaaRows
import Derived.WalkKit
import Derived.Test.YtejmcfgmopijkaaPost
import Derived.Test.YtejmcfgmopijkaaRefNew
import Derived.ProofKit
import Derived.OpenShut
import Derived.ShutString
namespace Go.Proofs.Ytejmcfgmopijkaa.senderNews
open Go.ChangeShapes Go.WideShapes Go.ChangeAt Go.RowKit
open Go.ChangeMaps (open_string shut_string)
set_option linter.unusedVariables false

theorem own : ownKnob Try.prog.godebug = none := by kernel_rfl

set_option maxHeartbeats 2000000 in
set_option maxRecDepth 100000 in
theorem walk (a0 : Int) (a1 : Int) (a2 : Int) (w0 : (Lit.int .i64 a0).wf = true) (w1 : (Lit.int .i64 a1).wf = true) (w2 : (Lit.int .i64 a2).wf = true) (w : World) :
    Calls Try.prog 8 #[.int .i64 a0, .int .i64 a1, .int .i64 a2] w fun e w' => e = .returned (.bool true) ∧ Below w.heap.size w w' := by
  by_cases hr : ((1 ≤ a0 ∧ a0 ≤ 1099511627776) ∧ (1 ≤ a1 ∧ a1 ≤ 16) ∧ (1 ≤ a2 ∧ a2 ≤ 1000))
  · obtain ⟨h1, h2, h3⟩ := hr
    go_enter Try.func8, Try.ntmps8
    go_wp2_with fail
    refine (snew_ex (B := w.heap.size) (w := w) (Nat.le_refl _) h1 h2 h3).mono ?_
    rintro r w1 ⟨g, rfl, S1, C1⟩
    have B1 := bgo (Below.refl _ _) C1 (by simp)
    clear C1
    go_wp2_with fail
    refine (rnew_yes a0 a1 a2 w1 h1 h2 h3).mono ?_
    rintro r w2 ⟨rfl, _, C2⟩
    have C2' : ChB w.heap.size [] w1 w2 := C2.toB0
    have S2 := S1.chB C2' (by simp) (by simp)
    have B2 := ChB.go B1 C2' (Nat.le_refl _)
    clear S1 B1 C2 C2'
    have hb : SndB a1 a2 a1 [] 0 0 := by constructor <;> first | omega | (simp; done)
    have hrm : roomN a1 a1 0 = a1 := by unfold roomN; rw [if_neg (by omega : ¬ a1 < a1)]; rw [if_pos (by omega)]; omega
    have Hrm := Lib.hid hrm
    clear hrm
    go_wp2_with fail
    refine (room_is (n := a1) S2 hb Hrm.out).mono ?_
    rintro r w3 ⟨rfl, C3⟩
    have S3 := S2.chB C3 (by simp) (by simp)
    have B3 := ChB.go B2 C3 (Nat.le_refl _)
    clear S2 B2 C3
    go_wp2_with fail
    refine (snext_is (n := 1) S3 hb rfl).mono ?_
    rintro r w4 ⟨rfl, C4⟩
    have S4 := S3.chB C4 (by simp) (by simp)
    have B4 := ChB.go B3 C4 (Nat.le_refl _)
    clear S3 B3 C4
    go_wp2_with fail
    refine (shad_is S4).mono ?_
    rintro r w' ⟨rfl, rfl⟩
    go_wp2_with fail
    refine (fixed12 _).mono ?_
    rintro r w5 ⟨rfl, hb5⟩
    have B5 := B4.trans (hb5.mono B4.size)
    go_wp2
    go_ret
    exact ⟨rfl, B5⟩
  · have HR := Lib.hid hr
    clear hr
    go_enter Try.func8, Try.ntmps8
    go_wp2_with fail
    refine (snew_no a0 a1 a2 w HR.out).mono ?_
    rintro r w' ⟨rfl, rfl⟩
    go_wp2_with fail
    refine (rnew_no a0 a1 a2 w HR.out).mono ?_
    rintro r w' ⟨rfl, rfl⟩
    go_wp2_with fail
    refine (fixed12 _).mono ?_
    rintro r w5 ⟨rfl, hb5⟩
    go_wp2
    go_ret
    exact ⟨rfl, hb5⟩

set_option maxRecDepth 100000 in
theorem lifted (os : Os) (started : os.Started) (H : Type) (enc : TypeId × Value → H) :
    ReturnsInHanded {} Try.checked os 8 .any (Rows.senderNewsSpec.pre6 enc Try.prog Try.f8 Rows.senderNewsRow.domain false) (Rows.senderNewsSpec.post enc Try.prog Try.f8 false true false false) := by
  refine returnsInHanded_of_change (C := Try.checked) own started (by kernel_rfl) Try.func8
    (ChangeSpec.witness6 (enc := enc) (C := Try.checked) false ⟨#[], #[.int .i64 0, .int .i64 0, .int .i64 0], []⟩ 8 (by kernel_rfl) (by kernel_rfl) (by kernel_rfl) (by kernel_rfl)) ?_
  intro W base args ds gs before hval0 hW hcnd _
  have hval : ∀ (j : Nat) t v, Try.f8.params[j]? = some t → args[j]? = some v → Value.okWide Try.prog W .any base t v := hval0
  have hW' := hW
  obtain ⟨p, q, hA0, hV, rfl, hfz, hnd⟩ := hW
  have hA : DataW.TrodAll enc Try.prog W 0 (fun _ => true) true Try.f8.params.toList args.toList ds p := hA0
  rw [Try.params8] at hA hval
  obtain ⟨v0, vs0, d0, ds0, p0, q0, hargs, rfl, rfl, h0, r0⟩ := trodAll_cons hA
  obtain ⟨v1, vs1, d1, ds1, p1, q1, rfl, rfl, rfl, h1, r1⟩ := trodAll_cons r0
  obtain ⟨v2, vs2, d2, ds2, p2, q2, rfl, rfl, rfl, h2, r2⟩ := trodAll_cons r1
  obtain ⟨rfl, rfl, rfl⟩ := trodAll_nil r2
  obtain rfl : args = #[v0, v1, v2] := by cases args; simp_all
  obtain ⟨rfl, rfl⟩ := trodVars_none hV
  obtain ⟨a0, rfl, rfl, rfl, w0⟩ := open_int Try.underlying3 (hval 0 3 v0 rfl rfl) h0
  obtain ⟨a1, rfl, rfl, rfl, w1⟩ := open_int Try.underlying3 (hval 1 3 v1 rfl rfl) h1
  obtain ⟨a2, rfl, rfl, rfl, w2⟩ := open_int Try.underlying3 (hval 2 3 v2 rfl rfl) h2
  clear hA0 hval0
  simp only [List.append_nil] at hW'
  refine (walk a0 a1 a2 w0 w1 w2 W).mono fun e W' ⟨he, hg⟩ => ?_
  subst he
  exact ⟨_, rfl, post_of_below (pa := []) (pv := []) hW' (fun _ _ _ => (trodAll_cons_mk (shut_bool Try.underlying4 _) trodAll_mk0)) (fun sp _ => (trodAll_cons_mk (shut_int Try.underlying3 w0) (trodAll_cons_mk (shut_int Try.underlying3 w1) (trodAll_cons_mk (shut_int Try.underlying3 w2) trodAll_mk0)))) (fun _ _ => rfl) rfl
    hg (ok_one (by kernel_rfl) rfl (okWide_bool_mk Try.underlying4 _))⟩

theorem over : Rows.senderNewsRow.holds Try.pinned (OpenSpec.ofChange Rows.senderNewsSpec) :=
  OpenClaim.holds_of_wide 8 Try.f8 rfl rfl rfl rfl rfl rfl rfl ⟨rfl, rfl, rfl, rfl, rfl⟩ rfl rfl rfl rfl rfl (by kernel_rfl) Try.func8 (by kernel_rfl)
    (of_decide_eq_true (by kernel_rfl)) (by unfold Func.isWrapper; first | (rw [if_pos (by decide +kernel)]; kernel_rfl) | (rw [if_neg (by decide +kernel)]; exact ⟨rfl, rfl⟩))
    (fun os started H enc _ => lifted os started H enc)

/-- ████ THE STATEMENT ████ -/
theorem proved : Rows.SenderNewsSaid :=
  over
#print axioms proved
end Go.Proofs.Ytejmcfgmopijkaa.senderNews
