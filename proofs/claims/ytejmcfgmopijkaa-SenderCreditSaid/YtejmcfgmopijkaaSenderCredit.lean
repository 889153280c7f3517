/- With no credit there is no room; what is told of another epoch, or of old, changes nothing. No conditions. -/
import Derived.Test.YtejmcfgmopijkaaRows
import Derived.WalkKit
import Derived.Test.YtejmcfgmopijkaaPost
import Derived.Test.YtejmcfgmopijkaaRefNew
import Derived.Test.YtejmcfgmopijkaaNum
import Derived.ProofKit
import Derived.OpenShut
import Derived.ShutString
namespace Go.Proofs.Ytejmcfgmopijkaa.senderCredit
open Go.ChangeShapes Go.WideShapes Go.ChangeAt Go.RowKit
open Go.ChangeMaps (open_string shut_string)
set_option linter.unusedVariables false

theorem own : ownKnob Try.prog.godebug = none := by kernel_rfl

set_option maxHeartbeats 2000000 in
set_option maxRecDepth 100000 in
theorem walk (a0 : Int) (a1 : Int) (a2 : Int) (w0 : (Lit.int .i64 a0).wf = true) (w1 : (Lit.int .i64 a1).wf = true) (w2 : (Lit.int .i64 a2).wf = true) (w : World) :
    Calls Try.prog 12 #[.int .i64 a0, .int .i64 a1, .int .i64 a2] w fun e w' => e = .returned (.bool true) ∧ Below w.heap.size w w' := by
  have e1 := and7 a0
  have e2 : 0 ≤ a0 % 8 := by omega
  have e3 : a0 % 8 ≤ 7 := by omega
  go_enter Try.func12, Try.ntmps12
  go_wp2_with fail
  refine (snew_ex (B := w.heap.size) (w := w) (ep := 7) (win := 16) (wait := 3) (Nat.le_refl _) (by omega) (by omega) (by omega)).mono ?_
  rintro r w1 ⟨g, rfl, S1, C1⟩
  have B1 := bgo (Below.refl _ _) C1 (by simp)
  clear C1
  go_wp2_with fail
  obtain ⟨k, hn⟩ := Int.eq_ofNat_of_zero_le (show 0 ≤ 1 + a0 % 8 by omega)
  have hn8 : k ≤ 8 := by omega
  have hn1 : 1 ≤ k := by omega
  rw [hn]
  clear e1 e2 e3 hn
  go_loopw [10] (fun i wr => ∃ j : Nat, i = .int .i64 j ∧ j ≤ k ∧ SndI wr w.heap.size g 7 16 3 16 (List.replicate j (⟨#[120]⟩, false)) 0 0 ∧ Below w.heap.size w wr) (fun i _ => (k - intOf i).toNat)
  case atStart => exact ⟨0, rfl, by omega, S1, B1⟩
  case round =>
    obtain ⟨j, rfl, hj, S, B⟩ := hrel
    clear S1 B1
    by_cases hlt : j < k
    · have hb : SndB 16 3 16 (List.replicate j ((⟨#[120]⟩ : ByteArray), false)) 0 0 := by constructor <;> simp <;> omega
      have hr : roomN 16 16 (List.replicate j ((⟨#[120]⟩ : ByteArray), false)).length ≠ 0 := by simp [roomN]; omega
      have hT : List.replicate j ((⟨#[120]⟩ : ByteArray), false) ++ [(⟨#[120]⟩, false)] = List.replicate (j + 1) (⟨#[120]⟩, false) := (List.replicate_succ' ..).symm
      have HR := Lib.hid hr
      have HT := Lib.hid hT
      clear hr hT
      go_wp2_with fail
      refine (push_is S hb B.size HR.out rfl HT.out).mono ?_
      rintro r w2 ⟨rfl, S2, C2⟩
      have B2 := ChB.go B C2 (Nat.le_refl _)
      clear S B C2
      go_wp2_with fail
      go_roundw
      case rel => exact ⟨j + 1, by simp, by omega, S2, B2⟩
      case measure => simp [intOf]; omega
    · obtain rfl : j = k := by omega
      have hcmp : (((j - 1 : Nat) : Int) == (j : Int) - 1) = true := by simp; omega
      obtain ⟨n, hn⟩ : ∃ n, n = j - 1 := ⟨_, rfl⟩
      have hjn : j = n + 1 := by omega
      rw [← hn] at hcmp
      clear hn
      have hb : SndB 16 3 16 (List.replicate j ((⟨#[120]⟩ : ByteArray), false)) 0 0 := by constructor <;> simp <;> omega
      have hb1 : SndB 16 3 0 (List.replicate n ((⟨#[120]⟩ : ByteArray), false)) 1 0 := by constructor <;> simp <;> omega
      have hT : (List.replicate j ((⟨#[120]⟩ : ByteArray), false)).drop ((1 : Int) - 0).toNat = List.replicate n (⟨#[120]⟩, false) := by rw [hjn]; simp
      have hs1 : (1 : Int) ≤ 0 + (List.replicate j ((⟨#[120]⟩ : ByteArray), false)).length := by simp; omega
      have hr0 : roomN 16 0 (List.replicate n ((⟨#[120]⟩ : ByteArray), false)).length = 0 := by simp [roomN]; omega
      have hq : stakeN 7 1 (List.replicate n ((⟨#[120]⟩ : ByteArray), false)).length 7 0 9 = 11 := by simp [stakeN]; omega
      have HT := Lib.hid hT
      have HS1 := Lib.hid hs1
      have HR0 := Lib.hid hr0
      have HQ := Lib.hid hq
      clear hT hs1 hr0 hq hjn
      go_wp2_with fail
      refine (stake_is (s := 1) (c := 0) (n := 1) S hb B.size (by omega) (by omega) (by omega) HS1.out (by omega) rfl HT.out).mono ?_
      rintro r w2 ⟨rfl, S2, C2⟩
      have B2 := ChB.go B C2 (Nat.le_refl _)
      clear S B C2 hb
      go_wp2_with fail
      refine (room_is (n := 0) S2 hb1 HR0.out).mono ?_
      rintro r w3 ⟨rfl, C3⟩
      have S3 := S2.chB C3 (by simp) (by simp)
      have B3 := ChB.go B2 C3 (Nat.le_refl _)
      clear S2 B2 C3
      go_wp2_with fail
      refine (stake_isno (n := 11) S3 hb1 HQ.out (by decide)).mono ?_
      rintro r w4 ⟨rfl, C4⟩
      have S4 := S3.chB C4 (by simp) (by simp)
      have B4 := ChB.go B3 C4 (Nat.le_refl _)
      clear S3 B3 C4
      go_wp2_with fail
      refine (room_is (n := 0) S4 hb1 HR0.out).mono ?_
      rintro r w5 ⟨rfl, C5⟩
      have S5 := S4.chB C5 (by simp) (by simp)
      have B5 := ChB.go B4 C5 (Nat.le_refl _)
      clear S4 B4 C5
      by_cases he : a1 = 7
      · subst he
        go_wp2_with fail
        refine (push_isno S5 hb1 HR0.out).mono ?_
        rintro r w8 ⟨rfl, C8⟩
        have S8 := S5.chB C8 (by simp) (by simp)
        have B8 := ChB.go B5 C8 (Nat.le_refl _)
        clear S5 B5 C8
        go_wp2_with fail
        refine (under_len (n := n) S8 hb1 (by simp)).mono ?_
        rintro r w9 ⟨Au, cu, rfl, C9⟩
        have B9 := bgo B8 C9 (by simp)
        clear S8 B8 C9
        go_wp2_with fail
        refine (fixed12 _).mono ?_
        rintro r w10 ⟨rfl, hb10⟩
        have B10 := B9.trans (hb10.mono B9.size)
        go_wp2
        go_ret
        exact ⟨rfl, B10⟩
      · have hq10 : stakeN 7 1 (List.replicate n ((⟨#[120]⟩ : ByteArray), false)).length a1 a2 9 = 10 := by simp [stakeN, he]
        have HQ10 := Lib.hid hq10
        clear hq10
        have hne : (a1 != 7) = true := by simp [he]
        go_wp2_with fail
        refine (stake_isno (n := 10) S5 hb1 HQ10.out (by decide)).mono ?_
        rintro r w6 ⟨rfl, C6⟩
        have S6 := S5.chB C6 (by simp) (by simp)
        have B6 := ChB.go B5 C6 (Nat.le_refl _)
        clear S5 B5 C6
        go_wp2_with fail
        refine (room_is (n := 0) S6 hb1 HR0.out).mono ?_
        rintro r w7 ⟨rfl, C7⟩
        have S7 := S6.chB C7 (by simp) (by simp)
        have B7 := ChB.go B6 C7 (Nat.le_refl _)
        clear S6 B6 C7
        go_wp2_with fail
        refine (shad_is S7).mono ?_
        rintro r w' ⟨rfl, rfl⟩
        have S5 := S7
        have B5 := B7
        clear S7 B7
        go_wp2_with fail
        refine (push_isno S5 hb1 HR0.out).mono ?_
        rintro r w8 ⟨rfl, C8⟩
        have S8 := S5.chB C8 (by simp) (by simp)
        have B8 := ChB.go B5 C8 (Nat.le_refl _)
        clear S5 B5 C8
        go_wp2_with fail
        refine (under_len (n := n) S8 hb1 (by simp)).mono ?_
        rintro r w9 ⟨Au, cu, rfl, C9⟩
        have B9 := bgo B8 C9 (by simp)
        clear S8 B8 C9
        go_wp2_with fail
        refine (fixed12 _).mono ?_
        rintro r w10 ⟨rfl, hb10⟩
        have B10 := B9.trans (hb10.mono B9.size)
        go_wp2
        go_ret
        exact ⟨rfl, B10⟩

set_option maxRecDepth 100000 in
theorem lifted (os : Os) (started : os.Started) (H : Type) (enc : TypeId × Value → H) :
    ReturnsInHanded {} Try.checked os 12 .any (Rows.senderCreditSpec.pre6 enc Try.prog Try.f12 Rows.senderCreditRow.domain false) (Rows.senderCreditSpec.post enc Try.prog Try.f12 false true false false) := by
  refine returnsInHanded_of_change (C := Try.checked) own started (by kernel_rfl) Try.func12
    (ChangeSpec.witness6 (enc := enc) (C := Try.checked) false ⟨#[], #[.int .i64 0, .int .i64 0, .int .i64 0], []⟩ 8 (by kernel_rfl) (by kernel_rfl) (by kernel_rfl) (by kernel_rfl)) ?_
  intro W base args ds gs before hval0 hW hcnd _
  have hval : ∀ (j : Nat) t v, Try.f12.params[j]? = some t → args[j]? = some v → Value.okWide Try.prog W .any base t v := hval0
  have hW' := hW
  obtain ⟨p, q, hA0, hV, rfl, hfz, hnd⟩ := hW
  have hA : DataW.TrodAll enc Try.prog W 0 (fun _ => true) true Try.f12.params.toList args.toList ds p := hA0
  rw [Try.params12] at hA hval
  obtain ⟨v0, vs0, d0, ds0, p0, q0, hargs, rfl, rfl, h0, r0⟩ := trodAll_cons hA
  obtain ⟨v1, vs1, d1, ds1, p1, q1, rfl, rfl, rfl, h1, r1⟩ := trodAll_cons r0
  obtain ⟨v2, vs2, d2, ds2, p2, q2, rfl, rfl, rfl, h2, r2⟩ := trodAll_cons r1
  obtain ⟨rfl, rfl, rfl⟩ := trodAll_nil r2
  obtain rfl : args = #[v0, v1, v2] := by cases args; simp_all
  obtain ⟨rfl, rfl⟩ := trodVars_none hV
  obtain ⟨a0, rfl, rfl, rfl, w0⟩ := open_int Try.underlying3 (hval 0 3 v0 rfl rfl) h0
  obtain ⟨a1, rfl, rfl, rfl, w1⟩ := open_int Try.underlying3 (hval 1 3 v1 rfl rfl) h1
  obtain ⟨a2, rfl, rfl, rfl, w2⟩ := open_int Try.underlying3 (hval 2 3 v2 rfl rfl) h2
  clear hA0 hval0
  simp only [List.append_nil] at hW'
  refine (walk a0 a1 a2 w0 w1 w2 W).mono fun e W' ⟨he, hg⟩ => ?_
  subst he
  exact ⟨_, rfl, post_of_below (pa := []) (pv := []) hW' (fun _ _ _ => (trodAll_cons_mk (shut_bool Try.underlying4 _) trodAll_mk0)) (fun sp _ => (trodAll_cons_mk (shut_int Try.underlying3 w0) (trodAll_cons_mk (shut_int Try.underlying3 w1) (trodAll_cons_mk (shut_int Try.underlying3 w2) trodAll_mk0)))) (fun _ _ => rfl) rfl
    hg (ok_one (by kernel_rfl) rfl (okWide_bool_mk Try.underlying4 _))⟩

theorem over : Rows.senderCreditRow.holds Try.pinned (OpenSpec.ofChange Rows.senderCreditSpec) :=
  OpenClaim.holds_of_wide 12 Try.f12 rfl rfl rfl rfl rfl rfl rfl ⟨rfl, rfl, rfl, rfl, rfl⟩ rfl rfl rfl rfl rfl (by kernel_rfl) Try.func12 (by kernel_rfl)
    (of_decide_eq_true (by kernel_rfl)) (by unfold Func.isWrapper; first | (rw [if_pos (by decide +kernel)]; kernel_rfl) | (rw [if_neg (by decide +kernel)]; exact ⟨rfl, rfl⟩))
    (fun os started H enc _ => lifted os started H enc)

/-- ████ THE STATEMENT ████ -/
theorem proved : Rows.SenderCreditSaid :=
  over
#print axioms proved
end Go.Proofs.Ytejmcfgmopijkaa.senderCredit
