/- What is wrong with any plan, the parents at first, and who is next to be a node's parent, is as the document says. No conditions. -/
import Derived.Test.YtagnpmmcoaemeaaRows
import Derived.WalkKit
import Derived.ProofKit
import Derived.OpenShut
import Derived.ShutString
import Derived.Carry
import Derived.Test.YtagnpmmcoaemeaaPost
import Derived.Test.YtagnpmmcoaemeaaPlan
import Derived.Test.YtagnpmmcoaemeaaPair
import Derived.Test.YtagnpmmcoaemeaaPureRankPlans
namespace Go.Proofs.Ytagnpmmcoaemeaa.rankPlans
open Go.ChangeShapes Go.WideShapes Go.ChangeAt Go.RowKit Go.Proofs.YtagnpmmcoaemeaaW.PrintWords
set_option linter.unusedVariables false
set_option linter.unusedSimpArgs false

theorem walk (A : Option Addr) (len cap : Nat) (l : List (List Int)) (a1 a2 : Int) (A2 : Option Addr) (len2 cap2 : Nat) (l2 : List Int) (w : World) (hl : l.length = len) (hcap : len ≤ cap) (hC : Kd.C (Kd.slice 3 (Kd.int .i64)) w A len l) (hl2 : l2.length = len2) (hcap2 : len2 ≤ cap2) (hC2 : Kd.C (Kd.int .i64) w A2 len2 l2) :
    Calls Try.prog 3 #[.slice A len cap, .agg #[.int .i64 a1, .int .i64 a2], .slice A2 len2 cap2] w fun e w' => e = .returned (.bool true) ∧ Below w.heap.size w w' := by
  subst hl
  subst hl2
  obtain ⟨k, hk⟩ := Pure.RankPlans l a1 a2 l2
  exact R16.rivuletlaw16_RankPlans.calls k A cap l a1 A2 cap2 l2 a2 true w hC hcap hC2 hcap2 hk

theorem own : ownKnob Try.prog.godebug = none := by kernel_rfl
theorem laidOut : laidOutB Try.prog = true := by kernel_rfl

set_option maxRecDepth 100000 in
theorem lifted (os : Os) (started : os.Started) (H : Type) (enc : TypeId × Value → H) :
    ReturnsInHanded {} Try.checked os 3 .any (Rows.rankPlansSpec.pre6 enc Try.prog Try.f3 Rows.rankPlansRow.domain false) (Rows.rankPlansSpec.post enc Try.prog Try.f3 false true false false) := by
  refine returnsInHanded_of_change (C := Try.checked) own started (by kernel_rfl) Try.func3
    (ChangeSpec.witness6 (enc := enc) (C := Try.checked) false ⟨#[], #[.slice none 0 0, .agg #[.int .i64 0, .int .i64 0], .slice none 0 0], []⟩ 8 (by kernel_rfl) (by kernel_rfl) (by kernel_rfl) (by kernel_rfl)) ?_
  intro W base args ds gs before hval0 hW hcnd _
  have hval : ∀ (j : Nat) t v, Try.f3.params[j]? = some t → args[j]? = some v → Value.okWide Try.prog W .any base t v := hval0
  have hW' := hW
  obtain ⟨p, q, hA0, hV, rfl, hfz, hnd⟩ := hW
  have hA : DataW.TrodAll enc Try.prog W 0 (fun _ => true) true Try.f3.params.toList args.toList ds p := hA0
  rw [Try.params3] at hA hval
  obtain ⟨v0, vs0, d0, ds0, p0, q0, hargs, rfl, rfl, h0, r0⟩ := trodAll_cons hA
  obtain ⟨v1, vs1, d1, ds1, p1, q1, rfl, rfl, rfl, h1, r1⟩ := trodAll_cons r0
  obtain ⟨v2, vs2, d2, ds2, p2, q2, rfl, rfl, rfl, h2, r2⟩ := trodAll_cons r1
  obtain ⟨rfl, rfl, rfl⟩ := trodAll_nil r2
  obtain rfl : args = #[v0, v1, v2] := by cases args; simp_all
  obtain ⟨rfl, rfl⟩ := trodVars_none hV
  obtain ⟨A0, len0, cap0, l0, hv0, hl0, hcap0, hC0⟩ := open_plan (hval 0 22 v0 rfl rfl) h0
  obtain ⟨a1, b1, hv1⟩ := open_pair (hval 1 23 v1 rfl rfl) h1
  obtain ⟨A2, len2, cap2, l2, hv2, hl2, hcap2, hC2⟩ := open_nums (hval 2 24 v2 rfl rfl) h2
  clear hA0 hval0
  have hlt0 : ∀ x ∈ p0, x.block < W.heap.size := fun x hx => hW'.lt x (by simp [hx])
  have hlt1 : ∀ x ∈ p1, x.block < W.heap.size := fun x hx => hW'.lt x (by simp [hx])
  have hlt2 : ∀ x ∈ p2, x.block < W.heap.size := fun x hx => hW'.lt x (by simp [hx])
  have hstay : ∀ (W' : World), Below W.heap.size W W' → ∀ sp : Nat → Bool, (∀ p ∈ (p0 ++ (p1 ++ (p2 ++ ([])))) ++ [], sp p.block = true) → DataW.TrodAll enc Try.prog W' 0 sp true [22, 23, 24] [v0, v1, v2] [d0, d1, d2] (p0 ++ (p1 ++ (p2 ++ ([])))) := fun W' hg sp hsp =>
    (trodAll_cons_mk (WideElems.Trod_stays laidOut (by kernel_rfl) (of_decide_eq_true (by kernel_rfl)) h0 (fun x hx => hg.same (hlt0 x hx)) (fun x hx => hsp x (by simp [hx]))) (trodAll_cons_mk (WideElems.Trod_stays laidOut (by kernel_rfl) (of_decide_eq_true (by kernel_rfl)) h1 (fun x hx => hg.same (hlt1 x hx)) (fun x hx => hsp x (by simp [hx]))) (trodAll_cons_mk (WideElems.Trod_stays laidOut (by kernel_rfl) (of_decide_eq_true (by kernel_rfl)) h2 (fun x hx => hg.same (hlt2 x hx)) (fun x hx => hsp x (by simp [hx]))) trodAll_mk0)))
  have hwalk := walk A0 len0 cap0 l0 a1 b1 A2 len2 cap2 l2 W hl0 hcap0 hC0 hl2 hcap2 hC2
  rw [← hv0, ← hv1, ← hv2] at hwalk
  refine hwalk.mono fun e W' ⟨he, hg⟩ => ?_
  subst he
  exact ⟨_, rfl, post_of_below (pa := p0 ++ (p1 ++ (p2 ++ ([])))) (pv := []) hW' (fun _ _ _ => (trodAll_cons_mk (shut_bool Try.underlying4 _) trodAll_mk0)) (fun sp hsp => hstay W' hg sp hsp) (fun _ _ => rfl) rfl
    hg (ok_one (by kernel_rfl) rfl (okWide_bool_mk Try.underlying4 _))⟩

theorem over : Rows.rankPlansRow.holds Try.pinned (OpenSpec.ofChange Rows.rankPlansSpec) :=
  OpenClaim.holds_of_wide 3 Try.f3 rfl rfl rfl rfl rfl rfl rfl ⟨rfl, rfl, rfl, rfl, rfl⟩ rfl rfl rfl rfl rfl (by kernel_rfl) Try.func3 (by kernel_rfl)
    (of_decide_eq_true (by kernel_rfl)) (by unfold Func.isWrapper; first | (rw [if_pos (by decide +kernel)]; kernel_rfl) | (rw [if_neg (by decide +kernel)]; exact ⟨rfl, rfl⟩))
    (fun os started H enc _ => lifted os started H enc)

theorem proved : Rows.RankPlansSaid :=
  over
end Go.Proofs.Ytagnpmmcoaemeaa.rankPlans
#print axioms Go.Proofs.Ytagnpmmcoaemeaa.rankPlans.proved
