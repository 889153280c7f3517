/- A line on which nothing is lost or mixed up brings each text at once, whatever its window, wait and room, if it is drained. No conditions. -/
import Derived.Test.YtejmcfgmopijkaaRows
import Derived.WalkKit
import Derived.ProofKit
import Derived.OpenShut
import Derived.ShutString
import Derived.Carry
import Derived.Deep.RegionHeld3
import Derived.BigQuiet
import Derived.IntWalk
import Derived.Deep.Cut
import Derived.Deep.DeepCutAuto
import Derived.StillTailTactics
import Derived.Deep.RegionLaw
import Derived.Test.YtejmcfgmopijkaaPost
import Derived.Test.YtejmcfgmopijkaaNum
import Derived.Test.YtejmcfgmopijkaaLLaw
namespace Go.Proofs.Ytejmcfgmopijkaa.lineStraight
open Go.ChangeShapes Go.WideShapes Go.ChangeAt Go.RowKit
set_option linter.unusedVariables false
set_option linter.unusedSimpArgs false

set_option maxHeartbeats 8000000 in
set_option maxRecDepth 100000 in
theorem walk (a0 a1 a2 : Int) (A : Option Addr) (len cap : Nat) (f : Nat → ByteArray) (w : World) (hl : len ≤ maxLen) (hA : StrsIn w w.heap.size A len f) :
    Calls Try.prog 16 #[.agg #[.int .i64 a0, .int .i64 a1, .int .i64 a2], .slice A len cap] w fun e w' => e = .returned (.bool true) ∧ Below w.heap.size w w' := by
  obtain ⟨i0, hi, hz0, hz1, hz2⟩ := info_parts info9
  unfold maxLen at hl
  have e1 := and15 a0
  have e2 := and7 a1
  have e3 := and7 a2
  have f1 : 0 ≤ a0 % 16 := by omega
  have f2 : a0 % 16 ≤ 15 := by omega
  have f3 : 0 ≤ a1 % 8 := by omega
  have f4 : a1 % 8 ≤ 7 := by omega
  have f5 : 0 ≤ a2 % 8 := by omega
  have f6 : a2 % 8 ≤ 7 := by omega
  go_enter Try.func16, Try.ntmps16
  go_wp2_with fail
  have B0 : Below w.heap.size w (w.alloc (.cells #[.int .i64 a0, .int .i64 a1, .int .i64 a2] 78)) := bgo (Below.refl _ _) ((Ch.refl [] w).alloc _) (by simp)
  generalize w.alloc _ = w1 at B0 ⊢
  have m1 : 1 ≤ 1 + a0 % 16 ∧ 1 + a0 % 16 ≤ 16 := by omega
  have m2 : 1 ≤ 1 + a1 % 8 ∧ 1 + a1 % 8 ≤ 8 := by omega
  have m3 : 1 ≤ 1 + a2 % 8 ∧ 1 + a2 % 8 ≤ 64 := by omega
  generalize 1 + a0 % 16 = win at m1 ⊢
  generalize 1 + a1 % 8 = wt at m2 ⊢
  generalize 1 + a2 % 8 = room at m3 ⊢
  clear e1 e2 e3 f1 f2 f3 f4 f5 f6
  refine (new_q (B := w.heap.size) B0.size m1 ⟨m2.1, by omega⟩ m3).mono ?_
  rintro r w2 ⟨l, σ0, rfl, h2, hF, c2⟩
  have B2 := bgo B0 c2 (by simp)
  clear B0 c2
  go_wp2_with fail
  obtain ⟨vin, hv0, I3, h3⟩ := start_in h2 B2.size
  rw [← hv0]
  have B3 := bgo B2 ((Ch.refl [] w2).alloc (.cells #[] 9)) (by simp)
  clear hv0 h2 B2
  generalize w2.alloc _ = w3 at I3 h3 B3 ⊢
  go_loopw [7, 8] (fun vi i wr => ∃ (j : Nat) (In : List ByteArray) (σ : LSt), i = .int .i64 j ∧ j ≤ 60 ∧ j ≤ len ∧ InRow wr w.heap.size vi j In ∧ LI wr w.heap.size l vi.ownBlock σ ∧ Calm In σ ∧ Below w.heap.size w wr ∧ σ.now ≤ 1000) (fun _ i _ => (60 - intOf i).toNat)
  case atStart => exact ⟨0, [], σ0, rfl, by omega, by omega, I3, h3, hF.calm, B3, by rw [hF.now]; omega⟩
  case round =>
    obtain ⟨j, In, σ, rfl, hj, hjl, I, h, hC, hB, hnow⟩ := hrel
    clear I3 h3 B3 hF
    by_cases hlt : j < 60 ∧ j < len
    · obtain ⟨h60, hlen⟩ := hlt
      obtain ⟨b, off, rfl, hbb, c0⟩ := (hA.below hB).at_ j hlen
      have hsz := hA.sz j hlen
      obtain ⟨s', hs'⟩ : ∃ s', (f j).extract 0 (min (f j).size 20) = s' := ⟨_, rfl⟩
      generalize f j = s at c0 hsz hs'
      obtain ⟨c, hc, hc2⟩ : ∃ c : Nat, (if (20 : Int) < (s.size : Int) then (20 : Int) else (s.size : Int)) = c ∧ c = min s.size 20 := ⟨min s.size 20, by split <;> omega, rfl⟩
      rw [← hc2] at hs'
      have hc3 : c ≤ s.size := by omega
      clear hc2
      clear hA
      have hj60 : (j : Int) < 60 := by omega
      have hjn : (j : Int) < (len : Int) := by omega
      go_wp2_with fail
      go_quiet (fail)
      rename_i nq
      have cq := (Ch.refl [] wr).drewN nq
      have I1 := I.ch0 cq
      have h1 := h.ch0 cq
      have B1 := bgo hB cq (by simp)
      clear I h hB cq c0 hs' hc hc3 hsz
      generalize wr.drewN nq = w4 at I1 h1 B1 ⊢
      go_wp2_with (at_builtin; refine wpList_append_any _ rfl (.tmp 56) (.tmp 58) 68 rfl w.heap.size 9 i0 _ 1 16 Try.underlying68 hi hz0 hz1 hz2 rfl (by decide) _ _ _ rfl (I1.1.alloc _) _ _ 1 1 _ rfl (Reads.of_blk (Blk.new w4 9 #[.string s']) rfl) (by simp [Value.oneCell']) (by unfold maxLen; omega) (by omega) (by have := B1.size; simp; omega) ?_)
      intro v5 w5 own5 grow5 loc5
      have ca := (Ch.refl [] w4).alloc (.cells #[.string s'] 9)
      have h5 := (h1.ch0 ca).more grow5 own5 (loc5.imp id (fun h => by rw [h]; simp))
      have B5 := below_grown (bgo B1 ca (by simp)) grow5 (I1.ch0 ca).1 (Nat.le_refl _)
      have I5 := (I1.ch0 ca).more own5
      obtain ⟨a, b', c', d, e, g, hS⟩ := calm_step hC s'
      have hIl : (In ++ [s']).length ≤ 1000 := by rw [I5.2]; omega
      have ga : LG a := hS.ia.bnd hIl (by rw [hS.na]; omega)
      have gb : LG b' := hS.ib.bnd hIl (by rw [hS.nb]; omega)
      have gc : LG c' := hS.ic.bnd hIl (by rw [hS.nc]; omega)
      have gd : LG d := hS.id.bnd hIl (by rw [hS.nd]; omega)
      have ge : LG e := hS.ie.bnd hIl (by rw [hS.ne]; omega)
      have gs : LG σ := hC.inv.bnd (by have := I1.2; omega) (by omega)
      have gg : LG g := hS.calm.inv.bnd hIl (by rw [hS.nf]; omega)
      have ob : b'.Out.length < 1000 := by have := hS.ib.outlen; have := hS.ib.hn; rw [I5.2] at this; omega
      have oh : b'.had < 1000000 := by have := hS.ib.hn; rw [I5.2] at this; omega
      have hT0 : Hid (g.T.length = 0) := Lib.hid (by rw [hS.calm.T]; rfl)
      clear own5 grow5 loc5 ca I1 h1 B1 hC
      go_wp2_with fail
      refine (push_p s' h5 gs B5.size hS.p).mono ?_
      rintro r w6 ⟨rfl, h6, p6⟩
      have I6 := I5.chP p6
      have B6 := ChB.go B5 p6.toB (Nat.le_refl _)
      clear I5 h5 B5 p6
      go_wp2_with fail
      refine (send_p 0 h6 ga B6.size hS.q).mono ?_
      rintro r w7 ⟨rfl, h7, p7⟩
      have I7 := I6.chP p7
      have B7 := ChB.go B6 p7.toB (Nat.le_refl _)
      clear I6 h6 B6 p7
      go_wp2_with fail
      refine (come_p 0 h7 gb B7.size ob oh hS.r).mono ?_
      rintro r w8 ⟨rfl, h8, p8⟩
      have I8 := I7.chP p8
      have B8 := ChB.go B7 p8.toB (Nat.le_refl _)
      clear I7 h7 B7 p8
      go_wp2_with fail
      refine (drain_p 1 h8 gc B8.size hS.t).mono ?_
      rintro r w9 ⟨rfl, h9, p9⟩
      have I9 := I8.chP p9
      have B9 := ChB.go B8 p9.toB (Nat.le_refl _)
      clear I8 h8 B8 p9
      go_wp2_with fail
      refine (back_p 0 h9 gd B9.size hS.u).mono ?_
      rintro r w10 ⟨rfl, h10, p10⟩
      have I10 := I9.chP p10
      have B10 := ChB.go B9 p10.toB (Nat.le_refl _)
      clear I9 h9 B9 p10
      go_wp2_with fail
      refine (back_p 0 h10 ge B10.size hS.v).mono ?_
      rintro r w11 ⟨rfl, h11, p11⟩
      have I11 := I10.chP p11
      have B11 := ChB.go B10 p11.toB (Nat.le_refl _)
      clear I10 h10 B10 p11
      go_wp2_with fail
      refine (under_p (n := 0) h11 gg hT0.out).mono ?_
      rintro r w12 ⟨rfl, h12, p12⟩
      have I12 := I11.chP p12
      have B12 := ChB.go B11 p12.toB (Nat.le_refl _)
      clear I11 h11 B11 p12
      go_wp2_with fail
      go_roundw
      case rel => exact ⟨j + 1, In ++ [s'], g, by simp, by omega, by omega, I12, h12, hS.calm, B12, by rw [hS.nf]; omega⟩
      case measure => simp [intOf]; omega
    · have gs : LG σ := hC.inv.bnd (by have := I.2; omega) (by omega)
      have hx : Hid (σ.Out = In) := Lib.hid (calm_out hC)
      have hOn : Hid (σ.On.length = 0) := Lib.hid (by rw [hC.On]; rfl)
      have hBk : Hid (σ.Bk.length = 0) := Lib.hid (by rw [hC.Bk]; rfl)
      have hIn : Hid (In.length = j) := Lib.hid I.2
      have hnl : ¬ ((j : Int) < (len : Int)) ∨ ((j : Int) < (len : Int) ∧ ¬ ((j : Int) < 60)) := by omega
      clear hC hA hlt
      obtain ⟨Ai, ci, rfl, _, hRi⟩ := I.rd
      rcases hnl with hnl | ⟨hnl, hnk⟩
      all_goals
        go_wp2_with fail
        refine (ways_p (n := 0) (m := 0) h hOn.out hBk.out).mono ?_
        rintro r w6 ⟨rfl, h6, p6⟩
        have I6 := I.chP p6
        have B6 := ChB.go hB p6.toB (Nat.le_refl _)
        clear I h hB p6 hRi
        go_wp2_with fail
        refine (out_p (O := In) (n := j) h6 gs hx.out hIn.out).mono ?_
        rintro r w7 ⟨Ao, co, rfl, _, hRo, h7, p7⟩
        have I7 := I6.chP p7
        have B7 := ChB.go B6 p7.toB (Nat.le_refl _)
        clear I6 h6 B6 p7
        obtain ⟨Ai2, ci2, he, _, hRi⟩ := I7.rd
        injection he with e1 _ e2
        subst e1 e2
        go_wp2_with fail
        refine (sameS_n hRo hRi hIn.out (by omega)).mono ?_
        rintro r w8 ⟨rfl, c8⟩
        have B8 := bgo B7 c8 (by simp)
        clear B7 c8 hRo hRi I7 h7
        go_wp2_with fail
        refine (fixed14 _).mono ?_
        rintro r w9 ⟨rfl, hb9⟩
        have B9 := B8.trans (hb9.mono B8.size)
        go_wp2_with fail
        go_ret
        exact ⟨rfl, B9⟩

theorem own : ownKnob Try.prog.godebug = none := by kernel_rfl
theorem laidOut : laidOutB Try.prog = true := by kernel_rfl

set_option maxRecDepth 100000 in
theorem lifted (os : Os) (started : os.Started) (H : Type) (enc : TypeId × Value → H) :
    ReturnsInHanded {} Try.checked os 16 .any (Rows.lineStraightSpec.pre6 enc Try.prog Try.f16 Rows.lineStraightRow.domain false) (Rows.lineStraightSpec.post enc Try.prog Try.f16 false true false false) := by
  refine returnsInHanded_of_change (C := Try.checked) own started (by kernel_rfl) Try.func16
    (ChangeSpec.witness6 (enc := enc) (C := Try.checked) false ⟨#[], #[.agg #[.int .i64 0, .int .i64 0, .int .i64 0], .slice none 0 0], []⟩ 8 (by kernel_rfl) (by kernel_rfl) (by kernel_rfl) (by kernel_rfl)) ?_
  intro W base args ds gs before hval0 hW hcnd _
  have hval : ∀ (j : Nat) t v, Try.f16.params[j]? = some t → args[j]? = some v → Value.okWide Try.prog W .any base t v := hval0
  have hW' := hW
  obtain ⟨p, q, hA0, hV, rfl, hfz, hnd⟩ := hW
  have hA : DataW.TrodAll enc Try.prog W 0 (fun _ => true) true Try.f16.params.toList args.toList ds p := hA0
  rw [Try.params16] at hA hval
  obtain ⟨v0, vs0, d0, ds0, p0, q0, hargs, rfl, rfl, h0, r0⟩ := trodAll_cons hA
  obtain ⟨v1, vs1, d1, ds1, p1, q1, rfl, rfl, rfl, h1, r1⟩ := trodAll_cons r0
  obtain ⟨rfl, rfl, rfl⟩ := trodAll_nil r1
  obtain rfl : args = #[v0, v1] := by cases args; simp_all
  obtain ⟨rfl, rfl⟩ := trodVars_none hV
  obtain ⟨a0, a1, a2, hv0⟩ := open_three (hval 0 78 v0 rfl rfl) h0
  obtain ⟨A1, len1, cap1, f1, hv1, hm1, hO1⟩ := open_strs (hval 1 68 v1 rfl rfl) h1
  clear hA0 hval0
  have hlt0 : ∀ x ∈ p0, x.block < W.heap.size := fun x hx => hW'.lt x (by simp [hx])
  have hlt1 : ∀ x ∈ p1, x.block < W.heap.size := fun x hx => hW'.lt x (by simp [hx])
  have hstay : ∀ (W' : World), Below W.heap.size W W' → ∀ sp : Nat → Bool, (∀ p ∈ (p0 ++ (p1 ++ ([]))) ++ [], sp p.block = true) → DataW.TrodAll enc Try.prog W' 0 sp true [78, 68] [v0, v1] [d0, d1] (p0 ++ (p1 ++ ([]))) := fun W' hg sp hsp =>
    (trodAll_cons_mk (WideElems.Trod_stays laidOut (by kernel_rfl) (of_decide_eq_true (by kernel_rfl)) h0 (fun x hx => hg.same (hlt0 x hx)) (fun x hx => hsp x (by simp [hx]))) (trodAll_cons_mk (WideElems.Trod_stays laidOut (by kernel_rfl) (of_decide_eq_true (by kernel_rfl)) h1 (fun x hx => hg.same (hlt1 x hx)) (fun x hx => hsp x (by simp [hx]))) trodAll_mk0))
  have hwalk := walk a0 a1 a2 A1 len1 cap1 f1 W hm1 hO1
  rw [← hv0, ← hv1] at hwalk
  refine hwalk.mono fun e W' ⟨he, hg⟩ => ?_
  subst he
  exact ⟨_, rfl, post_of_below (pa := p0 ++ (p1 ++ ([]))) (pv := []) hW' (fun _ _ _ => (trodAll_cons_mk (shut_bool Try.underlying4 _) trodAll_mk0)) (fun sp hsp => hstay W' hg sp hsp) (fun _ _ => rfl) rfl
    hg (ok_one (by kernel_rfl) rfl (okWide_bool_mk Try.underlying4 _))⟩

theorem over : Rows.lineStraightRow.holds Try.pinned (OpenSpec.ofChange Rows.lineStraightSpec) :=
  OpenClaim.holds_of_wide 16 Try.f16 rfl rfl rfl rfl rfl rfl rfl ⟨rfl, rfl, rfl, rfl, rfl⟩ rfl rfl rfl rfl rfl (by kernel_rfl) Try.func16 (by kernel_rfl)
    (of_decide_eq_true (by kernel_rfl)) (by unfold Func.isWrapper; first | (rw [if_pos (by decide +kernel)]; kernel_rfl) | (rw [if_neg (by decide +kernel)]; exact ⟨rfl, rfl⟩))
    (fun os started H enc _ => lifted os started H enc)

theorem proved : Rows.LineStraightSaid :=
  over
end Go.Proofs.Ytejmcfgmopijkaa.lineStraight
#print axioms Go.Proofs.Ytejmcfgmopijkaa.lineStraight.proved
