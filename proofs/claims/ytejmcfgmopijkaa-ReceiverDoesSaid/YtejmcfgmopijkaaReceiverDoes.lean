/- Whatever comes, in any order: each answer of the receiver, what was taken, and what is told, is as the document says. No conditions. -/
import Derived.Test.YtejmcfgmopijkaaRows
import Derived.WalkKit
import Derived.ProofKit
import Derived.OpenShut
import Derived.ShutString
import Derived.Carry
import Derived.Deep.RegionHeld3
import Derived.Test.YtejmcfgmopijkaaPost
import Derived.Test.YtejmcfgmopijkaaFixR
import Derived.Test.YtejmcfgmopijkaaOps13
import Derived.Test.YtejmcfgmopijkaaQuiet
namespace Go.Proofs.Ytejmcfgmopijkaa.receiverDoes
open Go.ChangeShapes Go.WideShapes Go.ChangeAt Go.RowKit
set_option linter.unusedVariables false

theorem takeN_bound (ep had e s : Int) : had ≤ takeN ep had e s ∧ takeN ep had e s ≤ had + 1 := by
  unfold takeN; split <;> omega

set_option maxHeartbeats 4000000 in
set_option maxRecDepth 100000 in
theorem walk (ep : Int) (A : Option Addr) (len cap : Nat) (K E N : Nat → Int) (w : World) (hl : len ≤ maxLen) (hA : Ops13 w w.heap.size A len K E N) :
    Calls Try.prog 3 #[.int .i64 ep, .slice A len cap] w fun e w' => e = .returned (.bool true) ∧ Below w.heap.size w w' := by
  unfold maxLen at hl
  by_cases hr : ep < 1 ∨ 1099511627776 < ep
  · clear hA
    go_enter Try.func3, Try.ntmps3
    go_wp2_with fail
    refine (new_i_no ep w hr).mono ?_
    rintro r w1 ⟨rfl, rfl⟩
    go_wp2_with fail
    refine (new_r_no ep w hr).mono ?_
    rintro r w1 ⟨rfl, rfl⟩
    go_wp2_with fail
    refine wp_loop_rounds 1 ?_
    rw [rounds_succ]
    go_wp2_with fail
    refine (fixed13 w).mono ?_
    rintro r w1 ⟨rfl, hb⟩
    go_wp2
    go_ret
    exact ⟨rfl, hb⟩
  · have hE : 1 ≤ ep ∧ ep ≤ 1099511627776 := by omega
    clear hr
    go_enter Try.func3, Try.ntmps3
    go_wp2_with fail
    refine (new_i_ex (w := w) hE.1 hE.2).mono ?_
    rintro r w1 ⟨g, gc, rfl, R1, C1, g1, g2⟩
    have B1 := bgo (Below.refl _ _) C1 (by simp)
    clear C1
    go_wp2_with fail
    refine (new_r_ex (w := w1) hE.1 hE.2).mono ?_
    rintro r w2 ⟨q, rfl, X1, C2, q1⟩
    have R2 := R1.ch C2 (by simp) (by simp)
    have B2 := bgo B1 C2 (by simp)
    have q2 : w.heap.size ≤ q := Nat.le_trans B1.size q1
    clear R1 C2 B1 q1
    go_wp2_with fail
    go_loopw [9] (fun i wr => ∃ (j : Nat) (h : Int) (ow : Bool), i = .int .i64 j ∧ 0 ≤ h ∧ h ≤ j ∧ j ≤ 80 ∧ j ≤ len ∧ RecI wr g gc ep h ow ∧ RecR wr q ep h ow ∧ Below w.heap.size w wr) (fun i _ => (80 - intOf i).toNat)
    case atStart => exact ⟨0, 0, false, rfl, Int.le_refl _, Int.le_refl _, by omega, by omega, R2, X1, B2⟩
    case round =>
      obtain ⟨j, h, ow, rfl, h0, hh, hj, hjl, R, X, B⟩ := hrel
      clear R2 X1 B2
      by_cases h80 : j < 80 ∧ j < len
      · obtain ⟨h80, hlen⟩ := h80
        obtain ⟨b, off, rfl, hb, c0, c1, c2⟩ := (hA.below B).at_ j hlen
        generalize K j = kk at c0
        generalize E j = ee at c1
        generalize N j = nn at c2
        clear hA
        have D := Blk.new wr 31 #[.int .i64 kk, .int .i64 ee, .int .i64 nn]
        have R0 := R.ch ((Ch.refl [] wr).alloc (.cells #[.int .i64 kk, .int .i64 ee, .int .i64 nn] 31)) (by simp) (by simp)
        have X0 := X.ch ((Ch.refl [] wr).alloc (.cells #[.int .i64 kk, .int .i64 ee, .int .i64 nn] 31)) (by simp)
        have B0 := B.alloc B.size (.cells #[.int .i64 kk, .int .i64 ee, .int .i64 nn] 31)
        have x0 := B.size
        have xg : wr.heap.size ≠ g := fun e => by have := R.b.lt; omega
        have xh : wr.heap.size ≠ gc := fun e => by have := R.c.lt; omega
        have xq : wr.heap.size ≠ q := fun e => by have := X.b.lt; omega
        have gq : g ≠ q := R.b.ne_ X.b (by decide)
        have cq : gc ≠ q := R.c.ne_ X.b (by decide)
        have hk : kk = 0 ∨ kk = 1 ∨ (kk ≠ 0 ∧ kk ≠ 1) := by omega
        rcases hk with rfl | rfl | ⟨hk0, hk1⟩
        · go_wp2_with fail
          generalize wr.alloc _ = wx at D R0 X0 B0 ⊢
          generalize wr.heap.size = x at D x0 xg xh xq ⊢
          clear R X B c0 c1 c2
          have D1 : Blk wx.drew x 31 #[.int .i64 0, .int .i64 ee, .int .i64 nn] := D
          have R1 : RecI wx.drew g gc ep h ow := ⟨R0.b, R0.c⟩
          have X1 : RecR wx.drew q ep h ow := ⟨X0.b⟩
          have B1 : Below w.heap.size w wx.drew := B0.drew
          clear R0 X0 B0
          have c1 := D.cell 1
          have c2 := D.cell 2
          simp at c1 c2
          go_region_held3 (fun w' => w'.cell? ⟨x, 1, none⟩ = some (.int .i64 ee) ∧ w'.cell? ⟨x, 2, none⟩ = some (.int .i64 nn)) (go_keep) (first
            | (go_at_call 20; refine (take_i g gc ep h ee nn ow _ R1 h0 (by omega)).mono ?_; rintro r w2 ⟨rfl, R2, C2⟩; have c3 := (D1.ch C2 (by simp; omega)).cell 1; have c4 := (D1.ch C2 (by simp; omega)).cell 2; simp at c3 c4)
            | (go_at_call 21; refine (take_r q ep h ee nn ow _ (X1.ch C2 (by simp; omega)) h0 (by omega)).mono ?_; rintro r w3 ⟨rfl, X3, C3⟩; have c5 := ((D1.ch C2 (by simp; omega)).ch C3 (by simp; omega)).cell 1; have c6 := ((D1.ch C2 (by simp; omega)).ch C3 (by simp; omega)).cell 2; simp at c5 c6))
          have R3 := R2.ch C3 (by simp; omega) (by simp; omega)
          have B3 := bgo (bgo B1 C2 (by simp; omega)) C3 (by simp; omega)
          clear c1 c2 c3 c4 c5 c6 D D1 R1 X1 B1 R2 C2 C3
          have hb1 := takeN_bound ep h ee nn
          generalize takeN ep h ee nn = h' at hb1 R3 X3
          generalize (ow || ee == ep) = o' at R3 X3
          have q0 := X3.b.cell 0
          have q3 := X3.b.cell 1
          have q4 := X3.b.cell 2
          simp at q0 q3 q4
          go_wp2_with fail
          go_quiet ((first
            | (go_at_call 27; exact quiet_left (had_i g gc ep _ _ _ ⟨R3.b, R3.c⟩))
            | (go_at_call 28; exact quiet_left (epoch_i g gc ep _ _ _ ⟨R3.b, R3.c⟩))
            | (go_at_call 29; exact quiet_left (owes_i g gc ep _ _ _ ⟨R3.b, R3.c⟩))))
          rename_i nq
          have R4 : RecI (w3.drewN nq) g gc ep h' o' := ⟨R3.b, R3.c⟩
          have X4 : RecR (w3.drewN nq) q ep h' o' := ⟨X3.b⟩
          have B4 : Below w.heap.size w (w3.drewN nq) := ⟨B3.os, B3.tape, B3.output, B3.size, B3.block⟩
          clear R3 X3 B3 q0 q3 q4
          go_wp2_with fail
          go_roundw
          case rel => exact ⟨j + 1, h', o', by simp, by omega, by simp; omega, by omega, by omega, R4, X4, B4⟩
          case measure => simp [intOf]; omega
        · go_wp2_with fail
          generalize wr.alloc _ = wx at D R0 X0 B0 ⊢
          generalize wr.heap.size = x at D x0 xg xh xq ⊢
          clear R X B c0 c1 c2
          have D1 : Blk wx.drew x 31 #[.int .i64 1, .int .i64 ee, .int .i64 nn] := D
          have R1 : RecI wx.drew g gc ep h ow := ⟨R0.b, R0.c⟩
          have X1 : RecR wx.drew q ep h ow := ⟨X0.b⟩
          have B1 : Below w.heap.size w wx.drew := B0.drew
          clear R0 X0 B0
          have c1 := D.cell 1
          have c2 := D.cell 2
          simp at c1 c2
          go_region_held3 (fun w' => w'.cell? ⟨x, 1, none⟩ = some (.int .i64 ee) ∧ w'.cell? ⟨x, 2, none⟩ = some (.int .i64 nn)) (go_keep) (first
            | (go_at_call 22; refine (fits_i g gc ep h ee nn ow _ R1 h0 (by omega)).mono ?_; rintro r w2 ⟨rfl, R2, C2⟩; have c3 := (D1.ch C2 (by simp; omega)).cell 1; have c4 := (D1.ch C2 (by simp; omega)).cell 2; simp at c3 c4)
            | (go_at_call 23; refine (fits_r q ep h ee nn ow _ (X1.ch C2 (by simp; omega)) h0 (by omega)).mono ?_; rintro r w3 ⟨rfl, X3, C3⟩; have c5 := ((D1.ch C2 (by simp; omega)).ch C3 (by simp; omega)).cell 1; have c6 := ((D1.ch C2 (by simp; omega)).ch C3 (by simp; omega)).cell 2; simp at c5 c6))
          have R3 := R2.ch C3 (by simp; omega) (by simp; omega)
          have B3 := bgo (bgo B1 C2 (by simp; omega)) C3 (by simp; omega)
          clear c1 c2 c3 c4 c5 c6 D D1 R1 X1 B1 R2 C2 C3
          generalize (ow || ee == ep) = o' at R3 X3
          have q0 := X3.b.cell 0
          have q3 := X3.b.cell 1
          have q4 := X3.b.cell 2
          simp at q0 q3 q4
          go_wp2_with fail
          go_quiet ((first
            | (go_at_call 27; exact quiet_left (had_i g gc ep _ _ _ ⟨R3.b, R3.c⟩))
            | (go_at_call 28; exact quiet_left (epoch_i g gc ep _ _ _ ⟨R3.b, R3.c⟩))
            | (go_at_call 29; exact quiet_left (owes_i g gc ep _ _ _ ⟨R3.b, R3.c⟩))))
          rename_i nq
          have R4 : RecI (w3.drewN nq) g gc ep h o' := ⟨R3.b, R3.c⟩
          have X4 : RecR (w3.drewN nq) q ep h o' := ⟨X3.b⟩
          have B4 : Below w.heap.size w (w3.drewN nq) := ⟨B3.os, B3.tape, B3.output, B3.size, B3.block⟩
          clear R3 X3 B3 q0 q3 q4
          go_wp2_with fail
          go_roundw
          case rel => exact ⟨j + 1, h, o', by simp, by omega, by simp; omega, by omega, by omega, R4, X4, B4⟩
          case measure => simp [intOf]; omega
        · have e0 : (kk == 0) = false := by simp [hk0]
          have e1 : (kk == 1) = false := by simp [hk1]
          go_wp2_with fail
          generalize wr.alloc _ = wx at D R0 X0 B0 ⊢
          generalize wr.heap.size = x at D x0 xg xh xq ⊢
          clear R X B c0 c1 c2
          have D1 : Blk wx.drew x 31 #[.int .i64 kk, .int .i64 ee, .int .i64 nn] := D
          have R1 : RecI wx.drew g gc ep h ow := ⟨R0.b, R0.c⟩
          have X1 : RecR wx.drew q ep h ow := ⟨X0.b⟩
          have B1 : Below w.heap.size w wx.drew := B0.drew
          clear R0 X0 B0
          have c1 := D.cell 1
          have c2 := D.cell 2
          simp at c1 c2
          go_region_held3 (fun w' => w'.cell? ⟨x, 2, none⟩ = some (.int .i64 nn)) (go_keep) (first
            | (go_at_call 25; refine (ack_i g gc ep h nn ow _ R1).mono ?_; rintro r w2 ⟨rfl, R2, C2⟩; have c3 := (D1.ch C2 (by simp; omega)).cell 2; simp at c3)
            | (go_at_call 26; refine (ack_r q ep h nn ow _ (X1.ch C2 (by simp; omega))).mono ?_; rintro r w4 ⟨rfl, X3, C3⟩; have c4 := ((D1.ch C2 (by simp; omega)).ch C3 (by simp; omega)).cell 2; simp at c4)
            | (go_at_call 24; refine (same_ack ep h nn _).mono ?_; rintro r w3 ⟨rfl, C4⟩; have c5 := (((D1.ch C2 (by simp; omega)).ch C3 (by simp; omega)).ch C4 (by simp)).cell 2; simp at c5))
          have R3 := (R2.ch C3 (by simp; omega) (by simp; omega)).ch C4 (by simp) (by simp)
          have X3 := X3.ch C4 (by simp)
          have B3 := bgo (bgo (bgo B1 C2 (by simp; omega)) C3 (by simp; omega)) C4 (by simp)
          clear c1 c2 c3 c4 c5 D D1 R1 X1 B1 R2 C2 C3 C4
          have q0 := X3.b.cell 0
          have q3 := X3.b.cell 1
          have q4 := X3.b.cell 2
          simp at q0 q3 q4
          go_wp2_with fail
          go_quiet ((first
            | (go_at_call 27; exact quiet_left (had_i g gc ep _ _ _ ⟨R3.b, R3.c⟩))
            | (go_at_call 28; exact quiet_left (epoch_i g gc ep _ _ _ ⟨R3.b, R3.c⟩))
            | (go_at_call 29; exact quiet_left (owes_i g gc ep _ _ _ ⟨R3.b, R3.c⟩))))
          rename_i nq
          have R4 : RecI (w3.drewN nq) g gc ep h false := ⟨R3.b, R3.c⟩
          have X4 : RecR (w3.drewN nq) q ep h false := ⟨X3.b⟩
          have B4 : Below w.heap.size w (w3.drewN nq) := ⟨B3.os, B3.tape, B3.output, B3.size, B3.block⟩
          clear R3 X3 B3 q0 q3 q4
          go_wp2_with fail
          go_roundw
          case rel => exact ⟨j + 1, h, false, by simp, by omega, by simp; omega, by omega, by omega, R4, X4, B4⟩
          case measure => simp [intOf]; omega
      · by_cases hjl2 : j < len
        · have h81 : ¬ (j : Int) < 80 := by omega
          clear h80
          go_wp2_with fail
          refine (fixed13 _).mono ?_
          rintro r w5 ⟨rfl, hb⟩
          have B5 := B.trans (hb.mono B.size)
          go_wp2
          go_ret
          exact ⟨rfl, B5⟩
        · clear h80
          go_wp2_with fail
          refine (fixed13 _).mono ?_
          rintro r w5 ⟨rfl, hb⟩
          have B5 := B.trans (hb.mono B.size)
          go_wp2
          go_ret
          exact ⟨rfl, B5⟩

theorem own : ownKnob Try.prog.godebug = none := by kernel_rfl
theorem laidOut : laidOutB Try.prog = true := by kernel_rfl

set_option maxRecDepth 100000 in
theorem lifted (os : Os) (started : os.Started) (H : Type) (enc : TypeId × Value → H) :
    ReturnsInHanded {} Try.checked os 3 .any (Rows.receiverDoesSpec.pre6 enc Try.prog Try.f3 Rows.receiverDoesRow.domain false) (Rows.receiverDoesSpec.post enc Try.prog Try.f3 false true false false) := by
  refine returnsInHanded_of_change (C := Try.checked) own started (by kernel_rfl) Try.func3
    (ChangeSpec.witness6 (enc := enc) (C := Try.checked) false ⟨#[], #[.int .i64 0, .slice none 0 0], []⟩ 8 (by kernel_rfl) (by kernel_rfl) (by kernel_rfl) (by kernel_rfl)) ?_
  intro W base args ds gs before hval0 hW hcnd _
  have hval : ∀ (j : Nat) t v, Try.f3.params[j]? = some t → args[j]? = some v → Value.okWide Try.prog W .any base t v := hval0
  have hW' := hW
  obtain ⟨p, q, hA0, hV, rfl, hfz, hnd⟩ := hW
  have hA : DataW.TrodAll enc Try.prog W 0 (fun _ => true) true Try.f3.params.toList args.toList ds p := hA0
  rw [Try.params3] at hA hval
  obtain ⟨v0, vs0, d0, ds0, p0, q0, hargs, rfl, rfl, h0, r0⟩ := trodAll_cons hA
  obtain ⟨v1, vs1, d1, ds1, p1, q1, rfl, rfl, rfl, h1, r1⟩ := trodAll_cons r0
  obtain ⟨rfl, rfl, rfl⟩ := trodAll_nil r1
  obtain rfl : args = #[v0, v1] := by cases args; simp_all
  obtain ⟨rfl, rfl⟩ := trodVars_none hV
  obtain ⟨a0, hv0, _, _, w0⟩ := open_int Try.underlying3 (hval 0 3 v0 rfl rfl) h0
  obtain ⟨A, len, cap, K, E, N, hv1, hm, hO⟩ := open_ops13 (hval 1 22 v1 rfl rfl) h1
  clear hA0 hval0
  have hlt0 : ∀ x ∈ p0, x.block < W.heap.size := fun x hx => hW'.lt x (by simp [hx])
  have hlt1 : ∀ x ∈ p1, x.block < W.heap.size := fun x hx => hW'.lt x (by simp [hx])
  have hstay : ∀ (W' : World), Below W.heap.size W W' → ∀ sp : Nat → Bool, (∀ p ∈ (p0 ++ (p1 ++ ([]))) ++ [], sp p.block = true) → DataW.TrodAll enc Try.prog W' 0 sp true [3, 22] [v0, v1] [d0, d1] (p0 ++ (p1 ++ ([]))) := fun W' hg sp hsp =>
    (trodAll_cons_mk (WideElems.Trod_stays laidOut (by kernel_rfl) (of_decide_eq_true (by kernel_rfl)) h0 (fun x hx => hg.same (hlt0 x hx)) (fun x hx => hsp x (by simp [hx]))) (trodAll_cons_mk (WideElems.Trod_stays laidOut (by kernel_rfl) (of_decide_eq_true (by kernel_rfl)) h1 (fun x hx => hg.same (hlt1 x hx)) (fun x hx => hsp x (by simp [hx]))) trodAll_mk0))
  have hwalk := walk a0 A len cap K E N W hm hO
  rw [← hv0, ← hv1] at hwalk
  refine hwalk.mono fun e W' ⟨he, hg⟩ => ?_
  subst he
  exact ⟨_, rfl, post_of_below (pa := p0 ++ (p1 ++ ([]))) (pv := []) hW' (fun _ _ _ => (trodAll_cons_mk (shut_bool Try.underlying4 _) trodAll_mk0)) (fun sp hsp => hstay W' hg sp hsp) (fun _ _ => rfl) rfl
    hg (ok_one (by kernel_rfl) rfl (okWide_bool_mk Try.underlying4 _))⟩

theorem over : Rows.receiverDoesRow.holds Try.pinned (OpenSpec.ofChange Rows.receiverDoesSpec) :=
  OpenClaim.holds_of_wide 3 Try.f3 rfl rfl rfl rfl rfl rfl rfl ⟨rfl, rfl, rfl, rfl, rfl⟩ rfl rfl rfl rfl rfl (by kernel_rfl) Try.func3 (by kernel_rfl)
    (of_decide_eq_true (by kernel_rfl)) (by unfold Func.isWrapper; first | (rw [if_pos (by decide +kernel)]; kernel_rfl) | (rw [if_neg (by decide +kernel)]; exact ⟨rfl, rfl⟩))
    (fun os started H enc _ => lifted os started H enc)

theorem proved : Rows.ReceiverDoesSaid :=
  over
end Go.Proofs.Ytejmcfgmopijkaa.receiverDoes
#print axioms Go.Proofs.Ytejmcfgmopijkaa.receiverDoes.proved
