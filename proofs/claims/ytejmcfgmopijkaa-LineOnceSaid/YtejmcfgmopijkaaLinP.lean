/- A call of a script; the line's calls, told by the law's own words. -/
import Derived.Test.YtejmcfgmopijkaaLinC
import Derived.Test.YtejmcfgmopijkaaLinS
namespace Go.Proofs.Ytejmcfgmopijkaa
open Go.RowKit
set_option linter.unusedVariables false
set_option linter.unusedSimpArgs false

section
variable {w w' : World} {B l : Nat} {X : Option Nat} {σ τ : LSt} {q : Int}
theorem send_p (t : Int) (h : LI w B l X σ) (hb : LG σ) (hBw : B ≤ w.heap.size) (he : sendS σ t = (q, τ)) :
    Calls Try.prog 58 #[.pointer (some ⟨l, 0, none⟩), .int .i64 t] w fun e w' => e = .returned (.int .i64 q) ∧ LI w' B l X τ ∧ ChP B lts X w w' := by
  obtain ⟨g, r, gc, v1, v2, v3, h, hX, hd⟩ := h
  unfold sendS at he
  injection he with e1 e2
  subst e1 e2
  exact (send_c B l g r gc _ _ _ _ _ _ _ _ _ _ _ _ _ _ _ _ _ w t (tickN σ.now t) _ h hb hBw rfl rfl).mono fun e w' ⟨h1, ⟨v1', h2⟩, c⟩ => ⟨h1, ⟨g, r, gc, v1', v2, v3, h2, hX.chB c (by simp), hd⟩, ChP.of_B c (by simp [lts]) (by simp) hX⟩
theorem come_p (i : Int) (h : LI w B l X σ) (hb : LG σ) (hBw : B ≤ w.heap.size) (hO : σ.Out.length < 1000) (hh : σ.had < 1000000) (he : comeS σ i = (q, τ)) :
    Calls Try.prog 55 #[.pointer (some ⟨l, 0, none⟩), .int .i64 i] w fun e w' => e = .returned (.int .i64 q) ∧ LI w' B l X τ ∧ ChP B lts X w w' := by
  obtain ⟨g, r, gc, v1, v2, v3, h, hX, hd⟩ := h
  unfold comeS at he
  split at he
  · rename_i hr
    injection he with e1 e2
    subst e1 e2
    exact (come_no B l g r gc _ _ _ _ _ _ _ _ _ _ _ _ _ _ _ _ _ w i h (atL_none hr)).mono fun e w' ⟨h1, c⟩ => ⟨h1, LI.ch0 ⟨g, r, gc, v1, v2, v3, h, hX, hd⟩ c, ChP.of_0 c⟩
  · rename_i x hx
    obtain ⟨k, rfl, hk⟩ := atL_some hx
    injection he with e1 e2
    by_cases h0 : whyN 1 σ.had 1 x.1 = 0
    · by_cases hr : σ.room - σ.store = 0
      · have hc : comeE σ x.1 = 7 := by unfold comeE; rw [if_pos ⟨h0, hr⟩]
        rw [hc] at e1 e2
        rw [if_neg (by omega)] at e2
        subst e1 e2
        exact (come_full B l g r gc _ _ _ _ _ _ _ _ _ _ _ _ _ _ _ _ _ w k x h hb hBw hk h0 hr).mono fun e w' ⟨h1, ⟨v1', v2', h2⟩, c⟩ => ⟨h1, ⟨g, r, gc, v1', v2', v3, h2, hX.chB c (by simp), hd⟩, ChP.of_B c (by simp [lts]) (by simp) hX⟩
      · have hc : comeE σ x.1 = 0 := by unfold comeE; rw [if_neg (fun h => hr h.2)]; exact h0
        rw [hc] at e1 e2
        rw [if_pos rfl] at e2
        subst e1 e2
        exact (come_yes B l g r gc _ _ _ _ _ _ _ _ _ _ _ _ _ _ _ _ _ w k x _ X h hb hBw hk h0 rfl hr hO hh hX hd).mono fun e w' ⟨h1, ⟨v1', v2', v3', h2, hd'⟩, c⟩ => ⟨h1, ⟨g, r, gc, v1', v2', v3', h2, hX.ch c, hd'⟩, c⟩
    · have hc : comeE σ x.1 = whyN 1 σ.had 1 x.1 := by unfold comeE; rw [if_neg (fun h => h0 h.1)]
      rw [hc] at e1 e2
      rw [if_neg h0] at e2
      subst e1 e2
      exact (come_err B l g r gc _ _ _ _ _ _ _ _ _ _ _ _ _ _ _ _ _ w k x _ h hb hBw hk rfl h0).mono fun e w' ⟨h1, ⟨v1', v2', h2⟩, c⟩ => ⟨h1, ⟨g, r, gc, v1', v2', v3, h2, hX.chB c (by simp), hd⟩, ChP.of_B c (by simp [lts]) (by simp) hX⟩

set_option maxHeartbeats 4000000 in
set_option maxRecDepth 100000 in
theorem play_p (o : Op14) (h : LI w B l X σ) (hb : LG σ) (hBw : B ≤ w.heap.size) (hsz : o.s.size ≤ maxLen) (hO : σ.Out.length < 1000) (hh : σ.had < 1000000) (he : playS σ o = (q, τ)) :
    Calls Try.prog 49 #[.pointer (some ⟨l, 0, none⟩), .agg #[.int .i64 o.k, .string o.s, .int .i64 o.n, .bool o.b]] w fun e w' => e = .returned (.int .i64 q) ∧ LI w' B l X τ ∧ ChP B lts X w w' := by
  obtain ⟨k, s, n, b⟩ := o
  have hX := h.rowX
  have hs : cut s = s.extract 0 (min s.size 20) := rfl
  have hcase := play_cases σ ⟨k, s, n, b⟩
  simp only at hcase hsz
  rw [he] at hcase
  generalize cut s = s' at hs hcase
  obtain ⟨c, hc, hc2⟩ : ∃ c : Nat, (if (20 : Int) < (s.size : Int) then (20 : Int) else (s.size : Int)) = c ∧ c = min s.size 20 := ⟨min s.size 20, by split <;> omega, rfl⟩
  rw [← hc2] at hs
  have hc3 : c ≤ s.size := by omega
  have hs1 := hs.symm
  clear hc2 he hs
  unfold maxLen at hsz
  have ca := (Ch.refl [] w).alloc (.cells #[.int .i64 k, .string s, .int .i64 n, .bool b] 85)
  have h1 := h.ch0 ca
  have p1 : ChP B lts X w _ := ChP.of_0 ca
  have z1 : B ≤ (w.alloc (.cells #[.int .i64 k, .string s, .int .i64 n, .bool b] 85)).heap.size := Nat.le_trans hBw ca.size
  have y := Blk.new w 85 #[.int .i64 k, .string s, .int .i64 n, .bool b]
  have y0 := y.cell 0
  have y1 := y.cell 1
  have y2 := y.cell 2
  have y3 := y.cell 3
  simp at y0 y1 y2 y3
  clear ca y h
  rcases hcase with ⟨rfl, e⟩ | ⟨rfl, e⟩ | ⟨rfl, e⟩ | ⟨rfl, e⟩ | ⟨rfl, e⟩ | ⟨rfl, e⟩ | ⟨⟨k0, k1, k2, k3, k4, k5⟩, e⟩
  · have E := Lib.hid e; clear e
    go_enter Try.func49, Try.ntmps49
    go_wp2_with fail
    generalize w.alloc _ = w1 at h1 p1 z1 y0 y1 y2 y3 ⊢
    generalize w.heap.size = yb at y0 y1 y2 y3 ⊢
    clear y0 y1 y2 y3 hs1 hc hc3
    refine (push_p s' h1 hb z1 E.out.symm).mono ?_
    rintro e2 w2 ⟨rfl, h2, p2⟩
    have p3 := p1.trans p2 hX
    go_wp2_with fail
    go_ret
    exact ⟨rfl, h2, p3⟩
  · have E := Lib.hid e; clear e
    go_enter Try.func49, Try.ntmps49
    go_wp2_with fail
    generalize w.alloc _ = w1 at h1 p1 z1 y0 y1 y2 y3 ⊢
    generalize w.heap.size = yb at y0 y1 y2 y3 ⊢
    clear y0 y1 y2 y3 hs1 hc hc3
    refine (send_p n h1 hb z1 E.out.symm).mono ?_
    rintro e2 w2 ⟨rfl, h2, p2⟩
    have p3 := p1.trans p2 hX
    go_wp2_with fail
    go_ret
    exact ⟨rfl, h2, p3⟩
  · have E := Lib.hid e; clear e
    go_enter Try.func49, Try.ntmps49
    go_wp2_with fail
    generalize w.alloc _ = w1 at h1 p1 z1 y0 y1 y2 y3 ⊢
    generalize w.heap.size = yb at y0 y1 y2 y3 ⊢
    clear y0 y1 y2 y3 hs1 hc hc3
    refine (come_p n h1 hb z1 hO hh E.out.symm).mono ?_
    rintro e2 w2 ⟨rfl, h2, p2⟩
    have p3 := p1.trans p2 hX
    go_wp2_with fail
    go_ret
    exact ⟨rfl, h2, p3⟩
  · have E := Lib.hid e; clear e
    go_enter Try.func49, Try.ntmps49
    go_wp2_with fail
    generalize w.alloc _ = w1 at h1 p1 z1 y0 y1 y2 y3 ⊢
    generalize w.heap.size = yb at y0 y1 y2 y3 ⊢
    clear y0 y1 y2 y3 hs1 hc hc3
    refine (back_p n h1 hb z1 E.out.symm).mono ?_
    rintro e2 w2 ⟨rfl, h2, p2⟩
    have p3 := p1.trans p2 hX
    go_wp2_with fail
    go_ret
    exact ⟨rfl, h2, p3⟩
  · have E := Lib.hid e; clear e
    go_enter Try.func49, Try.ntmps49
    go_wp2_with fail
    generalize w.alloc _ = w1 at h1 p1 z1 y0 y1 y2 y3 ⊢
    generalize w.heap.size = yb at y0 y1 y2 y3 ⊢
    clear y0 y1 y2 y3 hs1 hc hc3
    refine (drain_p n h1 hb z1 E.out.symm).mono ?_
    rintro e2 w2 ⟨rfl, h2, p2⟩
    have p3 := p1.trans p2 hX
    go_wp2_with fail
    go_ret
    exact ⟨rfl, h2, p3⟩
  · have E := Lib.hid e; clear e
    go_enter Try.func49, Try.ntmps49
    go_wp2_with fail
    generalize w.alloc _ = w1 at h1 p1 z1 y0 y1 y2 y3 ⊢
    generalize w.heap.size = yb at y0 y1 y2 y3 ⊢
    clear y0 y1 y2 y3 hs1 hc hc3
    refine (lose_p b n h1 hb z1 E.out.symm).mono ?_
    rintro e2 w2 ⟨rfl, h2, p2⟩
    have p3 := p1.trans p2 hX
    go_wp2_with fail
    go_ret
    exact ⟨rfl, h2, p3⟩
  · have E := Lib.hid e
    clear e
    have g0 : (k == 0) = false := by simp [k0]
    have g1 : (k == 1) = false := by simp [k1]
    have g2 : (k == 2) = false := by simp [k2]
    have g3 : (k == 3) = false := by simp [k3]
    have g4 : (k == 4) = false := by simp [k4]
    have g5 : (k == 5) = false := by simp [k5]
    go_enter Try.func49, Try.ntmps49
    go_wp2_with fail
    generalize w.alloc _ = w1 at h1 p1 z1 y0 y1 y2 y3 ⊢
    generalize w.heap.size = yb at y0 y1 y2 y3 ⊢
    clear y0 y1 y2 y3 hs1 hc hc3
    refine (twice_p b n h1 hb z1 E.out.symm).mono ?_
    rintro e2 w2 ⟨rfl, h2, p2⟩
    have p3 := p1.trans p2 hX
    go_wp2_with fail
    go_ret
    exact ⟨rfl, h2, p3⟩
end

/-- The reference's New. -/
theorem rnew14_no (win wait room : Int) (w : World) (h : ¬ ((1 ≤ win ∧ win ≤ 16) ∧ (1 ≤ wait ∧ wait ≤ 1000))) :
    Calls Try.prog 59 #[.int .i64 win, .int .i64 wait, .int .i64 room] w fun e w' => e = .returned (.tuple #[.pointer none, .int .i64 1]) ∧ Ch [] w w' := by
  have c1 := rnew_no 1 win wait w (fun h' => h h'.2)
  clear h
  go_enter Try.func59, Try.ntmps59
  go_wp2_with fail
  refine c1.mono ?_
  rintro e1 w1 ⟨rfl, c2⟩
  subst c2
  go_wp2_with fail
  go_ret2
  exact ⟨rfl, Ch.refl _ _⟩
theorem rnew14_room (win wait room : Int) (w : World) (h2 : 1 ≤ win ∧ win ≤ 16) (h3 : 1 ≤ wait ∧ wait ≤ 1000) (hr : ¬ (1 ≤ room ∧ room ≤ 64)) :
    Calls Try.prog 59 #[.int .i64 win, .int .i64 wait, .int .i64 room] w fun e w' => e = .returned (.tuple #[.pointer none, .int .i64 1]) ∧ Ch [] w w' := by
  have c1 := rnew_yes 1 win wait w (by omega) h2 h3
  by_cases h0 : room < 1
  · clear h2 h3 hr
    go_enter Try.func59, Try.ntmps59
    go_wp2_with fail
    refine c1.mono ?_
    rintro e1 w1 ⟨rfl, _, c2⟩
    go_wp2_with fail
    go_ret2
    exact ⟨rfl, c2⟩
  · have h1 : 64 < room := by omega
    clear h2 h3 hr
    go_enter Try.func59, Try.ntmps59
    go_wp2_with fail
    refine c1.mono ?_
    rintro e1 w1 ⟨rfl, _, c2⟩
    go_wp2_with fail
    go_ret2
    exact ⟨rfl, c2⟩
theorem rnew14_yes (win wait room : Int) (w : World) (h2 : 1 ≤ win ∧ win ≤ 16) (h3 : 1 ≤ wait ∧ wait ≤ 1000) (hr : 1 ≤ room ∧ room ≤ 64) :
    Calls Try.prog 59 #[.int .i64 win, .int .i64 wait, .int .i64 room] w fun e w' => ∃ a, e = .returned (.tuple #[.pointer (some a), .int .i64 0]) ∧ Ch [] w w' := by
  have c1 := rnew_yes 1 win wait w (by omega) h2 h3
  obtain ⟨r0, r1⟩ := hr
  clear h2 h3
  go_enter Try.func59, Try.ntmps59
  go_wp2_with fail
  refine c1.mono ?_
  rintro e1 w1 ⟨rfl, _, c2⟩
  clear c1
  go_wp2_with fail
  refine (new_r_yes 1 w1 (by omega) (by omega)).mono ?_
  rintro e2 w2 ⟨rfl, _, c3⟩
  have C := c2.trans c3
  go_wp2_with fail
  go_ret2
  exact ⟨_, rfl, C.alloc _⟩
end Go.Proofs.Ytejmcfgmopijkaa
