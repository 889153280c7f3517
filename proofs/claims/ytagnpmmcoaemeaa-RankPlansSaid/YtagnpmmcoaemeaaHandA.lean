/- By hand: the iterator of package rank (a row from behind a place on, and then from its beginning on), and Choose, which ranges over it: the first of these that is not without. Conditions: rows of at most a million numbers. -/
import Derived.Test.YtagnpmmcoaemeaaHandB
import Derived.RangeFuncNested
import Derived.RangeFuncBound
import Derived.RangeFuncCalls
import Derived.RangeFuncLeaves
import Derived.RangeFuncBox
import Derived.Shelf.Abstract
import Derived.Shelf.RegionOpen
import Derived.Stop.RegionWithIn
import Derived.OwnWalkIn
import Derived.IntWalk
import Derived.TacticsInMore
import Derived.LoopNIn
import Derived.LoopIn
namespace Go.Proofs.Ytagnpmmcoaemeaa.R16
open Go.RowKit Go.Shelf Go.Proofs.YtagnpmmcoaemeaaW.PrintWords Go.Proofs.YtagnpmmcoaemeaaW.PrintLast Go.Proofs.YtagnpmmcoaemeaaW.PrintMore
set_option linter.unusedVariables false
set_option linter.unusedSimpArgs false
attribute [local go_sem] Oper.semAt_some

/-- What comes k-th. -/
def rotAt (row : List Int) (at_ : Int) (k : Nat) : Int := rd row ((at_ + 1 + k) % row.length)
def rotTo (row : List Int) (at_ : Int) (k : Nat) : List Int := (List.range k).map (rotAt row at_)
theorem rotTo_succ (row : List Int) (at_ : Int) (k : Nat) : rotTo row at_ (k + 1) = rotTo row at_ k ++ [rotAt row at_ k] := by simp [rotTo, List.range_succ]
theorem rotTo_len (row : List Int) (at_ : Int) (k : Nat) : (rotTo row at_ k).length = k := by simp [rotTo]
/-- What a round keeps: cells below n0, and the two boxes. -/
def KpR (n0 q3 q4 : Nat) (W W' : World) : Prop := ∀ (p : Addr) (v : Value), p.block < n0 ∨ p.block = q3 ∨ p.block = q4 → W.cell? p = some v → W'.cell? p = some v
theorem KpR.refl (n0 q3 q4 : Nat) (W : World) : KpR n0 q3 q4 W W := fun _ _ _ h => h
theorem KpR.trans {n0 q3 q4 : Nat} {A B C : World} (h : KpR n0 q3 q4 A B) (k : KpR n0 q3 q4 B C) : KpR n0 q3 q4 A C := fun p v hp hv => k p v hp (h p v hp hv)
/-- The iterator's memory: its two boxes, and the row. -/
structure ItM (W : World) (n0 q3 q4 : Nat) (A : Option Addr) (c : Nat) (row : List Int) (at_ : Int) : Prop where
  b3 : W.cell? ⟨q3, 0, none⟩ = some (.slice A row.length c)
  b4 : W.cell? ⟨q4, 0, none⟩ = some (.int .i64 at_)
  at' : ∀ i : Nat, i < row.length → ∃ ad, A = some ad ∧ ad.block < n0 ∧ W.cell? (ad.add i) = some (.int .i64 (rd row (i : Int)))
theorem ItM.keep {W W' : World} {n0 q3 q4 : Nat} {A : Option Addr} {c : Nat} {row : List Int} {at_ : Int} (h : ItM W n0 q3 q4 A c row at_) (k : KpR n0 q3 q4 W W') : ItM W' n0 q3 q4 A c row at_ :=
  ⟨k _ _ (.inr (.inl rfl)) h.b3, k _ _ (.inr (.inr rfl)) h.b4, fun i hi => by
    obtain ⟨ad, e, hb, hc⟩ := h.at' i hi
    exact ⟨ad, e, hb, k _ _ (.inl (by have : (ad.add i).block = ad.block := by unfold Addr.add; split <;> rfl
                                      rw [this]; exact hb)) hc⟩⟩
theorem rem_pos {a n : Int} (ha : 0 ≤ a) : a.tmod n = a % n := Int.tmod_eq_emod_of_nonneg ha

set_option maxRecDepth 100000 in
set_option maxHeartbeats 4000000 in
theorem round1_in (F : Fence) (n : Nat) (h38 : F.fn 38) (hro : F.round = none) (hn : 1 ≤ n) (l n0 q3 q4 : Nat) (A : Option Addr) (c : Nat) (row : List Int) (at_ : Int) (hl : row.length ≤ 1000000) (ha : -1 ≤ at_) (ha2 : at_ ≤ 1000000) (J Jx : List Int → World → Prop) (W : World)
    (hJ : ∀ s W1, J s W1 → J s W1.drew)
    (hY : ∀ pre x W1, J pre W1 → pre.length < row.length → YieldAt F (n - 1) Try.prog l #[.int .i64 x] W1 fun e W' =>
      (e = .returned (.bool true) ∧ J (pre ++ [x]) W' ∧ KpR n0 q3 q4 W1 W') ∨ (e = .returned (.bool false) ∧ Jx (pre ++ [x]) W'))
    (hM : ItM W n0 q3 q4 A c row at_) (h0 : J [] W) :
    CallsIn F n Try.prog 38 #[.func (.yield l) #[] #[], .pointer (some ⟨q3, 0, none⟩), .pointer (some ⟨q4, 0, none⟩)] W fun e W' => (∃ v, e = .returned v) ∧
      (J (rotTo row at_ row.length) W' ∨ (∃ k, k ≤ row.length ∧ Jx (rotTo row at_ k) W')) := by
  refine callsIn_of_wp Try.func38 rfl h38 ?_ hro
  simp only [Try.ntmps38, List.size_toArray, List.length_cons, List.length_nil, Nat.reduceAdd, Nat.reduceSub, Array.replicate_succ, Array.replicate_zero, List.push_toArray, List.append_toArray, List.nil_append, List.cons_append]
  have k3 := hM.b3
  gi_wp2
  clear k3
  gi_loopw [7] (fun i wr => ∃ k : Nat, k ≤ row.length ∧ i = .int .i64 k ∧ J (rotTo row at_ k) wr ∧ ItM wr n0 q3 q4 A c row at_)
    (fun i _ => row.length - (intOf i).toNat)
  case atStart => exact ⟨0, Nat.zero_le _, rfl, h0, hM⟩
  case round =>
    clear hM
    obtain ⟨k, hk, rfl, hJs, hM⟩ := hrel
    by_cases hlt : k < row.length
    · obtain ⟨fn, tmps, assign, body, hy, hR⟩ := (hY _ (rotAt row at_ k) wr.drew (hJ _ _ hJs) (by rw [rotTo_len]; exact hlt)).mono (R' := fun e W' => ∃ b : Bool, e = .returned (.bool b) ∧ Aside0 ((b = true ∧ J (rotTo row at_ (k + 1)) W' ∧ KpR n0 q3 q4 wr W') ∨ (b = false ∧ Jx (rotTo row at_ (k + 1)) W'))) (by
        rintro e W' (⟨rfl, h1, h2⟩ | ⟨rfl, h1⟩)
        · exact ⟨true, rfl, ⟨.inl ⟨rfl, by rw [rotTo_succ]; exact h1, fun p v hp hv => h2 p v hp hv⟩⟩⟩
        · exact ⟨false, rfl, ⟨.inr ⟨rfl, by rw [rotTo_succ]; exact h1⟩⟩⟩)
      obtain ⟨j, hj⟩ := Int.eq_ofNat_of_zero_le (show 0 ≤ (at_ + 1 + (k : Int)) % (row.length : Int) from Int.emod_nonneg _ (by omega))
      have hj2 : j < row.length := by have := Int.emod_lt_of_pos (at_ + 1 + (k : Int)) (show 0 < (row.length : Int) by omega); omega
      obtain ⟨ad, rfl, _, hc⟩ := hM.at' j hj2
      have k3 := hM.b3
      have k4 := hM.b4
      have e1 : rotAt row at_ k = rd row (j : Int) := by unfold rotAt; rw [hj]
      rw [e1] at hy
      generalize rd row (j : Int) = x at hy hc
      have v1 : IntKind.i64.wrap (at_ + 1) = at_ + 1 := IntWalk.i64_in _ (by omega)
      have v2 : IntKind.i64.wrap (at_ + 1 + (k : Int)) = at_ + 1 + k := IntWalk.i64_in _ (by omega)
      have v3 : (at_ + 1 + (k : Int)).tmod (row.length : Int) = j := by rw [rem_pos (by omega)]; exact hj
      have v4 : ((row.length : Int) == 0) = false := by simp; intro h; rw [h] at hlt; simp at hlt
      have v5 : (0 : Int) ≤ j := by omega
      have v9 : row ≠ [] := by intro h; rw [h] at hlt; simp at hlt
      have v6 : (j : Int) < row.length := by omega
      have v7 : 0 ≤ at_ + 1 := by omega
      have v8 : 0 ≤ at_ + 1 + (k : Int) := by omega
      clear hj e1 hJs
      gi_wp2
      generalize hQ0 : Exit.then _ _ = Q0
      have HQ0 := Lib.hid hQ0
      clear hQ0
      have hPan : ∀ (v : Value) (o : Option Tmp) c a w, Q0 (.panic c) (a.put o v) w → Q0 (.panic c) a w := by
        intro v o c a w h
        rw [← HQ0.out] at h ⊢
        cases o <;> exact h
      have TAIL : ∀ (b : Bool) (W3 : World), Aside0 ((b = true ∧ J (rotTo row at_ (k + 1)) W3 ∧ KpR n0 q3 q4 wr W3) ∨ (b = false ∧ Jx (rotTo row at_ (k + 1)) W3)) → Q0 .normal { tmps := #[.func (.yield l) #[] #[], .pointer (some ⟨q3, 0, none⟩), .pointer (some ⟨q4, 0, none⟩), undef, .int .i64 k, .slice (some ad) row.length c, .int .i64 row.length, .int .i64 k, .bool true, .int .i64 k, .func (.yield l) #[] #[], .slice (some ad) row.length c, .int .i64 at_, .int .i64 (at_ + 1), .int .i64 k, .int .i64 (at_ + 1 + k), .slice (some ad) row.length c, .int .i64 row.length, .int .i64 j, .pointer (some (ad.add j)), .int .i64 x, .bool b, .bool (!b), u23], defers := [] } W3 := by
        rintro b W3 ⟨⟨rfl, h1, h2⟩ | ⟨rfl, h1⟩⟩
        · rw [← HQ0.out]
          gi_wp2
          go_roundw
          case rel => exact ⟨k + 1, by omega, by simp, h1, hM.keep h2⟩
          case measure => simp [intOf]; omega
        · rw [← HQ0.out]
          gi_wp2
          refine bodyPost_ret (results_none rfl _ _ _) rfl ?_
          exact ⟨⟨_, rfl⟩, .inr ⟨k + 1, by omega, h1⟩⟩
      refine wpIn_region_any (by as_aux_lemma => kernel_rfl) ?_
      try (change wpAnyIn _ _ _ _ _ _ _ _ _ (World.drew _))
      refine wpAnyIn_take (i := 0) (v := ?_) hro rfl (by as_aux_lemma => kernel_rfl) (by as_aux_lemma => kernel_rfl) (by as_aux_lemma => kernel_rfl) (fun c a w h => hPan _ _ c a w h) ⟨Or.inl ⟨by rfl, ?_⟩, fun _ => rfl⟩ ?_
      rotate_left
      · (intro w; go_simp; try with_reducible rfl)
      try simp only [Act.put, List.setIfInBounds_toArray, List.set_cons_zero, List.set_cons_succ]
      refine wpAnyIn_take (i := 4) (v := ?_) hro rfl (by as_aux_lemma => kernel_rfl) (by as_aux_lemma => kernel_rfl) (by as_aux_lemma => kernel_rfl) (fun c a w h => hPan _ _ c a w h) ⟨Or.inl ⟨by rfl, ?_⟩, fun _ => rfl⟩ ?_
      rotate_left
      · (intro w; go_simp; try with_reducible rfl)
      try simp only [Act.put, List.setIfInBounds_toArray, List.set_cons_zero, List.set_cons_succ]
      refine wpAnyIn_ready (rs := [1, 2, 6]) (by as_aux_lemma => kernel_rfl) (by simp) ?_
      refine AllReadyIn.cons rfl (fun K hK => ?_) ?_
      · go_simp
        refine hK _ _ ?_
        clear hK K
        try simp only [Act.put, List.setIfInBounds_toArray, List.set_cons_zero, List.set_cons_succ]
        refine wpAnyIn_ready (rs := [2, 6]) (by as_aux_lemma => kernel_rfl) (by simp) ?_
        refine AllReadyIn.cons rfl (fun K hK => ?_) ?_
        · go_simp
          refine hK _ _ ?_
          clear hK K
          try simp only [Act.put, List.setIfInBounds_toArray, List.set_cons_zero, List.set_cons_succ]
          refine wpAnyIn_take (i := 3) (v := ?_) hro rfl (by as_aux_lemma => kernel_rfl) (by as_aux_lemma => kernel_rfl) (by as_aux_lemma => kernel_rfl) (fun c a w h => hPan _ _ c a w h) ⟨Or.inl ⟨by rfl, ?_⟩, fun _ => rfl⟩ ?_
          rotate_left
          · (intro w; go_simp; try with_reducible rfl)
          try simp only [Act.put, List.setIfInBounds_toArray, List.set_cons_zero, List.set_cons_succ]
          refine wpAnyIn_take (i := 5) (v := ?_) hro rfl (by as_aux_lemma => kernel_rfl) (by as_aux_lemma => kernel_rfl) (by as_aux_lemma => kernel_rfl) (fun c a w h => hPan _ _ c a w h) ⟨Or.inl ⟨by rfl, ?_⟩, fun _ => rfl⟩ ?_
          rotate_left
          · (intro w; go_simp; try with_reducible rfl)
          try simp only [Act.put, List.setIfInBounds_toArray, List.set_cons_zero, List.set_cons_succ]
          refine wpAnyIn_ready (rs := [6]) (by as_aux_lemma => kernel_rfl) (by simp) ?_
          refine AllReadyIn.cons rfl (fun K hK => ?_) AllReadyIn.nil
          go_simp
          refine hK _ _ ?_
          clear hK K
          try simp only [Act.put, List.setIfInBounds_toArray, List.set_cons_zero, List.set_cons_succ]
          refine wpAnyIn_take (i := 7) (v := ?_) hro rfl (by as_aux_lemma => kernel_rfl) (by as_aux_lemma => kernel_rfl) (by as_aux_lemma => kernel_rfl) (fun c a w h => hPan _ _ c a w h) ⟨Or.inl ⟨by rfl, ?_⟩, fun _ => rfl⟩ ?_
          rotate_left
          · (intro w; go_simp; try with_reducible rfl)
          try simp only [Act.put, List.setIfInBounds_toArray, List.set_cons_zero, List.set_cons_succ]
          refine wpAnyIn_take (i := 8) (v := ?_) hro rfl (by as_aux_lemma => kernel_rfl) (by as_aux_lemma => kernel_rfl) (by as_aux_lemma => kernel_rfl) (fun c a w h => hPan _ _ c a w h) ⟨Or.inl ⟨by rfl, ?_⟩, fun _ => rfl⟩ ?_
          rotate_left
          · (intro w; go_simp; try with_reducible rfl)
          try simp only [Act.put, List.setIfInBounds_toArray, List.set_cons_zero, List.set_cons_succ]
          refine wpAnyIn_take (i := 9) (v := ?_) hro rfl (by as_aux_lemma => kernel_rfl) (by as_aux_lemma => kernel_rfl) (by as_aux_lemma => kernel_rfl) (fun c a w h => hPan _ _ c a w h) ⟨Or.inl ⟨by rfl, ?_⟩, fun _ => rfl⟩ ?_
          rotate_left
          · (intro w; go_simp; try with_reducible rfl)
          try simp only [Act.put, List.setIfInBounds_toArray, List.set_cons_zero, List.set_cons_succ]
          refine wpAnyIn_ready (rs := [10]) (by as_aux_lemma => kernel_rfl) (by simp) ?_
          refine AllReadyIn.cons rfl (fun K hK => ?_) AllReadyIn.nil
          go_simp
          refine hK _ _ ?_
          clear hK K
          try simp only [Act.put, List.setIfInBounds_toArray, List.set_cons_zero, List.set_cons_succ]
          refine wpAnyIn_ready (rs := [11]) (by as_aux_lemma => kernel_rfl) (by simp) ?_
          refine AllReadyIn.cons rfl (fun K hK => ?_) AllReadyIn.nil
          go_simp
          refine hR.mono ?_
          rintro e W3 ⟨b, rfl, H3⟩
          refine hK _ _ ?_
          clear hK K
          try simp only [Act.put, List.setIfInBounds_toArray, List.set_cons_zero, List.set_cons_succ]
          refine wpAnyIn_take (i := 12) (v := ?_) hro rfl (by as_aux_lemma => kernel_rfl) (by as_aux_lemma => kernel_rfl) (by as_aux_lemma => kernel_rfl) (fun c a w h => hPan _ _ c a w h) ⟨Or.inl ⟨by rfl, ?_⟩, fun _ => rfl⟩ ?_
          rotate_left
          · (intro w; go_simp; try with_reducible rfl)
          try simp only [Act.put, List.setIfInBounds_toArray, List.set_cons_zero, List.set_cons_succ]
          refine wpAnyIn_done (by as_aux_lemma => kernel_rfl) ?_ _
          exact TAIL _ _ H3
        refine AllReadyIn.cons rfl (fun K hK => ?_) ?_
        · go_simp
          refine hK _ _ ?_
          clear hK K
          try simp only [Act.put, List.setIfInBounds_toArray, List.set_cons_zero, List.set_cons_succ]
          refine wpAnyIn_take (i := 7) (v := ?_) hro rfl (by as_aux_lemma => kernel_rfl) (by as_aux_lemma => kernel_rfl) (by as_aux_lemma => kernel_rfl) (fun c a w h => hPan _ _ c a w h) ⟨Or.inl ⟨by rfl, ?_⟩, fun _ => rfl⟩ ?_
          rotate_left
          · (intro w; go_simp; try with_reducible rfl)
          try simp only [Act.put, List.setIfInBounds_toArray, List.set_cons_zero, List.set_cons_succ]
          refine wpAnyIn_ready (rs := [2]) (by as_aux_lemma => kernel_rfl) (by simp) ?_
          refine AllReadyIn.cons rfl (fun K hK => ?_) AllReadyIn.nil
          go_simp
          refine hK _ _ ?_
          clear hK K
          try simp only [Act.put, List.setIfInBounds_toArray, List.set_cons_zero, List.set_cons_succ]
          refine wpAnyIn_take (i := 3) (v := ?_) hro rfl (by as_aux_lemma => kernel_rfl) (by as_aux_lemma => kernel_rfl) (by as_aux_lemma => kernel_rfl) (fun c a w h => hPan _ _ c a w h) ⟨Or.inl ⟨by rfl, ?_⟩, fun _ => rfl⟩ ?_
          rotate_left
          · (intro w; go_simp; try with_reducible rfl)
          try simp only [Act.put, List.setIfInBounds_toArray, List.set_cons_zero, List.set_cons_succ]
          refine wpAnyIn_take (i := 5) (v := ?_) hro rfl (by as_aux_lemma => kernel_rfl) (by as_aux_lemma => kernel_rfl) (by as_aux_lemma => kernel_rfl) (fun c a w h => hPan _ _ c a w h) ⟨Or.inl ⟨by rfl, ?_⟩, fun _ => rfl⟩ ?_
          rotate_left
          · (intro w; go_simp; try with_reducible rfl)
          try simp only [Act.put, List.setIfInBounds_toArray, List.set_cons_zero, List.set_cons_succ]
          refine wpAnyIn_take (i := 8) (v := ?_) hro rfl (by as_aux_lemma => kernel_rfl) (by as_aux_lemma => kernel_rfl) (by as_aux_lemma => kernel_rfl) (fun c a w h => hPan _ _ c a w h) ⟨Or.inl ⟨by rfl, ?_⟩, fun _ => rfl⟩ ?_
          rotate_left
          · (intro w; go_simp; try with_reducible rfl)
          try simp only [Act.put, List.setIfInBounds_toArray, List.set_cons_zero, List.set_cons_succ]
          refine wpAnyIn_take (i := 9) (v := ?_) hro rfl (by as_aux_lemma => kernel_rfl) (by as_aux_lemma => kernel_rfl) (by as_aux_lemma => kernel_rfl) (fun c a w h => hPan _ _ c a w h) ⟨Or.inl ⟨by rfl, ?_⟩, fun _ => rfl⟩ ?_
          rotate_left
          · (intro w; go_simp; try with_reducible rfl)
          try simp only [Act.put, List.setIfInBounds_toArray, List.set_cons_zero, List.set_cons_succ]
          refine wpAnyIn_ready (rs := [10]) (by as_aux_lemma => kernel_rfl) (by simp) ?_
          refine AllReadyIn.cons rfl (fun K hK => ?_) AllReadyIn.nil
          go_simp
          refine hK _ _ ?_
          clear hK K
          try simp only [Act.put, List.setIfInBounds_toArray, List.set_cons_zero, List.set_cons_succ]
          refine wpAnyIn_ready (rs := [11]) (by as_aux_lemma => kernel_rfl) (by simp) ?_
          refine AllReadyIn.cons rfl (fun K hK => ?_) AllReadyIn.nil
          go_simp
          refine hR.mono ?_
          rintro e W3 ⟨b, rfl, H3⟩
          refine hK _ _ ?_
          clear hK K
          try simp only [Act.put, List.setIfInBounds_toArray, List.set_cons_zero, List.set_cons_succ]
          refine wpAnyIn_take (i := 12) (v := ?_) hro rfl (by as_aux_lemma => kernel_rfl) (by as_aux_lemma => kernel_rfl) (by as_aux_lemma => kernel_rfl) (fun c a w h => hPan _ _ c a w h) ⟨Or.inl ⟨by rfl, ?_⟩, fun _ => rfl⟩ ?_
          rotate_left
          · (intro w; go_simp; try with_reducible rfl)
          try simp only [Act.put, List.setIfInBounds_toArray, List.set_cons_zero, List.set_cons_succ]
          refine wpAnyIn_done (by as_aux_lemma => kernel_rfl) ?_ _
          exact TAIL _ _ H3
        exact AllReadyIn.nil
      refine AllReadyIn.cons rfl (fun K hK => ?_) ?_
      · go_simp
        refine hK _ _ ?_
        clear hK K
        try simp only [Act.put, List.setIfInBounds_toArray, List.set_cons_zero, List.set_cons_succ]
        refine wpAnyIn_take (i := 3) (v := ?_) hro rfl (by as_aux_lemma => kernel_rfl) (by as_aux_lemma => kernel_rfl) (by as_aux_lemma => kernel_rfl) (fun c a w h => hPan _ _ c a w h) ⟨Or.inl ⟨by rfl, ?_⟩, fun _ => rfl⟩ ?_
        rotate_left
        · (intro w; go_simp; try with_reducible rfl)
        try simp only [Act.put, List.setIfInBounds_toArray, List.set_cons_zero, List.set_cons_succ]
        refine wpAnyIn_take (i := 5) (v := ?_) hro rfl (by as_aux_lemma => kernel_rfl) (by as_aux_lemma => kernel_rfl) (by as_aux_lemma => kernel_rfl) (fun c a w h => hPan _ _ c a w h) ⟨Or.inl ⟨by rfl, ?_⟩, fun _ => rfl⟩ ?_
        rotate_left
        · (intro w; go_simp; try with_reducible rfl)
        try simp only [Act.put, List.setIfInBounds_toArray, List.set_cons_zero, List.set_cons_succ]
        refine wpAnyIn_ready (rs := [1, 6]) (by as_aux_lemma => kernel_rfl) (by simp) ?_
        refine AllReadyIn.cons rfl (fun K hK => ?_) ?_
        · go_simp
          refine hK _ _ ?_
          clear hK K
          try simp only [Act.put, List.setIfInBounds_toArray, List.set_cons_zero, List.set_cons_succ]
          refine wpAnyIn_ready (rs := [6]) (by as_aux_lemma => kernel_rfl) (by simp) ?_
          refine AllReadyIn.cons rfl (fun K hK => ?_) AllReadyIn.nil
          go_simp
          refine hK _ _ ?_
          clear hK K
          try simp only [Act.put, List.setIfInBounds_toArray, List.set_cons_zero, List.set_cons_succ]
          refine wpAnyIn_take (i := 7) (v := ?_) hro rfl (by as_aux_lemma => kernel_rfl) (by as_aux_lemma => kernel_rfl) (by as_aux_lemma => kernel_rfl) (fun c a w h => hPan _ _ c a w h) ⟨Or.inl ⟨by rfl, ?_⟩, fun _ => rfl⟩ ?_
          rotate_left
          · (intro w; go_simp; try with_reducible rfl)
          try simp only [Act.put, List.setIfInBounds_toArray, List.set_cons_zero, List.set_cons_succ]
          refine wpAnyIn_take (i := 8) (v := ?_) hro rfl (by as_aux_lemma => kernel_rfl) (by as_aux_lemma => kernel_rfl) (by as_aux_lemma => kernel_rfl) (fun c a w h => hPan _ _ c a w h) ⟨Or.inl ⟨by rfl, ?_⟩, fun _ => rfl⟩ ?_
          rotate_left
          · (intro w; go_simp; try with_reducible rfl)
          try simp only [Act.put, List.setIfInBounds_toArray, List.set_cons_zero, List.set_cons_succ]
          refine wpAnyIn_take (i := 9) (v := ?_) hro rfl (by as_aux_lemma => kernel_rfl) (by as_aux_lemma => kernel_rfl) (by as_aux_lemma => kernel_rfl) (fun c a w h => hPan _ _ c a w h) ⟨Or.inl ⟨by rfl, ?_⟩, fun _ => rfl⟩ ?_
          rotate_left
          · (intro w; go_simp; try with_reducible rfl)
          try simp only [Act.put, List.setIfInBounds_toArray, List.set_cons_zero, List.set_cons_succ]
          refine wpAnyIn_ready (rs := [10]) (by as_aux_lemma => kernel_rfl) (by simp) ?_
          refine AllReadyIn.cons rfl (fun K hK => ?_) AllReadyIn.nil
          go_simp
          refine hK _ _ ?_
          clear hK K
          try simp only [Act.put, List.setIfInBounds_toArray, List.set_cons_zero, List.set_cons_succ]
          refine wpAnyIn_ready (rs := [11]) (by as_aux_lemma => kernel_rfl) (by simp) ?_
          refine AllReadyIn.cons rfl (fun K hK => ?_) AllReadyIn.nil
          go_simp
          refine hR.mono ?_
          rintro e W3 ⟨b, rfl, H3⟩
          refine hK _ _ ?_
          clear hK K
          try simp only [Act.put, List.setIfInBounds_toArray, List.set_cons_zero, List.set_cons_succ]
          refine wpAnyIn_take (i := 12) (v := ?_) hro rfl (by as_aux_lemma => kernel_rfl) (by as_aux_lemma => kernel_rfl) (by as_aux_lemma => kernel_rfl) (fun c a w h => hPan _ _ c a w h) ⟨Or.inl ⟨by rfl, ?_⟩, fun _ => rfl⟩ ?_
          rotate_left
          · (intro w; go_simp; try with_reducible rfl)
          try simp only [Act.put, List.setIfInBounds_toArray, List.set_cons_zero, List.set_cons_succ]
          refine wpAnyIn_done (by as_aux_lemma => kernel_rfl) ?_ _
          exact TAIL _ _ H3
        refine AllReadyIn.cons rfl (fun K hK => ?_) ?_
        · go_simp
          refine hK _ _ ?_
          clear hK K
          try simp only [Act.put, List.setIfInBounds_toArray, List.set_cons_zero, List.set_cons_succ]
          refine wpAnyIn_take (i := 7) (v := ?_) hro rfl (by as_aux_lemma => kernel_rfl) (by as_aux_lemma => kernel_rfl) (by as_aux_lemma => kernel_rfl) (fun c a w h => hPan _ _ c a w h) ⟨Or.inl ⟨by rfl, ?_⟩, fun _ => rfl⟩ ?_
          rotate_left
          · (intro w; go_simp; try with_reducible rfl)
          try simp only [Act.put, List.setIfInBounds_toArray, List.set_cons_zero, List.set_cons_succ]
          refine wpAnyIn_take (i := 8) (v := ?_) hro rfl (by as_aux_lemma => kernel_rfl) (by as_aux_lemma => kernel_rfl) (by as_aux_lemma => kernel_rfl) (fun c a w h => hPan _ _ c a w h) ⟨Or.inl ⟨by rfl, ?_⟩, fun _ => rfl⟩ ?_
          rotate_left
          · (intro w; go_simp; try with_reducible rfl)
          try simp only [Act.put, List.setIfInBounds_toArray, List.set_cons_zero, List.set_cons_succ]
          refine wpAnyIn_ready (rs := [1]) (by as_aux_lemma => kernel_rfl) (by simp) ?_
          refine AllReadyIn.cons rfl (fun K hK => ?_) AllReadyIn.nil
          go_simp
          refine hK _ _ ?_
          clear hK K
          try simp only [Act.put, List.setIfInBounds_toArray, List.set_cons_zero, List.set_cons_succ]
          refine wpAnyIn_take (i := 9) (v := ?_) hro rfl (by as_aux_lemma => kernel_rfl) (by as_aux_lemma => kernel_rfl) (by as_aux_lemma => kernel_rfl) (fun c a w h => hPan _ _ c a w h) ⟨Or.inl ⟨by rfl, ?_⟩, fun _ => rfl⟩ ?_
          rotate_left
          · (intro w; go_simp; try with_reducible rfl)
          try simp only [Act.put, List.setIfInBounds_toArray, List.set_cons_zero, List.set_cons_succ]
          refine wpAnyIn_ready (rs := [10]) (by as_aux_lemma => kernel_rfl) (by simp) ?_
          refine AllReadyIn.cons rfl (fun K hK => ?_) AllReadyIn.nil
          go_simp
          refine hK _ _ ?_
          clear hK K
          try simp only [Act.put, List.setIfInBounds_toArray, List.set_cons_zero, List.set_cons_succ]
          refine wpAnyIn_ready (rs := [11]) (by as_aux_lemma => kernel_rfl) (by simp) ?_
          refine AllReadyIn.cons rfl (fun K hK => ?_) AllReadyIn.nil
          go_simp
          refine hR.mono ?_
          rintro e W3 ⟨b, rfl, H3⟩
          refine hK _ _ ?_
          clear hK K
          try simp only [Act.put, List.setIfInBounds_toArray, List.set_cons_zero, List.set_cons_succ]
          refine wpAnyIn_take (i := 12) (v := ?_) hro rfl (by as_aux_lemma => kernel_rfl) (by as_aux_lemma => kernel_rfl) (by as_aux_lemma => kernel_rfl) (fun c a w h => hPan _ _ c a w h) ⟨Or.inl ⟨by rfl, ?_⟩, fun _ => rfl⟩ ?_
          rotate_left
          · (intro w; go_simp; try with_reducible rfl)
          try simp only [Act.put, List.setIfInBounds_toArray, List.set_cons_zero, List.set_cons_succ]
          refine wpAnyIn_done (by as_aux_lemma => kernel_rfl) ?_ _
          exact TAIL _ _ H3
        exact AllReadyIn.nil
      refine AllReadyIn.cons rfl (fun K hK => ?_) ?_
      · go_simp
        refine hK _ _ ?_
        clear hK K
        try simp only [Act.put, List.setIfInBounds_toArray, List.set_cons_zero, List.set_cons_succ]
        refine wpAnyIn_take (i := 7) (v := ?_) hro rfl (by as_aux_lemma => kernel_rfl) (by as_aux_lemma => kernel_rfl) (by as_aux_lemma => kernel_rfl) (fun c a w h => hPan _ _ c a w h) ⟨Or.inl ⟨by rfl, ?_⟩, fun _ => rfl⟩ ?_
        rotate_left
        · (intro w; go_simp; try with_reducible rfl)
        try simp only [Act.put, List.setIfInBounds_toArray, List.set_cons_zero, List.set_cons_succ]
        refine wpAnyIn_ready (rs := [1, 2]) (by as_aux_lemma => kernel_rfl) (by simp) ?_
        refine AllReadyIn.cons rfl (fun K hK => ?_) ?_
        · go_simp
          refine hK _ _ ?_
          clear hK K
          try simp only [Act.put, List.setIfInBounds_toArray, List.set_cons_zero, List.set_cons_succ]
          refine wpAnyIn_ready (rs := [2]) (by as_aux_lemma => kernel_rfl) (by simp) ?_
          refine AllReadyIn.cons rfl (fun K hK => ?_) AllReadyIn.nil
          go_simp
          refine hK _ _ ?_
          clear hK K
          try simp only [Act.put, List.setIfInBounds_toArray, List.set_cons_zero, List.set_cons_succ]
          refine wpAnyIn_take (i := 3) (v := ?_) hro rfl (by as_aux_lemma => kernel_rfl) (by as_aux_lemma => kernel_rfl) (by as_aux_lemma => kernel_rfl) (fun c a w h => hPan _ _ c a w h) ⟨Or.inl ⟨by rfl, ?_⟩, fun _ => rfl⟩ ?_
          rotate_left
          · (intro w; go_simp; try with_reducible rfl)
          try simp only [Act.put, List.setIfInBounds_toArray, List.set_cons_zero, List.set_cons_succ]
          refine wpAnyIn_take (i := 5) (v := ?_) hro rfl (by as_aux_lemma => kernel_rfl) (by as_aux_lemma => kernel_rfl) (by as_aux_lemma => kernel_rfl) (fun c a w h => hPan _ _ c a w h) ⟨Or.inl ⟨by rfl, ?_⟩, fun _ => rfl⟩ ?_
          rotate_left
          · (intro w; go_simp; try with_reducible rfl)
          try simp only [Act.put, List.setIfInBounds_toArray, List.set_cons_zero, List.set_cons_succ]
          refine wpAnyIn_take (i := 8) (v := ?_) hro rfl (by as_aux_lemma => kernel_rfl) (by as_aux_lemma => kernel_rfl) (by as_aux_lemma => kernel_rfl) (fun c a w h => hPan _ _ c a w h) ⟨Or.inl ⟨by rfl, ?_⟩, fun _ => rfl⟩ ?_
          rotate_left
          · (intro w; go_simp; try with_reducible rfl)
          try simp only [Act.put, List.setIfInBounds_toArray, List.set_cons_zero, List.set_cons_succ]
          refine wpAnyIn_take (i := 9) (v := ?_) hro rfl (by as_aux_lemma => kernel_rfl) (by as_aux_lemma => kernel_rfl) (by as_aux_lemma => kernel_rfl) (fun c a w h => hPan _ _ c a w h) ⟨Or.inl ⟨by rfl, ?_⟩, fun _ => rfl⟩ ?_
          rotate_left
          · (intro w; go_simp; try with_reducible rfl)
          try simp only [Act.put, List.setIfInBounds_toArray, List.set_cons_zero, List.set_cons_succ]
          refine wpAnyIn_ready (rs := [10]) (by as_aux_lemma => kernel_rfl) (by simp) ?_
          refine AllReadyIn.cons rfl (fun K hK => ?_) AllReadyIn.nil
          go_simp
          refine hK _ _ ?_
          clear hK K
          try simp only [Act.put, List.setIfInBounds_toArray, List.set_cons_zero, List.set_cons_succ]
          refine wpAnyIn_ready (rs := [11]) (by as_aux_lemma => kernel_rfl) (by simp) ?_
          refine AllReadyIn.cons rfl (fun K hK => ?_) AllReadyIn.nil
          go_simp
          refine hR.mono ?_
          rintro e W3 ⟨b, rfl, H3⟩
          refine hK _ _ ?_
          clear hK K
          try simp only [Act.put, List.setIfInBounds_toArray, List.set_cons_zero, List.set_cons_succ]
          refine wpAnyIn_take (i := 12) (v := ?_) hro rfl (by as_aux_lemma => kernel_rfl) (by as_aux_lemma => kernel_rfl) (by as_aux_lemma => kernel_rfl) (fun c a w h => hPan _ _ c a w h) ⟨Or.inl ⟨by rfl, ?_⟩, fun _ => rfl⟩ ?_
          rotate_left
          · (intro w; go_simp; try with_reducible rfl)
          try simp only [Act.put, List.setIfInBounds_toArray, List.set_cons_zero, List.set_cons_succ]
          refine wpAnyIn_done (by as_aux_lemma => kernel_rfl) ?_ _
          exact TAIL _ _ H3
        refine AllReadyIn.cons rfl (fun K hK => ?_) ?_
        · go_simp
          refine hK _ _ ?_
          clear hK K
          try simp only [Act.put, List.setIfInBounds_toArray, List.set_cons_zero, List.set_cons_succ]
          refine wpAnyIn_take (i := 3) (v := ?_) hro rfl (by as_aux_lemma => kernel_rfl) (by as_aux_lemma => kernel_rfl) (by as_aux_lemma => kernel_rfl) (fun c a w h => hPan _ _ c a w h) ⟨Or.inl ⟨by rfl, ?_⟩, fun _ => rfl⟩ ?_
          rotate_left
          · (intro w; go_simp; try with_reducible rfl)
          try simp only [Act.put, List.setIfInBounds_toArray, List.set_cons_zero, List.set_cons_succ]
          refine wpAnyIn_take (i := 5) (v := ?_) hro rfl (by as_aux_lemma => kernel_rfl) (by as_aux_lemma => kernel_rfl) (by as_aux_lemma => kernel_rfl) (fun c a w h => hPan _ _ c a w h) ⟨Or.inl ⟨by rfl, ?_⟩, fun _ => rfl⟩ ?_
          rotate_left
          · (intro w; go_simp; try with_reducible rfl)
          try simp only [Act.put, List.setIfInBounds_toArray, List.set_cons_zero, List.set_cons_succ]
          refine wpAnyIn_take (i := 8) (v := ?_) hro rfl (by as_aux_lemma => kernel_rfl) (by as_aux_lemma => kernel_rfl) (by as_aux_lemma => kernel_rfl) (fun c a w h => hPan _ _ c a w h) ⟨Or.inl ⟨by rfl, ?_⟩, fun _ => rfl⟩ ?_
          rotate_left
          · (intro w; go_simp; try with_reducible rfl)
          try simp only [Act.put, List.setIfInBounds_toArray, List.set_cons_zero, List.set_cons_succ]
          refine wpAnyIn_ready (rs := [1]) (by as_aux_lemma => kernel_rfl) (by simp) ?_
          refine AllReadyIn.cons rfl (fun K hK => ?_) AllReadyIn.nil
          go_simp
          refine hK _ _ ?_
          clear hK K
          try simp only [Act.put, List.setIfInBounds_toArray, List.set_cons_zero, List.set_cons_succ]
          refine wpAnyIn_take (i := 9) (v := ?_) hro rfl (by as_aux_lemma => kernel_rfl) (by as_aux_lemma => kernel_rfl) (by as_aux_lemma => kernel_rfl) (fun c a w h => hPan _ _ c a w h) ⟨Or.inl ⟨by rfl, ?_⟩, fun _ => rfl⟩ ?_
          rotate_left
          · (intro w; go_simp; try with_reducible rfl)
          try simp only [Act.put, List.setIfInBounds_toArray, List.set_cons_zero, List.set_cons_succ]
          refine wpAnyIn_ready (rs := [10]) (by as_aux_lemma => kernel_rfl) (by simp) ?_
          refine AllReadyIn.cons rfl (fun K hK => ?_) AllReadyIn.nil
          go_simp
          refine hK _ _ ?_
          clear hK K
          try simp only [Act.put, List.setIfInBounds_toArray, List.set_cons_zero, List.set_cons_succ]
          refine wpAnyIn_ready (rs := [11]) (by as_aux_lemma => kernel_rfl) (by simp) ?_
          refine AllReadyIn.cons rfl (fun K hK => ?_) AllReadyIn.nil
          go_simp
          refine hR.mono ?_
          rintro e W3 ⟨b, rfl, H3⟩
          refine hK _ _ ?_
          clear hK K
          try simp only [Act.put, List.setIfInBounds_toArray, List.set_cons_zero, List.set_cons_succ]
          refine wpAnyIn_take (i := 12) (v := ?_) hro rfl (by as_aux_lemma => kernel_rfl) (by as_aux_lemma => kernel_rfl) (by as_aux_lemma => kernel_rfl) (fun c a w h => hPan _ _ c a w h) ⟨Or.inl ⟨by rfl, ?_⟩, fun _ => rfl⟩ ?_
          rotate_left
          · (intro w; go_simp; try with_reducible rfl)
          try simp only [Act.put, List.setIfInBounds_toArray, List.set_cons_zero, List.set_cons_succ]
          refine wpAnyIn_done (by as_aux_lemma => kernel_rfl) ?_ _
          exact TAIL _ _ H3
        exact AllReadyIn.nil
      exact AllReadyIn.nil
    · obtain rfl : k = row.length := by omega
      gi_wp2
      go_end0
      exact ⟨⟨_, rfl⟩, .inl hJs⟩

theorem grown_drew0 (w : World) (row : Option Nat) : w.grownBy w.drew row := ⟨rfl, rfl, rfl, Nat.le_refl _, fun _ _ _ => rfl⟩
theorem block_lt_cell {w : World} {p : Addr} {v : Value} (h : w.cell? p = some v) : p.block < w.heap.size := World.block_lt_of_cell? w p h
theorem rot_stops (F : Fence) (n : Nat) (h38 : F.fn 38) (hro : F.round = none) (hn : 1 ≤ n) (n0 q3 q4 : Nat) (A : Option Addr) (c : Nat) (row : List Int) (at_ : Int) (hl : row.length ≤ 1000000) (ha : -1 ≤ at_) (ha2 : at_ ≤ 1000000) (w : World) (hM : ItM w n0 q3 q4 A c row at_) :
    SeqStopsK F n Try.prog 38 #[.pointer (some ⟨q3, 0, none⟩), .pointer (some ⟨q4, 0, none⟩)] (fun x : Int => #[Value.int .i64 x]) (KpR n0 q3 q4) (fun ys => ys = rotTo row at_ row.length) (fun pre => ∃ k, k ≤ row.length ∧ pre = rotTo row at_ k) row.length w := fun l J Jx W hW hJ _ hY h0 => by
  have hM' : ItM W n0 q3 q4 A c row at_ := hM.keep fun p v _ hv => (hW.cell (block_lt_cell hv)).trans hv
  refine (round1_in F n h38 hro hn l n0 q3 q4 A c row at_ hl ha ha2 J Jx W (fun s W1 h => hJ s W1 W1.drew none h (grown_drew0 _ _) (by simp)) hY hM' h0).mono ?_
  rintro e W' ⟨he, hj | ⟨k, hk, hj⟩⟩
  · exact ⟨he, .inl ⟨_, rfl, hj⟩⟩
  · exact ⟨he, .inr ⟨_, ⟨k, hk, rfl⟩, hj⟩⟩
theorem kpR_t {n0 q3 q4 : Nat} {A B C : World} (h : KpR n0 q3 q4 A B) (k : KpR n0 q3 q4 B C) : KpR n0 q3 q4 A C := h.trans k
theorem kpR_b {n0 q3 q4 : Nat} (W : World) (l : Nat) (o o' : Obj) (h : W.heap[l]? = some o) (hc : o.isCells = false) : KpR n0 q3 q4 W (W.putObj l o') := fun _ _ _ hv => cell_kept hv (grownBy_putObj' W l o') (fun r e => by cases e; exact ⟨_, h, hc⟩)

theorem round_c (A : Option Addr) (n c : Nat) (at_ : Int) (w : World) :
    Calls Try.prog 29 #[.slice A n c, .int .i64 at_] w fun e w' => ∃ q3 q4, e = .returned (.func (.func 38) #[] #[.pointer (some ⟨q3, 0, none⟩), .pointer (some ⟨q4, 0, none⟩)]) ∧ w.heap.size ≤ q3 ∧ w.heap.size ≤ q4 ∧ Bx w' q3 (.slice A n c) ∧ Bx w' q4 (.int .i64 at_) ∧ Below w.heap.size w w' := by
  have b0 := (Bx.new w (.slice A n c) 24).alloc (.cells #[.int .i64 at_] 3)
  have b1 := Bx.new (w.alloc (.cells #[.slice A n c] 24)) (.int .i64 at_) 3
  rw [World.size_alloc] at b1
  have B0 : Below w.heap.size w ((w.alloc (.cells #[.slice A n c] 24)).alloc (.cells #[.int .i64 at_] 3)) := ((Below.refl _ w).alloc (Nat.le_refl _) _).alloc (by simp) _
  go_enter Try.func29, Try.ntmps29
  go_wp2_with fail
  go_ret
  exact ⟨_, _, rfl, Nat.le_refl _, by omega, b0, b1, B0⟩

/-- Who is next. -/
def chooseN (P : List (List Int)) (n last : Int) (wo : List Int) : Int × Bool :=
  if 0 ≤ n ∧ n < P.length then
    match (rotTo (rd_L1 P n) (if last ∈ rd_L1 P n then ((rd_L1 P n).idxOf last : Int) else -1) (rd_L1 P n).length).find? (fun x => !decide (x ∈ wo)) with
    | some x => (x, true)
    | none => (0, false)
  else (0, false)

theorem choose_no (A0 : Option Addr) (c0 : Nat) (P : List (List Int)) (n last : Int) (A3 : Option Addr) (c3 : Nat) (wo : List Int) (w : World) (hn : ¬ (0 ≤ n ∧ n < P.length)) :
    Calls Try.prog 16 #[.slice A0 P.length c0, .int .i64 n, .int .i64 last, .slice A3 wo.length c3] w fun e w' => e = .returned (.tuple #[.int .i64 0, .bool false]) ∧ Below w.heap.size w w' := by
  by_cases h0 : n < 0
  · clear hn
    go_enter Try.func16, Try.ntmps16
    go_wp2_with fail
    refine bodyPost_ret (v := .tuple #[.int .i64 0, .bool false]) (by simp [results, Try.results16, go_sem]) rfl ⟨rfl, ?_⟩
    exact (((((Below.refl _ w).alloc (Nat.le_refl _) _).alloc (by simp) _).alloc (by simp; omega) _))
  · have h1 : (P.length : Int) ≤ n := by omega
    clear hn
    go_enter Try.func16, Try.ntmps16
    go_wp2_with fail
    refine bodyPost_ret (v := .tuple #[.int .i64 0, .bool false]) (by simp [results, Try.results16, go_sem]) rfl ⟨rfl, ?_⟩
    exact (((((Below.refl _ w).alloc (Nat.le_refl _) _).alloc (by simp) _).alloc (by simp; omega) _))
end Go.Proofs.Ytagnpmmcoaemeaa.R16
