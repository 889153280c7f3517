/- The line's own calls: Back. -/
import Derived.Test.YtejmcfgmopijkaaLin3
import Derived.Test.YtejmcfgmopijkaaReg
namespace Go.Proofs.Ytejmcfgmopijkaa
open Go.RowKit
set_option linter.unusedVariables false
set_option linter.unusedSimpArgs false

section
variable (B l g r gc : Nat) (win wt cr gone last had now room store : Int) (T : List Txt) (ow : Bool) (On : List Itm) (Bk : List Frm) (Out : List ByteArray) (v1 v2 v3 : Value) (w : World)
theorem lback_no (i : Int) (h : LineV w B l g r gc win wt cr T gone last had ow On Bk now Out room store v1 v2 v3) (hi : ¬ (0 ≤ i ∧ i < Bk.length)) :
    Calls Try.prog 56 #[.pointer (some ⟨l, 0, none⟩), .int .i64 i] w fun e w' => e = .returned (.int .i64 8) ∧ Ch [] w w' := by
  have c1 := has_frame B l _ v2 Bk i w h.b rfl h.bk
  have e1 : (decide (0 ≤ i) && decide (i < Bk.length)) = false := by simp; omega
  rw [e1] at c1
  clear e1 hi
  go_enter Try.func56, Try.ntmps56
  go_wp2_with fail
  refine c1.mono ?_
  rintro e1 w1 ⟨rfl, c2⟩
  go_wp2_with fail
  go_ret
  exact ⟨rfl, c2⟩
set_option maxHeartbeats 4000000 in
set_option maxRecDepth 100000 in
theorem lback_yes (k : Nat) (x : Frm) (h : LineV w B l g r gc win wt cr T gone last had ow On Bk now Out room store v1 v2 v3) (hb : LineB win wt cr T gone last had On Bk now Out room store) (hBw : B ≤ w.heap.size) (hk : Bk[k]? = some x) (hn : stakeN 1 gone T.length 1 x.1 x.2 = 0) :
    Calls Try.prog 56 #[.pointer (some ⟨l, 0, none⟩), .int .i64 k] w fun e w' => e = .returned (.int .i64 0) ∧ (∃ v2', LineV w' B l g r gc win wt x.2 (T.drop (x.1 - gone).toNat) x.1 last had ow On (Bk.eraseIdx k) now Out room store v1 v2' v3) ∧ ChB B [124, 38, 111, 114] w w' := by
  have hkl : k < Bk.length := (List.getElem?_eq_some_iff.1 hk).1
  have hkx : Bk[k] = x := (List.getElem?_eq_some_iff.1 hk).2
  have c1 := has_frame B l _ v2 Bk k w h.b rfl h.bk
  have e1 : (decide (0 ≤ (k : Int)) && decide ((k : Int) < Bk.length)) = true := by simp; omega
  rw [e1] at c1
  clear e1
  obtain ⟨xa, xc⟩ := x
  simp only at hn
  have HN := Lib.hid hn
  clear hn
  go_enter Try.func56, Try.ntmps56
  go_wp2_with fail
  refine c1.mono ?_
  rintro e1 w1 ⟨rfl, c2⟩
  have C1 : ChB B [] w w1 := c2.toB0
  have h1 := h.chB C1
  have z1 : B ≤ w1.heap.size := Nat.le_trans hBw C1.size
  clear h c1 c2
  go_wp2_with fail
  refine (cut_frame B l _ v2 Bk k w1 h1.hl h1.b rfl h1.bk z1 hb.bk hkl).mono ?_
  rw [hkx]
  simp only [frm]
  rintro e2 w2 ⟨rfl, v2', hb2, hr2, c2⟩
  have d2 := h1.wayB (c2.wide (by simp))
  have h2 := h1.back d2 hb2 hr2
  have C2 : ChB B [124, 38, 111, 114] w w2 := (C1.wide (by simp)).trans (d2.wide (by simp))
  have C3 := C2.alloc (.cells #[.int .i64 4, .int .i64 1, .int .i64 xa, .int .i64 xc, .bool false, .string ⟨#[]⟩, .int .i64 0, .int .i64 0, .string ⟨#[]⟩, .string ⟨#[]⟩, .int .i64 0, .slice none 0 0] 38)
  have h3 := h2.chB (((Ch.refl [] w2).alloc (.cells #[.int .i64 4, .int .i64 1, .int .i64 xa, .int .i64 xc, .bool false, .string ⟨#[]⟩, .int .i64 0, .int .i64 0, .string ⟨#[]⟩, .string ⟨#[]⟩, .int .i64 0, .slice none 0 0] 38)).toB0 (B := B))
  have y := Blk.new w2 38 #[.int .i64 4, .int .i64 1, .int .i64 xa, .int .i64 xc, .bool false, .string ⟨#[]⟩, .int .i64 0, .int .i64 0, .string ⟨#[]⟩, .string ⟨#[]⟩, .int .i64 0, .slice none 0 0]
  clear h1 C1 z1 hb2 hr2 c2 d2 h2 C2
  go_wp2_with fail
  generalize w2.alloc _ = w3 at C3 h3 y ⊢
  generalize w2.heap.size = q at y ⊢
  have a0 := h3.b.cell 0
  have y1 := y.cell 1
  have y2 := y.cell 2
  have y3 := y.cell 3
  simp at a0 y1 y2 y3
  refine wp_region_noPanic ?_
  refine wp_region_held_drew (S := (fun w' => w'.cell? ⟨l, 0, none⟩ = some (.pointer (some ⟨g, 0, none⟩)) ∧ w'.cell? ⟨q, 1, none⟩ = some (.int .i64 1) ∧ w'.cell? ⟨q, 2, none⟩ = some (.int .i64 xa) ∧ w'.cell? ⟨q, 3, none⟩ = some (.int .i64 xc))) (by kernel_rfl) ?_ (fun hHeld => ?_)
  · exact ⟨a0, y1, y2, y3⟩
  have c0 := (Ch.refl [] w3).drew
  have h4 := h3.chB (c0.toB0 (B := B))
  have C4 : ChB B [124, 38, 111, 114] w w3.drew := C3.trans c0.toB0
  have y4 := y.drew
  clear h3 C3 c0 y
  generalize w3.drew = w4 at *
  refine reg_take (i := 0) (v := ?_) rfl (by as_aux_lemma => kernel_rfl) (by as_aux_lemma => kernel_rfl) (by as_aux_lemma => kernel_rfl) (fun _ _ _ h => h) (by rfl) ?_ (by assumption) ?_
  rotate_left
  · (intro w hSw; (try dsimp only at hSw); go_simp; try with_reducible rfl)
  try simp only [Act.put, List.setIfInBounds_toArray, List.set_cons_zero, List.set_cons_succ]
  refine reg_take (i := 1) (v := ?_) rfl (by as_aux_lemma => kernel_rfl) (by as_aux_lemma => kernel_rfl) (by as_aux_lemma => kernel_rfl) (fun _ _ _ h => h) (by rfl) ?_ (by assumption) ?_
  rotate_left
  · (intro w hSw; (try dsimp only at hSw); go_simp; try with_reducible rfl)
  try simp only [Act.put, List.setIfInBounds_toArray, List.set_cons_zero, List.set_cons_succ]
  refine reg_take (i := 2) (v := ?_) rfl (by as_aux_lemma => kernel_rfl) (by as_aux_lemma => kernel_rfl) (by as_aux_lemma => kernel_rfl) (fun _ _ _ h => h) (by rfl) ?_ (by assumption) ?_
  rotate_left
  · (intro w hSw; (try dsimp only at hSw); go_simp; try with_reducible rfl)
  try simp only [Act.put, List.setIfInBounds_toArray, List.set_cons_zero, List.set_cons_succ]
  refine reg_take (i := 3) (v := ?_) rfl (by as_aux_lemma => kernel_rfl) (by as_aux_lemma => kernel_rfl) (by as_aux_lemma => kernel_rfl) (fun _ _ _ h => h) (by rfl) ?_ (by assumption) ?_
  rotate_left
  · (intro w hSw; (try dsimp only at hSw); go_simp; try with_reducible rfl)
  try simp only [Act.put, List.setIfInBounds_toArray, List.set_cons_zero, List.set_cons_succ]
  refine reg_take (i := 4) (v := ?_) rfl (by as_aux_lemma => kernel_rfl) (by as_aux_lemma => kernel_rfl) (by as_aux_lemma => kernel_rfl) (fun _ _ _ h => h) (by rfl) ?_ (by assumption) ?_
  rotate_left
  · (intro w hSw; (try dsimp only at hSw); go_simp; try with_reducible rfl)
  try simp only [Act.put, List.setIfInBounds_toArray, List.set_cons_zero, List.set_cons_succ]
  refine reg_take (i := 5) (v := ?_) rfl (by as_aux_lemma => kernel_rfl) (by as_aux_lemma => kernel_rfl) (by as_aux_lemma => kernel_rfl) (fun _ _ _ h => h) (by rfl) ?_ (by assumption) ?_
  rotate_left
  · (intro w hSw; (try dsimp only at hSw); go_simp; try with_reducible rfl)
  try simp only [Act.put, List.setIfInBounds_toArray, List.set_cons_zero, List.set_cons_succ]
  refine reg_take (i := 6) (v := ?_) rfl (by as_aux_lemma => kernel_rfl) (by as_aux_lemma => kernel_rfl) (by as_aux_lemma => kernel_rfl) (fun _ _ _ h => h) (by rfl) ?_ (by assumption) ?_
  rotate_left
  · (intro w hSw; (try dsimp only at hSw); go_simp; try with_reducible rfl)
  try simp only [Act.put, List.setIfInBounds_toArray, List.set_cons_zero, List.set_cons_succ]
  refine reg_take (i := 7) (v := ?_) rfl (by as_aux_lemma => kernel_rfl) (by as_aux_lemma => kernel_rfl) (by as_aux_lemma => kernel_rfl) (fun _ _ _ h => h) (by rfl) ?_ (by assumption) ?_
  rotate_left
  · (intro w hSw; (try dsimp only at hSw); go_simp; try with_reducible rfl)
  try simp only [Act.put, List.setIfInBounds_toArray, List.set_cons_zero, List.set_cons_succ]
  refine reg_take (i := 8) (v := ?_) rfl (by as_aux_lemma => kernel_rfl) (by as_aux_lemma => kernel_rfl) (by as_aux_lemma => kernel_rfl) (fun _ _ _ h => h) (by rfl) ?_ (by assumption) ?_
  rotate_left
  · (intro w hSw; (try dsimp only at hSw); go_simp; try with_reducible rfl)
  try simp only [Act.put, List.setIfInBounds_toArray, List.set_cons_zero, List.set_cons_succ]
  refine reg_take (i := 9) (v := ?_) rfl (by as_aux_lemma => kernel_rfl) (by as_aux_lemma => kernel_rfl) (by as_aux_lemma => kernel_rfl) (fun _ _ _ h => h) (by rfl) ?_ (by assumption) ?_
  rotate_left
  · (intro w hSw; (try dsimp only at hSw); go_simp; try with_reducible rfl)
  try simp only [Act.put, List.setIfInBounds_toArray, List.set_cons_zero, List.set_cons_succ]
  refine reg_step (i := 10) (by as_aux_lemma => kernel_rfl) rfl (fun K hK => ?_)
  go_simp
  refine (stake_is (n := xa - gone) h4.s hb.s (Nat.le_trans hBw C4.size) (stakeN_zero.1 HN.out).2.1 (stakeN_zero.1 HN.out).2.2.1 (stakeN_zero.1 HN.out).2.2.2.1 (stakeN_zero.1 HN.out).2.2.2.2.1 (stakeN_zero.1 HN.out).2.2.2.2.2 rfl rfl).mono ?_
  rintro e3 w5 ⟨rfl, s5, c5⟩
  have h5 := h4.sent c5 s5
  have y5 := y4.chB c5 (by simp)
  have C5 := C4.trans (c5.wide (by simp))
  clear h4 s5 c5 y4 C4
  have a0' := h5.b.cell 0
  simp at a0'
  have y1' := (y5.cell 1)
  have y2' := (y5.cell 2)
  have y3' := (y5.cell 3)
  simp at y1' y2' y3'
  dsimp only
  refine hK.out _ _ ⟨a0', y1', y2', y3'⟩ (fun hHeld2 => ?_)
  clear hK K hHeld
  have hHeld := hHeld2
  clear hHeld2
  try simp only [Act.put, List.setIfInBounds_toArray, List.set_cons_zero, List.set_cons_succ]
  refine reg_take (i := 11) (v := ?_) rfl (by as_aux_lemma => kernel_rfl) (by as_aux_lemma => kernel_rfl) (by as_aux_lemma => kernel_rfl) (fun _ _ _ h => h) (by rfl) ?_ (by assumption) ?_
  rotate_left
  · (intro w hSw; (try dsimp only at hSw); go_simp; try with_reducible rfl)
  try simp only [Act.put, List.setIfInBounds_toArray, List.set_cons_zero, List.set_cons_succ]
  refine reg_take (i := 12) (v := ?_) rfl (by as_aux_lemma => kernel_rfl) (by as_aux_lemma => kernel_rfl) (by as_aux_lemma => kernel_rfl) (fun _ _ _ h => h) (by rfl) ?_ (by assumption) ?_
  rotate_left
  · (intro w hSw; (try dsimp only at hSw); go_simp; try with_reducible rfl)
  try simp only [Act.put, List.setIfInBounds_toArray, List.set_cons_zero, List.set_cons_succ]
  refine reg_take (i := 14) (v := ?_) rfl (by as_aux_lemma => kernel_rfl) (by as_aux_lemma => kernel_rfl) (by as_aux_lemma => kernel_rfl) (fun _ _ _ h => h) (by rfl) ?_ (by assumption) ?_
  rotate_left
  · (intro w hSw; (try dsimp only at hSw); go_simp; try with_reducible rfl)
  try simp only [Act.put, List.setIfInBounds_toArray, List.set_cons_zero, List.set_cons_succ]
  refine reg_take (i := 13) (v := ?_) rfl (by as_aux_lemma => kernel_rfl) (by as_aux_lemma => kernel_rfl) (by as_aux_lemma => kernel_rfl) (fun _ _ _ h => h) (by rfl) ?_ (by assumption) ?_
  rotate_left
  · (intro w hSw; (try dsimp only at hSw); go_simp; try with_reducible rfl)
  try simp only [Act.put, List.setIfInBounds_toArray, List.set_cons_zero, List.set_cons_succ]
  refine reg_take (i := 15) (v := ?_) rfl (by as_aux_lemma => kernel_rfl) (by as_aux_lemma => kernel_rfl) (by as_aux_lemma => kernel_rfl) (fun _ _ _ h => h) (by rfl) ?_ (by assumption) ?_
  rotate_left
  · (intro w hSw; (try dsimp only at hSw); go_simp; try with_reducible rfl)
  try simp only [Act.put, List.setIfInBounds_toArray, List.set_cons_zero, List.set_cons_succ]
  refine wpAnyH_done (by kernel_rfl) ?_ _
  refine NoPanic.normal ?_
  clear hHeld
  go_wp2_with fail
  go_ret
  exact ⟨rfl, ⟨_, h5⟩, C5⟩

set_option maxHeartbeats 4000000 in
set_option maxRecDepth 100000 in
theorem lback_bad (k : Nat) (x : Frm) (h : LineV w B l g r gc win wt cr T gone last had ow On Bk now Out room store v1 v2 v3) (hb : LineB win wt cr T gone last had On Bk now Out room store) (hBw : B ≤ w.heap.size) (hk : Bk[k]? = some x) (q0 : Int) (hn : stakeN 1 gone T.length 1 x.1 x.2 = q0) (hq0 : q0 ≠ 0) :
    Calls Try.prog 56 #[.pointer (some ⟨l, 0, none⟩), .int .i64 k] w fun e w' => e = .returned (.int .i64 q0) ∧ (∃ v2', LineV w' B l g r gc win wt cr T gone last had ow On (Bk.eraseIdx k) now Out room store v1 v2' v3) ∧ ChB B [124, 38, 111, 114] w w' := by
  have hkl : k < Bk.length := (List.getElem?_eq_some_iff.1 hk).1
  have hkx : Bk[k] = x := (List.getElem?_eq_some_iff.1 hk).2
  have c1 := has_frame B l _ v2 Bk k w h.b rfl h.bk
  have e1 : (decide (0 ≤ (k : Int)) && decide ((k : Int) < Bk.length)) = true := by simp; omega
  rw [e1] at c1
  clear e1
  obtain ⟨xa, xc⟩ := x
  simp only at hn
  have HN := Lib.hid hn
  clear hn
  go_enter Try.func56, Try.ntmps56
  go_wp2_with fail
  refine c1.mono ?_
  rintro e1 w1 ⟨rfl, c2⟩
  have C1 : ChB B [] w w1 := c2.toB0
  have h1 := h.chB C1
  have z1 : B ≤ w1.heap.size := Nat.le_trans hBw C1.size
  clear h c1 c2
  go_wp2_with fail
  refine (cut_frame B l _ v2 Bk k w1 h1.hl h1.b rfl h1.bk z1 hb.bk hkl).mono ?_
  rw [hkx]
  simp only [frm]
  rintro e2 w2 ⟨rfl, v2', hb2, hr2, c2⟩
  have d2 := h1.wayB (c2.wide (by simp))
  have h2 := h1.back d2 hb2 hr2
  have C2 : ChB B [124, 38, 111, 114] w w2 := (C1.wide (by simp)).trans (d2.wide (by simp))
  have C3 := C2.alloc (.cells #[.int .i64 4, .int .i64 1, .int .i64 xa, .int .i64 xc, .bool false, .string ⟨#[]⟩, .int .i64 0, .int .i64 0, .string ⟨#[]⟩, .string ⟨#[]⟩, .int .i64 0, .slice none 0 0] 38)
  have h3 := h2.chB (((Ch.refl [] w2).alloc (.cells #[.int .i64 4, .int .i64 1, .int .i64 xa, .int .i64 xc, .bool false, .string ⟨#[]⟩, .int .i64 0, .int .i64 0, .string ⟨#[]⟩, .string ⟨#[]⟩, .int .i64 0, .slice none 0 0] 38)).toB0 (B := B))
  have y := Blk.new w2 38 #[.int .i64 4, .int .i64 1, .int .i64 xa, .int .i64 xc, .bool false, .string ⟨#[]⟩, .int .i64 0, .int .i64 0, .string ⟨#[]⟩, .string ⟨#[]⟩, .int .i64 0, .slice none 0 0]
  clear h1 C1 z1 hb2 hr2 c2 d2 h2 C2
  go_wp2_with fail
  generalize w2.alloc _ = w3 at C3 h3 y ⊢
  generalize w2.heap.size = q at y ⊢
  have a0 := h3.b.cell 0
  have y1 := y.cell 1
  have y2 := y.cell 2
  have y3 := y.cell 3
  simp at a0 y1 y2 y3
  refine wp_region_noPanic ?_
  refine wp_region_held_drew (S := (fun w' => w'.cell? ⟨l, 0, none⟩ = some (.pointer (some ⟨g, 0, none⟩)) ∧ w'.cell? ⟨q, 1, none⟩ = some (.int .i64 1) ∧ w'.cell? ⟨q, 2, none⟩ = some (.int .i64 xa) ∧ w'.cell? ⟨q, 3, none⟩ = some (.int .i64 xc))) (by kernel_rfl) ?_ (fun hHeld => ?_)
  · exact ⟨a0, y1, y2, y3⟩
  have c0 := (Ch.refl [] w3).drew
  have h4 := h3.chB (c0.toB0 (B := B))
  have C4 : ChB B [124, 38, 111, 114] w w3.drew := C3.trans c0.toB0
  have y4 := y.drew
  clear h3 C3 c0 y
  generalize w3.drew = w4 at *
  refine reg_take (i := 0) (v := ?_) rfl (by as_aux_lemma => kernel_rfl) (by as_aux_lemma => kernel_rfl) (by as_aux_lemma => kernel_rfl) (fun _ _ _ h => h) (by rfl) ?_ (by assumption) ?_
  rotate_left
  · (intro w hSw; (try dsimp only at hSw); go_simp; try with_reducible rfl)
  try simp only [Act.put, List.setIfInBounds_toArray, List.set_cons_zero, List.set_cons_succ]
  refine reg_take (i := 1) (v := ?_) rfl (by as_aux_lemma => kernel_rfl) (by as_aux_lemma => kernel_rfl) (by as_aux_lemma => kernel_rfl) (fun _ _ _ h => h) (by rfl) ?_ (by assumption) ?_
  rotate_left
  · (intro w hSw; (try dsimp only at hSw); go_simp; try with_reducible rfl)
  try simp only [Act.put, List.setIfInBounds_toArray, List.set_cons_zero, List.set_cons_succ]
  refine reg_take (i := 2) (v := ?_) rfl (by as_aux_lemma => kernel_rfl) (by as_aux_lemma => kernel_rfl) (by as_aux_lemma => kernel_rfl) (fun _ _ _ h => h) (by rfl) ?_ (by assumption) ?_
  rotate_left
  · (intro w hSw; (try dsimp only at hSw); go_simp; try with_reducible rfl)
  try simp only [Act.put, List.setIfInBounds_toArray, List.set_cons_zero, List.set_cons_succ]
  refine reg_take (i := 3) (v := ?_) rfl (by as_aux_lemma => kernel_rfl) (by as_aux_lemma => kernel_rfl) (by as_aux_lemma => kernel_rfl) (fun _ _ _ h => h) (by rfl) ?_ (by assumption) ?_
  rotate_left
  · (intro w hSw; (try dsimp only at hSw); go_simp; try with_reducible rfl)
  try simp only [Act.put, List.setIfInBounds_toArray, List.set_cons_zero, List.set_cons_succ]
  refine reg_take (i := 4) (v := ?_) rfl (by as_aux_lemma => kernel_rfl) (by as_aux_lemma => kernel_rfl) (by as_aux_lemma => kernel_rfl) (fun _ _ _ h => h) (by rfl) ?_ (by assumption) ?_
  rotate_left
  · (intro w hSw; (try dsimp only at hSw); go_simp; try with_reducible rfl)
  try simp only [Act.put, List.setIfInBounds_toArray, List.set_cons_zero, List.set_cons_succ]
  refine reg_take (i := 5) (v := ?_) rfl (by as_aux_lemma => kernel_rfl) (by as_aux_lemma => kernel_rfl) (by as_aux_lemma => kernel_rfl) (fun _ _ _ h => h) (by rfl) ?_ (by assumption) ?_
  rotate_left
  · (intro w hSw; (try dsimp only at hSw); go_simp; try with_reducible rfl)
  try simp only [Act.put, List.setIfInBounds_toArray, List.set_cons_zero, List.set_cons_succ]
  refine reg_take (i := 6) (v := ?_) rfl (by as_aux_lemma => kernel_rfl) (by as_aux_lemma => kernel_rfl) (by as_aux_lemma => kernel_rfl) (fun _ _ _ h => h) (by rfl) ?_ (by assumption) ?_
  rotate_left
  · (intro w hSw; (try dsimp only at hSw); go_simp; try with_reducible rfl)
  try simp only [Act.put, List.setIfInBounds_toArray, List.set_cons_zero, List.set_cons_succ]
  refine reg_take (i := 7) (v := ?_) rfl (by as_aux_lemma => kernel_rfl) (by as_aux_lemma => kernel_rfl) (by as_aux_lemma => kernel_rfl) (fun _ _ _ h => h) (by rfl) ?_ (by assumption) ?_
  rotate_left
  · (intro w hSw; (try dsimp only at hSw); go_simp; try with_reducible rfl)
  try simp only [Act.put, List.setIfInBounds_toArray, List.set_cons_zero, List.set_cons_succ]
  refine reg_take (i := 8) (v := ?_) rfl (by as_aux_lemma => kernel_rfl) (by as_aux_lemma => kernel_rfl) (by as_aux_lemma => kernel_rfl) (fun _ _ _ h => h) (by rfl) ?_ (by assumption) ?_
  rotate_left
  · (intro w hSw; (try dsimp only at hSw); go_simp; try with_reducible rfl)
  try simp only [Act.put, List.setIfInBounds_toArray, List.set_cons_zero, List.set_cons_succ]
  refine reg_take (i := 9) (v := ?_) rfl (by as_aux_lemma => kernel_rfl) (by as_aux_lemma => kernel_rfl) (by as_aux_lemma => kernel_rfl) (fun _ _ _ h => h) (by rfl) ?_ (by assumption) ?_
  rotate_left
  · (intro w hSw; (try dsimp only at hSw); go_simp; try with_reducible rfl)
  try simp only [Act.put, List.setIfInBounds_toArray, List.set_cons_zero, List.set_cons_succ]
  refine reg_step (i := 10) (by as_aux_lemma => kernel_rfl) rfl (fun K hK => ?_)
  go_simp
  refine (stake_isno h4.s hb.s HN.out hq0).mono ?_
  rintro e3 w5 ⟨rfl, c5⟩
  have h5 := h4.chB c5
  have y5 := y4.chB c5 (by simp)
  have C5 := C4.trans (c5.wide (by simp))
  clear h4 c5 y4 C4
  have a0' := h5.b.cell 0
  simp at a0'
  have y1' := (y5.cell 1)
  have y2' := (y5.cell 2)
  have y3' := (y5.cell 3)
  simp at y1' y2' y3'
  dsimp only
  refine hK.out _ _ ⟨a0', y1', y2', y3'⟩ (fun hHeld2 => ?_)
  clear hK K hHeld
  have hHeld := hHeld2
  clear hHeld2
  try simp only [Act.put, List.setIfInBounds_toArray, List.set_cons_zero, List.set_cons_succ]
  refine reg_take (i := 11) (v := ?_) rfl (by as_aux_lemma => kernel_rfl) (by as_aux_lemma => kernel_rfl) (by as_aux_lemma => kernel_rfl) (fun _ _ _ h => h) (by rfl) ?_ (by assumption) ?_
  rotate_left
  · (intro w hSw; (try dsimp only at hSw); go_simp; try with_reducible rfl)
  try simp only [Act.put, List.setIfInBounds_toArray, List.set_cons_zero, List.set_cons_succ]
  refine reg_take (i := 12) (v := ?_) rfl (by as_aux_lemma => kernel_rfl) (by as_aux_lemma => kernel_rfl) (by as_aux_lemma => kernel_rfl) (fun _ _ _ h => h) (by rfl) ?_ (by assumption) ?_
  rotate_left
  · (intro w hSw; (try dsimp only at hSw); go_simp; try with_reducible rfl)
  try simp only [Act.put, List.setIfInBounds_toArray, List.set_cons_zero, List.set_cons_succ]
  refine reg_take (i := 14) (v := ?_) rfl (by as_aux_lemma => kernel_rfl) (by as_aux_lemma => kernel_rfl) (by as_aux_lemma => kernel_rfl) (fun _ _ _ h => h) (by rfl) ?_ (by assumption) ?_
  rotate_left
  · (intro w hSw; (try dsimp only at hSw); go_simp; try with_reducible rfl)
  try simp only [Act.put, List.setIfInBounds_toArray, List.set_cons_zero, List.set_cons_succ]
  refine reg_take (i := 13) (v := ?_) rfl (by as_aux_lemma => kernel_rfl) (by as_aux_lemma => kernel_rfl) (by as_aux_lemma => kernel_rfl) (fun _ _ _ h => h) (by rfl) ?_ (by assumption) ?_
  rotate_left
  · (intro w hSw; (try dsimp only at hSw); go_simp; try with_reducible rfl)
  try simp only [Act.put, List.setIfInBounds_toArray, List.set_cons_zero, List.set_cons_succ]
  refine reg_take (i := 15) (v := ?_) rfl (by as_aux_lemma => kernel_rfl) (by as_aux_lemma => kernel_rfl) (by as_aux_lemma => kernel_rfl) (fun _ _ _ h => h) (by rfl) ?_ (by assumption) ?_
  rotate_left
  · (intro w hSw; (try dsimp only at hSw); go_simp; try with_reducible rfl)
  try simp only [Act.put, List.setIfInBounds_toArray, List.set_cons_zero, List.set_cons_succ]
  refine wpAnyH_done (by kernel_rfl) ?_ _
  refine NoPanic.normal ?_
  clear hHeld
  go_wp2_with fail
  go_ret
  exact ⟨rfl, ⟨_, h5⟩, C5⟩

end
end Go.Proofs.Ytejmcfgmopijkaa
