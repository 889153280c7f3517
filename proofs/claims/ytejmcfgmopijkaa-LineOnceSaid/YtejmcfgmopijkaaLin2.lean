/- The line's own calls: tell. -/
import Derived.Test.YtejmcfgmopijkaaLin
import Derived.Test.YtejmcfgmopijkaaReg
namespace Go.Proofs.Ytejmcfgmopijkaa
open Go.RowKit
set_option linter.unusedVariables false
set_option linter.unusedSimpArgs false

/-- A line in memory. -/
structure LineV (w : World) (B l g r gc : Nat) (win wt cr : Int) (T : List Txt) (gone last had : Int) (ow : Bool) (On : List Itm) (Bk : List Frm) (now : Int) (Out : List ByteArray) (room store : Int) (v1 v2 v3 : Value) : Prop where
  hl : B ≤ l
  hr : B ≤ r
  hg : B ≤ gc
  b : Blk w l 124 #[.pointer (some ⟨g, 0, none⟩), .pointer (some ⟨r, 0, none⟩), v1, v2, .int .i64 now, v3, .int .i64 room, .int .i64 store]
  s : SndI w B g 1 win wt cr T gone last
  rc : RecI w r gc 1 had ow
  on : RowW w B 76 2 v1 On.length (itmCells On)
  bk : RowW w B 38 12 v2 Bk.length (frmCells Bk)
  out : w.ownsRow B 9 1 v3 Out.length (Out.map Value.string)
/-- What numbers a line may have. -/
structure LineB (win wt cr : Int) (T : List Txt) (gone last had : Int) (On : List Itm) (Bk : List Frm) (now : Int) (Out : List ByteArray) (room store : Int) : Prop where
  s : SndB win wt cr T gone last
  h0 : 0 ≤ had
  h1 : had ≤ 1000000
  on : On.length ≤ 64
  bk : Bk.length ≤ 64
  n0 : 0 ≤ now
  n1 : now ≤ 1000000000
  out : Out.length ≤ 1000
  r0 : 1 ≤ room
  r1 : room ≤ 64
  s0 : 0 ≤ store
  s1 : store ≤ room

theorem Ch.one {B k : Nat} {t : TypeId} {cs : Array Value} {w w' : World} (h : Ch [k] w w') (hB : B ≤ k) (hb : Blk w k t cs) : ChB B [t] w w' :=
  h.toB (fun q hq => by
    rw [List.mem_singleton.1 hq]
    exact .inr ⟨hB, _, _, _, hb, by simp⟩)
theorem RecI.chB {w w' : World} {g gc : Nat} {ep had : Int} {ow : Bool} {B : Nat} {Ts : List TypeId} (r : RecI w g gc ep had ow) (c : ChB B Ts w w') (h1 : 102 ∉ Ts) (h2 : 100 ∉ Ts) : RecI w' g gc ep had ow := ⟨r.b.chB c h1, r.c.chB c h2⟩

section
variable {w w' : World} {B l g r gc : Nat} {win wt cr gone last had now room store : Int} {T : List Txt} {ow : Bool} {On : List Itm} {Bk : List Frm} {Out : List ByteArray} {v1 v2 v3 : Value} {B' : Nat} {Ts : List TypeId}
theorem LineV.chB (h : LineV w B l g r gc win wt cr T gone last had ow On Bk now Out room store v1 v2 v3) (c : ChB B' [] w w') : LineV w' B l g r gc win wt cr T gone last had ow On Bk now Out room store v1 v2 v3 :=
  ⟨h.hl, h.hr, h.hg, h.b.chB c (by simp), h.s.chB c (by simp) (by simp), h.rc.chB c (by simp) (by simp), h.on.chB c (by simp), h.bk.chB c (by simp), own_chB h.out c (by simp)⟩
/-- The receiver has told. -/
theorem LineV.told (h : LineV w B l g r gc win wt cr T gone last had ow On Bk now Out room store v1 v2 v3) (c : Ch [r] w w') {had' : Int} {ow' : Bool} (hr : RecI w' r gc 1 had' ow') : LineV w' B l g r gc win wt cr T gone last had' ow' On Bk now Out room store v1 v2 v3 ∧ ChB B [102] w w' := by
  have cb : ChB B [102] w w' := Ch.one c h.hr h.rc.b
  exact ⟨⟨h.hl, h.hr, h.hg, h.b.chB cb (by simp), h.s.chB cb (by simp) (by simp), hr, h.on.chB cb (by simp), h.bk.chB cb (by simp), own_chB h.out cb (by simp)⟩, cb⟩
theorem LineV.wayB (h : LineV w B l g r gc win wt cr T gone last had ow On Bk now Out room store v1 v2 v3) (c : Ch (l :: v2.ownBlock.toList) w w') : ChB B [124, 38] w w' :=
  c.toB (fun q hq => by
    rcases List.mem_cons.1 hq with rfl | hq
    · exact .inr ⟨h.hl, _, _, _, h.b, by simp⟩
    · obtain ⟨hB, cur, hb⟩ := h.bk.blocks q (by simpa using hq)
      exact .inr ⟨hB, _, _, _, hb, by simp⟩)
theorem LineV.wayA (h : LineV w B l g r gc win wt cr T gone last had ow On Bk now Out room store v1 v2 v3) (c : Ch (l :: v1.ownBlock.toList) w w') : ChB B [124, 76] w w' :=
  c.toB (fun q hq => by
    rcases List.mem_cons.1 hq with rfl | hq
    · exact .inr ⟨h.hl, _, _, _, h.b, by simp⟩
    · obtain ⟨hB, cur, hb⟩ := h.on.blocks q (by simpa using hq)
      exact .inr ⟨hB, _, _, _, hb, by simp⟩)
/-- The way back has turned. -/
theorem LineV.back (h : LineV w B l g r gc win wt cr T gone last had ow On Bk now Out room store v1 v2 v3) {Bk' : List Frm} {v2' : Value} (cb : ChB B [124, 38] w w') (hb : Blk w' l 124 (#[.pointer (some ⟨g, 0, none⟩), .pointer (some ⟨r, 0, none⟩), v1, v2, .int .i64 now, v3, .int .i64 room, .int .i64 store].setIfInBounds 3 v2')) (hr : RowW w' B 38 12 v2' Bk'.length (frmCells Bk')) :
    LineV w' B l g r gc win wt cr T gone last had ow On Bk' now Out room store v1 v2' v3 :=
  ⟨h.hl, h.hr, h.hg, by simpa using hb, h.s.chB cb (by simp) (by simp), h.rc.chB cb (by simp) (by simp), h.on.chB cb (by simp), hr, own_chB h.out cb (by simp)⟩
/-- The way there has turned. -/
theorem LineV.onto (h : LineV w B l g r gc win wt cr T gone last had ow On Bk now Out room store v1 v2 v3) {On' : List Itm} {v1' : Value} (cb : ChB B [124, 76] w w') (hb : Blk w' l 124 (#[.pointer (some ⟨g, 0, none⟩), .pointer (some ⟨r, 0, none⟩), v1, v2, .int .i64 now, v3, .int .i64 room, .int .i64 store].setIfInBounds 2 v1')) (hr : RowW w' B 76 2 v1' On'.length (itmCells On')) :
    LineV w' B l g r gc win wt cr T gone last had ow On' Bk now Out room store v1' v2 v3 :=
  ⟨h.hl, h.hr, h.hg, by simpa using hb, h.s.chB cb (by simp) (by simp), h.rc.chB cb (by simp) (by simp), hr, h.bk.chB cb (by simp), own_chB h.out cb (by simp)⟩
end

set_option maxHeartbeats 4000000 in
set_option maxRecDepth 100000 in
theorem tell_c (B l g r gc : Nat) (win wt cr gone last had now room store : Int) (T : List Txt) (ow : Bool) (On : List Itm) (Bk : List Frm) (Out : List ByteArray) (v1 v2 v3 : Value) (w : World)
    (h : LineV w B l g r gc win wt cr T gone last had ow On Bk now Out room store v1 v2 v3) (hb : LineB win wt cr T gone last had On Bk now Out room store) (hBw : B ≤ w.heap.size) :
    Calls Try.prog 80 #[.pointer (some ⟨l, 0, none⟩)] w fun e w' => e = .returned (.tuple #[]) ∧ (∃ v2', LineV w' B l g r gc win wt cr T gone last had false On (putL Bk (had, creditN (room - store))) now Out room store v1 v2' v3) ∧ ChB B [124, 38, 102] w w' := by
  have a1 := h.b.cell 1
  simp at a1
  have hbs := hb.s0
  have hbt := hb.s1
  have hbu := hb.r1
  have hbv := hb.r0
  have hbk := hb.bk
  go_enter Try.func80, Try.ntmps80
  go_wp2_with fail
  refine wp_region_noPanic ?_
  refine wp_region_held_drew (S := (fun w' => w'.cell? ⟨l, 1, none⟩ = some (.pointer (some ⟨r, 0, none⟩)))) (by kernel_rfl) ?_ (fun hHeld => ?_)
  · exact a1
  have c0 := (Ch.refl [] w).drew
  have h0 := h.chB (c0.toB0 (B := B))
  have C0 : ChB B [124, 38, 102] w w.drew := c0.toB0
  clear h c0
  generalize w.drew = w0 at *
  refine reg_take (i := 0) (v := ?_) rfl (by as_aux_lemma => kernel_rfl) (by as_aux_lemma => kernel_rfl) (by as_aux_lemma => kernel_rfl) (fun _ _ _ h => h) (by rfl) ?_ (by assumption) ?_
  rotate_left
  · (intro w hSw; (try dsimp only at hSw); go_simp; try with_reducible rfl)
  try simp only [Act.put, List.setIfInBounds_toArray, List.set_cons_zero, List.set_cons_succ]
  refine reg_take (i := 1) (v := ?_) rfl (by as_aux_lemma => kernel_rfl) (by as_aux_lemma => kernel_rfl) (by as_aux_lemma => kernel_rfl) (fun _ _ _ h => h) (by rfl) ?_ (by assumption) ?_
  rotate_left
  · (intro w hSw; (try dsimp only at hSw); go_simp; try with_reducible rfl)
  try simp only [Act.put, List.setIfInBounds_toArray, List.set_cons_zero, List.set_cons_succ]
  refine reg_take (i := 2) (v := ?_) rfl (by as_aux_lemma => kernel_rfl) (by as_aux_lemma => kernel_rfl) (by as_aux_lemma => kernel_rfl) (fun _ _ _ h => h) (by rfl) ?_ (by assumption) ?_
  rotate_left
  · (intro w hSw; (try dsimp only at hSw); go_simp; try with_reducible rfl)
  try simp only [Act.put, List.setIfInBounds_toArray, List.set_cons_zero, List.set_cons_succ]
  refine reg_take (i := 3) (v := ?_) rfl (by as_aux_lemma => kernel_rfl) (by as_aux_lemma => kernel_rfl) (by as_aux_lemma => kernel_rfl) (fun _ _ _ h => h) (by rfl) ?_ (by assumption) ?_
  rotate_left
  · (intro w hSw; (try dsimp only at hSw); go_simp; try with_reducible rfl)
  try simp only [Act.put, List.setIfInBounds_toArray, List.set_cons_zero, List.set_cons_succ]
  refine reg_take (i := 4) (v := ?_) rfl (by as_aux_lemma => kernel_rfl) (by as_aux_lemma => kernel_rfl) (by as_aux_lemma => kernel_rfl) (fun _ _ _ h => h) (by rfl) ?_ (by assumption) ?_
  rotate_left
  · (intro w hSw; (try dsimp only at hSw); go_simp; try with_reducible rfl)
  try simp only [Act.put, List.setIfInBounds_toArray, List.set_cons_zero, List.set_cons_succ]
  refine reg_take (i := 5) (v := ?_) rfl (by as_aux_lemma => kernel_rfl) (by as_aux_lemma => kernel_rfl) (by as_aux_lemma => kernel_rfl) (fun _ _ _ h => h) (by rfl) ?_ (by assumption) ?_
  rotate_left
  · (intro w hSw; (try dsimp only at hSw); go_simp; try with_reducible rfl)
  try simp only [Act.put, List.setIfInBounds_toArray, List.set_cons_zero, List.set_cons_succ]
  refine reg_take (i := 6) (v := ?_) rfl (by as_aux_lemma => kernel_rfl) (by as_aux_lemma => kernel_rfl) (by as_aux_lemma => kernel_rfl) (fun _ _ _ h => h) (by rfl) ?_ (by assumption) ?_
  rotate_left
  · (intro w hSw; (try dsimp only at hSw); go_simp; try with_reducible rfl)
  try simp only [Act.put, List.setIfInBounds_toArray, List.set_cons_zero, List.set_cons_succ]
  refine reg_take (i := 7) (v := ?_) rfl (by as_aux_lemma => kernel_rfl) (by as_aux_lemma => kernel_rfl) (by as_aux_lemma => kernel_rfl) (fun _ _ _ h => h) (by rfl) ?_ (by assumption) ?_
  rotate_left
  · (intro w hSw; (try dsimp only at hSw); go_simp; try with_reducible rfl)
  try simp only [Act.put, List.setIfInBounds_toArray, List.set_cons_zero, List.set_cons_succ]
  refine reg_step (i := 8) (by as_aux_lemma => kernel_rfl) rfl (fun K hK => ?_)
  go_simp
  refine (lroom_c l _ _ _ _ _ _ room store _ h0.b (by omega) (by omega) (by omega) (by omega)).mono ?_
  rintro e1 w1 ⟨rfl, c1⟩
  have h1 := h0.chB (c1.toB0 (B := B))
  have C1 : ChB B [124, 38, 102] w w1 := C0.trans c1.toB0
  have a1 := h1.b.cell 1
  simp at a1
  clear h0 C0 c1
  dsimp only
  refine hK.out _ _ a1 (fun hHeld2 => ?_)
  clear hK K hHeld
  have hHeld := hHeld2
  clear hHeld2
  try simp only [Act.put, List.setIfInBounds_toArray, List.set_cons_zero, List.set_cons_succ]
  refine reg_step (i := 9) (by as_aux_lemma => kernel_rfl) rfl (fun K hK => ?_)
  go_simp
  refine (ack_is (room := room - store) h1.rc rfl).mono ?_
  rintro e2 w2 ⟨rfl, hr2, c2⟩
  obtain ⟨h2, d2⟩ := h1.told c2 hr2
  have C2 : ChB B [124, 38, 102] w w2 := C1.trans (d2.wide (by simp))
  have a1 := h2.b.cell 1
  simp at a1
  clear h1 C1 c2 hr2 d2
  dsimp only
  refine hK.out _ _ a1 (fun hHeld2 => ?_)
  clear hK K hHeld
  have hHeld := hHeld2
  clear hHeld2
  try simp only [Act.put, List.setIfInBounds_toArray, List.set_cons_zero, List.set_cons_succ]
  refine reg_step (i := 10) (by as_aux_lemma => kernel_rfl) rfl (fun K hK => ?_)
  go_simp
  refine (put_frame B l _ v2 Bk (had, creditN (room - store)) w2 h2.hl h2.b rfl h2.bk (Nat.le_trans hBw C2.size) hbk).mono ?_
  rintro e3 w3 ⟨rfl, v2', hb3, hr3, c3⟩
  have d3 := h2.wayB c3
  have h3 := h2.back d3 hb3 hr3
  have C3 : ChB B [124, 38, 102] w w3 := C2.trans (d3.wide (by simp))
  have a1 := h3.b.cell 1
  simp at a1
  clear h2 C2 c3 d3 hb3 hr3
  dsimp only
  refine hK.out _ _ a1 (fun hHeld2 => ?_)
  clear hK K hHeld
  have hHeld := hHeld2
  clear hHeld2
  try simp only [Act.put, List.setIfInBounds_toArray, List.set_cons_zero, List.set_cons_succ]
  refine wpAnyH_done (by kernel_rfl) ?_ _
  refine NoPanic.normal ?_
  clear hHeld
  go_step
  go_end0
  exact ⟨rfl, ⟨_, h3⟩, C3⟩
end Go.Proofs.Ytejmcfgmopijkaa
