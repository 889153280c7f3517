/- The sender's Push: one text more, if there is room. -/
import Derived.Test.YtejmcfgmopijkaaSnd
namespace Go.Proofs.Ytejmcfgmopijkaa
open Go.RowKit
set_option linter.unusedVariables false

theorem info114 : (Try.prog.info? 114).map (fun i => (i.zero, i.size, i.bytes)) = some (some (.agg #[.string ⟨#[]⟩, .bool false]), 2, 24) := by kernel_rfl

theorem ret_int' {k : IntKind} {a b : Int} (h : a = b) : Ending.returned (.int k a) = .returned (.int k b) := by rw [h]

set_option maxHeartbeats 1000000 in
set_option maxRecDepth 100000 in
theorem rpush_v (B g : Nat) (ep win wait cr gone last : Int) (T : List Txt) (s : ByteArray) (v : Value) (w : World) (h : SndV w B g ep win wait cr T gone last v) (hBw : B ≤ w.heap.size) (hg : 0 ≤ gone) (hg2 : gone ≤ 1000000) (hT : T.length ≤ 1000) :
    Calls Try.prog 69 #[.pointer (some ⟨g, 4, none⟩), .agg #[.string s, .bool false]] w fun r w' => r = .returned (.int .i64 (nextN gone T)) ∧ SndI w' B g ep win wait cr (T ++ [(s, false)]) gone last ∧ ChB B [111, 114] w w' := by
  obtain ⟨i0, hi, hz0, hz1, hz2⟩ := info_parts info114
  have b0 := h.b.alloc (.cells #[.string s, .bool false] 114)
  have r0 := h.r.alloc (.cells #[.string s, .bool false] 114)
  have x0 := Blk.new w 114 #[.string s, .bool false]
  have C0 : ChB B [111, 114] w (w.alloc (.cells #[.string s, .bool false] 114)) := (ChB.refl _ _ _).alloc _
  have z0 : B ≤ (w.alloc (.cells #[.string s, .bool false] 114)).heap.size := by simp; omega
  go_enter Try.func69, Try.ntmps69
  go_wp2_with fail
  generalize w.alloc _ = w1 at b0 r0 x0 C0 z0 ⊢
  generalize w.heap.size = x at x0 ⊢
  have a4 := b0.cell 4
  have y0 := x0.cell 0
  have y1 := x0.cell 1
  simp at a4 y0 y1
  have hgg := h.hB
  obtain ⟨A, cap, hv⟩ := h.len
  subst hv
  clear h x0
  have z2 : B ≤ (w1.alloc (.cells #[.string s, .bool false] 114)).drew.heap.size := by simp; omega
  have hT1 : T.length + 1 ≤ maxLen := by unfold maxLen; omega
  have hT2 : (T.length + 1) * 24 ≤ 140737488355328 := by omega
  have bb := (b0.alloc (.cells #[.string s, .bool false] 114)).drew
  have rr := own_drew (r0.alloc (.cells #[.string s, .bool false] 114))
  have xx := Reads.of_blk (size := 2) (n := 1) (Blk.new w1 114 #[.string s, .bool false]).drew rfl
  have CC := (C0.alloc (.cells #[.string s, .bool false] 114)).drew
  have q4 := (b0.alloc (.cells #[.string s, .bool false] 114)).cell 4
  simp at q4
  go_region_law (first
    | (refine step_append_any _ (by rfl) (.tmp 9) (.tmp 11) 107 (by rfl) B 114 i0 _ 2 24 Try.underlying107 hi hz0 hz1 hz2 rfl (by decide) _ _ _ (by rfl) rr _ _ 1 1 _ (by rfl) xx (by simp [Value.oneCell']) hT1 hT2 z2 ?_; intro v' w3 hown hgrow hblk; have b3 := bb.grown hgrow (own_ne rr bb (by decide)); have C3 := CC.grown hgrow rr (Nat.le_refl _) (by simp); obtain ⟨gv, cap', rfl, hgB, hglt, _, _, _, _⟩ := own_at hown (by omega); have k4 := b3.cell 4; have m4 := b3.frozen 4; simp at k4))
  all_goals
    have b4 := b3.set_ 4 (.slice (some ⟨gv, 0, none⟩) (T.length + 1) cap')
    have C4 := C3.setCell (p := ⟨g, 4, none⟩) hgg b3 (by simp) (.slice (some ⟨gv, 0, none⟩) (T.length + 1) cap')
    have hne := own_ne hown b3 (by decide)
    have o4 := own_ch hown ((Ch.refl [g] w3).setCell (p := ⟨g, 4, none⟩) (.inl (by simp)) (.slice (some ⟨gv, 0, none⟩) (T.length + 1) cap')) (fun k hk hm => hne (by rw [List.mem_singleton.1 hm] at hk; exact hk.symm))
    generalize w3.setCell _ _ = w4 at b4 C4 o4 ⊢
    have S4 : SndV w4 B g ep win wait cr (T ++ [(s, false)]) gone last (.slice (some ⟨gv, 0, none⟩) (T.length + 1) cap') := ⟨hgg, b4, by rw [List.length_append, txtCells_append]; exact o4⟩
    clear k4 m4 b3 C3 hown hgrow hblk q4 CC xx rr bb a4 y0 y1 b0 r0 C0 z0 z2 b4 o4 hne hz0 hz1 hz2 hi
    go_wp2_with fail
    refine (next_v B g ep win wait cr gone last _ _ w4 S4 hg hg2 (by simp; omega)).mono ?_
    rintro r w5 ⟨rfl, c⟩
    have hp : nextN gone (T ++ [(s, false)]) = gone + T.length + 1 + 1 := by simp [nextN]; omega
    rw [hp]
    clear hp
    go_wp2_with fail
    go_ret
    exact ⟨ret_int' (by simp [nextN]), ⟨_, S4.chB c (by simp) (by simp)⟩, C4.trans (c.wide (by simp))⟩

theorem spush_no (B g : Nat) (ep win wait cr gone last : Int) (T : List Txt) (s : ByteArray) (v : Value) (w : World) (h : SndV w B g ep win wait cr T gone last v) (hb : SndB win wait cr T gone last) (hr : roomN win cr T.length = 0) :
    Calls Try.prog 34 #[.pointer (some ⟨g, 0, none⟩), .string s] w fun r w' => r = .returned (.tuple #[.int .i64 0, .int .i64 7]) ∧ ChB B [] w w' := by
  have c1 := room_v B g ep win wait cr gone last T v w h hb
  rw [hr] at c1
  have C1 := Lib.hid c1
  clear c1 hr
  go_enter Try.func34, Try.ntmps34
  go_wp2_with fail
  refine C1.out.mono ?_
  rintro r w1 ⟨rfl, c⟩
  go_wp2_with fail
  go_ret2
  exact ⟨rfl, c⟩

theorem spush_yes (B g : Nat) (ep win wait cr gone last : Int) (T : List Txt) (s : ByteArray) (v : Value) (w : World) (h : SndV w B g ep win wait cr T gone last v) (hb : SndB win wait cr T gone last) (hBw : B ≤ w.heap.size) (hr : roomN win cr T.length ≠ 0) :
    Calls Try.prog 34 #[.pointer (some ⟨g, 0, none⟩), .string s] w fun r w' => r = .returned (.tuple #[.int .i64 (nextN gone T), .int .i64 0]) ∧ SndI w' B g ep win wait cr (T ++ [(s, false)]) gone last ∧ ChB B [111, 114] w w' := by
  have hg1 := hb.g1
  have hg2 := hb.g2
  have hn2 := hb.n2
  have hz : (roomN win cr T.length == 0) = false := by simp [hr]
  have c1 := room_v B g ep win wait cr gone last T v w h hb
  generalize roomN win cr T.length = rm at hz c1
  have C1 := Lib.hid c1
  clear c1 hr hb
  go_enter Try.func34, Try.ntmps34
  go_wp2_with fail
  refine C1.out.mono ?_
  rintro r w1 ⟨rfl, c⟩
  have h1 := h.chB c (by simp) (by simp)
  go_wp2_with fail
  refine (rpush_v B g ep win wait cr gone last T s v w1 h1 (Nat.le_trans hBw c.size) hg1 hg2 hn2).mono ?_
  rintro r w2 ⟨rfl, S2, c2⟩
  go_wp2_with fail
  go_ret2
  exact ⟨rfl, S2, (c.wide (by simp)).trans c2⟩

set_option maxHeartbeats 1000000 in
set_option maxRecDepth 100000 in
theorem drop_v (B g : Nat) (ep win wait cr gone last seq : Int) (T : List Txt) (v : Value) (w : World) (h : SndV w B g ep win wait cr T gone last v) (hBw : B ≤ w.heap.size) (hg : 0 ≤ gone) (hg2 : gone ≤ 1000000) (hT : T.length ≤ 1000) (h1 : gone ≤ seq) (h2 : seq ≤ gone + T.length) :
    Calls Try.prog 73 #[.pointer (some ⟨g, 4, none⟩), .int .i64 seq] w fun r w' => r = .returned (.int .i64 (seq - gone)) ∧ SndI w' B g ep win wait cr (T.drop (seq - gone).toNat) seq last ∧ ChB B [111, 114] w w' := by
  obtain ⟨i0, hi, hz0, hz1, hz2⟩ := info_parts info114
  have hgg := h.hB
  obtain ⟨A, cap, hv⟩ := h.len
  subst hv
  obtain ⟨k, hk⟩ := Int.eq_ofNat_of_zero_le (show 0 ≤ seq - gone by omega)
  have hkT : k ≤ T.length := by omega
  obtain rfl : seq = gone + k := by omega
  have b0 := h.b
  have r0 := h.r
  have a4 := b0.cell 4
  have a5 := b0.cell 5
  simp at a4 a5
  rw [hk]
  simp only [Int.toNat_natCast]
  have hcap : T.length ≤ cap := by
    rcases own_form r0 with ⟨he, h0, _⟩ | ⟨_, cap', _, he, _, _, hc, _⟩
    · omega
    · injection he with _ _ e3; omega
  have hRd := (Reads.of_own r0).cut (k := k) hkT hcap
  have hone : ∀ u ∈ List.drop (k * 2) (txtCells T), u.oneCell' = true := fun u hu => by
    have hm : u ∈ txtCells T := List.mem_of_mem_drop hu
    simp only [txtCells, List.mem_flatMap] at hm
    obtain ⟨x, _, hx⟩ := hm
    simp at hx
    rcases hx with rfl | rfl <;> rfl
  go_enter Try.func73, Try.ntmps73
  go_wp2_with (at_builtin; refine wpList_append_any _ rfl (.const (.slice none 0 0)) (.tmp 18) 107 rfl B 114 i0 _ 2 24 Try.underlying107 hi hz0 hz1 hz2 rfl (by decide) _ 0 [] rfl (World.ownsRow_nil _ _ _ _) _ _ _ _ _ rfl hRd hone (by unfold maxLen; omega) (by omega) hBw ?_)
  all_goals
    intro v' w3 hown hgrow hblk
    have C3 : Ch [] w w3 := (Ch.refl [] w).grown hgrow (by simp [Value.ownBlock])
    have b3 := b0.ch C3 (by simp)
    have k4 := b3.cell 4
    have m4 := b3.frozen 4
    have b4 := b3.set_ 4 v'
    have b5 := b4.set_ 5 (.int .i64 (gone + k))
    have k5 := b4.cell 5
    have m5 := b4.frozen 5
    simp at k4 k5
    have C4 := ((C3.toB0 : ChB B [111, 114] w w3).setCell (p := ⟨g, 4, none⟩) hgg b3 (by simp) v').setCell (p := ⟨g, 5, none⟩) hgg b4 (by simp) (.int .i64 (gone + k))
    have hne := own_ne hown b3 (by decide)
    have o5 := own_ch hown (((Ch.refl [g] w3).setCell (p := ⟨g, 4, none⟩) (.inl (by simp)) v').setCell (p := ⟨g, 5, none⟩) (.inl (by simp)) (.int .i64 (gone + k))) (fun q hq hm => hne (by rw [List.mem_singleton.1 hm] at hq; exact hq.symm))
    have S5 : SndV ((w3.setCell ⟨g, 4, none⟩ v').setCell ⟨g, 5, none⟩ (.int .i64 (gone + k))) B g ep win wait cr (T.drop k) (gone + k) last v' := ⟨hgg, b5, by rw [List.length_drop, txtCells_drop]; exact o5⟩
    have Hf := own_form hown
    clear b0 r0 a4 a5 hRd hone hgrow hblk b3 b4 b5 o5 hne hown hi hz0 hz1 hz2
    rcases Hf with ⟨rfl, _, _⟩ | ⟨gv, cap', _, rfl, _, _, _, _, _, _⟩
    · go_wp2_with fail
      go_ret
      exact ⟨rfl, ⟨_, S5⟩, C4⟩
    · go_wp2_with fail
      go_ret
      exact ⟨rfl, ⟨_, S5⟩, C4⟩
end Go.Proofs.Ytejmcfgmopijkaa
