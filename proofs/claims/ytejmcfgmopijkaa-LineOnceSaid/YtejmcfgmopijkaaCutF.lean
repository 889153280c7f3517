/- A way of the line: what is at a place leaves: of the way back. -/
import Derived.Test.YtejmcfgmopijkaaCut
namespace Go.Proofs.Ytejmcfgmopijkaa
open Go.RowKit
set_option linter.unusedVariables false
set_option linter.unusedSimpArgs false

theorem frm_size (x : Frm) : (frm x).size = 12 := rfl
theorem frmCells_cons (x : Frm) (L : List Frm) : frmCells (x :: L) = (frm x).toList ++ frmCells L := by simp [frmCells]
theorem frmCells_get (L : List Frm) : ∀ (i : Nat) (x : Frm), L[i]? = some x → ∀ (j : Nat) (u : Value), (frm x)[j]? = some u → (frmCells L)[i * 12 + j]? = some u := by
  induction L with
  | nil => intro i x h; simp at h
  | cons y L ih =>
    intro i x h j u hu
    have hj : j < 12 := by
      have := (Array.getElem?_eq_some_iff.1 hu).1
      rw [frm_size] at this
      exact this
    rw [frmCells_cons]
    have hl : (frm y).toList.length = 12 := by simp [frm]
    cases i with
    | zero =>
      simp at h
      subst h
      rw [Nat.zero_mul, Nat.zero_add, List.getElem?_append_left (by omega)]
      simpa using hu
    | succ i =>
      rw [List.getElem?_append_right (by omega), hl, show (i + 1) * 12 + j - 12 = i * 12 + j by omega]
      exact ih i x (by simpa using h) j u hu
theorem frm_one (L : List Frm) : ∀ u ∈ frmCells L, u.oneCell' = true := fun u hu => by
  simp only [frmCells, List.mem_flatMap] at hu
  obtain ⟨x, _, hx⟩ := hu
  simp [frm] at hx
  rcases hx with h | h | h | h | h | h | h | h | h | h <;> (subst h; rfl)
theorem frmCells_cut (L : List Frm) {k : Nat} (hk : k < L.length) : (frmCells L).take (k * 12) ++ (frmCells L).drop ((k + 1) * 12) = frmCells (L.eraseIdx k) := by
  induction L generalizing k with
  | nil => simp at hk
  | cons x L ih =>
    have hl : (frm x).toList.length = 12 := by simp [frm]
    rw [frmCells_cons]
    cases k with
    | zero =>
      simp only [Nat.zero_mul, List.take_zero, List.nil_append, Nat.zero_add, Nat.one_mul]
      rw [List.drop_left' hl]; rfl
    | succ k =>
      have := ih (k := k) (by simpa using hk)
      rw [List.eraseIdx_cons_succ, frmCells_cons, ← this]
      have e1 : ((frm x).toList ++ frmCells L).take ((k + 1) * 12) = (frm x).toList ++ (frmCells L).take (k * 12) := by
        rw [List.take_append, hl, List.take_of_length_le (by omega), show (k + 1) * 12 - 12 = k * 12 by omega]
      have e2 : ((frm x).toList ++ frmCells L).drop ((k + 1 + 1) * 12) = (frmCells L).drop ((k + 1) * 12) := by
        rw [List.drop_append, hl, List.drop_eq_nil_of_le (by omega), List.nil_append, show (k + 1 + 1) * 12 - 12 = (k + 1) * 12 by omega]
      rw [e1, e2, List.append_assoc]

set_option maxHeartbeats 4000000 in
set_option maxRecDepth 100000 in
theorem cut_frame (B l : Nat) (cs : Array Value) (v : Value) (L : List Frm) (k : Nat) (w : World) (hlB : B ≤ l) (hl : Blk w l 124 cs) (hv : cs[3]? = some v) (hr : RowW w B 38 12 v L.length (frmCells L)) (hBw : B ≤ w.heap.size) (hn : L.length ≤ 64) (hk : k < L.length) :
    Calls Try.prog 82 #[.pointer (some ⟨l, 3, none⟩), .int .i64 k] w fun r w' => r = .returned (.agg (frm L[k])) ∧ ∃ v', Blk w' l 124 (cs.setIfInBounds 3 v') ∧ RowW w' B 38 12 v' (L.eraseIdx k).length (frmCells (L.eraseIdx k)) ∧ Ch [l] w w' := by
  obtain ⟨i0, hi, hz0, hz1, hz2⟩ := info_parts info38
  have eg := frmCells_get L k _ (List.getElem?_eq_getElem hk)
  have hgl : ∀ b, v.ownBlock = some b → b < w.heap.size := fun b hb => by
    obtain ⟨_, cur, hc⟩ := hr.blocks b hb
    exact hc.lt
  have b0 := hl.alloc (.cells #[.int .i64 0, .int .i64 0, .int .i64 0, .int .i64 0, .bool false, .string ⟨#[]⟩, .int .i64 0, .int .i64 0, .string ⟨#[]⟩, .string ⟨#[]⟩, .int .i64 0, .slice none 0 0] 38)
  have r0 := hr.alloc (.cells #[.int .i64 0, .int .i64 0, .int .i64 0, .int .i64 0, .bool false, .string ⟨#[]⟩, .int .i64 0, .int .i64 0, .string ⟨#[]⟩, .string ⟨#[]⟩, .int .i64 0, .slice none 0 0] 38)
  have x0 := Blk.new w 38 #[.int .i64 0, .int .i64 0, .int .i64 0, .int .i64 0, .bool false, .string ⟨#[]⟩, .int .i64 0, .int .i64 0, .string ⟨#[]⟩, .string ⟨#[]⟩, .int .i64 0, .slice none 0 0]
  have C0 : Ch [l] w (w.alloc (.cells #[.int .i64 0, .int .i64 0, .int .i64 0, .int .i64 0, .bool false, .string ⟨#[]⟩, .int .i64 0, .int .i64 0, .string ⟨#[]⟩, .string ⟨#[]⟩, .int .i64 0, .slice none 0 0] 38)) := (Ch.refl _ _).alloc _
  obtain ⟨g, cap, rfl, c0⟩ := r0.cell (eg 0 _ rfl)
  have call : ∀ (j : Nat) (u : Value), (frm L[k])[j]? = some u → (w.alloc (.cells #[.int .i64 0, .int .i64 0, .int .i64 0, .int .i64 0, .bool false, .string ⟨#[]⟩, .int .i64 0, .int .i64 0, .string ⟨#[]⟩, .string ⟨#[]⟩, .int .i64 0, .slice none 0 0] 38)).cell? ⟨g, k * 12 + j, none⟩ = some u := fun j u hu => by
    obtain ⟨g', cap', he, c1⟩ := r0.cell (eg j u hu)
    injection he with he _ he3
    injection he with he
    injection he with he
    subst he
    exact c1
  obtain ⟨A', c', he', hLc, _⟩ := r0.len
  injection he' with he1 _ he2
  subst he1 he2
  have hkc : k ≤ cap := by omega
  have hkc1 : k + 1 ≤ cap := by omega
  have hgw : g < w.heap.size := hgl g rfl
  clear hgl
  have hcut := frmCells_cut L hk
  have hone := frm_one L
  have a2 := (b0.cell 3).trans hv
  have hkl : (k : Int) < (L.length : Int) := by omega
  have hk0 : 0 ≤ (k : Int) := by omega
  generalize L[k] = x at c0 call ⊢
  clear c0
  have c0 : (w.alloc (.cells #[.int .i64 0, .int .i64 0, .int .i64 0, .int .i64 0, .bool false, .string ⟨#[]⟩, .int .i64 0, .int .i64 0, .string ⟨#[]⟩, .string ⟨#[]⟩, .int .i64 0, .slice none 0 0] 38)).cell? ⟨g, k * 12, none⟩ = some (.int .i64 4) := call 0 _ rfl
  have c1 : (w.alloc (.cells #[.int .i64 0, .int .i64 0, .int .i64 0, .int .i64 0, .bool false, .string ⟨#[]⟩, .int .i64 0, .int .i64 0, .string ⟨#[]⟩, .string ⟨#[]⟩, .int .i64 0, .slice none 0 0] 38)).cell? ⟨g, k * 12 + 1, none⟩ = some (.int .i64 1) := call 1 _ rfl
  have c2 : (w.alloc (.cells #[.int .i64 0, .int .i64 0, .int .i64 0, .int .i64 0, .bool false, .string ⟨#[]⟩, .int .i64 0, .int .i64 0, .string ⟨#[]⟩, .string ⟨#[]⟩, .int .i64 0, .slice none 0 0] 38)).cell? ⟨g, k * 12 + 2, none⟩ = some (.int .i64 x.1) := call 2 _ rfl
  have c3 : (w.alloc (.cells #[.int .i64 0, .int .i64 0, .int .i64 0, .int .i64 0, .bool false, .string ⟨#[]⟩, .int .i64 0, .int .i64 0, .string ⟨#[]⟩, .string ⟨#[]⟩, .int .i64 0, .slice none 0 0] 38)).cell? ⟨g, k * 12 + 3, none⟩ = some (.int .i64 x.2) := call 3 _ rfl
  have c4 : (w.alloc (.cells #[.int .i64 0, .int .i64 0, .int .i64 0, .int .i64 0, .bool false, .string ⟨#[]⟩, .int .i64 0, .int .i64 0, .string ⟨#[]⟩, .string ⟨#[]⟩, .int .i64 0, .slice none 0 0] 38)).cell? ⟨g, k * 12 + 4, none⟩ = some (.bool false) := call 4 _ rfl
  have c5 : (w.alloc (.cells #[.int .i64 0, .int .i64 0, .int .i64 0, .int .i64 0, .bool false, .string ⟨#[]⟩, .int .i64 0, .int .i64 0, .string ⟨#[]⟩, .string ⟨#[]⟩, .int .i64 0, .slice none 0 0] 38)).cell? ⟨g, k * 12 + 5, none⟩ = some (.string ⟨#[]⟩) := call 5 _ rfl
  have c6 : (w.alloc (.cells #[.int .i64 0, .int .i64 0, .int .i64 0, .int .i64 0, .bool false, .string ⟨#[]⟩, .int .i64 0, .int .i64 0, .string ⟨#[]⟩, .string ⟨#[]⟩, .int .i64 0, .slice none 0 0] 38)).cell? ⟨g, k * 12 + 6, none⟩ = some (.int .i64 0) := call 6 _ rfl
  have c7 : (w.alloc (.cells #[.int .i64 0, .int .i64 0, .int .i64 0, .int .i64 0, .bool false, .string ⟨#[]⟩, .int .i64 0, .int .i64 0, .string ⟨#[]⟩, .string ⟨#[]⟩, .int .i64 0, .slice none 0 0] 38)).cell? ⟨g, k * 12 + 7, none⟩ = some (.int .i64 0) := call 7 _ rfl
  have c8 : (w.alloc (.cells #[.int .i64 0, .int .i64 0, .int .i64 0, .int .i64 0, .bool false, .string ⟨#[]⟩, .int .i64 0, .int .i64 0, .string ⟨#[]⟩, .string ⟨#[]⟩, .int .i64 0, .slice none 0 0] 38)).cell? ⟨g, k * 12 + 8, none⟩ = some (.string ⟨#[]⟩) := call 8 _ rfl
  have c9 : (w.alloc (.cells #[.int .i64 0, .int .i64 0, .int .i64 0, .int .i64 0, .bool false, .string ⟨#[]⟩, .int .i64 0, .int .i64 0, .string ⟨#[]⟩, .string ⟨#[]⟩, .int .i64 0, .slice none 0 0] 38)).cell? ⟨g, k * 12 + 9, none⟩ = some (.string ⟨#[]⟩) := call 9 _ rfl
  have c10 : (w.alloc (.cells #[.int .i64 0, .int .i64 0, .int .i64 0, .int .i64 0, .bool false, .string ⟨#[]⟩, .int .i64 0, .int .i64 0, .string ⟨#[]⟩, .string ⟨#[]⟩, .int .i64 0, .slice none 0 0] 38)).cell? ⟨g, k * 12 + 10, none⟩ = some (.int .i64 0) := call 10 _ rfl
  have c11 : (w.alloc (.cells #[.int .i64 0, .int .i64 0, .int .i64 0, .int .i64 0, .bool false, .string ⟨#[]⟩, .int .i64 0, .int .i64 0, .string ⟨#[]⟩, .string ⟨#[]⟩, .int .i64 0, .slice none 0 0] 38)).cell? ⟨g, k * 12 + 11, none⟩ = some (.slice none 0 0) := call 11 _ rfl
  simp only [frm]
  clear eg call hl hr
  go_enter Try.func82, Try.ntmps82
  go_wp2_with fail
  have b1 := b0.alloc (.cells #[.int .i64 4, .int .i64 1, .int .i64 x.1, .int .i64 x.2, .bool false, .string ⟨#[]⟩, .int .i64 0, .int .i64 0, .string ⟨#[]⟩, .string ⟨#[]⟩, .int .i64 0, .slice none 0 0] 38)
  have r1 := r0.alloc (.cells #[.int .i64 4, .int .i64 1, .int .i64 x.1, .int .i64 x.2, .bool false, .string ⟨#[]⟩, .int .i64 0, .int .i64 0, .string ⟨#[]⟩, .string ⟨#[]⟩, .int .i64 0, .slice none 0 0] 38)
  have y0 := x0.alloc (.cells #[.int .i64 4, .int .i64 1, .int .i64 x.1, .int .i64 x.2, .bool false, .string ⟨#[]⟩, .int .i64 0, .int .i64 0, .string ⟨#[]⟩, .string ⟨#[]⟩, .int .i64 0, .slice none 0 0] 38)
  have y1 := Blk.new (w.alloc (.cells #[.int .i64 0, .int .i64 0, .int .i64 0, .int .i64 0, .bool false, .string ⟨#[]⟩, .int .i64 0, .int .i64 0, .string ⟨#[]⟩, .string ⟨#[]⟩, .int .i64 0, .slice none 0 0] 38)) 38 #[.int .i64 4, .int .i64 1, .int .i64 x.1, .int .i64 x.2, .bool false, .string ⟨#[]⟩, .int .i64 0, .int .i64 0, .string ⟨#[]⟩, .string ⟨#[]⟩, .int .i64 0, .slice none 0 0]
  have C1 := C0.alloc (.cells #[.int .i64 4, .int .i64 1, .int .i64 x.1, .int .i64 x.2, .bool false, .string ⟨#[]⟩, .int .i64 0, .int .i64 0, .string ⟨#[]⟩, .string ⟨#[]⟩, .int .i64 0, .slice none 0 0] 38)
  have hq : w.heap.size < w.heap.size + 1 := by omega
  rw [show (w.alloc (.cells #[.int .i64 0, .int .i64 0, .int .i64 0, .int .i64 0, .bool false, .string ⟨#[]⟩, .int .i64 0, .int .i64 0, .string ⟨#[]⟩, .string ⟨#[]⟩, .int .i64 0, .slice none 0 0] 38)).heap.size = w.heap.size + 1 by simp] at y1
  generalize (w.alloc _).alloc _ = w1 at b1 r1 y0 y1 C1 ⊢
  have hwl : l < w1.heap.size := b1.lt
  have hql : w.heap.size ≠ l := fun e => by have := x0.ne_ b0 (by decide); exact this e
  generalize hqq : w.heap.size = q at x0 y0 y1 hq hql hBw hgw ⊢
  have hqw : q < w1.heap.size := y0.lt
  have Hqq := Lib.hid hqq
  clear hqq
  clear b0 r0 x0 C0 a2 c0 c1 c2 c3 c4 c5 c6 c7 c8 c9 c10 c11
  have a2 := (b1.cell 3).trans hv
  have z1 : B ≤ w1.drew.heap.size := Nat.le_trans (Nat.le_trans hlB (Nat.le_of_lt hwl)) (Nat.le_refl _)
  have v1 : IntKind.i64.wrap ((k : Int) + 1) = k + 1 := IntWalk.i64_in _ (by omega)
  have v2 : ((k : Int) + 1).toNat = k + 1 := by omega
  have v3 : 0 ≤ (k : Int) + 1 := by omega
  have v4 : (k : Int) + 1 ≤ (L.length : Int) := by omega
  have bb := b1.drew
  have rr := r1.drew
  have CC := C1.drew
  by_cases hcap : cap = k + 1
  · subst hcap
    have v5 : (k : Int) ≤ (k : Int) + 1 := by omega
    go_region_law (first
      | (refine step_append_cut _ (by rfl) (.tmp 20) (.tmp 27) 120 (by rfl) B 38 i0 _ 12 136 Try.underlying120 hi hz0 hz1 hz2 rfl (by decide) g L.length _ k _ (by rfl) rr hk _ _ _ (by rfl) (by omega) (fun h => by omega) hone hn (by decide) z1 ?_; intro v' w3 hown hgrow hloc; obtain ⟨A3, c3, rfl, _, _⟩ := hown.len; have b3 := bb.grown hgrow (by simp); have k2 := b3.cell 3; have m2 := b3.frozen 3))
    all_goals
      have C3 := CC.grown hgrow (by simp)
      have z0 := (y0.drew).grown hgrow (by simp)
      have z1' := (y1.drew).grown hgrow (by simp)
      have b4 := b3.set_ 3 (.slice A3 (L.length - 1) c3)
      have hne := hown.ne b3 (by decide)
      have o4 := hown.ch ((Ch.refl [l] w3).setCell (p := ⟨l, 3, none⟩) (.inl (by simp)) (.slice A3 (L.length - 1) c3)) (fun q' hq' hm => hne (by rw [List.mem_singleton.1 hm] at hq'; exact hq'))
      have C4 := C3.setCell (p := ⟨l, 3, none⟩) (.inl (by simp)) (.slice A3 (L.length - 1) c3)
      have z4 := z0.far (p := ⟨l, 3, none⟩) hql (.slice A3 (L.length - 1) c3)
      have hq1l : q + 1 ≠ l := fun e => by have := y1.ne_ b1 (by decide); exact this e
      have z5 := z1'.far (p := ⟨l, 3, none⟩) hq1l (.slice A3 (L.length - 1) c3)
      generalize w3.setCell _ _ = w4 at b4 o4 C4 z4 z5 ⊢
      have n0 := z5.cell 0
      have p0 := z4.cell 0
      have n1 := z5.cell 1
      have p1 := z4.cell 1
      have n2 := z5.cell 2
      have p2 := z4.cell 2
      have n3 := z5.cell 3
      have p3 := z4.cell 3
      have n4 := z5.cell 4
      have p4 := z4.cell 4
      have n5 := z5.cell 5
      have p5 := z4.cell 5
      have n6 := z5.cell 6
      have p6 := z4.cell 6
      have n7 := z5.cell 7
      have p7 := z4.cell 7
      have n8 := z5.cell 8
      have p8 := z4.cell 8
      have n9 := z5.cell 9
      have p9 := z4.cell 9
      have n10 := z5.cell 10
      have p10 := z4.cell 10
      have n11 := z5.cell 11
      have p11 := z4.cell 11
      have f0 := z4.frozen 0
      have s0 := z4.set_ 0 (.int .i64 4)
      have f1 := s0.frozen 1
      have s1 := s0.set_ 1 (.int .i64 1)
      have f2 := s1.frozen 2
      have s2 := s1.set_ 2 (.int .i64 x.1)
      have f3 := s2.frozen 3
      have s3 := s2.set_ 3 (.int .i64 x.2)
      have f4 := s3.frozen 4
      have s4 := s3.set_ 4 (.bool false)
      have f5 := s4.frozen 5
      have s5 := s4.set_ 5 (.string ⟨#[]⟩)
      have f6 := s5.frozen 6
      have s6 := s5.set_ 6 (.int .i64 0)
      have f7 := s6.frozen 7
      have s7 := s6.set_ 7 (.int .i64 0)
      have f8 := s7.frozen 8
      have s8 := s7.set_ 8 (.string ⟨#[]⟩)
      have f9 := s8.frozen 9
      have s9 := s8.set_ 9 (.string ⟨#[]⟩)
      have f10 := s9.frozen 10
      have s10 := s9.set_ 10 (.int .i64 0)
      have f11 := s10.frozen 11
      have s11 := s10.set_ 11 (.slice none 0 0)
      have r0' := s11.cell 0
      have r1' := s11.cell 1
      have r2' := s11.cell 2
      have r3' := s11.cell 3
      have r4' := s11.cell 4
      have r5' := s11.cell 5
      have r6' := s11.cell 6
      have r7' := s11.cell 7
      have r8' := s11.cell 8
      have r9' := s11.cell 9
      have r10' := s11.cell 10
      have r11' := s11.cell 11
      simp at n0 p0 n1 p1 n2 p2 n3 p3 n4 p4 n5 p5 n6 p6 n7 p7 n8 p8 n9 p9 n10 p10 n11 p11
      clear z0 z1' C3 hgrow hown k2 m2 b3 y0 y1
      go_wp2_with fail
      have hnq : (Value.slice A3 (L.length - 1) c3).ownBlock ≠ some q := fun hb => by
        have h9 := hloc q hb
        have h10 : w1.drew.heap.size = w1.heap.size := rfl
        omega
      have CQ := ((((((((((((Ch.refl [q] w4).setCell (p := ⟨q, 0, none⟩) (.inl (by simp)) (.int .i64 4)).setCell (p := ⟨q, 1, none⟩) (.inl (by simp)) (.int .i64 1)).setCell (p := ⟨q, 2, none⟩) (.inl (by simp)) (.int .i64 x.1)).setCell (p := ⟨q, 3, none⟩) (.inl (by simp)) (.int .i64 x.2)).setCell (p := ⟨q, 4, none⟩) (.inl (by simp)) (.bool false)).setCell (p := ⟨q, 5, none⟩) (.inl (by simp)) (.string ⟨#[]⟩)).setCell (p := ⟨q, 6, none⟩) (.inl (by simp)) (.int .i64 0)).setCell (p := ⟨q, 7, none⟩) (.inl (by simp)) (.int .i64 0)).setCell (p := ⟨q, 8, none⟩) (.inl (by simp)) (.string ⟨#[]⟩)).setCell (p := ⟨q, 9, none⟩) (.inl (by simp)) (.string ⟨#[]⟩)).setCell (p := ⟨q, 10, none⟩) (.inl (by simp)) (.int .i64 0)).setCell (p := ⟨q, 11, none⟩) (.inl (by simp)) (.slice none 0 0)
      have o7 := o4.ch CQ (fun q' hq' hm => hnq (by rw [List.mem_singleton.1 hm] at hq'; exact hq'))
      have b7 := b4.ch CQ (by simp; exact fun e => hql e.symm)
      have C7 := ((((((((((((C4).setCell (p := ⟨q, 0, none⟩) (.inr (by rw [Hqq.out]; exact Nat.le_refl _)) (.int .i64 4)).setCell (p := ⟨q, 1, none⟩) (.inr (by rw [Hqq.out]; exact Nat.le_refl _)) (.int .i64 1)).setCell (p := ⟨q, 2, none⟩) (.inr (by rw [Hqq.out]; exact Nat.le_refl _)) (.int .i64 x.1)).setCell (p := ⟨q, 3, none⟩) (.inr (by rw [Hqq.out]; exact Nat.le_refl _)) (.int .i64 x.2)).setCell (p := ⟨q, 4, none⟩) (.inr (by rw [Hqq.out]; exact Nat.le_refl _)) (.bool false)).setCell (p := ⟨q, 5, none⟩) (.inr (by rw [Hqq.out]; exact Nat.le_refl _)) (.string ⟨#[]⟩)).setCell (p := ⟨q, 6, none⟩) (.inr (by rw [Hqq.out]; exact Nat.le_refl _)) (.int .i64 0)).setCell (p := ⟨q, 7, none⟩) (.inr (by rw [Hqq.out]; exact Nat.le_refl _)) (.int .i64 0)).setCell (p := ⟨q, 8, none⟩) (.inr (by rw [Hqq.out]; exact Nat.le_refl _)) (.string ⟨#[]⟩)).setCell (p := ⟨q, 9, none⟩) (.inr (by rw [Hqq.out]; exact Nat.le_refl _)) (.string ⟨#[]⟩)).setCell (p := ⟨q, 10, none⟩) (.inr (by rw [Hqq.out]; exact Nat.le_refl _)) (.int .i64 0)).setCell (p := ⟨q, 11, none⟩) (.inr (by rw [Hqq.out]; exact Nat.le_refl _)) (.slice none 0 0)
      rw [hcut] at o7
      have hle : (L.eraseIdx k).length = L.length - 1 := by rw [List.length_eraseIdx, if_pos hk]
      generalize (((((((((((w4.setCell _ _).setCell _ _).setCell _ _).setCell _ _).setCell _ _).setCell _ _).setCell _ _).setCell _ _).setCell _ _).setCell _ _).setCell _ _).setCell _ _ = w7 at o7 b7 C7 r0' r1' r2' r3' r4' r5' r6' r7' r8' r9' r10' r11' ⊢
      simp at r0' r1' r2' r3' r4' r5' r6' r7' r8' r9' r10' r11'
      clear s0 f0 n0 p0 s1 f1 n1 p1 s2 f2 n2 p2 s3 f3 n3 p3 s4 f4 n4 p4 s5 f5 n5 p5 s6 f6 n6 p6 s7 f7 n7 p7 s8 f8 n8 p8 s9 f9 n9 p9 s10 f10 n10 p10 s11 f11 n11 p11 CQ
      refine bodyPost_ret (v := .agg #[.int .i64 4, .int .i64 1, .int .i64 x.1, .int .i64 x.2, .bool false, .string ⟨#[]⟩, .int .i64 0, .int .i64 0, .string ⟨#[]⟩, .string ⟨#[]⟩, .int .i64 0, .slice none 0 0]) ?_ rfl ⟨rfl, _, b7, by rw [hle]; exact o7, C7⟩
      simp [results, Try.func82]
      go_simp
  · go_region_law (first
      | (refine step_append_cut _ (by rfl) (.tmp 20) (.tmp 27) 120 (by rfl) B 38 i0 _ 12 136 Try.underlying120 hi hz0 hz1 hz2 rfl (by decide) g L.length _ k _ (by rfl) rr hk _ _ _ (by rfl) (by omega) (fun _ => (add0 g _).symm) hone hn (by decide) z1 ?_; intro v' w3 hown hgrow hloc; obtain ⟨A3, c3, rfl, _, _⟩ := hown.len; have b3 := bb.grown hgrow (by simp); have k2 := b3.cell 3; have m2 := b3.frozen 3))
    all_goals
      have C3 := CC.grown hgrow (by simp)
      have z0 := (y0.drew).grown hgrow (by simp)
      have z1' := (y1.drew).grown hgrow (by simp)
      have b4 := b3.set_ 3 (.slice A3 (L.length - 1) c3)
      have hne := hown.ne b3 (by decide)
      have o4 := hown.ch ((Ch.refl [l] w3).setCell (p := ⟨l, 3, none⟩) (.inl (by simp)) (.slice A3 (L.length - 1) c3)) (fun q' hq' hm => hne (by rw [List.mem_singleton.1 hm] at hq'; exact hq'))
      have C4 := C3.setCell (p := ⟨l, 3, none⟩) (.inl (by simp)) (.slice A3 (L.length - 1) c3)
      have z4 := z0.far (p := ⟨l, 3, none⟩) hql (.slice A3 (L.length - 1) c3)
      have hq1l : q + 1 ≠ l := fun e => by have := y1.ne_ b1 (by decide); exact this e
      have z5 := z1'.far (p := ⟨l, 3, none⟩) hq1l (.slice A3 (L.length - 1) c3)
      generalize w3.setCell _ _ = w4 at b4 o4 C4 z4 z5 ⊢
      have n0 := z5.cell 0
      have p0 := z4.cell 0
      have n1 := z5.cell 1
      have p1 := z4.cell 1
      have n2 := z5.cell 2
      have p2 := z4.cell 2
      have n3 := z5.cell 3
      have p3 := z4.cell 3
      have n4 := z5.cell 4
      have p4 := z4.cell 4
      have n5 := z5.cell 5
      have p5 := z4.cell 5
      have n6 := z5.cell 6
      have p6 := z4.cell 6
      have n7 := z5.cell 7
      have p7 := z4.cell 7
      have n8 := z5.cell 8
      have p8 := z4.cell 8
      have n9 := z5.cell 9
      have p9 := z4.cell 9
      have n10 := z5.cell 10
      have p10 := z4.cell 10
      have n11 := z5.cell 11
      have p11 := z4.cell 11
      have f0 := z4.frozen 0
      have s0 := z4.set_ 0 (.int .i64 4)
      have f1 := s0.frozen 1
      have s1 := s0.set_ 1 (.int .i64 1)
      have f2 := s1.frozen 2
      have s2 := s1.set_ 2 (.int .i64 x.1)
      have f3 := s2.frozen 3
      have s3 := s2.set_ 3 (.int .i64 x.2)
      have f4 := s3.frozen 4
      have s4 := s3.set_ 4 (.bool false)
      have f5 := s4.frozen 5
      have s5 := s4.set_ 5 (.string ⟨#[]⟩)
      have f6 := s5.frozen 6
      have s6 := s5.set_ 6 (.int .i64 0)
      have f7 := s6.frozen 7
      have s7 := s6.set_ 7 (.int .i64 0)
      have f8 := s7.frozen 8
      have s8 := s7.set_ 8 (.string ⟨#[]⟩)
      have f9 := s8.frozen 9
      have s9 := s8.set_ 9 (.string ⟨#[]⟩)
      have f10 := s9.frozen 10
      have s10 := s9.set_ 10 (.int .i64 0)
      have f11 := s10.frozen 11
      have s11 := s10.set_ 11 (.slice none 0 0)
      have r0' := s11.cell 0
      have r1' := s11.cell 1
      have r2' := s11.cell 2
      have r3' := s11.cell 3
      have r4' := s11.cell 4
      have r5' := s11.cell 5
      have r6' := s11.cell 6
      have r7' := s11.cell 7
      have r8' := s11.cell 8
      have r9' := s11.cell 9
      have r10' := s11.cell 10
      have r11' := s11.cell 11
      simp at n0 p0 n1 p1 n2 p2 n3 p3 n4 p4 n5 p5 n6 p6 n7 p7 n8 p8 n9 p9 n10 p10 n11 p11
      clear z0 z1' C3 hgrow hown k2 m2 b3 y0 y1
      go_wp2_with fail
      have hnq : (Value.slice A3 (L.length - 1) c3).ownBlock ≠ some q := fun hb => by
        have h9 := hloc q hb
        have h10 : w1.drew.heap.size = w1.heap.size := rfl
        omega
      have CQ := ((((((((((((Ch.refl [q] w4).setCell (p := ⟨q, 0, none⟩) (.inl (by simp)) (.int .i64 4)).setCell (p := ⟨q, 1, none⟩) (.inl (by simp)) (.int .i64 1)).setCell (p := ⟨q, 2, none⟩) (.inl (by simp)) (.int .i64 x.1)).setCell (p := ⟨q, 3, none⟩) (.inl (by simp)) (.int .i64 x.2)).setCell (p := ⟨q, 4, none⟩) (.inl (by simp)) (.bool false)).setCell (p := ⟨q, 5, none⟩) (.inl (by simp)) (.string ⟨#[]⟩)).setCell (p := ⟨q, 6, none⟩) (.inl (by simp)) (.int .i64 0)).setCell (p := ⟨q, 7, none⟩) (.inl (by simp)) (.int .i64 0)).setCell (p := ⟨q, 8, none⟩) (.inl (by simp)) (.string ⟨#[]⟩)).setCell (p := ⟨q, 9, none⟩) (.inl (by simp)) (.string ⟨#[]⟩)).setCell (p := ⟨q, 10, none⟩) (.inl (by simp)) (.int .i64 0)).setCell (p := ⟨q, 11, none⟩) (.inl (by simp)) (.slice none 0 0)
      have o7 := o4.ch CQ (fun q' hq' hm => hnq (by rw [List.mem_singleton.1 hm] at hq'; exact hq'))
      have b7 := b4.ch CQ (by simp; exact fun e => hql e.symm)
      have C7 := ((((((((((((C4).setCell (p := ⟨q, 0, none⟩) (.inr (by rw [Hqq.out]; exact Nat.le_refl _)) (.int .i64 4)).setCell (p := ⟨q, 1, none⟩) (.inr (by rw [Hqq.out]; exact Nat.le_refl _)) (.int .i64 1)).setCell (p := ⟨q, 2, none⟩) (.inr (by rw [Hqq.out]; exact Nat.le_refl _)) (.int .i64 x.1)).setCell (p := ⟨q, 3, none⟩) (.inr (by rw [Hqq.out]; exact Nat.le_refl _)) (.int .i64 x.2)).setCell (p := ⟨q, 4, none⟩) (.inr (by rw [Hqq.out]; exact Nat.le_refl _)) (.bool false)).setCell (p := ⟨q, 5, none⟩) (.inr (by rw [Hqq.out]; exact Nat.le_refl _)) (.string ⟨#[]⟩)).setCell (p := ⟨q, 6, none⟩) (.inr (by rw [Hqq.out]; exact Nat.le_refl _)) (.int .i64 0)).setCell (p := ⟨q, 7, none⟩) (.inr (by rw [Hqq.out]; exact Nat.le_refl _)) (.int .i64 0)).setCell (p := ⟨q, 8, none⟩) (.inr (by rw [Hqq.out]; exact Nat.le_refl _)) (.string ⟨#[]⟩)).setCell (p := ⟨q, 9, none⟩) (.inr (by rw [Hqq.out]; exact Nat.le_refl _)) (.string ⟨#[]⟩)).setCell (p := ⟨q, 10, none⟩) (.inr (by rw [Hqq.out]; exact Nat.le_refl _)) (.int .i64 0)).setCell (p := ⟨q, 11, none⟩) (.inr (by rw [Hqq.out]; exact Nat.le_refl _)) (.slice none 0 0)
      rw [hcut] at o7
      have hle : (L.eraseIdx k).length = L.length - 1 := by rw [List.length_eraseIdx, if_pos hk]
      generalize (((((((((((w4.setCell _ _).setCell _ _).setCell _ _).setCell _ _).setCell _ _).setCell _ _).setCell _ _).setCell _ _).setCell _ _).setCell _ _).setCell _ _).setCell _ _ = w7 at o7 b7 C7 r0' r1' r2' r3' r4' r5' r6' r7' r8' r9' r10' r11' ⊢
      simp at r0' r1' r2' r3' r4' r5' r6' r7' r8' r9' r10' r11'
      clear s0 f0 n0 p0 s1 f1 n1 p1 s2 f2 n2 p2 s3 f3 n3 p3 s4 f4 n4 p4 s5 f5 n5 p5 s6 f6 n6 p6 s7 f7 n7 p7 s8 f8 n8 p8 s9 f9 n9 p9 s10 f10 n10 p10 s11 f11 n11 p11 CQ
      refine bodyPost_ret (v := .agg #[.int .i64 4, .int .i64 1, .int .i64 x.1, .int .i64 x.2, .bool false, .string ⟨#[]⟩, .int .i64 0, .int .i64 0, .string ⟨#[]⟩, .string ⟨#[]⟩, .int .i64 0, .slice none 0 0]) ?_ rfl ⟨rfl, _, b7, by rw [hle]; exact o7, C7⟩
      simp [results, Try.func82]
      go_simp
end Go.Proofs.Ytejmcfgmopijkaa
