/- A way of the line: what is at a place leaves. -/
import Derived.Test.YtejmcfgmopijkaaWay
import Derived.IntWalk
namespace Go.Proofs.Ytejmcfgmopijkaa
open Go.RowKit
set_option linter.unusedVariables false
set_option linter.unusedSimpArgs false

section
variable {P : Program} (w : World)
theorem run_append_zero (t ty e : TypeId) (i : TypeInfo) (ht : P.underlying t = some (.slice e)) (hi : P.info? e = some i) (a : Option Addr) (n cap : Nat) (hn : n ≤ cap) (a2 : Option Addr) (c : Nat) :
    (Builtin.append_ #[t, t] ty #[.slice a n cap, .slice a2 0 c]).run P w = .ok (.slice a n cap) w := by
  cases a <;> cases a2 <;> simp [Builtin.append_, run_underlying ht, sizeOf, typeInfo, hi, Builtin.lenOf, Builtin.firstCells, hn, storeCells, loadCells, loadCellsFrom]
/-- 'append(l[:k:k], l[k+1:]...)'. -/
theorem run_append_cut (base : Nat) (t ty e : TypeId) (i : TypeInfo) (z : Value) (size bytes : Nat) (ht : P.underlying t = some (.slice e)) (hi : P.info? e = some i) (hz : i.zero = some z)
    (hsize : i.size = size) (hby : i.bytes = bytes) (hzs : z.cells.size = size) (hsz : 0 < size)
    (g n cap k : Nat) (xs : List Value) (hown : RowW w base e size (.slice (some ⟨g, 0, none⟩) n cap) n xs) (hk : k < n) (a2 : Addr) (c : Nat) (ha2 : k + 1 < n → a2 = (⟨g, 0, none⟩ : Addr).add ((k + 1) * size)) (h1 : ∀ u ∈ xs, u.oneCell' = true)
    (h63 : n ≤ 64) (hb : bytes ≤ 1000) (hbase : base ≤ w.heap.size) :
    ∃ v' w', (Builtin.append_ #[t, t] ty #[.slice (some ⟨g, 0, none⟩) k k, .slice (some a2) (n - (k + 1)) c]).run P w = .ok v' w' ∧ RowW w' base e size v' (n - 1) (xs.take (k * size) ++ xs.drop ((k + 1) * size)) ∧ w.grownBy w' none ∧ ∀ b, v'.ownBlock = some b → b = g ∨ w.heap.size ≤ b := by
  have hlx : xs.length = n * size := by
    rcases hown with h | h
    · exact h.1
    · exact h.1
  have hkn : k * size ≤ n * size := Nat.mul_le_mul_right _ (by omega)
  have hcell : ∀ j u, xs[j]? = some u → w.cell? ⟨g, j, none⟩ = some u := fun j u hu => by
    obtain ⟨g', cap', he, hc⟩ := hown.cell hu
    injection he with e1
    injection e1 with e1
    injection e1 with e1
    subst e1
    exact hc
  have hadd : ∀ j, (⟨g, 0, none⟩ : Addr).add j = ⟨g, j, none⟩ := fun j => by unfold Addr.add; split <;> simp_all
  have hlo : (xs.take (k * size)).length = k * size := by rw [List.length_take]; omega
  have hbl : ∃ cur, Blk w g e cur ∧ n * size ≤ cur.size ∧ cur.toList.take (n * size) = xs := by
    rcases hown with h | ⟨_, _, g', cur, he, _, hb, h3, h4⟩
    · rcases own_form h with ⟨he, _⟩ | ⟨gv, cap', cur, he, _, hb, h1, _, h2, h3⟩
      · cases he
      · injection he with e1 _ e3
        injection e1 with e1
        injection e1 with e1
        subst e1 e3
        exact ⟨cur, hb, by rw [h2]; exact Nat.mul_le_mul_right _ h1, h3⟩
    · injection he with e1
      injection e1 with e1
      injection e1 with e1
      subst e1
      exact ⟨cur, hb, h3, h4⟩
  by_cases hlast : k + 1 < n
  · have hl2 : (xs.drop ((k + 1) * size)).length = (n - (k + 1)) * size := by rw [List.length_drop, hlx, Nat.sub_mul]
    obtain ⟨v', w', hrun, h5, h6⟩ := run_append_arg_grows (P := P) w t ty e i z size bytes ht hi hz hsize hby hzs hsz ⟨g, 0, none⟩ k k (xs.take (k * size)) hlo (fun j u hj => by
        rw [hadd]
        refine hcell j u ?_
        rw [List.getElem?_take] at hj
        split at hj
        · exact hj
        · cases hj) a2 (n - (k + 1)) c (xs.drop ((k + 1) * size)) hl2 (fun j u hj => by
        rw [ha2 hlast, add_of_add, hadd]
        refine hcell _ u ?_
        rw [List.getElem?_drop] at hj
        exact hj) (by omega) (by unfold maxLen; omega) (by
          have : (k + (n - (k + 1))) * bytes ≤ 64 * 1000 := Nat.mul_le_mul (by omega) hb
          omega)
    refine ⟨v', w', hrun, .inl ?_, h6, fun b hb' => .inr (h5.lt b hb').1⟩
    have e1 : k + (n - (k + 1)) = n - 1 := by omega
    rw [e1] at h5
    refine ⟨h5.1, ?_⟩
    rcases h5.2 with h7 | ⟨g', cap', cur', hv, hb', h8⟩
    · exact .inl h7
    · exact .inr ⟨g', cap', cur', hv, Nat.le_trans hbase hb', h8⟩
  · have e0 : n - (k + 1) = 0 := by omega
    have e1 : n = k + 1 := by omega
    have e2 : xs.drop ((k + 1) * size) = [] := List.drop_eq_nil_of_le (by rw [hlx, e1]; exact Nat.le_refl _)
    obtain ⟨cur, hb2, h3, h4⟩ := hbl
    refine ⟨.slice (some ⟨g, 0, none⟩) k k, w, by rw [e0]; exact run_append_zero w t ty e i ht hi _ k k (Nat.le_refl _) _ c, .inr ?_, World.grownBy.refl w _, fun b hb' => .inl (by simpa [Value.ownBlock] using hb'.symm)⟩
    rw [e2, List.append_nil, show n - 1 = k by omega]
    refine ⟨hlo, by unfold maxLen; omega, g, cur, rfl, (hown.blocks g rfl).1, hb2, by omega, ?_⟩
    rw [← h4, List.take_take, Nat.min_eq_left hkn]
theorem step_append_cut {ops : Array Oper} {o : Oper} {a : Act} {K : Act → World → Prop} {Q : Exit → Act → World → Prop} {E : Prop} (hgd : o.guard = none) (s x : Operand) (t : TypeId)
    (ho : o.op = .call { callee := .builtin .append, args := #[s, x], argTypes := #[t, t] })
    (base : Nat) (e : TypeId) (i : TypeInfo) (z : Value) (size bytes : Nat) (ht : P.underlying t = some (.slice e)) (hi : P.info? e = some i) (hz : i.zero = some z)
    (hsize : i.size = size) (hby : i.bytes = bytes) (hzs : z.cells.size = size) (hsz : 0 < size)
    (g n cap k : Nat) (xs : List Value) (hs : a.eval s = .slice (some ⟨g, 0, none⟩) k k) (hown : RowW w base e size (.slice (some ⟨g, 0, none⟩) n cap) n xs) (hk : k < n) (a2 : Addr) (m c : Nat) (hx : a.eval x = .slice (some a2) m c) (hm : m = n - (k + 1)) (ha2 : k + 1 < n → a2 = (⟨g, 0, none⟩ : Addr).add ((k + 1) * size)) (h1 : ∀ u ∈ xs, u.oneCell' = true)
    (h63 : n ≤ 64) (hb : bytes ≤ 1000) (hbase : base ≤ w.heap.size)
    (h : ∀ v' w', RowW w' base e size v' (n - 1) (xs.take (k * size) ++ xs.drop ((k + 1) * size)) → w.grownBy w' none → (∀ b, v'.ownBlock = some b → b = g ∨ w.heap.size ≤ b) → K (a.put o.dst v') w') :
    if Region.wanted o (yielded ops a.tmps) = true then Oper.wp P o a w K Q else E := by
  subst hm
  have hw : Region.wanted o (yielded ops a.tmps) = true := by simp [Region.wanted, hgd]
  rw [if_pos hw]
  obtain ⟨v', w', hrun, h2, h3, h4⟩ := run_append_cut (P := P) w base t o.type e i z size bytes ht hi hz hsize hby hzs hsz g n cap k xs hown hk a2 c ha2 h1 h63 hb hbase
  unfold Oper.wp execOp
  simp only [ho, resolve, invoke, builtin, Sem.run_bind, Sem.run_pure, Result.andThen_ok, List.map_toArray, List.map_cons, List.map_nil, hs, hx, hrun]
  exact h v' w' h2 h3 h4
end

theorem add0 (g j : Nat) : (⟨g, 0, none⟩ : Addr).add j = ⟨g, j, none⟩ := by unfold Addr.add; split <;> simp_all
theorem itm_one (L : List Itm) : ∀ u ∈ itmCells L, u.oneCell' = true := fun u hu => by
  simp only [itmCells, List.mem_flatMap] at hu
  obtain ⟨x, _, hx⟩ := hu
  simp at hx
  rcases hx with rfl | rfl <;> rfl
theorem itmCells_cut (L : List Itm) {k : Nat} (hk : k < L.length) : (itmCells L).take (k * 2) ++ (itmCells L).drop ((k + 1) * 2) = itmCells (L.eraseIdx k) := by
  induction L generalizing k with
  | nil => simp at hk
  | cons x L ih =>
    cases k with
    | zero => simp [itmCells]
    | succ k =>
      have := ih (k := k) (by simpa using hk)
      rw [List.eraseIdx_cons_succ]
      show _ = [.int .i64 x.1, .string x.2] ++ itmCells (L.eraseIdx k)
      rw [← this]
      show List.take ((k + 1) * 2) ([Value.int .i64 x.1, .string x.2] ++ itmCells L) ++ List.drop ((k + 1 + 1) * 2) ([Value.int .i64 x.1, .string x.2] ++ itmCells L) = _
      rw [show (k + 1) * 2 = k * 2 + 2 by omega, show (k + 1 + 1) * 2 = (k + 1) * 2 + 2 by omega]
      simp
      omega

set_option maxHeartbeats 4000000 in
set_option maxRecDepth 100000 in
theorem cut_item (B l : Nat) (cs : Array Value) (v : Value) (L : List Itm) (k : Nat) (w : World) (hlB : B ≤ l) (hl : Blk w l 124 cs) (hv : cs[2]? = some v) (hr : RowW w B 76 2 v L.length (itmCells L)) (hBw : B ≤ w.heap.size) (hn : L.length ≤ 64) (hk : k < L.length) :
    Calls Try.prog 79 #[.pointer (some ⟨l, 2, none⟩), .int .i64 k] w fun r w' => r = .returned (.agg #[.int .i64 L[k].1, .string L[k].2]) ∧ ∃ v', Blk w' l 124 (cs.setIfInBounds 2 v') ∧ RowW w' B 76 2 v' (L.eraseIdx k).length (itmCells (L.eraseIdx k)) ∧ Ch [l] w w' := by
  obtain ⟨i0, hi, hz0, hz1, hz2⟩ := info_parts info76
  obtain ⟨e1, e2⟩ := itmCells_get L k _ (List.getElem?_eq_getElem hk)
  have hgl : ∀ b, v.ownBlock = some b → b < w.heap.size := fun b hb => by
    obtain ⟨_, cur, hc⟩ := hr.blocks b hb
    exact hc.lt
  have b0 := hl.alloc (.cells #[.int .i64 0, .string ⟨#[]⟩] 76)
  have r0 := hr.alloc (.cells #[.int .i64 0, .string ⟨#[]⟩] 76)
  have x0 := Blk.new w 76 #[.int .i64 0, .string ⟨#[]⟩]
  have C0 : Ch [l] w (w.alloc (.cells #[.int .i64 0, .string ⟨#[]⟩] 76)) := (Ch.refl _ _).alloc _
  obtain ⟨g, cap, rfl, c0⟩ := r0.cell e1
  obtain ⟨g', cap', he, c1⟩ := r0.cell e2
  injection he with he _ he3
  injection he with he
  injection he with he
  subst he he3
  obtain ⟨A', c', he', hLc, _⟩ := r0.len
  injection he' with he1 _ he2
  subst he1 he2
  have hkc : k ≤ cap := by omega
  have hkc1 : k + 1 ≤ cap := by omega
  have hgw : g < w.heap.size := hgl g rfl
  clear hgl
  have hcut := itmCells_cut L hk
  have hone := itm_one L
  have a2 := (b0.cell 2).trans hv
  have hkl : (k : Int) < (L.length : Int) := by omega
  have hk0 : 0 ≤ (k : Int) := by omega
  generalize L[k] = x at c0 c1 ⊢
  clear e1 e2 hl hr
  go_enter Try.func79, Try.ntmps79
  go_wp2_with fail
  have b1 := b0.alloc (.cells #[.int .i64 x.1, .string x.2] 76)
  have r1 := r0.alloc (.cells #[.int .i64 x.1, .string x.2] 76)
  have y0 := x0.alloc (.cells #[.int .i64 x.1, .string x.2] 76)
  have y1 := Blk.new (w.alloc (.cells #[.int .i64 0, .string ⟨#[]⟩] 76)) 76 #[.int .i64 x.1, .string x.2]
  have C1 := C0.alloc (.cells #[.int .i64 x.1, .string x.2] 76)
  have hq : w.heap.size < w.heap.size + 1 := by omega
  rw [show (w.alloc (.cells #[.int .i64 0, .string ⟨#[]⟩] 76)).heap.size = w.heap.size + 1 by simp] at y1
  generalize (w.alloc _).alloc _ = w1 at b1 r1 y0 y1 C1 ⊢
  have hwl : l < w1.heap.size := b1.lt
  have hql : w.heap.size ≠ l := fun e => by have := x0.ne_ b0 (by decide); exact this e
  generalize hqq : w.heap.size = q at x0 y0 y1 hq hql hBw hgw ⊢
  have hqw : q < w1.heap.size := y0.lt
  have Hqq := Lib.hid hqq
  clear hqq
  clear b0 r0 x0 C0 a2 c0 c1
  have a2 := (b1.cell 2).trans hv
  have z1 : B ≤ w1.drew.heap.size := Nat.le_trans (Nat.le_trans hlB (Nat.le_of_lt hwl)) (Nat.le_refl _)
  have v1 : IntKind.i64.wrap ((k : Int) + 1) = k + 1 := IntWalk.i64_in _ (by omega)
  have v2 : ((k : Int) + 1).toNat = k + 1 := by omega
  have v3 : 0 ≤ (k : Int) + 1 := by omega
  have v4 : (k : Int) + 1 ≤ (L.length : Int) := by omega
  have bb := b1.drew
  have rr := r1.drew
  have CC := C1.drew
  by_cases hcap : cap = k + 1
  · subst hcap
    have v5 : (k : Int) ≤ (k : Int) + 1 := by omega
    go_region_law (first
      | (refine step_append_cut _ (by rfl) (.tmp 20) (.tmp 27) 61 (by rfl) B 76 i0 _ 2 24 Try.underlying61 hi hz0 hz1 hz2 rfl (by decide) g L.length _ k _ (by rfl) rr hk _ _ _ (by rfl) (by omega) (fun h => by omega) hone hn (by decide) z1 ?_; intro v' w3 hown hgrow hloc; obtain ⟨A3, c3, rfl, _, _⟩ := hown.len; have b3 := bb.grown hgrow (by simp); have k2 := b3.cell 2; have m2 := b3.frozen 2))
    all_goals
      have C3 := CC.grown hgrow (by simp)
      have z0 := (y0.drew).grown hgrow (by simp)
      have z1' := (y1.drew).grown hgrow (by simp)
      have b4 := b3.set_ 2 (.slice A3 (L.length - 1) c3)
      have hne := hown.ne b3 (by decide)
      have o4 := hown.ch ((Ch.refl [l] w3).setCell (p := ⟨l, 2, none⟩) (.inl (by simp)) (.slice A3 (L.length - 1) c3)) (fun q' hq' hm => hne (by rw [List.mem_singleton.1 hm] at hq'; exact hq'))
      have C4 := C3.setCell (p := ⟨l, 2, none⟩) (.inl (by simp)) (.slice A3 (L.length - 1) c3)
      have z4 := z0.far (p := ⟨l, 2, none⟩) hql (.slice A3 (L.length - 1) c3)
      have hq1l : q + 1 ≠ l := fun e => by have := y1.ne_ b1 (by decide); exact this e
      have z5 := z1'.far (p := ⟨l, 2, none⟩) hq1l (.slice A3 (L.length - 1) c3)
      generalize w3.setCell _ _ = w4 at b4 o4 C4 z4 z5 ⊢
      have n0 := z5.cell 0
      have n1 := z5.cell 1
      have p0 := z4.cell 0
      have p1 := z4.cell 1
      have f0 := z4.frozen 0
      have z6 := z4.set_ 0 (.int .i64 x.1)
      have f1 := z6.frozen 1
      have z7 := z6.set_ 1 (.string x.2)
      have r0' := z7.cell 0
      have r1' := z7.cell 1
      simp at n0 n1 p0 p1
      clear z0 z1' C3 hgrow hown k2 m2 b3 y0 y1
      go_wp2_with fail
      have hnq : (Value.slice A3 (L.length - 1) c3).ownBlock ≠ some q := fun hb => by
        have h9 := hloc q hb
        have h10 : w1.drew.heap.size = w1.heap.size := rfl
        omega
      have CQ := ((Ch.refl [q] w4).setCell (p := ⟨q, 0, none⟩) (.inl (by simp)) (.int .i64 x.1)).setCell (p := ⟨q, 1, none⟩) (.inl (by simp)) (.string x.2)
      have o7 := o4.ch CQ (fun q' hq' hm => hnq (by rw [List.mem_singleton.1 hm] at hq'; exact hq'))
      have b7 := b4.ch CQ (by simp; exact fun e => hql e.symm)
      have C7 := (C4.setCell (p := ⟨q, 0, none⟩) (.inr (by rw [Hqq.out]; exact Nat.le_refl _)) (.int .i64 x.1)).setCell (p := ⟨q, 1, none⟩) (.inr (by rw [Hqq.out]; exact Nat.le_refl _)) (.string x.2)
      rw [hcut] at o7
      have hle : (L.eraseIdx k).length = L.length - 1 := by rw [List.length_eraseIdx, if_pos hk]
      generalize (w4.setCell _ _).setCell _ _ = w7 at o7 b7 C7 r0' r1' ⊢
      simp at r0' r1'
      clear z6 z7 f0 f1 n0 n1 p0 p1 CQ
      refine bodyPost_ret (v := .agg #[.int .i64 x.1, .string x.2]) ?_ rfl ⟨rfl, _, b7, by rw [hle]; exact o7, C7⟩
      simp [results, Try.func79]
      go_simp
  · go_region_law (first
      | (refine step_append_cut _ (by rfl) (.tmp 20) (.tmp 27) 61 (by rfl) B 76 i0 _ 2 24 Try.underlying61 hi hz0 hz1 hz2 rfl (by decide) g L.length _ k _ (by rfl) rr hk _ _ _ (by rfl) (by omega) (fun _ => (add0 g _).symm) hone hn (by decide) z1 ?_; intro v' w3 hown hgrow hloc; obtain ⟨A3, c3, rfl, _, _⟩ := hown.len; have b3 := bb.grown hgrow (by simp); have k2 := b3.cell 2; have m2 := b3.frozen 2))
    all_goals
      have C3 := CC.grown hgrow (by simp)
      have z0 := (y0.drew).grown hgrow (by simp)
      have z1' := (y1.drew).grown hgrow (by simp)
      have b4 := b3.set_ 2 (.slice A3 (L.length - 1) c3)
      have hne := hown.ne b3 (by decide)
      have o4 := hown.ch ((Ch.refl [l] w3).setCell (p := ⟨l, 2, none⟩) (.inl (by simp)) (.slice A3 (L.length - 1) c3)) (fun q' hq' hm => hne (by rw [List.mem_singleton.1 hm] at hq'; exact hq'))
      have C4 := C3.setCell (p := ⟨l, 2, none⟩) (.inl (by simp)) (.slice A3 (L.length - 1) c3)
      have z4 := z0.far (p := ⟨l, 2, none⟩) hql (.slice A3 (L.length - 1) c3)
      have hq1l : q + 1 ≠ l := fun e => by have := y1.ne_ b1 (by decide); exact this e
      have z5 := z1'.far (p := ⟨l, 2, none⟩) hq1l (.slice A3 (L.length - 1) c3)
      generalize w3.setCell _ _ = w4 at b4 o4 C4 z4 z5 ⊢
      have n0 := z5.cell 0
      have n1 := z5.cell 1
      have p0 := z4.cell 0
      have p1 := z4.cell 1
      have f0 := z4.frozen 0
      have z6 := z4.set_ 0 (.int .i64 x.1)
      have f1 := z6.frozen 1
      have z7 := z6.set_ 1 (.string x.2)
      have r0' := z7.cell 0
      have r1' := z7.cell 1
      simp at n0 n1 p0 p1
      clear z0 z1' C3 hgrow hown k2 m2 b3 y0 y1
      go_wp2_with fail
      have hnq : (Value.slice A3 (L.length - 1) c3).ownBlock ≠ some q := fun hb => by
        have h9 := hloc q hb
        have h10 : w1.drew.heap.size = w1.heap.size := rfl
        omega
      have CQ := ((Ch.refl [q] w4).setCell (p := ⟨q, 0, none⟩) (.inl (by simp)) (.int .i64 x.1)).setCell (p := ⟨q, 1, none⟩) (.inl (by simp)) (.string x.2)
      have o7 := o4.ch CQ (fun q' hq' hm => hnq (by rw [List.mem_singleton.1 hm] at hq'; exact hq'))
      have b7 := b4.ch CQ (by simp; exact fun e => hql e.symm)
      have C7 := (C4.setCell (p := ⟨q, 0, none⟩) (.inr (by rw [Hqq.out]; exact Nat.le_refl _)) (.int .i64 x.1)).setCell (p := ⟨q, 1, none⟩) (.inr (by rw [Hqq.out]; exact Nat.le_refl _)) (.string x.2)
      rw [hcut] at o7
      have hle : (L.eraseIdx k).length = L.length - 1 := by rw [List.length_eraseIdx, if_pos hk]
      generalize (w4.setCell _ _).setCell _ _ = w7 at o7 b7 C7 r0' r1' ⊢
      simp at r0' r1'
      clear z6 z7 f0 f1 n0 n1 p0 p1 CQ
      refine bodyPost_ret (v := .agg #[.int .i64 x.1, .string x.2]) ?_ rfl ⟨rfl, _, b7, by rw [hle]; exact o7, C7⟩
      simp [results, Try.func79]
      go_simp
end Go.Proofs.Ytejmcfgmopijkaa
