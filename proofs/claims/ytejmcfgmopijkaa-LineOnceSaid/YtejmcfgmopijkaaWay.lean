/- A way of the line: a row that is owned, or that is full and lies in a wider block ('cut' of the last place leaves one); appending to it. -/
import Derived.Test.YtejmcfgmopijkaaSm
import Derived.Test.YtejmcfgmopijkaaAck
import Derived.ArgAppend
namespace Go.Proofs.Ytejmcfgmopijkaa
open Go.RowKit
set_option linter.unusedVariables false
set_option linter.unusedSimpArgs false

def RowW (w : World) (B : Nat) (e : TypeId) (size : Nat) (v : Value) (n : Nat) (xs : List Value) : Prop :=
  w.ownsRow B e size v n xs ∨ (xs.length = n * size ∧ n ≤ maxLen ∧ ∃ g cur, v = .slice (some ⟨g, 0, none⟩) n n ∧ B ≤ g ∧ Blk w g e cur ∧ n * size ≤ cur.size ∧ cur.toList.take (n * size) = xs)

section
variable {w w' : World} {B size n : Nat} {e : TypeId} {v : Value} {xs : List Value}
theorem RowW.nil (w : World) (B : Nat) (e : TypeId) (size : Nat) : RowW w B e size (.slice none 0 0) 0 [] := .inl (World.ownsRow_nil _ _ _ _)
theorem RowW.len (h : RowW w B e size v n xs) : ∃ A cap, v = .slice A n cap ∧ n ≤ cap ∧ cap ≤ maxLen := by
  rcases h with h | ⟨_, hm, g, cur, rfl, _⟩
  · rcases own_form h with ⟨rfl, rfl, _⟩ | ⟨gv, cap, cur, rfl, _, _, h1, h2, _⟩
    · exact ⟨none, 0, rfl, Nat.le_refl _, Nat.zero_le _⟩
    · exact ⟨_, cap, rfl, h1, h2⟩
  · exact ⟨_, n, rfl, Nat.le_refl _, hm⟩
theorem RowW.blocks (h : RowW w B e size v n xs) : ∀ k, v.ownBlock = some k → B ≤ k ∧ ∃ cur, Blk w k e cur := by
  intro k hk
  rcases h with h | ⟨_, _, g, cur, rfl, hB, hb, _⟩
  · rcases own_form h with ⟨rfl, _⟩ | ⟨gv, cap, cur, rfl, hB, hb, _⟩
    · simp [Value.ownBlock] at hk
    · simp [Value.ownBlock] at hk; subst hk; exact ⟨hB, _, hb⟩
  · simp [Value.ownBlock] at hk; subst hk; exact ⟨hB, _, hb⟩
theorem RowW.ch {S : List Nat} (h : RowW w B e size v n xs) (c : Ch S w w') (hS : ∀ k, v.ownBlock = some k → k ∉ S) : RowW w' B e size v n xs := by
  rcases h with h | ⟨h1, h2, g, cur, rfl, hB, hb, h3, h4⟩
  · exact .inl (own_ch h c hS)
  · exact .inr ⟨h1, h2, g, cur, rfl, hB, hb.ch c (hS g rfl), h3, h4⟩
theorem RowW.alloc (h : RowW w B e size v n xs) (o : Obj) : RowW (w.alloc o) B e size v n xs := h.ch ((Ch.refl [] w).alloc o) (by simp)
theorem RowW.drew (h : RowW w B e size v n xs) : RowW w.drew B e size v n xs := h.ch ((Ch.refl [] w).drew) (by simp)
theorem RowW.drewN (h : RowW w B e size v n xs) (k : Nat) : RowW (w.drewN k) B e size v n xs := h.ch ((Ch.refl [] w).drewN k) (by simp)
theorem RowW.chB {B' : Nat} {Ts : List TypeId} (h : RowW w B e size v n xs) (c : ChB B' Ts w w') (ht : e ∉ Ts) : RowW w' B e size v n xs := by
  rcases h with h | ⟨h1, h2, g, cur, rfl, hB, hb, h3, h4⟩
  · exact .inl (own_chB h c ht)
  · exact .inr ⟨h1, h2, g, cur, rfl, hB, hb.chB c ht, h3, h4⟩
/-- A cell of the row. -/
theorem RowW.cell (h : RowW w B e size v n xs) {i : Nat} {u : Value} (hi : xs[i]? = some u) : ∃ g cap, v = .slice (some ⟨g, 0, none⟩) n cap ∧ w.cell? ⟨g, i, none⟩ = some u := by
  rcases h with h | ⟨h1, h2, g, cur, rfl, hB, hb, h3, h4⟩
  · have hn : 0 < n := by
      rcases Nat.eq_zero_or_pos n with rfl | h0
      · have := h.1; simp at this; subst this; simp at hi
      · exact h0
    obtain ⟨gv, cap, rfl, _, _, _, _, hc, _⟩ := own_at h hn
    exact ⟨gv, cap, rfl, hc i u hi⟩
  · refine ⟨g, n, rfl, ?_⟩
    rw [hb.cell i]
    rw [← h4, List.getElem?_take] at hi
    split at hi
    · simpa using hi
    · cases hi
theorem RowW.ne {cs : Array Value} {g : Nat} {t : TypeId} (h : RowW w B e size v n xs) (hb : Blk w g t cs) (hne : e ≠ t) : v.ownBlock ≠ some g := fun hk => by
  obtain ⟨_, cur, hc⟩ := h.blocks g hk
  exact hc.ne_ hb hne rfl
end

section
variable {P : Program} (w : World)
theorem run_append_way (base : Nat) (t ty e : TypeId) (i : TypeInfo) (z : Value) (size bytes : Nat) (ht : P.underlying t = some (.slice e)) (hi : P.info? e = some i) (hz : i.zero = some z)
    (hsize : i.size = size) (hby : i.bytes = bytes) (hzs : z.cells.size = size) (hsz : 0 < size)
    (v : Value) (n : Nat) (xs : List Value) (hown : RowW w base e size v n xs)
    (ad : Addr) (m c : Nat) (news : List Value) (hl : news.length = m * size) (hnews : ∀ j u, news[j]? = some u → w.cell? (ad.add j) = some u) (h1 : ∀ u ∈ news, u.oneCell' = true)
    (hm : 0 < m) (h63 : n + m ≤ maxLen) (hbytes : (n + m) * bytes ≤ 140737488355328) (hbase : base ≤ w.heap.size) :
    ∃ v' w', (Builtin.append_ #[t, t] ty #[v, .slice (some ad) m c]).run P w = .ok v' w' ∧ w'.ownsRow base e size v' (n + m) (xs ++ news) ∧ w.grownBy w' v.ownBlock ∧ ∀ b, v'.ownBlock = some b → v.ownBlock = some b ∨ w.heap.size ≤ b := by
  rcases hown with hown | ⟨hlx, _, g, cur, rfl, hB, hb, h3, h4⟩
  · obtain ⟨v', w', hrun, h2, h3, _, h5⟩ := run_append_own_at (P := P) w base t ty e i z size bytes ht hi hz hsize hby hzs hsz v n xs hown ad m c news hl hnews h1 h63 hbytes hbase
    refine ⟨v', w', hrun, h2, h3, fun b hb => ?_⟩
    rcases h5 with h5 | h5
    · exact .inl (by rw [← h5]; exact hb)
    · rw [h5] at hb; injection hb with hb; exact .inr (by omega)
  · obtain ⟨v', w', hrun, h5, h6⟩ := run_append_arg_grows (P := P) w t ty e i z size bytes ht hi hz hsize hby hzs hsz ⟨g, 0, none⟩ n n xs hlx (fun j u hj => by
      have hadd : (⟨g, 0, none⟩ : Addr).add j = ⟨g, j, none⟩ := by unfold Addr.add; split <;> simp_all
      rw [hadd, hb.cell j]
      rw [← h4, List.getElem?_take] at hj
      split at hj
      · simpa using hj
      · cases hj) ad m c news hl hnews (by omega) h63 hbytes
    refine ⟨v', w', hrun, ⟨h5.1, ?_⟩, ⟨h6.os, h6.tape, h6.output, h6.size, fun k hk _ => h6.block k hk (by simp)⟩, fun b hb => .inr (h5.lt b hb).1⟩
    rcases h5.2 with h7 | ⟨g', cap, cur', hv, hb', h8⟩
    · exact .inl h7
    · exact .inr ⟨g', cap, cur', hv, Nat.le_trans hbase hb', h8⟩
theorem step_append_way {ops : Array Oper} {o : Oper} {a : Act} {K : Act → World → Prop} {Q : Exit → Act → World → Prop} {E : Prop} (hgd : o.guard = none) (s x : Operand) (t : TypeId)
    (ho : o.op = .call { callee := .builtin .append, args := #[s, x], argTypes := #[t, t] })
    (base : Nat) (e : TypeId) (i : TypeInfo) (z : Value) (size bytes : Nat) (ht : P.underlying t = some (.slice e)) (hi : P.info? e = some i) (hz : i.zero = some z)
    (hsize : i.size = size) (hby : i.bytes = bytes) (hzs : z.cells.size = size) (hsz : 0 < size)
    (v : Value) (n : Nat) (xs : List Value) (hs : a.eval s = v) (hown : RowW w base e size v n xs)
    (ad : Addr) (m c : Nat) (news : List Value) (hx : a.eval x = .slice (some ad) m c) (hl : news.length = m * size) (hnews : ∀ j u, news[j]? = some u → w.cell? (ad.add j) = some u) (h1 : ∀ u ∈ news, u.oneCell' = true)
    (hm : 0 < m) (h63 : n + m ≤ maxLen) (hbytes : (n + m) * bytes ≤ 140737488355328) (hbase : base ≤ w.heap.size)
    (h : ∀ v' w', w'.ownsRow base e size v' (n + m) (xs ++ news) → w.grownBy w' v.ownBlock → (∀ b, v'.ownBlock = some b → v.ownBlock = some b ∨ w.heap.size ≤ b) → K (a.put o.dst v') w') :
    if Region.wanted o (yielded ops a.tmps) = true then Oper.wp P o a w K Q else E := by
  have hw : Region.wanted o (yielded ops a.tmps) = true := by simp [Region.wanted, hgd]
  rw [if_pos hw]
  obtain ⟨v', w', hrun, h2, h3, h4⟩ := run_append_way (P := P) w base t o.type e i z size bytes ht hi hz hsize hby hzs hsz v n xs hown ad m c news hl hnews h1 hm h63 hbytes hbase
  unfold Oper.wp execOp
  simp only [ho, resolve, invoke, builtin, Sem.run_bind, Sem.run_pure, Result.andThen_ok, List.map_toArray, List.map_cons, List.map_nil, hs, hx, hrun]
  exact h v' w' h2 h3 h4
end

theorem info38 : (Try.prog.info? 38).map (fun i => (i.zero, i.size, i.bytes)) = some (some (.agg frame0), 12, 136) := by kernel_rfl

/-- One more on a way, if there is room. -/
def putL {α : Type} (L : List α) (x : α) : List α := if L.length < 64 then L ++ [x] else L
theorem putL_len {α : Type} (L : List α) (x : α) (h : L.length ≤ 64) : (putL L x).length ≤ 64 := by
  unfold putL
  split
  · rw [List.length_append]; simp; omega
  · omega
theorem set_same {cs : Array Value} {i : Nat} {v : Value} (h : cs[i]? = some v) : cs.setIfInBounds i v = cs := by
  apply Array.ext_getElem?
  intro j
  rw [Array.getElem?_setIfInBounds]
  split
  · rename_i e
    subst e
    split
    · exact h.symm
    · rw [Array.getElem?_eq_none (by omega)]
  · rfl

/-- An ack on the way back: how many came, and the credit. -/
abbrev Frm := Int × Int
def frm (x : Frm) : Array Value := #[.int .i64 4, .int .i64 1, .int .i64 x.1, .int .i64 x.2, .bool false, .string ⟨#[]⟩, .int .i64 0, .int .i64 0, .string ⟨#[]⟩, .string ⟨#[]⟩, .int .i64 0, .slice none 0 0]
def frmCells (L : List Frm) : List Value := L.flatMap fun x => (frm x).toList
theorem frmCells_append (L M : List Frm) : frmCells (L ++ M) = frmCells L ++ frmCells M := by simp [frmCells]

set_option maxHeartbeats 4000000 in
set_option maxRecDepth 100000 in
theorem put_item_at (B l : Nat) (cs : Array Value) (v : Value) (L : List Itm) (x : Itm) (w : World) (hlB : B ≤ l) (hl : Blk w l 124 cs) (hv : cs[2]? = some v) (hr : RowW w B 76 2 v L.length (itmCells L)) (hBw : B ≤ w.heap.size) (hn : L.length ≤ 64) :
    Calls Try.prog 83 #[.pointer (some ⟨l, 2, none⟩), .agg #[.int .i64 x.1, .string x.2]] w fun r w' => r = .returned (.tuple #[]) ∧ ∃ v', Blk w' l 124 (cs.setIfInBounds 2 v') ∧ RowW w' B 76 2 v' (putL L x).length (itmCells (putL L x)) ∧ Ch (l :: v.ownBlock.toList) w w' ∧ ∀ b, v'.ownBlock = some b → v.ownBlock = some b ∨ w.heap.size ≤ b := by
  obtain ⟨i0, hi, hz0, hz1, hz2⟩ := info_parts info76
  obtain ⟨s, t⟩ := x
  obtain ⟨A, cap, rfl, _, _⟩ := hr.len
  have b0 := hl.alloc (.cells #[.int .i64 s, .string t] 76)
  have r0 := hr.alloc (.cells #[.int .i64 s, .string t] 76)
  have x0 := Blk.new w 76 #[.int .i64 s, .string t]
  have C0 : Ch (l :: (Value.slice A L.length cap).ownBlock.toList) w (w.alloc (.cells #[.int .i64 s, .string t] 76)) := (Ch.refl _ _).alloc _
  have z0 : B ≤ (w.alloc (.cells #[.int .i64 s, .string t] 76)).heap.size := by simp; omega
  have hL64 : putL L (s, t) = if L.length < 64 then L ++ [(s, t)] else L := rfl
  have HP := Lib.hid hL64
  clear hL64
  have a2 := (b0.cell 2).trans hv
  by_cases h64 : L.length < 64
  · have h65 : (L.length : Int) < 64 := by omega
    go_enter Try.func83, Try.ntmps83
    go_wp2_with fail
    generalize w.alloc _ = w1 at b0 r0 x0 C0 z0 a2 ⊢
    generalize w.heap.size = x at x0 ⊢
    have y0 : w1.cell? ⟨x, 0, none⟩ = some (.int .i64 s) := x0.cell 0
    have y1 : w1.cell? ⟨x, 1, none⟩ = some (.string t) := x0.cell 1
    clear x0 hr hl
    have z2 : B ≤ (w1.alloc (.cells #[.int .i64 s, .string t] 76)).drew.heap.size := by simp; omega
    have hT1 : L.length + 1 ≤ maxLen := by unfold maxLen; omega
    have hT2 : (L.length + 1) * 24 ≤ 140737488355328 := by omega
    have bb := (b0.alloc (.cells #[.int .i64 s, .string t] 76)).drew
    have rr := (r0.alloc (.cells #[.int .i64 s, .string t] 76)).drew
    have xx := World.news_of_block (Blk.new w1 76 #[.int .i64 s, .string t]).drew
    have CC := (C0.alloc (.cells #[.int .i64 s, .string t] 76)).drew
    have q2 := ((b0.alloc (.cells #[.int .i64 s, .string t] 76)).cell 2).trans hv
    go_region_law (first
      | (refine step_append_way _ (by rfl) (.tmp 14) (.tmp 16) 61 (by rfl) B 76 i0 _ 2 24 Try.underlying61 hi hz0 hz1 hz2 rfl (by decide) _ _ _ (by rfl) rr _ 1 1 _ (by rfl) (by rfl) xx (by simp [Value.oneCell']) (by decide) hT1 hT2 z2 ?_; intro v' w3 hown hgrow hloc; have b3 := bb.grown hgrow (fun e => rr.ne bb (by decide) e.symm); have C3 := CC.grown hgrow (fun k hk => .inl (by simp [hk])); obtain ⟨gv, cap', rfl, hgB, hglt, _, _, _, _⟩ := own_at hown (by omega); have k2 := b3.cell 2; have m2 := b3.frozen 2))
    all_goals
      have b4 := b3.set_ 2 (.slice (some ⟨gv, 0, none⟩) (L.length + 1) cap')
      have hne := own_ne hown b3 (by decide)
      have o4 := own_ch hown ((Ch.refl [l] w3).setCell (p := ⟨l, 2, none⟩) (.inl (by simp)) (.slice (some ⟨gv, 0, none⟩) (L.length + 1) cap')) (fun k hk hm => hne (by rw [List.mem_singleton.1 hm] at hk; exact hk.symm))
      have C4 := C3.setCell (p := ⟨l, 2, none⟩) (.inl (by simp)) (.slice (some ⟨gv, 0, none⟩) (L.length + 1) cap')
      go_step
      go_end0
      exact ⟨rfl, _, b4, by rw [HP.out, if_pos h64, List.length_append, itmCells_append]; exact .inl (by simpa [itmCells] using o4), C4, fun b hb => (hloc b hb).imp id (fun h9 => Nat.le_trans CC.size h9)⟩
  · have h65 : ¬ (L.length : Int) < 64 := by omega
    go_enter Try.func83, Try.ntmps83
    go_wp2_with fail
    go_end0
    exact ⟨rfl, .slice A L.length cap, by rw [set_same hv]; exact b0, by rw [HP.out, if_neg h64]; exact r0, C0, fun b hb => .inl hb⟩
theorem put_item (B l : Nat) (cs : Array Value) (v : Value) (L : List Itm) (x : Itm) (w : World) (hlB : B ≤ l) (hl : Blk w l 124 cs) (hv : cs[2]? = some v) (hr : RowW w B 76 2 v L.length (itmCells L)) (hBw : B ≤ w.heap.size) (hn : L.length ≤ 64) :
    Calls Try.prog 83 #[.pointer (some ⟨l, 2, none⟩), .agg #[.int .i64 x.1, .string x.2]] w fun r w' => r = .returned (.tuple #[]) ∧ ∃ v', Blk w' l 124 (cs.setIfInBounds 2 v') ∧ RowW w' B 76 2 v' (putL L x).length (itmCells (putL L x)) ∧ Ch (l :: v.ownBlock.toList) w w' :=
  (put_item_at B l cs v L x w hlB hl hv hr hBw hn).mono fun _ _ ⟨h1, v', h2, h3, h4, _⟩ => ⟨h1, v', h2, h3, h4⟩

set_option maxHeartbeats 4000000 in
set_option maxRecDepth 100000 in
theorem put_frame_at (B l : Nat) (cs : Array Value) (v : Value) (L : List Frm) (x : Frm) (w : World) (hlB : B ≤ l) (hl : Blk w l 124 cs) (hv : cs[3]? = some v) (hr : RowW w B 38 12 v L.length (frmCells L)) (hBw : B ≤ w.heap.size) (hn : L.length ≤ 64) :
    Calls Try.prog 88 #[.pointer (some ⟨l, 3, none⟩), .agg (frm x)] w fun r w' => r = .returned (.tuple #[]) ∧ ∃ v', Blk w' l 124 (cs.setIfInBounds 3 v') ∧ RowW w' B 38 12 v' (putL L x).length (frmCells (putL L x)) ∧ Ch (l :: v.ownBlock.toList) w w' ∧ ∀ b, v'.ownBlock = some b → v.ownBlock = some b ∨ w.heap.size ≤ b := by
  obtain ⟨i0, hi, hz0, hz1, hz2⟩ := info_parts info38
  obtain ⟨s, t⟩ := x
  simp only [frm]
  obtain ⟨A, cap, rfl, _, _⟩ := hr.len
  have b0 := hl.alloc (.cells #[.int .i64 4, .int .i64 1, .int .i64 s, .int .i64 t, .bool false, .string ⟨#[]⟩, .int .i64 0, .int .i64 0, .string ⟨#[]⟩, .string ⟨#[]⟩, .int .i64 0, .slice none 0 0] 38)
  have r0 := hr.alloc (.cells #[.int .i64 4, .int .i64 1, .int .i64 s, .int .i64 t, .bool false, .string ⟨#[]⟩, .int .i64 0, .int .i64 0, .string ⟨#[]⟩, .string ⟨#[]⟩, .int .i64 0, .slice none 0 0] 38)
  have x0 := Blk.new w 38 #[.int .i64 4, .int .i64 1, .int .i64 s, .int .i64 t, .bool false, .string ⟨#[]⟩, .int .i64 0, .int .i64 0, .string ⟨#[]⟩, .string ⟨#[]⟩, .int .i64 0, .slice none 0 0]
  have C0 : Ch (l :: (Value.slice A L.length cap).ownBlock.toList) w (w.alloc (.cells #[.int .i64 4, .int .i64 1, .int .i64 s, .int .i64 t, .bool false, .string ⟨#[]⟩, .int .i64 0, .int .i64 0, .string ⟨#[]⟩, .string ⟨#[]⟩, .int .i64 0, .slice none 0 0] 38)) := (Ch.refl _ _).alloc _
  have z0 : B ≤ (w.alloc (.cells #[.int .i64 4, .int .i64 1, .int .i64 s, .int .i64 t, .bool false, .string ⟨#[]⟩, .int .i64 0, .int .i64 0, .string ⟨#[]⟩, .string ⟨#[]⟩, .int .i64 0, .slice none 0 0] 38)).heap.size := by simp; omega
  have hL64 : putL L (s, t) = if L.length < 64 then L ++ [(s, t)] else L := rfl
  have HP := Lib.hid hL64
  clear hL64
  have a2 := (b0.cell 3).trans hv
  by_cases h64 : L.length < 64
  · have h65 : (L.length : Int) < 64 := by omega
    go_enter Try.func88, Try.ntmps88
    go_wp2_with fail
    generalize w.alloc _ = w1 at b0 r0 x0 C0 z0 a2 ⊢
    generalize w.heap.size = x at x0 ⊢
    have y0 : w1.cell? ⟨x, 0, none⟩ = some (.int .i64 4) := x0.cell 0
    have y1 : w1.cell? ⟨x, 1, none⟩ = some (.int .i64 1) := x0.cell 1
    have y2 : w1.cell? ⟨x, 2, none⟩ = some (.int .i64 s) := x0.cell 2
    have y3 : w1.cell? ⟨x, 3, none⟩ = some (.int .i64 t) := x0.cell 3
    have y4 : w1.cell? ⟨x, 4, none⟩ = some (.bool false) := x0.cell 4
    have y5 : w1.cell? ⟨x, 5, none⟩ = some (.string ⟨#[]⟩) := x0.cell 5
    have y6 : w1.cell? ⟨x, 6, none⟩ = some (.int .i64 0) := x0.cell 6
    have y7 : w1.cell? ⟨x, 7, none⟩ = some (.int .i64 0) := x0.cell 7
    have y8 : w1.cell? ⟨x, 8, none⟩ = some (.string ⟨#[]⟩) := x0.cell 8
    have y9 : w1.cell? ⟨x, 9, none⟩ = some (.string ⟨#[]⟩) := x0.cell 9
    have y10 : w1.cell? ⟨x, 10, none⟩ = some (.int .i64 0) := x0.cell 10
    have y11 : w1.cell? ⟨x, 11, none⟩ = some (.slice none 0 0) := x0.cell 11
    clear x0 hr hl
    have z2 : B ≤ (w1.alloc (.cells #[.int .i64 4, .int .i64 1, .int .i64 s, .int .i64 t, .bool false, .string ⟨#[]⟩, .int .i64 0, .int .i64 0, .string ⟨#[]⟩, .string ⟨#[]⟩, .int .i64 0, .slice none 0 0] 38)).drew.heap.size := by simp; omega
    have hT1 : L.length + 1 ≤ maxLen := by unfold maxLen; omega
    have hT2 : (L.length + 1) * 136 ≤ 140737488355328 := by omega
    have bb := (b0.alloc (.cells #[.int .i64 4, .int .i64 1, .int .i64 s, .int .i64 t, .bool false, .string ⟨#[]⟩, .int .i64 0, .int .i64 0, .string ⟨#[]⟩, .string ⟨#[]⟩, .int .i64 0, .slice none 0 0] 38)).drew
    have rr := (r0.alloc (.cells #[.int .i64 4, .int .i64 1, .int .i64 s, .int .i64 t, .bool false, .string ⟨#[]⟩, .int .i64 0, .int .i64 0, .string ⟨#[]⟩, .string ⟨#[]⟩, .int .i64 0, .slice none 0 0] 38)).drew
    have xx := World.news_of_block (Blk.new w1 38 #[.int .i64 4, .int .i64 1, .int .i64 s, .int .i64 t, .bool false, .string ⟨#[]⟩, .int .i64 0, .int .i64 0, .string ⟨#[]⟩, .string ⟨#[]⟩, .int .i64 0, .slice none 0 0]).drew
    have CC := (C0.alloc (.cells #[.int .i64 4, .int .i64 1, .int .i64 s, .int .i64 t, .bool false, .string ⟨#[]⟩, .int .i64 0, .int .i64 0, .string ⟨#[]⟩, .string ⟨#[]⟩, .int .i64 0, .slice none 0 0] 38)).drew
    have q2 := ((b0.alloc (.cells #[.int .i64 4, .int .i64 1, .int .i64 s, .int .i64 t, .bool false, .string ⟨#[]⟩, .int .i64 0, .int .i64 0, .string ⟨#[]⟩, .string ⟨#[]⟩, .int .i64 0, .slice none 0 0] 38)).cell 3).trans hv
    go_region_law (first
      | (refine step_append_way _ (by rfl) (.tmp 14) (.tmp 16) 120 (by rfl) B 38 i0 _ 12 136 Try.underlying120 hi hz0 hz1 hz2 rfl (by decide) _ _ _ (by rfl) rr _ 1 1 _ (by rfl) (by rfl) xx (by simp [Value.oneCell']) (by decide) hT1 hT2 z2 ?_; intro v' w3 hown hgrow hloc; have b3 := bb.grown hgrow (fun e => rr.ne bb (by decide) e.symm); have C3 := CC.grown hgrow (fun k hk => .inl (by simp [hk])); obtain ⟨gv, cap', rfl, hgB, hglt, _, _, _, _⟩ := own_at hown (by omega); have k2 := b3.cell 3; have m2 := b3.frozen 3))
    all_goals
      have b4 := b3.set_ 3 (.slice (some ⟨gv, 0, none⟩) (L.length + 1) cap')
      have hne := own_ne hown b3 (by decide)
      have o4 := own_ch hown ((Ch.refl [l] w3).setCell (p := ⟨l, 3, none⟩) (.inl (by simp)) (.slice (some ⟨gv, 0, none⟩) (L.length + 1) cap')) (fun k hk hm => hne (by rw [List.mem_singleton.1 hm] at hk; exact hk.symm))
      have C4 := C3.setCell (p := ⟨l, 3, none⟩) (.inl (by simp)) (.slice (some ⟨gv, 0, none⟩) (L.length + 1) cap')
      go_step
      go_end0
      exact ⟨rfl, _, b4, by rw [HP.out, if_pos h64, List.length_append, frmCells_append]; exact .inl (by simpa [frmCells, frm] using o4), C4, fun b hb => (hloc b hb).imp id (fun h9 => Nat.le_trans CC.size h9)⟩
  · have h65 : ¬ (L.length : Int) < 64 := by omega
    go_enter Try.func88, Try.ntmps88
    go_wp2_with fail
    go_end0
    exact ⟨rfl, .slice A L.length cap, by rw [set_same hv]; exact b0, by rw [HP.out, if_neg h64]; exact r0, C0, fun b hb => .inl hb⟩
theorem put_frame (B l : Nat) (cs : Array Value) (v : Value) (L : List Frm) (x : Frm) (w : World) (hlB : B ≤ l) (hl : Blk w l 124 cs) (hv : cs[3]? = some v) (hr : RowW w B 38 12 v L.length (frmCells L)) (hBw : B ≤ w.heap.size) (hn : L.length ≤ 64) :
    Calls Try.prog 88 #[.pointer (some ⟨l, 3, none⟩), .agg (frm x)] w fun r w' => r = .returned (.tuple #[]) ∧ ∃ v', Blk w' l 124 (cs.setIfInBounds 3 v') ∧ RowW w' B 38 12 v' (putL L x).length (frmCells (putL L x)) ∧ Ch (l :: v.ownBlock.toList) w w' :=
  (put_frame_at B l cs v L x w hlB hl hv hr hBw hn).mono fun _ _ ⟨h1, v', h2, h3, h4, _⟩ => ⟨h1, v', h2, h3, h4⟩

end Go.Proofs.Ytejmcfgmopijkaa
