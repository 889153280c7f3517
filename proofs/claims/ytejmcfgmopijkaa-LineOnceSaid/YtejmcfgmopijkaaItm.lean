/- The sender's items: the texts under way of which it is so, with their numbers. -/
import Derived.Test.YtejmcfgmopijkaaSnd3
import Derived.IntWalk
namespace Go.Proofs.Ytejmcfgmopijkaa
open Go.RowKit
set_option linter.unusedVariables false

abbrev Itm := Int × ByteArray
def itmCells (L : List Itm) : List Value := L.flatMap fun x => [.int .i64 x.1, .string x.2]
theorem itmCells_len (L : List Itm) : (itmCells L).length = L.length * 2 := by
  induction L with
  | nil => rfl
  | cons x L ih => simp [itmCells] at ih ⊢; omega
theorem itmCells_append (L M : List Itm) : itmCells (L ++ M) = itmCells L ++ itmCells M := by simp [itmCells]
theorem itmCells_get (L : List Itm) : ∀ (i : Nat) (x : Itm), L[i]? = some x → (itmCells L)[i * 2]? = some (.int .i64 x.1) ∧ (itmCells L)[i * 2 + 1]? = some (.string x.2) := by
  induction L with
  | nil => simp
  | cons y L ih =>
    intro i x hx
    cases i with
    | zero => simp at hx; subst hx; simp [itmCells]
    | succ i =>
      have := ih i x (by simpa using hx)
      have e1 : (i + 1) * 2 = i * 2 + 1 + 1 := by omega
      rw [e1]
      simpa [itmCells] using this

/-- The items of a list of texts, the first of which has number g + 1. -/
def itemsOf (p : Txt → Bool) (g : Int) : List Txt → List Itm
  | [] => []
  | x :: T => (if p x then [(g + 1, x.1)] else []) ++ itemsOf p (g + 1) T
theorem itemsOf_snoc (p : Txt → Bool) (x : Txt) : ∀ (T : List Txt) (g : Int), itemsOf p g (T ++ [x]) = itemsOf p g T ++ (if p x then [(g + T.length + 1, x.1)] else []) := by
  intro T
  induction T with
  | nil => intro g; simp [itemsOf]
  | cons y T ih =>
    intro g
    have e : g + 1 + (T.length : Int) + 1 = g + ((y :: T).length : Int) + 1 := by simp; omega
    simp only [List.cons_append, itemsOf, ih, e, List.append_assoc]
theorem itemsOf_len (p : Txt → Bool) : ∀ (T : List Txt) (g : Int), (itemsOf p g T).length ≤ T.length := by
  intro T
  induction T with
  | nil => intro g; simp [itemsOf]
  | cons y T ih =>
    intro g
    have := ih (g + 1)
    unfold itemsOf
    split <;> simp <;> omega

/-- A row of items in memory of the call's own comes back; nothing that was there has turned. -/
def ItemsRet (e : TypeId) (L : List Itm) (w : World) (r : Ending) (w' : World) : Prop := ∃ v', r = .returned v' ∧ w'.ownsRow w.heap.size e 2 v' L.length (itmCells L) ∧ Ch [] w w'

theorem due1_c (q : Nat) (again : Bool) (x : Txt) (w : World) (hq : Blk w q 4 #[.bool again]) :
    Calls Try.prog 71 #[.agg #[.string x.1, .bool x.2], .pointer (some ⟨q, 0, none⟩)] w fun r w' => r = .returned (.bool (again || !x.2)) ∧ Ch [] w w' := by
  obtain ⟨s, b⟩ := x
  have q0 := (hq.alloc (.cells #[.string s, .bool b] 114)).cell 0
  simp at q0
  cases again <;> cases b <;>
  · go_enter Try.func71, Try.ntmps71
    go_wp2_with fail
    go_ret
    exact ⟨rfl, (Ch.refl _ _).alloc _⟩
theorem under1_c (x : Txt) (w : World) :
    Calls Try.prog 74 #[.agg #[.string x.1, .bool x.2]] w fun r w' => r = .returned (.bool true) ∧ Ch [] w w' := by
  obtain ⟨s, b⟩ := x
  go_enter Try.func74, Try.ntmps74
  go_wp2_with fail
  go_ret
  exact ⟨rfl, (Ch.refl _ _).alloc _⟩

theorem info76 : (Try.prog.info? 76).map (fun i => (i.zero, i.size, i.bytes)) = some (some (.agg #[.int .i64 0, .string ⟨#[]⟩]), 2, 24) := by kernel_rfl

set_option maxHeartbeats 2000000 in
set_option maxRecDepth 100000 in
theorem items_under (B g : Nat) (ep win wait cr gone last : Int) (T : List Txt) (v : Value) (w : World) (h : SndV w B g ep win wait cr T gone last v) (hb : SndB win wait cr T gone last) :
    Calls Try.prog 70 #[.pointer (some ⟨g, 0, none⟩), .func (.func 74) #[] #[]] w (ItemsRet 76 (itemsOf (fun _ : Txt => true) gone T) w) := by
  obtain ⟨i0, hi, hz0, hz1, hz2⟩ := info_parts info76
  have hg1 := hb.g1
  have hg2 := hb.g2
  have hT := hb.n2
  obtain ⟨A, cap, hv⟩ := h.len
  subst hv
  have h4 := h.b.cell 4
  simp at h4
  clear hb
  go_enter Try.func70, Try.ntmps70
  go_wp2_with fail
  go_loopw [5, 14] (fun o i wr => ∃ k : Nat, i = .int .i64 k ∧ k ≤ T.length ∧ wr.ownsRow w.heap.size 76 2 o (itemsOf (fun _ : Txt => true) gone (T.take k)).length (itmCells (itemsOf (fun _ : Txt => true) gone (T.take k))) ∧ Ch [] w wr) (fun _ i _ => T.length - (intOf i).toNat)
  case atStart => exact ⟨0, rfl, Nat.zero_le _, World.ownsRow_nil _ _ _ _, Ch.refl _ _⟩
  case round =>
    obtain ⟨k, rfl, hk, hown, hC⟩ := hrel
    by_cases hlt : k < T.length
    · have hx : T[k]? = some T[k] := List.getElem?_eq_getElem hlt
      have hts : itemsOf (fun _ : Txt => true) gone (T.take (k + 1)) = itemsOf (fun _ : Txt => true) gone (T.take k) ++ (if (fun _ : Txt => true) T[k] then [(gone + k + 1, T[k].1)] else []) := by
        rw [List.take_succ_eq_append_getElem hlt, itemsOf_snoc, List.length_take, Nat.min_eq_left (by omega)]
      have hl := itemsOf_len (fun _ : Txt => true) (T.take k) gone
      have hl2 : (T.take k).length ≤ 1000 := by simp; omega
      obtain ⟨e1, e2⟩ := txtCells_get T k _ hx
      have hr := own_ch h.r hC (by simp)
      obtain ⟨gv, cap', he, _, _, _, _, hcells, _⟩ := own_at hr (by omega)
      injection he with hA _ hcp
      subst hA hcp
      have c0 := hcells _ _ e1
      have c1 := hcells _ _ e2
      have bb := h.b.ch hC (by simp)
      generalize T[k] = x at hts c0 c1
      have Hts := Lib.hid hts
      have zN := hC.size
      have xD := Blk.new wr 114 #[.string x.1, .bool x.2]
      have xC := (Ch.refl [] wr).alloc (.cells #[.string x.1, .bool x.2] 114)
      clear hts hx e1 e2 hr hcells hl2 h
      go_wp2_with fail
      generalize wr.alloc _ = w1 at xD xC ⊢
      generalize wr.heap.size = xb at xD ⊢
      refine (under1_c x w1).mono ?_
      rintro r w2 ⟨rfl, C2⟩
      have C3 : Ch [] w w2 := (hC.trans xC).trans C2
      have b3 := bb.ch (xC.trans C2) (by simp)
      have x3 := xD.ch C2 (by simp)
      have o3 := own_ch hown (xC.trans C2) (by simp)
      have k5 := b3.cell 5
      have y0 := x3.cell 0
      simp at k5 y0
      clear c0 c1 bb hown xC C2 xD hC
      generalize hL : (itemsOf (fun _ : Txt => true) gone (T.take k)) = L at o3 hl
      have HL := Lib.hid hL
      clear hL
      have hLk : L.length ≤ 1000 := by have := List.length_take_le k T; omega
      have oo := own_drew (o3.alloc (.cells #[.int .i64 (gone + k + 1), .string x.1] 76))
      have rr := Reads.of_blk (size := 2) (n := 1) (Blk.new w2 76 #[.int .i64 (gone + k + 1), .string x.1]).drew rfl
      have cc := (C3.alloc (.cells #[.int .i64 (gone + k + 1), .string x.1] 76)).drew
      have b4 := (b3.alloc (.cells #[.int .i64 (gone + k + 1), .string x.1] 76)).drew
      have x4 := (x3.alloc (.cells #[.int .i64 (gone + k + 1), .string x.1] 76)).drew
      have s1 : L.length + 1 ≤ maxLen := by unfold maxLen; omega
      have s2 : (L.length + 1) * 24 ≤ 140737488355328 := by omega
      have s3 : w.heap.size ≤ (w2.alloc (.cells #[.int .i64 (gone + k + 1), .string x.1] 76)).drew.heap.size := cc.size
      have e6 : IntKind.i64.wrap (gone + (k : Int)) = gone + k := IntWalk.i64_in _ (by omega)
      have e7 : IntKind.i64.wrap (gone + (k : Int) + 1) = gone + k + 1 := IntWalk.i64_in _ (by omega)
      go_wp2_with fail
      go_region_held3 (fun w' => w'.cell? ⟨g, 5, none⟩ = some (.int .i64 gone) ∧ w'.cell? ⟨xb, 0, none⟩ = some (.string x.1)) (first | exact ⟨kk5, yy0⟩ | go_keep) ((refine step_append_any _ (by rfl) (.tmp 22) (.tmp 34) 61 (by rfl) w.heap.size 76 i0 _ 2 24 Try.underlying61 hi hz0 hz1 hz2 rfl (by decide) _ _ _ (by rfl) oo _ _ 1 1 _ (by rfl) rr (by simp [Value.oneCell']) s1 s2 s3 ?_; intro v' w5 hown5 hgrow hblk; have kk5 := (b4.grown hgrow (own_ne oo b4 (by decide))).cell 5; have yy0 := (x4.grown hgrow (own_ne oo x4 (by decide))).cell 0; simp at kk5 yy0; have C5 := cc.grown hgrow (fun q hq => .inr (oo.lt q hq).1)))
      clear e6 e7
      go_wp2_with fail
      go_roundw
      case rel => exact ⟨k + 1, by simp, by omega, by rw [Hts.out, HL.out, if_pos trivial, List.length_append, itmCells_append]; exact hown5, C5⟩
      case measure => simp [intOf]; omega
    · have hk2 : k = T.length := by omega
      subst hk2
      have e1 : (T.take T.length) = T := List.take_length
      rw [e1] at hown
      have hret : ItemsRet 76 (itemsOf (fun _ : Txt => true) gone T) w (.returned u5) wr := ⟨u5, rfl, hown, hC⟩
      have Hret := Lib.hid hret
      clear hret e1 hown h
      go_wp2_with fail
      go_ret
      exact Hret.out

set_option maxHeartbeats 2000000 in
set_option maxRecDepth 100000 in
theorem items_due (B g : Nat) (ep win wait cr gone last : Int) (T : List Txt) (v : Value) (w : World) (h : SndV w B g ep win wait cr T gone last v) (hb : SndB win wait cr T gone last) (q : Nat) (again : Bool) (hq : Blk w q 4 #[.bool again]) :
    Calls Try.prog 70 #[.pointer (some ⟨g, 0, none⟩), .func (.func 71) #[] #[.pointer (some ⟨q, 0, none⟩)]] w (ItemsRet 76 (itemsOf (fun x : Txt => again || !x.2) gone T) w) := by
  obtain ⟨i0, hi, hz0, hz1, hz2⟩ := info_parts info76
  have hg1 := hb.g1
  have hg2 := hb.g2
  have hT := hb.n2
  obtain ⟨A, cap, hv⟩ := h.len
  subst hv
  have h4 := h.b.cell 4
  simp at h4
  clear hb
  go_enter Try.func70, Try.ntmps70
  go_wp2_with fail
  go_loopw [5, 14] (fun o i wr => ∃ k : Nat, i = .int .i64 k ∧ k ≤ T.length ∧ wr.ownsRow w.heap.size 76 2 o (itemsOf (fun x : Txt => again || !x.2) gone (T.take k)).length (itmCells (itemsOf (fun x : Txt => again || !x.2) gone (T.take k))) ∧ Ch [] w wr) (fun _ i _ => T.length - (intOf i).toNat)
  case atStart => exact ⟨0, rfl, Nat.zero_le _, World.ownsRow_nil _ _ _ _, Ch.refl _ _⟩
  case round =>
    obtain ⟨k, rfl, hk, hown, hC⟩ := hrel
    by_cases hlt : k < T.length
    · have hx : T[k]? = some T[k] := List.getElem?_eq_getElem hlt
      have hts : itemsOf (fun x : Txt => again || !x.2) gone (T.take (k + 1)) = itemsOf (fun x : Txt => again || !x.2) gone (T.take k) ++ (if (fun x : Txt => again || !x.2) T[k] then [(gone + k + 1, T[k].1)] else []) := by
        rw [List.take_succ_eq_append_getElem hlt, itemsOf_snoc, List.length_take, Nat.min_eq_left (by omega)]
      have hl := itemsOf_len (fun x : Txt => again || !x.2) (T.take k) gone
      have hl2 : (T.take k).length ≤ 1000 := by simp; omega
      obtain ⟨e1, e2⟩ := txtCells_get T k _ hx
      have hr := own_ch h.r hC (by simp)
      obtain ⟨gv, cap', he, _, _, _, _, hcells, _⟩ := own_at hr (by omega)
      injection he with hA _ hcp
      subst hA hcp
      have c0 := hcells _ _ e1
      have c1 := hcells _ _ e2
      have bb := h.b.ch hC (by simp)
      have qq := hq.ch hC (by simp)
      generalize T[k] = x at hts c0 c1
      have Hts := Lib.hid hts
      have zN := hC.size
      have xD := Blk.new wr 114 #[.string x.1, .bool x.2]
      have xC := (Ch.refl [] wr).alloc (.cells #[.string x.1, .bool x.2] 114)
      clear hts hx e1 e2 hr hcells hl2 h
      go_wp2_with fail
      generalize wr.alloc _ = w1 at xD xC ⊢
      generalize wr.heap.size = xb at xD ⊢
      have q1 := qq.ch xC (by simp)
      refine (due1_c q again x w1 q1).mono ?_
      rintro r w2 ⟨rfl, C2⟩
      have C3 : Ch [] w w2 := (hC.trans xC).trans C2
      have b3 := bb.ch (xC.trans C2) (by simp)
      have x3 := xD.ch C2 (by simp)
      have o3 := own_ch hown (xC.trans C2) (by simp)
      have k5 := b3.cell 5
      have y0 := x3.cell 0
      simp at k5 y0
      clear c0 c1 bb hown xC C2 xD hC qq q1
      by_cases hp : (again || !x.2) = true
      · rw [hp]
        generalize hL : (itemsOf (fun x : Txt => again || !x.2) gone (T.take k)) = L at o3 hl
        have HL := Lib.hid hL
        clear hL
        have hLk : L.length ≤ 1000 := by have := List.length_take_le k T; omega
        have oo := own_drew (o3.alloc (.cells #[.int .i64 (gone + k + 1), .string x.1] 76))
        have rr := Reads.of_blk (size := 2) (n := 1) (Blk.new w2 76 #[.int .i64 (gone + k + 1), .string x.1]).drew rfl
        have cc := (C3.alloc (.cells #[.int .i64 (gone + k + 1), .string x.1] 76)).drew
        have b4 := (b3.alloc (.cells #[.int .i64 (gone + k + 1), .string x.1] 76)).drew
        have x4 := (x3.alloc (.cells #[.int .i64 (gone + k + 1), .string x.1] 76)).drew
        have s1 : L.length + 1 ≤ maxLen := by unfold maxLen; omega
        have s2 : (L.length + 1) * 24 ≤ 140737488355328 := by omega
        have s3 : w.heap.size ≤ (w2.alloc (.cells #[.int .i64 (gone + k + 1), .string x.1] 76)).drew.heap.size := cc.size
        have e6 : IntKind.i64.wrap (gone + (k : Int)) = gone + k := IntWalk.i64_in _ (by omega)
        have e7 : IntKind.i64.wrap (gone + (k : Int) + 1) = gone + k + 1 := IntWalk.i64_in _ (by omega)
        go_wp2_with fail
        go_region_held3 (fun w' => w'.cell? ⟨g, 5, none⟩ = some (.int .i64 gone) ∧ w'.cell? ⟨xb, 0, none⟩ = some (.string x.1)) (first | exact ⟨kk5, yy0⟩ | go_keep) ((refine step_append_any _ (by rfl) (.tmp 22) (.tmp 34) 61 (by rfl) w.heap.size 76 i0 _ 2 24 Try.underlying61 hi hz0 hz1 hz2 rfl (by decide) _ _ _ (by rfl) oo _ _ 1 1 _ (by rfl) rr (by simp [Value.oneCell']) s1 s2 s3 ?_; intro v' w5 hown5 hgrow hblk; have kk5 := (b4.grown hgrow (own_ne oo b4 (by decide))).cell 5; have yy0 := (x4.grown hgrow (own_ne oo x4 (by decide))).cell 0; simp at kk5 yy0; have C5 := cc.grown hgrow (fun q hq => .inr (oo.lt q hq).1)))
        clear e6 e7
        go_wp2_with fail
        go_roundw
        case rel => exact ⟨k + 1, by simp, by omega, by rw [Hts.out, HL.out, if_pos (show (fun x : Txt => again || !x.2) x = true from hp), List.length_append, itmCells_append]; exact hown5, C5⟩
        case measure => simp [intOf]; omega
      · rw [Bool.not_eq_true] at hp
        rw [hp]
        go_wp2_with fail
        go_roundw
        case rel => exact ⟨k + 1, by simp, by omega, by rw [Hts.out, if_neg (by show ¬ (again || !x.2) = true; rw [hp]; simp), List.append_nil]; exact o3, C3⟩
        case measure => simp [intOf]; omega
    · have hk2 : k = T.length := by omega
      subst hk2
      have e1 : (T.take T.length) = T := List.take_length
      rw [e1] at hown
      have hret : ItemsRet 76 (itemsOf (fun x : Txt => again || !x.2) gone T) w (.returned u5) wr := ⟨u5, rfl, hown, hC⟩
      have Hret := Lib.hid hret
      clear hret e1 hown h
      go_wp2_with fail
      go_ret
      exact Hret.out
end Go.Proofs.Ytejmcfgmopijkaa
