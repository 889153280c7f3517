/- The sender's Due and Under: what is to be sent, and what is under way. -/
import Derived.Test.YtejmcfgmopijkaaItm
import Derived.Test.YtejmcfgmopijkaaReg
import Derived.Laws.OwnMore
namespace Go.Proofs.Ytejmcfgmopijkaa
open Go.RowKit
set_option linter.unusedVariables false
set_option linter.unusedSimpArgs false

theorem own_len {w : World} {base e size n : Nat} {v : Value} {xs : List Value} (h : w.ownsRow base e size v n xs) : ∃ A cap, v = .slice A n cap ∧ n ≤ cap := by
  rcases own_form h with ⟨rfl, h0, _⟩ | ⟨gv, cap, _, rfl, _, _, hc, _⟩
  · exact ⟨none, 0, by rw [h0], by omega⟩
  · exact ⟨_, cap, rfl, hc⟩

theorem sunder_v (B g : Nat) (ep win wait cr gone last : Int) (T : List Txt) (v : Value) (w : World) (h : SndV w B g ep win wait cr T gone last v) (hb : SndB win wait cr T gone last) :
    Calls Try.prog 43 #[.pointer (some ⟨g, 0, none⟩)] w (ItemsRet 76 (itemsOf (fun _ : Txt => true) gone T) w) := by
  have c1 := items_under B g ep win wait cr gone last T v w h hb
  have C1 := Lib.hid c1
  clear c1 h hb
  go_enter Try.func43, Try.ntmps43
  go_wp2_with fail
  refine C1.out.mono ?_
  rintro r w1 ⟨v', rfl, ho, hC⟩
  have hret : ItemsRet 76 (itemsOf (fun _ : Txt => true) gone T) w (.returned v') w1 := ⟨v', rfl, ho, hC⟩
  have Hret := Lib.hid hret
  clear hret ho
  go_wp2_with fail
  go_ret
  exact Hret.out

/-- The first k texts are marked as sent. -/
def markN (k : Nat) (T : List Txt) : List Txt := (T.take k).map (fun x => (x.1, true)) ++ T.drop k
theorem markN_len (k : Nat) (T : List Txt) : (markN k T).length = T.length := by simp [markN]; omega
theorem markN_all (T : List Txt) : markN T.length T = T.map fun x => (x.1, true) := by simp [markN]
theorem markN_zero (T : List Txt) : markN 0 T = T := by simp [markN]
theorem markN_get (k : Nat) (T : List Txt) (h : k < T.length) : (markN k T)[k]? = some T[k] := by
  unfold markN
  rw [List.getElem?_append_right (by simp; omega)]
  simp [Nat.min_eq_left (Nat.le_of_lt h), h]
theorem markN_succ (k : Nat) (T : List Txt) (h : k < T.length) : (markN k T).set k (T[k].1, true) = markN (k + 1) T := by
  apply List.ext_getElem?
  intro i
  rw [List.getElem?_set]
  unfold markN
  by_cases hi : k = i
  · subst hi
    rw [if_pos rfl, if_pos (by simp; omega), List.getElem?_append_left (by simp; omega)]
    simp [h]
  · rw [if_neg hi]
    by_cases hlt : i < k
    · rw [List.getElem?_append_left (by simp; omega), List.getElem?_append_left (by simp; omega)]
      simp [hlt, show i < k + 1 by omega]
    · rw [List.getElem?_append_right (by simp; omega), List.getElem?_append_right (by simp; omega)]
      simp only [List.getElem?_drop, List.length_map, List.length_take]
      congr 1
      omega
theorem txtCells_set (T : List Txt) : ∀ (k : Nat) (x : Txt) (b : Bool), T[k]? = some x → (txtCells T).set (k * 2 + 1) (.bool b) = txtCells (T.set k (x.1, b)) := by
  induction T with
  | nil => simp
  | cons y T ih =>
    intro k x b hx
    cases k with
    | zero => simp at hx; subst hx; simp [txtCells]
    | succ k =>
      have := ih k x b (by simpa using hx)
      have e1 : (k + 1) * 2 + 1 = (k * 2 + 1) + 1 + 1 := by omega
      rw [e1]
      simpa [txtCells] using this

/-- Whether all are due again. -/
def againB (wait last now : Int) (T : List Txt) : Bool := decide (wait ≤ now - last) && (match T with | [] => false | x :: _ => x.2)
def dueL (wait last gone now : Int) (T : List Txt) : List Itm := itemsOf (fun x : Txt => againB wait last (max now last) T || !x.2) gone T
def dueT (wait last gone now : Int) (T : List Txt) : List Txt := if dueL wait last gone now T = [] then T else T.map fun x => (x.1, true)
def dueLast (wait last gone now : Int) (T : List Txt) : Int := if dueL wait last gone now T = [] then last else max now last

def DueRet (B g : Nat) (ep win wait cr gone last now : Int) (T : List Txt) (w : World) (r : Ending) (w' : World) : Prop :=
  ∃ v', r = .returned v' ∧ w'.ownsRow w.heap.size 76 2 v' (dueL wait last gone now T).length (itmCells (dueL wait last gone now T)) ∧ SndI w' B g ep win wait cr (dueT wait last gone now T) gone (dueLast wait last gone now T) ∧ ChB B [111, 114] w w'

theorem own_base {w w0 : World} {base e size n : Nat} {v : Value} {xs : List Value} (h : w.ownsRow base e size v n xs) (hb : w0.heap.size ≤ base) : w.ownsRow w0.heap.size e size v n xs := by
  refine ⟨h.1, ?_⟩
  rcases h.2 with hn | ⟨g, cap, cur, hv, hb', rest⟩
  · exact .inl hn
  · exact .inr ⟨g, cap, cur, hv, by omega, rest⟩
/-- Rows of two types lie in two blocks. -/
theorem own_two {w : World} {b1 b2 e1 e2 s1 s2 n1 n2 : Nat} {v1 v2 : Value} {xs ys : List Value} (h : w.ownsRow b1 e1 s1 v1 n1 xs) (k : w.ownsRow b2 e2 s2 v2 n2 ys) (hne : e1 ≠ e2) : ∀ q, v1.ownBlock = some q → v2.ownBlock = some q → False := by
  intro q h1 h2
  rcases own_form h with ⟨rfl, _, _⟩ | ⟨gv, cap, cur, rfl, _, hb, _⟩
  · simp [Value.ownBlock] at h1
  · simp [Value.ownBlock] at h1
    subst h1
    exact own_ne k hb (Ne.symm hne) h2.symm

set_option maxHeartbeats 4000000 in
set_option maxRecDepth 100000 in
theorem due_back (B g : Nat) (ep win wait cr gone last now : Int) (T : List Txt) (v : Value) (w : World) (h : SndV w B g ep win wait cr T gone last v) (hb : SndB win wait cr T gone last) (hBw : B ≤ w.heap.size) (hn1 : now ≤ 2000000000000000) (hn2 : 0 ≤ now) (hn0 : now < last) :
    Calls Try.prog 37 #[.pointer (some ⟨g, 0, none⟩), .int .i64 now] w (DueRet B g ep win wait cr gone last now T w) := by
  have hl1 := hb.l1
  have ht2 := hb.t2
  have ht1 := hb.t1
  have hnT := hb.n2
  have hgg := h.hB
  obtain ⟨m, hm⟩ : ∃ m, max now last = m := ⟨_, rfl⟩
  have hag : againB wait last m T = false := by rw [← hm, Int.max_eq_right (by omega)]; unfold againB; rw [show decide (wait ≤ last - last) = false from by simp; omega]; rfl
  obtain ⟨A, cap, hv⟩ := h.len
  subst hv
  have h2 := h.b.cell 2
  have h4 := h.b.cell 4
  have h6 := h.b.cell 6
  simp at h2 h4 h6
  have e1 : decide (wait ≤ 0) = false := by simp; omega
  have e6 : IntKind.i64.wrap 0 = 0 := by rw [IntKind.wrap_i64]; rfl
  have q2 := fun o => (h.b.alloc o).cell 2
  have q6 := fun o => (h.b.alloc o).cell 6
  simp at q2 q6
  have HM := Lib.hid hm
  have HAG := Lib.hid hag
  clear hm hag
  go_enter Try.func37, Try.ntmps37
  go_wp2_with fail
  refine wp_region_noPanic ?_
  refine wp_region_held_drew (S := (fun w' => w'.cell? ⟨g, 2, none⟩ = some (.int .i64 wait) ∧ w'.cell? ⟨g, 6, none⟩ = some (.int .i64 last))) (by kernel_rfl) ?_ (fun hHeld => ?_)
  · go_keep
  refine reg_take (i := 0) (v := ?_) rfl (by kernel_rfl) (by kernel_rfl) (by kernel_rfl) (fun _ _ _ h => h) (by rfl) ?_ (by assumption) ?_
  rotate_left
  · (intro w hSw; (try dsimp only at hSw); go_simp; try with_reducible rfl)
  try simp only [Act.put, List.setIfInBounds_toArray, List.set_cons_zero, List.set_cons_succ]
  refine reg_take (i := 1) (v := ?_) rfl (by kernel_rfl) (by kernel_rfl) (by kernel_rfl) (fun _ _ _ h => h) (by rfl) ?_ (by assumption) ?_
  rotate_left
  · (intro w hSw; (try dsimp only at hSw); go_simp; try with_reducible rfl)
  try simp only [Act.put, List.setIfInBounds_toArray, List.set_cons_zero, List.set_cons_succ]
  refine reg_take (i := 2) (v := ?_) rfl (by kernel_rfl) (by kernel_rfl) (by kernel_rfl) (fun _ _ _ h => h) (by rfl) ?_ (by assumption) ?_
  rotate_left
  · (intro w hSw; (try dsimp only at hSw); go_simp; try with_reducible rfl)
  try simp only [Act.put, List.setIfInBounds_toArray, List.set_cons_zero, List.set_cons_succ]
  refine reg_take (i := 3) (v := ?_) rfl (by kernel_rfl) (by kernel_rfl) (by kernel_rfl) (fun _ _ _ h => h) (by rfl) ?_ (by assumption) ?_
  rotate_left
  · (intro w hSw; (try dsimp only at hSw); go_simp; try with_reducible rfl)
  try simp only [Act.put, List.setIfInBounds_toArray, List.set_cons_zero, List.set_cons_succ]
  refine reg_take (i := 4) (v := ?_) rfl (by kernel_rfl) (by kernel_rfl) (by kernel_rfl) (fun _ _ _ h => h) (by rfl) ?_ (by assumption) ?_
  rotate_left
  · (intro w hSw; (try dsimp only at hSw); go_simp; try with_reducible rfl)
  try simp only [Act.put, List.setIfInBounds_toArray, List.set_cons_zero, List.set_cons_succ]
  refine reg_take (i := 5) (v := ?_) rfl (by kernel_rfl) (by kernel_rfl) (by kernel_rfl) (fun _ _ _ h => h) (by rfl) ?_ (by assumption) ?_
  rotate_left
  · (intro w hSw; (try dsimp only at hSw); go_simp; try with_reducible rfl)
  try simp only [Act.put, List.setIfInBounds_toArray, List.set_cons_zero, List.set_cons_succ]
  refine reg_take (i := 6) (v := ?_) rfl (by kernel_rfl) (by kernel_rfl) (by kernel_rfl) (fun _ _ _ h => h) (by rfl) ?_ (by assumption) ?_
  rotate_left
  · (intro w hSw; (try dsimp only at hSw); go_simp; try with_reducible rfl)
  try simp only [Act.put, List.setIfInBounds_toArray, List.set_cons_zero, List.set_cons_succ]
  refine reg_take (i := 7) (v := ?_) rfl (by kernel_rfl) (by kernel_rfl) (by kernel_rfl) (fun _ _ _ h => h) (by rfl) ?_ (by assumption) ?_
  rotate_left
  · (intro w hSw; (try dsimp only at hSw); go_simp; try with_reducible rfl)
  try simp only [Act.put, List.setIfInBounds_toArray, List.set_cons_zero, List.set_cons_succ]
  refine reg_take (i := 8) (v := ?_) rfl (by kernel_rfl) (by kernel_rfl) (by kernel_rfl) (fun _ _ _ h => h) (by rfl) ?_ (by assumption) ?_
  rotate_left
  · (intro w hSw; (try dsimp only at hSw); go_simp; try with_reducible rfl)
  try simp only [Act.put, List.setIfInBounds_toArray, List.set_cons_zero, List.set_cons_succ]
  refine reg_take (i := 9) (v := ?_) rfl (by kernel_rfl) (by kernel_rfl) (by kernel_rfl) (fun _ _ _ h => h) (by rfl) ?_ (by assumption) ?_
  rotate_left
  · (intro w hSw; (try dsimp only at hSw); go_simp; try with_reducible rfl)
  try simp only [Act.put, List.setIfInBounds_toArray, List.set_cons_zero, List.set_cons_succ]
  refine reg_take (i := 10) (v := ?_) rfl (by kernel_rfl) (by kernel_rfl) (by kernel_rfl) (fun _ _ _ h => h) (by rfl) ?_ (by assumption) ?_
  rotate_left
  · (intro w hSw; (try dsimp only at hSw); go_simp; try with_reducible rfl)
  try simp only [Act.put, List.setIfInBounds_toArray, List.set_cons_zero, List.set_cons_succ]
  refine reg_take (i := 11) (v := ?_) rfl (by kernel_rfl) (by kernel_rfl) (by kernel_rfl) (fun _ _ _ h => h) (by rfl) ?_ (by assumption) ?_
  rotate_left
  · (intro w hSw; (try dsimp only at hSw); go_simp; try with_reducible rfl)
  try simp only [Act.put, List.setIfInBounds_toArray, List.set_cons_zero, List.set_cons_succ]
  refine reg_skip (i := 12) rfl (by kernel_rfl) (by kernel_rfl) (by kernel_rfl) (fun _ _ _ h => h) (by rfl) (by assumption) ?_
  try simp only [Act.put, List.setIfInBounds_toArray, List.set_cons_zero, List.set_cons_succ]
  refine reg_skip (i := 13) rfl (by kernel_rfl) (by kernel_rfl) (by kernel_rfl) (fun _ _ _ h => h) (by rfl) (by assumption) ?_
  try simp only [Act.put, List.setIfInBounds_toArray, List.set_cons_zero, List.set_cons_succ]
  refine reg_skip (i := 14) rfl (by kernel_rfl) (by kernel_rfl) (by kernel_rfl) (fun _ _ _ h => h) (by rfl) (by assumption) ?_
  try simp only [Act.put, List.setIfInBounds_toArray, List.set_cons_zero, List.set_cons_succ]
  refine reg_skip (i := 15) rfl (by kernel_rfl) (by kernel_rfl) (by kernel_rfl) (fun _ _ _ h => h) (by rfl) (by assumption) ?_
  try simp only [Act.put, List.setIfInBounds_toArray, List.set_cons_zero, List.set_cons_succ]
  refine reg_skip (i := 16) rfl (by kernel_rfl) (by kernel_rfl) (by kernel_rfl) (fun _ _ _ h => h) (by rfl) (by assumption) ?_
  try simp only [Act.put, List.setIfInBounds_toArray, List.set_cons_zero, List.set_cons_succ]
  refine reg_skip (i := 17) rfl (by kernel_rfl) (by kernel_rfl) (by kernel_rfl) (fun _ _ _ h => h) (by rfl) (by assumption) ?_
  try simp only [Act.put, List.setIfInBounds_toArray, List.set_cons_zero, List.set_cons_succ]
  refine reg_skip (i := 18) rfl (by kernel_rfl) (by kernel_rfl) (by kernel_rfl) (fun _ _ _ h => h) (by rfl) (by assumption) ?_
  try simp only [Act.put, List.setIfInBounds_toArray, List.set_cons_zero, List.set_cons_succ]
  refine reg_take (i := 19) (v := ?_) rfl (by kernel_rfl) (by kernel_rfl) (by kernel_rfl) (fun _ _ _ h => h) (by rfl) ?_ (by assumption) ?_
  rotate_left
  · (intro w hSw; (try dsimp only at hSw); go_simp; try with_reducible rfl)
  try simp only [Act.put, List.setIfInBounds_toArray, List.set_cons_zero, List.set_cons_succ]
  refine reg_take (i := 20) (v := ?_) rfl (by kernel_rfl) (by kernel_rfl) (by kernel_rfl) (fun _ _ _ h => h) (by rfl) ?_ (by assumption) ?_
  rotate_left
  · (intro w hSw; (try dsimp only at hSw); go_simp; try with_reducible rfl)
  try simp only [Act.put, List.setIfInBounds_toArray, List.set_cons_zero, List.set_cons_succ]
  refine reg_skip (i := 21) rfl (by kernel_rfl) (by kernel_rfl) (by kernel_rfl) (fun _ _ _ h => h) (by rfl) (by assumption) ?_
  try simp only [Act.put, List.setIfInBounds_toArray, List.set_cons_zero, List.set_cons_succ]
  refine reg_skip (i := 22) rfl (by kernel_rfl) (by kernel_rfl) (by kernel_rfl) (fun _ _ _ h => h) (by rfl) (by assumption) ?_
  try simp only [Act.put, List.setIfInBounds_toArray, List.set_cons_zero, List.set_cons_succ]
  refine reg_skip (i := 23) rfl (by kernel_rfl) (by kernel_rfl) (by kernel_rfl) (fun _ _ _ h => h) (by rfl) (by assumption) ?_
  try simp only [Act.put, List.setIfInBounds_toArray, List.set_cons_zero, List.set_cons_succ]
  refine reg_skip (i := 24) rfl (by kernel_rfl) (by kernel_rfl) (by kernel_rfl) (fun _ _ _ h => h) (by rfl) (by assumption) ?_
  try simp only [Act.put, List.setIfInBounds_toArray, List.set_cons_zero, List.set_cons_succ]
  refine reg_skip (i := 25) rfl (by kernel_rfl) (by kernel_rfl) (by kernel_rfl) (fun _ _ _ h => h) (by rfl) (by assumption) ?_
  try simp only [Act.put, List.setIfInBounds_toArray, List.set_cons_zero, List.set_cons_succ]
  refine reg_skip (i := 26) rfl (by kernel_rfl) (by kernel_rfl) (by kernel_rfl) (fun _ _ _ h => h) (by rfl) (by assumption) ?_
  try simp only [Act.put, List.setIfInBounds_toArray, List.set_cons_zero, List.set_cons_succ]
  refine reg_skip (i := 27) rfl (by kernel_rfl) (by kernel_rfl) (by kernel_rfl) (fun _ _ _ h => h) (by rfl) (by assumption) ?_
  try simp only [Act.put, List.setIfInBounds_toArray, List.set_cons_zero, List.set_cons_succ]
  refine reg_skip (i := 28) rfl (by kernel_rfl) (by kernel_rfl) (by kernel_rfl) (fun _ _ _ h => h) (by rfl) (by assumption) ?_
  try simp only [Act.put, List.setIfInBounds_toArray, List.set_cons_zero, List.set_cons_succ]
  refine reg_take (i := 29) (v := ?_) rfl (by kernel_rfl) (by kernel_rfl) (by kernel_rfl) (fun _ _ _ h => h) (by rfl) ?_ (by assumption) ?_
  rotate_left
  · (intro w hSw; (try dsimp only at hSw); go_simp; try with_reducible rfl)
  try simp only [Act.put, List.setIfInBounds_toArray, List.set_cons_zero, List.set_cons_succ]
  refine reg_step (i := 30) (by kernel_rfl) rfl (fun K hK => ?_)
  go_simp
  refine hK.out _ _ ?_ (fun hHeld2 => ?_)
  · go_keep
  clear hK K hHeld
  have hHeld := hHeld2
  clear hHeld2
  try simp only [Act.put, List.setIfInBounds_toArray, List.set_cons_zero, List.set_cons_succ]
  refine reg_step (i := 31) (by kernel_rfl) rfl (fun K hK => ?_)
  go_simp
  refine hK.out _ _ ?_ (fun hHeld2 => ?_)
  · go_keep
  clear hK K hHeld
  have hHeld := hHeld2
  clear hHeld2
  try simp only [Act.put, List.setIfInBounds_toArray, List.set_cons_zero, List.set_cons_succ]
  refine wpAnyH_done (by kernel_rfl) ?_ _
  refine NoPanic.normal ?_
  clear hHeld q2 q6 e1 e6 h2 h4 h6
  have s1 := (h.b.alloc (.cells #[.bool false] 4)).drew
  have r1 := own_drew (h.r.alloc (.cells #[.bool false] 4))
  have q1 := (Blk.new w 4 #[.bool false]).drew
  have C1 : Ch [] w (w.alloc (.cells #[.bool false] 4)).drew := ((Ch.refl [] w).alloc _).drew
  generalize (w.alloc _).drew = w1 at s1 r1 q1 C1 ⊢
  generalize hq : w.heap.size = q at q1 ⊢
  have Hq := Lib.hid hq
  clear hq
  have S1 : SndV w1 B g ep win wait cr T gone last (.slice A T.length cap) := ⟨hgg, s1, r1⟩
  clear s1 r1
  go_wp2_with fail
  refine (items_due B g ep win wait cr gone last T _ w1 S1 hb q false q1).mono ?_
  rintro r w2 ⟨v', rfl, hown, C2⟩
  have S2 := S1.chB (C2.toB0 (B := B) (Ts := [])) (by simp) (by simp)
  have C3 : Ch [] w w2 := C1.trans C2
  have C3' : ChB B [111, 114] w w2 := C3.toB0
  have hown2 : w2.ownsRow w.heap.size 76 2 v' _ _ := own_base hown C1.size
  have hLe : dueL wait last gone now T = itemsOf (fun y : Txt => false || !y.2) gone T := by unfold dueL; rw [HM.out, HAG.out]
  have hLn := itemsOf_len (fun y : Txt => false || !y.2) T gone
  rw [← hLe] at hown2 hLn
  have HL := Lib.hid hLe
  clear hLe hown S1 q1 C1 C2
  by_cases hE : dueL wait last gone now T = []
  · have hret : DueRet B g ep win wait cr gone last now T w (.returned (.slice none 0 0)) w2 := by
      unfold DueRet dueT dueLast
      rw [if_pos hE, if_pos hE, hE]
      exact ⟨_, rfl, World.ownsRow_nil _ _ _ _, ⟨_, S2⟩, C3'⟩
    have Hret := Lib.hid hret
    obtain ⟨A', cap', he, _⟩ := own_len hown2
    rw [hE] at he
    simp at he
    subst he
    clear hret hE hown2 S2 C3 C3' hLn
    go_wp2_with fail
    go_ret
    exact Hret.out
  · have hpos : 0 < (dueL wait last gone now T).length := List.length_pos_iff.2 hE
    generalize hLL : dueL wait last gone now T = L at hown2 hpos hLn
    have HLL := Lib.hid hLL
    clear hLL
    have HE := Lib.hid hE
    clear hE
    obtain ⟨A', cap', he, _⟩ := own_len hown2
    subst he
    have hz : ((L.length : Int) == 0) = false := by rw [beq_eq_false_iff_ne]; omega
    have k4 := S2.b.cell 4
    simp at k4
    go_wp2_with fail
    go_loopw [56] (fun i wr => ∃ k : Nat, i = .int .i64 k ∧ k ≤ T.length ∧ SndV wr B g ep win wait cr (markN k T) gone last (.slice A T.length cap) ∧ wr.ownsRow w.heap.size 76 2 (.slice A' L.length cap') L.length (itmCells L) ∧ ChB B [111, 114] w wr) (fun i _ => T.length - (intOf i).toNat)
    case atStart => exact ⟨0, rfl, Nat.zero_le _, by rw [markN_zero]; exact S2, hown2, C3'⟩
    case round =>
      obtain ⟨k, rfl, hk, S, ho, hC⟩ := hrel
      clear S2 hown2 C3 C3' k4
      by_cases hlt : k < T.length
      · have hr := S.r
        rw [markN_len] at hr
        obtain ⟨gv, cap2, he, hgB, _, _, _, hcells, hfz⟩ := own_at hr (by omega)
        injection he with hA _ hcp
        subst hA hcp
        have hgk := markN_get k T hlt
        obtain ⟨_, c1⟩ := txtCells_get (markN k T) k _ hgk
        have c2 := hcells _ _ c1
        have f2 := hfz (k * 2 + 1)
        have b2 := S.b.cell 4
        simp at b2
        have hst := hr.stored (k * 2 + 1) (.bool true)
        rw [txtCells_set _ k _ true hgk, markN_succ k T hlt] at hst
        have hblk := hr
        have hne := own_ne hr S.b (by decide)
        have hgne : g ≠ gv := fun e => hne (by rw [e]; rfl)
        have S' : SndV (wr.setCell ⟨gv, k * 2 + 1, none⟩ (.bool true)) B g ep win wait cr (markN (k + 1) T) gone last (.slice (some ⟨gv, 0, none⟩) T.length cap) := ⟨hgg, S.b.far (p := ⟨gv, k * 2 + 1, none⟩) hgne _, by rw [markN_len]; exact hst.1⟩
        have ho' := own_ch ho ((Ch.refl [gv] wr).setCell (p := ⟨gv, k * 2 + 1, none⟩) (.inl (by simp)) (.bool true)) (fun q hq hm => own_two ho hr (by decide) q hq (by rw [List.mem_singleton.1 hm]; rfl))
        have hC' : ChB B [111, 114] w (wr.setCell ⟨gv, k * 2 + 1, none⟩ (.bool true)) := ChB.grown (v := .slice (some ⟨gv, 0, none⟩) T.length cap) hC hst.2 hr (Nat.le_refl _) (by simp)
        clear hcells hfz c1 hst hblk hne hr S ho hC hgk
        go_wp2_with fail
        go_roundw
        case rel => exact ⟨k + 1, by simp, by omega, S', ho', hC'⟩
        case measure => simp [intOf]; omega
      · obtain rfl : k = T.length := by omega
        rw [markN_all] at S
        have b6 := S.b.cell 6
        have f6 := S.b.frozen 6
        have b7 := S.b.set_ 6 (.int .i64 last)
        have hne := own_ne S.r S.b (by decide)
        have hne2 := own_ne ho S.b (by decide)
        have r7 := own_ch S.r ((Ch.refl [g] wr).setCell (p := ⟨g, 6, none⟩) (.inl (by simp)) (.int .i64 last)) (fun q hq hm => hne (by rw [List.mem_singleton.1 hm] at hq; exact hq.symm))
        have o7 := own_ch ho ((Ch.refl [g] wr).setCell (p := ⟨g, 6, none⟩) (.inl (by simp)) (.int .i64 last)) (fun q hq hm => hne2 (by rw [List.mem_singleton.1 hm] at hq; exact hq.symm))
        have C7 : ChB B [111, 114] w (wr.setCell ⟨g, 6, none⟩ (.int .i64 last)) := hC.setCell (p := ⟨g, 6, none⟩) hgg S.b (by simp) _
        have S7 : SndV (wr.setCell ⟨g, 6, none⟩ (.int .i64 last)) B g ep win wait cr (T.map fun x => (x.1, true)) gone last (.slice A T.length cap) := ⟨hgg, b7, r7⟩
        have hret : DueRet B g ep win wait cr gone last now T w (.returned (.slice A' L.length cap')) (wr.setCell ⟨g, 6, none⟩ (.int .i64 last)) := by
          unfold DueRet dueT dueLast
          rw [if_neg HE.out, if_neg HE.out, HLL.out, HM.out, show m = last from (by rw [← HM.out]; exact Int.max_eq_right (by omega))]
          exact ⟨_, rfl, o7, ⟨_, S7⟩, C7⟩
        have Hret := Lib.hid hret
        simp at b6
        clear hret o7 S7 C7 r7 b7 hne hne2 S ho hC
        go_wp2_with fail
        go_ret
        exact Hret.out

set_option maxHeartbeats 4000000 in
set_option maxRecDepth 100000 in
theorem due_soon (B g : Nat) (ep win wait cr gone last now : Int) (T : List Txt) (v : Value) (w : World) (h : SndV w B g ep win wait cr T gone last v) (hb : SndB win wait cr T gone last) (hBw : B ≤ w.heap.size) (hn1 : now ≤ 2000000000000000) (hn2 : 0 ≤ now) (hn0 : last ≤ now) (hw : now - last < wait) :
    Calls Try.prog 37 #[.pointer (some ⟨g, 0, none⟩), .int .i64 now] w (DueRet B g ep win wait cr gone last now T w) := by
  have hl1 := hb.l1
  have ht2 := hb.t2
  have ht1 := hb.t1
  have hnT := hb.n2
  have hgg := h.hB
  obtain ⟨m, hm⟩ : ∃ m, max now last = m := ⟨_, rfl⟩
  have hag : againB wait last m T = false := by rw [← hm, Int.max_eq_left (by omega)]; unfold againB; rw [show decide (wait ≤ now - last) = false from by simp; omega]; rfl
  obtain ⟨A, cap, hv⟩ := h.len
  subst hv
  have h2 := h.b.cell 2
  have h4 := h.b.cell 4
  have h6 := h.b.cell 6
  simp at h2 h4 h6
  have e1 : decide (wait ≤ now - last) = false := by simp; omega
  have e6 : IntKind.i64.wrap (now - last) = now - last := IntWalk.i64_in _ (by omega)
  have q2 := fun o => (h.b.alloc o).cell 2
  have q6 := fun o => (h.b.alloc o).cell 6
  simp at q2 q6
  have HM := Lib.hid hm
  have HAG := Lib.hid hag
  clear hm hag
  go_enter Try.func37, Try.ntmps37
  go_wp2_with fail
  refine wp_region_noPanic ?_
  refine wp_region_held_drew (S := (fun w' => w'.cell? ⟨g, 2, none⟩ = some (.int .i64 wait) ∧ w'.cell? ⟨g, 6, none⟩ = some (.int .i64 last))) (by kernel_rfl) ?_ (fun hHeld => ?_)
  · go_keep
  refine reg_take (i := 0) (v := ?_) rfl (by kernel_rfl) (by kernel_rfl) (by kernel_rfl) (fun _ _ _ h => h) (by rfl) ?_ (by assumption) ?_
  rotate_left
  · (intro w hSw; (try dsimp only at hSw); go_simp; try with_reducible rfl)
  try simp only [Act.put, List.setIfInBounds_toArray, List.set_cons_zero, List.set_cons_succ]
  refine reg_take (i := 1) (v := ?_) rfl (by kernel_rfl) (by kernel_rfl) (by kernel_rfl) (fun _ _ _ h => h) (by rfl) ?_ (by assumption) ?_
  rotate_left
  · (intro w hSw; (try dsimp only at hSw); go_simp; try with_reducible rfl)
  try simp only [Act.put, List.setIfInBounds_toArray, List.set_cons_zero, List.set_cons_succ]
  refine reg_take (i := 2) (v := ?_) rfl (by kernel_rfl) (by kernel_rfl) (by kernel_rfl) (fun _ _ _ h => h) (by rfl) ?_ (by assumption) ?_
  rotate_left
  · (intro w hSw; (try dsimp only at hSw); go_simp; try with_reducible rfl)
  try simp only [Act.put, List.setIfInBounds_toArray, List.set_cons_zero, List.set_cons_succ]
  refine reg_take (i := 3) (v := ?_) rfl (by kernel_rfl) (by kernel_rfl) (by kernel_rfl) (fun _ _ _ h => h) (by rfl) ?_ (by assumption) ?_
  rotate_left
  · (intro w hSw; (try dsimp only at hSw); go_simp; try with_reducible rfl)
  try simp only [Act.put, List.setIfInBounds_toArray, List.set_cons_zero, List.set_cons_succ]
  refine reg_take (i := 4) (v := ?_) rfl (by kernel_rfl) (by kernel_rfl) (by kernel_rfl) (fun _ _ _ h => h) (by rfl) ?_ (by assumption) ?_
  rotate_left
  · (intro w hSw; (try dsimp only at hSw); go_simp; try with_reducible rfl)
  try simp only [Act.put, List.setIfInBounds_toArray, List.set_cons_zero, List.set_cons_succ]
  refine reg_take (i := 5) (v := ?_) rfl (by kernel_rfl) (by kernel_rfl) (by kernel_rfl) (fun _ _ _ h => h) (by rfl) ?_ (by assumption) ?_
  rotate_left
  · (intro w hSw; (try dsimp only at hSw); go_simp; try with_reducible rfl)
  try simp only [Act.put, List.setIfInBounds_toArray, List.set_cons_zero, List.set_cons_succ]
  refine reg_take (i := 6) (v := ?_) rfl (by kernel_rfl) (by kernel_rfl) (by kernel_rfl) (fun _ _ _ h => h) (by rfl) ?_ (by assumption) ?_
  rotate_left
  · (intro w hSw; (try dsimp only at hSw); go_simp; try with_reducible rfl)
  try simp only [Act.put, List.setIfInBounds_toArray, List.set_cons_zero, List.set_cons_succ]
  refine reg_take (i := 7) (v := ?_) rfl (by kernel_rfl) (by kernel_rfl) (by kernel_rfl) (fun _ _ _ h => h) (by rfl) ?_ (by assumption) ?_
  rotate_left
  · (intro w hSw; (try dsimp only at hSw); go_simp; try with_reducible rfl)
  try simp only [Act.put, List.setIfInBounds_toArray, List.set_cons_zero, List.set_cons_succ]
  refine reg_take (i := 8) (v := ?_) rfl (by kernel_rfl) (by kernel_rfl) (by kernel_rfl) (fun _ _ _ h => h) (by rfl) ?_ (by assumption) ?_
  rotate_left
  · (intro w hSw; (try dsimp only at hSw); go_simp; try with_reducible rfl)
  try simp only [Act.put, List.setIfInBounds_toArray, List.set_cons_zero, List.set_cons_succ]
  refine reg_take (i := 9) (v := ?_) rfl (by kernel_rfl) (by kernel_rfl) (by kernel_rfl) (fun _ _ _ h => h) (by rfl) ?_ (by assumption) ?_
  rotate_left
  · (intro w hSw; (try dsimp only at hSw); go_simp; try with_reducible rfl)
  try simp only [Act.put, List.setIfInBounds_toArray, List.set_cons_zero, List.set_cons_succ]
  refine reg_take (i := 10) (v := ?_) rfl (by kernel_rfl) (by kernel_rfl) (by kernel_rfl) (fun _ _ _ h => h) (by rfl) ?_ (by assumption) ?_
  rotate_left
  · (intro w hSw; (try dsimp only at hSw); go_simp; try with_reducible rfl)
  try simp only [Act.put, List.setIfInBounds_toArray, List.set_cons_zero, List.set_cons_succ]
  refine reg_take (i := 11) (v := ?_) rfl (by kernel_rfl) (by kernel_rfl) (by kernel_rfl) (fun _ _ _ h => h) (by rfl) ?_ (by assumption) ?_
  rotate_left
  · (intro w hSw; (try dsimp only at hSw); go_simp; try with_reducible rfl)
  try simp only [Act.put, List.setIfInBounds_toArray, List.set_cons_zero, List.set_cons_succ]
  refine reg_skip (i := 12) rfl (by kernel_rfl) (by kernel_rfl) (by kernel_rfl) (fun _ _ _ h => h) (by rfl) (by assumption) ?_
  try simp only [Act.put, List.setIfInBounds_toArray, List.set_cons_zero, List.set_cons_succ]
  refine reg_skip (i := 13) rfl (by kernel_rfl) (by kernel_rfl) (by kernel_rfl) (fun _ _ _ h => h) (by rfl) (by assumption) ?_
  try simp only [Act.put, List.setIfInBounds_toArray, List.set_cons_zero, List.set_cons_succ]
  refine reg_skip (i := 14) rfl (by kernel_rfl) (by kernel_rfl) (by kernel_rfl) (fun _ _ _ h => h) (by rfl) (by assumption) ?_
  try simp only [Act.put, List.setIfInBounds_toArray, List.set_cons_zero, List.set_cons_succ]
  refine reg_skip (i := 15) rfl (by kernel_rfl) (by kernel_rfl) (by kernel_rfl) (fun _ _ _ h => h) (by rfl) (by assumption) ?_
  try simp only [Act.put, List.setIfInBounds_toArray, List.set_cons_zero, List.set_cons_succ]
  refine reg_skip (i := 16) rfl (by kernel_rfl) (by kernel_rfl) (by kernel_rfl) (fun _ _ _ h => h) (by rfl) (by assumption) ?_
  try simp only [Act.put, List.setIfInBounds_toArray, List.set_cons_zero, List.set_cons_succ]
  refine reg_skip (i := 17) rfl (by kernel_rfl) (by kernel_rfl) (by kernel_rfl) (fun _ _ _ h => h) (by rfl) (by assumption) ?_
  try simp only [Act.put, List.setIfInBounds_toArray, List.set_cons_zero, List.set_cons_succ]
  refine reg_skip (i := 18) rfl (by kernel_rfl) (by kernel_rfl) (by kernel_rfl) (fun _ _ _ h => h) (by rfl) (by assumption) ?_
  try simp only [Act.put, List.setIfInBounds_toArray, List.set_cons_zero, List.set_cons_succ]
  refine reg_take (i := 19) (v := ?_) rfl (by kernel_rfl) (by kernel_rfl) (by kernel_rfl) (fun _ _ _ h => h) (by rfl) ?_ (by assumption) ?_
  rotate_left
  · (intro w hSw; (try dsimp only at hSw); go_simp; try with_reducible rfl)
  try simp only [Act.put, List.setIfInBounds_toArray, List.set_cons_zero, List.set_cons_succ]
  refine reg_take (i := 20) (v := ?_) rfl (by kernel_rfl) (by kernel_rfl) (by kernel_rfl) (fun _ _ _ h => h) (by rfl) ?_ (by assumption) ?_
  rotate_left
  · (intro w hSw; (try dsimp only at hSw); go_simp; try with_reducible rfl)
  try simp only [Act.put, List.setIfInBounds_toArray, List.set_cons_zero, List.set_cons_succ]
  refine reg_skip (i := 21) rfl (by kernel_rfl) (by kernel_rfl) (by kernel_rfl) (fun _ _ _ h => h) (by rfl) (by assumption) ?_
  try simp only [Act.put, List.setIfInBounds_toArray, List.set_cons_zero, List.set_cons_succ]
  refine reg_skip (i := 22) rfl (by kernel_rfl) (by kernel_rfl) (by kernel_rfl) (fun _ _ _ h => h) (by rfl) (by assumption) ?_
  try simp only [Act.put, List.setIfInBounds_toArray, List.set_cons_zero, List.set_cons_succ]
  refine reg_skip (i := 23) rfl (by kernel_rfl) (by kernel_rfl) (by kernel_rfl) (fun _ _ _ h => h) (by rfl) (by assumption) ?_
  try simp only [Act.put, List.setIfInBounds_toArray, List.set_cons_zero, List.set_cons_succ]
  refine reg_skip (i := 24) rfl (by kernel_rfl) (by kernel_rfl) (by kernel_rfl) (fun _ _ _ h => h) (by rfl) (by assumption) ?_
  try simp only [Act.put, List.setIfInBounds_toArray, List.set_cons_zero, List.set_cons_succ]
  refine reg_skip (i := 25) rfl (by kernel_rfl) (by kernel_rfl) (by kernel_rfl) (fun _ _ _ h => h) (by rfl) (by assumption) ?_
  try simp only [Act.put, List.setIfInBounds_toArray, List.set_cons_zero, List.set_cons_succ]
  refine reg_skip (i := 26) rfl (by kernel_rfl) (by kernel_rfl) (by kernel_rfl) (fun _ _ _ h => h) (by rfl) (by assumption) ?_
  try simp only [Act.put, List.setIfInBounds_toArray, List.set_cons_zero, List.set_cons_succ]
  refine reg_skip (i := 27) rfl (by kernel_rfl) (by kernel_rfl) (by kernel_rfl) (fun _ _ _ h => h) (by rfl) (by assumption) ?_
  try simp only [Act.put, List.setIfInBounds_toArray, List.set_cons_zero, List.set_cons_succ]
  refine reg_skip (i := 28) rfl (by kernel_rfl) (by kernel_rfl) (by kernel_rfl) (fun _ _ _ h => h) (by rfl) (by assumption) ?_
  try simp only [Act.put, List.setIfInBounds_toArray, List.set_cons_zero, List.set_cons_succ]
  refine reg_take (i := 29) (v := ?_) rfl (by kernel_rfl) (by kernel_rfl) (by kernel_rfl) (fun _ _ _ h => h) (by rfl) ?_ (by assumption) ?_
  rotate_left
  · (intro w hSw; (try dsimp only at hSw); go_simp; try with_reducible rfl)
  try simp only [Act.put, List.setIfInBounds_toArray, List.set_cons_zero, List.set_cons_succ]
  refine reg_step (i := 30) (by kernel_rfl) rfl (fun K hK => ?_)
  go_simp
  refine hK.out _ _ ?_ (fun hHeld2 => ?_)
  · go_keep
  clear hK K hHeld
  have hHeld := hHeld2
  clear hHeld2
  try simp only [Act.put, List.setIfInBounds_toArray, List.set_cons_zero, List.set_cons_succ]
  refine reg_step (i := 31) (by kernel_rfl) rfl (fun K hK => ?_)
  go_simp
  refine hK.out _ _ ?_ (fun hHeld2 => ?_)
  · go_keep
  clear hK K hHeld
  have hHeld := hHeld2
  clear hHeld2
  try simp only [Act.put, List.setIfInBounds_toArray, List.set_cons_zero, List.set_cons_succ]
  refine wpAnyH_done (by kernel_rfl) ?_ _
  refine NoPanic.normal ?_
  clear hHeld q2 q6 e1 e6 h2 h4 h6
  have s1 := (h.b.alloc (.cells #[.bool false] 4)).drew
  have r1 := own_drew (h.r.alloc (.cells #[.bool false] 4))
  have q1 := (Blk.new w 4 #[.bool false]).drew
  have C1 : Ch [] w (w.alloc (.cells #[.bool false] 4)).drew := ((Ch.refl [] w).alloc _).drew
  generalize (w.alloc _).drew = w1 at s1 r1 q1 C1 ⊢
  generalize hq : w.heap.size = q at q1 ⊢
  have Hq := Lib.hid hq
  clear hq
  have S1 : SndV w1 B g ep win wait cr T gone last (.slice A T.length cap) := ⟨hgg, s1, r1⟩
  clear s1 r1
  go_wp2_with fail
  refine (items_due B g ep win wait cr gone last T _ w1 S1 hb q false q1).mono ?_
  rintro r w2 ⟨v', rfl, hown, C2⟩
  have S2 := S1.chB (C2.toB0 (B := B) (Ts := [])) (by simp) (by simp)
  have C3 : Ch [] w w2 := C1.trans C2
  have C3' : ChB B [111, 114] w w2 := C3.toB0
  have hown2 : w2.ownsRow w.heap.size 76 2 v' _ _ := own_base hown C1.size
  have hLe : dueL wait last gone now T = itemsOf (fun y : Txt => false || !y.2) gone T := by unfold dueL; rw [HM.out, HAG.out]
  have hLn := itemsOf_len (fun y : Txt => false || !y.2) T gone
  rw [← hLe] at hown2 hLn
  have HL := Lib.hid hLe
  clear hLe hown S1 q1 C1 C2
  by_cases hE : dueL wait last gone now T = []
  · have hret : DueRet B g ep win wait cr gone last now T w (.returned (.slice none 0 0)) w2 := by
      unfold DueRet dueT dueLast
      rw [if_pos hE, if_pos hE, hE]
      exact ⟨_, rfl, World.ownsRow_nil _ _ _ _, ⟨_, S2⟩, C3'⟩
    have Hret := Lib.hid hret
    obtain ⟨A', cap', he, _⟩ := own_len hown2
    rw [hE] at he
    simp at he
    subst he
    clear hret hE hown2 S2 C3 C3' hLn
    go_wp2_with fail
    go_ret
    exact Hret.out
  · have hpos : 0 < (dueL wait last gone now T).length := List.length_pos_iff.2 hE
    generalize hLL : dueL wait last gone now T = L at hown2 hpos hLn
    have HLL := Lib.hid hLL
    clear hLL
    have HE := Lib.hid hE
    clear hE
    obtain ⟨A', cap', he, _⟩ := own_len hown2
    subst he
    have hz : ((L.length : Int) == 0) = false := by rw [beq_eq_false_iff_ne]; omega
    have k4 := S2.b.cell 4
    simp at k4
    go_wp2_with fail
    go_loopw [56] (fun i wr => ∃ k : Nat, i = .int .i64 k ∧ k ≤ T.length ∧ SndV wr B g ep win wait cr (markN k T) gone last (.slice A T.length cap) ∧ wr.ownsRow w.heap.size 76 2 (.slice A' L.length cap') L.length (itmCells L) ∧ ChB B [111, 114] w wr) (fun i _ => T.length - (intOf i).toNat)
    case atStart => exact ⟨0, rfl, Nat.zero_le _, by rw [markN_zero]; exact S2, hown2, C3'⟩
    case round =>
      obtain ⟨k, rfl, hk, S, ho, hC⟩ := hrel
      clear S2 hown2 C3 C3' k4
      by_cases hlt : k < T.length
      · have hr := S.r
        rw [markN_len] at hr
        obtain ⟨gv, cap2, he, hgB, _, _, _, hcells, hfz⟩ := own_at hr (by omega)
        injection he with hA _ hcp
        subst hA hcp
        have hgk := markN_get k T hlt
        obtain ⟨_, c1⟩ := txtCells_get (markN k T) k _ hgk
        have c2 := hcells _ _ c1
        have f2 := hfz (k * 2 + 1)
        have b2 := S.b.cell 4
        simp at b2
        have hst := hr.stored (k * 2 + 1) (.bool true)
        rw [txtCells_set _ k _ true hgk, markN_succ k T hlt] at hst
        have hblk := hr
        have hne := own_ne hr S.b (by decide)
        have hgne : g ≠ gv := fun e => hne (by rw [e]; rfl)
        have S' : SndV (wr.setCell ⟨gv, k * 2 + 1, none⟩ (.bool true)) B g ep win wait cr (markN (k + 1) T) gone last (.slice (some ⟨gv, 0, none⟩) T.length cap) := ⟨hgg, S.b.far (p := ⟨gv, k * 2 + 1, none⟩) hgne _, by rw [markN_len]; exact hst.1⟩
        have ho' := own_ch ho ((Ch.refl [gv] wr).setCell (p := ⟨gv, k * 2 + 1, none⟩) (.inl (by simp)) (.bool true)) (fun q hq hm => own_two ho hr (by decide) q hq (by rw [List.mem_singleton.1 hm]; rfl))
        have hC' : ChB B [111, 114] w (wr.setCell ⟨gv, k * 2 + 1, none⟩ (.bool true)) := ChB.grown (v := .slice (some ⟨gv, 0, none⟩) T.length cap) hC hst.2 hr (Nat.le_refl _) (by simp)
        clear hcells hfz c1 hst hblk hne hr S ho hC hgk
        go_wp2_with fail
        go_roundw
        case rel => exact ⟨k + 1, by simp, by omega, S', ho', hC'⟩
        case measure => simp [intOf]; omega
      · obtain rfl : k = T.length := by omega
        rw [markN_all] at S
        have b6 := S.b.cell 6
        have f6 := S.b.frozen 6
        have b7 := S.b.set_ 6 (.int .i64 now)
        have hne := own_ne S.r S.b (by decide)
        have hne2 := own_ne ho S.b (by decide)
        have r7 := own_ch S.r ((Ch.refl [g] wr).setCell (p := ⟨g, 6, none⟩) (.inl (by simp)) (.int .i64 now)) (fun q hq hm => hne (by rw [List.mem_singleton.1 hm] at hq; exact hq.symm))
        have o7 := own_ch ho ((Ch.refl [g] wr).setCell (p := ⟨g, 6, none⟩) (.inl (by simp)) (.int .i64 now)) (fun q hq hm => hne2 (by rw [List.mem_singleton.1 hm] at hq; exact hq.symm))
        have C7 : ChB B [111, 114] w (wr.setCell ⟨g, 6, none⟩ (.int .i64 now)) := hC.setCell (p := ⟨g, 6, none⟩) hgg S.b (by simp) _
        have S7 : SndV (wr.setCell ⟨g, 6, none⟩ (.int .i64 now)) B g ep win wait cr (T.map fun x => (x.1, true)) gone now (.slice A T.length cap) := ⟨hgg, b7, r7⟩
        have hret : DueRet B g ep win wait cr gone last now T w (.returned (.slice A' L.length cap')) (wr.setCell ⟨g, 6, none⟩ (.int .i64 now)) := by
          unfold DueRet dueT dueLast
          rw [if_neg HE.out, if_neg HE.out, HLL.out, HM.out, show m = now from (by rw [← HM.out]; exact Int.max_eq_left (by omega))]
          exact ⟨_, rfl, o7, ⟨_, S7⟩, C7⟩
        have Hret := Lib.hid hret
        simp at b6
        clear hret o7 S7 C7 r7 b7 hne hne2 S ho hC
        go_wp2_with fail
        go_ret
        exact Hret.out

set_option maxHeartbeats 4000000 in
set_option maxRecDepth 100000 in
theorem due_none (B g : Nat) (ep win wait cr gone last now : Int) (T : List Txt) (v : Value) (w : World) (h : SndV w B g ep win wait cr T gone last v) (hb : SndB win wait cr T gone last) (hBw : B ≤ w.heap.size) (hn1 : now ≤ 2000000000000000) (hn2 : 0 ≤ now) (hn0 : last ≤ now) (hw : wait ≤ now - last) (hT0 : T.length = 0) :
    Calls Try.prog 37 #[.pointer (some ⟨g, 0, none⟩), .int .i64 now] w (DueRet B g ep win wait cr gone last now T w) := by
  have hl1 := hb.l1
  have ht2 := hb.t2
  have ht1 := hb.t1
  have hnT := hb.n2
  have hgg := h.hB
  obtain ⟨m, hm⟩ : ∃ m, max now last = m := ⟨_, rfl⟩
  have hag : againB wait last m T = false := by rw [List.length_eq_zero_iff.1 hT0]; simp [againB]
  obtain ⟨A, cap, hv⟩ := h.len
  subst hv
  have h2 := h.b.cell 2
  have h4 := h.b.cell 4
  have h6 := h.b.cell 6
  simp at h2 h4 h6
  have e1 : decide (wait ≤ now - last) = true := by simp; omega
  have e6 : IntKind.i64.wrap (now - last) = now - last := IntWalk.i64_in _ (by omega)
  have e3 : decide (0 < T.length) = false := decide_eq_false (by omega)
  have q4 := fun o => (h.b.alloc o).cell 4
  simp at q4
  have HT0 := Lib.hid hT0
  clear hT0
  have q2 := fun o => (h.b.alloc o).cell 2
  have q6 := fun o => (h.b.alloc o).cell 6
  simp at q2 q6
  have HM := Lib.hid hm
  have HAG := Lib.hid hag
  clear hm hag
  go_enter Try.func37, Try.ntmps37
  go_wp2_with fail
  refine wp_region_noPanic ?_
  refine wp_region_held_drew (S := (fun w' => w'.cell? ⟨g, 2, none⟩ = some (.int .i64 wait) ∧ w'.cell? ⟨g, 6, none⟩ = some (.int .i64 last) ∧ w'.cell? ⟨g, 4, none⟩ = some (.slice A T.length cap))) (by kernel_rfl) ?_ (fun hHeld => ?_)
  · go_keep
  refine reg_take (i := 0) (v := ?_) rfl (by kernel_rfl) (by kernel_rfl) (by kernel_rfl) (fun _ _ _ h => h) (by rfl) ?_ (by assumption) ?_
  rotate_left
  · (intro w hSw; (try dsimp only at hSw); go_simp; try with_reducible rfl)
  try simp only [Act.put, List.setIfInBounds_toArray, List.set_cons_zero, List.set_cons_succ]
  refine reg_take (i := 1) (v := ?_) rfl (by kernel_rfl) (by kernel_rfl) (by kernel_rfl) (fun _ _ _ h => h) (by rfl) ?_ (by assumption) ?_
  rotate_left
  · (intro w hSw; (try dsimp only at hSw); go_simp; try with_reducible rfl)
  try simp only [Act.put, List.setIfInBounds_toArray, List.set_cons_zero, List.set_cons_succ]
  refine reg_take (i := 2) (v := ?_) rfl (by kernel_rfl) (by kernel_rfl) (by kernel_rfl) (fun _ _ _ h => h) (by rfl) ?_ (by assumption) ?_
  rotate_left
  · (intro w hSw; (try dsimp only at hSw); go_simp; try with_reducible rfl)
  try simp only [Act.put, List.setIfInBounds_toArray, List.set_cons_zero, List.set_cons_succ]
  refine reg_take (i := 3) (v := ?_) rfl (by kernel_rfl) (by kernel_rfl) (by kernel_rfl) (fun _ _ _ h => h) (by rfl) ?_ (by assumption) ?_
  rotate_left
  · (intro w hSw; (try dsimp only at hSw); go_simp; try with_reducible rfl)
  try simp only [Act.put, List.setIfInBounds_toArray, List.set_cons_zero, List.set_cons_succ]
  refine reg_take (i := 4) (v := ?_) rfl (by kernel_rfl) (by kernel_rfl) (by kernel_rfl) (fun _ _ _ h => h) (by rfl) ?_ (by assumption) ?_
  rotate_left
  · (intro w hSw; (try dsimp only at hSw); go_simp; try with_reducible rfl)
  try simp only [Act.put, List.setIfInBounds_toArray, List.set_cons_zero, List.set_cons_succ]
  refine reg_take (i := 5) (v := ?_) rfl (by kernel_rfl) (by kernel_rfl) (by kernel_rfl) (fun _ _ _ h => h) (by rfl) ?_ (by assumption) ?_
  rotate_left
  · (intro w hSw; (try dsimp only at hSw); go_simp; try with_reducible rfl)
  try simp only [Act.put, List.setIfInBounds_toArray, List.set_cons_zero, List.set_cons_succ]
  refine reg_take (i := 6) (v := ?_) rfl (by kernel_rfl) (by kernel_rfl) (by kernel_rfl) (fun _ _ _ h => h) (by rfl) ?_ (by assumption) ?_
  rotate_left
  · (intro w hSw; (try dsimp only at hSw); go_simp; try with_reducible rfl)
  try simp only [Act.put, List.setIfInBounds_toArray, List.set_cons_zero, List.set_cons_succ]
  refine reg_take (i := 7) (v := ?_) rfl (by kernel_rfl) (by kernel_rfl) (by kernel_rfl) (fun _ _ _ h => h) (by rfl) ?_ (by assumption) ?_
  rotate_left
  · (intro w hSw; (try dsimp only at hSw); go_simp; try with_reducible rfl)
  try simp only [Act.put, List.setIfInBounds_toArray, List.set_cons_zero, List.set_cons_succ]
  refine reg_take (i := 8) (v := ?_) rfl (by kernel_rfl) (by kernel_rfl) (by kernel_rfl) (fun _ _ _ h => h) (by rfl) ?_ (by assumption) ?_
  rotate_left
  · (intro w hSw; (try dsimp only at hSw); go_simp; try with_reducible rfl)
  try simp only [Act.put, List.setIfInBounds_toArray, List.set_cons_zero, List.set_cons_succ]
  refine reg_take (i := 9) (v := ?_) rfl (by kernel_rfl) (by kernel_rfl) (by kernel_rfl) (fun _ _ _ h => h) (by rfl) ?_ (by assumption) ?_
  rotate_left
  · (intro w hSw; (try dsimp only at hSw); go_simp; try with_reducible rfl)
  try simp only [Act.put, List.setIfInBounds_toArray, List.set_cons_zero, List.set_cons_succ]
  refine reg_take (i := 10) (v := ?_) rfl (by kernel_rfl) (by kernel_rfl) (by kernel_rfl) (fun _ _ _ h => h) (by rfl) ?_ (by assumption) ?_
  rotate_left
  · (intro w hSw; (try dsimp only at hSw); go_simp; try with_reducible rfl)
  try simp only [Act.put, List.setIfInBounds_toArray, List.set_cons_zero, List.set_cons_succ]
  refine reg_take (i := 11) (v := ?_) rfl (by kernel_rfl) (by kernel_rfl) (by kernel_rfl) (fun _ _ _ h => h) (by rfl) ?_ (by assumption) ?_
  rotate_left
  · (intro w hSw; (try dsimp only at hSw); go_simp; try with_reducible rfl)
  try simp only [Act.put, List.setIfInBounds_toArray, List.set_cons_zero, List.set_cons_succ]
  refine reg_take (i := 12) (v := ?_) rfl (by kernel_rfl) (by kernel_rfl) (by kernel_rfl) (fun _ _ _ h => h) (by rfl) ?_ (by assumption) ?_
  rotate_left
  · (intro w hSw; (try dsimp only at hSw); go_simp; try with_reducible rfl)
  try simp only [Act.put, List.setIfInBounds_toArray, List.set_cons_zero, List.set_cons_succ]
  refine reg_take (i := 13) (v := ?_) rfl (by kernel_rfl) (by kernel_rfl) (by kernel_rfl) (fun _ _ _ h => h) (by rfl) ?_ (by assumption) ?_
  rotate_left
  · (intro w hSw; (try dsimp only at hSw); go_simp; try with_reducible rfl)
  try simp only [Act.put, List.setIfInBounds_toArray, List.set_cons_zero, List.set_cons_succ]
  refine reg_take (i := 14) (v := ?_) rfl (by kernel_rfl) (by kernel_rfl) (by kernel_rfl) (fun _ _ _ h => h) (by rfl) ?_ (by assumption) ?_
  rotate_left
  · (intro w hSw; (try dsimp only at hSw); go_simp; try with_reducible rfl)
  try simp only [Act.put, List.setIfInBounds_toArray, List.set_cons_zero, List.set_cons_succ]
  refine reg_take (i := 15) (v := ?_) rfl (by kernel_rfl) (by kernel_rfl) (by kernel_rfl) (fun _ _ _ h => h) (by rfl) ?_ (by assumption) ?_
  rotate_left
  · (intro w hSw; (try dsimp only at hSw); go_simp; try with_reducible rfl)
  try simp only [Act.put, List.setIfInBounds_toArray, List.set_cons_zero, List.set_cons_succ]
  refine reg_take (i := 16) (v := ?_) rfl (by kernel_rfl) (by kernel_rfl) (by kernel_rfl) (fun _ _ _ h => h) (by rfl) ?_ (by assumption) ?_
  rotate_left
  · (intro w hSw; (try dsimp only at hSw); go_simp; try with_reducible rfl)
  try simp only [Act.put, List.setIfInBounds_toArray, List.set_cons_zero, List.set_cons_succ]
  refine reg_take (i := 17) (v := ?_) rfl (by kernel_rfl) (by kernel_rfl) (by kernel_rfl) (fun _ _ _ h => h) (by rfl) ?_ (by assumption) ?_
  rotate_left
  · (intro w hSw; (try dsimp only at hSw); go_simp; try with_reducible rfl)
  try simp only [Act.put, List.setIfInBounds_toArray, List.set_cons_zero, List.set_cons_succ]
  refine reg_take (i := 18) (v := ?_) rfl (by kernel_rfl) (by kernel_rfl) (by kernel_rfl) (fun _ _ _ h => h) (by rfl) ?_ (by assumption) ?_
  rotate_left
  · (intro w hSw; (try dsimp only at hSw); go_simp; try with_reducible rfl)
  try simp only [Act.put, List.setIfInBounds_toArray, List.set_cons_zero, List.set_cons_succ]
  refine reg_take (i := 19) (v := ?_) rfl (by kernel_rfl) (by kernel_rfl) (by kernel_rfl) (fun _ _ _ h => h) (by rfl) ?_ (by assumption) ?_
  rotate_left
  · (intro w hSw; (try dsimp only at hSw); go_simp; try with_reducible rfl)
  try simp only [Act.put, List.setIfInBounds_toArray, List.set_cons_zero, List.set_cons_succ]
  refine reg_take (i := 20) (v := ?_) rfl (by kernel_rfl) (by kernel_rfl) (by kernel_rfl) (fun _ _ _ h => h) (by rfl) ?_ (by assumption) ?_
  rotate_left
  · (intro w hSw; (try dsimp only at hSw); go_simp; try with_reducible rfl)
  try simp only [Act.put, List.setIfInBounds_toArray, List.set_cons_zero, List.set_cons_succ]
  refine reg_skip (i := 21) rfl (by kernel_rfl) (by kernel_rfl) (by kernel_rfl) (fun _ _ _ h => h) (by rfl) (by assumption) ?_
  try simp only [Act.put, List.setIfInBounds_toArray, List.set_cons_zero, List.set_cons_succ]
  refine reg_skip (i := 22) rfl (by kernel_rfl) (by kernel_rfl) (by kernel_rfl) (fun _ _ _ h => h) (by rfl) (by assumption) ?_
  try simp only [Act.put, List.setIfInBounds_toArray, List.set_cons_zero, List.set_cons_succ]
  refine reg_skip (i := 23) rfl (by kernel_rfl) (by kernel_rfl) (by kernel_rfl) (fun _ _ _ h => h) (by rfl) (by assumption) ?_
  try simp only [Act.put, List.setIfInBounds_toArray, List.set_cons_zero, List.set_cons_succ]
  refine reg_skip (i := 24) rfl (by kernel_rfl) (by kernel_rfl) (by kernel_rfl) (fun _ _ _ h => h) (by rfl) (by assumption) ?_
  try simp only [Act.put, List.setIfInBounds_toArray, List.set_cons_zero, List.set_cons_succ]
  refine reg_skip (i := 25) rfl (by kernel_rfl) (by kernel_rfl) (by kernel_rfl) (fun _ _ _ h => h) (by rfl) (by assumption) ?_
  try simp only [Act.put, List.setIfInBounds_toArray, List.set_cons_zero, List.set_cons_succ]
  refine reg_skip (i := 26) rfl (by kernel_rfl) (by kernel_rfl) (by kernel_rfl) (fun _ _ _ h => h) (by rfl) (by assumption) ?_
  try simp only [Act.put, List.setIfInBounds_toArray, List.set_cons_zero, List.set_cons_succ]
  refine reg_skip (i := 27) rfl (by kernel_rfl) (by kernel_rfl) (by kernel_rfl) (fun _ _ _ h => h) (by rfl) (by assumption) ?_
  try simp only [Act.put, List.setIfInBounds_toArray, List.set_cons_zero, List.set_cons_succ]
  refine reg_skip (i := 28) rfl (by kernel_rfl) (by kernel_rfl) (by kernel_rfl) (fun _ _ _ h => h) (by rfl) (by assumption) ?_
  try simp only [Act.put, List.setIfInBounds_toArray, List.set_cons_zero, List.set_cons_succ]
  refine reg_take (i := 29) (v := ?_) rfl (by kernel_rfl) (by kernel_rfl) (by kernel_rfl) (fun _ _ _ h => h) (by rfl) ?_ (by assumption) ?_
  rotate_left
  · (intro w hSw; (try dsimp only at hSw); go_simp; try with_reducible rfl)
  try simp only [Act.put, List.setIfInBounds_toArray, List.set_cons_zero, List.set_cons_succ]
  refine reg_step (i := 30) (by kernel_rfl) rfl (fun K hK => ?_)
  go_simp
  refine hK.out _ _ ?_ (fun hHeld2 => ?_)
  · go_keep
  clear hK K hHeld
  have hHeld := hHeld2
  clear hHeld2
  try simp only [Act.put, List.setIfInBounds_toArray, List.set_cons_zero, List.set_cons_succ]
  refine reg_step (i := 31) (by kernel_rfl) rfl (fun K hK => ?_)
  go_simp
  refine hK.out _ _ ?_ (fun hHeld2 => ?_)
  · go_keep
  clear hK K hHeld
  have hHeld := hHeld2
  clear hHeld2
  try simp only [Act.put, List.setIfInBounds_toArray, List.set_cons_zero, List.set_cons_succ]
  refine wpAnyH_done (by kernel_rfl) ?_ _
  refine NoPanic.normal ?_
  clear hHeld q2 q6 q4 e1 e6 e3 h2 h4 h6
  have s1 := (h.b.alloc (.cells #[.bool false] 4)).drew
  have r1 := own_drew (h.r.alloc (.cells #[.bool false] 4))
  have q1 := (Blk.new w 4 #[.bool false]).drew
  have C1 : Ch [] w (w.alloc (.cells #[.bool false] 4)).drew := ((Ch.refl [] w).alloc _).drew
  generalize (w.alloc _).drew = w1 at s1 r1 q1 C1 ⊢
  generalize hq : w.heap.size = q at q1 ⊢
  have Hq := Lib.hid hq
  clear hq
  have S1 : SndV w1 B g ep win wait cr T gone last (.slice A T.length cap) := ⟨hgg, s1, r1⟩
  clear s1 r1
  go_wp2_with fail
  refine (items_due B g ep win wait cr gone last T _ w1 S1 hb q false q1).mono ?_
  rintro r w2 ⟨v', rfl, hown, C2⟩
  have S2 := S1.chB (C2.toB0 (B := B) (Ts := [])) (by simp) (by simp)
  have C3 : Ch [] w w2 := C1.trans C2
  have C3' : ChB B [111, 114] w w2 := C3.toB0
  have hown2 : w2.ownsRow w.heap.size 76 2 v' _ _ := own_base hown C1.size
  have hLe : dueL wait last gone now T = itemsOf (fun y : Txt => false || !y.2) gone T := by unfold dueL; rw [HM.out, HAG.out]
  have hLn := itemsOf_len (fun y : Txt => false || !y.2) T gone
  rw [← hLe] at hown2 hLn
  have HL := Lib.hid hLe
  clear hLe hown S1 q1 C1 C2
  by_cases hE : dueL wait last gone now T = []
  · have hret : DueRet B g ep win wait cr gone last now T w (.returned (.slice none 0 0)) w2 := by
      unfold DueRet dueT dueLast
      rw [if_pos hE, if_pos hE, hE]
      exact ⟨_, rfl, World.ownsRow_nil _ _ _ _, ⟨_, S2⟩, C3'⟩
    have Hret := Lib.hid hret
    obtain ⟨A', cap', he, _⟩ := own_len hown2
    rw [hE] at he
    simp at he
    subst he
    clear hret hE hown2 S2 C3 C3' hLn
    go_wp2_with fail
    go_ret
    exact Hret.out
  · exact absurd (List.length_pos_iff.2 hE) (by have := HT0.out; omega)

set_option maxHeartbeats 4000000 in
set_option maxRecDepth 100000 in
theorem due_again (B g : Nat) (ep win wait cr gone last now : Int) (T : List Txt) (v : Value) (w : World) (h : SndV w B g ep win wait cr T gone last v) (hb : SndB win wait cr T gone last) (hBw : B ≤ w.heap.size) (hn1 : now ≤ 2000000000000000) (hn2 : 0 ≤ now) (hn0 : last ≤ now) (hw : wait ≤ now - last) (x : Txt) (T1 : List Txt) (hTx : T = x :: T1) :
    Calls Try.prog 37 #[.pointer (some ⟨g, 0, none⟩), .int .i64 now] w (DueRet B g ep win wait cr gone last now T w) := by
  have hl1 := hb.l1
  have ht2 := hb.t2
  have ht1 := hb.t1
  have hnT := hb.n2
  have hgg := h.hB
  obtain ⟨m, hm⟩ : ∃ m, max now last = m := ⟨_, rfl⟩
  have hag : againB wait last m T = x.2 := by rw [hTx, ← hm, Int.max_eq_left (by omega)]; simp [againB, hw]
  obtain ⟨A, cap, hv⟩ := h.len
  subst hv
  have h2 := h.b.cell 2
  have h4 := h.b.cell 4
  have h6 := h.b.cell 6
  simp at h2 h4 h6
  have hT0 : 0 < T.length := by rw [hTx]; simp
  obtain ⟨gv, cap2, he, hgB, hgl, _, _, hcells, hfz⟩ := own_at h.r hT0
  injection he with hA _ hcp
  subst hA hcp
  obtain ⟨_, c1⟩ := txtCells_get T 0 x (by rw [hTx]; rfl)
  have c2 := hcells _ _ c1
  simp at c2
  have q1c : ∀ o, (w.alloc o).cell? ⟨gv, 1, none⟩ = some (.bool x.2) := fun o => (World.cell?_alloc_lt w o ⟨gv, 1, none⟩ hgl).trans c2
  have e1 : decide (wait ≤ now - last) = true := by simp; omega
  have e6 : IntKind.i64.wrap (now - last) = now - last := IntWalk.i64_in _ (by omega)
  have e3 : decide (0 < T.length) = true := decide_eq_true (by omega)
  have q4 := fun o => (h.b.alloc o).cell 4
  simp at q4
  have HTx := Lib.hid hTx
  clear hTx c1 hcells hfz
  have q2 := fun o => (h.b.alloc o).cell 2
  have q6 := fun o => (h.b.alloc o).cell 6
  simp at q2 q6
  have HM := Lib.hid hm
  have HAG := Lib.hid hag
  clear hm hag
  go_enter Try.func37, Try.ntmps37
  go_wp2_with fail
  refine wp_region_noPanic ?_
  refine wp_region_held_drew (S := (fun w' => w'.cell? ⟨g, 2, none⟩ = some (.int .i64 wait) ∧ w'.cell? ⟨g, 6, none⟩ = some (.int .i64 last) ∧ w'.cell? ⟨g, 4, none⟩ = some (.slice (some ⟨gv, 0, none⟩) T.length cap) ∧ w'.cell? ⟨gv, 1, none⟩ = some (.bool x.2))) (by kernel_rfl) ?_ (fun hHeld => ?_)
  · go_keep
  refine reg_take (i := 0) (v := ?_) rfl (by kernel_rfl) (by kernel_rfl) (by kernel_rfl) (fun _ _ _ h => h) (by rfl) ?_ (by assumption) ?_
  rotate_left
  · (intro w hSw; (try dsimp only at hSw); go_simp; try with_reducible rfl)
  try simp only [Act.put, List.setIfInBounds_toArray, List.set_cons_zero, List.set_cons_succ]
  refine reg_take (i := 1) (v := ?_) rfl (by kernel_rfl) (by kernel_rfl) (by kernel_rfl) (fun _ _ _ h => h) (by rfl) ?_ (by assumption) ?_
  rotate_left
  · (intro w hSw; (try dsimp only at hSw); go_simp; try with_reducible rfl)
  try simp only [Act.put, List.setIfInBounds_toArray, List.set_cons_zero, List.set_cons_succ]
  refine reg_take (i := 2) (v := ?_) rfl (by kernel_rfl) (by kernel_rfl) (by kernel_rfl) (fun _ _ _ h => h) (by rfl) ?_ (by assumption) ?_
  rotate_left
  · (intro w hSw; (try dsimp only at hSw); go_simp; try with_reducible rfl)
  try simp only [Act.put, List.setIfInBounds_toArray, List.set_cons_zero, List.set_cons_succ]
  refine reg_take (i := 3) (v := ?_) rfl (by kernel_rfl) (by kernel_rfl) (by kernel_rfl) (fun _ _ _ h => h) (by rfl) ?_ (by assumption) ?_
  rotate_left
  · (intro w hSw; (try dsimp only at hSw); go_simp; try with_reducible rfl)
  try simp only [Act.put, List.setIfInBounds_toArray, List.set_cons_zero, List.set_cons_succ]
  refine reg_take (i := 4) (v := ?_) rfl (by kernel_rfl) (by kernel_rfl) (by kernel_rfl) (fun _ _ _ h => h) (by rfl) ?_ (by assumption) ?_
  rotate_left
  · (intro w hSw; (try dsimp only at hSw); go_simp; try with_reducible rfl)
  try simp only [Act.put, List.setIfInBounds_toArray, List.set_cons_zero, List.set_cons_succ]
  refine reg_take (i := 5) (v := ?_) rfl (by kernel_rfl) (by kernel_rfl) (by kernel_rfl) (fun _ _ _ h => h) (by rfl) ?_ (by assumption) ?_
  rotate_left
  · (intro w hSw; (try dsimp only at hSw); go_simp; try with_reducible rfl)
  try simp only [Act.put, List.setIfInBounds_toArray, List.set_cons_zero, List.set_cons_succ]
  refine reg_take (i := 6) (v := ?_) rfl (by kernel_rfl) (by kernel_rfl) (by kernel_rfl) (fun _ _ _ h => h) (by rfl) ?_ (by assumption) ?_
  rotate_left
  · (intro w hSw; (try dsimp only at hSw); go_simp; try with_reducible rfl)
  try simp only [Act.put, List.setIfInBounds_toArray, List.set_cons_zero, List.set_cons_succ]
  refine reg_take (i := 7) (v := ?_) rfl (by kernel_rfl) (by kernel_rfl) (by kernel_rfl) (fun _ _ _ h => h) (by rfl) ?_ (by assumption) ?_
  rotate_left
  · (intro w hSw; (try dsimp only at hSw); go_simp; try with_reducible rfl)
  try simp only [Act.put, List.setIfInBounds_toArray, List.set_cons_zero, List.set_cons_succ]
  refine reg_take (i := 8) (v := ?_) rfl (by kernel_rfl) (by kernel_rfl) (by kernel_rfl) (fun _ _ _ h => h) (by rfl) ?_ (by assumption) ?_
  rotate_left
  · (intro w hSw; (try dsimp only at hSw); go_simp; try with_reducible rfl)
  try simp only [Act.put, List.setIfInBounds_toArray, List.set_cons_zero, List.set_cons_succ]
  refine reg_take (i := 9) (v := ?_) rfl (by kernel_rfl) (by kernel_rfl) (by kernel_rfl) (fun _ _ _ h => h) (by rfl) ?_ (by assumption) ?_
  rotate_left
  · (intro w hSw; (try dsimp only at hSw); go_simp; try with_reducible rfl)
  try simp only [Act.put, List.setIfInBounds_toArray, List.set_cons_zero, List.set_cons_succ]
  refine reg_take (i := 10) (v := ?_) rfl (by kernel_rfl) (by kernel_rfl) (by kernel_rfl) (fun _ _ _ h => h) (by rfl) ?_ (by assumption) ?_
  rotate_left
  · (intro w hSw; (try dsimp only at hSw); go_simp; try with_reducible rfl)
  try simp only [Act.put, List.setIfInBounds_toArray, List.set_cons_zero, List.set_cons_succ]
  refine reg_take (i := 11) (v := ?_) rfl (by kernel_rfl) (by kernel_rfl) (by kernel_rfl) (fun _ _ _ h => h) (by rfl) ?_ (by assumption) ?_
  rotate_left
  · (intro w hSw; (try dsimp only at hSw); go_simp; try with_reducible rfl)
  try simp only [Act.put, List.setIfInBounds_toArray, List.set_cons_zero, List.set_cons_succ]
  refine reg_take (i := 12) (v := ?_) rfl (by kernel_rfl) (by kernel_rfl) (by kernel_rfl) (fun _ _ _ h => h) (by rfl) ?_ (by assumption) ?_
  rotate_left
  · (intro w hSw; (try dsimp only at hSw); go_simp; try with_reducible rfl)
  try simp only [Act.put, List.setIfInBounds_toArray, List.set_cons_zero, List.set_cons_succ]
  refine reg_take (i := 13) (v := ?_) rfl (by kernel_rfl) (by kernel_rfl) (by kernel_rfl) (fun _ _ _ h => h) (by rfl) ?_ (by assumption) ?_
  rotate_left
  · (intro w hSw; (try dsimp only at hSw); go_simp; try with_reducible rfl)
  try simp only [Act.put, List.setIfInBounds_toArray, List.set_cons_zero, List.set_cons_succ]
  refine reg_take (i := 14) (v := ?_) rfl (by kernel_rfl) (by kernel_rfl) (by kernel_rfl) (fun _ _ _ h => h) (by rfl) ?_ (by assumption) ?_
  rotate_left
  · (intro w hSw; (try dsimp only at hSw); go_simp; try with_reducible rfl)
  try simp only [Act.put, List.setIfInBounds_toArray, List.set_cons_zero, List.set_cons_succ]
  refine reg_take (i := 15) (v := ?_) rfl (by kernel_rfl) (by kernel_rfl) (by kernel_rfl) (fun _ _ _ h => h) (by rfl) ?_ (by assumption) ?_
  rotate_left
  · (intro w hSw; (try dsimp only at hSw); go_simp; try with_reducible rfl)
  try simp only [Act.put, List.setIfInBounds_toArray, List.set_cons_zero, List.set_cons_succ]
  refine reg_take (i := 16) (v := ?_) rfl (by kernel_rfl) (by kernel_rfl) (by kernel_rfl) (fun _ _ _ h => h) (by rfl) ?_ (by assumption) ?_
  rotate_left
  · (intro w hSw; (try dsimp only at hSw); go_simp; try with_reducible rfl)
  try simp only [Act.put, List.setIfInBounds_toArray, List.set_cons_zero, List.set_cons_succ]
  refine reg_take (i := 17) (v := ?_) rfl (by kernel_rfl) (by kernel_rfl) (by kernel_rfl) (fun _ _ _ h => h) (by rfl) ?_ (by assumption) ?_
  rotate_left
  · (intro w hSw; (try dsimp only at hSw); go_simp; try with_reducible rfl)
  try simp only [Act.put, List.setIfInBounds_toArray, List.set_cons_zero, List.set_cons_succ]
  refine reg_take (i := 18) (v := ?_) rfl (by kernel_rfl) (by kernel_rfl) (by kernel_rfl) (fun _ _ _ h => h) (by rfl) ?_ (by assumption) ?_
  rotate_left
  · (intro w hSw; (try dsimp only at hSw); go_simp; try with_reducible rfl)
  try simp only [Act.put, List.setIfInBounds_toArray, List.set_cons_zero, List.set_cons_succ]
  refine reg_take (i := 19) (v := ?_) rfl (by kernel_rfl) (by kernel_rfl) (by kernel_rfl) (fun _ _ _ h => h) (by rfl) ?_ (by assumption) ?_
  rotate_left
  · (intro w hSw; (try dsimp only at hSw); go_simp; try with_reducible rfl)
  try simp only [Act.put, List.setIfInBounds_toArray, List.set_cons_zero, List.set_cons_succ]
  refine reg_take (i := 20) (v := ?_) rfl (by kernel_rfl) (by kernel_rfl) (by kernel_rfl) (fun _ _ _ h => h) (by rfl) ?_ (by assumption) ?_
  rotate_left
  · (intro w hSw; (try dsimp only at hSw); go_simp; try with_reducible rfl)
  try simp only [Act.put, List.setIfInBounds_toArray, List.set_cons_zero, List.set_cons_succ]
  refine reg_take (i := 21) (v := ?_) rfl (by kernel_rfl) (by kernel_rfl) (by kernel_rfl) (fun _ _ _ h => h) (by rfl) ?_ (by assumption) ?_
  rotate_left
  · (intro w hSw; (try dsimp only at hSw); go_simp; try with_reducible rfl)
  try simp only [Act.put, List.setIfInBounds_toArray, List.set_cons_zero, List.set_cons_succ]
  refine reg_take (i := 22) (v := ?_) rfl (by kernel_rfl) (by kernel_rfl) (by kernel_rfl) (fun _ _ _ h => h) (by rfl) ?_ (by assumption) ?_
  rotate_left
  · (intro w hSw; (try dsimp only at hSw); go_simp; try with_reducible rfl)
  try simp only [Act.put, List.setIfInBounds_toArray, List.set_cons_zero, List.set_cons_succ]
  refine reg_take (i := 23) (v := ?_) rfl (by kernel_rfl) (by kernel_rfl) (by kernel_rfl) (fun _ _ _ h => h) (by rfl) ?_ (by assumption) ?_
  rotate_left
  · (intro w hSw; (try dsimp only at hSw); go_simp; try with_reducible rfl)
  try simp only [Act.put, List.setIfInBounds_toArray, List.set_cons_zero, List.set_cons_succ]
  refine reg_take (i := 24) (v := ?_) rfl (by kernel_rfl) (by kernel_rfl) (by kernel_rfl) (fun _ _ _ h => h) (by rfl) ?_ (by assumption) ?_
  rotate_left
  · (intro w hSw; (try dsimp only at hSw); go_simp; try with_reducible rfl)
  try simp only [Act.put, List.setIfInBounds_toArray, List.set_cons_zero, List.set_cons_succ]
  refine reg_take (i := 25) (v := ?_) rfl (by kernel_rfl) (by kernel_rfl) (by kernel_rfl) (fun _ _ _ h => h) (by rfl) ?_ (by assumption) ?_
  rotate_left
  · (intro w hSw; (try dsimp only at hSw); go_simp; try with_reducible rfl)
  try simp only [Act.put, List.setIfInBounds_toArray, List.set_cons_zero, List.set_cons_succ]
  refine reg_take (i := 26) (v := ?_) rfl (by kernel_rfl) (by kernel_rfl) (by kernel_rfl) (fun _ _ _ h => h) (by rfl) ?_ (by assumption) ?_
  rotate_left
  · (intro w hSw; (try dsimp only at hSw); go_simp; try with_reducible rfl)
  try simp only [Act.put, List.setIfInBounds_toArray, List.set_cons_zero, List.set_cons_succ]
  refine reg_take (i := 27) (v := ?_) rfl (by kernel_rfl) (by kernel_rfl) (by kernel_rfl) (fun _ _ _ h => h) (by rfl) ?_ (by assumption) ?_
  rotate_left
  · (intro w hSw; (try dsimp only at hSw); go_simp; try with_reducible rfl)
  try simp only [Act.put, List.setIfInBounds_toArray, List.set_cons_zero, List.set_cons_succ]
  refine reg_take (i := 28) (v := ?_) rfl (by kernel_rfl) (by kernel_rfl) (by kernel_rfl) (fun _ _ _ h => h) (by rfl) ?_ (by assumption) ?_
  rotate_left
  · (intro w hSw; (try dsimp only at hSw); go_simp; try with_reducible rfl)
  try simp only [Act.put, List.setIfInBounds_toArray, List.set_cons_zero, List.set_cons_succ]
  refine reg_take (i := 29) (v := ?_) rfl (by kernel_rfl) (by kernel_rfl) (by kernel_rfl) (fun _ _ _ h => h) (by rfl) ?_ (by assumption) ?_
  rotate_left
  · (intro w hSw; (try dsimp only at hSw); go_simp; try with_reducible rfl)
  try simp only [Act.put, List.setIfInBounds_toArray, List.set_cons_zero, List.set_cons_succ]
  refine reg_step (i := 30) (by kernel_rfl) rfl (fun K hK => ?_)
  go_simp
  refine hK.out _ _ ?_ (fun hHeld2 => ?_)
  · go_keep
  clear hK K hHeld
  have hHeld := hHeld2
  clear hHeld2
  try simp only [Act.put, List.setIfInBounds_toArray, List.set_cons_zero, List.set_cons_succ]
  refine reg_step (i := 31) (by kernel_rfl) rfl (fun K hK => ?_)
  go_simp
  refine hK.out _ _ ?_ (fun hHeld2 => ?_)
  · go_keep
  clear hK K hHeld
  have hHeld := hHeld2
  clear hHeld2
  try simp only [Act.put, List.setIfInBounds_toArray, List.set_cons_zero, List.set_cons_succ]
  refine wpAnyH_done (by kernel_rfl) ?_ _
  refine NoPanic.normal ?_
  clear hHeld q2 q6 q4 q1c e1 e6 e3 h2 h4 h6 c2
  generalize hAA : (some (⟨gv, 0, none⟩ : Addr)) = A at h ⊢
  clear hAA
  have s1 := (h.b.alloc (.cells #[.bool x.2] 4)).drew
  have r1 := own_drew (h.r.alloc (.cells #[.bool x.2] 4))
  have q1 := (Blk.new w 4 #[.bool x.2]).drew
  have C1 : Ch [] w (w.alloc (.cells #[.bool x.2] 4)).drew := ((Ch.refl [] w).alloc _).drew
  generalize (w.alloc _).drew = w1 at s1 r1 q1 C1 ⊢
  generalize hq : w.heap.size = q at q1 ⊢
  have Hq := Lib.hid hq
  clear hq
  have S1 : SndV w1 B g ep win wait cr T gone last (.slice A T.length cap) := ⟨hgg, s1, r1⟩
  clear s1 r1
  go_wp2_with fail
  refine (items_due B g ep win wait cr gone last T _ w1 S1 hb q x.2 q1).mono ?_
  rintro r w2 ⟨v', rfl, hown, C2⟩
  have S2 := S1.chB (C2.toB0 (B := B) (Ts := [])) (by simp) (by simp)
  have C3 : Ch [] w w2 := C1.trans C2
  have C3' : ChB B [111, 114] w w2 := C3.toB0
  have hown2 : w2.ownsRow w.heap.size 76 2 v' _ _ := own_base hown C1.size
  have hLe : dueL wait last gone now T = itemsOf (fun y : Txt => x.2 || !y.2) gone T := by unfold dueL; rw [HM.out, HAG.out]
  have hLn := itemsOf_len (fun y : Txt => x.2 || !y.2) T gone
  rw [← hLe] at hown2 hLn
  have HL := Lib.hid hLe
  clear hLe hown S1 q1 C1 C2
  by_cases hE : dueL wait last gone now T = []
  · have hret : DueRet B g ep win wait cr gone last now T w (.returned (.slice none 0 0)) w2 := by
      unfold DueRet dueT dueLast
      rw [if_pos hE, if_pos hE, hE]
      exact ⟨_, rfl, World.ownsRow_nil _ _ _ _, ⟨_, S2⟩, C3'⟩
    have Hret := Lib.hid hret
    obtain ⟨A', cap', he, _⟩ := own_len hown2
    rw [hE] at he
    simp at he
    subst he
    clear hret hE hown2 S2 C3 C3' hLn
    go_wp2_with fail
    go_ret
    exact Hret.out
  · have hpos : 0 < (dueL wait last gone now T).length := List.length_pos_iff.2 hE
    generalize hLL : dueL wait last gone now T = L at hown2 hpos hLn
    have HLL := Lib.hid hLL
    clear hLL
    have HE := Lib.hid hE
    clear hE
    obtain ⟨A', cap', he, _⟩ := own_len hown2
    subst he
    have hz : ((L.length : Int) == 0) = false := by rw [beq_eq_false_iff_ne]; omega
    have k4 := S2.b.cell 4
    simp at k4
    go_wp2_with fail
    go_loopw [56] (fun i wr => ∃ k : Nat, i = .int .i64 k ∧ k ≤ T.length ∧ SndV wr B g ep win wait cr (markN k T) gone last (.slice A T.length cap) ∧ wr.ownsRow w.heap.size 76 2 (.slice A' L.length cap') L.length (itmCells L) ∧ ChB B [111, 114] w wr) (fun i _ => T.length - (intOf i).toNat)
    case atStart => exact ⟨0, rfl, Nat.zero_le _, by rw [markN_zero]; exact S2, hown2, C3'⟩
    case round =>
      obtain ⟨k, rfl, hk, S, ho, hC⟩ := hrel
      clear S2 hown2 C3 C3' k4
      by_cases hlt : k < T.length
      · have hr := S.r
        rw [markN_len] at hr
        obtain ⟨gv, cap2, he, hgB, _, _, _, hcells, hfz⟩ := own_at hr (by omega)
        injection he with hA _ hcp
        subst hA hcp
        have hgk := markN_get k T hlt
        obtain ⟨_, c1⟩ := txtCells_get (markN k T) k _ hgk
        have c2 := hcells _ _ c1
        have f2 := hfz (k * 2 + 1)
        have b2 := S.b.cell 4
        simp at b2
        have hst := hr.stored (k * 2 + 1) (.bool true)
        rw [txtCells_set _ k _ true hgk, markN_succ k T hlt] at hst
        have hblk := hr
        have hne := own_ne hr S.b (by decide)
        have hgne : g ≠ gv := fun e => hne (by rw [e]; rfl)
        have S' : SndV (wr.setCell ⟨gv, k * 2 + 1, none⟩ (.bool true)) B g ep win wait cr (markN (k + 1) T) gone last (.slice (some ⟨gv, 0, none⟩) T.length cap) := ⟨hgg, S.b.far (p := ⟨gv, k * 2 + 1, none⟩) hgne _, by rw [markN_len]; exact hst.1⟩
        have ho' := own_ch ho ((Ch.refl [gv] wr).setCell (p := ⟨gv, k * 2 + 1, none⟩) (.inl (by simp)) (.bool true)) (fun q hq hm => own_two ho hr (by decide) q hq (by rw [List.mem_singleton.1 hm]; rfl))
        have hC' : ChB B [111, 114] w (wr.setCell ⟨gv, k * 2 + 1, none⟩ (.bool true)) := ChB.grown (v := .slice (some ⟨gv, 0, none⟩) T.length cap) hC hst.2 hr (Nat.le_refl _) (by simp)
        clear hcells hfz c1 hst hblk hne hr S ho hC hgk
        go_wp2_with fail
        go_roundw
        case rel => exact ⟨k + 1, by simp, by omega, S', ho', hC'⟩
        case measure => simp [intOf]; omega
      · obtain rfl : k = T.length := by omega
        rw [markN_all] at S
        have b6 := S.b.cell 6
        have f6 := S.b.frozen 6
        have b7 := S.b.set_ 6 (.int .i64 now)
        have hne := own_ne S.r S.b (by decide)
        have hne2 := own_ne ho S.b (by decide)
        have r7 := own_ch S.r ((Ch.refl [g] wr).setCell (p := ⟨g, 6, none⟩) (.inl (by simp)) (.int .i64 now)) (fun q hq hm => hne (by rw [List.mem_singleton.1 hm] at hq; exact hq.symm))
        have o7 := own_ch ho ((Ch.refl [g] wr).setCell (p := ⟨g, 6, none⟩) (.inl (by simp)) (.int .i64 now)) (fun q hq hm => hne2 (by rw [List.mem_singleton.1 hm] at hq; exact hq.symm))
        have C7 : ChB B [111, 114] w (wr.setCell ⟨g, 6, none⟩ (.int .i64 now)) := hC.setCell (p := ⟨g, 6, none⟩) hgg S.b (by simp) _
        have S7 : SndV (wr.setCell ⟨g, 6, none⟩ (.int .i64 now)) B g ep win wait cr (T.map fun x => (x.1, true)) gone now (.slice A T.length cap) := ⟨hgg, b7, r7⟩
        have hret : DueRet B g ep win wait cr gone last now T w (.returned (.slice A' L.length cap')) (wr.setCell ⟨g, 6, none⟩ (.int .i64 now)) := by
          unfold DueRet dueT dueLast
          rw [if_neg HE.out, if_neg HE.out, HLL.out, HM.out, show m = now from (by rw [← HM.out]; exact Int.max_eq_left (by omega))]
          exact ⟨_, rfl, o7, ⟨_, S7⟩, C7⟩
        have Hret := Lib.hid hret
        simp at b6
        clear hret o7 S7 C7 r7 b7 hne hne2 S ho hC
        go_wp2_with fail
        go_ret
        exact Hret.out

theorem due_v (B g : Nat) (ep win wait cr gone last now : Int) (T : List Txt) (v : Value) (w : World) (h : SndV w B g ep win wait cr T gone last v) (hb : SndB win wait cr T gone last) (hBw : B ≤ w.heap.size) (hn1 : now ≤ 2000000000000000) (hn2 : 0 ≤ now) :
    Calls Try.prog 37 #[.pointer (some ⟨g, 0, none⟩), .int .i64 now] w (DueRet B g ep win wait cr gone last now T w) := by
  by_cases h1 : now < last
  · exact due_back B g ep win wait cr gone last now T v w h hb hBw hn1 hn2 h1
  by_cases h2 : now - last < wait
  · exact due_soon B g ep win wait cr gone last now T v w h hb hBw hn1 hn2 (by omega) h2
  cases hT : T with
  | nil => subst hT; exact due_none B g ep win wait cr gone last now [] v w h hb hBw hn1 hn2 (by omega) (by omega) rfl
  | cons x T1 => rw [← hT]; exact due_again B g ep win wait cr gone last now T v w h hb hBw hn1 hn2 (by omega) (by omega) x T1 hT
end Go.Proofs.Ytejmcfgmopijkaa
