/- By hand: what the closures of package rank answer, and Under and Part: those nodes of which it is so. Conditions: a path's slice of at most a million numbers. -/
import Derived.Test.YtagnpmmcoaemeaaPl
import Derived.Test.YtagnpmmcoaemeaaReg
import Derived.Laws.EntriesVeiled
import Derived.Lib.Hide
import Derived.Outline
namespace Go.Proofs.Ytagnpmmcoaemeaa.R16
open Go.RowKit Go.Proofs.YtagnpmmcoaemeaaW.PrintWords Go.Proofs.YtagnpmmcoaemeaaW.PrintLast Go.Proofs.YtagnpmmcoaemeaaW.PrintMore
set_option linter.unusedVariables false
set_option linter.unusedSimpArgs false

/-- A box: one cell of a block of its own. -/
def Bx (w : World) (q : Nat) (v : Value) : Prop := w.cell? ⟨q, 0, none⟩ = some v ∧ q < w.heap.size
theorem Bx.below {w w' : World} {q : Nat} {v : Value} (h : Bx w q v) (hb : Below w.heap.size w w') : Bx w' q v := ⟨(hb.cell (p := ⟨q, 0, none⟩) h.2).trans h.1, Nat.lt_of_lt_of_le h.2 hb.size⟩
theorem Bx.drew {w : World} {q : Nat} {v : Value} (h : Bx w q v) : Bx w.drew q v := h
theorem Bx.new (w : World) (v : Value) (t : TypeId) : Bx (w.alloc (.cells #[v] t)) w.heap.size v := ⟨cell_of_row _ _ 0 #[v] t (0, 0) (heap_alloc_new w _), by simp⟩
theorem Bx.alloc {w : World} {q : Nat} {v : Value} (h : Bx w q v) (o : Obj) : Bx (w.alloc o) q v := h.below ((Below.refl _ w).alloc (Nat.le_refl _) o)
theorem below_of_drawn {w w' : World} (h : Drawn0 w w') : Below w.heap.size w w' := by
  obtain ⟨n, rfl⟩ := h.out
  exact pw_below_drewN (Below.refl _ _) n
theorem below_join {w w1 w2 : World} (h : Below w.heap.size w w1) (k : Below w1.heap.size w1 w2) : Below w.heap.size w w2 := h.trans (k.mono h.size)

theorem under1_c (A0 : Option Addr) (c0 : Nat) (l0 : List Int) (a : Int) (i q0 q1 : Nat) (w : World) (h0 : Bx w q0 (.slice A0 l0.length c0)) (h1 : Bx w q1 (.int .i64 a)) (hr : Kd.C (Kd.int .i64) w A0 l0.length l0) (hi : i < l0.length) :
    Calls Try.prog 34 #[.int .i64 (i : Int), .pointer (some ⟨q0, 0, none⟩), .pointer (some ⟨q1, 0, none⟩)] w fun e w' => e = .returned (.bool (rd l0 (i : Int) == a)) ∧ Below w.heap.size w w' := by
  obtain ⟨ad, rfl, hx⟩ := Kd.at_int hr (i : Int) (by omega) (by omega)
  simp only [Int.toNat_natCast] at hx
  have c0 := h0.1
  have c1 := h1.1
  have z0 : (0 : Int) ≤ i := by omega
  have z1 : (i : Int) < l0.length := by omega
  generalize rd l0 (i : Int) = x at hx ⊢
  clear h0 h1 hr
  go_enter Try.func34, Try.ntmps34
  go_wp2_with fail
  go_quiet (fail)
  go_wp2
  go_ret
  exact ⟨rfl, pw_below_drewN (Below.refl _ _) _⟩

theorem top1_c (A0 : Option Addr) (c0 : Nat) (l0 : List Int) (n : Int) (q0 : Nat) (w : World) (h0 : Bx w q0 (.slice A0 l0.length c0)) (hr : Kd.C (Kd.int .i64) w A0 l0.length l0) (hc : l0.length ≤ c0) (hl : l0.length ≤ 1000000) (hn : okP l0 n) :
    Calls Try.prog 35 #[.int .i64 n, .pointer (some ⟨q0, 0, none⟩)] w fun e w' => e = .returned (.int .i64 (topN l0 n)) ∧ Below w.heap.size w w' := by
  obtain ⟨K, hK⟩ := (path_ev l0 hl n).rounds
  have HC := Lib.hid (rank_Path.calls K A0 c0 l0 n (pathN l0 n) w hr hc hK)
  have k0 := h0.1
  have hlen := pathN_len l0 n
  have hne : (pathN l0 n).length ≠ 0 := by rw [pathN_cons hn]; simp
  unfold topN
  generalize pathN l0 n = L at HC hlen hne ⊢
  obtain ⟨m, hm⟩ : ∃ m, L.length = m + 1 := ⟨L.length - 1, by omega⟩
  have HM := Lib.hid hm
  have hmb : m ≤ 1000000 := by omega
  rw [show ((L.length : Int) - 1) = (m : Int) by omega]
  clear h0 hr hK hn
  go_enter Try.func35, Try.ntmps35
  go_wp2_with fail
  refine HC.out.mono ?_
  rintro e w1 ⟨v, rfl, ho, hb⟩
  obtain ⟨A, c, rfl, _, hC⟩ := Kd.R_reads ho
  obtain ⟨ad, rfl, hx⟩ := Kd.at_int hC ((m : Nat) : Int) (by omega) (by omega)
  simp only [Int.toNat_natCast] at hx
  clear hC hm
  clear ho HC hne hlen
  rw [HM.out]
  have z1 : (m : Int) < (m : Int) + 1 := by omega
  have z2 : m < m + 1 := by omega
  go_wp2
  go_ret
  exact ⟨rfl, hb⟩

set_option maxHeartbeats 4000000 in
set_option maxRecDepth 100000 in
theorem such34 (A0 : Option Addr) (c0 : Nat) (l0 : List Int) (a : Int) (p : Nat → Bool) (x1 x2 : Value) (w : World) (hr : Kd.C (Kd.int .i64) w A0 l0.length l0) (hc : l0.length ≤ c0) (hl : l0.length ≤ 1000000)
    (hso : okP l0 a → ∀ (i : Nat) (w1 : World), i < l0.length → Below w.heap.size w w1 → Calls Try.prog 34 #[.int .i64 (i : Int), x1, x2] w1 fun e w' => e = .returned (.bool (p i)) ∧ Below w1.heap.size w1 w') :
    Calls Try.prog 33 #[.slice A0 l0.length c0, .int .i64 a, .func (.func 34) #[] #[x1, x2]] w fun e w' => ∃ v : Value, e = .returned v ∧ Kd.R (Kd.int .i64) 3 w' w.heap.size (fun _ => True) v (if okP l0 a then pick p l0.length else []) ∧ Below w.heap.size w w' := by
  obtain ⟨K, hK⟩ := (path_ev l0 hl a).rounds
  have HC := Lib.hid (rank_Path.calls K A0 c0 l0 a (pathN l0 a) w hr hc hK)
  by_cases hok : okP l0 a
  · rw [if_pos hok]
    have HSO := Lib.hid (hso hok)
    have hne : (pathN l0 a).length ≠ 0 := by rw [pathN_cons hok]; simp
    clear hso hr hK hok
    generalize pathN l0 a = L at HC hne
    have t1 : ((L.length : Int) == 0) = false := by simp; exact fun h => hne (by rw [h]; rfl)
    have t2 : (L.length == 0) = false := by simpa using hne
    go_enter Try.func33, Try.ntmps33
    go_wp2_with fail
    refine HC.out.mono ?_
    rintro e w1 ⟨v, rfl, ho, hb1⟩
    obtain ⟨A, c, rfl⟩ := Kd.R_slice ho
    have HB := Aside0.mk hb1
    clear ho HC hb1 hne
    go_wp2_with fail
    go_loopw [7, 16] (fun v i wr => ∃ k : Nat, i = .int .i64 k ∧ k ≤ l0.length ∧ Aside0 (Kd.R (Kd.int .i64) 3 wr w.heap.size (fun _ => True) v (pick p k)) ∧ Aside0 (Below w.heap.size w wr)) (fun _ i _ => l0.length - (intOf i).toNat)
    case atStart => exact ⟨0, rfl, Nat.zero_le _, ⟨Kd.R_nil _ _ _ _ _⟩, HB⟩
    case round =>
      clear HB
      obtain ⟨k, rfl, hk, HO, HB⟩ := hrel
      by_cases hlt : k < l0.length
      · have HP := Lib.hid (pick_succ p k)
        have hpl := pick_len p k
        go_wp2_with fail
        refine (HSO.out k _ hlt HB.out).mono ?_
        rintro e w2 ⟨rfl, hb2⟩
        have HB2 := Aside0.mk (below_join HB.out hb2)
        have HO2 := Aside0.mk (Kd.R_below HO.out hb2)
        clear HB HO hb2
        cases hp : p k with
        | true =>
          rw [hp, if_pos rfl] at HP
          generalize pick p k = L1 at HO2 HP hpl
          clear hp
          go_wp2_with (first | ((with_reducible refine gate_builtin (b := .append) (xs := #[.tmp 22, .tmp 24]) rfl ?_); at_builtin; refine Kd.R_append (Kd.int .i64) (w0 := w) w.heap.size rfl (.tmp 22) (.tmp 24) 24 3 (.int .i64 0) 8 rfl Try.underlying24 info3 rfl (by decide) (by omega) u7 L1 (k : Int) [.int .i64 (k : Int)] (fun _ => True) (fun _ => False) rfl rfl ?aP (fun _ hk => hk.elim) ?aF ?aO ?aB ?aS ?aL ?_; (case aP => exact rfl); (case aB => exact (by repeat (first | (with_reducible first | exact HB2.out | apply below_alloc | apply pw_below_drewN | apply below_drew1) | exact HB2.out))); (case aF => exact (fun _ _ => trivial)); (case aO => exact (by (with_reducible repeat (first | apply Kd.R_alloc | apply Kd.R_drewN | apply Kd.R_drew)); exact HO2.out)); (case aS => exact (below_size (by repeat (first | (with_reducible first | exact HB2.out | apply below_alloc | apply pw_below_drewN | apply below_drew1) | exact HB2.out)))); (case aL => omega); intro v3 w3 ho hb hg hat; have n0_ := Aside0.mk hb; have n1_ := Aside0.mk ho; clear HB2; clear HO2; clear ho hb hg hat))
          go_roundw
          case rel => exact ⟨k + 1, by simp, by omega, ⟨by rw [HP.out]; exact n1_.out⟩, n0_⟩
          case measure => simp [intOf]; omega
        | false =>
          rw [hp] at HP
          clear hp
          go_wp2_with fail
          go_roundw
          case rel => exact ⟨k + 1, by simp, by omega, ⟨by rw [HP.out]; simpa using HO2.out⟩, HB2⟩
          case measure => simp [intOf]; omega
      · obtain rfl : k = l0.length := by omega
        clear hk
        go_wp2_with fail
        go_ret
        exact ⟨_, rfl, HO.out, HB.out⟩
  · rw [if_neg hok]
    have hz : pathN l0 a = [] := pathN_no hok
    rw [hz] at HC
    clear hso hr hK hok hz
    go_enter Try.func33, Try.ntmps33
    go_wp2_with fail
    refine HC.out.mono ?_
    rintro e w1 ⟨v, rfl, ho, hb1⟩
    obtain ⟨A, c, rfl⟩ := Kd.R_slice ho
    clear ho HC
    go_wp2_with fail
    go_ret
    exact ⟨_, rfl, Kd.R_nil _ _ _ _ _, hb1⟩

set_option maxHeartbeats 4000000 in
set_option maxRecDepth 100000 in
theorem such36 (A0 : Option Addr) (c0 : Nat) (l0 : List Int) (a : Int) (p : Nat → Bool) (x1 x2 : Value) (w : World) (hr : Kd.C (Kd.int .i64) w A0 l0.length l0) (hc : l0.length ≤ c0) (hl : l0.length ≤ 1000000)
    (hso : okP l0 a → ∀ (i : Nat) (w1 : World), i < l0.length → Below w.heap.size w w1 → Calls Try.prog 36 #[.int .i64 (i : Int), x1, x2] w1 fun e w' => e = .returned (.bool (p i)) ∧ Below w1.heap.size w1 w') :
    Calls Try.prog 33 #[.slice A0 l0.length c0, .int .i64 a, .func (.func 36) #[] #[x1, x2]] w fun e w' => ∃ v : Value, e = .returned v ∧ Kd.R (Kd.int .i64) 3 w' w.heap.size (fun _ => True) v (if okP l0 a then pick p l0.length else []) ∧ Below w.heap.size w w' := by
  obtain ⟨K, hK⟩ := (path_ev l0 hl a).rounds
  have HC := Lib.hid (rank_Path.calls K A0 c0 l0 a (pathN l0 a) w hr hc hK)
  by_cases hok : okP l0 a
  · rw [if_pos hok]
    have HSO := Lib.hid (hso hok)
    have hne : (pathN l0 a).length ≠ 0 := by rw [pathN_cons hok]; simp
    clear hso hr hK hok
    generalize pathN l0 a = L at HC hne
    have t1 : ((L.length : Int) == 0) = false := by simp; exact fun h => hne (by rw [h]; rfl)
    have t2 : (L.length == 0) = false := by simpa using hne
    go_enter Try.func33, Try.ntmps33
    go_wp2_with fail
    refine HC.out.mono ?_
    rintro e w1 ⟨v, rfl, ho, hb1⟩
    obtain ⟨A, c, rfl⟩ := Kd.R_slice ho
    have HB := Aside0.mk hb1
    clear ho HC hb1 hne
    go_wp2_with fail
    go_loopw [7, 16] (fun v i wr => ∃ k : Nat, i = .int .i64 k ∧ k ≤ l0.length ∧ Aside0 (Kd.R (Kd.int .i64) 3 wr w.heap.size (fun _ => True) v (pick p k)) ∧ Aside0 (Below w.heap.size w wr)) (fun _ i _ => l0.length - (intOf i).toNat)
    case atStart => exact ⟨0, rfl, Nat.zero_le _, ⟨Kd.R_nil _ _ _ _ _⟩, HB⟩
    case round =>
      clear HB
      obtain ⟨k, rfl, hk, HO, HB⟩ := hrel
      by_cases hlt : k < l0.length
      · have HP := Lib.hid (pick_succ p k)
        have hpl := pick_len p k
        go_wp2_with fail
        refine (HSO.out k _ hlt HB.out).mono ?_
        rintro e w2 ⟨rfl, hb2⟩
        have HB2 := Aside0.mk (below_join HB.out hb2)
        have HO2 := Aside0.mk (Kd.R_below HO.out hb2)
        clear HB HO hb2
        cases hp : p k with
        | true =>
          rw [hp, if_pos rfl] at HP
          generalize pick p k = L1 at HO2 HP hpl
          clear hp
          go_wp2_with (first | ((with_reducible refine gate_builtin (b := .append) (xs := #[.tmp 22, .tmp 24]) rfl ?_); at_builtin; refine Kd.R_append (Kd.int .i64) (w0 := w) w.heap.size rfl (.tmp 22) (.tmp 24) 24 3 (.int .i64 0) 8 rfl Try.underlying24 info3 rfl (by decide) (by omega) u7 L1 (k : Int) [.int .i64 (k : Int)] (fun _ => True) (fun _ => False) rfl rfl ?aP (fun _ hk => hk.elim) ?aF ?aO ?aB ?aS ?aL ?_; (case aP => exact rfl); (case aB => exact (by repeat (first | (with_reducible first | exact HB2.out | apply below_alloc | apply pw_below_drewN | apply below_drew1) | exact HB2.out))); (case aF => exact (fun _ _ => trivial)); (case aO => exact (by (with_reducible repeat (first | apply Kd.R_alloc | apply Kd.R_drewN | apply Kd.R_drew)); exact HO2.out)); (case aS => exact (below_size (by repeat (first | (with_reducible first | exact HB2.out | apply below_alloc | apply pw_below_drewN | apply below_drew1) | exact HB2.out)))); (case aL => omega); intro v3 w3 ho hb hg hat; have n0_ := Aside0.mk hb; have n1_ := Aside0.mk ho; clear HB2; clear HO2; clear ho hb hg hat))
          go_roundw
          case rel => exact ⟨k + 1, by simp, by omega, ⟨by rw [HP.out]; exact n1_.out⟩, n0_⟩
          case measure => simp [intOf]; omega
        | false =>
          rw [hp] at HP
          clear hp
          go_wp2_with fail
          go_roundw
          case rel => exact ⟨k + 1, by simp, by omega, ⟨by rw [HP.out]; simpa using HO2.out⟩, HB2⟩
          case measure => simp [intOf]; omega
      · obtain rfl : k = l0.length := by omega
        clear hk
        go_wp2_with fail
        go_ret
        exact ⟨_, rfl, HO.out, HB.out⟩
  · rw [if_neg hok]
    have hz : pathN l0 a = [] := pathN_no hok
    rw [hz] at HC
    clear hso hr hK hok hz
    go_enter Try.func33, Try.ntmps33
    go_wp2_with fail
    refine HC.out.mono ?_
    rintro e w1 ⟨v, rfl, ho, hb1⟩
    obtain ⟨A, c, rfl⟩ := Kd.R_slice ho
    clear ho HC
    go_wp2_with fail
    go_ret
    exact ⟨_, rfl, Kd.R_nil _ _ _ _ _, hb1⟩

set_option maxHeartbeats 4000000 in
set_option maxRecDepth 100000 in
theorem part2_c (A0 : Option Addr) (c0 : Nat) (l0 : List Int) (a : Int) (i q0 q1 q2 : Nat) (w : World) (h0 : Bx w q0 (.slice A0 l0.length c0)) (h1 : Bx w q1 (.int .i64 a)) (h2 : Bx w q2 (.func (.func 35) #[] #[.pointer (some ⟨q0, 0, none⟩)])) (hr : Kd.C (Kd.int .i64) w A0 l0.length l0) (hc : l0.length ≤ c0) (hl : l0.length ≤ 1000000) (hi : okP l0 (i : Int)) (ha : okP l0 a) :
    Calls Try.prog 36 #[.int .i64 (i : Int), .pointer (some ⟨q2, 0, none⟩), .pointer (some ⟨q1, 0, none⟩)] w fun e w' => e = .returned (.bool (topN l0 (i : Int) == topN l0 a)) ∧ Below w.heap.size w w' := by
  have k1 := h1.1
  have k2 := h2.1
  go_enter Try.func36, Try.ntmps36
  go_wp2_with fail
  refine wp_region_noPanic ?_
  refine wp_region_held_drew (S := (fun w' => w'.cell? ⟨q2, 0, none⟩ = some (.func (.func 35) #[] #[.pointer (some ⟨q0, 0, none⟩)]) ∧ w'.cell? ⟨q1, 0, none⟩ = some (.int .i64 a))) (by kernel_rfl) ?_ (fun hHeld => ?_)
  · exact ⟨k2, k1⟩
  have B0_0 := h0.drew
  have B1_0 := h1.drew
  have B2_0 := h2.drew
  have R_0 : Kd.C (Kd.int .i64) w.drew A0 l0.length l0 := Kd.C_drew hr
  have Bel_0 : Below w.heap.size w w.drew := (Below.refl _ _).drew
  clear k1 k2
  refine reg_take (i := 0) (v := ?_) rfl (by as_aux_lemma => kernel_rfl) (by as_aux_lemma => kernel_rfl) (by as_aux_lemma => kernel_rfl) (fun _ _ _ h => h) (by rfl) ?_ (by assumption) ?_
  rotate_left
  · (intro w hSw; (try dsimp only at hSw); go_simp; try with_reducible rfl)
  try simp only [Act.put, List.setIfInBounds_toArray, List.set_cons_zero, List.set_cons_succ]
  refine reg_take (i := 1) (v := ?_) rfl (by as_aux_lemma => kernel_rfl) (by as_aux_lemma => kernel_rfl) (by as_aux_lemma => kernel_rfl) (fun _ _ _ h => h) (by rfl) ?_ (by assumption) ?_
  rotate_left
  · (intro w hSw; (try dsimp only at hSw); go_simp; try with_reducible rfl)
  try simp only [Act.put, List.setIfInBounds_toArray, List.set_cons_zero, List.set_cons_succ]
  refine reg_take (i := 3) (v := ?_) rfl (by as_aux_lemma => kernel_rfl) (by as_aux_lemma => kernel_rfl) (by as_aux_lemma => kernel_rfl) (fun _ _ _ h => h) (by rfl) ?_ (by assumption) ?_
  rotate_left
  · (intro w hSw; (try dsimp only at hSw); go_simp; try with_reducible rfl)
  try simp only [Act.put, List.setIfInBounds_toArray, List.set_cons_zero, List.set_cons_succ]
  refine reg_take (i := 4) (v := ?_) rfl (by as_aux_lemma => kernel_rfl) (by as_aux_lemma => kernel_rfl) (by as_aux_lemma => kernel_rfl) (fun _ _ _ h => h) (by rfl) ?_ (by assumption) ?_
  rotate_left
  · (intro w hSw; (try dsimp only at hSw); go_simp; try with_reducible rfl)
  try simp only [Act.put, List.setIfInBounds_toArray, List.set_cons_zero, List.set_cons_succ]
  refine reg_step (i := 2) (by as_aux_lemma => kernel_rfl) rfl (fun K hK => ?_)
  go_simp
  refine (top1_c A0 c0 l0 (i : Int) q0 _ (by exact B0_0) (by exact R_0) hc hl hi).mono ?_
  rintro e w1 ⟨rfl, hb1⟩
  have B0_1 := B0_0.below hb1
  have B1_1 := B1_0.below hb1
  have B2_1 := B2_0.below hb1
  have R_1 := Kd.C_below R_0 hb1
  have Bel_1 := below_join Bel_0 hb1
  dsimp only
  refine hK.out _ _ ⟨B2_1.1, B1_1.1⟩ (fun hHeld2 => ?_)
  clear hK K hHeld
  have hHeld := hHeld2
  clear hHeld2
  try simp only [Act.put, List.setIfInBounds_toArray, List.set_cons_zero, List.set_cons_succ]
  refine reg_step (i := 5) (by as_aux_lemma => kernel_rfl) rfl (fun K hK => ?_)
  go_simp
  refine (top1_c A0 c0 l0 a q0 _ (by exact B0_1) (by exact R_1) hc hl ha).mono ?_
  rintro e w2 ⟨rfl, hb2⟩
  have B0_2 := B0_1.below hb2
  have B1_2 := B1_1.below hb2
  have B2_2 := B2_1.below hb2
  have R_2 := Kd.C_below R_1 hb2
  have Bel_2 := below_join Bel_1 hb2
  dsimp only
  refine hK.out _ _ ⟨B2_2.1, B1_2.1⟩ (fun hHeld2 => ?_)
  clear hK K hHeld
  have hHeld := hHeld2
  clear hHeld2
  try simp only [Act.put, List.setIfInBounds_toArray, List.set_cons_zero, List.set_cons_succ]
  refine reg_take (i := 6) (v := ?_) rfl (by as_aux_lemma => kernel_rfl) (by as_aux_lemma => kernel_rfl) (by as_aux_lemma => kernel_rfl) (fun _ _ _ h => h) (by rfl) ?_ (by assumption) ?_
  rotate_left
  · (intro w hSw; (try dsimp only at hSw); go_simp; try with_reducible rfl)
  try simp only [Act.put, List.setIfInBounds_toArray, List.set_cons_zero, List.set_cons_succ]
  refine reg_take (i := 7) (v := ?_) rfl (by as_aux_lemma => kernel_rfl) (by as_aux_lemma => kernel_rfl) (by as_aux_lemma => kernel_rfl) (fun _ _ _ h => h) (by rfl) ?_ (by assumption) ?_
  rotate_left
  · (intro w hSw; (try dsimp only at hSw); go_simp; try with_reducible rfl)
  try simp only [Act.put, List.setIfInBounds_toArray, List.set_cons_zero, List.set_cons_succ]
  refine wpAnyH_done (by kernel_rfl) ?_ _
  refine NoPanic.normal ?_
  go_wp2_with fail
  go_ret
  exact ⟨rfl, Bel_2⟩

def rank_Under.f (_ : Nat) (l0 : List Int) (a1 : Int) : Option (List Int) := if l0.length ≤ 1000000 then some (underN l0 a1) else none
theorem rank_Under.mono : ∀ a0 a1 k, LeO (rank_Under.f k a0 a1) (rank_Under.f (k + 1) a0 a1) := fun _ _ _ => LeO.refl _
set_option maxHeartbeats 4000000 in
theorem rank_Under.calls (k : Nat) (A0 : Option Addr) (c0 : Nat) (l0 : List Int) (a1 : Int) (r : List Int) (w : World) (hr0 : Kd.C (Kd.int .i64) w A0 l0.length l0) (hc0 : l0.length ≤ c0) (h : rank_Under.f k l0 a1 = some r) :
    Calls Try.prog 24 #[.slice A0 l0.length c0, .int .i64 a1] w fun e w' => ∃ v0_ : Value, e = .returned (v0_) ∧ Kd.R (Kd.int .i64) 3 w' w.heap.size (fun _ => True) v0_ r ∧ Below w.heap.size w w' := by
  unfold rank_Under.f at h
  by_cases hl : l0.length ≤ 1000000
  · rw [if_pos hl] at h
    injection h with h
    subst h
    have b0 : Bx ((w.alloc (.cells #[.slice A0 l0.length c0] 24)).alloc (.cells #[.int .i64 a1] 3)) w.heap.size (.slice A0 l0.length c0) := (Bx.new w _ _).alloc _
    have b1 : Bx ((w.alloc (.cells #[.slice A0 l0.length c0] 24)).alloc (.cells #[.int .i64 a1] 3)) (w.heap.size + 1) (.int .i64 a1) := by
      have := Bx.new (w.alloc (.cells #[.slice A0 l0.length c0] 24)) (.int .i64 a1) 3
      rw [World.size_alloc] at this
      exact this
    have B0 : Below w.heap.size w ((w.alloc (.cells #[.slice A0 l0.length c0] 24)).alloc (.cells #[.int .i64 a1] 3)) := ((Below.refl _ w).alloc (Nat.le_refl _) _).alloc (by simp) _
    have R0 := Kd.C_below hr0 B0
    go_enter Try.func24, Try.ntmps24
    go_wp2_with fail
    generalize (w.alloc (.cells #[.slice A0 l0.length c0] 24)).alloc (.cells #[.int .i64 a1] 3) = W at b0 b1 B0 R0 ⊢
    refine (such34 A0 c0 l0 a1 (fun i => rd l0 (i : Int) == a1) _ _ W R0 hc0 hl (fun _ i w1 hi hb => under1_c A0 c0 l0 a1 i _ _ w1 (b0.below hb) (b1.below hb) (Kd.C_below R0 hb) hi)).mono ?_
    rintro e w2 ⟨v, rfl, ho, hb⟩
    have hres : Kd.R (Kd.int .i64) 3 w2 w.heap.size (fun _ => True) v (underN l0 a1) := Kd.R_lower ho B0.size
    have HR := Aside0.mk hres
    have HB := Aside0.mk (below_join B0 hb)
    clear hres ho hb b0 b1 B0 R0
    go_wp2_with fail
    go_ret
    exact ⟨_, rfl, HR.out, HB.out⟩
  · rw [if_neg hl] at h
    cases h

def rank_Part.f (_ : Nat) (l0 : List Int) (a1 : Int) : Option (List Int) := if l0.length ≤ 1000000 then some (partN l0 a1) else none
theorem rank_Part.mono : ∀ a0 a1 k, LeO (rank_Part.f k a0 a1) (rank_Part.f (k + 1) a0 a1) := fun _ _ _ => LeO.refl _
set_option maxHeartbeats 4000000 in
theorem rank_Part.calls (k : Nat) (A0 : Option Addr) (c0 : Nat) (l0 : List Int) (a1 : Int) (r : List Int) (w : World) (hr0 : Kd.C (Kd.int .i64) w A0 l0.length l0) (hc0 : l0.length ≤ c0) (h : rank_Part.f k l0 a1 = some r) :
    Calls Try.prog 26 #[.slice A0 l0.length c0, .int .i64 a1] w fun e w' => ∃ v0_ : Value, e = .returned (v0_) ∧ Kd.R (Kd.int .i64) 3 w' w.heap.size (fun _ => True) v0_ r ∧ Below w.heap.size w w' := by
  unfold rank_Part.f at h
  by_cases hl : l0.length ≤ 1000000
  · rw [if_pos hl] at h
    injection h with h
    subst h
    go_enter Try.func26, Try.ntmps26
    go_wp2_with fail
    have b0 : Bx (((w.alloc (.cells #[.slice A0 l0.length c0] 24)).alloc (.cells #[.int .i64 a1] 3)).alloc (.cells #[.func (.func 35) #[] #[.pointer (some ⟨w.heap.size, 0, none⟩)]] 45)) w.heap.size (.slice A0 l0.length c0) := ((Bx.new w _ _).alloc _).alloc _
    have b1 : Bx (((w.alloc (.cells #[.slice A0 l0.length c0] 24)).alloc (.cells #[.int .i64 a1] 3)).alloc (.cells #[.func (.func 35) #[] #[.pointer (some ⟨w.heap.size, 0, none⟩)]] 45)) (w.heap.size + 1) (.int .i64 a1) := by
      have := Bx.new (w.alloc (.cells #[.slice A0 l0.length c0] 24)) (.int .i64 a1) 3
      rw [World.size_alloc] at this
      exact this.alloc _
    have b2 : Bx (((w.alloc (.cells #[.slice A0 l0.length c0] 24)).alloc (.cells #[.int .i64 a1] 3)).alloc (.cells #[.func (.func 35) #[] #[.pointer (some ⟨w.heap.size, 0, none⟩)]] 45)) (w.heap.size + 1 + 1) (.func (.func 35) #[] #[.pointer (some ⟨w.heap.size, 0, none⟩)]) := by
      have := Bx.new ((w.alloc (.cells #[.slice A0 l0.length c0] 24)).alloc (.cells #[.int .i64 a1] 3)) (.func (.func 35) #[] #[.pointer (some ⟨w.heap.size, 0, none⟩)]) 45
      rw [World.size_alloc, World.size_alloc] at this
      exact this
    have B0 : Below w.heap.size w (((w.alloc (.cells #[.slice A0 l0.length c0] 24)).alloc (.cells #[.int .i64 a1] 3)).alloc (.cells #[.func (.func 35) #[] #[.pointer (some ⟨w.heap.size, 0, none⟩)]] 45)) := (((Below.refl _ w).alloc (Nat.le_refl _) _).alloc (by simp) _).alloc (by simp; omega) _
    have R0 := Kd.C_below hr0 B0
    generalize ((w.alloc (.cells #[.slice A0 l0.length c0] 24)).alloc (.cells #[.int .i64 a1] 3)).alloc (.cells #[.func (.func 35) #[] #[.pointer (some ⟨w.heap.size, 0, none⟩)]] 45) = W at b0 b1 b2 B0 R0 ⊢
    refine (such36 A0 c0 l0 a1 (fun i => topN l0 (i : Int) == topN l0 a1) _ _ W R0 hc0 hl (fun hok i w1 hi hb => part2_c A0 c0 l0 a1 i _ _ _ w1 (b0.below hb) (b1.below hb) (b2.below hb) (Kd.C_below R0 hb) hc0 hl ⟨hok.1, by omega, by omega⟩ hok)).mono ?_
    rintro e w2 ⟨v, rfl, ho, hb⟩
    have hres : Kd.R (Kd.int .i64) 3 w2 w.heap.size (fun _ => True) v (partN l0 a1) := Kd.R_lower ho B0.size
    have HR := Aside0.mk hres
    have HB := Aside0.mk (below_join B0 hb)
    clear hres ho hb b0 b1 b2 B0 R0
    go_wp2_with fail
    go_ret
    exact ⟨_, rfl, HR.out, HB.out⟩
  · rw [if_neg hl] at h
    cases h
end Go.Proofs.Ytagnpmmcoaemeaa.R16
