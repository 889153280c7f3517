/- By hand: Choose, which ranges over the iterator: the first of what comes that is not without. Conditions: rows of at most a million numbers. -/
import Derived.Test.YtagnpmmcoaemeaaHandA
namespace Go.Proofs.Ytagnpmmcoaemeaa.R16
open Go.RowKit Go.Shelf Go.Proofs.YtagnpmmcoaemeaaW.PrintWords Go.Proofs.YtagnpmmcoaemeaaW.PrintLast Go.Proofs.YtagnpmmcoaemeaaW.PrintMore
set_option linter.unusedVariables false
set_option linter.unusedSimpArgs false
attribute [local go_sem] Oper.semAt_some

/-- A box that may be written. -/
def Bf (w : World) (q : Nat) (v : Value) : Prop := Bx w q v ∧ w.frozen? ⟨q, 0, none⟩ = false
theorem Bf.below {w w' : World} {q : Nat} {v : Value} (h : Bf w q v) (hb : Below w.heap.size w w') : Bf w' q v := ⟨h.1.below hb, (hb.frozen (p := ⟨q, 0, none⟩) h.1.2).trans h.2⟩
theorem Bf.new (w : World) (v : Value) (t : TypeId) : Bf (w.alloc (.cells #[v] t)) w.heap.size v := ⟨Bx.new w v t, by
  have : (w.alloc (.cells #[v] t)).heap[w.heap.size]? = some (.cells #[v] t (0, 0)) := heap_alloc_new w _
  unfold World.frozen?
  rw [this]
  rfl⟩
theorem Bf.alloc {w : World} {q : Nat} {v : Value} (h : Bf w q v) (o : Obj) : Bf (w.alloc o) q v := h.below ((Below.refl _ w).alloc (Nat.le_refl _) o)
theorem rotTo_pre (row : List Int) (at_ : Int) {k m : Nat} (h : k ≤ m) : ∃ r, rotTo row at_ m = rotTo row at_ k ++ r := by
  obtain ⟨d, rfl⟩ := Nat.exists_eq_add_of_le h
  refine ⟨(List.range d).map (fun i => rotAt row at_ (k + i)), ?_⟩
  unfold rotTo
  rw [List.range_add, List.map_append, List.map_map]
  rfl
theorem keeps_drawn {w w' : World} (h : Drawn0 w w') : KeepsOthers w w' := by
  obtain ⟨n, rfl⟩ := h.out
  exact ⟨Nat.le_refl _, fun _ _ h _ => h⟩

set_option maxRecDepth 100000 in
set_option maxHeartbeats 4000000 in
theorem choose_yes (A0 : Option Addr) (c0 : Nat) (P : List (List Int)) (n last : Int) (A3 : Option Addr) (c3 : Nat) (wo : List Int) (w : World) (hr0 : Kd.C (Kd.slice 3 (Kd.int .i64)) w A0 P.length P) (hr3 : Kd.C (Kd.int .i64) w A3 wo.length wo) (hc3 : wo.length ≤ c3)
    (h0 : 0 ≤ n) (h1 : n < P.length) (hl : (rd_L1 P n).length ≤ 1000000) (hwo : wo.length ≤ 1000000) :
    Calls Try.prog 16 #[.slice A0 P.length c0, .int .i64 n, .int .i64 last, .slice A3 wo.length c3] w fun e w' => e = .returned (.tuple #[.int .i64 (chooseN P n last wo).1, .bool (chooseN P n last wo).2]) ∧ Below w.heap.size w w' := by
  obtain ⟨ad, A, c, rfl, hx, hlc, hrow⟩ := at_L1 hr0 n h0 h1
  have hch : chooseN P n last wo = match (rotTo (rd_L1 P n) (if last ∈ rd_L1 P n then ((rd_L1 P n).idxOf last : Int) else -1) (rd_L1 P n).length).find? (fun x => !decide (x ∈ wo)) with
    | some x => (x, true)
    | none => (0, false) := if_pos ⟨h0, h1⟩
  rw [hch]
  obtain ⟨k1, hk1⟩ := (idx_ev (rd_L1 P n) last hl).rounds
  have hat : -1 ≤ (if last ∈ rd_L1 P n then ((rd_L1 P n).idxOf last : Int) else -1) ∧ (if last ∈ rd_L1 P n then ((rd_L1 P n).idxOf last : Int) else -1) ≤ 1000000 := by
    split
    · rename_i hm; have := List.idxOf_lt_length_of_mem hm; omega
    · omega
  generalize (if last ∈ rd_L1 P n then ((rd_L1 P n).idxOf last : Int) else -1) = at_ at hk1 hat ⊢
  generalize rd_L1 P n = row at hx hlc hrow hl hk1 ⊢
  clear hch hr0
  generalize hres : (match (rotTo row at_ row.length).find? (fun x => !decide (x ∈ wo)) with
    | some x => (x, true)
    | none => (0, false)) = res
  have HRES := Lib.hid hres
  clear hres
  obtain ⟨m, rfl⟩ := Int.eq_ofNat_of_zero_le h0
  simp only [Int.toNat_natCast] at hx
  generalize P.length = plen at h1 ⊢
  have h2 : m < plen := by omega
  clear h0
  have HI := fun (w1 : World) (hb : Below w.heap.size w w1) => slices_Index_int_int.calls k1 A c row last at_ w1 (Kd.C_below hrow hb) hlc hk1
  have HCN := Lib.hid (fun (x : Int) (w1 : World) (hb : Below w.heap.size w w1) => (show ∃ K, Calls Try.prog 28 #[.slice A3 wo.length c3, .int .i64 x] w1 fun e w' => e = .returned (.bool (decide (x ∈ wo))) ∧ Drawn0 w1 w' from by
    obtain ⟨K, hK⟩ := (cont_ev wo x hwo).rounds
    exact ⟨K, slices_Contains_int_int.calls K A3 c3 wo x _ w1 (Kd.C_below hr3 hb) hc3 hK⟩))
  clear hk1 hwo hr3 hc3
  have hItM : ∀ (W : World) (q3 q4 : Nat), Below w.heap.size w W → Bx W q3 (.slice A row.length c) → Bx W q4 (.int .i64 at_) → ItM W w.heap.size q3 q4 A c row at_ := fun W q3 q4 hb y3 y4 => ⟨y3.1, y4.1, fun i hi => by
    obtain ⟨ad, e, hc⟩ := Kd.at_int hrow (i : Int) (by omega) (by omega)
    simp only [Int.toNat_natCast] at hc
    have hlt := World.block_lt_of_cell? w _ hc
    exact ⟨ad, e, by have h9 : (ad.add i).block = ad.block := by unfold Addr.add; split <;> rfl
                     rw [h9] at hlt; exact hlt, (hb.cell hlt).trans hc⟩⟩
  have HItM := Lib.hid hItM
  clear hItM hrow
  have HIH := Lib.hid HI
  clear HI
  have B0 : Below w.heap.size w (((w.alloc (.cells #[.slice A3 wo.length c3] 24)).alloc (.cells #[.int .i64 0] 3)).alloc (.cells #[.bool false] 4)) := (((Below.refl _ w).alloc (Nat.le_refl _) _).alloc (by simp) _).alloc (by simp; try omega) _
  have x0 := ((Bx.new w (.slice A3 wo.length c3) 24).alloc (.cells #[.int .i64 0] 3)).alloc (.cells #[.bool false] 4)
  have x1 := (Bf.new (w.alloc (.cells #[.slice A3 wo.length c3] 24)) (.int .i64 0) 3).alloc (.cells #[.bool false] 4)
  have x2 := Bf.new ((w.alloc (.cells #[.slice A3 wo.length c3] 24)).alloc (.cells #[.int .i64 0] 3)) (.bool false) 4
  rw [World.size_alloc] at x1
  rw [World.size_alloc, World.size_alloc] at x2
  have hx0 := (B0.cell (World.block_lt_of_cell? w _ hx)).trans hx
  have d1 : decide ((m : Int) < 0) = false := by simp
  have d2 : decide (plen ≤ m) = false := by simp; omega
  clear hx
  refine (callsIn_wide (n := 8)).1 ?_
  refine callsIn_of_wp_marks Try.func16 rfl trivial ?_ rfl
  simp only [Try.ntmps16, List.size_toArray, List.length_cons, List.length_nil, Nat.reduceAdd, Nat.reduceSub, Array.replicate_succ, Array.replicate_zero, List.push_toArray, List.append_toArray, List.nil_append, List.cons_append]
  gi_wp2_with fail
  clear hx0 d1 d2 h1 h2
  generalize ((w.alloc (.cells #[.slice A3 wo.length c3] 24)).alloc (.cells #[.int .i64 0] 3)).alloc (.cells #[.bool false] 4) = W0 at B0 x0 x1 x2 ⊢
  obtain ⟨q2, hq2⟩ : ∃ q2, w.heap.size + 1 + 1 = q2 := ⟨_, rfl⟩
  obtain ⟨q1, hq1⟩ : ∃ q1, w.heap.size + 1 = q1 := ⟨_, rfl⟩
  obtain ⟨q0, hq0⟩ : ∃ q0, w.heap.size = q0 := ⟨_, rfl⟩
  have l1 : w.heap.size ≤ q1 := by omega
  have l2 : w.heap.size ≤ q2 := by omega
  have n12 : q1 < q2 := by omega
  have n01 : q0 < q1 := by omega
  have n02 : q0 < q2 := by omega
  rw [hq2] at x2 ⊢
  rw [hq1] at x1 ⊢
  have x0' : Bx W0 q0 (.slice A3 wo.length c3) := by rw [← hq0]; exact x0
  rw [show Value.pointer (some ⟨w.heap.size, 0, none⟩) = Value.pointer (some ⟨q0, 0, none⟩) from by rw [hq0]]
  clear x0 hq2 hq1 hq0
  refine ⟨trivial, (callsIn_wide.2 (HIH.out W0 B0)).mono ?_⟩
  rintro e w2 ⟨rfl, hd⟩
  have hb2 := below_of_drawn hd
  have B2 := below_join B0 hb2
  have z0 := x0'.below hb2
  have z1 := x1.below hb2
  have z2 := x2.below hb2
  clear hd hb2 B0 x0' x1 x2 HIH
  gi_wp2_with fail
  refine ⟨trivial, (callsIn_wide.2 (round_c A row.length c at_ w2)).mono ?_⟩
  rintro e w3 ⟨q3, q4, rfl, hq3, hq4, y3, y4, hb3⟩
  have B3 := below_join B2 hb3
  have s0 := z0.below hb3
  have s1 := z1.below hb3
  have s2 := z2.below hb3
  have hle := B3.size
  have hM := HItM.out w3 q3 q4 B3 y3 y4
  clear hb3 B2 z0 z1 z2 hq3 hq4 y3 y4 HItM
  gi_wp2
  refine wpIn_rangeFunc_ownG rfl (by omega) (gf := 38) (lb := #[.pointer (some ⟨q3, 0, none⟩), .pointer (some ⟨q4, 0, none⟩)]) rfl trivial (enters_of Try.func38 (by kernel_rfl) rfl)
    (rot_stops Fence.wide _ trivial rfl (by omega) w.heap.size q3 q4 A c row at_ hl hat.1 hat.2 w3 hM) kpR_t (fun W l o o' _ h hc _ => kpR_b W l o o' h hc) (Below.refl _ _) (fun _ => rfl)
    (fun pre W => ((∀ y ∈ pre, y ∈ wo) ∧ W.cell? ⟨q0, 0, none⟩ = some (.slice A3 wo.length c3) ∧ (W.cell? ⟨q1, 0, none⟩ = some (.int .i64 0) ∧ W.frozen? ⟨q1, 0, none⟩ = false) ∧ (W.cell? ⟨q2, 0, none⟩ = some (.bool false) ∧ W.frozen? ⟨q2, 0, none⟩ = false)) ∧ Below w.heap.size w W)
    (fun c pre W => (c = .ret ∧ ∃ ini x, pre = ini ++ [x] ∧ (∀ y ∈ ini, y ∈ wo) ∧ x ∉ wo ∧ W.cell? ⟨q1, 0, none⟩ = some (.int .i64 x) ∧ W.cell? ⟨q2, 0, none⟩ = some (.bool true)) ∧ Below w.heap.size w W)
    (OwnFrom.and (Own.from (fun s A B row hs hg hr => ⟨hs.1, cell_kept hs.2.1 hg hr, ⟨cell_kept hs.2.2.1.1 hg hr, (frozen_kept hs.2.2.1.1 hg hr).trans hs.2.2.1.2⟩, ⟨cell_kept hs.2.2.2.1 hg hr, (frozen_kept hs.2.2.2.1 hg hr).trans hs.2.2.2.2⟩⟩) _) (ownFrom_below (Nat.le_refl _) hle))
    (fun c => OwnFrom.and (Own.from (fun s A B row hs hg hr => by obtain ⟨hc, ini, x, e1, e2, e3, e4, e5⟩ := hs; exact ⟨hc, ini, x, e1, e2, e3, cell_kept e4 hg hr, cell_kept e5 hg hr⟩) _) (ownFrom_below (Nat.le_refl _) hle))
    ⟨⟨by simp, s0.1, ⟨s1.1.1, s1.2⟩, ⟨s2.1.1, s2.2⟩⟩, B3⟩
    (fun x => { tmps := #[.slice (some ad) plen c0, .int .i64 m, .int .i64 last, .slice A3 wo.length c3, undef, undef, undef, .pointer (some ⟨q0, 0, none⟩), .pointer (some ⟨q1, 0, none⟩), .pointer (some ⟨q2, 0, none⟩), .slice A row.length c, .int .i64 x, .int .i64 m, .bool false, .bool false, .int .i64 m, .slice (some ad) plen c0, .int .i64 plen, .bool false, .bool false, .slice (some ad) plen c0, .int .i64 m, .pointer (some (ad.add m)), .slice A row.length c, .slice A row.length c, .slice A row.length c, .int .i64 last, .int .i64 at_, .func (.func 38) #[] #[.pointer (some ⟨q3, 0, none⟩), .pointer (some ⟨q4, 0, none⟩)], .int .i64 x, undef, undef, undef, undef, undef], defers := [] }) ?assign ?body ?done ?stop
  case assign =>
    intro l x W K hK
    gi_wp2
    exact hK
  case body =>
    rintro l pre x W ⟨⟨hp, hc0, ⟨hc1, hf1⟩, ⟨hc2, hf2⟩⟩, hB⟩ _
    obtain ⟨K, hCn⟩ := HCN.out x W hB
    have HCn := Lib.hid hCn
    clear hCn
    gi_wp2_with fail
    refine ⟨trivial, (CallsIn.inRound l (callsIn_wide.2 HCn.out)).mono ?_⟩
    rintro e w4 ⟨rfl, hd⟩
    have hb4 := below_of_drawn hd
    have hk4 := keeps_drawn hd
    have hB4 := below_join hB hb4
    have c0' := (hb4.cell (World.block_lt_of_cell? W _ hc0)).trans hc0
    have c1' := (hb4.cell (World.block_lt_of_cell? W _ hc1)).trans hc1
    have c2' := (hb4.cell (World.block_lt_of_cell? W _ hc2)).trans hc2
    have f1' := (hb4.frozen (World.block_lt_of_cell? W _ hc1)).trans hf1
    have f2' := (hb4.frozen (World.block_lt_of_cell? W _ hc2)).trans hf2
    have hkp : KpR w.heap.size q3 q4 W w4 := fun p v _ hv => (hb4.cell (World.block_lt_of_cell? W p hv)).trans hv
    clear hd hb4 HCn hc0 hc1 hc2 hf1 hf2 hB
    by_cases hx : x ∈ wo
    · rw [decide_eq_true hx]
      gi_wp2
      exact ⟨hk4.from _, hkp, ⟨fun y hy => (List.mem_append.1 hy).elim (hp y) (fun e => by simp at e; subst e; exact hx), c0', ⟨c1', f1'⟩, ⟨c2', f2'⟩⟩, hB4⟩
    · rw [decide_eq_false hx]
      gi_wp2
      have e1 : (w4.setCell ⟨q1, 0, none⟩ (.int .i64 x)).cell? ⟨q2, 0, none⟩ = some (.bool false) := (World.cell?_setCell_other _ _ _ _ (by simp; try omega)).trans c2'
      refine ⟨(hk4.trans ((KeepsOthers.setCell _ _ _).trans (KeepsOthers.setCell _ _ _))).from _, ⟨rfl, pre, x, rfl, hp, hx, ?_, World.cell?_setCell_same' _ _ _ (by rw [e1]; rfl)⟩, (hB4.setCell (p := ⟨q1, 0, none⟩) l1 _).setCell (p := ⟨q2, 0, none⟩) l2 _⟩
      exact (World.cell?_setCell_other _ _ _ _ (by simp; try omega)).trans (World.cell?_setCell_same' _ _ _ (by rw [c1']; rfl))
  case done =>
    rintro D ys W hD rfl ⟨⟨hp, hc0, ⟨hc1, hf1⟩, ⟨hc2, hf2⟩⟩, hB⟩ hK
    have hfind : (rotTo row at_ row.length).find? (fun x => !decide (x ∈ wo)) = none := List.find?_eq_none.2 fun x hx => by simp [hp x hx]
    have HF := Lib.hid hfind
    clear hfind
    have e1 : (W.setCell ⟨q1, 0, none⟩ (.int .i64 0)).cell? ⟨q2, 0, none⟩ = some (.bool false) := (World.cell?_setCell_other _ _ _ _ (by simp; try omega)).trans hc2
    have e2 : ((W.setCell ⟨q1, 0, none⟩ (.int .i64 0)).setCell ⟨q2, 0, none⟩ (.bool false)).cell? ⟨q1, 0, none⟩ = some (.int .i64 0) := (World.cell?_setCell_other _ _ _ _ (by simp; try omega)).trans (World.cell?_setCell_same' _ _ _ (by rw [hc1]; rfl))
    have e3 : ((W.setCell ⟨q1, 0, none⟩ (.int .i64 0)).setCell ⟨q2, 0, none⟩ (.bool false)).cell? ⟨q2, 0, none⟩ = some (.bool false) := World.cell?_setCell_same' _ _ _ (by rw [e1]; rfl)
    have hK' := ((KeepsOthers.setCell W ⟨q1, 0, none⟩ (.int .i64 0)).trans (KeepsOthers.setCell _ ⟨q2, 0, none⟩ (.bool false))).same D _ hK rfl
    have hB' := (hB.setCell (p := ⟨q1, 0, none⟩) l1 (.int .i64 0)).setCell (p := ⟨q2, 0, none⟩) l2 (.bool false)
    gi_wp2
    refine ⟨by simp, .inl ⟨_, _, rfl, run_takeDeferred hK', ?_⟩⟩
    have g1 := cell_kept e2 (grownBy_putObj' _ D (.deferred none)) (fun r e => by cases e; exact ⟨_, hK', rfl⟩)
    have g2 := cell_kept e3 (grownBy_putObj' _ D (.deferred none)) (fun r e => by cases e; exact ⟨_, hK', rfl⟩)
    refine ⟨.tuple #[.int .i64 0, .bool false], ?_, by have h := HRES.out; rw [HF.out] at h; rw [← h], hB'.trans (belowK_b (w := w) (Nat.le_refl _) _ D _ _ (by omega) hK' rfl rfl)⟩
    simp [results, Try.f16, go_sem, g1, g2]
  case stop =>
    rintro D c' pre W hD ⟨k, hk, rfl⟩ ⟨⟨rfl, ini, x, e1, e2, e3, hc1, hc2⟩, hB⟩ hK
    have hfind : (rotTo row at_ row.length).find? (fun x => !decide (x ∈ wo)) = some x := by
      obtain ⟨r, hr⟩ := rotTo_pre row at_ hk
      rw [hr, e1, List.append_assoc, List.find?_append]
      have : ini.find? (fun x => !decide (x ∈ wo)) = none := List.find?_eq_none.2 fun y hy => by simp [e2 y hy]
      rw [this]
      simp [e3]
    have HF := Lib.hid hfind
    clear hfind
    gi_wp2
    refine ⟨by simp, .inl ⟨_, _, rfl, run_takeDeferred hK, ?_⟩⟩
    have g1 := cell_kept hc1 (grownBy_putObj' _ D (.deferred none)) (fun r e => by cases e; exact ⟨_, hK, rfl⟩)
    have g2 := cell_kept hc2 (grownBy_putObj' _ D (.deferred none)) (fun r e => by cases e; exact ⟨_, hK, rfl⟩)
    refine ⟨.tuple #[.int .i64 x, .bool true], ?_, by have h := HRES.out; rw [HF.out] at h; rw [← h], hB.trans (belowK_b (w := w) (Nat.le_refl _) W D _ _ (by omega) hK rfl rfl)⟩
    simp [results, Try.f16, go_sem, g1, g2]

def rank_Choose.f (_ : Nat) (l0 : List (List Int)) (a1 : Int) (a2 : Int) (l3 : List Int) : Option (Int × Bool) := if (∀ row ∈ l0, row.length ≤ 1000000) ∧ l3.length ≤ 1000000 then some (chooseN l0 a1 a2 l3) else none
theorem rank_Choose.mono : ∀ a0 a1 a2 a3 k, LeO (rank_Choose.f k a0 a1 a2 a3) (rank_Choose.f (k + 1) a0 a1 a2 a3) := fun _ _ _ _ _ => LeO.refl _
theorem rd_L1_mem {P : List (List Int)} {n : Int} (h0 : 0 ≤ n) (h1 : n < P.length) : rd_L1 P n ∈ P := by
  unfold rd_L1
  have h : n.toNat < P.length := by omega
  have : P.getD n.toNat [] = P[n.toNat] := by simp [List.getD, h]
  rw [this]
  exact List.getElem_mem _
theorem rank_Choose.calls (k : Nat) (A0 : Option Addr) (c0 : Nat) (l0 : List (List Int)) (a1 : Int) (a2 : Int) (A3 : Option Addr) (c3 : Nat) (l3 : List Int) (r1 : Int) (r2 : Bool) (w : World) (hr0 : Kd.C (Kd.slice 3 (Kd.int .i64)) w A0 l0.length l0) (hc0 : l0.length ≤ c0) (hr3 : Kd.C (Kd.int .i64) w A3 l3.length l3) (hc3 : l3.length ≤ c3) (h : rank_Choose.f k l0 a1 a2 l3 = some (r1, r2)) :
    Calls Try.prog 16 #[.slice A0 l0.length c0, .int .i64 a1, .int .i64 a2, .slice A3 l3.length c3] w fun e w' => e = .returned (.tuple #[.int .i64 r1, .bool r2]) ∧ Below w.heap.size w w' := by
  unfold rank_Choose.f at h
  by_cases hl : (∀ row ∈ l0, row.length ≤ 1000000) ∧ l3.length ≤ 1000000
  · rw [if_pos hl] at h
    have h' := Option.some.inj h
    by_cases hn : 0 ≤ a1 ∧ a1 < l0.length
    · have := choose_yes A0 c0 l0 a1 a2 A3 c3 l3 w hr0 hr3 hc3 hn.1 hn.2 (hl.1 _ (rd_L1_mem hn.1 hn.2)) hl.2
      rw [h'] at this
      exact this
    · have h2 : chooseN l0 a1 a2 l3 = (0, false) := if_neg hn
      rw [h2] at h'
      injection h' with e1 e2
      subst e1 e2
      exact choose_no A0 c0 l0 a1 a2 A3 c3 l3 w hn
  · rw [if_neg hl] at h
    cases h
end Go.Proofs.Ytagnpmmcoaemeaa.R16
