/- The calls whose answers the document fixes: what the law's own 'fixed' comes to. No conditions. -/
import Derived.Test.YtagnpmmcoaemeaaR16x1
import Derived.Test.YtagnpmmcoaemeaaR16x2
import Derived.Test.YtagnpmmcoaemeaaR16x5
import Derived.Test.YtagnpmmcoaemeaaR16x9
import Derived.Test.YtagnpmmcoaemeaaHandB
import Derived.Test.YtagnpmmcoaemeaaHandC
namespace Go.Proofs.Ytagnpmmcoaemeaa.R16
open Go.RowKit Go.Proofs.YtagnpmmcoaemeaaW.PrintWords Go.Proofs.YtagnpmmcoaemeaaW.PrintLast Go.Proofs.YtagnpmmcoaemeaaW.PrintMore
set_option linter.unusedVariables false
set_option linter.unusedSimpArgs false

theorem lit_at (W : World) (g : Nat) (L : List Int) (hL : L.length ≤ 1000) (hb : W.heap[g]? = some (.cells (L.map (Value.int .i64)).toArray 3 (0, 0))) : Kd.C (Kd.int .i64) W (some ⟨g, 0, none⟩) L.length L := by
  refine ⟨rfl, by omega, fun _ => ⟨_, rfl, fun j p hp => ⟨[.int .i64 p], rfl, rfl, fun i u hu => ?_⟩⟩⟩
  have hi : i = 0 := by have := (List.getElem?_eq_some_iff.1 hu).1; simp at this; exact this
  subst hi
  simp at hu
  subst hu
  have hadd : ((⟨g, 0, none⟩ : Addr).add (j * 1 + 0)) = ⟨g, j, none⟩ := by unfold Addr.add; split <;> simp_all
  have := cell_of_row W g j _ 3 (0, 0) hb
  show W.cell? ((⟨g, 0, none⟩ : Addr).add (j * 1 + 0)) = _
  rw [hadd, this]
  simp [hp]
theorem lit_new (w : World) (L : List Int) (hL : L.length ≤ 1000) : Kd.C (Kd.int .i64) (w.alloc (.cells (L.map (Value.int .i64)).toArray 3)) (some ⟨w.heap.size, 0, none⟩) L.length L := lit_at _ _ L hL (heap_alloc_new w _)
theorem below_new (w : World) (o : Obj) : Below w.heap.size w (w.alloc o) := (Below.refl _ w).alloc (Nat.le_refl _) o
/-- A row of rows, of which each is known. -/
theorem rows_new (w : World) (vs : List Value) (rows : List (List Int)) (hl : rows.length ≤ 1000) (h : ∀ (j : Nat) (row : List Int), rows[j]? = some row → ∃ (A : Option Addr) (c : Nat), vs[j]? = some (Value.slice A row.length c) ∧ row.length ≤ c ∧ Kd.C (Kd.int .i64) w A row.length row) :
    Kd.C (Kd.slice 3 (Kd.int .i64)) (w.alloc (.cells vs.toArray 24)) (some ⟨w.heap.size, 0, none⟩) rows.length rows := by
  refine ⟨rfl, by omega, fun _ => ⟨_, rfl, fun j p hp => ?_⟩⟩
  obtain ⟨A, c, hv, hlc, hC⟩ := h j p hp
  refine ⟨[.slice A p.length c], rfl, ⟨A, c, rfl, hlc, Kd.C_below hC (below_new w _)⟩, fun i u hu => ?_⟩
  have hi : i = 0 := by have := (List.getElem?_eq_some_iff.1 hu).1; simp at this; exact this
  subst hi
  simp at hu
  subst hu
  have hadd : ((⟨w.heap.size, 0, none⟩ : Addr).add (j * 1 + 0)) = ⟨w.heap.size, j, none⟩ := by unfold Addr.add; split <;> simp_all
  have := cell_of_row (w.alloc (.cells vs.toArray 24)) w.heap.size j vs.toArray 24 (0, 0) (heap_alloc_new w _)
  show World.cell? _ ((⟨w.heap.size, 0, none⟩ : Addr).add (j * 1 + 0)) = _
  rw [hadd, this]
  simpa using hv

def planX : List (List Int) := [[], [0], [1, 0], [2, 0, 1]]
theorem plan_new (w : World) : Kd.C (Kd.slice 3 (Kd.int .i64)) ((((w.alloc (.cells #[.int .i64 0] 3)).alloc (.cells #[.int .i64 1, .int .i64 0] 3)).alloc (.cells #[.int .i64 2, .int .i64 0, .int .i64 1] 3)).alloc (.cells #[.slice none 0 0, .slice (some ⟨w.heap.size, 0, none⟩) 1 1, .slice (some ⟨w.heap.size + 1, 0, none⟩) 2 2, .slice (some ⟨w.heap.size + 1 + 1, 0, none⟩) 3 3] 24)) (some ⟨w.heap.size + 1 + 1 + 1, 0, none⟩) 4 planX := by
  have a1 := lit_new w [0] (by decide)
  have a2 := lit_new (w.alloc (.cells #[.int .i64 0] 3)) [1, 0] (by decide)
  have a3 := lit_new ((w.alloc (.cells #[.int .i64 0] 3)).alloc (.cells #[.int .i64 1, .int .i64 0] 3)) [2, 0, 1] (by decide)
  have b1 := Kd.C_below (Kd.C_below a1 (below_new _ (.cells #[.int .i64 1, .int .i64 0] 3))) (below_new _ (.cells #[.int .i64 2, .int .i64 0, .int .i64 1] 3))
  have b2 := Kd.C_below a2 (below_new _ (.cells #[.int .i64 2, .int .i64 0, .int .i64 1] 3))
  rw [World.size_alloc] at b2
  rw [World.size_alloc, World.size_alloc] at a3
  have := rows_new (((w.alloc (.cells #[.int .i64 0] 3)).alloc (.cells #[.int .i64 1, .int .i64 0] 3)).alloc (.cells #[.int .i64 2, .int .i64 0, .int .i64 1] 3)) [.slice none 0 0, .slice (some ⟨w.heap.size, 0, none⟩) 1 1, .slice (some ⟨w.heap.size + 1, 0, none⟩) 2 2, .slice (some ⟨w.heap.size + 1 + 1, 0, none⟩) 3 3] planX (by decide) (fun j row hj => by
    match j, hj with
    | 0, hj => simp [planX] at hj; subst hj; exact ⟨none, 0, rfl, Nat.le_refl _, Kd.C_nil _ _⟩
    | 1, hj => simp [planX] at hj; subst hj; exact ⟨_, 1, rfl, Nat.le_refl _, b1⟩
    | 2, hj => simp [planX] at hj; subst hj; exact ⟨_, 2, rfl, Nat.le_refl _, b2⟩
    | 3, hj => simp [planX] at hj; subst hj; exact ⟨_, 3, rfl, Nat.le_refl _, a3⟩
    | j + 4, hj => simp [planX] at hj)
  rw [World.size_alloc, World.size_alloc, World.size_alloc] at this
  exact this
theorem nn_new (w : World) : Kd.C (Kd.slice 3 (Kd.int .i64)) (w.alloc (.cells #[.slice none 0 0, .slice none 0 0] 24)) (some ⟨w.heap.size, 0, none⟩) 2 [[], []] :=
  rows_new w [.slice none 0 0, .slice none 0 0] [[], []] (by decide) (fun j row hj => by
    match j, hj with
    | 0, hj => simp at hj; subst hj; exact ⟨none, 0, rfl, Nat.le_refl _, Kd.C_nil _ _⟩
    | 1, hj => simp at hj; subst hj; exact ⟨none, 0, rfl, Nat.le_refl _, Kd.C_nil _ _⟩
    | j + 2, hj => simp at hj)
theorem n1_new (w : World) (L : List Int) (hL : L.length ≤ 1000) : Kd.C (Kd.slice 3 (Kd.int .i64)) ((w.alloc (.cells (L.map (Value.int .i64)).toArray 3)).alloc (.cells #[.slice none 0 0, .slice (some ⟨w.heap.size, 0, none⟩) L.length L.length] 24)) (some ⟨w.heap.size + 1, 0, none⟩) 2 [[], L] := by
  have a1 := lit_new w L hL
  have := rows_new (w.alloc (.cells (L.map (Value.int .i64)).toArray 3)) [.slice none 0 0, .slice (some ⟨w.heap.size, 0, none⟩) L.length L.length] [[], L] (by simp) (fun j row hj => by
    match j, hj with
    | 0, hj => simp at hj; subst hj; exact ⟨none, 0, rfl, Nat.le_refl _, Kd.C_nil _ _⟩
    | 1, hj => simp at hj; subst hj; exact ⟨_, _, rfl, Nat.le_refl _, a1⟩
    | j + 2, hj => simp at hj)
  rw [World.size_alloc] at this
  exact this
theorem o1_new (w : World) (L : List Int) (hL : L.length ≤ 1000) : Kd.C (Kd.slice 3 (Kd.int .i64)) ((w.alloc (.cells (L.map (Value.int .i64)).toArray 3)).alloc (.cells #[.slice (some ⟨w.heap.size, 0, none⟩) L.length L.length] 24)) (some ⟨w.heap.size + 1, 0, none⟩) 1 [L] := by
  have a1 := lit_new w L hL
  have := rows_new (w.alloc (.cells (L.map (Value.int .i64)).toArray 3)) [.slice (some ⟨w.heap.size, 0, none⟩) L.length L.length] [L] (by simp) (fun j row hj => by
    match j, hj with
    | 0, hj => simp at hj; subst hj; exact ⟨_, _, rfl, Nat.le_refl _, a1⟩
    | j + 1, hj => simp at hj)
  rw [World.size_alloc] at this
  exact this

theorem fx0 : rank_Choose.f 0 planX 2 1 [] = some (0, true) := by kernel_rfl
theorem fx1 : rank_Choose.f 0 planX 3 0 [1] = some (2, true) := by kernel_rfl
theorem fx2 : rank_Choose.f 0 planX 3 9 [] = some (2, true) := by kernel_rfl
theorem fx3 : rank_Choose.f 0 planX 2 0 [0, 1] = some (0, false) := by kernel_rfl
theorem fx4 : rank_First.f 60 planX = some [(-1), 0, 1, 2] := by kernel_rfl
theorem fx5 : rank_Right.f 60 planX = some 0 := by kernel_rfl
theorem fx6 : rank_Right.f 60 [] = some 1 := by kernel_rfl
theorem fx7 : rank_Right.f 60 [[], []] = some 1 := by kernel_rfl
theorem fx8 : rank_Right.f 60 [[], [1]] = some 12 := by kernel_rfl
theorem fx9 : rank_Right.f 60 [[0]] = some 12 := by kernel_rfl
theorem fx10 : rank_Right.f 60 [[], [0, 0]] = some 9 := by kernel_rfl
theorem fx11 : rivuletref04_Ints.f 60 [(-1), 0, 1, 2] [(-1), 0, 1, 2] = some true := by kernel_rfl
theorem fx12 : rank_Fits.f 60 [(-1), 0, 1, 2] = some true := by kernel_rfl
theorem fx13 : rank_Fits.f 60 [0] = some false := by kernel_rfl
theorem fx14 : rank_Path.f 60 [(-1), 0, 1, 2] 2 = some [2, 1, 0] := by kernel_rfl
theorem fx15 : rivuletref04_Ints.f 60 [2, 1, 0] [2, 1, 0] = some true := by kernel_rfl
theorem fx16 : rank_Depth.f 60 [(-1), 0, 1, 2] 3 = some 3 := by kernel_rfl
theorem fx17 : rank_Under.f 60 [(-1), 0, 1, 2] 1 = some [2] := by kernel_rfl
theorem fx18 : rivuletref04_Ints.f 60 [2] [2] = some true := by kernel_rfl
theorem fx19 : rank_Part.f 60 [(-1), 0, (-1), 2] 3 = some [2, 3] := by kernel_rfl
theorem fx20 : rivuletref04_Ints.f 60 [2, 3] [2, 3] = some true := by kernel_rfl
theorem fx21 : rank_Path.f 60 [(-1), 0, 1, 2] 4 = some ([] : List Int) := by kernel_rfl

set_option maxHeartbeats 8000000 in
set_option maxRecDepth 100000 in
theorem fixed_any (w : World) : Calls Try.prog 15 #[] w fun e w' => e = .returned (.bool true) ∧ Below w.heap.size w w' := by
  have B0 := Below.refl w.heap.size w
  go_enter Try.func15, Try.ntmps15
  go_wp2_with fail
  have P1 := plan_new w
  have B1 : Below w.heap.size w ((((w.alloc (.cells #[.int .i64 0] 3)).alloc (.cells #[.int .i64 1, .int .i64 0] 3)).alloc (.cells #[.int .i64 2, .int .i64 0, .int .i64 1] 3)).alloc (.cells #[.slice none 0 0, .slice (some ⟨w.heap.size, 0, none⟩) 1 1, .slice (some ⟨w.heap.size + 1, 0, none⟩) 2 2, .slice (some ⟨w.heap.size + 1 + 1, 0, none⟩) 3 3] 24)) := below_join (below_join (below_join (below_new _ _) (below_new _ _)) (below_new _ _)) (below_new _ _)
  generalize (((w.alloc (.cells #[.int .i64 0] 3)).alloc (.cells #[.int .i64 1, .int .i64 0] 3)).alloc (.cells #[.int .i64 2, .int .i64 0, .int .i64 1] 3)).alloc (.cells #[.slice none 0 0, .slice (some ⟨w.heap.size, 0, none⟩) 1 1, .slice (some ⟨w.heap.size + 1, 0, none⟩) 2 2, .slice (some ⟨w.heap.size + 1 + 1, 0, none⟩) 3 3] 24) = w1 at P1 B1 ⊢
  generalize w.heap.size + 1 + 1 + 1 = pb at P1 ⊢
  clear B0
  refine (rank_Choose.calls 0 (some ⟨pb, 0, none⟩) 4 planX 2 1 none 0 [] 0 true w1 P1 (Nat.le_refl _) (Kd.C_nil (Kd.int .i64) _) (Nat.le_refl _) fx0).mono ?_
  rintro e w2 ⟨rfl, hb⟩
  have P2 := Kd.C_below P1 hb
  have B2 := below_join B1 hb
  clear P1 B1 hb
  go_wp2_with fail
  have k0 : Kd.C (Kd.int .i64) (w2.alloc (.cells #[.int .i64 1] 3)) (some ⟨w2.heap.size, 0, none⟩) 1 [1] := lit_new w2 [1] (by decide)
  have E2 : Below w2.heap.size w2 (w2.alloc (.cells #[.int .i64 1] 3)) := below_new _ _
  generalize w2.alloc (.cells #[.int .i64 1] 3) = w3 at E2 k0 ⊢
  have P3 := Kd.C_below P2 E2
  have B3 := below_join B2 E2
  clear P2 B2 E2
  generalize w2.heap.size = kb at k0 ⊢
  refine (rank_Choose.calls 0 (some ⟨pb, 0, none⟩) 4 planX 3 0 (some ⟨kb, 0, none⟩) 1 [1] 2 true w3 P3 (Nat.le_refl _) k0 (Nat.le_refl _) fx1).mono ?_
  clear k0
  rintro e w4 ⟨rfl, hb⟩
  have P4 := Kd.C_below P3 hb
  have B4 := below_join B3 hb
  clear P3 B3 hb
  go_wp2_with fail
  refine (rank_Choose.calls 0 (some ⟨pb, 0, none⟩) 4 planX 3 9 none 0 [] 2 true w4 P4 (Nat.le_refl _) (Kd.C_nil (Kd.int .i64) _) (Nat.le_refl _) fx2).mono ?_
  rintro e w5 ⟨rfl, hb⟩
  have P5 := Kd.C_below P4 hb
  have B5 := below_join B4 hb
  clear P4 B4 hb
  go_wp2_with fail
  have k0 : Kd.C (Kd.int .i64) (w5.alloc (.cells #[.int .i64 0, .int .i64 1] 3)) (some ⟨w5.heap.size, 0, none⟩) 2 [0, 1] := lit_new w5 [0, 1] (by decide)
  have E5 : Below w5.heap.size w5 (w5.alloc (.cells #[.int .i64 0, .int .i64 1] 3)) := below_new _ _
  generalize w5.alloc (.cells #[.int .i64 0, .int .i64 1] 3) = w6 at E5 k0 ⊢
  have P6 := Kd.C_below P5 E5
  have B6 := below_join B5 E5
  clear P5 B5 E5
  generalize w5.heap.size = kb at k0 ⊢
  refine (rank_Choose.calls 0 (some ⟨pb, 0, none⟩) 4 planX 2 0 (some ⟨kb, 0, none⟩) 2 [0, 1] 0 false w6 P6 (Nat.le_refl _) k0 (Nat.le_refl _) fx3).mono ?_
  clear k0
  rintro e w7 ⟨rfl, hb⟩
  have P7 := Kd.C_below P6 hb
  have B7 := below_join B6 hb
  clear P6 B6 hb
  go_wp2_with fail
  refine (rank_First.calls 60 (some ⟨pb, 0, none⟩) 4 planX [(-1), 0, 1, 2] w7 P7 (Nat.le_refl _) fx4).mono ?_
  rintro e w8 ⟨v, rfl, ho, hb⟩
  obtain ⟨Al, cl, rfl, hlc, L8⟩ := Kd.R_reads ho
  have hl0 : [(-1 : Int), 0, 1, 2].length = 4 := rfl
  rw [hl0] at hlc L8 ⊢
  clear ho hl0
  have P8 := Kd.C_below P7 hb
  have B8 := below_join B7 hb
  clear P7 B7 hb
  go_wp2_with fail
  refine (rank_Right.calls 60 (some ⟨pb, 0, none⟩) 4 planX 0 w8 P8 (Nat.le_refl _) fx5).mono ?_
  rintro e w9 ⟨rfl, hd⟩
  have hb := below_of_drawn hd
  clear hd
  have P9 := Kd.C_below P8 hb
  have L9 := Kd.C_below L8 hb
  have B9 := below_join B8 hb
  clear P8 L8 B8 hb
  go_wp2_with fail
  refine (rank_Right.calls 60 none 0 [] 1 w9 (Kd.C_nil _ _) (Nat.le_refl _) fx6).mono ?_
  rintro e w10 ⟨rfl, hd⟩
  have hb := below_of_drawn hd
  clear hd
  have P10 := Kd.C_below P9 hb
  have L10 := Kd.C_below L9 hb
  have B10 := below_join B9 hb
  clear P9 L9 B9 hb
  go_wp2_with fail
  have k0 := nn_new w10
  have E10 : Below w10.heap.size w10 (w10.alloc (.cells #[.slice none 0 0, .slice none 0 0] 24)) := below_new _ _
  generalize w10.alloc (.cells #[.slice none 0 0, .slice none 0 0] 24) = w11 at E10 k0 ⊢
  have P11 := Kd.C_below P10 E10
  have L11 := Kd.C_below L10 E10
  have B11 := below_join B10 E10
  clear P10 L10 B10 E10
  generalize w10.heap.size = kb at k0 ⊢
  refine (rank_Right.calls 60 (some ⟨kb, 0, none⟩) 2 [[], []] 1 w11 k0 (Nat.le_refl _) fx7).mono ?_
  clear k0
  rintro e w12 ⟨rfl, hd⟩
  have hb := below_of_drawn hd
  clear hd
  have P12 := Kd.C_below P11 hb
  have L12 := Kd.C_below L11 hb
  have B12 := below_join B11 hb
  clear P11 L11 B11 hb
  go_wp2_with fail
  have k0 : Kd.C (Kd.slice 3 (Kd.int .i64)) ((w12.alloc (.cells #[.int .i64 1] 3)).alloc (.cells #[.slice none 0 0, .slice (some ⟨w12.heap.size, 0, none⟩) 1 1] 24)) (some ⟨w12.heap.size + 1, 0, none⟩) 2 [[], [1]] := n1_new w12 [1] (by decide)
  have E12 : Below w12.heap.size w12 ((w12.alloc (.cells #[.int .i64 1] 3)).alloc (.cells #[.slice none 0 0, .slice (some ⟨w12.heap.size, 0, none⟩) 1 1] 24)) := below_join (below_new _ _) (below_new _ _)
  generalize (w12.alloc (.cells #[.int .i64 1] 3)).alloc (.cells #[.slice none 0 0, .slice (some ⟨w12.heap.size, 0, none⟩) 1 1] 24) = w13 at E12 k0 ⊢
  have P13 := Kd.C_below P12 E12
  have L13 := Kd.C_below L12 E12
  have B13 := below_join B12 E12
  clear P12 L12 B12 E12
  generalize w12.heap.size + 1 = kb at k0 ⊢
  refine (rank_Right.calls 60 (some ⟨kb, 0, none⟩) 2 [[], [1]] 12 w13 k0 (Nat.le_refl _) fx8).mono ?_
  clear k0
  rintro e w14 ⟨rfl, hd⟩
  have hb := below_of_drawn hd
  clear hd
  have P14 := Kd.C_below P13 hb
  have L14 := Kd.C_below L13 hb
  have B14 := below_join B13 hb
  clear P13 L13 B13 hb
  go_wp2_with fail
  have k0 : Kd.C (Kd.slice 3 (Kd.int .i64)) ((w14.alloc (.cells #[.int .i64 0] 3)).alloc (.cells #[.slice (some ⟨w14.heap.size, 0, none⟩) 1 1] 24)) (some ⟨w14.heap.size + 1, 0, none⟩) 1 [[0]] := o1_new w14 [0] (by decide)
  have E14 : Below w14.heap.size w14 ((w14.alloc (.cells #[.int .i64 0] 3)).alloc (.cells #[.slice (some ⟨w14.heap.size, 0, none⟩) 1 1] 24)) := below_join (below_new _ _) (below_new _ _)
  generalize (w14.alloc (.cells #[.int .i64 0] 3)).alloc (.cells #[.slice (some ⟨w14.heap.size, 0, none⟩) 1 1] 24) = w15 at E14 k0 ⊢
  have P15 := Kd.C_below P14 E14
  have L15 := Kd.C_below L14 E14
  have B15 := below_join B14 E14
  clear P14 L14 B14 E14
  generalize w14.heap.size + 1 = kb at k0 ⊢
  refine (rank_Right.calls 60 (some ⟨kb, 0, none⟩) 1 [[0]] 12 w15 k0 (Nat.le_refl _) fx9).mono ?_
  clear k0
  rintro e w16 ⟨rfl, hd⟩
  have hb := below_of_drawn hd
  clear hd
  have P16 := Kd.C_below P15 hb
  have L16 := Kd.C_below L15 hb
  have B16 := below_join B15 hb
  clear P15 L15 B15 hb
  go_wp2_with fail
  have k0 : Kd.C (Kd.slice 3 (Kd.int .i64)) ((w16.alloc (.cells #[.int .i64 0, .int .i64 0] 3)).alloc (.cells #[.slice none 0 0, .slice (some ⟨w16.heap.size, 0, none⟩) 2 2] 24)) (some ⟨w16.heap.size + 1, 0, none⟩) 2 [[], [0, 0]] := n1_new w16 [0, 0] (by decide)
  have E16 : Below w16.heap.size w16 ((w16.alloc (.cells #[.int .i64 0, .int .i64 0] 3)).alloc (.cells #[.slice none 0 0, .slice (some ⟨w16.heap.size, 0, none⟩) 2 2] 24)) := below_join (below_new _ _) (below_new _ _)
  generalize (w16.alloc (.cells #[.int .i64 0, .int .i64 0] 3)).alloc (.cells #[.slice none 0 0, .slice (some ⟨w16.heap.size, 0, none⟩) 2 2] 24) = w17 at E16 k0 ⊢
  have P17 := Kd.C_below P16 E16
  have L17 := Kd.C_below L16 E16
  have B17 := below_join B16 E16
  clear P16 L16 B16 E16
  generalize w16.heap.size + 1 = kb at k0 ⊢
  refine (rank_Right.calls 60 (some ⟨kb, 0, none⟩) 2 [[], [0, 0]] 9 w17 k0 (Nat.le_refl _) fx10).mono ?_
  clear k0
  rintro e w18 ⟨rfl, hd⟩
  have hb := below_of_drawn hd
  clear hd
  have P18 := Kd.C_below P17 hb
  have L18 := Kd.C_below L17 hb
  have B18 := below_join B17 hb
  clear P17 L17 B17 hb
  go_wp2_with fail
  have k0 : Kd.C (Kd.int .i64) (w18.alloc (.cells #[.int .i64 (-1), .int .i64 0, .int .i64 1, .int .i64 2] 3)) (some ⟨w18.heap.size, 0, none⟩) 4 [(-1), 0, 1, 2] := lit_new w18 [(-1), 0, 1, 2] (by decide)
  have E18 : Below w18.heap.size w18 (w18.alloc (.cells #[.int .i64 (-1), .int .i64 0, .int .i64 1, .int .i64 2] 3)) := below_new _ _
  generalize w18.alloc (.cells #[.int .i64 (-1), .int .i64 0, .int .i64 1, .int .i64 2] 3) = w19 at E18 k0 ⊢
  have P19 := Kd.C_below P18 E18
  have L19 := Kd.C_below L18 E18
  have B19 := below_join B18 E18
  clear P18 L18 B18 E18
  generalize w18.heap.size = kb at k0 ⊢
  refine (rivuletref04_Ints.calls 60 Al cl [(-1), 0, 1, 2] (some ⟨kb, 0, none⟩) 4 [(-1), 0, 1, 2] true w19 L19 hlc k0 (Nat.le_refl _) fx11).mono ?_
  clear k0
  rintro e w20 ⟨rfl, hd⟩
  have hb := below_of_drawn hd
  clear hd
  have P20 := Kd.C_below P19 hb
  have L20 := Kd.C_below L19 hb
  have B20 := below_join B19 hb
  clear P19 L19 B19 hb
  go_wp2_with fail
  refine (rank_Fits.calls 60 Al cl [(-1), 0, 1, 2] true w20 L20 hlc fx12).mono ?_
  rintro e w21 ⟨rfl, hd⟩
  have hb := below_of_drawn hd
  clear hd
  have P21 := Kd.C_below P20 hb
  have L21 := Kd.C_below L20 hb
  have B21 := below_join B20 hb
  clear P20 L20 B20 hb
  go_wp2_with fail
  have k0 : Kd.C (Kd.int .i64) (w21.alloc (.cells #[.int .i64 0] 3)) (some ⟨w21.heap.size, 0, none⟩) 1 [0] := lit_new w21 [0] (by decide)
  have E21 : Below w21.heap.size w21 (w21.alloc (.cells #[.int .i64 0] 3)) := below_new _ _
  generalize w21.alloc (.cells #[.int .i64 0] 3) = w22 at E21 k0 ⊢
  have P22 := Kd.C_below P21 E21
  have L22 := Kd.C_below L21 E21
  have B22 := below_join B21 E21
  clear P21 L21 B21 E21
  generalize w21.heap.size = kb at k0 ⊢
  refine (rank_Fits.calls 60 (some ⟨kb, 0, none⟩) 1 [0] false w22 k0 (Nat.le_refl _) fx13).mono ?_
  clear k0
  rintro e w23 ⟨rfl, hd⟩
  have hb := below_of_drawn hd
  clear hd
  have P23 := Kd.C_below P22 hb
  have L23 := Kd.C_below L22 hb
  have B23 := below_join B22 hb
  clear P22 L22 B22 hb
  go_wp2_with fail
  refine (rank_Path.calls 60 Al cl [(-1), 0, 1, 2] 2 [2, 1, 0] w23 L23 hlc fx14).mono ?_
  rintro e w24 ⟨v, rfl, ho, hb⟩
  obtain ⟨Ax, cx, rfl, hx, X24⟩ := Kd.R_reads ho
  clear ho
  have P24 := Kd.C_below P23 hb
  have L24 := Kd.C_below L23 hb
  have B24 := below_join B23 hb
  clear P23 L23 B23 hb
  have hl0 : ([2, 1, 0] : List Int).length = 3 := rfl
  rw [hl0] at hx X24 ⊢
  clear hl0
  go_wp2_with fail
  have k0 : Kd.C (Kd.int .i64) (w24.alloc (.cells #[.int .i64 2, .int .i64 1, .int .i64 0] 3)) (some ⟨w24.heap.size, 0, none⟩) 3 [2, 1, 0] := lit_new w24 [2, 1, 0] (by decide)
  have E24 : Below w24.heap.size w24 (w24.alloc (.cells #[.int .i64 2, .int .i64 1, .int .i64 0] 3)) := below_new _ _
  generalize w24.alloc (.cells #[.int .i64 2, .int .i64 1, .int .i64 0] 3) = w25 at E24 k0 ⊢
  have P25 := Kd.C_below P24 E24
  have L25 := Kd.C_below L24 E24
  have X25 := Kd.C_below X24 E24
  have B25 := below_join B24 E24
  clear P24 L24 X24 B24 E24
  generalize w24.heap.size = kb at k0 ⊢
  refine (rivuletref04_Ints.calls 60 Ax cx [2, 1, 0] (some ⟨kb, 0, none⟩) 3 [2, 1, 0] true w25 X25 hx k0 (Nat.le_refl _) fx15).mono ?_
  clear k0
  rintro e w26 ⟨rfl, hd⟩
  have hb := below_of_drawn hd
  clear hd
  have P26 := Kd.C_below P25 hb
  have L26 := Kd.C_below L25 hb
  have X26 := Kd.C_below X25 hb
  have B26 := below_join B25 hb
  clear P25 L25 X25 B25 hb
  clear X26 hx
  go_wp2_with fail
  refine (rank_Depth.calls 60 Al cl [(-1), 0, 1, 2] 3 3 w26 L26 hlc fx16).mono ?_
  rintro e w27 ⟨rfl, hb⟩
  have P27 := Kd.C_below P26 hb
  have L27 := Kd.C_below L26 hb
  have B27 := below_join B26 hb
  clear P26 L26 B26 hb
  go_wp2_with fail
  refine (rank_Under.calls 60 Al cl [(-1), 0, 1, 2] 1 [2] w27 L27 hlc fx17).mono ?_
  rintro e w28 ⟨v, rfl, ho, hb⟩
  obtain ⟨Ax, cx, rfl, hx, X28⟩ := Kd.R_reads ho
  clear ho
  have P28 := Kd.C_below P27 hb
  have L28 := Kd.C_below L27 hb
  have B28 := below_join B27 hb
  clear P27 L27 B27 hb
  have hl0 : ([2] : List Int).length = 1 := rfl
  rw [hl0] at hx X28 ⊢
  clear hl0
  go_wp2_with fail
  have k0 : Kd.C (Kd.int .i64) (w28.alloc (.cells #[.int .i64 2] 3)) (some ⟨w28.heap.size, 0, none⟩) 1 [2] := lit_new w28 [2] (by decide)
  have E28 : Below w28.heap.size w28 (w28.alloc (.cells #[.int .i64 2] 3)) := below_new _ _
  generalize w28.alloc (.cells #[.int .i64 2] 3) = w29 at E28 k0 ⊢
  have P29 := Kd.C_below P28 E28
  have L29 := Kd.C_below L28 E28
  have X29 := Kd.C_below X28 E28
  have B29 := below_join B28 E28
  clear P28 L28 X28 B28 E28
  generalize w28.heap.size = kb at k0 ⊢
  refine (rivuletref04_Ints.calls 60 Ax cx [2] (some ⟨kb, 0, none⟩) 1 [2] true w29 X29 hx k0 (Nat.le_refl _) fx18).mono ?_
  clear k0
  rintro e w30 ⟨rfl, hd⟩
  have hb := below_of_drawn hd
  clear hd
  have P30 := Kd.C_below P29 hb
  have L30 := Kd.C_below L29 hb
  have X30 := Kd.C_below X29 hb
  have B30 := below_join B29 hb
  clear P29 L29 X29 B29 hb
  clear X30 hx
  go_wp2_with fail
  have k0 : Kd.C (Kd.int .i64) (w30.alloc (.cells #[.int .i64 (-1), .int .i64 0, .int .i64 (-1), .int .i64 2] 3)) (some ⟨w30.heap.size, 0, none⟩) 4 [(-1), 0, (-1), 2] := lit_new w30 [(-1), 0, (-1), 2] (by decide)
  have E30 : Below w30.heap.size w30 (w30.alloc (.cells #[.int .i64 (-1), .int .i64 0, .int .i64 (-1), .int .i64 2] 3)) := below_new _ _
  generalize w30.alloc (.cells #[.int .i64 (-1), .int .i64 0, .int .i64 (-1), .int .i64 2] 3) = w31 at E30 k0 ⊢
  have P31 := Kd.C_below P30 E30
  have L31 := Kd.C_below L30 E30
  have B31 := below_join B30 E30
  clear P30 L30 B30 E30
  generalize w30.heap.size = kb at k0 ⊢
  have K31 := k0
  refine (rank_Part.calls 60 (some ⟨kb, 0, none⟩) 4 [(-1), 0, (-1), 2] 3 [2, 3] w31 K31 (Nat.le_refl _) fx19).mono ?_
  rintro e w32 ⟨v, rfl, ho, hb⟩
  obtain ⟨Ax, cx, rfl, hx, X32⟩ := Kd.R_reads ho
  clear ho
  have P32 := Kd.C_below P31 hb
  have L32 := Kd.C_below L31 hb
  have K32 := Kd.C_below K31 hb
  have B32 := below_join B31 hb
  clear P31 L31 K31 B31 hb
  have hl0 : ([2, 3] : List Int).length = 2 := rfl
  rw [hl0] at hx X32 ⊢
  clear hl0
  clear K32 k0
  go_wp2_with fail
  have k0 : Kd.C (Kd.int .i64) (w32.alloc (.cells #[.int .i64 2, .int .i64 3] 3)) (some ⟨w32.heap.size, 0, none⟩) 2 [2, 3] := lit_new w32 [2, 3] (by decide)
  have E32 : Below w32.heap.size w32 (w32.alloc (.cells #[.int .i64 2, .int .i64 3] 3)) := below_new _ _
  generalize w32.alloc (.cells #[.int .i64 2, .int .i64 3] 3) = w33 at E32 k0 ⊢
  have P33 := Kd.C_below P32 E32
  have L33 := Kd.C_below L32 E32
  have X33 := Kd.C_below X32 E32
  have B33 := below_join B32 E32
  clear P32 L32 X32 B32 E32
  generalize w32.heap.size = kb at k0 ⊢
  refine (rivuletref04_Ints.calls 60 Ax cx [2, 3] (some ⟨kb, 0, none⟩) 2 [2, 3] true w33 X33 hx k0 (Nat.le_refl _) fx20).mono ?_
  clear k0
  rintro e w34 ⟨rfl, hd⟩
  have hb := below_of_drawn hd
  clear hd
  have P34 := Kd.C_below P33 hb
  have L34 := Kd.C_below L33 hb
  have X34 := Kd.C_below X33 hb
  have B34 := below_join B33 hb
  clear P33 L33 X33 B33 hb
  clear X34 hx
  go_wp2_with fail
  refine (rank_Path.calls 60 Al cl [(-1), 0, 1, 2] 4 [] w34 L34 hlc fx21).mono ?_
  rintro e w35 ⟨v, rfl, ho, hb⟩
  obtain ⟨Ax, cx, rfl, hx, X35⟩ := Kd.R_reads ho
  clear ho
  have P35 := Kd.C_below P34 hb
  have L35 := Kd.C_below L34 hb
  have B35 := below_join B34 hb
  clear P34 L34 B34 hb
  have hl0 : ([] : List Int).length = 0 := rfl
  rw [hl0] at hx X35 ⊢
  clear hl0
  go_wp2_with fail
  go_ret
  exact ⟨rfl, B35⟩

def rivuletlaw16_fixed.f : Option Bool := some true
theorem rivuletlaw16_fixed.calls (r : Bool) (w : World) (h : rivuletlaw16_fixed.f = some r) :
    Calls Try.prog 15 #[] w fun e w' => e = .returned (.bool r) ∧ Below w.heap.size w w' := by
  obtain rfl : r = true := (Option.some.inj h).symm
  exact fixed_any w
end Go.Proofs.Ytagnpmmcoaemeaa.R16
