/- The fixed calls of the sender's statements answer true, whatever the world; nothing that was there turns. -/
import Derived.Test.YtejmcfgmopijkaaSm
namespace Go.Proofs.Ytejmcfgmopijkaa
open Go.RowKit
set_option linter.unusedVariables false
set_option linter.unusedSimpArgs false

theorem due_is {B g : Nat} {ep win wait cr gone last now last' : Int} {T T' : List Txt} {L : List Itm} {w : World} (h : SndI w B g ep win wait cr T gone last) (hb : SndB win wait cr T gone last) (hBw : B ≤ w.heap.size) (hn1 : now ≤ 2000000000000000) (hn2 : 0 ≤ now)
    (hL : dueL wait last gone now T = L) (hT : dueT wait last gone now T = T') (hl : dueLast wait last gone now T = last') :
    Calls Try.prog 37 #[.pointer (some ⟨g, 0, none⟩), .int .i64 now] w fun r w' => ∃ A cap, r = .returned (.slice A L.length cap) ∧ w'.ownsRow w.heap.size 76 2 (.slice A L.length cap) L.length (itmCells L) ∧ SndI w' B g ep win wait cr T' gone last' ∧ ChB B [111, 114] w w' := by
  obtain ⟨v, h⟩ := h
  subst hL hT hl
  exact (due_v B g ep win wait cr gone last now T v w h hb hBw hn1 hn2).mono fun r w' ⟨v', h1, h2, h3, h4⟩ => by
    obtain ⟨A, cap, rfl, _⟩ := own_len h2
    exact ⟨A, cap, h1, h2, h3, h4⟩
theorem under_is {B g : Nat} {ep win wait cr gone last : Int} {T : List Txt} {L : List Itm} {w : World} (h : SndI w B g ep win wait cr T gone last) (hb : SndB win wait cr T gone last) (hL : itemsOf (fun _ : Txt => true) gone T = L) :
    Calls Try.prog 43 #[.pointer (some ⟨g, 0, none⟩)] w fun r w' => ∃ A cap, r = .returned (.slice A L.length cap) ∧ RdI w' A L ∧ Ch [] w w' := by
  obtain ⟨v, h⟩ := h
  subst hL
  exact (sunder_v B g ep win wait cr gone last T v w h hb).mono fun r w' ⟨v', h1, h2, h3⟩ => by
    obtain ⟨A, cap, rfl, h5⟩ := own_rd h2
    exact ⟨A, cap, h1, h5, h3⟩
theorem push_is {B g : Nat} {ep win wait cr gone last : Int} {T T' : List Txt} {s : ByteArray} {n : Int} {w : World} (h : SndI w B g ep win wait cr T gone last) (hb : SndB win wait cr T gone last) (hBw : B ≤ w.heap.size) (hr : roomN win cr T.length ≠ 0) (hn : nextN gone T = n) (hT : T ++ [(s, false)] = T') :
    Calls Try.prog 34 #[.pointer (some ⟨g, 0, none⟩), .string s] w fun r w' => r = .returned (.tuple #[.int .i64 n, .int .i64 0]) ∧ SndI w' B g ep win wait cr T' gone last ∧ ChB B [111, 114] w w' := by
  obtain ⟨v, h⟩ := h
  subst hn hT
  exact spush_yes B g ep win wait cr gone last T s v w h hb hBw hr
theorem push_isno {B g : Nat} {ep win wait cr gone last : Int} {T : List Txt} {s : ByteArray} {w : World} (h : SndI w B g ep win wait cr T gone last) (hb : SndB win wait cr T gone last) (hr : roomN win cr T.length = 0) :
    Calls Try.prog 34 #[.pointer (some ⟨g, 0, none⟩), .string s] w fun r w' => r = .returned (.tuple #[.int .i64 0, .int .i64 7]) ∧ ChB B [] w w' := by
  obtain ⟨v, h⟩ := h
  exact spush_no B g ep win wait cr gone last T s v w h hb hr
theorem stake_isno {B g : Nat} {ep win wait cr gone last e s c n : Int} {T : List Txt} {w : World} (h : SndI w B g ep win wait cr T gone last) (hb : SndB win wait cr T gone last) (hn : stakeN ep gone T.length e s c = n) (h0 : n ≠ 0) :
    Calls Try.prog 39 #[.pointer (some ⟨g, 0, none⟩), .int .i64 e, .int .i64 s, .int .i64 c] w fun r w' => r = .returned (.tuple #[.int .i64 0, .int .i64 n]) ∧ ChB B [] w w' := by
  obtain ⟨v, h⟩ := h
  subst hn
  exact stake_no B g ep win wait cr gone last e s c T v w h hb h0
theorem stake_is {B g : Nat} {ep win wait cr gone last s c n : Int} {T T' : List Txt} {w : World} (h : SndI w B g ep win wait cr T gone last) (hb : SndB win wait cr T gone last) (hBw : B ≤ w.heap.size)
    (hc0 : 0 ≤ c) (hc1 : c ≤ 64) (hs0 : 0 ≤ s) (hs1 : s ≤ gone + T.length) (hs2 : gone ≤ s) (hn : s - gone = n) (hT : T.drop (s - gone).toNat = T') :
    Calls Try.prog 39 #[.pointer (some ⟨g, 0, none⟩), .int .i64 ep, .int .i64 s, .int .i64 c] w fun r w' => r = .returned (.tuple #[.int .i64 n, .int .i64 0]) ∧ SndI w' B g ep win wait c T' s last ∧ ChB B [111, 114] w w' := by
  obtain ⟨v, h⟩ := h
  subst hn hT
  exact stake_yes B g ep win wait cr gone last s c T v w h hb hBw hc0 hc1 hs0 hs1 hs2
theorem room_is {B g : Nat} {ep win wait cr gone last n : Int} {T : List Txt} {w : World} (h : SndI w B g ep win wait cr T gone last) (hb : SndB win wait cr T gone last) (hn : roomN win cr T.length = n) :
    Calls Try.prog 41 #[.pointer (some ⟨g, 0, none⟩)] w fun r w' => r = .returned (.int .i64 n) ∧ ChB B [] w w' := by
  obtain ⟨v, h⟩ := h
  subst hn
  exact room_v B g ep win wait cr gone last T v w h hb
theorem snext_is {B g : Nat} {ep win wait cr gone last n : Int} {T : List Txt} {w : World} (h : SndI w B g ep win wait cr T gone last) (hb : SndB win wait cr T gone last) (hn : nextN gone T = n) :
    Calls Try.prog 45 #[.pointer (some ⟨g, 0, none⟩)] w fun r w' => r = .returned (.int .i64 n) ∧ ChB B [] w w' := by
  obtain ⟨v, h⟩ := h
  subst hn
  exact snext_v B g ep win wait cr gone last T v w h hb
theorem shad_is {B g : Nat} {ep win wait cr gone last : Int} {T : List Txt} {w : World} (h : SndI w B g ep win wait cr T gone last) :
    Calls Try.prog 46 #[.pointer (some ⟨g, 0, none⟩)] w fun r w' => r = .returned (.int .i64 gone) ∧ w = w' := by
  obtain ⟨v, h⟩ := h
  exact shad_v B g ep win wait cr gone last T v w h

def sa : ByteArray := ⟨#[97]⟩
def sb : ByteArray := ⟨#[98]⟩
def bothL : List Itm := [(1, ⟨#[97]⟩), (2, ⟨#[98]⟩)]
/-- The list of the law's own two items. -/
theorem both_rd {w : World} {x : Nat} (h : Blk w x 115 #[.int .i64 1, .string ⟨#[97]⟩, .int .i64 2, .string ⟨#[98]⟩]) : RdI w (some ⟨x, 0, none⟩) bothL := fun i y hy => by
  have hlt : i < 2 := (List.getElem?_eq_some_iff.1 hy).1
  obtain rfl | rfl : i = 0 ∨ i = 1 := by omega
  · simp [bothL] at hy; subst hy; exact ⟨x, 0, rfl, h.lt, h.cell 0, h.cell 1⟩
  · simp [bothL] at hy; subst hy; exact ⟨x, 0, rfl, h.lt, h.cell 2, h.cell 3⟩
theorem both_rd1 {w : World} {x : Nat} (h : Blk w x 115 #[.int .i64 1, .string ⟨#[97]⟩, .int .i64 2, .string ⟨#[98]⟩]) : RdI w (some ⟨x, 2, none⟩) [((2 : Int), (⟨#[98]⟩ : ByteArray))] := fun i y hy => by
  have hlt : i < 1 := (List.getElem?_eq_some_iff.1 hy).1
  obtain rfl : i = 0 := by omega
  simp at hy; subst hy; exact ⟨x, 2, rfl, h.lt, h.cell 2, h.cell 3⟩

set_option maxHeartbeats 8000000 in
set_option maxRecDepth 100000 in
theorem fixed12 (w : World) : Calls Try.prog 47 #[] w fun r w' => r = .returned (.bool true) ∧ Below w.heap.size w w' := by
  go_enter Try.func47, Try.ntmps47
  go_wp2_with fail
  refine (snew_ex (B := w.heap.size) (w := w) (ep := 1) (win := 2) (wait := 5) (Nat.le_refl _) (by omega) (by omega) (by omega)).mono ?_
  rintro r w0 ⟨g, rfl, S0, C0⟩
  have B0 := bgo (Below.refl _ _) C0 (by simp)
  clear C0
  go_wp2_with fail
  refine (snew_no 0 2 5 w0 (by omega)).mono ?_
  rintro r w' ⟨rfl, rfl⟩
  go_wp2_with fail
  refine (snew_no 1 17 5 w0 (by omega)).mono ?_
  rintro r w' ⟨rfl, rfl⟩
  go_wp2_with fail
  refine (push_is (n := 1) (T' := [(⟨#[97]⟩, false)]) S0 (by constructor <;> decide) B0.size (by decide) rfl rfl).mono ?_
  rintro r w1 ⟨rfl, S1, C1⟩
  have B1 := ChB.go B0 C1 (Nat.le_refl _)
  clear S0 B0 C1
  go_wp2_with fail
  refine (push_is (n := 2) (T' := [(⟨#[97]⟩, false), (⟨#[98]⟩, false)]) S1 (by constructor <;> decide) B1.size (by decide) rfl rfl).mono ?_
  rintro r w2 ⟨rfl, S2, C2⟩
  have B2 := ChB.go B1 C2 (Nat.le_refl _)
  clear S1 B1 C2
  go_wp2_with fail
  refine (push_isno S2 (by constructor <;> decide) (by decide)).mono ?_
  rintro r w3 ⟨rfl, C3⟩
  have B3 := ChB.go B2 C3 (Nat.le_refl _)
  have S3 := S2.chB C3 (by simp) (by simp)
  clear S2 B2 C3
  go_wp2_with fail
  refine (due_is (now := 0) (L := bothL) (T' := [(⟨#[97]⟩, true), (⟨#[98]⟩, true)]) (last' := 0) S3 (by constructor <;> decide) B3.size (by omega) (by omega) rfl rfl rfl).mono ?_
  rintro r w4 ⟨Ax, cx, rfl, Xx, S4, C4⟩
  have B4 := ChB.go B3 C4 (Nat.le_refl _)
  clear S3 B3 C4
  have x4 := Xx
  clear Xx
  go_wp2_with fail
  refine (due_is (now := 4) (L := []) (T' := [(⟨#[97]⟩, true), (⟨#[98]⟩, true)]) (last' := 0) S4 (by constructor <;> decide) B4.size (by omega) (by omega) rfl rfl rfl).mono ?_
  rintro r w5 ⟨Ay, cy, rfl, Xy, S5, C5⟩
  have B5 := ChB.go B4 C5 (Nat.le_refl _)
  have x5 := own_chB x4 C5 (by simp)
  clear x4
  clear S4 B4 C5
  have y5 := Xy
  clear Xy
  go_wp2_with fail
  refine (due_is (now := 5) (L := bothL) (T' := [(⟨#[97]⟩, true), (⟨#[98]⟩, true)]) (last' := 5) S5 (by constructor <;> decide) B5.size (by omega) (by omega) rfl rfl rfl).mono ?_
  rintro r w6 ⟨Az, cz, rfl, Xz, S6, C6⟩
  have B6 := ChB.go B5 C6 (Nat.le_refl _)
  have x6 := own_chB x5 C6 (by simp)
  clear x5
  have y6 := own_chB y5 C6 (by simp)
  clear y5
  clear S5 B5 C6
  have z6 := Xz
  clear Xz
  go_wp2_with fail
  refine (stake_is (s := 1) (c := 2) (n := 1) (T' := [(⟨#[98]⟩, true)]) S6 (by constructor <;> decide) B6.size (by omega) (by omega) (by omega) (by simp) (by omega) rfl rfl).mono ?_
  rintro r w7 ⟨rfl, S7, C7⟩
  have B7 := ChB.go B6 C7 (Nat.le_refl _)
  have x7 := own_chB x6 C7 (by simp)
  clear x6
  have y7 := own_chB y6 C7 (by simp)
  clear y6
  have z7 := own_chB z6 C7 (by simp)
  clear z6
  clear S6 B6 C7
  go_wp2_with fail
  refine (stake_isno (n := 10) S7 (by constructor <;> decide) rfl (by decide)).mono ?_
  rintro r w8 ⟨rfl, C8⟩
  have B8 := ChB.go B7 C8 (Nat.le_refl _)
  have S8 := S7.chB C8 (by simp) (by simp)
  have x8 := own_chB x7 C8 (by simp)
  clear x7
  have y8 := own_chB y7 C8 (by simp)
  clear y7
  have z8 := own_chB z7 C8 (by simp)
  clear z7
  clear S7 B7 C8
  go_wp2_with fail
  refine (stake_isno (n := 8) S8 (by constructor <;> decide) rfl (by decide)).mono ?_
  rintro r w9 ⟨rfl, C9⟩
  have B9 := ChB.go B8 C9 (Nat.le_refl _)
  have S9 := S8.chB C9 (by simp) (by simp)
  have x9 := own_chB x8 C9 (by simp)
  clear x8
  have y9 := own_chB y8 C9 (by simp)
  clear y8
  have z9 := own_chB z8 C9 (by simp)
  clear z8
  clear S8 B8 C9
  go_wp2_with fail
  refine (stake_isno (n := 11) S9 (by constructor <;> decide) rfl (by decide)).mono ?_
  rintro r w10 ⟨rfl, C10⟩
  have B10 := ChB.go B9 C10 (Nat.le_refl _)
  have S10 := S9.chB C10 (by simp) (by simp)
  have x10 := own_chB x9 C10 (by simp)
  clear x9
  have y10 := own_chB y9 C10 (by simp)
  clear y9
  have z10 := own_chB z9 C10 (by simp)
  clear z9
  clear S9 B9 C10
  go_wp2_with fail
  refine (stake_isno (n := 1) S10 (by constructor <;> decide) rfl (by decide)).mono ?_
  rintro r w11 ⟨rfl, C11⟩
  have B11 := ChB.go B10 C11 (Nat.le_refl _)
  have S11 := S10.chB C11 (by simp) (by simp)
  have x11 := own_chB x10 C11 (by simp)
  clear x10
  have y11 := own_chB y10 C11 (by simp)
  clear y10
  have z11 := own_chB z10 C11 (by simp)
  clear z10
  clear S10 B10 C11
  go_wp2_with fail
  have Q := Blk.new w11 115 #[.int .i64 1, .string ⟨#[97]⟩, .int .i64 2, .string ⟨#[98]⟩]
  have C12 := (Ch.refl [] w11).alloc (.cells #[.int .i64 1, .string ⟨#[97]⟩, .int .i64 2, .string ⟨#[98]⟩] 115)
  generalize w11.alloc _ = w12 at Q C12 ⊢
  generalize w11.heap.size = qb at Q ⊢
  have C12' : ChB w.heap.size [] w11 w12 := C12.toB0
  have B12 := ChB.go B11 C12' (Nat.le_refl _)
  have S12 := S11.chB C12' (by simp) (by simp)
  have x12 := own_chB x11 C12' (by simp)
  clear x11
  have y12 := own_chB y11 C12' (by simp)
  clear y11
  have z12 := own_chB z11 C12' (by simp)
  clear z11
  have Q12 := Q
  clear Q B11 S11 C12 C12'
  refine wp_region_noPanic ?_
  refine wp_region_held_drew (S := (fun _ => True)) (by kernel_rfl) ?_ (fun hHeld => ?_)
  · trivial
  have C13 : ChB w.heap.size [] w12 w12.drew := (ChB.refl _ _ _).drew
  have B13 := ChB.go B12 C13 (Nat.le_refl _)
  have S13 := S12.chB C13 (by simp) (by simp)
  have x13 := own_chB x12 C13 (by simp)
  clear x12
  have y13 := own_chB y12 C13 (by simp)
  clear y12
  have z13 := own_chB z12 C13 (by simp)
  clear z12
  have Q13 := Q12.chB C13 (by simp)
  clear Q12
  clear S12 B12 C13
  generalize w12.drew = w13 at *
  refine reg_take (i := 0) (v := ?_) rfl (by as_aux_lemma => kernel_rfl) (by as_aux_lemma => kernel_rfl) (by as_aux_lemma => kernel_rfl) (fun _ _ _ h => h) (by rfl) ?_ (by assumption) ?_
  rotate_left
  · (intro w hSw; (try dsimp only at hSw); go_simp; try with_reducible rfl)
  try simp only [Act.put, List.setIfInBounds_toArray, List.set_cons_zero, List.set_cons_succ]
  refine reg_take (i := 1) (v := ?_) rfl (by as_aux_lemma => kernel_rfl) (by as_aux_lemma => kernel_rfl) (by as_aux_lemma => kernel_rfl) (fun _ _ _ h => h) (by rfl) ?_ (by assumption) ?_
  rotate_left
  · (intro w hSw; (try dsimp only at hSw); go_simp; try with_reducible rfl)
  try simp only [Act.put, List.setIfInBounds_toArray, List.set_cons_zero, List.set_cons_succ]
  refine reg_take (i := 2) (v := ?_) rfl (by as_aux_lemma => kernel_rfl) (by as_aux_lemma => kernel_rfl) (by as_aux_lemma => kernel_rfl) (fun _ _ _ h => h) (by rfl) ?_ (by assumption) ?_
  rotate_left
  · (intro w hSw; (try dsimp only at hSw); go_simp; try with_reducible rfl)
  try simp only [Act.put, List.setIfInBounds_toArray, List.set_cons_zero, List.set_cons_succ]
  refine reg_take (i := 3) (v := ?_) rfl (by as_aux_lemma => kernel_rfl) (by as_aux_lemma => kernel_rfl) (by as_aux_lemma => kernel_rfl) (fun _ _ _ h => h) (by rfl) ?_ (by assumption) ?_
  rotate_left
  · (intro w hSw; (try dsimp only at hSw); go_simp; try with_reducible rfl)
  try simp only [Act.put, List.setIfInBounds_toArray, List.set_cons_zero, List.set_cons_succ]
  refine reg_take (i := 4) (v := ?_) rfl (by as_aux_lemma => kernel_rfl) (by as_aux_lemma => kernel_rfl) (by as_aux_lemma => kernel_rfl) (fun _ _ _ h => h) (by rfl) ?_ (by assumption) ?_
  rotate_left
  · (intro w hSw; (try dsimp only at hSw); go_simp; try with_reducible rfl)
  try simp only [Act.put, List.setIfInBounds_toArray, List.set_cons_zero, List.set_cons_succ]
  refine reg_take (i := 5) (v := ?_) rfl (by as_aux_lemma => kernel_rfl) (by as_aux_lemma => kernel_rfl) (by as_aux_lemma => kernel_rfl) (fun _ _ _ h => h) (by rfl) ?_ (by assumption) ?_
  rotate_left
  · (intro w hSw; (try dsimp only at hSw); go_simp; try with_reducible rfl)
  try simp only [Act.put, List.setIfInBounds_toArray, List.set_cons_zero, List.set_cons_succ]
  refine reg_take (i := 6) (v := ?_) rfl (by as_aux_lemma => kernel_rfl) (by as_aux_lemma => kernel_rfl) (by as_aux_lemma => kernel_rfl) (fun _ _ _ h => h) (by rfl) ?_ (by assumption) ?_
  rotate_left
  · (intro w hSw; (try dsimp only at hSw); go_simp; try with_reducible rfl)
  try simp only [Act.put, List.setIfInBounds_toArray, List.set_cons_zero, List.set_cons_succ]
  refine reg_take (i := 7) (v := ?_) rfl (by as_aux_lemma => kernel_rfl) (by as_aux_lemma => kernel_rfl) (by as_aux_lemma => kernel_rfl) (fun _ _ _ h => h) (by rfl) ?_ (by assumption) ?_
  rotate_left
  · (intro w hSw; (try dsimp only at hSw); go_simp; try with_reducible rfl)
  try simp only [Act.put, List.setIfInBounds_toArray, List.set_cons_zero, List.set_cons_succ]
  refine reg_take (i := 8) (v := ?_) rfl (by as_aux_lemma => kernel_rfl) (by as_aux_lemma => kernel_rfl) (by as_aux_lemma => kernel_rfl) (fun _ _ _ h => h) (by rfl) ?_ (by assumption) ?_
  rotate_left
  · (intro w hSw; (try dsimp only at hSw); go_simp; try with_reducible rfl)
  try simp only [Act.put, List.setIfInBounds_toArray, List.set_cons_zero, List.set_cons_succ]
  refine reg_take (i := 9) (v := ?_) rfl (by as_aux_lemma => kernel_rfl) (by as_aux_lemma => kernel_rfl) (by as_aux_lemma => kernel_rfl) (fun _ _ _ h => h) (by rfl) ?_ (by assumption) ?_
  rotate_left
  · (intro w hSw; (try dsimp only at hSw); go_simp; try with_reducible rfl)
  try simp only [Act.put, List.setIfInBounds_toArray, List.set_cons_zero, List.set_cons_succ]
  refine reg_take (i := 10) (v := ?_) rfl (by as_aux_lemma => kernel_rfl) (by as_aux_lemma => kernel_rfl) (by as_aux_lemma => kernel_rfl) (fun _ _ _ h => h) (by rfl) ?_ (by assumption) ?_
  rotate_left
  · (intro w hSw; (try dsimp only at hSw); go_simp; try with_reducible rfl)
  try simp only [Act.put, List.setIfInBounds_toArray, List.set_cons_zero, List.set_cons_succ]
  refine reg_take (i := 11) (v := ?_) rfl (by as_aux_lemma => kernel_rfl) (by as_aux_lemma => kernel_rfl) (by as_aux_lemma => kernel_rfl) (fun _ _ _ h => h) (by rfl) ?_ (by assumption) ?_
  rotate_left
  · (intro w hSw; (try dsimp only at hSw); go_simp; try with_reducible rfl)
  try simp only [Act.put, List.setIfInBounds_toArray, List.set_cons_zero, List.set_cons_succ]
  refine reg_take (i := 12) (v := ?_) rfl (by as_aux_lemma => kernel_rfl) (by as_aux_lemma => kernel_rfl) (by as_aux_lemma => kernel_rfl) (fun _ _ _ h => h) (by rfl) ?_ (by assumption) ?_
  rotate_left
  · (intro w hSw; (try dsimp only at hSw); go_simp; try with_reducible rfl)
  try simp only [Act.put, List.setIfInBounds_toArray, List.set_cons_zero, List.set_cons_succ]
  refine reg_take (i := 13) (v := ?_) rfl (by as_aux_lemma => kernel_rfl) (by as_aux_lemma => kernel_rfl) (by as_aux_lemma => kernel_rfl) (fun _ _ _ h => h) (by rfl) ?_ (by assumption) ?_
  rotate_left
  · (intro w hSw; (try dsimp only at hSw); go_simp; try with_reducible rfl)
  try simp only [Act.put, List.setIfInBounds_toArray, List.set_cons_zero, List.set_cons_succ]
  refine reg_take (i := 14) (v := ?_) rfl (by as_aux_lemma => kernel_rfl) (by as_aux_lemma => kernel_rfl) (by as_aux_lemma => kernel_rfl) (fun _ _ _ h => h) (by rfl) ?_ (by assumption) ?_
  rotate_left
  · (intro w hSw; (try dsimp only at hSw); go_simp; try with_reducible rfl)
  try simp only [Act.put, List.setIfInBounds_toArray, List.set_cons_zero, List.set_cons_succ]
  refine reg_take (i := 15) (v := ?_) rfl (by as_aux_lemma => kernel_rfl) (by as_aux_lemma => kernel_rfl) (by as_aux_lemma => kernel_rfl) (fun _ _ _ h => h) (by rfl) ?_ (by assumption) ?_
  rotate_left
  · (intro w hSw; (try dsimp only at hSw); go_simp; try with_reducible rfl)
  try simp only [Act.put, List.setIfInBounds_toArray, List.set_cons_zero, List.set_cons_succ]
  refine reg_take (i := 16) (v := ?_) rfl (by as_aux_lemma => kernel_rfl) (by as_aux_lemma => kernel_rfl) (by as_aux_lemma => kernel_rfl) (fun _ _ _ h => h) (by rfl) ?_ (by assumption) ?_
  rotate_left
  · (intro w hSw; (try dsimp only at hSw); go_simp; try with_reducible rfl)
  try simp only [Act.put, List.setIfInBounds_toArray, List.set_cons_zero, List.set_cons_succ]
  refine reg_take (i := 17) (v := ?_) rfl (by as_aux_lemma => kernel_rfl) (by as_aux_lemma => kernel_rfl) (by as_aux_lemma => kernel_rfl) (fun _ _ _ h => h) (by rfl) ?_ (by assumption) ?_
  rotate_left
  · (intro w hSw; (try dsimp only at hSw); go_simp; try with_reducible rfl)
  try simp only [Act.put, List.setIfInBounds_toArray, List.set_cons_zero, List.set_cons_succ]
  refine reg_take (i := 18) (v := ?_) rfl (by as_aux_lemma => kernel_rfl) (by as_aux_lemma => kernel_rfl) (by as_aux_lemma => kernel_rfl) (fun _ _ _ h => h) (by rfl) ?_ (by assumption) ?_
  rotate_left
  · (intro w hSw; (try dsimp only at hSw); go_simp; try with_reducible rfl)
  try simp only [Act.put, List.setIfInBounds_toArray, List.set_cons_zero, List.set_cons_succ]
  refine reg_take (i := 19) (v := ?_) rfl (by as_aux_lemma => kernel_rfl) (by as_aux_lemma => kernel_rfl) (by as_aux_lemma => kernel_rfl) (fun _ _ _ h => h) (by rfl) ?_ (by assumption) ?_
  rotate_left
  · (intro w hSw; (try dsimp only at hSw); go_simp; try with_reducible rfl)
  try simp only [Act.put, List.setIfInBounds_toArray, List.set_cons_zero, List.set_cons_succ]
  refine reg_take (i := 20) (v := ?_) rfl (by as_aux_lemma => kernel_rfl) (by as_aux_lemma => kernel_rfl) (by as_aux_lemma => kernel_rfl) (fun _ _ _ h => h) (by rfl) ?_ (by assumption) ?_
  rotate_left
  · (intro w hSw; (try dsimp only at hSw); go_simp; try with_reducible rfl)
  try simp only [Act.put, List.setIfInBounds_toArray, List.set_cons_zero, List.set_cons_succ]
  refine reg_take (i := 21) (v := ?_) rfl (by as_aux_lemma => kernel_rfl) (by as_aux_lemma => kernel_rfl) (by as_aux_lemma => kernel_rfl) (fun _ _ _ h => h) (by rfl) ?_ (by assumption) ?_
  rotate_left
  · (intro w hSw; (try dsimp only at hSw); go_simp; try with_reducible rfl)
  try simp only [Act.put, List.setIfInBounds_toArray, List.set_cons_zero, List.set_cons_succ]
  refine reg_take (i := 22) (v := ?_) rfl (by as_aux_lemma => kernel_rfl) (by as_aux_lemma => kernel_rfl) (by as_aux_lemma => kernel_rfl) (fun _ _ _ h => h) (by rfl) ?_ (by assumption) ?_
  rotate_left
  · (intro w hSw; (try dsimp only at hSw); go_simp; try with_reducible rfl)
  try simp only [Act.put, List.setIfInBounds_toArray, List.set_cons_zero, List.set_cons_succ]
  refine reg_take (i := 23) (v := ?_) rfl (by as_aux_lemma => kernel_rfl) (by as_aux_lemma => kernel_rfl) (by as_aux_lemma => kernel_rfl) (fun _ _ _ h => h) (by rfl) ?_ (by assumption) ?_
  rotate_left
  · (intro w hSw; (try dsimp only at hSw); go_simp; try with_reducible rfl)
  try simp only [Act.put, List.setIfInBounds_toArray, List.set_cons_zero, List.set_cons_succ]
  refine reg_take (i := 24) (v := ?_) rfl (by as_aux_lemma => kernel_rfl) (by as_aux_lemma => kernel_rfl) (by as_aux_lemma => kernel_rfl) (fun _ _ _ h => h) (by rfl) ?_ (by assumption) ?_
  rotate_left
  · (intro w hSw; (try dsimp only at hSw); go_simp; try with_reducible rfl)
  try simp only [Act.put, List.setIfInBounds_toArray, List.set_cons_zero, List.set_cons_succ]
  refine reg_take (i := 25) (v := ?_) rfl (by as_aux_lemma => kernel_rfl) (by as_aux_lemma => kernel_rfl) (by as_aux_lemma => kernel_rfl) (fun _ _ _ h => h) (by rfl) ?_ (by assumption) ?_
  rotate_left
  · (intro w hSw; (try dsimp only at hSw); go_simp; try with_reducible rfl)
  try simp only [Act.put, List.setIfInBounds_toArray, List.set_cons_zero, List.set_cons_succ]
  refine reg_take (i := 26) (v := ?_) rfl (by as_aux_lemma => kernel_rfl) (by as_aux_lemma => kernel_rfl) (by as_aux_lemma => kernel_rfl) (fun _ _ _ h => h) (by rfl) ?_ (by assumption) ?_
  rotate_left
  · (intro w hSw; (try dsimp only at hSw); go_simp; try with_reducible rfl)
  try simp only [Act.put, List.setIfInBounds_toArray, List.set_cons_zero, List.set_cons_succ]
  refine reg_take (i := 27) (v := ?_) rfl (by as_aux_lemma => kernel_rfl) (by as_aux_lemma => kernel_rfl) (by as_aux_lemma => kernel_rfl) (fun _ _ _ h => h) (by rfl) ?_ (by assumption) ?_
  rotate_left
  · (intro w hSw; (try dsimp only at hSw); go_simp; try with_reducible rfl)
  try simp only [Act.put, List.setIfInBounds_toArray, List.set_cons_zero, List.set_cons_succ]
  refine reg_take (i := 28) (v := ?_) rfl (by as_aux_lemma => kernel_rfl) (by as_aux_lemma => kernel_rfl) (by as_aux_lemma => kernel_rfl) (fun _ _ _ h => h) (by rfl) ?_ (by assumption) ?_
  rotate_left
  · (intro w hSw; (try dsimp only at hSw); go_simp; try with_reducible rfl)
  try simp only [Act.put, List.setIfInBounds_toArray, List.set_cons_zero, List.set_cons_succ]
  refine reg_step (i := 29) (by as_aux_lemma => kernel_rfl) rfl (fun K hK => ?_)
  obtain ⟨_, _, e, rx⟩ := own_rd (L := bothL) x13
  injection e with e1 _ _
  subst e1
  go_simp
  refine (same_yes _ _ _ _ bothL _ rx (both_rd Q13) (by decide)).mono ?_
  rintro r w14 ⟨rfl, C14⟩
  have C14' : ChB w.heap.size [] w13 w14 := C14.toB0
  have B14 := ChB.go B13 C14' (Nat.le_refl _)
  have S14 := S13.chB C14' (by simp) (by simp)
  have x14 := own_chB x13 C14' (by simp)
  clear x13
  have y14 := own_chB y13 C14' (by simp)
  clear y13
  have z14 := own_chB z13 C14' (by simp)
  clear z13
  have Q14 := Q13.chB C14' (by simp)
  clear Q13
  dsimp only
  refine hK.out _ _ trivial (fun hHeld2 => ?_)
  clear hK K
  try simp only [Act.put, List.setIfInBounds_toArray, List.set_cons_zero, List.set_cons_succ]
  refine reg_take (i := 30) (v := ?_) rfl (by as_aux_lemma => kernel_rfl) (by as_aux_lemma => kernel_rfl) (by as_aux_lemma => kernel_rfl) (fun _ _ _ h => h) (by rfl) ?_ (by assumption) ?_
  rotate_left
  · (intro w hSw; (try dsimp only at hSw); go_simp; try with_reducible rfl)
  try simp only [Act.put, List.setIfInBounds_toArray, List.set_cons_zero, List.set_cons_succ]
  refine reg_take (i := 31) (v := ?_) rfl (by as_aux_lemma => kernel_rfl) (by as_aux_lemma => kernel_rfl) (by as_aux_lemma => kernel_rfl) (fun _ _ _ h => h) (by rfl) ?_ (by assumption) ?_
  rotate_left
  · (intro w hSw; (try dsimp only at hSw); go_simp; try with_reducible rfl)
  try simp only [Act.put, List.setIfInBounds_toArray, List.set_cons_zero, List.set_cons_succ]
  refine reg_take (i := 32) (v := ?_) rfl (by as_aux_lemma => kernel_rfl) (by as_aux_lemma => kernel_rfl) (by as_aux_lemma => kernel_rfl) (fun _ _ _ h => h) (by rfl) ?_ (by assumption) ?_
  rotate_left
  · (intro w hSw; (try dsimp only at hSw); go_simp; try with_reducible rfl)
  try simp only [Act.put, List.setIfInBounds_toArray, List.set_cons_zero, List.set_cons_succ]
  refine reg_take (i := 33) (v := ?_) rfl (by as_aux_lemma => kernel_rfl) (by as_aux_lemma => kernel_rfl) (by as_aux_lemma => kernel_rfl) (fun _ _ _ h => h) (by rfl) ?_ (by assumption) ?_
  rotate_left
  · (intro w hSw; (try dsimp only at hSw); go_simp; try with_reducible rfl)
  try simp only [Act.put, List.setIfInBounds_toArray, List.set_cons_zero, List.set_cons_succ]
  refine reg_take (i := 34) (v := ?_) rfl (by as_aux_lemma => kernel_rfl) (by as_aux_lemma => kernel_rfl) (by as_aux_lemma => kernel_rfl) (fun _ _ _ h => h) (by rfl) ?_ (by assumption) ?_
  rotate_left
  · (intro w hSw; (try dsimp only at hSw); go_simp; try with_reducible rfl)
  try simp only [Act.put, List.setIfInBounds_toArray, List.set_cons_zero, List.set_cons_succ]
  refine reg_take (i := 35) (v := ?_) rfl (by as_aux_lemma => kernel_rfl) (by as_aux_lemma => kernel_rfl) (by as_aux_lemma => kernel_rfl) (fun _ _ _ h => h) (by rfl) ?_ (by assumption) ?_
  rotate_left
  · (intro w hSw; (try dsimp only at hSw); go_simp; try with_reducible rfl)
  try simp only [Act.put, List.setIfInBounds_toArray, List.set_cons_zero, List.set_cons_succ]
  refine reg_take (i := 36) (v := ?_) rfl (by as_aux_lemma => kernel_rfl) (by as_aux_lemma => kernel_rfl) (by as_aux_lemma => kernel_rfl) (fun _ _ _ h => h) (by rfl) ?_ (by assumption) ?_
  rotate_left
  · (intro w hSw; (try dsimp only at hSw); go_simp; try with_reducible rfl)
  try simp only [Act.put, List.setIfInBounds_toArray, List.set_cons_zero, List.set_cons_succ]
  refine reg_take (i := 37) (v := ?_) rfl (by as_aux_lemma => kernel_rfl) (by as_aux_lemma => kernel_rfl) (by as_aux_lemma => kernel_rfl) (fun _ _ _ h => h) (by rfl) ?_ (by assumption) ?_
  rotate_left
  · (intro w hSw; (try dsimp only at hSw); go_simp; try with_reducible rfl)
  try simp only [Act.put, List.setIfInBounds_toArray, List.set_cons_zero, List.set_cons_succ]
  refine reg_take (i := 38) (v := ?_) rfl (by as_aux_lemma => kernel_rfl) (by as_aux_lemma => kernel_rfl) (by as_aux_lemma => kernel_rfl) (fun _ _ _ h => h) (by rfl) ?_ (by assumption) ?_
  rotate_left
  · (intro w hSw; (try dsimp only at hSw); go_simp; try with_reducible rfl)
  try simp only [Act.put, List.setIfInBounds_toArray, List.set_cons_zero, List.set_cons_succ]
  refine reg_step (i := 39) (by as_aux_lemma => kernel_rfl) rfl (fun K hK => ?_)
  obtain ⟨_, _, e, rz⟩ := own_rd (L := bothL) z14
  injection e with e1 _ _
  subst e1
  go_simp
  refine (same_yes _ _ _ _ bothL _ rz (both_rd Q14) (by decide)).mono ?_
  rintro r w15 ⟨rfl, C15⟩
  have C15' : ChB w.heap.size [] w14 w15 := C15.toB0
  have B15 := ChB.go B14 C15' (Nat.le_refl _)
  have S15 := S14.chB C15' (by simp) (by simp)
  have x15 := own_chB x14 C15' (by simp)
  clear x14
  have y15 := own_chB y14 C15' (by simp)
  clear y14
  have z15 := own_chB z14 C15' (by simp)
  clear z14
  have Q15 := Q14.chB C15' (by simp)
  clear Q14
  dsimp only
  refine hK.out _ _ trivial (fun hHeld2 => ?_)
  clear hK K
  try simp only [Act.put, List.setIfInBounds_toArray, List.set_cons_zero, List.set_cons_succ]
  refine reg_take (i := 40) (v := ?_) rfl (by as_aux_lemma => kernel_rfl) (by as_aux_lemma => kernel_rfl) (by as_aux_lemma => kernel_rfl) (fun _ _ _ h => h) (by rfl) ?_ (by assumption) ?_
  rotate_left
  · (intro w hSw; (try dsimp only at hSw); go_simp; try with_reducible rfl)
  try simp only [Act.put, List.setIfInBounds_toArray, List.set_cons_zero, List.set_cons_succ]
  refine reg_take (i := 41) (v := ?_) rfl (by as_aux_lemma => kernel_rfl) (by as_aux_lemma => kernel_rfl) (by as_aux_lemma => kernel_rfl) (fun _ _ _ h => h) (by rfl) ?_ (by assumption) ?_
  rotate_left
  · (intro w hSw; (try dsimp only at hSw); go_simp; try with_reducible rfl)
  try simp only [Act.put, List.setIfInBounds_toArray, List.set_cons_zero, List.set_cons_succ]
  refine reg_take (i := 42) (v := ?_) rfl (by as_aux_lemma => kernel_rfl) (by as_aux_lemma => kernel_rfl) (by as_aux_lemma => kernel_rfl) (fun _ _ _ h => h) (by rfl) ?_ (by assumption) ?_
  rotate_left
  · (intro w hSw; (try dsimp only at hSw); go_simp; try with_reducible rfl)
  try simp only [Act.put, List.setIfInBounds_toArray, List.set_cons_zero, List.set_cons_succ]
  refine reg_take (i := 43) (v := ?_) rfl (by as_aux_lemma => kernel_rfl) (by as_aux_lemma => kernel_rfl) (by as_aux_lemma => kernel_rfl) (fun _ _ _ h => h) (by rfl) ?_ (by assumption) ?_
  rotate_left
  · (intro w hSw; (try dsimp only at hSw); go_simp; try with_reducible rfl)
  try simp only [Act.put, List.setIfInBounds_toArray, List.set_cons_zero, List.set_cons_succ]
  refine reg_take (i := 44) (v := ?_) rfl (by as_aux_lemma => kernel_rfl) (by as_aux_lemma => kernel_rfl) (by as_aux_lemma => kernel_rfl) (fun _ _ _ h => h) (by rfl) ?_ (by assumption) ?_
  rotate_left
  · (intro w hSw; (try dsimp only at hSw); go_simp; try with_reducible rfl)
  try simp only [Act.put, List.setIfInBounds_toArray, List.set_cons_zero, List.set_cons_succ]
  refine reg_take (i := 45) (v := ?_) rfl (by as_aux_lemma => kernel_rfl) (by as_aux_lemma => kernel_rfl) (by as_aux_lemma => kernel_rfl) (fun _ _ _ h => h) (by rfl) ?_ (by assumption) ?_
  rotate_left
  · (intro w hSw; (try dsimp only at hSw); go_simp; try with_reducible rfl)
  try simp only [Act.put, List.setIfInBounds_toArray, List.set_cons_zero, List.set_cons_succ]
  refine reg_take (i := 46) (v := ?_) rfl (by as_aux_lemma => kernel_rfl) (by as_aux_lemma => kernel_rfl) (by as_aux_lemma => kernel_rfl) (fun _ _ _ h => h) (by rfl) ?_ (by assumption) ?_
  rotate_left
  · (intro w hSw; (try dsimp only at hSw); go_simp; try with_reducible rfl)
  try simp only [Act.put, List.setIfInBounds_toArray, List.set_cons_zero, List.set_cons_succ]
  refine reg_take (i := 47) (v := ?_) rfl (by as_aux_lemma => kernel_rfl) (by as_aux_lemma => kernel_rfl) (by as_aux_lemma => kernel_rfl) (fun _ _ _ h => h) (by rfl) ?_ (by assumption) ?_
  rotate_left
  · (intro w hSw; (try dsimp only at hSw); go_simp; try with_reducible rfl)
  try simp only [Act.put, List.setIfInBounds_toArray, List.set_cons_zero, List.set_cons_succ]
  refine reg_take (i := 48) (v := ?_) rfl (by as_aux_lemma => kernel_rfl) (by as_aux_lemma => kernel_rfl) (by as_aux_lemma => kernel_rfl) (fun _ _ _ h => h) (by rfl) ?_ (by assumption) ?_
  rotate_left
  · (intro w hSw; (try dsimp only at hSw); go_simp; try with_reducible rfl)
  try simp only [Act.put, List.setIfInBounds_toArray, List.set_cons_zero, List.set_cons_succ]
  refine reg_take (i := 49) (v := ?_) rfl (by as_aux_lemma => kernel_rfl) (by as_aux_lemma => kernel_rfl) (by as_aux_lemma => kernel_rfl) (fun _ _ _ h => h) (by rfl) ?_ (by assumption) ?_
  rotate_left
  · (intro w hSw; (try dsimp only at hSw); go_simp; try with_reducible rfl)
  try simp only [Act.put, List.setIfInBounds_toArray, List.set_cons_zero, List.set_cons_succ]
  refine reg_take (i := 50) (v := ?_) rfl (by as_aux_lemma => kernel_rfl) (by as_aux_lemma => kernel_rfl) (by as_aux_lemma => kernel_rfl) (fun _ _ _ h => h) (by rfl) ?_ (by assumption) ?_
  rotate_left
  · (intro w hSw; (try dsimp only at hSw); go_simp; try with_reducible rfl)
  try simp only [Act.put, List.setIfInBounds_toArray, List.set_cons_zero, List.set_cons_succ]
  refine reg_take (i := 51) (v := ?_) rfl (by as_aux_lemma => kernel_rfl) (by as_aux_lemma => kernel_rfl) (by as_aux_lemma => kernel_rfl) (fun _ _ _ h => h) (by rfl) ?_ (by assumption) ?_
  rotate_left
  · (intro w hSw; (try dsimp only at hSw); go_simp; try with_reducible rfl)
  try simp only [Act.put, List.setIfInBounds_toArray, List.set_cons_zero, List.set_cons_succ]
  refine reg_take (i := 52) (v := ?_) rfl (by as_aux_lemma => kernel_rfl) (by as_aux_lemma => kernel_rfl) (by as_aux_lemma => kernel_rfl) (fun _ _ _ h => h) (by rfl) ?_ (by assumption) ?_
  rotate_left
  · (intro w hSw; (try dsimp only at hSw); go_simp; try with_reducible rfl)
  try simp only [Act.put, List.setIfInBounds_toArray, List.set_cons_zero, List.set_cons_succ]
  refine reg_take (i := 53) (v := ?_) rfl (by as_aux_lemma => kernel_rfl) (by as_aux_lemma => kernel_rfl) (by as_aux_lemma => kernel_rfl) (fun _ _ _ h => h) (by rfl) ?_ (by assumption) ?_
  rotate_left
  · (intro w hSw; (try dsimp only at hSw); go_simp; try with_reducible rfl)
  try simp only [Act.put, List.setIfInBounds_toArray, List.set_cons_zero, List.set_cons_succ]
  refine reg_take (i := 54) (v := ?_) rfl (by as_aux_lemma => kernel_rfl) (by as_aux_lemma => kernel_rfl) (by as_aux_lemma => kernel_rfl) (fun _ _ _ h => h) (by rfl) ?_ (by assumption) ?_
  rotate_left
  · (intro w hSw; (try dsimp only at hSw); go_simp; try with_reducible rfl)
  try simp only [Act.put, List.setIfInBounds_toArray, List.set_cons_zero, List.set_cons_succ]
  refine reg_take (i := 55) (v := ?_) rfl (by as_aux_lemma => kernel_rfl) (by as_aux_lemma => kernel_rfl) (by as_aux_lemma => kernel_rfl) (fun _ _ _ h => h) (by rfl) ?_ (by assumption) ?_
  rotate_left
  · (intro w hSw; (try dsimp only at hSw); go_simp; try with_reducible rfl)
  try simp only [Act.put, List.setIfInBounds_toArray, List.set_cons_zero, List.set_cons_succ]
  refine reg_take (i := 56) (v := ?_) rfl (by as_aux_lemma => kernel_rfl) (by as_aux_lemma => kernel_rfl) (by as_aux_lemma => kernel_rfl) (fun _ _ _ h => h) (by rfl) ?_ (by assumption) ?_
  rotate_left
  · (intro w hSw; (try dsimp only at hSw); go_simp; try with_reducible rfl)
  try simp only [Act.put, List.setIfInBounds_toArray, List.set_cons_zero, List.set_cons_succ]
  refine reg_take (i := 57) (v := ?_) rfl (by as_aux_lemma => kernel_rfl) (by as_aux_lemma => kernel_rfl) (by as_aux_lemma => kernel_rfl) (fun _ _ _ h => h) (by rfl) ?_ (by assumption) ?_
  rotate_left
  · (intro w hSw; (try dsimp only at hSw); go_simp; try with_reducible rfl)
  try simp only [Act.put, List.setIfInBounds_toArray, List.set_cons_zero, List.set_cons_succ]
  refine reg_take (i := 58) (v := ?_) rfl (by as_aux_lemma => kernel_rfl) (by as_aux_lemma => kernel_rfl) (by as_aux_lemma => kernel_rfl) (fun _ _ _ h => h) (by rfl) ?_ (by assumption) ?_
  rotate_left
  · (intro w hSw; (try dsimp only at hSw); go_simp; try with_reducible rfl)
  try simp only [Act.put, List.setIfInBounds_toArray, List.set_cons_zero, List.set_cons_succ]
  refine reg_take (i := 59) (v := ?_) rfl (by as_aux_lemma => kernel_rfl) (by as_aux_lemma => kernel_rfl) (by as_aux_lemma => kernel_rfl) (fun _ _ _ h => h) (by rfl) ?_ (by assumption) ?_
  rotate_left
  · (intro w hSw; (try dsimp only at hSw); go_simp; try with_reducible rfl)
  try simp only [Act.put, List.setIfInBounds_toArray, List.set_cons_zero, List.set_cons_succ]
  refine reg_take (i := 60) (v := ?_) rfl (by as_aux_lemma => kernel_rfl) (by as_aux_lemma => kernel_rfl) (by as_aux_lemma => kernel_rfl) (fun _ _ _ h => h) (by rfl) ?_ (by assumption) ?_
  rotate_left
  · (intro w hSw; (try dsimp only at hSw); go_simp; try with_reducible rfl)
  try simp only [Act.put, List.setIfInBounds_toArray, List.set_cons_zero, List.set_cons_succ]
  refine reg_take (i := 61) (v := ?_) rfl (by as_aux_lemma => kernel_rfl) (by as_aux_lemma => kernel_rfl) (by as_aux_lemma => kernel_rfl) (fun _ _ _ h => h) (by rfl) ?_ (by assumption) ?_
  rotate_left
  · (intro w hSw; (try dsimp only at hSw); go_simp; try with_reducible rfl)
  try simp only [Act.put, List.setIfInBounds_toArray, List.set_cons_zero, List.set_cons_succ]
  refine reg_take (i := 62) (v := ?_) rfl (by as_aux_lemma => kernel_rfl) (by as_aux_lemma => kernel_rfl) (by as_aux_lemma => kernel_rfl) (fun _ _ _ h => h) (by rfl) ?_ (by assumption) ?_
  rotate_left
  · (intro w hSw; (try dsimp only at hSw); go_simp; try with_reducible rfl)
  try simp only [Act.put, List.setIfInBounds_toArray, List.set_cons_zero, List.set_cons_succ]
  refine reg_take (i := 63) (v := ?_) rfl (by as_aux_lemma => kernel_rfl) (by as_aux_lemma => kernel_rfl) (by as_aux_lemma => kernel_rfl) (fun _ _ _ h => h) (by rfl) ?_ (by assumption) ?_
  rotate_left
  · (intro w hSw; (try dsimp only at hSw); go_simp; try with_reducible rfl)
  try simp only [Act.put, List.setIfInBounds_toArray, List.set_cons_zero, List.set_cons_succ]
  refine reg_take (i := 64) (v := ?_) rfl (by as_aux_lemma => kernel_rfl) (by as_aux_lemma => kernel_rfl) (by as_aux_lemma => kernel_rfl) (fun _ _ _ h => h) (by rfl) ?_ (by assumption) ?_
  rotate_left
  · (intro w hSw; (try dsimp only at hSw); go_simp; try with_reducible rfl)
  try simp only [Act.put, List.setIfInBounds_toArray, List.set_cons_zero, List.set_cons_succ]
  refine reg_take (i := 65) (v := ?_) rfl (by as_aux_lemma => kernel_rfl) (by as_aux_lemma => kernel_rfl) (by as_aux_lemma => kernel_rfl) (fun _ _ _ h => h) (by rfl) ?_ (by assumption) ?_
  rotate_left
  · (intro w hSw; (try dsimp only at hSw); go_simp; try with_reducible rfl)
  try simp only [Act.put, List.setIfInBounds_toArray, List.set_cons_zero, List.set_cons_succ]
  refine reg_take (i := 66) (v := ?_) rfl (by as_aux_lemma => kernel_rfl) (by as_aux_lemma => kernel_rfl) (by as_aux_lemma => kernel_rfl) (fun _ _ _ h => h) (by rfl) ?_ (by assumption) ?_
  rotate_left
  · (intro w hSw; (try dsimp only at hSw); go_simp; try with_reducible rfl)
  try simp only [Act.put, List.setIfInBounds_toArray, List.set_cons_zero, List.set_cons_succ]
  refine reg_step (i := 67) (by as_aux_lemma => kernel_rfl) rfl (fun K hK => ?_)
  go_simp
  refine (room_is (n := 1) S15 (by constructor <;> decide) rfl).mono ?_
  rintro r w16 ⟨rfl, C16⟩
  have B16 := ChB.go B15 C16 (Nat.le_refl _)
  have S16 := S15.chB C16 (by simp) (by simp)
  have x16 := own_chB x15 C16 (by simp)
  clear x15
  have y16 := own_chB y15 C16 (by simp)
  clear y15
  have z16 := own_chB z15 C16 (by simp)
  clear z15
  have Q16 := Q15.chB C16 (by simp)
  clear Q15
  clear S15 B15 C16
  dsimp only
  refine hK.out _ _ trivial (fun hHeld2 => ?_)
  clear hK K
  try simp only [Act.put, List.setIfInBounds_toArray, List.set_cons_zero, List.set_cons_succ]
  refine reg_take (i := 68) (v := ?_) rfl (by as_aux_lemma => kernel_rfl) (by as_aux_lemma => kernel_rfl) (by as_aux_lemma => kernel_rfl) (fun _ _ _ h => h) (by rfl) ?_ (by assumption) ?_
  rotate_left
  · (intro w hSw; (try dsimp only at hSw); go_simp; try with_reducible rfl)
  try simp only [Act.put, List.setIfInBounds_toArray, List.set_cons_zero, List.set_cons_succ]
  refine reg_take (i := 69) (v := ?_) rfl (by as_aux_lemma => kernel_rfl) (by as_aux_lemma => kernel_rfl) (by as_aux_lemma => kernel_rfl) (fun _ _ _ h => h) (by rfl) ?_ (by assumption) ?_
  rotate_left
  · (intro w hSw; (try dsimp only at hSw); go_simp; try with_reducible rfl)
  try simp only [Act.put, List.setIfInBounds_toArray, List.set_cons_zero, List.set_cons_succ]
  refine reg_take (i := 70) (v := ?_) rfl (by as_aux_lemma => kernel_rfl) (by as_aux_lemma => kernel_rfl) (by as_aux_lemma => kernel_rfl) (fun _ _ _ h => h) (by rfl) ?_ (by assumption) ?_
  rotate_left
  · (intro w hSw; (try dsimp only at hSw); go_simp; try with_reducible rfl)
  try simp only [Act.put, List.setIfInBounds_toArray, List.set_cons_zero, List.set_cons_succ]
  refine reg_take (i := 71) (v := ?_) rfl (by as_aux_lemma => kernel_rfl) (by as_aux_lemma => kernel_rfl) (by as_aux_lemma => kernel_rfl) (fun _ _ _ h => h) (by rfl) ?_ (by assumption) ?_
  rotate_left
  · (intro w hSw; (try dsimp only at hSw); go_simp; try with_reducible rfl)
  try simp only [Act.put, List.setIfInBounds_toArray, List.set_cons_zero, List.set_cons_succ]
  refine reg_step (i := 72) (by as_aux_lemma => kernel_rfl) rfl (fun K hK => ?_)
  go_simp
  refine (snext_is (n := 3) S16 (by constructor <;> decide) rfl).mono ?_
  rintro r w17 ⟨rfl, C17⟩
  have B17 := ChB.go B16 C17 (Nat.le_refl _)
  have S17 := S16.chB C17 (by simp) (by simp)
  have x17 := own_chB x16 C17 (by simp)
  clear x16
  have y17 := own_chB y16 C17 (by simp)
  clear y16
  have z17 := own_chB z16 C17 (by simp)
  clear z16
  have Q17 := Q16.chB C17 (by simp)
  clear Q16
  clear S16 B16 C17
  dsimp only
  refine hK.out _ _ trivial (fun hHeld2 => ?_)
  clear hK K
  try simp only [Act.put, List.setIfInBounds_toArray, List.set_cons_zero, List.set_cons_succ]
  refine reg_take (i := 73) (v := ?_) rfl (by as_aux_lemma => kernel_rfl) (by as_aux_lemma => kernel_rfl) (by as_aux_lemma => kernel_rfl) (fun _ _ _ h => h) (by rfl) ?_ (by assumption) ?_
  rotate_left
  · (intro w hSw; (try dsimp only at hSw); go_simp; try with_reducible rfl)
  try simp only [Act.put, List.setIfInBounds_toArray, List.set_cons_zero, List.set_cons_succ]
  refine reg_take (i := 74) (v := ?_) rfl (by as_aux_lemma => kernel_rfl) (by as_aux_lemma => kernel_rfl) (by as_aux_lemma => kernel_rfl) (fun _ _ _ h => h) (by rfl) ?_ (by assumption) ?_
  rotate_left
  · (intro w hSw; (try dsimp only at hSw); go_simp; try with_reducible rfl)
  try simp only [Act.put, List.setIfInBounds_toArray, List.set_cons_zero, List.set_cons_succ]
  refine reg_take (i := 75) (v := ?_) rfl (by as_aux_lemma => kernel_rfl) (by as_aux_lemma => kernel_rfl) (by as_aux_lemma => kernel_rfl) (fun _ _ _ h => h) (by rfl) ?_ (by assumption) ?_
  rotate_left
  · (intro w hSw; (try dsimp only at hSw); go_simp; try with_reducible rfl)
  try simp only [Act.put, List.setIfInBounds_toArray, List.set_cons_zero, List.set_cons_succ]
  refine reg_take (i := 76) (v := ?_) rfl (by as_aux_lemma => kernel_rfl) (by as_aux_lemma => kernel_rfl) (by as_aux_lemma => kernel_rfl) (fun _ _ _ h => h) (by rfl) ?_ (by assumption) ?_
  rotate_left
  · (intro w hSw; (try dsimp only at hSw); go_simp; try with_reducible rfl)
  try simp only [Act.put, List.setIfInBounds_toArray, List.set_cons_zero, List.set_cons_succ]
  refine reg_step (i := 77) (by as_aux_lemma => kernel_rfl) rfl (fun K hK => ?_)
  go_simp
  refine (shad_is S17).mono ?_
  rintro r w' ⟨rfl, rfl⟩
  dsimp only
  refine hK.out _ _ trivial (fun hHeld2 => ?_)
  clear hK K
  try simp only [Act.put, List.setIfInBounds_toArray, List.set_cons_zero, List.set_cons_succ]
  refine reg_take (i := 78) (v := ?_) rfl (by as_aux_lemma => kernel_rfl) (by as_aux_lemma => kernel_rfl) (by as_aux_lemma => kernel_rfl) (fun _ _ _ h => h) (by rfl) ?_ (by assumption) ?_
  rotate_left
  · (intro w hSw; (try dsimp only at hSw); go_simp; try with_reducible rfl)
  try simp only [Act.put, List.setIfInBounds_toArray, List.set_cons_zero, List.set_cons_succ]
  refine reg_take (i := 79) (v := ?_) rfl (by as_aux_lemma => kernel_rfl) (by as_aux_lemma => kernel_rfl) (by as_aux_lemma => kernel_rfl) (fun _ _ _ h => h) (by rfl) ?_ (by assumption) ?_
  rotate_left
  · (intro w hSw; (try dsimp only at hSw); go_simp; try with_reducible rfl)
  try simp only [Act.put, List.setIfInBounds_toArray, List.set_cons_zero, List.set_cons_succ]
  refine reg_take (i := 80) (v := ?_) rfl (by as_aux_lemma => kernel_rfl) (by as_aux_lemma => kernel_rfl) (by as_aux_lemma => kernel_rfl) (fun _ _ _ h => h) (by rfl) ?_ (by assumption) ?_
  rotate_left
  · (intro w hSw; (try dsimp only at hSw); go_simp; try with_reducible rfl)
  try simp only [Act.put, List.setIfInBounds_toArray, List.set_cons_zero, List.set_cons_succ]
  refine reg_take (i := 81) (v := ?_) rfl (by as_aux_lemma => kernel_rfl) (by as_aux_lemma => kernel_rfl) (by as_aux_lemma => kernel_rfl) (fun _ _ _ h => h) (by rfl) ?_ (by assumption) ?_
  rotate_left
  · (intro w hSw; (try dsimp only at hSw); go_simp; try with_reducible rfl)
  try simp only [Act.put, List.setIfInBounds_toArray, List.set_cons_zero, List.set_cons_succ]
  refine reg_take (i := 83) (v := ?_) rfl (by as_aux_lemma => kernel_rfl) (by as_aux_lemma => kernel_rfl) (by as_aux_lemma => kernel_rfl) (fun _ _ _ h => h) (by rfl) ?_ (by assumption) ?_
  rotate_left
  · (intro w hSw; (try dsimp only at hSw); go_simp; try with_reducible rfl)
  try simp only [Act.put, List.setIfInBounds_toArray, List.set_cons_zero, List.set_cons_succ]
  refine reg_take (i := 84) (v := ?_) rfl (by as_aux_lemma => kernel_rfl) (by as_aux_lemma => kernel_rfl) (by as_aux_lemma => kernel_rfl) (fun _ _ _ h => h) (by rfl) ?_ (by assumption) ?_
  rotate_left
  · (intro w hSw; (try dsimp only at hSw); go_simp; try with_reducible rfl)
  try simp only [Act.put, List.setIfInBounds_toArray, List.set_cons_zero, List.set_cons_succ]
  refine reg_step (i := 82) (by as_aux_lemma => kernel_rfl) rfl (fun K hK => ?_)
  go_simp
  refine (under_is (L := [((2 : Int), (⟨#[98]⟩ : ByteArray))]) S17 (by constructor <;> decide) rfl).mono ?_
  rintro r w18 ⟨Au, cu, rfl, ru, C18⟩
  have C18' : ChB w.heap.size [] w17 w18 := C18.toB0
  have B18 := ChB.go B17 C18' (Nat.le_refl _)
  have S18 := S17.chB C18' (by simp) (by simp)
  have x18 := own_chB x17 C18' (by simp)
  clear x17
  have y18 := own_chB y17 C18' (by simp)
  clear y17
  have z18 := own_chB z17 C18' (by simp)
  clear z17
  have Q18 := Q17.chB C18' (by simp)
  clear Q17
  dsimp only
  refine hK.out _ _ trivial (fun hHeld2 => ?_)
  clear hK K
  try simp only [Act.put, List.setIfInBounds_toArray, List.set_cons_zero, List.set_cons_succ]
  refine reg_step (i := 85) (by as_aux_lemma => kernel_rfl) rfl (fun K hK => ?_)
  go_simp
  refine (same_yes _ _ _ _ [((2 : Int), (⟨#[98]⟩ : ByteArray))] _ ru (both_rd1 Q18) (by decide)).mono ?_
  rintro r w19 ⟨rfl, C19⟩
  have C19' : ChB w.heap.size [] w18 w19 := C19.toB0
  have B19 := ChB.go B18 C19' (Nat.le_refl _)
  have S19 := S18.chB C19' (by simp) (by simp)
  have x19 := own_chB x18 C19' (by simp)
  clear x18
  have y19 := own_chB y18 C19' (by simp)
  clear y18
  have z19 := own_chB z18 C19' (by simp)
  clear z18
  have Q19 := Q18.chB C19' (by simp)
  clear Q18
  dsimp only
  refine hK.out _ _ trivial (fun hHeld2 => ?_)
  clear hK K
  try simp only [Act.put, List.setIfInBounds_toArray, List.set_cons_zero, List.set_cons_succ]
  refine reg_take (i := 86) (v := ?_) rfl (by as_aux_lemma => kernel_rfl) (by as_aux_lemma => kernel_rfl) (by as_aux_lemma => kernel_rfl) (fun _ _ _ h => h) (by rfl) ?_ (by assumption) ?_
  rotate_left
  · (intro w hSw; (try dsimp only at hSw); go_simp; try with_reducible rfl)
  try simp only [Act.put, List.setIfInBounds_toArray, List.set_cons_zero, List.set_cons_succ]
  refine reg_take (i := 87) (v := ?_) rfl (by as_aux_lemma => kernel_rfl) (by as_aux_lemma => kernel_rfl) (by as_aux_lemma => kernel_rfl) (fun _ _ _ h => h) (by rfl) ?_ (by assumption) ?_
  rotate_left
  · (intro w hSw; (try dsimp only at hSw); go_simp; try with_reducible rfl)
  try simp only [Act.put, List.setIfInBounds_toArray, List.set_cons_zero, List.set_cons_succ]
  refine reg_take (i := 88) (v := ?_) rfl (by as_aux_lemma => kernel_rfl) (by as_aux_lemma => kernel_rfl) (by as_aux_lemma => kernel_rfl) (fun _ _ _ h => h) (by rfl) ?_ (by assumption) ?_
  rotate_left
  · (intro w hSw; (try dsimp only at hSw); go_simp; try with_reducible rfl)
  try simp only [Act.put, List.setIfInBounds_toArray, List.set_cons_zero, List.set_cons_succ]
  refine reg_step (i := 89) (by as_aux_lemma => kernel_rfl) rfl (fun K hK => ?_)
  go_simp
  refine (due_is (now := 5) (L := []) (T' := [(⟨#[98]⟩, true)]) (last' := 5) S19 (by constructor <;> decide) B19.size (by omega) (by omega) rfl rfl rfl).mono ?_
  rintro r w20 ⟨Av, cv, rfl, Xv, S20, C20⟩
  have B20 := ChB.go B19 C20 (Nat.le_refl _)
  have x20 := own_chB x19 C20 (by simp)
  clear x19
  have y20 := own_chB y19 C20 (by simp)
  clear y19
  have z20 := own_chB z19 C20 (by simp)
  clear z19
  have Q20 := Q19.chB C20 (by simp)
  clear Q19
  clear S19 B19 C20
  dsimp only
  refine hK.out _ _ trivial (fun hHeld2 => ?_)
  clear hK K
  try simp only [Act.put, List.setIfInBounds_toArray, List.set_cons_zero, List.set_cons_succ]
  refine reg_take (i := 90) (v := ?_) rfl (by as_aux_lemma => kernel_rfl) (by as_aux_lemma => kernel_rfl) (by as_aux_lemma => kernel_rfl) (fun _ _ _ h => h) (by rfl) ?_ (by assumption) ?_
  rotate_left
  · (intro w hSw; (try dsimp only at hSw); go_simp; try with_reducible rfl)
  try simp only [Act.put, List.setIfInBounds_toArray, List.set_cons_zero, List.set_cons_succ]
  refine reg_take (i := 91) (v := ?_) rfl (by as_aux_lemma => kernel_rfl) (by as_aux_lemma => kernel_rfl) (by as_aux_lemma => kernel_rfl) (fun _ _ _ h => h) (by rfl) ?_ (by assumption) ?_
  rotate_left
  · (intro w hSw; (try dsimp only at hSw); go_simp; try with_reducible rfl)
  try simp only [Act.put, List.setIfInBounds_toArray, List.set_cons_zero, List.set_cons_succ]
  refine reg_take (i := 92) (v := ?_) rfl (by as_aux_lemma => kernel_rfl) (by as_aux_lemma => kernel_rfl) (by as_aux_lemma => kernel_rfl) (fun _ _ _ h => h) (by rfl) ?_ (by assumption) ?_
  rotate_left
  · (intro w hSw; (try dsimp only at hSw); go_simp; try with_reducible rfl)
  try simp only [Act.put, List.setIfInBounds_toArray, List.set_cons_zero, List.set_cons_succ]
  refine reg_take (i := 93) (v := ?_) rfl (by as_aux_lemma => kernel_rfl) (by as_aux_lemma => kernel_rfl) (by as_aux_lemma => kernel_rfl) (fun _ _ _ h => h) (by rfl) ?_ (by assumption) ?_
  rotate_left
  · (intro w hSw; (try dsimp only at hSw); go_simp; try with_reducible rfl)
  try simp only [Act.put, List.setIfInBounds_toArray, List.set_cons_zero, List.set_cons_succ]
  refine wpAnyH_done (by kernel_rfl) ?_ _
  refine NoPanic.normal ?_
  go_wp2_with fail
  go_ret
  exact ⟨rfl, B20⟩
end Go.Proofs.Ytejmcfgmopijkaa
