/- The sender's Take: what has come goes, and how much more may. -/
import Derived.Test.YtejmcfgmopijkaaSnd2
namespace Go.Proofs.Ytejmcfgmopijkaa
open Go.RowKit
set_option linter.unusedVariables false

/-- What Take answers as an error. -/
def stakeN (ep gone : Int) (n : Nat) (e s c : Int) : Int := if e ≠ ep then 10 else if c < 0 ∨ 64 < c then 1 else if s < 0 ∨ gone + n + 1 ≤ s then 8 else if s < gone then 11 else 0

theorem stakeN_zero {ep gone : Int} {n : Nat} {e s c : Int} : stakeN ep gone n e s c = 0 ↔ e = ep ∧ 0 ≤ c ∧ c ≤ 64 ∧ 0 ≤ s ∧ s ≤ gone + n ∧ gone ≤ s := by
  unfold stakeN
  split
  · simp; omega
  split
  · simp; omega
  split
  · simp; omega
  split
  · simp; omega
  · simp; omega

theorem ret_tup {a b : Int} {x y : Int} (h1 : a = x) (h2 : b = y) : Ending.returned (.tuple #[.int .i64 a, .int .i64 b]) = .returned (.tuple #[.int .i64 x, .int .i64 y]) := by rw [h1, h2]

theorem stake_no (B g : Nat) (ep win wait cr gone last e s c : Int) (T : List Txt) (v : Value) (w : World) (h : SndV w B g ep win wait cr T gone last v) (hb : SndB win wait cr T gone last) (hn : stakeN ep gone T.length e s c ≠ 0) :
    Calls Try.prog 39 #[.pointer (some ⟨g, 0, none⟩), .int .i64 e, .int .i64 s, .int .i64 c] w fun r w' => r = .returned (.tuple #[.int .i64 0, .int .i64 (stakeN ep gone T.length e s c)]) ∧ ChB B [] w w' := by
  have h0 := h.b.cell 0
  have h5 := h.b.cell 5
  simp at h0 h5
  by_cases he : e = ep
  · subst he
    have c1 := within_c c 0 64 w
    by_cases hc : c < 0 ∨ 64 < c
    · have hd : (decide (0 ≤ c) && decide (c ≤ 64)) = false := by simp; omega
      have hs : stakeN e gone T.length e s c = 1 := by simp [stakeN, hc]
      rw [hs]
      rw [hd] at c1
      have C1 := Lib.hid c1
      clear c1 hd hs hc hn hb
      go_enter Try.func39, Try.ntmps39
      go_wp2_with fail
      refine C1.out.mono ?_
      rintro r w1 ⟨rfl, rfl⟩
      go_wp2_with fail
      go_ret2
      exact ⟨rfl, ChB.refl _ _ _⟩
    · have hd : (decide (0 ≤ c) && decide (c ≤ 64)) = true := by simp; omega
      rw [hd] at c1
      have C1 := Lib.hid c1
      have nx := next_v B g e win wait cr gone last T v w h hb.g1 hb.g2 (by have := hb.n2; omega)
      have hg1 := hb.g1
      have hg2 := hb.g2
      have hl := hb.n2
      have hnx : nextN gone T = gone + T.length + 1 := rfl
      rw [hnx] at nx
      generalize T.length = n at hn nx hl ⊢
      have NX := Lib.hid nx
      by_cases h8 : s < 0 ∨ gone + n + 1 ≤ s
      · have hs : stakeN e gone n e s c = 8 := by simp [stakeN, hc, h8]
        rw [hs]
        by_cases hs0 : s < 0
        · clear c1 hd hs hc hn hb hnx nx h8
          go_enter Try.func39, Try.ntmps39
          go_wp2_with fail
          refine C1.out.mono ?_
          rintro r w1 ⟨rfl, rfl⟩
          go_wp2_with fail
          go_ret2
          exact ⟨rfl, ChB.refl _ _ _⟩
        · have h9 : gone + n + 1 ≤ s := by omega
          clear c1 hd hs hc hn hb hnx nx h8
          go_enter Try.func39, Try.ntmps39
          go_wp2_with fail
          refine C1.out.mono ?_
          rintro r w1 ⟨rfl, rfl⟩
          go_wp2_with fail
          refine NX.out.mono ?_
          rintro r w1 ⟨rfl, k⟩
          go_wp2_with fail
          go_ret2
          exact ⟨rfl, k⟩
      · have h10 : s < gone := by
          have := mt stakeN_zero.2 hn
          omega
        have hs : stakeN e gone n e s c = 11 := by simp [stakeN, hc, h8, h10]
        rw [hs]
        have hs0 : ¬ s < 0 := by omega
        have h9 : ¬ gone + n + 1 ≤ s := by omega
        clear c1 hd hs hc hn hb hnx nx h8
        go_enter Try.func39, Try.ntmps39
        go_wp2_with fail
        refine C1.out.mono ?_
        rintro r w1 ⟨rfl, rfl⟩
        go_wp2_with fail
        refine NX.out.mono ?_
        rintro r w1 ⟨rfl, k⟩
        have h5' := (h.b.chB k (by simp)).cell 5
        simp at h5'
        go_wp2_with fail
        go_ret2
        exact ⟨rfl, k⟩
  · have hs : stakeN ep gone T.length e s c = 10 := by simp [stakeN, he]
    rw [hs]
    clear hs hn hb
    go_enter Try.func39, Try.ntmps39
    go_wp2_with fail
    go_ret2
    exact ⟨rfl, ChB.refl _ _ _⟩

theorem stake_yes (B g : Nat) (ep win wait cr gone last s c : Int) (T : List Txt) (v : Value) (w : World) (h : SndV w B g ep win wait cr T gone last v) (hb : SndB win wait cr T gone last) (hBw : B ≤ w.heap.size)
    (hc0 : 0 ≤ c) (hc1 : c ≤ 64) (hs0 : 0 ≤ s) (hs1 : s ≤ gone + T.length) (hs2 : gone ≤ s) :
    Calls Try.prog 39 #[.pointer (some ⟨g, 0, none⟩), .int .i64 ep, .int .i64 s, .int .i64 c] w fun r w' => r = .returned (.tuple #[.int .i64 (s - gone), .int .i64 0]) ∧ SndI w' B g ep win wait c (T.drop (s - gone).toNat) s last ∧ ChB B [111, 114] w w' := by
  have h0 := h.b.cell 0
  simp at h0
  have hd : (decide (0 ≤ c) && decide (c ≤ 64)) = true := by simp; omega
  have c1 := within_c c 0 64 w
  rw [hd] at c1
  have nx := next_v B g ep win wait cr gone last T v w h hb.g1 hb.g2 (by have := hb.n2; omega)
  have hnx : nextN gone T = gone + T.length + 1 := rfl
  rw [hnx] at nx
  have C1 := Lib.hid c1
  have NX := Lib.hid nx
  have hg1 := hb.g1
  have hg2 := hb.g2
  have hl := hb.n2
  have n8 : ¬ gone + T.length + 1 ≤ s := by omega
  clear c1 nx hnx hd hb
  go_enter Try.func39, Try.ntmps39
  go_wp2_with fail
  refine C1.out.mono ?_
  rintro r w1 ⟨rfl, rfl⟩
  go_wp2_with fail
  refine NX.out.mono ?_
  rintro r w1 ⟨rfl, k⟩
  have h1 := h.chB k (by simp) (by simp)
  have k5 := h1.b.cell 5
  have k3 := h1.b.cell 3
  have m3 := h1.b.frozen 3
  have b3 := h1.b.set_ 3 (.int .i64 c)
  have C3 : ChB B [111, 114] w (w1.setCell ⟨g, 3, none⟩ (.int .i64 c)) := (k.wide (by simp)).setCell (p := ⟨g, 3, none⟩) h1.hB h1.b (by simp) _
  have hne := own_ne h1.r h1.b (by decide)
  have o3 := own_ch h1.r ((Ch.refl [g] w1).setCell (p := ⟨g, 3, none⟩) (.inl (by simp)) (.int .i64 c)) (fun q hq hm => hne (by rw [List.mem_singleton.1 hm] at hq; exact hq.symm))
  have S3 : SndV (w1.setCell ⟨g, 3, none⟩ (.int .i64 c)) B g ep win wait c T gone last v := ⟨h1.hB, b3, o3⟩
  have z3 : B ≤ (w1.setCell ⟨g, 3, none⟩ (.int .i64 c)).heap.size := Nat.le_trans hBw C3.size
  simp at k5 k3
  clear h h0 h1 b3 hne o3 C1 NX
  go_wp2_with fail
  refine (drop_v B g ep win wait c gone last s T v _ S3 z3 hg1 hg2 hl hs2 hs1).mono ?_
  rintro r w2 ⟨rfl, S4, c4⟩
  go_wp2_with fail
  go_ret2
  exact ⟨rfl, S4, C3.trans c4⟩
end Go.Proofs.Ytejmcfgmopijkaa
