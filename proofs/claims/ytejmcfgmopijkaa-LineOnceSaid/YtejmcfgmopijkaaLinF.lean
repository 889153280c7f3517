/- The fixed calls of the line's statements answer true, whatever the world; nothing that was there turns. -/
import Derived.Test.YtejmcfgmopijkaaLinP
namespace Go.Proofs.Ytejmcfgmopijkaa
open Go.RowKit
set_option linter.unusedVariables false
set_option linter.unusedSimpArgs false

/-- What numbers a line may have, to be reckoned. -/
theorem lg_of {σ : LSt} (h : decide ((1 ≤ σ.win ∧ σ.win ≤ 16 ∧ 1 ≤ σ.wt ∧ σ.wt ≤ 1000 ∧ 0 ≤ σ.cr ∧ σ.cr ≤ 64 ∧ 0 ≤ σ.gone ∧ σ.gone ≤ 1000000 ∧ σ.T.length ≤ 1000 ∧ 0 ≤ σ.last ∧ σ.last ≤ 1000000000000000) ∧ (0 ≤ σ.had ∧ σ.had ≤ 1000000 ∧ σ.On.length ≤ 64 ∧ σ.Bk.length ≤ 64 ∧ 0 ≤ σ.now ∧ σ.now ≤ 1000000000 ∧ σ.Out.length ≤ 1000 ∧ 1 ≤ σ.room ∧ σ.room ≤ 64 ∧ 0 ≤ σ.store ∧ σ.store ≤ σ.room)) = true) : LG σ := by
  obtain ⟨⟨a1, a2, a3, a4, a5, a6, a7, a8, a9, a10, a11⟩, b1, b2, b3, b4, b5, b6, b7, b8, b9, b10, b11⟩ := of_decide_eq_true h
  exact ⟨⟨a1, a2, a3, a4, a5, a6, a7, a8, a9, a10, a11⟩, b1, b2, b3, b4, b5, b6, b7, b8, b9, b10, b11⟩
theorem rdS_blk {w : World} {x : Nat} {s : ByteArray} (h : Blk w x 9 #[.string s]) : RdS w (some ⟨x, 0, none⟩) [s] := fun i y hy => by
  have hlt : i < 1 := (List.getElem?_eq_some_iff.1 hy).1
  obtain rfl : i = 0 := by omega
  simp at hy
  subst hy
  exact ⟨x, 0, rfl, h.lt, h.cell 0⟩
theorem RdS.chP {w w' : World} {B : Nat} {Ts : List TypeId} {X : Option Nat} {A : Option Addr} {L : List ByteArray} (h : RdS w A L) (c : ChP B Ts X w w') (hB : ∀ b, A.map Addr.block = some b → b < B ∨ X = some b) : RdS w' A L := fun i s hs => by
  obtain ⟨b, o, h1, h2, h3⟩ := h i s hs
  refine ⟨b, o, h1, Nat.lt_of_lt_of_le h2 c.size, ?_⟩
  rw [World.cell?_of_block (c.block b h2 ((hB b (by rw [h1]; rfl)).imp id .inl))]
  exact h3

set_option maxHeartbeats 8000000 in
set_option maxRecDepth 100000 in
theorem fixed14 (w : World) : Calls Try.prog 54 #[] w fun r w' => r = .returned (.bool true) ∧ Below w.heap.size w w' := by
  go_enter Try.func54, Try.ntmps54
  go_wp2_with fail
  refine (new_p (B := w.heap.size) (win := 2) (wt := 3) (room := 1) (Nat.le_refl _) (by omega) (by omega) (by omega)).mono ?_
  rintro r wa ⟨l, rfl, ha, ca⟩
  have pa : ChP w.heap.size lts none w wa := ChP.of_0 ca
  clear ca
  go_wp2_with fail
  refine (lnew_no 0 3 1 wa (by omega)).mono ?_
  rintro r wb ⟨rfl, cb⟩
  have hb := ha.ch0 cb
  have pb := pa.trans (ChP.of_0 cb) (RowX.none_ _)
  clear ha pa cb
  go_wp2_with fail
  refine (lnew_room 2 3 65 wb (by omega) (by omega) (by omega)).mono ?_
  rintro r w0 ⟨rfl, cc⟩
  have h0 := hb.ch0 cc
  have p0 := pb.trans (ChP.of_0 cc) (RowX.none_ _)
  clear hb pb cc
  go_wp2_with fail
  refine (push_p (τ := ⟨2, 3, 2, [(⟨#[97]⟩, false)], 0, 0, 0, false, [], [], 0, [], 1, 0⟩) (q := 0) ⟨#[97]⟩ h0 (lg_of (by kernel_rfl)) p0.size (by kernel_rfl)).mono ?_
  rintro r w1 ⟨rfl, h1, c⟩
  have p1 := p0.trans c (RowX.none_ _)
  clear h0 p0 c
  go_wp2_with fail
  refine (push_p (τ := ⟨2, 3, 2, [(⟨#[97]⟩, false), (⟨#[98]⟩, false)], 0, 0, 0, false, [], [], 0, [], 1, 0⟩) (q := 0) ⟨#[98]⟩ h1 (lg_of (by kernel_rfl)) p1.size (by kernel_rfl)).mono ?_
  rintro r w2 ⟨rfl, h2, c⟩
  have p2 := p1.trans c (RowX.none_ _)
  clear h1 p1 c
  go_wp2_with fail
  refine (push_p (τ := ⟨2, 3, 2, [(⟨#[97]⟩, false), (⟨#[98]⟩, false)], 0, 0, 0, false, [], [], 0, [], 1, 0⟩) (q := 7) ⟨#[99]⟩ h2 (lg_of (by kernel_rfl)) p2.size (by kernel_rfl)).mono ?_
  rintro r w3 ⟨rfl, h3, c⟩
  have p3 := p2.trans c (RowX.none_ _)
  clear h2 p2 c
  go_wp2_with fail
  refine (send_p (τ := ⟨2, 3, 2, [(⟨#[97]⟩, true), (⟨#[98]⟩, true)], 0, 0, 0, false, [(1, ⟨#[97]⟩), (2, ⟨#[98]⟩)], [], 0, [], 1, 0⟩) (q := 2) 0 h3 (lg_of (by kernel_rfl)) p3.size (by kernel_rfl)).mono ?_
  rintro r w4 ⟨rfl, h4, c⟩
  have p4 := p3.trans c (RowX.none_ _)
  clear h3 p3 c
  go_wp2_with fail
  refine (come_p (τ := ⟨2, 3, 2, [(⟨#[97]⟩, true), (⟨#[98]⟩, true)], 0, 0, 0, false, [(1, ⟨#[97]⟩)], [(0, 1)], 0, [], 1, 0⟩) (q := 8) 1 h4 (lg_of (by kernel_rfl)) p4.size (by decide) (by decide) (by kernel_rfl)).mono ?_
  rintro r w5 ⟨rfl, h5, c⟩
  have p5 := p4.trans c (RowX.none_ _)
  clear h4 p4 c
  go_wp2_with fail
  refine (come_p (τ := ⟨2, 3, 2, [(⟨#[97]⟩, true), (⟨#[98]⟩, true)], 0, 0, 1, false, [], [(0, 1), (1, 0)], 0, [⟨#[97]⟩], 1, 1⟩) (q := 0) 0 h5 (lg_of (by kernel_rfl)) p5.size (by decide) (by decide) (by kernel_rfl)).mono ?_
  rintro r w6 ⟨rfl, h6, c⟩
  have p6 := p5.trans c (RowX.none_ _)
  clear h5 p5 c
  go_wp2_with fail
  refine (send_p (τ := ⟨2, 3, 2, [(⟨#[97]⟩, true), (⟨#[98]⟩, true)], 0, 3, 1, false, [(1, ⟨#[97]⟩), (2, ⟨#[98]⟩)], [(0, 1), (1, 0)], 3, [⟨#[97]⟩], 1, 1⟩) (q := 2) 3 h6 (lg_of (by kernel_rfl)) p6.size (by kernel_rfl)).mono ?_
  rintro r w7 ⟨rfl, h7, c⟩
  have p7 := p6.trans c (RowX.none_ _)
  clear h6 p6 c
  go_wp2_with fail
  refine (come_p (τ := ⟨2, 3, 2, [(⟨#[97]⟩, true), (⟨#[98]⟩, true)], 0, 3, 1, false, [(1, ⟨#[97]⟩)], [(0, 1), (1, 0), (1, 0)], 3, [⟨#[97]⟩], 1, 1⟩) (q := 7) 1 h7 (lg_of (by kernel_rfl)) p7.size (by decide) (by decide) (by kernel_rfl)).mono ?_
  rintro r w8 ⟨rfl, h8, c⟩
  have p8 := p7.trans c (RowX.none_ _)
  clear h7 p7 c
  go_wp2_with fail
  refine (ways_p (n := 1) (m := 3) h8 rfl rfl).mono ?_
  rintro r w9 ⟨rfl, h9, c⟩
  have p9 := p8.trans c (RowX.none_ _)
  clear h8 p8 c
  go_wp2_with fail
  refine (back_p (τ := ⟨2, 3, 0, [(⟨#[98]⟩, true)], 1, 3, 1, false, [(1, ⟨#[97]⟩)], [(0, 1), (1, 0)], 3, [⟨#[97]⟩], 1, 1⟩) (q := 0) 2 h9 (lg_of (by kernel_rfl)) p9.size (by kernel_rfl)).mono ?_
  rintro r w10 ⟨rfl, h10, c⟩
  have p10 := p9.trans c (RowX.none_ _)
  clear h9 p9 c
  go_wp2_with fail
  refine (drain_p (τ := ⟨2, 3, 0, [(⟨#[98]⟩, true)], 1, 3, 1, false, [(1, ⟨#[97]⟩)], [(0, 1), (1, 0), (1, 1)], 3, [⟨#[97]⟩], 1, 0⟩) (q := 1) 5 h10 (lg_of (by kernel_rfl)) p10.size (by kernel_rfl)).mono ?_
  rintro r w11 ⟨rfl, h11, c⟩
  have p11 := p10.trans c (RowX.none_ _)
  clear h10 p10 c
  go_wp2_with fail
  refine (push_p (τ := ⟨2, 3, 0, [(⟨#[98]⟩, true)], 1, 3, 1, false, [(1, ⟨#[97]⟩)], [(0, 1), (1, 0), (1, 1)], 3, [⟨#[97]⟩], 1, 0⟩) (q := 7) ⟨#[99]⟩ h11 (lg_of (by kernel_rfl)) p11.size (by kernel_rfl)).mono ?_
  rintro r w12 ⟨rfl, h12, c⟩
  have p12 := p11.trans c (RowX.none_ _)
  clear h11 p11 c
  go_wp2_with fail
  refine (twice_p (τ := ⟨2, 3, 0, [(⟨#[98]⟩, true)], 1, 3, 1, false, [(1, ⟨#[97]⟩), (1, ⟨#[97]⟩)], [(0, 1), (1, 0), (1, 1)], 3, [⟨#[97]⟩], 1, 0⟩) (q := 0) false 0 h12 (lg_of (by kernel_rfl)) p12.size (by kernel_rfl)).mono ?_
  rintro r w13 ⟨rfl, h13, c⟩
  have p13 := p12.trans c (RowX.none_ _)
  clear h12 p12 c
  go_wp2_with fail
  refine (lose_p (τ := ⟨2, 3, 0, [(⟨#[98]⟩, true)], 1, 3, 1, false, [(1, ⟨#[97]⟩), (1, ⟨#[97]⟩)], [(0, 1), (1, 0), (1, 1)], 3, [⟨#[97]⟩], 1, 0⟩) (q := 8) true 9 h13 (lg_of (by kernel_rfl)) p13.size (by kernel_rfl)).mono ?_
  rintro r w14 ⟨rfl, h14, c⟩
  have p14 := p13.trans c (RowX.none_ _)
  clear h13 p13 c
  go_wp2_with fail
  refine (out_p (O := [⟨#[97]⟩]) (n := 1) h14 (lg_of (by kernel_rfl)) rfl rfl).mono ?_
  rintro r w15 ⟨A, cap, rfl, hcap, hR, h15, c⟩
  have p15 := p14.trans c (RowX.none_ _)
  clear h14 p14 c
  go_wp2_with fail
  have y := Blk.new w15 9 #[.string ⟨#[97]⟩]
  have ca := (Ch.refl [] w15).alloc (.cells #[.string ⟨#[97]⟩] 9)
  have hs := h15.ch0 ca
  have ps := p15.trans (ChP.of_0 ca) (RowX.none_ _)
  have hRs := hR.ch ca
  clear h15 p15 ca hR
  generalize w15.alloc _ = ws at y hs ps hRs ⊢
  generalize w15.heap.size = x at y ⊢
  have hY := rdS_blk y
  clear y
  refine (sameS_yes A (some ⟨x, 0, none⟩) cap 1 [⟨#[97]⟩] ws hRs hY (by simp)).mono ?_
  rintro r w16 ⟨rfl, c0⟩
  have h16 := hs.ch0 c0
  have p16 := ps.trans (ChP.of_0 c0) (RowX.none_ _)
  clear hs ps c0 hRs hY
  go_wp2_with fail
  refine (under_p (n := 1) h16 (lg_of (by kernel_rfl)) rfl).mono ?_
  rintro r w17 ⟨rfl, h17, c⟩
  have p17 := p16.trans c (RowX.none_ _)
  clear h16 p16 c
  go_wp2_with fail
  refine (room_p (n := 1) h17 (lg_of (by kernel_rfl)) rfl).mono ?_
  rintro r w18 ⟨rfl, h18, c⟩
  have p18 := p17.trans c (RowX.none_ _)
  clear h17 p17 c
  go_wp2_with fail
  go_ret
  exact ⟨rfl, ChB.go (Below.refl _ _) p18.toB (Nat.le_refl _)⟩
end Go.Proofs.Ytejmcfgmopijkaa
