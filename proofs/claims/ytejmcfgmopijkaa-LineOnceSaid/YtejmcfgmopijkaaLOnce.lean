/- What holds of a line and of the texts that were pushed, call by call; plain. -/
import Derived.Test.YtejmcfgmopijkaaLLaw
namespace Go.Proofs.Ytejmcfgmopijkaa
open Go.RowKit
set_option linter.unusedVariables false
set_option linter.unusedSimpArgs false

theorem RdS.take {w : World} {A : Option Addr} {X : List ByteArray} (h : RdS w A X) (k : Nat) : RdS w A (X.take k) := fun i s hs => by
  rw [List.getElem?_take] at hs
  split at hs
  · exact h i s hs
  · cases hs

/-- Ahead of the j'th call. -/
structure Once (win room : Int) (In : List ByteArray) (n : Nat) (σ : LSt) (dr : Int) (j : Nat) : Prop where
  inv : Inv In σ
  win : σ.win = win
  room : σ.room = room
  dr : dr = σ.had - σ.store
  now : σ.now ≤ 1000 * j
  len : n ≤ j
/-- Behind it. -/
structure OnceStep (win room : Int) (In2 : List ByteArray) (n2 : Nat) (τ : LSt) (m nt : Nat) (rm dr dr2 st q ok : Int) (j : Nat) : Prop where
  once : Once win room In2 n2 τ dr2 (j + 1)
  drain : dr2 = dr + (if ok = 4 then q else 0)
  out : τ.Out = In2.take m
  outl : (In2.take m).length = m
  hnt : τ.T.length = nt
  hrm : τ.room - τ.store = rm
  mn : m ≤ n2
  hn2 : n2 ≤ 201
  ntw : (nt : Int) ≤ win
  st0 : 0 ≤ st
  st1 : st ≤ 64
  rm0 : 0 ≤ rm
  e1 : (m : Int) - dr2 = st
  e2 : room - st = rm
  e3 : (n2 : Int) - (m : Int) ≤ nt
  d0 : 0 ≤ dr2
  d1 : dr2 ≤ m
  n2l : In2.length = n2
theorem play_had_store {In : List ByteArray} {σ : LSt} (h : Inv In σ) (h0 : 0 ≤ σ.had - σ.store) (o : Op14) : 0 ≤ (playS σ o).2.had - (playS σ o).2.store := by
  rw [drained_play]
  split
  · rename_i h4
    have : 0 ≤ (playS σ o).1 := by
      have e : playS σ o = drainS σ o.n := by rcases play_cases σ o with ⟨h', e⟩ | ⟨h', e⟩ | ⟨h', e⟩ | ⟨h', e⟩ | ⟨h', e⟩ | ⟨h', e⟩ | ⟨h', e⟩ <;> first | exact e | omega
      rw [e]
      unfold drainS
      split
      · simp; omega
      · simp
    omega
  · omega
theorem once_step {win room : Int} {In : List ByteArray} {n : Nat} {σ : LSt} {dr : Int} {j : Nat} {o : Op14} {q : Int} {τ : LSt} (h : Once win room In n σ dr j) (hd : 0 ≤ dr) (hn : In.length = n) (hj : j ≤ 200) (hp : playS σ o = (q, τ)) :
    ∃ (m nt : Nat) (rm : Int) (n2 : Nat) (dr2 st : Int), LG σ ∧ σ.Out.length < 1000 ∧ σ.had < 1000000 ∧ LG τ ∧ OnceStep win room (playIn In σ o) n2 τ m nt rm dr dr2 st q o.k j := by
  obtain ⟨inv, hw, hr, hdr, hnow, hlen⟩ := h
  have i2 := inv_play inv o
  have sty := sty_play σ o
  have dp := drained_play σ o
  have d2 := play_had_store inv (by omega) o
  rw [hp] at i2 sty dp d2
  dsimp only at i2 sty dp d2
  have hpl := playIn_len In σ o
  have gs : LG σ := inv.bnd (by omega) (by omega)
  have gt : LG τ := i2.bnd (by omega) (by have := sty.n1; omega)
  have hol := inv.outlen
  have hol2 := i2.outlen
  have hhn := inv.hn
  have hhn2 := i2.hn
  have hs0 := i2.s0
  have hs1 := i2.s1
  have hr1 := i2.r1
  have htw := i2.tw
  have hgT := i2.gT
  have hgh := i2.gh
  refine ⟨τ.Out.length, τ.T.length, τ.room - τ.store, (playIn In σ o).length, τ.had - τ.store, τ.store, gs, by omega, by omega, gt, ⟨⟨i2, by rw [sty.win, hw], by rw [sty.room, hr], rfl, by have := sty.n1; omega, by omega⟩, by rw [hdr]; exact dp, ?_, ?_, rfl, rfl, by omega, by omega, by rw [← hw, ← sty.win]; exact htw, hs0, by omega, by omega, by omega, by rw [← hr, ← sty.room], by omega, d2, by omega, rfl⟩⟩
  · rw [show τ.Out.length = τ.had.toNat by omega]; exact i2.oo
  · rw [List.length_take]; omega
end Go.Proofs.Ytejmcfgmopijkaa
