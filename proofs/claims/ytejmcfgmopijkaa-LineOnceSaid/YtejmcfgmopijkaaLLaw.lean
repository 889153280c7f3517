/- Small words that the laws of the line share: the row of the texts that were pushed, beside the line. -/
import Derived.Test.YtejmcfgmopijkaaLinF
import Derived.Test.YtejmcfgmopijkaaOps14
namespace Go.Proofs.Ytejmcfgmopijkaa
open Go.RowKit
set_option linter.unusedVariables false
set_option linter.unusedSimpArgs false

/-- The texts that were pushed, a row of the law's own. -/
def InRow (w : World) (B : Nat) (v : Value) (n : Nat) (In : List ByteArray) : Prop := w.ownsRow B 9 1 v n (In.map Value.string) ∧ In.length = n

section
variable {w w' : World} {B l n : Nat} {v : Value} {In : List ByteArray} {σ : LSt} {Ts : List TypeId}
theorem InRow.chP (h : InRow w B v n In) (c : ChP B Ts v.ownBlock w w') : InRow w' B v n In := ⟨own_chP h.1 c, h.2⟩
theorem InRow.ch0 (h : InRow w B v n In) (c : Ch [] w w') : InRow w' B v n In := ⟨own_ch h.1 c (by simp), h.2⟩
theorem InRow.rowX (h : InRow w B v n In) : RowX w v.ownBlock := own_rowX h.1
theorem InRow.rd (h : InRow w B v n In) : ∃ A cap, v = .slice A n cap ∧ n ≤ cap ∧ RdS w A In := by
  obtain ⟨h, rfl⟩ := h
  obtain ⟨A, cap, rfl, hr⟩ := own_rdS h
  obtain ⟨A2, cap2, e2, hc⟩ := own_len h
  injection e2 with _ _ e3
  subst e3
  exact ⟨A, cap, rfl, hc, hr⟩
/-- A text more. -/
theorem InRow.more {s : ByteArray} {v' : Value} (h : InRow w B v n In) (h' : w'.ownsRow B 9 1 v' (n + 1) (In.map Value.string ++ [.string s])) : InRow w' B v' (n + 1) (In ++ [s]) := ⟨by simpa using h', by simp [h.2]⟩
theorem InRow.start (w : World) (hB : B ≤ w.heap.size) : InRow (w.alloc (.cells #[] 9)) B (.slice (some ⟨w.heap.size, 0, none⟩) 0 0) 0 [] :=
  ⟨⟨rfl, .inr ⟨w.heap.size, 0, #[], rfl, hB, Blk.new w 9 #[], by omega, by unfold maxLen; omega, rfl, rfl⟩⟩, rfl⟩
theorem LI.start (h : LI w B l none σ) : LI (w.alloc (.cells #[] 9)) B l (some w.heap.size) σ :=
  h.row (by
    have e := (Ch.refl [] w).alloc (.cells #[] 9)
    exact ⟨e.os, e.tape, e.output, e.size, fun k hk _ => e.block k hk (by simp)⟩) (fun k hk => by injection hk with hk; subst hk; exact ⟨_, Blk.new w 9 #[]⟩) (fun k hk => by injection hk with hk; exact .inr (by omega))
theorem LI.more {v' : Value} {xs : List Value} {m : Nat} (h : LI w B l v.ownBlock σ) (g : w.grownBy w' v.ownBlock) (h' : w'.ownsRow B 9 1 v' m xs) (hd : v'.ownBlock = v.ownBlock ∨ v'.ownBlock = some w.heap.size) : LI w' B l v'.ownBlock σ :=
  h.row g (own_rowX h') (fun k hk => by
    rcases hd with hd | hd
    · exact .inl (by rw [← hd]; exact hk)
    · rw [hd] at hk; injection hk with hk; exact .inr (by omega))
theorem below_grown {a : World} {base size m : Nat} {v : Value} {xs : List Value} (hb : Below a.heap.size a w) (g : w.grownBy w' v.ownBlock) (ho : w.ownsRow base 9 size v m xs) (hB : a.heap.size ≤ base) : Below a.heap.size a w' :=
  ChB.go hb ((ChB.refl base [9] w).grown g ho (Nat.le_refl _) (by simp)) hB
end
/-- A line just made. -/
structure Fresh (win wt room : Int) (σ : LSt) : Prop where
  calm : Calm [] σ
  now : σ.now = 0
  win : σ.win = win
  wt : σ.wt = wt
  room : σ.room = room
  had : σ.had = 0
theorem new_q {w : World} {B : Nat} {win wt room : Int} (hB : B ≤ w.heap.size) (h2 : 1 ≤ win ∧ win ≤ 16) (h3 : 1 ≤ wt ∧ wt ≤ 1000) (hr : 1 ≤ room ∧ room ≤ 64) :
    Calls Try.prog 48 #[.int .i64 win, .int .i64 wt, .int .i64 room] w fun e w' => ∃ l σ, e = .returned (.tuple #[.pointer (some ⟨l, 0, none⟩), .int .i64 0]) ∧ LI w' B l none σ ∧ Fresh win wt room σ ∧ Ch [] w w' :=
  (new_p hB h2 h3 hr).mono fun e w' ⟨l, h1, hl, c⟩ => ⟨l, _, h1, hl, ⟨calm_new h2 h3 hr, rfl, rfl, rfl, rfl, rfl⟩, c⟩
/-- The law's own row, new and empty, under a name. -/
theorem start_in {w : World} {B l : Nat} {σ : LSt} (h : LI w B l none σ) (hB : B ≤ w.heap.size) : ∃ vin : Value, vin = .slice (some ⟨w.heap.size, 0, none⟩) 0 0 ∧ InRow (w.alloc (.cells #[] 9)) B vin 0 [] ∧ LI (w.alloc (.cells #[] 9)) B l vin.ownBlock σ := ⟨_, rfl, InRow.start w hB, h.start⟩
theorem sameS_n {A A' : Option Addr} {c c' n : Nat} {X : List ByteArray} {w : World} (h : RdS w A X) (h' : RdS w A' X) (hn : X.length = n) (hL : n ≤ 1000000) :
    Calls Try.prog 51 #[.slice A n c, .slice A' n c'] w fun r w' => r = .returned (.bool true) ∧ Ch [] w w' := by
  subst hn
  exact sameS_yes A A' c c' X w h h' hL
end Go.Proofs.Ytejmcfgmopijkaa
