/- Plain facts that the laws of the sender share. -/
import Derived.Test.YtejmcfgmopijkaaRefNew
namespace Go.Proofs.Ytejmcfgmopijkaa
open Go.RowKit

theorem roomN_lo (win cr : Int) (n : Nat) : 0 ≤ roomN win cr n := by unfold roomN; split <;> omega
theorem roomN_hi {win cr : Int} (n : Nat) (hw : 0 ≤ win) : roomN win cr n ≤ win := by
  unfold roomN
  by_cases h : cr < win
  · rw [if_pos h]; split <;> omega
  · rw [if_neg h]; split <;> omega
theorem roomN_lt {win cr : Int} {n : Nat} (h : roomN win cr n ≠ 0) : (n : Int) + 1 ≤ win ∧ (n : Int) + 1 ≤ cr := by
  unfold roomN at h
  by_cases hc : cr < win
  · rw [if_pos hc] at h
    by_cases h2 : 0 < cr - (n : Int)
    · omega
    · rw [if_neg h2] at h; exact absurd rfl h
  · rw [if_neg hc] at h
    by_cases h2 : 0 < win - (n : Int)
    · omega
    · rw [if_neg h2] at h; exact absurd rfl h
theorem roomN_full {win cr : Int} {n : Nat} (h : roomN win cr n = 0) : min win cr ≤ n := by
  unfold roomN at h
  by_cases hc : cr < win
  · rw [if_pos hc] at h
    by_cases h2 : 0 < cr - (n : Int)
    · rw [if_pos h2] at h; omega
    · omega
  · rw [if_neg hc] at h
    by_cases h2 : 0 < win - (n : Int)
    · rw [if_pos h2] at h; omega
    · omega
theorem dueT_len (wait last gone now : Int) (T : List Txt) : (dueT wait last gone now T).length = T.length := by unfold dueT; split <;> simp
theorem dueLast_lo {wait last gone now : Int} (T : List Txt) (h : 0 ≤ last) : 0 ≤ dueLast wait last gone now T := by unfold dueLast; split <;> omega
theorem dueLast_hi {wait last gone now M : Int} (T : List Txt) (h : last ≤ M) (h2 : now ≤ M) : dueLast wait last gone now T ≤ M := by unfold dueLast; split <;> omega

/-- Numbers that a sender may have, in a law of few calls. -/
theorem SndB.mk' {win wait cr : Int} {T : List Txt} {gone last : Int} (h : (1 ≤ win ∧ win ≤ 16) ∧ (1 ≤ wait ∧ wait ≤ 1000) ∧ (0 ≤ cr ∧ cr ≤ 64) ∧ (0 ≤ gone ∧ gone ≤ 1000000) ∧ T.length ≤ 1000 ∧ 0 ≤ last ∧ last ≤ 1000000000000000) : SndB win wait cr T gone last :=
  ⟨h.1.1, h.1.2, h.2.1.1, h.2.1.2, h.2.2.1.1, h.2.2.1.2, h.2.2.2.1.1, h.2.2.2.1.2, h.2.2.2.2.1, h.2.2.2.2.2.1, h.2.2.2.2.2.2⟩

/-- Due, whatever comes of it. -/
theorem due_some {B g : Nat} {ep win wait cr gone last now : Int} {T : List Txt} {w : World} (h : SndI w B g ep win wait cr T gone last) (hb : SndB win wait cr T gone last) (hBw : B ≤ w.heap.size) (hn1 : now ≤ 2000000000000000) (hn2 : 0 ≤ now) :
    Calls Try.prog 37 #[.pointer (some ⟨g, 0, none⟩), .int .i64 now] w fun r w' => ∃ A cap, r = .returned (.slice A (dueL wait last gone now T).length cap) ∧ RdI w' A (dueL wait last gone now T) ∧ w'.ownsRow w.heap.size 76 2 (.slice A (dueL wait last gone now T).length cap) (dueL wait last gone now T).length (itmCells (dueL wait last gone now T)) ∧ SndI w' B g ep win wait cr (dueT wait last gone now T) gone (dueLast wait last gone now T) ∧ ChB B [111, 114] w w' :=
  (due_is h hb hBw hn1 hn2 rfl rfl rfl).mono fun r w' ⟨A, cap, h1, h2, h3, h4⟩ => by
    obtain ⟨A', cap', he, h5⟩ := own_rd h2
    injection he with e1 _ e3
    subst e1 e3
    exact ⟨A, cap, h1, h5, h2, h3, h4⟩
end Go.Proofs.Ytejmcfgmopijkaa
