/- The reference sender's New; and small contracts that the laws of the sender share. -/
import Derived.Test.YtejmcfgmopijkaaFixS
namespace Go.Proofs.Ytejmcfgmopijkaa
open Go.RowKit
set_option linter.unusedVariables false

theorem rnew_no (ep win wait : Int) (w : World) (h : ¬ ((1 ≤ ep ∧ ep ≤ 1099511627776) ∧ (1 ≤ win ∧ win ≤ 16) ∧ (1 ≤ wait ∧ wait ≤ 1000))) :
    Calls Try.prog 33 #[.int .i64 ep, .int .i64 win, .int .i64 wait] w fun r w' => r = .returned (.tuple #[.pointer none, .int .i64 1]) ∧ w = w' := by
  by_cases h1 : ep < 1
  · clear h
    go_enter Try.func33, Try.ntmps33
    go_wp2
    go_ret2
    exact ⟨rfl, rfl⟩
  by_cases h2 : 1099511627776 < ep
  · clear h
    go_enter Try.func33, Try.ntmps33
    go_wp2
    go_ret2
    exact ⟨rfl, rfl⟩
  by_cases h3 : win < 1
  · clear h
    go_enter Try.func33, Try.ntmps33
    go_wp2
    go_ret2
    exact ⟨rfl, rfl⟩
  by_cases h4 : 16 < win
  · clear h
    go_enter Try.func33, Try.ntmps33
    go_wp2
    go_ret2
    exact ⟨rfl, rfl⟩
  by_cases h5 : wait < 1
  · clear h
    go_enter Try.func33, Try.ntmps33
    go_wp2
    go_ret2
    exact ⟨rfl, rfl⟩
  have h6 : 1000 < wait := by omega
  clear h
  go_enter Try.func33, Try.ntmps33
  go_wp2
  go_ret2
  exact ⟨rfl, rfl⟩

theorem rnew_yes (ep win wait : Int) (w : World) (h1 : 1 ≤ ep ∧ ep ≤ 1099511627776) (h2 : 1 ≤ win ∧ win ≤ 16) (h3 : 1 ≤ wait ∧ wait ≤ 1000) :
    Calls Try.prog 33 #[.int .i64 ep, .int .i64 win, .int .i64 wait] w fun r w' => r = .returned (.tuple #[.pointer (some ⟨w.heap.size, 0, none⟩), .int .i64 0]) ∧ Blk w' w.heap.size 71 #[.int .i64 ep, .int .i64 win, .int .i64 wait, .int .i64 win, .slice none 0 0, .slice none 0 0, .int .i64 0, .int .i64 0] ∧ Ch [] w w' := by
  obtain ⟨a1, a2⟩ := h1
  obtain ⟨b1, b2⟩ := h2
  obtain ⟨c1, c2⟩ := h3
  go_enter Try.func33, Try.ntmps33
  go_wp2
  go_ret2
  exact ⟨rfl, Blk.new _ _ _, (Ch.refl _ _).alloc _⟩

theorem itemsOf_all (T : List Txt) : ∀ g : Int, (itemsOf (fun _ : Txt => true) g T).length = T.length := by
  induction T with
  | nil => intro g; rfl
  | cons x T ih => intro g; simp [itemsOf, ih]
/-- Under, by how many they are. -/
theorem under_len {B g : Nat} {ep win wait cr gone last : Int} {T : List Txt} {n : Nat} {w : World} (h : SndI w B g ep win wait cr T gone last) (hb : SndB win wait cr T gone last) (hn : T.length = n) :
    Calls Try.prog 43 #[.pointer (some ⟨g, 0, none⟩)] w fun r w' => ∃ A cap, r = .returned (.slice A n cap) ∧ Ch [] w w' :=
  (under_is h hb rfl).mono fun r w' ⟨A, cap, h1, _, h3⟩ => ⟨A, cap, by rw [h1, itemsOf_all, hn], h3⟩
end Go.Proofs.Ytejmcfgmopijkaa
