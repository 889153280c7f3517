/- Two acks that are the same are the same by the reference's Same; an ack may be, by the reference's Right. -/
import Derived.Test.YtejmcfgmopijkaaAck
namespace Go.Proofs.Ytejmcfgmopijkaa
open Go.RowKit

theorem marks_nil (w : World) : Calls Try.prog 63 #[.slice none 0 0, .slice none 0 0] w fun r w' => r = .returned (.bool true) ∧ w = w' := by
  go_enter Try.func63, Try.ntmps63
  go_wp2_with fail
  refine wp_loop_rounds 1 ?_
  rw [rounds_succ]
  go_wp2
  go_ret
  exact ⟨rfl, rfl⟩

set_option maxRecDepth 100000 in
theorem same_ack (ep had room : Int) (w : World) : Calls Try.prog 24 #[.agg (ackF ep had room), .agg (ackF ep had room)] w fun r w' => r = .returned (.bool true) ∧ Ch [] w w' := by
  generalize hc : creditN room = c
  unfold ackF
  rw [hc]
  clear hc
  go_enter Try.func24, Try.ntmps24
  go_wp2_with fail
  refine (marks_nil _).mono ?_
  rintro r w1 ⟨rfl, rfl⟩
  go_wp2
  go_ret
  exact ⟨rfl, ((Ch.refl _ _).alloc _).alloc _⟩

set_option maxRecDepth 100000 in
theorem right_ack (ep had room : Int) (w : World) (h1 : 1 ≤ ep) (h2 : ep ≤ 1099511627776) (h3 : 0 ≤ had) (h4 : had ≤ 1099511627776) : Calls Try.prog 31 #[.agg (ackF ep had room)] w fun r w' => r = .returned (.bool true) ∧ Ch [] w w' := by
  generalize hc : creditN room = c
  have c1 : 0 ≤ c := by subst hc; unfold creditN; split <;> split <;> omega
  have c2 : c ≤ 64 := by subst hc; unfold creditN; split <;> split <;> omega
  unfold ackF
  rw [hc]
  clear hc
  go_enter Try.func31, Try.ntmps31
  go_wp2
  go_ret
  exact ⟨rfl, (Ch.refl _ _).alloc _⟩
end Go.Proofs.Ytejmcfgmopijkaa
