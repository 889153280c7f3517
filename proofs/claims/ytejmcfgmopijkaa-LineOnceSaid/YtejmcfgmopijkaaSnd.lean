/- The contracts of package sender: of a sender that lies in memory as a block and the row of its texts. -/
import Derived.Test.YtejmcfgmopijkaaProg
import Derived.Test.YtejmcfgmopijkaaApp
import Derived.Test.YtejmcfgmopijkaaQuiet
import Derived.WalkKit
import Derived.Outline
import Derived.StillTailTactics
import Derived.Deep.RegionHeld3
import Derived.Deep.RegionLaw
namespace Go.Proofs.Ytejmcfgmopijkaa
open Go.RowKit
set_option linter.unusedVariables false

theorem ret_bool' {a b : Bool} (h : a = b) : Ending.returned (.bool a) = .returned (.bool b) := by rw [h]

abbrev Txt := ByteArray × Bool
def txtCells (T : List Txt) : List Value := T.flatMap fun x => [.string x.1, .bool x.2]
theorem txtCells_len (T : List Txt) : (txtCells T).length = T.length * 2 := by
  induction T with
  | nil => rfl
  | cons x T ih => simp [txtCells] at ih ⊢; omega
theorem txtCells_append (T U : List Txt) : txtCells (T ++ U) = txtCells T ++ txtCells U := by simp [txtCells]
theorem txtCells_get (T : List Txt) : ∀ (i : Nat) (x : Txt), T[i]? = some x → (txtCells T)[i * 2]? = some (.string x.1) ∧ (txtCells T)[i * 2 + 1]? = some (.bool x.2) := by
  induction T with
  | nil => simp
  | cons y T ih =>
    intro i x hx
    cases i with
    | zero => simp at hx; subst hx; simp [txtCells]
    | succ i =>
      have := ih i x (by simpa using hx)
      have e1 : (i + 1) * 2 = i * 2 + 1 + 1 := by omega
      rw [e1]
      simpa [txtCells] using this
theorem txtCells_drop (T : List Txt) : ∀ k : Nat, txtCells (T.drop k) = (txtCells T).drop (k * 2) := by
  induction T with
  | nil => intro k; simp [txtCells]
  | cons y T ih =>
    intro k
    cases k with
    | zero => simp
    | succ k =>
      have e1 : (k + 1) * 2 = k * 2 + 1 + 1 := by omega
      rw [e1]
      simpa [txtCells] using ih k

/-- A sender: its block, and its texts' row. -/
structure SndV (w : World) (B g : Nat) (ep win wait cr : Int) (T : List Txt) (gone last : Int) (v : Value) : Prop where
  hB : B ≤ g
  b : Blk w g 111 #[.int .i64 ep, .int .i64 win, .int .i64 wait, .int .i64 cr, v, .int .i64 gone, .int .i64 last]
  r : w.ownsRow B 114 2 v T.length (txtCells T)
def SndI (w : World) (B g : Nat) (ep win wait cr : Int) (T : List Txt) (gone last : Int) : Prop := ∃ v, SndV w B g ep win wait cr T gone last v

section
variable {w w' : World} {B g : Nat} {ep win wait cr gone last : Int} {T : List Txt} {Ts : List TypeId} {v : Value}
theorem SndV.chB (h : SndV w B g ep win wait cr T gone last v) {B' : Nat} (c : ChB B' Ts w w') (h1 : 111 ∉ Ts) (h2 : 114 ∉ Ts) : SndV w' B g ep win wait cr T gone last v := ⟨h.hB, h.b.chB c h1, own_chB h.r c h2⟩
theorem SndI.chB (h : SndI w B g ep win wait cr T gone last) {B' : Nat} (c : ChB B' Ts w w') (h1 : 111 ∉ Ts) (h2 : 114 ∉ Ts) : SndI w' B g ep win wait cr T gone last := ⟨h.choose, h.choose_spec.chB c h1 h2⟩
theorem SndV.len (h : SndV w B g ep win wait cr T gone last v) : ∃ A cap, v = .slice A T.length cap := by
  rcases own_form h.r with ⟨rfl, h0, _⟩ | ⟨gv, cap, _, rfl, _⟩
  · exact ⟨none, 0, by rw [h0]⟩
  · exact ⟨_, cap, rfl⟩
end

def nextN (gone : Int) (T : List Txt) : Int := gone + T.length + 1

theorem next_v (B g : Nat) (ep win wait cr gone last : Int) (T : List Txt) (v : Value) (w : World) (h : SndV w B g ep win wait cr T gone last v) (hg : 0 ≤ gone) (hg2 : gone ≤ 1000000) (hT : T.length ≤ 1000000) :
    Calls Try.prog 72 #[.pointer (some ⟨g, 4, none⟩)] w fun r w' => r = .returned (.int .i64 (nextN gone T)) ∧ ChB B [] w w' := by
  have h4 := h.b.cell 4
  have h5 := h.b.cell 5
  simp at h4 h5
  obtain ⟨A, cap, rfl⟩ := h.len
  generalize hn : T.length = n at h4
  have hn' : n ≤ 1000000 := by omega
  have hp : nextN gone T = gone + n + 1 := by rw [nextN, hn]
  rw [hp]
  clear hp hn hT h
  go_enter Try.func72, Try.ntmps72
  go_wp2_with fail
  go_quiet (fail)
  go_wp2
  go_ret
  exact ⟨rfl, ChB.of_drewN _ _ _ _⟩

def roomN (win cr : Int) (n : Nat) : Int := if 0 < (if cr < win then cr else win) - n then (if cr < win then cr else win) - n else 0

/-- Numbers that a sender may have. -/
structure SndB (win wait cr : Int) (T : List Txt) (gone last : Int) : Prop where
  w1 : 1 ≤ win
  w2 : win ≤ 16
  t1 : 1 ≤ wait
  t2 : wait ≤ 1000
  c1 : 0 ≤ cr
  c2 : cr ≤ 64
  g1 : 0 ≤ gone
  g2 : gone ≤ 1000000
  n2 : T.length ≤ 1000
  l1 : 0 ≤ last
  l2 : last ≤ 1000000000000000

theorem room_v (B g : Nat) (ep win wait cr gone last : Int) (T : List Txt) (v : Value) (w : World) (h : SndV w B g ep win wait cr T gone last v) (hb : SndB win wait cr T gone last) :
    Calls Try.prog 41 #[.pointer (some ⟨g, 0, none⟩)] w fun r w' => r = .returned (.int .i64 (roomN win cr T.length)) ∧ ChB B [] w w' := by
  have h1 := h.b.cell 1
  have h3 := h.b.cell 3
  have h4 := h.b.cell 4
  simp at h1 h3 h4
  obtain ⟨A, cap, rfl⟩ := h.len
  have hw1 := hb.w1
  have hw2 := hb.w2
  have hc1 := hb.c1
  have hc2 := hb.c2
  have hn' := hb.n2
  generalize T.length = n at h4 hn' ⊢
  clear h hb
  by_cases hc : cr < win
  · by_cases hd : 0 < cr - (n : Int)
    · have hp : roomN win cr n = cr - n := by simp [roomN, hc]; omega
      rw [hp]
      clear hp
      go_enter Try.func41, Try.ntmps41
      go_wp2_with fail
      go_quiet (fail)
      go_wp2_with fail
      go_ret
      exact ⟨rfl, ChB.of_drewN _ _ _ _⟩
    · have hp : roomN win cr n = 0 := by simp [roomN, hc]; omega
      rw [hp]
      clear hp
      go_enter Try.func41, Try.ntmps41
      go_wp2_with fail
      go_quiet (fail)
      go_wp2_with fail
      go_ret
      exact ⟨rfl, ChB.of_drewN _ _ _ _⟩
  · by_cases hd : 0 < win - (n : Int)
    · have hp : roomN win cr n = win - n := by simp [roomN, hc]; omega
      rw [hp]
      clear hp
      go_enter Try.func41, Try.ntmps41
      go_wp2_with fail
      go_quiet (fail)
      go_wp2_with fail
      go_ret
      exact ⟨rfl, ChB.of_drewN _ _ _ _⟩
    · have hp : roomN win cr n = 0 := by simp [roomN, hc]; omega
      rw [hp]
      clear hp
      go_enter Try.func41, Try.ntmps41
      go_wp2_with fail
      go_quiet (fail)
      go_wp2_with fail
      go_ret
      exact ⟨rfl, ChB.of_drewN _ _ _ _⟩

theorem snext_v (B g : Nat) (ep win wait cr gone last : Int) (T : List Txt) (v : Value) (w : World) (h : SndV w B g ep win wait cr T gone last v) (hb : SndB win wait cr T gone last) :
    Calls Try.prog 45 #[.pointer (some ⟨g, 0, none⟩)] w fun r w' => r = .returned (.int .i64 (nextN gone T)) ∧ ChB B [] w w' := by
  have h1 := h.b.cell 0
  have h4 := h.b.cell 4
  simp at h1 h4
  obtain ⟨A, cap, rfl⟩ := h.len
  go_enter Try.func45, Try.ntmps45
  go_wp2_with fail
  refine (next_v B g ep win wait cr gone last T _ w h hb.g1 hb.g2 (by have := hb.n2; omega)).mono ?_
  rintro r w1 ⟨rfl, c⟩
  go_wp2_with fail
  go_ret
  exact ⟨rfl, c⟩

theorem shad_v (B g : Nat) (ep win wait cr gone last : Int) (T : List Txt) (v : Value) (w : World) (h : SndV w B g ep win wait cr T gone last v) :
    Calls Try.prog 46 #[.pointer (some ⟨g, 0, none⟩)] w fun r w' => r = .returned (.int .i64 gone) ∧ w = w' := by
  have h5 := h.b.cell 5
  simp at h5
  go_enter Try.func46, Try.ntmps46
  go_wp2_with fail
  go_ret
  exact ⟨rfl, rfl⟩

theorem within_c (n a b : Int) (w : World) : Calls Try.prog 68 #[.int .i64 n, .int .i64 a, .int .i64 b] w fun r w' => r = .returned (.bool (decide (a ≤ n) && decide (n ≤ b))) ∧ w = w' := by
  by_cases h1 : a ≤ n
  · by_cases h2 : n ≤ b
    · go_enter Try.func68, Try.ntmps68
      go_wp2_with fail
      go_ret
      exact ⟨ret_bool' (by simp [h1, h2]), rfl⟩
    · go_enter Try.func68, Try.ntmps68
      go_wp2_with fail
      go_ret
      exact ⟨ret_bool' (by simp [h2]), rfl⟩
  · go_enter Try.func68, Try.ntmps68
    go_wp2_with fail
    go_ret
    exact ⟨ret_bool' (by simp; omega), rfl⟩

theorem snew_no (ep win wait : Int) (w : World) (h : ¬ ((1 ≤ ep ∧ ep ≤ 1099511627776) ∧ (1 ≤ win ∧ win ≤ 16) ∧ (1 ≤ wait ∧ wait ≤ 1000))) :
    Calls Try.prog 32 #[.int .i64 ep, .int .i64 win, .int .i64 wait] w fun r w' => r = .returned (.tuple #[.pointer none, .int .i64 1]) ∧ w = w' := by
  have key : ∀ n a b : Int, (decide (a ≤ n) && decide (n ≤ b)) = true ↔ a ≤ n ∧ n ≤ b := by simp
  by_cases h1 : 1 ≤ ep ∧ ep ≤ 1099511627776
  · have e1 := (key _ _ _).2 h1
    by_cases h2 : 1 ≤ win ∧ win ≤ 16
    · have e2 := (key _ _ _).2 h2
      have h3 : ¬ (1 ≤ wait ∧ wait ≤ 1000) := fun h3 => h ⟨h1, h2, h3⟩
      have e3 : (decide (1 ≤ wait) && decide (wait ≤ 1000)) = false := by rw [← Bool.not_eq_true, key]; exact h3
      have c1 := within_c ep 1 1099511627776 w
      have c2 := within_c win 1 16 w
      have c3 := within_c wait 1 1000 w
      rw [e1] at c1
      rw [e2] at c2
      rw [e3] at c3
      have C1 := Lib.hid c1
      have C2 := Lib.hid c2
      have C3 := Lib.hid c3
      clear key e1 e2 e3 h1 h2 h3 h c1 c2 c3
      go_enter Try.func32, Try.ntmps32
      go_wp2_with fail
      refine C1.out.mono ?_
      rintro r w1 ⟨rfl, rfl⟩
      go_wp2_with fail
      refine C2.out.mono ?_
      rintro r w1 ⟨rfl, rfl⟩
      go_wp2_with fail
      refine C3.out.mono ?_
      rintro r w1 ⟨rfl, rfl⟩
      go_wp2_with fail
      go_ret2
      exact ⟨rfl, rfl⟩
    · have e2 : (decide (1 ≤ win) && decide (win ≤ 16)) = false := by rw [← Bool.not_eq_true, key]; exact h2
      have c1 := within_c ep 1 1099511627776 w
      have c2 := within_c win 1 16 w
      rw [e1] at c1
      rw [e2] at c2
      have C1 := Lib.hid c1
      have C2 := Lib.hid c2
      clear key e1 e2 h1 h2 h c1 c2
      go_enter Try.func32, Try.ntmps32
      go_wp2_with fail
      refine C1.out.mono ?_
      rintro r w1 ⟨rfl, rfl⟩
      go_wp2_with fail
      refine C2.out.mono ?_
      rintro r w1 ⟨rfl, rfl⟩
      go_wp2_with fail
      go_ret2
      exact ⟨rfl, rfl⟩
  · have e1 : (decide (1 ≤ ep) && decide (ep ≤ 1099511627776)) = false := by rw [← Bool.not_eq_true, key]; exact h1
    have c1 := within_c ep 1 1099511627776 w
    rw [e1] at c1
    have C1 := Lib.hid c1
    clear key e1 h1 h c1
    go_enter Try.func32, Try.ntmps32
    go_wp2_with fail
    refine C1.out.mono ?_
    rintro r w1 ⟨rfl, rfl⟩
    go_wp2_with fail
    go_ret2
    exact ⟨rfl, rfl⟩

theorem snew_yes (ep win wait : Int) (w : World) (h1 : 1 ≤ ep ∧ ep ≤ 1099511627776) (h2 : 1 ≤ win ∧ win ≤ 16) (h3 : 1 ≤ wait ∧ wait ≤ 1000) :
    Calls Try.prog 32 #[.int .i64 ep, .int .i64 win, .int .i64 wait] w fun r w' => r = .returned (.tuple #[.pointer (some ⟨w.heap.size, 0, none⟩), .int .i64 0]) ∧ Blk w' w.heap.size 111 #[.int .i64 ep, .int .i64 win, .int .i64 wait, .int .i64 win, .slice none 0 0, .int .i64 0, .int .i64 0] ∧ Ch [] w w' := by
  have key : ∀ n a b : Int, (decide (a ≤ n) && decide (n ≤ b)) = true ↔ a ≤ n ∧ n ≤ b := by simp
  have c1 := within_c ep 1 1099511627776 w
  have c2 := within_c win 1 16 w
  have c3 := within_c wait 1 1000 w
  rw [(key _ _ _).2 h1] at c1
  rw [(key _ _ _).2 h2] at c2
  rw [(key _ _ _).2 h3] at c3
  have C1 := Lib.hid c1
  have C2 := Lib.hid c2
  have C3 := Lib.hid c3
  clear key h1 h2 h3 c1 c2 c3
  go_enter Try.func32, Try.ntmps32
  go_wp2_with fail
  refine C1.out.mono ?_
  rintro r w1 ⟨rfl, rfl⟩
  go_wp2_with fail
  refine C2.out.mono ?_
  rintro r w1 ⟨rfl, rfl⟩
  go_wp2_with fail
  refine C3.out.mono ?_
  rintro r w1 ⟨rfl, rfl⟩
  go_wp2_with fail
  go_ret2
  exact ⟨rfl, Blk.new _ _ _, (Ch.refl _ _).alloc _⟩
theorem snew_ex {ep win wait : Int} {w : World} {B : Nat} (hB : B ≤ w.heap.size) (h1 : 1 ≤ ep ∧ ep ≤ 1099511627776) (h2 : 1 ≤ win ∧ win ≤ 16) (h3 : 1 ≤ wait ∧ wait ≤ 1000) :
    Calls Try.prog 32 #[.int .i64 ep, .int .i64 win, .int .i64 wait] w fun r w' => ∃ g, r = .returned (.tuple #[.pointer (some ⟨g, 0, none⟩), .int .i64 0]) ∧ SndI w' B g ep win wait win [] 0 0 ∧ Ch [] w w' :=
  (snew_yes ep win wait w h1 h2 h3).mono fun _ _ ⟨a, b, c⟩ => ⟨_, a, ⟨_, hB, b, World.ownsRow_nil _ _ _ _⟩, c⟩
end Go.Proofs.Ytejmcfgmopijkaa
