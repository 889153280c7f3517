/- The contracts of package receiver and of its reference: what each method answers and how the receiver stands behind it; of receivers that lie in memory as two blocks (the program's) or one (the reference's). -/
import Derived.Test.YtejmcfgmopijkaaProg
import Derived.Test.YtejmcfgmopijkaaBase
import Derived.WalkKit
import Derived.Deep.AppendLies
import Derived.Outline
import Derived.RegionTactic
import Derived.ChangeAlike
import Derived.StillTailTactics
namespace Go.Proofs.Ytejmcfgmopijkaa
open Go.RowKit

/-- Why a number can't be taken. -/
def whyN (ep had e s : Int) : Int := if e ≠ ep then 10 else if had + 1 < s then 8 else if s = had + 1 then 0 else 11

theorem ret_int {k : IntKind} {a b : Int} (h : a = b) : Ending.returned (.int k a) = .returned (.int k b) := by rw [h]
theorem ret_bool {a b : Bool} (h : a = b) : Ending.returned (.bool a) = .returned (.bool b) := by rw [h]

structure RecI (w : World) (g gc : Nat) (ep had : Int) (ow : Bool) : Prop where
  b : Blk w g 102 #[.pointer (some ⟨gc, 0, none⟩), .bool ow]
  c : Blk w gc 100 #[.int .i64 ep, .int .i64 had]
structure RecR (w : World) (g : Nat) (ep had : Int) (ow : Bool) : Prop where
  b : Blk w g 42 #[.int .i64 ep, .int .i64 had, .bool ow]

section
variable {w w' : World} {g gc h : Nat} {ep had : Int} {ow : Bool} {S : List Nat}
theorem RecI.ne (r : RecI w g gc ep had ow) : g ≠ gc := r.b.ne_ r.c (by decide)
theorem RecI.ch (r : RecI w g gc ep had ow) (c : Ch S w w') (h1 : g ∉ S) (h2 : gc ∉ S) : RecI w' g gc ep had ow := ⟨r.b.ch c h1, r.c.ch c h2⟩
theorem RecR.ch (r : RecR w g ep had ow) (c : Ch S w w') (h1 : g ∉ S) : RecR w' g ep had ow := ⟨r.b.ch c h1⟩
end

theorem why_c (g : Nat) (ep had e s : Int) (w : World) (hc : Blk w g 100 #[.int .i64 ep, .int .i64 had]) (hb : 0 ≤ had) (hb2 : had ≤ 1000000) :
    Calls Try.prog 62 #[.pointer (some ⟨g, 0, none⟩), .int .i64 e, .int .i64 s] w fun r w' => r = .returned (.int .i64 (whyN ep had e s)) ∧ w = w' := by
  have h0 := hc.cell 0
  have h1 := hc.cell 1
  simp at h0 h1
  by_cases he : e = ep
  · subst he
    by_cases h8 : had + 1 < s
    · go_enter Try.func62, Try.ntmps62
      go_wp2
      go_ret
      exact ⟨ret_int (by simp [whyN, h8]), rfl⟩
    · by_cases h9 : s = had + 1
      · subst h9
        go_enter Try.func62, Try.ntmps62
        go_wp2
        go_ret
        exact ⟨ret_int (by simp [whyN]), rfl⟩
      · go_enter Try.func62, Try.ntmps62
        go_wp2
        go_ret
        exact ⟨ret_int (by simp [whyN, h8, h9]), rfl⟩
  · go_enter Try.func62, Try.ntmps62
    go_wp2
    go_ret
    exact ⟨ret_int (by simp [whyN, he]), rfl⟩

theorem fits_i (g gc : Nat) (ep had e s : Int) (ow : Bool) (w : World) (hr : RecI w g gc ep had ow) (hb : 0 ≤ had) (hb2 : had ≤ 1000000) :
    Calls Try.prog 22 #[.pointer (some ⟨g, 0, none⟩), .int .i64 e, .int .i64 s] w fun r w' => r = .returned (.int .i64 (whyN ep had e s)) ∧ RecI w' g gc ep had (ow || e == ep) ∧ Ch [g] w w' := by
  have h0 := hr.b.cell 0
  have h1 := hr.b.cell 1
  have h2 := hr.c.cell 0
  have f1 := hr.b.frozen 1
  have hset := hr.b.set_ 1 (.bool (ow || e == ep))
  have hcc := hr.c.far (p := ⟨g, 1, none⟩) (Ne.symm hr.ne) (.bool (ow || e == ep))
  have hg := hset.cell 0
  have hC : Ch [g] w (w.setCell ⟨g, 1, none⟩ (.bool (ow || e == ep))) := (Ch.refl _ _).setCell (.inl (by simp)) _
  simp at h0 h1 h2 hset hcc hg
  generalize hbb : (ow || e == ep) = b at hset hcc hg hC ⊢
  have Hb := Lib.hid hbb
  clear hbb
  cases ow
  · by_cases he : e = ep
    · subst he
      obtain rfl : b = true := by rw [← Hb.out]; simp
      go_enter Try.func22, Try.ntmps22
      go_wp2_with fail
      refine (why_c gc e had e s _ hcc hb hb2).mono ?_
      rintro r w1 ⟨rfl, rfl⟩
      go_wp2
      go_ret
      exact ⟨rfl, ⟨hset, hcc⟩, hC⟩
    · obtain rfl : b = false := by rw [← Hb.out]; simp [he]
      have hq : (e == ep) = false := by simp [he]
      go_enter Try.func22, Try.ntmps22
      go_wp2_with fail
      refine (why_c gc ep had e s _ hcc hb hb2).mono ?_
      rintro r w1 ⟨rfl, rfl⟩
      go_wp2
      go_ret
      exact ⟨rfl, ⟨hset, hcc⟩, hC⟩
  · obtain rfl : b = true := by rw [← Hb.out]; simp
    go_enter Try.func22, Try.ntmps22
    go_wp2_with fail
    refine (why_c gc ep had e s _ hcc hb hb2).mono ?_
    rintro r w1 ⟨rfl, rfl⟩
    go_wp2
    go_ret
    exact ⟨rfl, ⟨hset, hcc⟩, hC⟩

/-- The number behind a Take. -/
def takeN (ep had e s : Int) : Int := if whyN ep had e s = 0 then had + 1 else had

theorem whyN_zero {ep had e s : Int} : whyN ep had e s = 0 ↔ e = ep ∧ s = had + 1 := by
  unfold whyN
  by_cases h : e = ep <;> by_cases h2 : had + 1 < s <;> by_cases h3 : s = had + 1 <;> simp [h, h2, h3] <;> omega

theorem take_i (g gc : Nat) (ep had e s : Int) (ow : Bool) (w : World) (hr : RecI w g gc ep had ow) (hb : 0 ≤ had) (hb2 : had ≤ 1000000) :
    Calls Try.prog 20 #[.pointer (some ⟨g, 0, none⟩), .int .i64 e, .int .i64 s] w fun r w' => r = .returned (.int .i64 (whyN ep had e s)) ∧ RecI w' g gc ep (takeN ep had e s) (ow || e == ep) ∧ Ch [g, gc] w w' := by
  go_enter Try.func20, Try.ntmps20
  go_wp2_with fail
  refine (fits_i g gc ep had e s ow _ hr hb hb2).mono ?_
  rintro r w1 ⟨rfl, hr1, hc1⟩
  have h0 := hr1.b.cell 0
  have f1 := hr1.c.frozen 1
  have h2 := hr1.c.cell 1
  simp at h0 h2
  by_cases hy : whyN ep had e s = 0
  · have hs := hr1.c.set_ 1 (.int .i64 s)
    have hb' := hr1.b.far (p := ⟨gc, 1, none⟩) hr1.ne (.int .i64 s)
    have hC : Ch [g, gc] w (w1.setCell ⟨gc, 1, none⟩ (.int .i64 s)) := (hc1.wide (by simp)).setCell (.inl (by simp)) _
    simp at hs hb'
    have ht : takeN ep had e s = s := by rw [takeN, if_pos hy]; exact (whyN_zero.1 hy).2.symm
    have Ht := Lib.hid ht
    clear ht
    have hy' : (whyN ep had e s == 0) = true := by simp [hy]
    have Hy := Lib.hid hy
    clear hy
    go_wp2
    go_ret
    exact ⟨rfl, by rw [Ht.out]; exact ⟨hb', hs⟩, hC⟩
  · have hy' : (whyN ep had e s == 0) = false := by simp [hy]
    have ht : takeN ep had e s = had := by simp [takeN, hy]
    have Ht := Lib.hid ht
    clear ht
    go_wp2
    go_ret
    exact ⟨rfl, by rw [Ht.out]; exact hr1, hc1.wide (by simp)⟩

theorem had_i (g gc : Nat) (ep had : Int) (ow : Bool) (w : World) (hr : RecI w g gc ep had ow) :
    Calls Try.prog 27 #[.pointer (some ⟨g, 0, none⟩)] w fun r w' => r = .returned (.int .i64 had) ∧ w = w' := by
  have h0 := hr.b.cell 0
  have h2 := hr.c.cell 1
  simp at h0 h2
  go_enter Try.func27, Try.ntmps27
  go_wp2
  go_ret
  exact ⟨rfl, rfl⟩
theorem epoch_i (g gc : Nat) (ep had : Int) (ow : Bool) (w : World) (hr : RecI w g gc ep had ow) :
    Calls Try.prog 28 #[.pointer (some ⟨g, 0, none⟩)] w fun r w' => r = .returned (.int .i64 ep) ∧ w = w' := by
  have h0 := hr.b.cell 0
  have h2 := hr.c.cell 0
  simp at h0 h2
  go_enter Try.func28, Try.ntmps28
  go_wp2
  go_ret
  exact ⟨rfl, rfl⟩
theorem owes_i (g gc : Nat) (ep had : Int) (ow : Bool) (w : World) (hr : RecI w g gc ep had ow) :
    Calls Try.prog 29 #[.pointer (some ⟨g, 0, none⟩)] w fun r w' => r = .returned (.bool ow) ∧ w = w' := by
  have h0 := hr.b.cell 0
  have h2 := hr.b.cell 1
  simp at h0 h2
  go_enter Try.func29, Try.ntmps29
  go_wp2
  go_ret
  exact ⟨rfl, rfl⟩

theorem new_i_no (ep : Int) (w : World) (h : ep < 1 ∨ 1099511627776 < ep) :
    Calls Try.prog 18 #[.int .i64 ep] w fun r w' => r = .returned (.tuple #[.pointer none, .int .i64 1]) ∧ w = w' := by
  rcases h with h | h
  · go_enter Try.func18, Try.ntmps18
    go_wp2
    go_ret2
    exact ⟨rfl, rfl⟩
  · have h1 : ¬ ep < 1 := by omega
    go_enter Try.func18, Try.ntmps18
    go_wp2
    go_ret2
    exact ⟨rfl, rfl⟩
theorem new_i_yes (ep : Int) (w : World) (h1 : 1 ≤ ep) (h2 : ep ≤ 1099511627776) :
    Calls Try.prog 18 #[.int .i64 ep] w fun r w' => r = .returned (.tuple #[.pointer (some ⟨w.heap.size + 1, 0, none⟩), .int .i64 0]) ∧ RecI w' (w.heap.size + 1) w.heap.size ep 0 false ∧ Ch [] w w' := by
  have h3 : ¬ ep < 1 := by omega
  go_enter Try.func18, Try.ntmps18
  go_wp2
  go_ret2
  refine ⟨rfl, ⟨Blk.new' _ _ _ _ (by simp), (Blk.new _ _ _).alloc _⟩, ((Ch.refl _ _).alloc _).alloc _⟩
theorem new_i_ex {ep : Int} {w : World} (h1 : 1 ≤ ep) (h2 : ep ≤ 1099511627776) :
    Calls Try.prog 18 #[.int .i64 ep] w fun r w' => ∃ g gc, r = .returned (.tuple #[.pointer (some ⟨g, 0, none⟩), .int .i64 0]) ∧ RecI w' g gc ep 0 false ∧ Ch [] w w' ∧ w.heap.size ≤ g ∧ w.heap.size ≤ gc :=
  (new_i_yes ep w h1 h2).mono fun _ _ ⟨a, b, c⟩ => ⟨_, _, a, b, c, by omega, by omega⟩

theorem new_r_no (ep : Int) (w : World) (h : ep < 1 ∨ 1099511627776 < ep) :
    Calls Try.prog 19 #[.int .i64 ep] w fun r w' => r = .returned (.tuple #[.pointer none, .int .i64 1]) ∧ w = w' := by
  rcases h with h | h
  · go_enter Try.func19, Try.ntmps19
    go_wp2
    go_ret2
    exact ⟨rfl, rfl⟩
  · have h1 : ¬ ep < 1 := by omega
    go_enter Try.func19, Try.ntmps19
    go_wp2
    go_ret2
    exact ⟨rfl, rfl⟩
theorem new_r_yes (ep : Int) (w : World) (h1 : 1 ≤ ep) (h2 : ep ≤ 1099511627776) :
    Calls Try.prog 19 #[.int .i64 ep] w fun r w' => r = .returned (.tuple #[.pointer (some ⟨w.heap.size, 0, none⟩), .int .i64 0]) ∧ RecR w' w.heap.size ep 0 false ∧ Ch [] w w' := by
  have h3 : ¬ ep < 1 := by omega
  go_enter Try.func19, Try.ntmps19
  go_wp2
  go_ret2
  refine ⟨rfl, ⟨Blk.new _ _ _⟩, (Ch.refl _ _).alloc _⟩
theorem new_r_ex {ep : Int} {w : World} (h1 : 1 ≤ ep) (h2 : ep ≤ 1099511627776) :
    Calls Try.prog 19 #[.int .i64 ep] w fun r w' => ∃ g, r = .returned (.tuple #[.pointer (some ⟨g, 0, none⟩), .int .i64 0]) ∧ RecR w' g ep 0 false ∧ Ch [] w w' ∧ w.heap.size ≤ g :=
  (new_r_yes ep w h1 h2).mono fun _ _ ⟨a, b, c⟩ => ⟨_, a, b, c, by omega⟩

theorem fits_r (g : Nat) (ep had e s : Int) (ow : Bool) (w : World) (hr : RecR w g ep had ow) (hb : 0 ≤ had) (hb2 : had ≤ 1000000) :
    Calls Try.prog 23 #[.pointer (some ⟨g, 0, none⟩), .int .i64 e, .int .i64 s] w fun r w' => r = .returned (.int .i64 (whyN ep had e s)) ∧ RecR w' g ep had (ow || e == ep) ∧ Ch [g] w w' := by
  have h0 := hr.b.cell 0
  have h1 := hr.b.cell 1
  have h2 := hr.b.cell 2
  have f2 := hr.b.frozen 2
  simp at h0 h1 h2
  by_cases he : e = ep
  · subst he
    have hset := hr.b.set_ 2 (.bool true)
    have hC : Ch [g] w (w.setCell ⟨g, 2, none⟩ (.bool true)) := (Ch.refl _ _).setCell (.inl (by simp)) _
    have hg1 := hset.cell 1
    simp at hset hg1
    by_cases h3 : s ≤ had
    · have hw : whyN e had e s = 11 := by simp [whyN]; omega
      have Hw := Lib.hid hw
      clear hw
      go_enter Try.func23, Try.ntmps23
      go_wp2
      go_ret
      exact ⟨ret_int Hw.out.symm, ⟨by simpa using hset⟩, hC⟩
    · by_cases h4 : had + 1 < s
      · have hw : whyN e had e s = 8 := by simp [whyN]; omega
        have Hw := Lib.hid hw
        clear hw
        go_enter Try.func23, Try.ntmps23
        go_wp2
        go_ret
        exact ⟨ret_int Hw.out.symm, ⟨by simpa using hset⟩, hC⟩
      · have hw : whyN e had e s = 0 := by simp [whyN]; omega
        have Hw := Lib.hid hw
        clear hw
        go_enter Try.func23, Try.ntmps23
        go_wp2
        go_ret
        exact ⟨ret_int Hw.out.symm, ⟨by simpa using hset⟩, hC⟩
  · have hw : whyN ep had e s = 10 := by simp [whyN, he]
    have Hw := Lib.hid hw
    clear hw
    have hq : (e == ep) = false := by simp [he]
    have hq2 : (e != ep) = true := by simp [he]
    go_enter Try.func23, Try.ntmps23
    go_wp2
    go_ret
    exact ⟨ret_int Hw.out.symm, by rw [hq, Bool.or_false]; exact hr, Ch.refl _ _⟩

theorem take_r (g : Nat) (ep had e s : Int) (ow : Bool) (w : World) (hr : RecR w g ep had ow) (hb : 0 ≤ had) (hb2 : had ≤ 1000000) :
    Calls Try.prog 21 #[.pointer (some ⟨g, 0, none⟩), .int .i64 e, .int .i64 s] w fun r w' => r = .returned (.int .i64 (whyN ep had e s)) ∧ RecR w' g ep (takeN ep had e s) (ow || e == ep) ∧ Ch [g] w w' := by
  go_enter Try.func21, Try.ntmps21
  go_wp2_with fail
  refine (fits_r g ep had e s ow _ hr hb hb2).mono ?_
  rintro r w1 ⟨rfl, hr1, hc1⟩
  have h1 := hr1.b.cell 1
  have f1 := hr1.b.frozen 1
  simp at h1
  by_cases hy : whyN ep had e s = 0
  · have hs := hr1.b.set_ 1 (.int .i64 (had + 1))
    have hC : Ch [g] w (w1.setCell ⟨g, 1, none⟩ (.int .i64 (had + 1))) := hc1.setCell (.inl (by simp)) _
    simp at hs
    have ht : takeN ep had e s = had + 1 := by simp [takeN, hy]
    have Ht := Lib.hid ht
    clear ht
    have hy' : (whyN ep had e s == 0) = true := by simp [hy]
    have Hy := Lib.hid hy
    clear hy
    go_wp2
    go_ret
    exact ⟨rfl, by rw [Ht.out]; exact ⟨hs⟩, hC⟩
  · have hy' : (whyN ep had e s == 0) = false := by simp [hy]
    have ht : takeN ep had e s = had := by simp [takeN, hy]
    have Ht := Lib.hid ht
    clear ht
    go_wp2
    go_ret
    exact ⟨rfl, by rw [Ht.out]; exact hr1, hc1⟩


/-- The two, at numbers whose answers are known. -/
theorem fits_is {g gc : Nat} {ep had e s c : Int} {ow ow' : Bool} {w : World} (hr : RecI w g gc ep had ow) (hb : 0 ≤ had) (hb2 : had ≤ 1000000) (hc : whyN ep had e s = c) (ho : (ow || e == ep) = ow') :
    Calls Try.prog 22 #[.pointer (some ⟨g, 0, none⟩), .int .i64 e, .int .i64 s] w fun r w' => r = .returned (.int .i64 c) ∧ RecI w' g gc ep had ow' ∧ Ch [g] w w' := by
  subst hc ho; exact fits_i g gc ep had e s ow w hr hb hb2
theorem take_is {g gc : Nat} {ep had had' e s c : Int} {ow ow' : Bool} {w : World} (hr : RecI w g gc ep had ow) (hb : 0 ≤ had) (hb2 : had ≤ 1000000) (hc : whyN ep had e s = c) (ht : takeN ep had e s = had') (ho : (ow || e == ep) = ow') :
    Calls Try.prog 20 #[.pointer (some ⟨g, 0, none⟩), .int .i64 e, .int .i64 s] w fun r w' => r = .returned (.int .i64 c) ∧ RecI w' g gc ep had' ow' ∧ Ch [g, gc] w w' := by
  subst hc ht ho; exact take_i g gc ep had e s ow w hr hb hb2
end Go.Proofs.Ytejmcfgmopijkaa
