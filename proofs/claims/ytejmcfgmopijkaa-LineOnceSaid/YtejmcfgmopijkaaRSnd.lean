/- The contracts of the reference's sender: of one that lies in memory as a block and two rows. -/
import Derived.Test.YtejmcfgmopijkaaDue
namespace Go.Proofs.Ytejmcfgmopijkaa
open Go.RowKit
set_option linter.unusedVariables false
set_option linter.unusedSimpArgs false

def strs (X : List Txt) : List Value := X.map fun x => .string x.1
def bools (X : List Txt) : List Value := X.map fun x => .bool x.2

/-- The reference's sender: all its texts, of which had ones have come. -/
structure SndRV (w : World) (B h : Nat) (ep win wait cr : Int) (X : List Txt) (had : Nat) (last : Int) (vl vs : Value) : Prop where
  hB : B ≤ h
  b : Blk w h 71 #[.int .i64 ep, .int .i64 win, .int .i64 wait, .int .i64 cr, vl, vs, .int .i64 had, .int .i64 last]
  l : w.ownsRow B 9 1 vl X.length (strs X)
  s : w.ownsRow B 4 1 vs X.length (bools X)
def SndR (w : World) (B h : Nat) (ep win wait cr : Int) (X : List Txt) (had : Nat) (last : Int) : Prop := ∃ vl vs, SndRV w B h ep win wait cr X had last vl vs

section
variable {w w' : World} {B h : Nat} {ep win wait cr last : Int} {X : List Txt} {had : Nat} {Ts : List TypeId} {vl vs : Value}
theorem SndRV.chB (r : SndRV w B h ep win wait cr X had last vl vs) {B' : Nat} (c : ChB B' Ts w w') (h1 : 71 ∉ Ts) (h2 : 9 ∉ Ts) (h3 : 4 ∉ Ts) : SndRV w' B h ep win wait cr X had last vl vs := ⟨r.hB, r.b.chB c h1, own_chB r.l c h2, own_chB r.s c h3⟩
theorem SndR.chB (r : SndR w B h ep win wait cr X had last) {B' : Nat} (c : ChB B' Ts w w') (h1 : 71 ∉ Ts) (h2 : 9 ∉ Ts) (h3 : 4 ∉ Ts) : SndR w' B h ep win wait cr X had last := by
  obtain ⟨vl, vs, r⟩ := r; exact ⟨vl, vs, r.chB c h1 h2 h3⟩
end

/-- Ahead of an operation the world is given a name, and what is known of it. -/
theorem wpList_gen {P : Program} {ops : Array Oper} {rest : List Oper} {o : Oper} {a : Act} {w : World} {Q : Exit → Act → World → Prop} (X : Op) (_ho : o.op = X) (F : World → Prop) (hF : F w) (h : ∀ w', F w' → wpList P ops Q (o :: rest) a w') : wpList P ops Q (o :: rest) a w := h w hF
theorem own_grown {w w' : World} {base e size n : Nat} {v : Value} {xs : List Value} {row : Option Nat} (h : w.ownsRow base e size v n xs) (hg : w.grownBy w' row) (hne : ∀ q, v.ownBlock = some q → row ≠ some q) : w'.ownsRow base e size v n xs :=
  h.kept hg (by
    cases hv : v.ownBlock with
    | none => exact .inl rfl
    | some q => exact .inr (fun e => hne q hv e.symm))
theorem own_other {w : World} {b1 b2 e1 e2 s1 s2 n1 n2 : Nat} {v1 v2 : Value} {xs ys : List Value} (h : w.ownsRow b1 e1 s1 v1 n1 xs) (k : w.ownsRow b2 e2 s2 v2 n2 ys) (hne : e1 ≠ e2) : ∀ q, v1.ownBlock = some q → v2.ownBlock ≠ some q := fun q h1 h2 => own_two h k hne q h1 h2

theorem roomR_c (B h : Nat) (ep win wait cr last : Int) (X : List Txt) (had : Nat) (vl vs : Value) (w : World) (r : SndRV w B h ep win wait cr X had last vl vs) (hw1 : 1 ≤ win) (hw2 : win ≤ 16) (hc1 : 0 ≤ cr) (hc2 : cr ≤ 64) (hh : had ≤ X.length) (hX : X.length ≤ 1000000) :
    Calls Try.prog 42 #[.pointer (some ⟨h, 0, none⟩)] w fun r w' => r = .returned (.int .i64 (roomN win cr (X.length - had))) ∧ ChB B [] w w' := by
  have h1 := r.b.cell 1
  have h3 := r.b.cell 3
  have h4 := r.b.cell 4
  have h6 := r.b.cell 6
  simp at h1 h3 h4 h6
  obtain ⟨A, cap, rfl, _⟩ := own_len r.l
  obtain ⟨n, hn⟩ : ∃ n, X.length = had + n := ⟨X.length - had, by omega⟩
  rw [hn] at h4 hX ⊢
  rw [Nat.add_sub_cancel_left]
  clear r hn hh
  by_cases hc : cr < win
  · by_cases hd : cr - (n : Int) < 0
    · have hp : roomN win cr n = 0 := by simp [roomN, hc]; omega
      rw [hp]
      clear hp
      go_enter Try.func42, Try.ntmps42
      go_wp2_with fail
      go_quiet (fail)
      go_wp2_with fail
      go_ret
      exact ⟨ret_int' (by omega), ChB.of_drewN _ _ _ _⟩
    · have hp : roomN win cr n = cr - n := by simp [roomN, hc]; omega
      rw [hp]
      clear hp
      go_enter Try.func42, Try.ntmps42
      go_wp2_with fail
      go_quiet (fail)
      go_wp2_with fail
      go_ret
      exact ⟨ret_int' (by omega), ChB.of_drewN _ _ _ _⟩
  · by_cases hd : win - (n : Int) < 0
    · have hp : roomN win cr n = 0 := by simp [roomN, hc]; omega
      rw [hp]
      clear hp
      go_enter Try.func42, Try.ntmps42
      go_wp2_with fail
      go_quiet (fail)
      go_wp2_with fail
      go_ret
      exact ⟨ret_int' (by omega), ChB.of_drewN _ _ _ _⟩
    · have hp : roomN win cr n = win - n := by simp [roomN, hc]; omega
      rw [hp]
      clear hp
      go_enter Try.func42, Try.ntmps42
      go_wp2_with fail
      go_quiet (fail)
      go_wp2_with fail
      go_ret
      exact ⟨ret_int' (by omega), ChB.of_drewN _ _ _ _⟩

theorem info9 : (Try.prog.info? 9).map (fun i => (i.zero, i.size, i.bytes)) = some (some (.string ⟨#[]⟩), 1, 16) := by kernel_rfl
theorem info4 : (Try.prog.info? 4).map (fun i => (i.zero, i.size, i.bytes)) = some (some (.bool false), 1, 1) := by kernel_rfl

theorem rpush_no (B h : Nat) (ep win wait cr last : Int) (X : List Txt) (had : Nat) (vl vs : Value) (s : ByteArray) (w : World) (r : SndRV w B h ep win wait cr X had last vl vs) (hw1 : 1 ≤ win) (hw2 : win ≤ 16) (hc1 : 0 ≤ cr) (hc2 : cr ≤ 64) (hh : had ≤ X.length) (hX : X.length ≤ 1000000) (hr : roomN win cr (X.length - had) = 0) :
    Calls Try.prog 35 #[.pointer (some ⟨h, 0, none⟩), .string s] w fun r w' => r = .returned (.tuple #[.int .i64 0, .int .i64 7]) ∧ ChB B [] w w' := by
  have c1 := roomR_c B h ep win wait cr last X had vl vs w r hw1 hw2 hc1 hc2 hh hX
  rw [hr] at c1
  have C1 := Lib.hid c1
  clear c1 hr
  go_enter Try.func35, Try.ntmps35
  go_wp2_with fail
  refine C1.out.mono ?_
  rintro r w1 ⟨rfl, c⟩
  go_wp2_with fail
  go_ret2
  exact ⟨rfl, c⟩

set_option maxHeartbeats 2000000 in
set_option maxRecDepth 100000 in
theorem rpush_yes (B h : Nat) (ep win wait cr last : Int) (X : List Txt) (had : Nat) (vl vs : Value) (s : ByteArray) (w : World) (r : SndRV w B h ep win wait cr X had last vl vs) (hBw : B ≤ w.heap.size) (hw1 : 1 ≤ win) (hw2 : win ≤ 16) (hc1 : 0 ≤ cr) (hc2 : cr ≤ 64) (hh : had ≤ X.length) (hX : X.length ≤ 1000000) (hr : 1 ≤ roomN win cr (X.length - had)) :
    Calls Try.prog 35 #[.pointer (some ⟨h, 0, none⟩), .string s] w fun r w' => r = .returned (.tuple #[.int .i64 (X.length + 1), .int .i64 0]) ∧ SndR w' B h ep win wait cr (X ++ [(s, false)]) had last ∧ ChB B [71, 9, 4] w w' := by
  obtain ⟨i9, hi9, hz9, ha9, hb9⟩ := info_parts info9
  obtain ⟨i4, hi4, hz4, ha4, hb4⟩ := info_parts info4
  have c1 := roomR_c B h ep win wait cr last X had vl vs w r hw1 hw2 hc1 hc2 hh hX
  generalize roomN win cr (X.length - had) = rm at hr c1
  have C1 := Lib.hid c1
  clear c1
  go_enter Try.func35, Try.ntmps35
  go_wp2_with fail
  refine C1.out.mono ?_
  rintro r' w1 ⟨rfl, c⟩
  have r1 := r.chB c (by simp) (by simp) (by simp)
  have z1 : B ≤ w1.heap.size := Nat.le_trans hBw c.size
  have CC : ChB B [71, 9, 4] w w1 := c.wide (by simp)
  have k4 := r1.b.cell 4
  simp at k4
  have hhB := r1.hB
  clear r c C1
  obtain ⟨Al, capl, hvl, _⟩ := own_len r1.l
  subst hvl
  obtain ⟨As, caps, hvs, _⟩ := own_len r1.s
  subst hvs
  go_wp2_with (at_builtin; refine wpList_append_any _ rfl (.tmp 13) (.tmp 15) 68 rfl B 9 i9 _ 1 16 Try.underlying68 hi9 hz9 ha9 hb9 rfl (by decide) _ _ _ rfl (r1.l.alloc _) _ _ 1 1 _ rfl (Reads.of_blk (Blk.new w1 9 #[.string s]) rfl) (by simp [Value.oneCell']) (by unfold maxLen; omega) (by omega) (by simp; omega) ?_)
  intro v2 w2 own2 grow2 _
  have la := r1.l.alloc (.cells #[.string s] 9)
  have ba := r1.b.alloc (.cells #[.string s] 9)
  have sa := r1.s.alloc (.cells #[.string s] 9)
  have b2 := ba.grown grow2 (own_ne la ba (by decide))
  have s2 := own_grown sa grow2 (own_other sa la (by decide))
  have C2 := (CC.alloc (.cells #[.string s] 9)).grown grow2 la (Nat.le_refl _) (by simp)
  obtain ⟨gl, cap2, rfl, _, _, _, _, _, _⟩ := own_at own2 (by omega)
  have k42 := b2.cell 4
  have m42 := b2.frozen 4
  have k52 := b2.cell 5
  simp at k42 k52
  have b3 := b2.set_ 4 (.slice (some ⟨gl, 0, none⟩) (X.length + 1) cap2)
  have hne := own_ne own2 b2 (by decide)
  have hne2 := own_ne s2 b2 (by decide)
  have own3 := own_ch own2 ((Ch.refl [h] w2).setCell (p := ⟨h, 4, none⟩) (.inl (by simp)) (.slice (some ⟨gl, 0, none⟩) (X.length + 1) cap2)) (fun q hq hm => hne (by rw [List.mem_singleton.1 hm] at hq; exact hq.symm))
  have s3 := own_ch s2 ((Ch.refl [h] w2).setCell (p := ⟨h, 4, none⟩) (.inl (by simp)) (.slice (some ⟨gl, 0, none⟩) (X.length + 1) cap2)) (fun q hq hm => hne2 (by rw [List.mem_singleton.1 hm] at hq; exact hq.symm))
  have C3 := C2.setCell (p := ⟨h, 4, none⟩) hhB b2 (by simp) (.slice (some ⟨gl, 0, none⟩) (X.length + 1) cap2)
  have z3 : B ≤ (w2.setCell ⟨h, 4, none⟩ (.slice (some ⟨gl, 0, none⟩) (X.length + 1) cap2)).heap.size := Nat.le_trans hBw C3.size
  clear k4 grow2 own2 s2 C2 hne hne2 r1 CC la ba sa hi9 hz9 ha9 hb9
  clear b2
  have tok1 : True := trivial
  go_wp2_with (have _t := tok1; refine wpList_gen (.buildSlice 69 1 #[(0, .const (.bool false))]) rfl (fun W => Blk W h 71 _ ∧ W.ownsRow B 9 1 _ (X.length + 1) (strs X ++ [.string s]) ∧ W.ownsRow B 4 1 (.slice As X.length caps) X.length (bools X) ∧ ChB B [71, 9, 4] w W ∧ B ≤ W.heap.size) ⟨b3, own3, s3, C3, z3⟩ ?_; clear tok1)
  rintro w3 ⟨b4, own4, s4, C4, z4⟩
  clear b3 own3 s3 C3 z3 k42 m42 k52
  go_wp2_with (at_builtin; refine wpList_append_any _ rfl (.tmp 23) (.tmp 24) 69 rfl B 4 i4 _ 1 1 Try.underlying69 hi4 hz4 ha4 hb4 rfl (by decide) _ _ _ rfl (s4.alloc _) _ _ 1 1 _ rfl (Reads.of_blk (Blk.new w3 4 #[.bool false]) rfl) (by simp [Value.oneCell']) (by unfold maxLen; omega) (by omega) (by simp; omega) ?_)
  intro v5 w5 own5 grow5 _
  have la := own4.alloc (.cells #[.bool false] 4)
  have ba := b4.alloc (.cells #[.bool false] 4)
  have sa := s4.alloc (.cells #[.bool false] 4)
  have b5 := ba.grown grow5 (own_ne sa ba (by decide))
  have l5 := own_grown la grow5 (own_other la sa (by decide))
  have C5 := (C4.alloc (.cells #[.bool false] 4)).grown grow5 sa (Nat.le_refl _) (by simp)
  obtain ⟨gs, cap5, rfl, _, _, _, _, _, _⟩ := own_at own5 (by omega)
  have k5 := b5.cell 5
  have k54 := b5.cell 4
  have m5 := b5.frozen 5
  simp at k5 k54
  have b6 := b5.set_ 5 (.slice (some ⟨gs, 0, none⟩) (X.length + 1) cap5)
  have hne := own_ne own5 b5 (by decide)
  have hne2 := own_ne l5 b5 (by decide)
  have s6 := own_ch own5 ((Ch.refl [h] w5).setCell (p := ⟨h, 5, none⟩) (.inl (by simp)) (.slice (some ⟨gs, 0, none⟩) (X.length + 1) cap5)) (fun q hq hm => hne (by rw [List.mem_singleton.1 hm] at hq; exact hq.symm))
  have l6 := own_ch l5 ((Ch.refl [h] w5).setCell (p := ⟨h, 5, none⟩) (.inl (by simp)) (.slice (some ⟨gs, 0, none⟩) (X.length + 1) cap5)) (fun q hq hm => hne2 (by rw [List.mem_singleton.1 hm] at hq; exact hq.symm))
  have C6 := C5.setCell (p := ⟨h, 5, none⟩) hhB b5 (by simp) (.slice (some ⟨gs, 0, none⟩) (X.length + 1) cap5)
  have R6 : SndRV (w5.setCell ⟨h, 5, none⟩ (.slice (some ⟨gs, 0, none⟩) (X.length + 1) cap5)) B h ep win wait cr (X ++ [(s, false)]) had last (.slice (some ⟨gl, 0, none⟩) (X.length + 1) cap2) (.slice (some ⟨gs, 0, none⟩) (X.length + 1) cap5) :=
    ⟨hhB, by simpa using b6, by simpa [strs] using l6, by simpa [bools] using s6⟩
  clear b6 s6 l6 own5 grow5 l5 C5 hne hne2 b5 la ba sa own4 s4 b4 C4 hi4 hz4 ha4 hb4
  go_wp2_with fail
  go_ret2
  exact ⟨by simp, ⟨_, _, R6⟩, C6⟩
end Go.Proofs.Ytejmcfgmopijkaa
