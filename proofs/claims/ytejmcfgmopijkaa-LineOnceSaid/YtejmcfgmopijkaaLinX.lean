/- The line in memory beside a row of the law's own: what a call may turn, but not that row. -/
import Derived.Test.YtejmcfgmopijkaaPln
namespace Go.Proofs.Ytejmcfgmopijkaa
open Go.RowKit
set_option linter.unusedVariables false
set_option linter.unusedSimpArgs false

/-- Nothing has turned but what is new, and blocks from B on of the types Ts; block X has not. -/
structure ChP (B : Nat) (Ts : List TypeId) (X : Option Nat) (w w' : World) : Prop where
  os : w'.os = w.os
  tape : w'.tape = w.tape
  output : w'.output = w.output
  size : w.heap.size ≤ w'.heap.size
  block : ∀ k, k < w.heap.size → (k < B ∨ X = some k ∨ ∀ cs t m, w.heap[k]? = some (.cells cs t m) → t ∉ Ts) → w'.heap[k]? = w.heap[k]?

/-- The types of the line's blocks. -/
def lts : List TypeId := [9, 38, 76, 100, 102, 111, 114, 124]
/-- Block X is a row of strings. -/
def RowX (w : World) (X : Option Nat) : Prop := ∀ k, X = some k → ∃ cs, Blk w k 9 cs

section
variable {w w' a : World} {B g : Nat} {Ts Us : List TypeId} {X : Option Nat} {t : TypeId} {cs : Array Value}
theorem ChP.refl (B : Nat) (Ts : List TypeId) (X : Option Nat) (w : World) : ChP B Ts X w w := ⟨rfl, rfl, rfl, Nat.le_refl _, fun _ _ _ => rfl⟩
theorem ChP.trans (h : ChP B Ts X a w) (k : ChP B Ts X w w') (hX : RowX a X) : ChP B Ts X a w' :=
  ⟨k.os.trans h.os, k.tape.trans h.tape, k.output.trans h.output, Nat.le_trans h.size k.size, fun i hi hn => by
    have e := h.block i hi hn
    exact (k.block i (Nat.lt_of_lt_of_le hi h.size) (hn.imp id (Or.imp id fun f cs t m hc => f cs t m (e ▸ hc)))).trans e⟩
theorem ChP.toB (h : ChP B Ts X w w') : ChB B Ts w w' := ⟨h.os, h.tape, h.output, h.size, fun k hk hn => h.block k hk (hn.imp id .inr)⟩
theorem ChP.of_B (h : ChB B Us w w') (hs : Us ⊆ Ts) (h9 : 9 ∉ Us) (hX : RowX w X) : ChP B Ts X w w' :=
  ⟨h.os, h.tape, h.output, h.size, fun k hk hn => h.block k hk (by
    rcases hn with hn | hn | hn
    · exact .inl hn
    · refine .inr fun cs t m hc hm => ?_
      obtain ⟨cs', hb⟩ := hX k hn
      unfold Blk at hb
      rw [hb] at hc
      injection hc with hc
      injection hc with _ ht
      subst ht
      exact h9 hm
    · exact .inr fun cs t m hc hm => hn cs t m hc (hs hm))⟩
theorem ChP.of_0 (h : Ch [] w w') : ChP B Ts X w w' := ⟨h.os, h.tape, h.output, h.size, fun k hk _ => h.block k hk (by simp)⟩
theorem Blk.chP (h : Blk w g t cs) (c : ChP B Ts X w w') (hg : g < B ∨ X = some g ∨ t ∉ Ts) : Blk w' g t cs :=
  (c.block g h.lt (hg.imp id (Or.imp id fun hn cs' t' m hc => by
    unfold Blk at h
    rw [h] at hc
    injection hc with hc
    injection hc with _ ht
    subst ht
    exact hn))).trans h
theorem RowX.ch (h : RowX w X) (c : ChP B Ts X w w') : RowX w' X := fun k hk => by
  obtain ⟨cs, hb⟩ := h k hk
  exact ⟨cs, hb.chP c (.inr (.inl hk))⟩
theorem RowX.chB (h : RowX w X) (c : ChB B Us w w') (h9 : 9 ∉ Us) : RowX w' X := fun k hk => by
  obtain ⟨cs, hb⟩ := h k hk
  exact ⟨cs, hb.chB c h9⟩
theorem RowX.none_ (w : World) : RowX w none := fun k hk => by cases hk
theorem own_rowX {base size n : Nat} {v : Value} {xs : List Value} (h : w.ownsRow base 9 size v n xs) : RowX w v.ownBlock := fun k hk => by
  rcases own_form h with ⟨rfl, _⟩ | ⟨gv, cap, cur, rfl, _, hb, _⟩
  · simp [Value.ownBlock] at hk
  · simp [Value.ownBlock] at hk; subst hk; exact ⟨cur, hb⟩
theorem own_chP {base size n e : Nat} {v : Value} {xs : List Value} (h : w.ownsRow base e size v n xs) (c : ChP B Ts v.ownBlock w w') : w'.ownsRow base e size v n xs := by
  refine ⟨h.1, ?_⟩
  rcases h.2 with hn | ⟨g, cap, cur, hv, hb', hb, rest⟩
  · exact .inl hn
  · refine .inr ⟨g, cap, cur, hv, hb', ?_, rest⟩
    have hb2 : Blk w g e cur := hb
    exact hb2.chP c (.inr (.inl (by rw [hv]; rfl)))
end

/-- A line in memory, apart from block X, a row of strings. -/
def LI (w : World) (B l : Nat) (X : Option Nat) (σ : LSt) : Prop := ∃ g r gc v1 v2 v3, LineV w B l g r gc σ.win σ.wt σ.cr σ.T σ.gone σ.last σ.had σ.ow σ.On σ.Bk σ.now σ.Out σ.room σ.store v1 v2 v3 ∧ RowX w X ∧ ∀ k, X = some k → v3.ownBlock ≠ some k
def LG (σ : LSt) : Prop := LineB σ.win σ.wt σ.cr σ.T σ.gone σ.last σ.had σ.On σ.Bk σ.now σ.Out σ.room σ.store

section
variable {w w' : World} {B l : Nat} {X : Option Nat} {σ τ : LSt} {q : Int}
theorem LI.rowX (h : LI w B l X σ) : RowX w X := by obtain ⟨_, _, _, _, _, _, _, h, _⟩ := h; exact h
theorem LI.ch0 (h : LI w B l X σ) (c : Ch [] w w') : LI w' B l X σ := by
  obtain ⟨g, r, gc, v1, v2, v3, h, hX, hd⟩ := h
  exact ⟨g, r, gc, v1, v2, v3, h.chB (c.toB0 (B := B)), hX.chB (c.toB0 (B := B) (Ts := [])) (by simp), hd⟩
theorem LI.chB (h : LI w B l X σ) (c : ChB B [] w w') : LI w' B l X σ := by
  obtain ⟨g, r, gc, v1, v2, v3, h, hX, hd⟩ := h
  exact ⟨g, r, gc, v1, v2, v3, h.chB c, hX.chB c (by simp), hd⟩
theorem LI.weak (h : LI w B l X σ) : LI w B l none σ := by
  obtain ⟨g, r, gc, v1, v2, v3, h, hX, hd⟩ := h
  exact ⟨g, r, gc, v1, v2, v3, h, RowX.none_ _, fun k hk => by cases hk⟩
/-- The law's own row has turned, or lies anew. -/
theorem LI.row (h : LI w B l X σ) {X' : Option Nat} (c : w.grownBy w' X) (hX' : RowX w' X') (hd : ∀ k, X' = some k → X = some k ∨ w.heap.size ≤ k) : LI w' B l X' σ := by
  obtain ⟨g, r, gc, v1, v2, v3, h, hX, hd0⟩ := h
  have c2 : Ch X.toList w w' := (Ch.refl _ _).grown c (fun k hk => .inl (by rw [hk]; simp))
  have cX : ∀ k t cs, t ≠ 9 → Blk w k t cs → k ∉ X.toList := fun k t cs ht hb hm => by
    have hk : X = some k := by simpa using hm
    obtain ⟨cs', h9⟩ := hX k hk
    exact hb.ne_ h9 ht rfl
  have cb : ∀ k t cs, t ≠ 9 → Blk w k t cs → Blk w' k t cs := fun k t cs ht hb => hb.ch c2 (cX k t cs ht hb)
  refine ⟨g, r, gc, v1, v2, v3, ⟨h.hl, h.hr, h.hg, cb _ _ _ (by decide) h.b, ?_, ⟨cb _ _ _ (by decide) h.rc.b, cb _ _ _ (by decide) h.rc.c⟩, h.on.ch c2 (fun k hk => ?_), h.bk.ch c2 (fun k hk => ?_), own_ch h.out c2 (fun k hk hm => ?_)⟩, hX', fun k hk => ?_⟩
  · obtain ⟨v, hs⟩ := h.s
    refine ⟨v, hs.hB, cb _ _ _ (by decide) hs.b, own_ch hs.r c2 (fun k hk => ?_)⟩
    rcases own_form hs.r with ⟨rfl, _⟩ | ⟨gv, cap, cur, rfl, _, hb, _⟩
    · simp [Value.ownBlock] at hk
    · simp [Value.ownBlock] at hk; subst hk
      exact cX _ _ _ (by decide) hb
  · obtain ⟨_, cur, hb⟩ := h.on.blocks k hk
    exact cX _ _ _ (by decide) hb
  · obtain ⟨_, cur, hb⟩ := h.bk.blocks k hk
    exact cX _ _ _ (by decide) hb
  · have hk2 : X = some k := by simpa using hm
    exact hd0 k hk2 hk
  · rcases hd k hk with h1 | h1
    · exact hd0 k h1
    · intro hv
      rcases own_form h.out with ⟨h0, _⟩ | ⟨gv, cap, cur, h0, _, hb, _⟩
      · rw [h0] at hv; simp [Value.ownBlock] at hv
      · rw [h0] at hv; simp [Value.ownBlock] at hv; subst hv
        have := hb.lt
        omega
theorem push_p (s : ByteArray) (h : LI w B l X σ) (hb : LG σ) (hBw : B ≤ w.heap.size) (he : pushS σ s = (q, τ)) :
    Calls Try.prog 61 #[.pointer (some ⟨l, 0, none⟩), .string s] w fun e w' => e = .returned (.int .i64 q) ∧ LI w' B l X τ ∧ ChP B lts X w w' := by
  obtain ⟨g, r, gc, v1, v2, v3, h, hX, hd⟩ := h
  unfold pushS at he
  split at he
  · rename_i hr
    injection he with e1 e2
    subst e1 e2
    exact (lpush_no B l g r gc _ _ _ _ _ _ _ _ _ _ _ _ _ _ _ _ _ w s h hb hr).mono fun e w' ⟨h1, c⟩ => ⟨h1, ⟨g, r, gc, v1, v2, v3, h.chB c, hX.chB c (by simp), hd⟩, ChP.of_B c (by simp) (by simp) hX⟩
  · rename_i hr
    injection he with e1 e2
    subst e1 e2
    exact (lpush_yes B l g r gc _ _ _ _ _ _ _ _ _ _ _ _ _ _ _ _ _ w s h hb hBw hr).mono fun e w' ⟨h1, h2, c⟩ => ⟨h1, ⟨g, r, gc, v1, v2, v3, h2, hX.chB c (by simp), hd⟩, ChP.of_B c (by simp [lts]) (by simp) hX⟩
theorem drain_p (n : Int) (h : LI w B l X σ) (hb : LG σ) (hBw : B ≤ w.heap.size) (he : drainS σ n = (q, τ)) :
    Calls Try.prog 57 #[.pointer (some ⟨l, 0, none⟩), .int .i64 n] w fun e w' => e = .returned (.int .i64 q) ∧ LI w' B l X τ ∧ ChP B lts X w w' := by
  obtain ⟨g, r, gc, v1, v2, v3, h, hX, hd⟩ := h
  unfold drainS at he
  split at he
  · rename_i hr
    injection he with e1 e2
    subst e1 e2
    exact (drain_yes B l g r gc _ _ _ _ _ _ _ _ _ _ _ _ _ _ _ _ _ w n (min n σ.store) h hb hBw rfl hr).mono fun e w' ⟨h1, ⟨v2', h2⟩, c⟩ => ⟨h1, ⟨g, r, gc, v1, v2', v3, h2, hX.chB c (by simp), hd⟩, ChP.of_B c (by simp [lts]) (by simp) hX⟩
  · rename_i hr
    injection he with e1 e2
    subst e1 e2
    have s0 := hb.s0
    exact (drain_no B l g r gc _ _ _ _ _ _ _ _ _ _ _ _ _ _ _ _ _ w n h hb (by omega)).mono fun e w' ⟨h1, c⟩ => ⟨h1, LI.ch0 ⟨g, r, gc, v1, v2, v3, h, hX, hd⟩ c, ChP.of_0 c⟩
theorem back_p (i : Int) (h : LI w B l X σ) (hb : LG σ) (hBw : B ≤ w.heap.size) (he : backS σ i = (q, τ)) :
    Calls Try.prog 56 #[.pointer (some ⟨l, 0, none⟩), .int .i64 i] w fun e w' => e = .returned (.int .i64 q) ∧ LI w' B l X τ ∧ ChP B lts X w w' := by
  obtain ⟨g, r, gc, v1, v2, v3, h, hX, hd⟩ := h
  unfold backS at he
  split at he
  · rename_i hr
    injection he with e1 e2
    subst e1 e2
    exact (lback_no B l g r gc _ _ _ _ _ _ _ _ _ _ _ _ _ _ _ _ _ w i h (atL_none hr)).mono fun e w' ⟨h1, c⟩ => ⟨h1, LI.ch0 ⟨g, r, gc, v1, v2, v3, h, hX, hd⟩ c, ChP.of_0 c⟩
  · rename_i x hx
    obtain ⟨k, rfl, hk⟩ := atL_some hx
    injection he with e1 e2
    split at e2
    · rename_i h0
      subst e1 e2
      rw [h0]
      exact (lback_yes B l g r gc _ _ _ _ _ _ _ _ _ _ _ _ _ _ _ _ _ w k x h hb hBw hk h0).mono fun e w' ⟨h1, ⟨v2', h2⟩, c⟩ => ⟨h1, ⟨g, r, gc, v1, v2', v3, h2, hX.chB c (by simp), hd⟩, ChP.of_B c (by simp [lts]) (by simp) hX⟩
    · rename_i h0
      subst e2
      exact (lback_bad B l g r gc _ _ _ _ _ _ _ _ _ _ _ _ _ _ _ _ _ w k x h hb hBw hk q e1 (by rw [← e1]; exact h0)).mono fun e w' ⟨h1, ⟨v2', h2⟩, c⟩ => ⟨h1, ⟨g, r, gc, v1, v2', v3, h2, hX.chB c (by simp), hd⟩, ChP.of_B c (by simp [lts]) (by simp) hX⟩
theorem lose_p (b : Bool) (i : Int) (h : LI w B l X σ) (hb : LG σ) (hBw : B ≤ w.heap.size) (he : loseS σ b i = (q, τ)) :
    Calls Try.prog 75 #[.pointer (some ⟨l, 0, none⟩), .bool b, .int .i64 i] w fun e w' => e = .returned (.int .i64 q) ∧ LI w' B l X τ ∧ ChP B lts X w w' := by
  obtain ⟨g, r, gc, v1, v2, v3, h, hX, hd⟩ := h
  unfold loseS at he
  cases b
  · simp only [Bool.false_eq_true, if_false] at he
    split at he
    · rename_i hr
      injection he with e1 e2
      subst e1 e2
      exact (lose_on_no B l g r gc _ _ _ _ _ _ _ _ _ _ _ _ _ _ _ _ _ w i h (atL_none hr)).mono fun e w' ⟨h1, c⟩ => ⟨h1, LI.ch0 ⟨g, r, gc, v1, v2, v3, h, hX, hd⟩ c, ChP.of_0 c⟩
    · rename_i x hx
      obtain ⟨k, rfl, hk⟩ := atL_some hx
      injection he with e1 e2
      subst e1 e2
      exact (lose_on_yes B l g r gc _ _ _ _ _ _ _ _ _ _ _ _ _ _ _ _ _ w k h hb hBw (List.getElem?_eq_some_iff.1 hk).1).mono fun e w' ⟨h1, ⟨v1', h2⟩, c⟩ => ⟨h1, ⟨g, r, gc, v1', v2, v3, h2, hX.chB c (by simp), hd⟩, ChP.of_B c (by simp [lts]) (by simp) hX⟩
  · simp only [if_true] at he
    split at he
    · rename_i hr
      injection he with e1 e2
      subst e1 e2
      exact (lose_back_no B l g r gc _ _ _ _ _ _ _ _ _ _ _ _ _ _ _ _ _ w i h (atL_none hr)).mono fun e w' ⟨h1, c⟩ => ⟨h1, LI.ch0 ⟨g, r, gc, v1, v2, v3, h, hX, hd⟩ c, ChP.of_0 c⟩
    · rename_i x hx
      obtain ⟨k, rfl, hk⟩ := atL_some hx
      injection he with e1 e2
      subst e1 e2
      exact (lose_back_yes B l g r gc _ _ _ _ _ _ _ _ _ _ _ _ _ _ _ _ _ w k h hb hBw (List.getElem?_eq_some_iff.1 hk).1).mono fun e w' ⟨h1, ⟨v2', h2⟩, c⟩ => ⟨h1, ⟨g, r, gc, v1, v2', v3, h2, hX.chB c (by simp), hd⟩, ChP.of_B c (by simp [lts]) (by simp) hX⟩
theorem twice_p (b : Bool) (i : Int) (h : LI w B l X σ) (hb : LG σ) (hBw : B ≤ w.heap.size) (he : twiceS σ b i = (q, τ)) :
    Calls Try.prog 76 #[.pointer (some ⟨l, 0, none⟩), .bool b, .int .i64 i] w fun e w' => e = .returned (.int .i64 q) ∧ LI w' B l X τ ∧ ChP B lts X w w' := by
  obtain ⟨g, r, gc, v1, v2, v3, h, hX, hd⟩ := h
  unfold twiceS at he
  cases b
  · simp only [Bool.false_eq_true, if_false] at he
    split at he
    · rename_i hr
      injection he with e1 e2
      subst e1 e2
      exact (twice_on_no B l g r gc _ _ _ _ _ _ _ _ _ _ _ _ _ _ _ _ _ w i h (atL_none hr)).mono fun e w' ⟨h1, c⟩ => ⟨h1, LI.ch0 ⟨g, r, gc, v1, v2, v3, h, hX, hd⟩ c, ChP.of_0 c⟩
    · rename_i x hx
      obtain ⟨k, rfl, hk⟩ := atL_some hx
      injection he with e1 e2
      subst e1 e2
      exact (twice_on_yes B l g r gc _ _ _ _ _ _ _ _ _ _ _ _ _ _ _ _ _ w k x h hb hBw hk).mono fun e w' ⟨h1, ⟨v1', h2⟩, c⟩ => ⟨h1, ⟨g, r, gc, v1', v2, v3, h2, hX.chB c (by simp), hd⟩, ChP.of_B c (by simp [lts]) (by simp) hX⟩
  · simp only [if_true] at he
    split at he
    · rename_i hr
      injection he with e1 e2
      subst e1 e2
      exact (twice_back_no B l g r gc _ _ _ _ _ _ _ _ _ _ _ _ _ _ _ _ _ w i h (atL_none hr)).mono fun e w' ⟨h1, c⟩ => ⟨h1, LI.ch0 ⟨g, r, gc, v1, v2, v3, h, hX, hd⟩ c, ChP.of_0 c⟩
    · rename_i x hx
      obtain ⟨k, rfl, hk⟩ := atL_some hx
      injection he with e1 e2
      subst e1 e2
      exact (twice_back_yes B l g r gc _ _ _ _ _ _ _ _ _ _ _ _ _ _ _ _ _ w k x h hb hBw hk).mono fun e w' ⟨h1, ⟨v2', h2⟩, c⟩ => ⟨h1, ⟨g, r, gc, v1, v2', v3, h2, hX.chB c (by simp), hd⟩, ChP.of_B c (by simp [lts]) (by simp) hX⟩
theorem room_p {n : Int} (h : LI w B l X σ) (hb : LG σ) (hn : σ.room - σ.store = n) :
    Calls Try.prog 53 #[.pointer (some ⟨l, 0, none⟩)] w fun e w' => e = .returned (.int .i64 n) ∧ LI w' B l X σ ∧ ChP B lts X w w' := by
  have h' := h
  obtain ⟨g, r, gc, v1, v2, v3, h, hX, hd⟩ := h
  subst hn
  have s0 := hb.s0
  have s1 := hb.s1
  have r0 := hb.r0
  have r1 := hb.r1
  exact (lroom_c l _ _ _ _ _ _ _ _ w h.b (by omega) (by omega) (by omega) (by omega)).mono fun e w' ⟨h1, c⟩ => ⟨h1, h'.ch0 c, ChP.of_0 c⟩
theorem under_p {n : Nat} (h : LI w B l X σ) (hb : LG σ) (hn : σ.T.length = n) :
    Calls Try.prog 52 #[.pointer (some ⟨l, 0, none⟩)] w fun e w' => e = .returned (.int .i64 n) ∧ LI w' B l X σ ∧ ChP B lts X w w' := by
  have h' := h
  obtain ⟨g, r, gc, v1, v2, v3, h, hX, hd⟩ := h
  subst hn
  exact (lunder_c B l g r gc _ _ _ _ _ _ _ _ _ _ _ _ _ _ _ _ _ w h hb).mono fun e w' ⟨h1, c⟩ => ⟨h1, h'.ch0 c, ChP.of_0 c⟩
theorem ways_p {n m : Nat} (h : LI w B l X σ) (hn : σ.On.length = n) (hm : σ.Bk.length = m) :
    Calls Try.prog 60 #[.pointer (some ⟨l, 0, none⟩)] w fun e w' => e = .returned (.tuple #[.int .i64 n, .int .i64 m]) ∧ LI w' B l X σ ∧ ChP B lts X w w' := by
  have h' := h
  obtain ⟨g, r, gc, v1, v2, v3, h, hX, hd⟩ := h
  subst hn hm
  obtain ⟨A, c, e1, _, _⟩ := h.on.len
  obtain ⟨A2, c2, e2, _, _⟩ := h.bk.len
  have hb := h.b
  rw [e1, e2] at hb
  exact (ways_c l _ _ A A2 c c2 _ _ _ _ _ _ w hb).mono fun e w' ⟨h1, c⟩ => ⟨h1, h'.ch0 c, ChP.of_0 c⟩
theorem out_p {O : List ByteArray} {n : Nat} (h : LI w B l X σ) (hb : LG σ) (hO : σ.Out = O) (hn : O.length = n) :
    Calls Try.prog 50 #[.pointer (some ⟨l, 0, none⟩)] w fun e w' => ∃ A cap, e = .returned (.slice A n cap) ∧ n ≤ cap ∧ RdS w' A O ∧ LI w' B l X σ ∧ ChP B lts X w w' := by
  have h' := h
  obtain ⟨g, r, gc, v1, v2, v3, h, hX, hd⟩ := h
  subst hO hn
  exact (lout_c B l g r gc _ _ _ _ _ _ _ _ _ _ _ _ _ _ _ _ _ w h hb).mono fun e w' ⟨v', h1, ho, c⟩ => by
    obtain ⟨A, cap, rfl, hr⟩ := own_rdS ho
    obtain ⟨A2, cap2, e2, hc⟩ := own_len ho
    injection e2 with _ _ e3
    subst e3
    exact ⟨A, cap, h1, hc, hr, h'.ch0 c, ChP.of_0 c⟩
theorem new_p {win wt room : Int} (hB : B ≤ w.heap.size) (h2 : 1 ≤ win ∧ win ≤ 16) (h3 : 1 ≤ wt ∧ wt ≤ 1000) (hr : 1 ≤ room ∧ room ≤ 64) :
    Calls Try.prog 48 #[.int .i64 win, .int .i64 wt, .int .i64 room] w fun e w' => ∃ l, e = .returned (.tuple #[.pointer (some ⟨l, 0, none⟩), .int .i64 0]) ∧ LI w' B l none ⟨win, wt, win, [], 0, 0, 0, false, [], [], 0, [], room, 0⟩ ∧ Ch [] w w' :=
  (lnew_yes B win wt room w hB h2 h3 hr).mono fun e w' ⟨l, g, r, gc, h1, h2, c⟩ => ⟨l, h1, ⟨g, r, gc, _, _, _, h2, RowX.none_ _, fun k hk => by cases hk⟩, c⟩
end
end Go.Proofs.Ytejmcfgmopijkaa
