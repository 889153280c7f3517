/- The reference's sender: Take and Under. -/
import Derived.Test.YtejmcfgmopijkaaRSnd
import Derived.Test.YtejmcfgmopijkaaSnd3
import Derived.IntWalk
namespace Go.Proofs.Ytejmcfgmopijkaa
open Go.RowKit
set_option linter.unusedVariables false
set_option linter.unusedSimpArgs false

theorem rtake_no (B h : Nat) (ep win wait cr last e s c : Int) (X : List Txt) (had n : Nat) (vl vs : Value) (w : World) (r : SndRV w B h ep win wait cr X had last vl vs) (hX : X.length = had + n) (hXl : X.length ≤ 1000) (hn : stakeN ep had n e s c ≠ 0) :
    Calls Try.prog 40 #[.pointer (some ⟨h, 0, none⟩), .int .i64 e, .int .i64 s, .int .i64 c] w fun r w' => r = .returned (.tuple #[.int .i64 0, .int .i64 (stakeN ep had n e s c)]) ∧ ChB B [] w w' := by
  have h0 := r.b.cell 0
  have h4 := r.b.cell 4
  have h6 := r.b.cell 6
  simp at h0 h4 h6
  obtain ⟨A, cap, rfl, _⟩ := own_len r.l
  clear r
  by_cases he : e = ep
  · subst he
    by_cases hc0 : c < 0
    · have hs : stakeN e had n e s c = 1 := by simp [stakeN, hc0]
      rw [hs]
      clear hs hn
      go_enter Try.func40, Try.ntmps40
      go_wp2_with fail
      go_ret2
      exact ⟨rfl, ChB.refl _ _ _⟩
    · by_cases hc1 : 64 < c
      · have hs : stakeN e had n e s c = 1 := by simp [stakeN, hc1]
        rw [hs]
        clear hs hn
        go_enter Try.func40, Try.ntmps40
        go_wp2_with fail
        go_ret2
        exact ⟨rfl, ChB.refl _ _ _⟩
      · by_cases hs0 : s < 0
        · have hs : stakeN e had n e s c = 8 := by simp [stakeN, hc0, hc1, hs0]
          rw [hs]
          clear hs hn
          go_enter Try.func40, Try.ntmps40
          go_wp2_with fail
          go_ret2
          exact ⟨rfl, ChB.refl _ _ _⟩
        · by_cases h9 : (X.length : Int) < s
          · have hs : stakeN e had n e s c = 8 := by
              unfold stakeN
              rw [if_neg (by simp), if_neg (by omega), if_pos (by omega)]
            rw [hs]
            clear hs hn
            go_enter Try.func40, Try.ntmps40
            go_wp2_with fail
            go_ret2
            exact ⟨rfl, ChB.refl _ _ _⟩
          · have h10 : s < (had : Int) := by
              have := mt stakeN_zero.2 hn
              omega
            have hs : stakeN e had n e s c = 11 := by
              unfold stakeN
              rw [if_neg (by simp), if_neg (by omega), if_neg (by omega), if_pos h10]
            rw [hs]
            clear hs hn
            go_enter Try.func40, Try.ntmps40
            go_wp2_with fail
            go_ret2
            exact ⟨rfl, ChB.refl _ _ _⟩
  · have hs : stakeN ep had n e s c = 10 := by simp [stakeN, he]
    rw [hs]
    clear hs hn
    go_enter Try.func40, Try.ntmps40
    go_wp2_with fail
    go_ret2
    exact ⟨rfl, ChB.refl _ _ _⟩

theorem rtake_yes (B h : Nat) (ep win wait cr last c : Int) (X : List Txt) (had k : Nat) (vl vs : Value) (w : World) (r : SndRV w B h ep win wait cr X had last vl vs) (hX : had + k ≤ X.length) (hXl : X.length ≤ 1000) (hc0 : 0 ≤ c) (hc1 : c ≤ 64) :
    Calls Try.prog 40 #[.pointer (some ⟨h, 0, none⟩), .int .i64 ep, .int .i64 ((had : Int) + k), .int .i64 c] w fun r w' => r = .returned (.tuple #[.int .i64 k, .int .i64 0]) ∧ SndR w' B h ep win wait c X (had + k) last ∧ ChB B [71] w w' := by
  have h0 := r.b.cell 0
  have h3 := r.b.cell 3
  have h4 := r.b.cell 4
  have h6 := r.b.cell 6
  have m6 := r.b.frozen 6
  have hhB := r.hB
  have b1 := r.b.set_ 6 (.int .i64 ((had : Int) + k))
  have m3 := b1.frozen 3
  have b2 := b1.set_ 3 (.int .i64 c)
  have nl := own_ne r.l r.b (by decide)
  have ns := own_ne r.s r.b (by decide)
  have C1 : Ch [h] w ((w.setCell ⟨h, 6, none⟩ (.int .i64 ((had : Int) + k))).setCell ⟨h, 3, none⟩ (.int .i64 c)) := ((Ch.refl [h] w).setCell (p := ⟨h, 6, none⟩) (.inl (by simp)) _).setCell (p := ⟨h, 3, none⟩) (.inl (by simp)) _
  have l2 := own_ch r.l C1 (fun q hq hm => nl (by rw [List.mem_singleton.1 hm] at hq; exact hq.symm))
  have v2 := own_ch r.s C1 (fun q hq hm => ns (by rw [List.mem_singleton.1 hm] at hq; exact hq.symm))
  have CB : ChB B [71] w ((w.setCell ⟨h, 6, none⟩ (.int .i64 ((had : Int) + k))).setCell ⟨h, 3, none⟩ (.int .i64 c)) := ((ChB.refl B [71] w).setCell (p := ⟨h, 6, none⟩) hhB r.b (by simp) _).setCell (p := ⟨h, 3, none⟩) hhB b1 (by simp) _
  have R2 : SndRV ((w.setCell ⟨h, 6, none⟩ (.int .i64 ((had : Int) + k))).setCell ⟨h, 3, none⟩ (.int .i64 c)) B h ep win wait c X (had + k) last vl vs := ⟨hhB, by simpa using b2, l2, v2⟩
  obtain ⟨A, cap, rfl, _⟩ := own_len r.l
  simp at h0 h3 h4 h6
  clear r b1 b2 nl ns C1 l2 v2
  have s0 : ¬ (had : Int) + k < 0 := by omega
  have s1 : ¬ (X.length : Int) < (had : Int) + k := by omega
  have s2 : ¬ (had : Int) + k < (had : Int) := by omega
  have s3 : ¬ c < 0 := by omega
  have s4 : ¬ 64 < c := by omega
  have e1 : IntKind.i64.wrap ((had : Int) + k - had) = k := by rw [show (had : Int) + k - had = k by omega]; exact IntWalk.i64_in _ (by omega)
  go_enter Try.func40, Try.ntmps40
  go_wp2_with fail
  go_ret2
  exact ⟨rfl, ⟨_, _, R2⟩, CB⟩

theorem info115 : (Try.prog.info? 115).map (fun i => (i.zero, i.size, i.bytes)) = some (some (.agg #[.int .i64 0, .string ⟨#[]⟩]), 2, 24) := by kernel_rfl

/-- A string of the row. -/
theorem strs_at {w : World} {base e : Nat} {v : Value} {X : List Txt} (h : w.ownsRow base e 1 v X.length (strs X)) {i : Nat} (hi : i < X.length) : ∃ g cap, v = .slice (some ⟨g, 0, none⟩) X.length cap ∧ w.cell? ⟨g, i, none⟩ = some (.string X[i].1) := by
  obtain ⟨g, cap, rfl, _, _, _, _, hc, _⟩ := own_at h (by omega)
  refine ⟨g, cap, rfl, ?_⟩
  have := hc i (.string X[i].1) (by simp [strs, List.getElem?_eq_getElem hi])
  simpa using this
theorem bools_at {w : World} {base e : Nat} {v : Value} {X : List Txt} (h : w.ownsRow base e 1 v X.length (bools X)) {i : Nat} (hi : i < X.length) : ∃ g cap, v = .slice (some ⟨g, 0, none⟩) X.length cap ∧ w.cell? ⟨g, i, none⟩ = some (.bool X[i].2) := by
  obtain ⟨g, cap, rfl, _, _, _, _, hc, _⟩ := own_at h (by omega)
  refine ⟨g, cap, rfl, ?_⟩
  have := hc i (.bool X[i].2) (by simp [bools, List.getElem?_eq_getElem hi])
  simpa using this

set_option maxHeartbeats 2000000 in
set_option maxRecDepth 100000 in
theorem runder_c (B h : Nat) (ep win wait cr last : Int) (X : List Txt) (had : Nat) (vl vs : Value) (w : World) (r : SndRV w B h ep win wait cr X had last vl vs) (hX : had ≤ X.length) (hXl : X.length ≤ 1000) :
    Calls Try.prog 44 #[.pointer (some ⟨h, 0, none⟩)] w (ItemsRet 115 (itemsOf (fun _ : Txt => true) had (X.drop had)) w) := by
  obtain ⟨i0, hi, hz0, hz1, hz2⟩ := info_parts info115
  have h4 := r.b.cell 4
  have h6 := r.b.cell 6
  simp at h4 h6
  have O0 : (w.alloc (.cells #[] 115)).ownsRow w.heap.size 115 2 (.slice (some ⟨w.heap.size, 0, none⟩) 0 0) 0 [] := ⟨rfl, .inr ⟨w.heap.size, 0, #[], rfl, Nat.le_refl _, Blk.new w 115 #[], by omega, by unfold maxLen; omega, rfl, rfl⟩⟩
  have C0 : Ch [] w (w.alloc (.cells #[] 115)) := (Ch.refl [] w).alloc _
  have b0 := (r.b.alloc (.cells #[] 115)).cell 6
  simp at b0
  obtain ⟨A, cap, hv, _⟩ := own_len r.l
  subst hv
  go_enter Try.func44, Try.ntmps44
  go_wp2_with fail
  generalize w.alloc _ = w0 at O0 C0 b0 ⊢
  obtain ⟨g0, hg0⟩ : ∃ g0, g0 = w.heap.size := ⟨_, rfl⟩
  rw [← hg0]
  have O1 : w0.ownsRow w.heap.size 115 2 (.slice (some ⟨g0, 0, none⟩) 0 0) 0 [] := by rw [hg0]; exact O0
  clear O0 hg0
  go_loopw [3, 4] (fun o i wr => ∃ k : Nat, i = .int .i64 ((had : Int) + k) ∧ had + k ≤ X.length ∧ wr.ownsRow w.heap.size 115 2 o (itemsOf (fun _ : Txt => true) had ((X.drop had).take k)).length (itmCells (itemsOf (fun _ : Txt => true) had ((X.drop had).take k))) ∧ Ch [] w wr) (fun _ i _ => (X.length - intOf i).toNat)
  case atStart => exact ⟨0, by simp, by omega, by simpa [itemsOf, itmCells] using O1, C0⟩
  case round =>
    obtain ⟨k, rfl, hk, hown, hC⟩ := hrel
    clear O1 C0 b0
    have bb := (r.b.ch hC (by simp)).cell 4
    simp at bb
    by_cases hlt : had + k < X.length
    · have hx : (X.drop had)[k]? = some X[had + k] := by rw [List.getElem?_drop]; exact List.getElem?_eq_getElem hlt
      have hts : itemsOf (fun _ : Txt => true) had ((X.drop had).take (k + 1)) = itemsOf (fun _ : Txt => true) had ((X.drop had).take k) ++ [((had : Int) + k + 1, X[had + k].1)] := by
        rw [List.take_add_one, hx, Option.toList_some, itemsOf_snoc, List.length_take, List.length_drop, Nat.min_eq_left (by omega), if_pos rfl]
      have hl := itemsOf_len (fun _ : Txt => true) ((X.drop had).take k) had
      have hl2 : ((X.drop had).take k).length ≤ 1000 := by simp; omega
      obtain ⟨gl, cap', he, c0⟩ := strs_at (own_ch r.l hC (by simp)) hlt
      injection he with hA _ hcp
      subst hA hcp
      generalize X[had + k] = x at hts c0
      have Hts := Lib.hid hts
      generalize hL : itemsOf (fun _ : Txt => true) had ((X.drop had).take k) = L at hown hl
      have HL := Lib.hid hL
      have hLk : L.length ≤ 1000 := by omega
      have e6 : IntKind.i64.wrap ((had : Int) + k + 1) = had + k + 1 := IntWalk.i64_in _ (by omega)
      have e8 : ((had : Int) + k).toNat = had + k := by omega
      have e9 : (had : Int) + k < (X.length : Int) := by omega
      have e10 : 0 ≤ (had : Int) + k := by omega
      have zN := hC.size
      have oo := hown.alloc (.cells #[.int .i64 ((had : Int) + k + 1), .string x.1] 115)
      have cc := hC.alloc (.cells #[.int .i64 ((had : Int) + k + 1), .string x.1] 115)
      have zz := cc.size
      clear hL hts hx hl2 r hown hC
      go_wp2_with (at_builtin; refine wpList_append_any _ rfl (.tmp 19) (.tmp 30) 63 rfl w.heap.size 115 i0 _ 2 24 Try.underlying63 hi hz0 hz1 hz2 rfl (by decide) _ _ _ rfl oo _ _ 1 1 _ rfl (Reads.of_blk (size := 2) (n := 1) (Blk.new wr 115 #[.int .i64 ((had : Int) + k + 1), .string x.1]) rfl) (by simp [Value.oneCell']) (by unfold maxLen; omega) (by omega) zz ?_)
      intro v2 w2 own2 grow2 _
      have C2 := cc.grown grow2 (fun q hq => .inr (oo.lt q hq).1)
      clear cc oo grow2
      go_wp2_with fail
      go_roundw
      case rel => exact ⟨k + 1, by simp; omega, by omega, by rw [Hts.out, HL.out, List.length_append, itmCells_append]; exact own2, C2⟩
      case measure => simp [intOf]; omega
    · have hk2 : k = (X.drop had).length := by rw [List.length_drop]; omega
      have e1 : (X.drop had).take k = X.drop had := by rw [hk2]; exact List.take_length
      rw [e1] at hown
      have hret : ItemsRet 115 (itemsOf (fun _ : Txt => true) had (X.drop had)) w (.returned u3) wr := ⟨u3, rfl, hown, hC⟩
      have Hret := Lib.hid hret
      have e2 : ¬ (had : Int) + k < (X.length : Int) := by omega
      clear hret e1 hown r hk2
      go_wp2_with fail
      go_ret
      exact Hret.out
end Go.Proofs.Ytejmcfgmopijkaa
