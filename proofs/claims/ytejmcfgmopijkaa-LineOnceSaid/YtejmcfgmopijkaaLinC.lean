/- The line's own calls: Come. -/
import Derived.Test.YtejmcfgmopijkaaLinX
import Derived.StillTailTactics
import Derived.Deep.RegionLaw
namespace Go.Proofs.Ytejmcfgmopijkaa
open Go.RowKit
set_option linter.unusedVariables false
set_option linter.unusedSimpArgs false

section
variable {w w' a : World} {B : Nat} {Ts : List TypeId} {X : Option Nat}
theorem ChP.grown {base size n : Nat} {v : Value} {xs : List Value} (h : ChP B Ts X a w) (hg : w.grownBy w' v.ownBlock) (ho : w.ownsRow base 9 size v n xs) (hb : B ≤ base) (ht : 9 ∈ Ts) (hd : ∀ q, X = some q → v.ownBlock ≠ some q) : ChP B Ts X a w' :=
  ⟨hg.os.trans h.os, hg.tape.trans h.tape, hg.output.trans h.output, Nat.le_trans h.size hg.size, fun k hk hn => by
    have e := h.block k hk hn
    refine (hg.block k (Nat.lt_of_lt_of_le hk h.size) (fun hv => ?_)).trans e
    rcases own_form ho with ⟨rfl, _⟩ | ⟨gv, cap, cur, rfl, hB, hbk, _⟩
    · simp [Value.ownBlock] at hv
    · simp [Value.ownBlock] at hv
      subst hv
      rcases hn with hn | hn | hn
      · omega
      · exact hd k hn rfl
      · unfold Blk at hbk
        rw [e] at hbk
        exact hn _ _ _ hbk ht⟩
end
section
variable {w w' : World} {B l g r gc : Nat} {win wt cr gone last had now room store : Int} {T : List Txt} {ow : Bool} {On : List Itm} {Bk : List Frm} {Out : List ByteArray} {v1 v2 v3 : Value}
theorem LineV.outs (h : LineV w B l g r gc win wt cr T gone last had ow On Bk now Out room store v1 v2 v3) {Out' : List ByteArray} {v3' : Value} (cb : ChB B [9, 124] w w') (hb : Blk w' l 124 (#[.pointer (some ⟨g, 0, none⟩), .pointer (some ⟨r, 0, none⟩), v1, v2, .int .i64 now, v3, .int .i64 room, .int .i64 store].setIfInBounds 5 v3')) (hr : w'.ownsRow B 9 1 v3' Out'.length (Out'.map Value.string)) :
    LineV w' B l g r gc win wt cr T gone last had ow On Bk now Out' room store v1 v2 v3' :=
  ⟨h.hl, h.hr, h.hg, by simpa using hb, h.s.chB cb (by simp) (by simp), h.rc.chB cb (by simp) (by simp), h.on.chB cb (by simp), h.bk.chB cb (by simp), hr⟩
theorem LineV.took (h : LineV w B l g r gc win wt cr T gone last had ow On Bk now Out room store v1 v2 v3) (c : Ch [r, gc] w w') {had' : Int} {ow' : Bool} (hr : RecI w' r gc 1 had' ow') : LineV w' B l g r gc win wt cr T gone last had' ow' On Bk now Out room store v1 v2 v3 ∧ ChB B [100, 102] w w' := by
  have cb : ChB B [100, 102] w w' := c.toB (fun q hq => by
    rcases List.mem_cons.1 hq with rfl | hq
    · exact .inr ⟨h.hr, _, _, _, h.rc.b, by simp⟩
    · rw [List.mem_singleton.1 hq]
      exact .inr ⟨h.hg, _, _, _, h.rc.c, by simp⟩)
  exact ⟨⟨h.hl, h.hr, h.hg, h.b.chB cb (by simp), h.s.chB cb (by simp) (by simp), hr, h.on.chB cb (by simp), h.bk.chB cb (by simp), own_chB h.out cb (by simp)⟩, cb⟩
end

section
variable (B l g r gc : Nat) (win wt cr gone last had now room store : Int) (T : List Txt) (ow : Bool) (On : List Itm) (Bk : List Frm) (Out : List ByteArray) (v1 v2 v3 : Value) (w : World)
set_option maxHeartbeats 4000000 in
set_option maxRecDepth 100000 in
theorem come_err (k : Nat) (x : Itm) (q : Int) (h : LineV w B l g r gc win wt cr T gone last had ow On Bk now Out room store v1 v2 v3) (hb : LineB win wt cr T gone last had On Bk now Out room store) (hBw : B ≤ w.heap.size) (hk : On[k]? = some x) (hq : whyN 1 had 1 x.1 = q) (hq0 : q ≠ 0) :
    Calls Try.prog 55 #[.pointer (some ⟨l, 0, none⟩), .int .i64 k] w fun e w' => e = .returned (.int .i64 q) ∧ (∃ v1' v2', LineV w' B l g r gc win wt cr T gone last had false (On.eraseIdx k) (putL Bk (had, creditN (room - store))) now Out room store v1' v2' v3) ∧ ChB B [124, 38, 76, 102] w w' := by
  have hkl : k < On.length := (List.getElem?_eq_some_iff.1 hk).1
  have hkx : On[k] = x := (List.getElem?_eq_some_iff.1 hk).2
  have c1 := has_item B l _ v1 On k w h.b rfl h.on
  have e1 : (decide (0 ≤ (k : Int)) && decide ((k : Int) < On.length)) = true := by simp; omega
  rw [e1] at c1
  clear e1
  have g0 : (q == 0) = false := by simp [hq0]
  obtain ⟨xa, xc⟩ := x
  simp only at hq
  have HQ := Lib.hid hq
  clear hq
  have hb2 : LineB win wt cr T gone last had (On.eraseIdx k) Bk now Out room store := ⟨hb.s, hb.h0, hb.h1, eraseIdx_le _ _ hb.on, hb.bk, hb.n0, hb.n1, hb.out, hb.r0, hb.r1, hb.s0, hb.s1⟩
  go_enter Try.func55, Try.ntmps55
  go_wp2_with fail
  refine c1.mono ?_
  rintro e1 w1 ⟨rfl, c2⟩
  have C1 : ChB B [] w w1 := c2.toB0
  have h1 := h.chB C1
  have z1 : B ≤ w1.heap.size := Nat.le_trans hBw C1.size
  clear h c1 c2
  go_wp2_with fail
  refine (cut_item B l _ v1 On k w1 h1.hl h1.b rfl h1.on z1 hb.on hkl).mono ?_
  rw [hkx]
  rintro e2 w2 ⟨rfl, v1', hb2', hr2, c2⟩
  have d2 := h1.wayA (c2.wide (by simp))
  have h2 := h1.onto d2 hb2' hr2
  have C2 : ChB B [124, 38, 76, 102] w w2 := (C1.wide (by simp)).trans (d2.wide (by simp))
  have ca := (Ch.refl [] w2).alloc (.cells #[.int .i64 xa, .string xc] 76)
  have C3 : ChB B [124, 38, 76, 102] w (w2.alloc (.cells #[.int .i64 xa, .string xc] 76)) := C2.trans ca.toB0
  have h3 := h2.chB (ca.toB0 (B := B))
  have y := Blk.new w2 76 #[.int .i64 xa, .string xc]
  clear h1 C1 z1 hb2' hr2 c2 d2 h2 C2 ca
  go_wp2_with fail
  generalize w2.alloc _ = w3 at C3 h3 y ⊢
  generalize w2.heap.size = yb at y ⊢
  have a1 := h3.b.cell 1
  have y0 := y.cell 0
  simp at a1 y0
  have c0 := (Ch.refl [] w3).drew
  have h4 := h3.chB (c0.toB0 (B := B))
  have C4 : ChB B [124, 38, 76, 102] w w3.drew := C3.trans c0.toB0
  clear h3 C3 c0 y
  go_still_tail 6, (by kernel_rfl)
  clear a1 y0
  change wpList _ _ _ _ _ w3.drew
  generalize w3.drew = w4 at *
  go_wp2_with fail
  refine (fits_is (ow' := true) h4.rc hb.h0 hb.h1 HQ.out (by simp)).mono ?_
  rintro e5 w5 ⟨rfl, hr5, c5⟩
  obtain ⟨h5, d5⟩ := h4.told c5 hr5
  have C5 : ChB B [124, 38, 76, 102] w w5 := C4.trans (d5.wide (by simp))
  have z5 : B ≤ w5.heap.size := Nat.le_trans hBw C5.size
  clear h4 C4 c5 hr5 d5
  go_wp2_with fail
  refine (tell_c B l g r gc win wt cr gone last had now room store T true (On.eraseIdx k) Bk Out v1' v2 v3 w5 h5 hb2 z5).mono ?_
  rintro e6 w6 ⟨rfl, ⟨v2', h6⟩, c6⟩
  have C6 : ChB B [124, 38, 76, 102] w w6 := C5.trans (c6.wide (by simp))
  go_wp2_with fail
  go_ret
  exact ⟨rfl, ⟨_, _, h6⟩, C6⟩
set_option maxHeartbeats 4000000 in
set_option maxRecDepth 100000 in
theorem come_full (k : Nat) (x : Itm) (h : LineV w B l g r gc win wt cr T gone last had ow On Bk now Out room store v1 v2 v3) (hb : LineB win wt cr T gone last had On Bk now Out room store) (hBw : B ≤ w.heap.size) (hk : On[k]? = some x) (hq : whyN 1 had 1 x.1 = 0) (hr : room - store = 0) :
    Calls Try.prog 55 #[.pointer (some ⟨l, 0, none⟩), .int .i64 k] w fun e w' => e = .returned (.int .i64 7) ∧ (∃ v1' v2', LineV w' B l g r gc win wt cr T gone last had false (On.eraseIdx k) (putL Bk (had, creditN (room - store))) now Out room store v1' v2' v3) ∧ ChB B [124, 38, 76, 102] w w' := by
  have hkl : k < On.length := (List.getElem?_eq_some_iff.1 hk).1
  have hkx : On[k] = x := (List.getElem?_eq_some_iff.1 hk).2
  have c1 := has_item B l _ v1 On k w h.b rfl h.on
  have e1 : (decide (0 ≤ (k : Int)) && decide ((k : Int) < On.length)) = true := by simp; omega
  rw [e1] at c1
  clear e1
  have HR := Lib.hid hr
  clear hr
  obtain ⟨xa, xc⟩ := x
  simp only at hq
  have HQ := Lib.hid hq
  clear hq
  have hb2 : LineB win wt cr T gone last had (On.eraseIdx k) Bk now Out room store := ⟨hb.s, hb.h0, hb.h1, eraseIdx_le _ _ hb.on, hb.bk, hb.n0, hb.n1, hb.out, hb.r0, hb.r1, hb.s0, hb.s1⟩
  go_enter Try.func55, Try.ntmps55
  go_wp2_with fail
  refine c1.mono ?_
  rintro e1 w1 ⟨rfl, c2⟩
  have C1 : ChB B [] w w1 := c2.toB0
  have h1 := h.chB C1
  have z1 : B ≤ w1.heap.size := Nat.le_trans hBw C1.size
  clear h c1 c2
  go_wp2_with fail
  refine (cut_item B l _ v1 On k w1 h1.hl h1.b rfl h1.on z1 hb.on hkl).mono ?_
  rw [hkx]
  rintro e2 w2 ⟨rfl, v1', hb2', hr2, c2⟩
  have d2 := h1.wayA (c2.wide (by simp))
  have h2 := h1.onto d2 hb2' hr2
  have C2 : ChB B [124, 38, 76, 102] w w2 := (C1.wide (by simp)).trans (d2.wide (by simp))
  have ca := (Ch.refl [] w2).alloc (.cells #[.int .i64 xa, .string xc] 76)
  have C3 : ChB B [124, 38, 76, 102] w (w2.alloc (.cells #[.int .i64 xa, .string xc] 76)) := C2.trans ca.toB0
  have h3 := h2.chB (ca.toB0 (B := B))
  have y := Blk.new w2 76 #[.int .i64 xa, .string xc]
  clear h1 C1 z1 hb2' hr2 c2 d2 h2 C2 ca
  go_wp2_with fail
  generalize w2.alloc _ = w3 at C3 h3 y ⊢
  generalize w2.heap.size = yb at y ⊢
  have a1 := h3.b.cell 1
  have y0 := y.cell 0
  simp at a1 y0
  have c0 := (Ch.refl [] w3).drew
  have h4 := h3.chB (c0.toB0 (B := B))
  have C4 : ChB B [124, 38, 76, 102] w w3.drew := C3.trans c0.toB0
  clear h3 C3 c0 y
  go_still_tail 6, (by kernel_rfl)
  clear a1 y0
  change wpList _ _ _ _ _ w3.drew
  generalize w3.drew = w4 at *
  go_wp2_with fail
  refine (fits_is (ow' := true) h4.rc hb.h0 hb.h1 HQ.out (by simp)).mono ?_
  rintro e5 w5 ⟨rfl, hr5, c5⟩
  obtain ⟨h5, d5⟩ := h4.told c5 hr5
  have C5 : ChB B [124, 38, 76, 102] w w5 := C4.trans (d5.wide (by simp))
  clear h4 C4 c5 hr5 d5
  have crm := lroom_c l _ _ _ _ _ _ room store w5 h5.b hb.s0 (by have := hb.s1; have := hb.r1; omega) (by have := hb.r0; omega) (by have := hb.r1; omega)
  rw [HR.out] at crm
  go_wp2_with fail
  refine crm.mono ?_
  rintro e8 w8 ⟨rfl, c8⟩
  have h8 := h5.chB (c8.toB0 (B := B))
  have C8 : ChB B [124, 38, 76, 102] w w8 := C5.trans c8.toB0
  have z8 : B ≤ w8.heap.size := Nat.le_trans hBw C8.size
  clear h5 C5 c8 crm
  go_wp2_with fail
  refine (tell_c B l g r gc win wt cr gone last had now room store T true (On.eraseIdx k) Bk Out v1' v2 v3 w8 h8 hb2 z8).mono ?_
  rintro e6 w6 ⟨rfl, ⟨v2', h6⟩, c6⟩
  have C6 : ChB B [124, 38, 76, 102] w w6 := C8.trans (c6.wide (by simp))
  go_wp2_with fail
  go_ret
  exact ⟨rfl, ⟨_, _, h6⟩, C6⟩
set_option maxHeartbeats 4000000 in
set_option maxRecDepth 100000 in
theorem come_yes (k : Nat) (x : Itm) (rm : Int) (X : Option Nat) (h : LineV w B l g r gc win wt cr T gone last had ow On Bk now Out room store v1 v2 v3) (hb : LineB win wt cr T gone last had On Bk now Out room store) (hBw : B ≤ w.heap.size) (hk : On[k]? = some x) (hq : whyN 1 had 1 x.1 = 0) (hr : room - store = rm) (hr0 : rm ≠ 0) (hOut : Out.length < 1000) (hhad : had < 1000000)
    (hX : RowX w X) (hd : ∀ b, X = some b → v3.ownBlock ≠ some b) :
    Calls Try.prog 55 #[.pointer (some ⟨l, 0, none⟩), .int .i64 k] w fun e w' => e = .returned (.int .i64 0) ∧ (∃ v1' v2' v3', LineV w' B l g r gc win wt cr T gone last (had + 1) false (On.eraseIdx k) (putL Bk (had + 1, creditN (room - (store + 1)))) now (Out ++ [x.2]) room (store + 1) v1' v2' v3' ∧ ∀ b, X = some b → v3'.ownBlock ≠ some b) ∧ ChP B lts X w w' := by
  obtain ⟨i9, hi9, hz9, ha9, hb9⟩ := info_parts info9
  have hkl : k < On.length := (List.getElem?_eq_some_iff.1 hk).1
  have hkx : On[k] = x := (List.getElem?_eq_some_iff.1 hk).2
  have c1 := has_item B l _ v1 On k w h.b rfl h.on
  have e1 : (decide (0 ≤ (k : Int)) && decide ((k : Int) < On.length)) = true := by simp; omega
  rw [e1] at c1
  clear e1
  have g0 : (rm == 0) = false := by simp [hr0]
  have HR := Lib.hid hr
  have s0 := hb.s0
  have s1 := hb.s1
  have r1 := hb.r1
  have hle : store + 1 ≤ room := by omega
  clear hr
  obtain ⟨xa, xc⟩ := x
  simp only at hq
  have htk : takeN 1 had 1 xa = had + 1 := by unfold takeN; rw [if_pos hq]
  have HT := Lib.hid htk
  have HQ := Lib.hid hq
  clear hq htk
  have hb2 : LineB win wt cr T gone last (had + 1) (On.eraseIdx k) Bk now (Out ++ [xc]) room (store + 1) := ⟨hb.s, by have := hb.h0; omega, by omega, eraseIdx_le _ _ hb.on, hb.bk, hb.n0, hb.n1, by simp; omega, hb.r0, hb.r1, by omega, hle⟩
  go_enter Try.func55, Try.ntmps55
  go_wp2_with fail
  refine c1.mono ?_
  rintro e1 w1 ⟨rfl, c2⟩
  have C1 : ChB B [] w w1 := c2.toB0
  have h1 := h.chB C1
  have z1 : B ≤ w1.heap.size := Nat.le_trans hBw C1.size
  clear h c1 c2
  go_wp2_with fail
  refine (cut_item B l _ v1 On k w1 h1.hl h1.b rfl h1.on z1 hb.on hkl).mono ?_
  rw [hkx]
  rintro e2 w2 ⟨rfl, v1', hb2', hr2, c2⟩
  have d2 := h1.wayA (c2.wide (by simp))
  have h2 := h1.onto d2 hb2' hr2
  have C2 : ChB B [124, 38, 76, 102, 100] w w2 := (C1.wide (by simp)).trans (d2.wide (by simp))
  have ca := (Ch.refl [] w2).alloc (.cells #[.int .i64 xa, .string xc] 76)
  have C3 : ChB B [124, 38, 76, 102, 100] w (w2.alloc (.cells #[.int .i64 xa, .string xc] 76)) := C2.trans ca.toB0
  have h3 := h2.chB (ca.toB0 (B := B))
  have y := Blk.new w2 76 #[.int .i64 xa, .string xc]
  clear h1 C1 z1 hb2' hr2 c2 d2 h2 C2 ca
  go_wp2_with fail
  generalize w2.alloc _ = w3 at C3 h3 y ⊢
  generalize w2.heap.size = yb at y ⊢
  have a1 := h3.b.cell 1
  have y0 := y.cell 0
  simp at a1 y0
  have c0 := (Ch.refl [] w3).drew
  have h4 := h3.chB (c0.toB0 (B := B))
  have C4 : ChB B [124, 38, 76, 102, 100] w w3.drew := C3.trans c0.toB0
  have y4 := y.drew
  clear h3 C3 c0 y
  go_still_tail 6, (by kernel_rfl)
  clear a1 y0
  change wpList _ _ _ _ _ w3.drew
  generalize w3.drew = w4 at *
  go_wp2_with fail
  refine (fits_is (ow' := true) h4.rc hb.h0 hb.h1 HQ.out (by simp)).mono ?_
  rintro e5 w5 ⟨rfl, hr5, c5⟩
  obtain ⟨h5, d5⟩ := h4.told c5 hr5
  have C5 : ChB B [124, 38, 76, 102, 100] w w5 := C4.trans (d5.wide (by simp))
  have y5 := y4.chB d5 (by simp)
  clear h4 C4 c5 hr5 d5 y4
  have crm := lroom_c l _ _ _ _ _ _ room store w5 h5.b hb.s0 (by omega) (by omega) (by omega)
  rw [HR.out] at crm
  go_wp2_with fail
  refine crm.mono ?_
  rintro e8 w8 ⟨rfl, c8⟩
  have h8 := h5.chB (c8.toB0 (B := B))
  have y8 := y5.ch c8 (by simp)
  have C8 : ChB B [124, 38, 76, 102, 100] w w8 := C5.trans c8.toB0
  clear h5 C5 c8 crm y5
  have a1 := h8.b.cell 1
  have y0 := y8.cell 0
  simp at a1 y0
  go_wp2_with fail
  have c0 := (Ch.refl [] w8).drew
  have h9 := h8.chB (c0.toB0 (B := B))
  have C9 : ChB B [124, 38, 76, 102, 100] w w8.drew := C8.trans c0.toB0
  have y9 := y8.drew
  clear h8 C8 c0 y8
  go_still_tail 6, (by kernel_rfl)
  clear a1 y0
  change wpList _ _ _ _ _ w8.drew
  generalize w8.drew = w9 at *
  go_wp2_with fail
  refine (take_is (ow' := true) h9.rc hb.h0 hb.h1 HQ.out HT.out (by simp)).mono ?_
  rintro e10 w10 ⟨rfl, hr10, c10⟩
  obtain ⟨h10, d10⟩ := h9.took c10 hr10
  have C10 : ChB B [124, 38, 76, 102, 100] w w10 := C9.trans (d10.wide (by simp))
  have y10 := y9.chB d10 (by simp)
  clear h9 C9 c10 hr10 d10 y9
  have a7 := h10.b.cell 7
  have m7 := h10.b.frozen 7
  simp at a7
  have e1 : IntKind.i64.wrap (store + 1) = store + 1 := IntWalk.i64_in _ (by omega)
  obtain ⟨h11, c11⟩ := h10.stored (store + 1)
  have C11 : ChB B [124, 38, 76, 102, 100] w (w10.setCell ⟨l, 7, none⟩ (.int .i64 (store + 1))) := C10.trans (c11.wide (by simp))
  have y11 := y10.far (p := ⟨l, 7, none⟩) (y10.ne_ h10.b (by decide)) (.int .i64 (store + 1))
  go_wp2_with fail
  clear a7 m7 e1 h10 c11 C10 y10
  generalize w10.setCell _ _ = w11 at h11 C11 y11 ⊢
  have P11 : ChP B lts X w w11 := ChP.of_B C11 (by simp [lts]) (by simp) hX
  have z11 : B ≤ w11.heap.size := Nat.le_trans hBw C11.size
  clear C11
  obtain ⟨A3, c3, hv3, _⟩ := own_len h11.out
  subst hv3
  have a5 := h11.b.cell 5
  have y0 := y11.cell 1
  simp at a5 y0
  have ca := (Ch.refl [] w11).alloc (.cells #[.string xc] 9)
  have hh := (h11.chB (ca.toB0 (B := B)))
  have hh := hh.chB (((Ch.refl [] _).drew).toB0 (B := B))
  have PP : ChP B lts X w (w11.alloc (.cells #[.string xc] 9)).drew := (P11.trans (ChP.of_0 ca) hX).trans (ChP.of_0 ((Ch.refl [] _).drew)) hX
  have xx := (Reads.of_blk (Blk.new w11 9 #[.string xc]) (size := 1) (n := 1) rfl).drew
  have z12 : B ≤ (w11.alloc (.cells #[.string xc] 9)).drew.heap.size := Nat.le_trans z11 ca.size
  have q5 := hh.b.cell 5
  simp at q5
  have hT1 : Out.length + 1 ≤ maxLen := by unfold maxLen; omega
  have hT2 : (Out.length + 1) * 16 ≤ 140737488355328 := by omega
  clear P11 ca z11
  go_region_law (first
    | (refine step_append_any _ (by rfl) (.tmp 52) (.tmp 55) 68 (by rfl) B 9 i9 _ 1 16 Try.underlying68 hi9 hz9 ha9 hb9 rfl (by decide) _ _ _ (by rfl) hh.out _ _ 1 1 _ (by rfl) xx (by simp [Value.oneCell']) hT1 hT2 z12 ?_; intro v' w12 hown hgrow hloc; have b12 := hh.b.grown hgrow (own_ne hh.out hh.b (by decide)); have P12 := PP.grown hgrow hh.out (Nat.le_refl _) (by simp [lts]) hd; have D12 := (ChB.refl B [9, 124] _).grown hgrow hh.out (Nat.le_refl _) (by simp); obtain ⟨gv, cap', rfl, hgB, hglt, _, _, _, _⟩ := own_at hown (by omega); have k5 := b12.cell 5; have m5 := b12.frozen 5))
  all_goals
    have b13 := b12.set_ 5 (.slice (some ⟨gv, 0, none⟩) (Out.length + 1) cap')
    have hne := own_ne hown b12 (by decide)
    have o13 := own_ch hown ((Ch.refl [l] w12).setCell (p := ⟨l, 5, none⟩) (.inl (by simp)) (.slice (some ⟨gv, 0, none⟩) (Out.length + 1) cap')) (fun q hq hm => hne (by rw [List.mem_singleton.1 hm] at hq; exact hq.symm))
    have D13 := D12.setCell (p := ⟨l, 5, none⟩) hh.hl b12 (by simp) (.slice (some ⟨gv, 0, none⟩) (Out.length + 1) cap')
    have P13 : ChP B lts X w _ := P12.trans (ChP.of_B ((ChB.refl B [124] w12).setCell (p := ⟨l, 5, none⟩) hh.hl b12 (by simp) (.slice (some ⟨gv, 0, none⟩) (Out.length + 1) cap')) (by simp [lts]) (by simp) (hX.ch P12)) hX
    have h13 := hh.outs (Out' := Out ++ [xc]) D13 b13 (by simpa using o13)
    have hd13 : ∀ b, X = some b → (Value.slice (some ⟨gv, 0, none⟩) (Out.length + 1) cap').ownBlock ≠ some b := fun b hb' he => by
      rcases hloc with h' | h'
      · exact hd b hb' (h'.symm.trans he)
      · have e2 := h'.symm.trans he
        injection e2 with e2
        obtain ⟨cs', hc⟩ := hX.ch PP b hb'
        have := hc.lt
        omega
    have z13 : B ≤ (w12.setCell ⟨l, 5, none⟩ (.slice (some ⟨gv, 0, none⟩) (Out.length + 1) cap')).heap.size := Nat.le_trans hBw P13.size
    generalize w12.setCell _ _ = w13 at h13 P13 z13 ⊢
    clear b13 o13 D13 D12 P12 b12 hown hgrow hloc k5 m5 hh PP xx q5
    go_wp2_with fail
    refine (tell_c B l g r gc win wt cr gone last (had + 1) now room (store + 1) T true (On.eraseIdx k) Bk (Out ++ [xc]) v1' v2 _ w13 h13 hb2 z13).mono ?_
    rintro e6 w6 ⟨rfl, ⟨v2', h6⟩, c6⟩
    have P6 : ChP B lts X w w6 := P13.trans (ChP.of_B c6 (by simp [lts]) (by simp) (hX.ch P13)) hX
    go_wp2_with fail
    go_ret
    exact ⟨rfl, ⟨_, _, _, h6, hd13⟩, P6⟩
end
end Go.Proofs.Ytejmcfgmopijkaa
