/- The line's own calls: Send. -/
import Derived.Test.YtejmcfgmopijkaaPln
import Derived.StillTailTactics
namespace Go.Proofs.Ytejmcfgmopijkaa
open Go.RowKit
set_option linter.unusedVariables false
set_option linter.unusedSimpArgs false

theorem own_two' {w : World} {b1 b2 e s1 s2 n1 n2 : Nat} {v1 v2 : Value} {xs ys : List Value} (h : RowW w b1 e s1 v1 n1 xs) (k : w.ownsRow b2 e s2 v2 n2 ys) (hb : b2 = w.heap.size ∨ ∀ q, v1.ownBlock = some q → q < b2) : ∀ q, v1.ownBlock = some q → v2.ownBlock ≠ some q := by
  intro q h1 h2
  obtain ⟨_, cur, hc⟩ := h.blocks q h1
  have := hc.lt
  rcases own_form k with ⟨rfl, _, _⟩ | ⟨gv, cap, cur', rfl, hB, _, _⟩
  · simp [Value.ownBlock] at h2
  · simp [Value.ownBlock] at h2
    subst h2
    rcases hb with hb | hb
    · omega
    · have := hb _ h1; omega

section
variable (B l g r gc : Nat) (win wt cr gone last had now room store : Int) (T : List Txt) (ow : Bool) (On : List Itm) (Bk : List Frm) (Out : List ByteArray) (v1 v2 v3 : Value) (w : World)
set_option maxHeartbeats 4000000 in
set_option maxRecDepth 100000 in
theorem send_c0 (t nn : Int) (L : List Itm) (Ln : Nat) (T2 : List Txt) (last2 : Int) (h : LineV w B l g r gc win wt cr T gone last had ow On Bk now Out room store v1 v2 v3) (hb : LineB win wt cr T gone last had On Bk now Out room store) (hBw : B ≤ w.heap.size) (hn : tickN now t = nn) (hL : dueL wt last gone nn T = L) (hLn : L.length = Ln) (hT2 : dueT wt last gone nn T = T2) (hla : dueLast wt last gone nn T = last2) :
    Calls Try.prog 58 #[.pointer (some ⟨l, 0, none⟩), .int .i64 t] w fun e w' => e = .returned (.int .i64 Ln) ∧ (∃ v1', LineV w' B l g r gc win wt cr T2 gone last2 had ow (L.foldl putL On) Bk nn Out room store v1' v2 v3) ∧ ChB B [76, 111, 114, 124] w w' := by
  have q1 := tickN_lo now t
  have q2 := tickN_hi now t
  rw [hn] at q1 q2
  have n0 := hb.n0
  have n1 := hb.n1
  have hs := hb.s
  have hon := hb.on
  have hLl : Ln ≤ 1000 := by rw [← hLn, ← hL]; unfold dueL; have := itemsOf_len (fun x : Txt => againB wt last (max nn last) T || !x.2) T gone; have := hb.s.n2; omega
  have HL := Lib.hid hL
  have HLn := Lib.hid hLn
  have HT := Lib.hid hT2
  have HLa := Lib.hid hla
  clear hL hb hLn hT2 hla
  have a4 := h.b.cell 4
  have f4 := h.b.frozen 4
  simp at a4
  by_cases h0 : 0 ≤ t
  · by_cases h1 : t ≤ 1000
    · have e1 : now + t = nn := by rw [← hn]; unfold tickN; rw [if_pos ⟨h0, h1⟩]
      clear hn
      obtain ⟨hw, cw⟩ := h.ticked nn
      have C0 : ChB B [76, 111, 114, 124] w (w.setCell ⟨l, 4, none⟩ (.int .i64 nn)) := cw.wide (by simp)
      go_enter Try.func58, Try.ntmps58
      go_wp2_with fail
      generalize w.setCell _ _ = w0 at hw cw C0 ⊢
      clear a4 f4 cw h0 h1 h e1
      have n2 : (0 : Int) ≤ nn := by omega
      have n3 : nn ≤ 2000000000000000 := by omega
      have z0 : B ≤ w0.heap.size := Nat.le_trans hBw C0.size
      have a0 := hw.b.cell 0
      have a4 := hw.b.cell 4
      simp at a0 a4
      have c0 := (Ch.refl [] w0).drew
      have h3 := hw.chB (c0.toB0 (B := B))
      have C3 : ChB B [76, 111, 114, 124] w w0.drew := C0.trans c0.toB0
      have z3 : B ≤ w0.drew.heap.size := z0
      clear hw C0 c0 z0
      go_still_tail 8, (by kernel_rfl)
      clear a0 a4
      change wpList _ _ _ _ _ w0.drew
      generalize w0.drew = w3 at *
      go_wp2_with fail
      obtain ⟨vs, hsnd⟩ := h3.s
      refine (due_v B g 1 win wt cr gone last nn T vs w3 hsnd hs z3 n3 n2).mono ?_
      rintro e4 w4 ⟨dv, rfl, hd4, hs4, c4⟩
      rw [HL.out, HLn.out] at hd4
      have h4 := h3.sent c4 hs4
      have C4 : ChB B [76, 111, 114, 124] w w4 := C3.trans (c4.wide (by simp))
      have z4 : B ≤ w4.heap.size := Nat.le_trans z3 c4.size
      have hne4 := own_two' h4.on hd4 (.inr (fun q hq => by
        obtain ⟨_, cur, hc⟩ := h3.on.blocks q hq
        exact hc.lt))
      clear h3 C3 hs4 c4 hsnd
      rw [HT.out, HLa.out] at h4
      have hdb : ∀ q, dv.ownBlock = some q → q < w4.heap.size := fun q hq => by
        rcases own_form hd4 with ⟨rfl, _, _⟩ | ⟨gv, cap, cur, rfl, _, hb, _⟩
        · simp [Value.ownBlock] at hq
        · simp [Value.ownBlock] at hq; subst hq; exact hb.lt
      obtain ⟨A, cap, rfl, hcap⟩ := own_len hd4
      clear hdb
      skip
      go_wp2_with fail
      go_loopw [33] (fun i wr => ∃ (j : Nat) (v1' : Value), i = .int .i64 j ∧ j ≤ Ln ∧ LineV wr B l g r gc win wt cr T2 gone last2 had ow ((L.take j).foldl putL On) Bk nn Out room store v1' v2 v3 ∧ wr.ownsRow w3.heap.size 76 2 (.slice A Ln cap) Ln (itmCells L) ∧ (∀ q, v1'.ownBlock = some q → (Value.slice A Ln cap).ownBlock ≠ some q) ∧ ChB B [76, 111, 114, 124] w wr) (fun i _ => Ln - (intOf i).toNat)
      case atStart => exact ⟨0, v1, rfl, Nat.zero_le _, by simpa using h4, hd4, hne4, C4⟩
      case round =>
        obtain ⟨j, va, rfl, hj, hV, hD, hN, hC⟩ := hrel
        by_cases hlt : j < Ln
        · have hjL : j < L.length := by rw [HLn.out]; exact hlt
          obtain ⟨e1, e2⟩ := itmCells_get L j _ (List.getElem?_eq_getElem hjL)
          have hx2 : (L.take (j + 1)).foldl putL On = putL ((L.take j).foldl putL On) L[j] := by rw [List.take_succ_eq_append_getElem hjL, List.foldl_append]; rfl
          obtain ⟨gv, cv, hge, _, hgl, _, _, hcell, _⟩ := own_at hD (by omega)
          injection hge with hA _ hc
          subst hA hc
          have y0 : wr.cell? ⟨gv, j * 2, none⟩ = _ := hcell _ _ e1
          have y1 : wr.cell? ⟨gv, j * 2 + 1, none⟩ = _ := hcell _ _ e2
          have HX := Lib.hid hx2
          clear hx2 e1 e2 hcell
          have hput : ((L.take j).foldl putL On).length ≤ 64 := foldl_put_len _ _ hon
          generalize (L.take j).foldl putL On = On2 at hV HX hput
          generalize L[j] = x at y0 y1 HX
          obtain ⟨xa, xc⟩ := x
          simp only at y0 y1
          have zr : B ≤ wr.heap.size := Nat.le_trans hBw hC.size
          have hN' : ∀ q, va.ownBlock = some q → gv ≠ q := fun q hq e => hN q hq (by simp [Value.ownBlock, e])
          clear hN
          go_wp2_with fail
          have ca := (Ch.refl [] wr).alloc (.cells #[.int .i64 xa, .string xc] 76)
          have V1 := hV.chB (ca.toB0 (B := B))
          have D1 := own_ch hD ca (by simp)
          have Y1 := Blk.new wr 76 #[.int .i64 xa, .string xc]
          have C1 : ChB B [76, 111, 114, 124] w _ := hC.trans ca.toB0
          have z1 : B ≤ (wr.alloc (.cells #[.int .i64 xa, .string xc] 76)).heap.size := Nat.le_trans zr ca.size
          have hs1 : gv < (wr.alloc (.cells #[.int .i64 xa, .string xc] 76)).heap.size := Nat.lt_of_lt_of_le hgl ca.size
          clear hV hD hC zr ca y0 y1 hgl
          generalize wr.alloc _ = wa at V1 D1 Y1 C1 z1 hs1 ⊢
          generalize wr.heap.size = xb at Y1 ⊢
          have y0 := Y1.cell 0
          have y1 := Y1.cell 1
          simp at y0 y1
          have c0 := (Ch.refl [] wa).drew
          have V2 := V1.chB (c0.toB0 (B := B))
          have D2 := own_ch D1 c0 (by simp)
          have C2 : ChB B [76, 111, 114, 124] w wa.drew := C1.trans c0.toB0
          have z2 : B ≤ wa.drew.heap.size := z1
          have hs2 : gv < wa.drew.heap.size := hs1
          clear V1 D1 C1 c0 z1 hs1
          go_still_tail 4, (by kernel_rfl)
          clear y0 y1 Y1
          change wpList _ _ _ _ _ wa.drew
          generalize wa.drew = wb at *
          go_wp2_with fail
          refine (put_item_at B l _ va On2 (xa, xc) wb V2.hl V2.b rfl V2.on z2 hput).mono ?_
          rintro e5 w5 ⟨rfl, vb, hb5, hr5, c5, hloc⟩
          have d5 := V2.wayA c5
          have V5 := V2.onto d5 hb5 hr5
          have C5 : ChB B [76, 111, 114, 124] w w5 := C2.trans (d5.wide (by simp))
          have hgl2 : gv ≠ l := by
            rcases own_form D2 with ⟨h0, _⟩ | ⟨gv', cap', cur', h0, _, hb', _⟩
            · cases h0
            · injection h0 with h0
              injection h0 with h0
              injection h0 with h0
              subst h0
              exact hb'.ne_ V2.b (by decide)
          have D5 := own_ch D2 c5 (fun q hq hm => by
            simp [Value.ownBlock] at hq
            subst hq
            rcases List.mem_cons.1 hm with hm | hm
            · exact hgl2 hm
            · exact hN' _ (by simpa using hm) rfl)
          have N5 : ∀ q, vb.ownBlock = some q → (Value.slice (some ⟨gv, 0, none⟩) Ln cap).ownBlock ≠ some q := fun q hq he => by
            simp [Value.ownBlock] at he
            rcases hloc q hq with h1 | h1
            · exact hN' q h1 he
            · omega
          have hput2 : putL On2 (xa, xc) = (L.take (j + 1)).foldl putL On := HX.out.symm
          rw [hput2] at V5
          clear V2 D2 C2 hb5 hr5 c5 hloc d5 hput2
          go_wp2_with fail
          go_roundw
          case rel => exact ⟨j + 1, vb, by simp, by omega, V5, D5, N5, C5⟩
          case measure => simp [intOf]; omega
        · obtain rfl : j = Ln := by omega
          have hfull : L.take j = L := List.take_of_length_le (by rw [HLn.out]; exact Nat.le_refl _)
          rw [hfull] at hV
          clear hfull
          go_wp2_with fail
          go_ret
          exact ⟨rfl, ⟨_, hV⟩, hC⟩
    · obtain rfl : nn = now := by rw [← hn]; unfold tickN; rw [if_neg (by omega)]
      clear hn q1 q2
      have hw := h
      go_enter Try.func58, Try.ntmps58
      go_wp2_with fail
      clear a4 f4 h0 h1 h
      have hw0 : ∃ w0, w0 = w := ⟨_, rfl⟩
      obtain ⟨w0, hw0⟩ := hw0
      have C0 : ChB B [76, 111, 114, 124] w w0 := by rw [hw0]; exact ChB.refl _ _ _
      have hw : LineV w0 B l g r gc win wt cr T gone last had ow On Bk nn Out room store v1 v2 v3 := by rw [hw0]; exact hw
      rw [← hw0]
      clear hw0
      have n2 : (0 : Int) ≤ nn := by omega
      have n3 : nn ≤ 2000000000000000 := by omega
      have z0 : B ≤ w0.heap.size := Nat.le_trans hBw C0.size
      have a0 := hw.b.cell 0
      have a4 := hw.b.cell 4
      simp at a0 a4
      have c0 := (Ch.refl [] w0).drew
      have h3 := hw.chB (c0.toB0 (B := B))
      have C3 : ChB B [76, 111, 114, 124] w w0.drew := C0.trans c0.toB0
      have z3 : B ≤ w0.drew.heap.size := z0
      clear hw C0 c0 z0
      go_still_tail 8, (by kernel_rfl)
      clear a0 a4
      change wpList _ _ _ _ _ w0.drew
      generalize w0.drew = w3 at *
      go_wp2_with fail
      obtain ⟨vs, hsnd⟩ := h3.s
      refine (due_v B g 1 win wt cr gone last nn T vs w3 hsnd hs z3 n3 n2).mono ?_
      rintro e4 w4 ⟨dv, rfl, hd4, hs4, c4⟩
      rw [HL.out, HLn.out] at hd4
      have h4 := h3.sent c4 hs4
      have C4 : ChB B [76, 111, 114, 124] w w4 := C3.trans (c4.wide (by simp))
      have z4 : B ≤ w4.heap.size := Nat.le_trans z3 c4.size
      have hne4 := own_two' h4.on hd4 (.inr (fun q hq => by
        obtain ⟨_, cur, hc⟩ := h3.on.blocks q hq
        exact hc.lt))
      clear h3 C3 hs4 c4 hsnd
      rw [HT.out, HLa.out] at h4
      have hdb : ∀ q, dv.ownBlock = some q → q < w4.heap.size := fun q hq => by
        rcases own_form hd4 with ⟨rfl, _, _⟩ | ⟨gv, cap, cur, rfl, _, hb, _⟩
        · simp [Value.ownBlock] at hq
        · simp [Value.ownBlock] at hq; subst hq; exact hb.lt
      obtain ⟨A, cap, rfl, hcap⟩ := own_len hd4
      clear hdb
      skip
      go_wp2_with fail
      go_loopw [33] (fun i wr => ∃ (j : Nat) (v1' : Value), i = .int .i64 j ∧ j ≤ Ln ∧ LineV wr B l g r gc win wt cr T2 gone last2 had ow ((L.take j).foldl putL On) Bk nn Out room store v1' v2 v3 ∧ wr.ownsRow w3.heap.size 76 2 (.slice A Ln cap) Ln (itmCells L) ∧ (∀ q, v1'.ownBlock = some q → (Value.slice A Ln cap).ownBlock ≠ some q) ∧ ChB B [76, 111, 114, 124] w wr) (fun i _ => Ln - (intOf i).toNat)
      case atStart => exact ⟨0, v1, rfl, Nat.zero_le _, by simpa using h4, hd4, hne4, C4⟩
      case round =>
        obtain ⟨j, va, rfl, hj, hV, hD, hN, hC⟩ := hrel
        by_cases hlt : j < Ln
        · have hjL : j < L.length := by rw [HLn.out]; exact hlt
          obtain ⟨e1, e2⟩ := itmCells_get L j _ (List.getElem?_eq_getElem hjL)
          have hx2 : (L.take (j + 1)).foldl putL On = putL ((L.take j).foldl putL On) L[j] := by rw [List.take_succ_eq_append_getElem hjL, List.foldl_append]; rfl
          obtain ⟨gv, cv, hge, _, hgl, _, _, hcell, _⟩ := own_at hD (by omega)
          injection hge with hA _ hc
          subst hA hc
          have y0 : wr.cell? ⟨gv, j * 2, none⟩ = _ := hcell _ _ e1
          have y1 : wr.cell? ⟨gv, j * 2 + 1, none⟩ = _ := hcell _ _ e2
          have HX := Lib.hid hx2
          clear hx2 e1 e2 hcell
          have hput : ((L.take j).foldl putL On).length ≤ 64 := foldl_put_len _ _ hon
          generalize (L.take j).foldl putL On = On2 at hV HX hput
          generalize L[j] = x at y0 y1 HX
          obtain ⟨xa, xc⟩ := x
          simp only at y0 y1
          have zr : B ≤ wr.heap.size := Nat.le_trans hBw hC.size
          have hN' : ∀ q, va.ownBlock = some q → gv ≠ q := fun q hq e => hN q hq (by simp [Value.ownBlock, e])
          clear hN
          go_wp2_with fail
          have ca := (Ch.refl [] wr).alloc (.cells #[.int .i64 xa, .string xc] 76)
          have V1 := hV.chB (ca.toB0 (B := B))
          have D1 := own_ch hD ca (by simp)
          have Y1 := Blk.new wr 76 #[.int .i64 xa, .string xc]
          have C1 : ChB B [76, 111, 114, 124] w _ := hC.trans ca.toB0
          have z1 : B ≤ (wr.alloc (.cells #[.int .i64 xa, .string xc] 76)).heap.size := Nat.le_trans zr ca.size
          have hs1 : gv < (wr.alloc (.cells #[.int .i64 xa, .string xc] 76)).heap.size := Nat.lt_of_lt_of_le hgl ca.size
          clear hV hD hC zr ca y0 y1 hgl
          generalize wr.alloc _ = wa at V1 D1 Y1 C1 z1 hs1 ⊢
          generalize wr.heap.size = xb at Y1 ⊢
          have y0 := Y1.cell 0
          have y1 := Y1.cell 1
          simp at y0 y1
          have c0 := (Ch.refl [] wa).drew
          have V2 := V1.chB (c0.toB0 (B := B))
          have D2 := own_ch D1 c0 (by simp)
          have C2 : ChB B [76, 111, 114, 124] w wa.drew := C1.trans c0.toB0
          have z2 : B ≤ wa.drew.heap.size := z1
          have hs2 : gv < wa.drew.heap.size := hs1
          clear V1 D1 C1 c0 z1 hs1
          go_still_tail 4, (by kernel_rfl)
          clear y0 y1 Y1
          change wpList _ _ _ _ _ wa.drew
          generalize wa.drew = wb at *
          go_wp2_with fail
          refine (put_item_at B l _ va On2 (xa, xc) wb V2.hl V2.b rfl V2.on z2 hput).mono ?_
          rintro e5 w5 ⟨rfl, vb, hb5, hr5, c5, hloc⟩
          have d5 := V2.wayA c5
          have V5 := V2.onto d5 hb5 hr5
          have C5 : ChB B [76, 111, 114, 124] w w5 := C2.trans (d5.wide (by simp))
          have hgl2 : gv ≠ l := by
            rcases own_form D2 with ⟨h0, _⟩ | ⟨gv', cap', cur', h0, _, hb', _⟩
            · cases h0
            · injection h0 with h0
              injection h0 with h0
              injection h0 with h0
              subst h0
              exact hb'.ne_ V2.b (by decide)
          have D5 := own_ch D2 c5 (fun q hq hm => by
            simp [Value.ownBlock] at hq
            subst hq
            rcases List.mem_cons.1 hm with hm | hm
            · exact hgl2 hm
            · exact hN' _ (by simpa using hm) rfl)
          have N5 : ∀ q, vb.ownBlock = some q → (Value.slice (some ⟨gv, 0, none⟩) Ln cap).ownBlock ≠ some q := fun q hq he => by
            simp [Value.ownBlock] at he
            rcases hloc q hq with h1 | h1
            · exact hN' q h1 he
            · omega
          have hput2 : putL On2 (xa, xc) = (L.take (j + 1)).foldl putL On := HX.out.symm
          rw [hput2] at V5
          clear V2 D2 C2 hb5 hr5 c5 hloc d5 hput2
          go_wp2_with fail
          go_roundw
          case rel => exact ⟨j + 1, vb, by simp, by omega, V5, D5, N5, C5⟩
          case measure => simp [intOf]; omega
        · obtain rfl : j = Ln := by omega
          have hfull : L.take j = L := List.take_of_length_le (by rw [HLn.out]; exact Nat.le_refl _)
          rw [hfull] at hV
          clear hfull
          go_wp2_with fail
          go_ret
          exact ⟨rfl, ⟨_, hV⟩, hC⟩
  · obtain rfl : nn = now := by rw [← hn]; unfold tickN; rw [if_neg (by omega)]
    · clear hn q1 q2
      have hw := h
      go_enter Try.func58, Try.ntmps58
      go_wp2_with fail
      clear a4 f4 h0 h
      have hw0 : ∃ w0, w0 = w := ⟨_, rfl⟩
      obtain ⟨w0, hw0⟩ := hw0
      have C0 : ChB B [76, 111, 114, 124] w w0 := by rw [hw0]; exact ChB.refl _ _ _
      have hw : LineV w0 B l g r gc win wt cr T gone last had ow On Bk nn Out room store v1 v2 v3 := by rw [hw0]; exact hw
      rw [← hw0]
      clear hw0
      have n2 : (0 : Int) ≤ nn := by omega
      have n3 : nn ≤ 2000000000000000 := by omega
      have z0 : B ≤ w0.heap.size := Nat.le_trans hBw C0.size
      have a0 := hw.b.cell 0
      have a4 := hw.b.cell 4
      simp at a0 a4
      have c0 := (Ch.refl [] w0).drew
      have h3 := hw.chB (c0.toB0 (B := B))
      have C3 : ChB B [76, 111, 114, 124] w w0.drew := C0.trans c0.toB0
      have z3 : B ≤ w0.drew.heap.size := z0
      clear hw C0 c0 z0
      go_still_tail 8, (by kernel_rfl)
      clear a0 a4
      change wpList _ _ _ _ _ w0.drew
      generalize w0.drew = w3 at *
      go_wp2_with fail
      obtain ⟨vs, hsnd⟩ := h3.s
      refine (due_v B g 1 win wt cr gone last nn T vs w3 hsnd hs z3 n3 n2).mono ?_
      rintro e4 w4 ⟨dv, rfl, hd4, hs4, c4⟩
      rw [HL.out, HLn.out] at hd4
      have h4 := h3.sent c4 hs4
      have C4 : ChB B [76, 111, 114, 124] w w4 := C3.trans (c4.wide (by simp))
      have z4 : B ≤ w4.heap.size := Nat.le_trans z3 c4.size
      have hne4 := own_two' h4.on hd4 (.inr (fun q hq => by
        obtain ⟨_, cur, hc⟩ := h3.on.blocks q hq
        exact hc.lt))
      clear h3 C3 hs4 c4 hsnd
      rw [HT.out, HLa.out] at h4
      have hdb : ∀ q, dv.ownBlock = some q → q < w4.heap.size := fun q hq => by
        rcases own_form hd4 with ⟨rfl, _, _⟩ | ⟨gv, cap, cur, rfl, _, hb, _⟩
        · simp [Value.ownBlock] at hq
        · simp [Value.ownBlock] at hq; subst hq; exact hb.lt
      obtain ⟨A, cap, rfl, hcap⟩ := own_len hd4
      clear hdb
      skip
      go_wp2_with fail
      go_loopw [33] (fun i wr => ∃ (j : Nat) (v1' : Value), i = .int .i64 j ∧ j ≤ Ln ∧ LineV wr B l g r gc win wt cr T2 gone last2 had ow ((L.take j).foldl putL On) Bk nn Out room store v1' v2 v3 ∧ wr.ownsRow w3.heap.size 76 2 (.slice A Ln cap) Ln (itmCells L) ∧ (∀ q, v1'.ownBlock = some q → (Value.slice A Ln cap).ownBlock ≠ some q) ∧ ChB B [76, 111, 114, 124] w wr) (fun i _ => Ln - (intOf i).toNat)
      case atStart => exact ⟨0, v1, rfl, Nat.zero_le _, by simpa using h4, hd4, hne4, C4⟩
      case round =>
        obtain ⟨j, va, rfl, hj, hV, hD, hN, hC⟩ := hrel
        by_cases hlt : j < Ln
        · have hjL : j < L.length := by rw [HLn.out]; exact hlt
          obtain ⟨e1, e2⟩ := itmCells_get L j _ (List.getElem?_eq_getElem hjL)
          have hx2 : (L.take (j + 1)).foldl putL On = putL ((L.take j).foldl putL On) L[j] := by rw [List.take_succ_eq_append_getElem hjL, List.foldl_append]; rfl
          obtain ⟨gv, cv, hge, _, hgl, _, _, hcell, _⟩ := own_at hD (by omega)
          injection hge with hA _ hc
          subst hA hc
          have y0 : wr.cell? ⟨gv, j * 2, none⟩ = _ := hcell _ _ e1
          have y1 : wr.cell? ⟨gv, j * 2 + 1, none⟩ = _ := hcell _ _ e2
          have HX := Lib.hid hx2
          clear hx2 e1 e2 hcell
          have hput : ((L.take j).foldl putL On).length ≤ 64 := foldl_put_len _ _ hon
          generalize (L.take j).foldl putL On = On2 at hV HX hput
          generalize L[j] = x at y0 y1 HX
          obtain ⟨xa, xc⟩ := x
          simp only at y0 y1
          have zr : B ≤ wr.heap.size := Nat.le_trans hBw hC.size
          have hN' : ∀ q, va.ownBlock = some q → gv ≠ q := fun q hq e => hN q hq (by simp [Value.ownBlock, e])
          clear hN
          go_wp2_with fail
          have ca := (Ch.refl [] wr).alloc (.cells #[.int .i64 xa, .string xc] 76)
          have V1 := hV.chB (ca.toB0 (B := B))
          have D1 := own_ch hD ca (by simp)
          have Y1 := Blk.new wr 76 #[.int .i64 xa, .string xc]
          have C1 : ChB B [76, 111, 114, 124] w _ := hC.trans ca.toB0
          have z1 : B ≤ (wr.alloc (.cells #[.int .i64 xa, .string xc] 76)).heap.size := Nat.le_trans zr ca.size
          have hs1 : gv < (wr.alloc (.cells #[.int .i64 xa, .string xc] 76)).heap.size := Nat.lt_of_lt_of_le hgl ca.size
          clear hV hD hC zr ca y0 y1 hgl
          generalize wr.alloc _ = wa at V1 D1 Y1 C1 z1 hs1 ⊢
          generalize wr.heap.size = xb at Y1 ⊢
          have y0 := Y1.cell 0
          have y1 := Y1.cell 1
          simp at y0 y1
          have c0 := (Ch.refl [] wa).drew
          have V2 := V1.chB (c0.toB0 (B := B))
          have D2 := own_ch D1 c0 (by simp)
          have C2 : ChB B [76, 111, 114, 124] w wa.drew := C1.trans c0.toB0
          have z2 : B ≤ wa.drew.heap.size := z1
          have hs2 : gv < wa.drew.heap.size := hs1
          clear V1 D1 C1 c0 z1 hs1
          go_still_tail 4, (by kernel_rfl)
          clear y0 y1 Y1
          change wpList _ _ _ _ _ wa.drew
          generalize wa.drew = wb at *
          go_wp2_with fail
          refine (put_item_at B l _ va On2 (xa, xc) wb V2.hl V2.b rfl V2.on z2 hput).mono ?_
          rintro e5 w5 ⟨rfl, vb, hb5, hr5, c5, hloc⟩
          have d5 := V2.wayA c5
          have V5 := V2.onto d5 hb5 hr5
          have C5 : ChB B [76, 111, 114, 124] w w5 := C2.trans (d5.wide (by simp))
          have hgl2 : gv ≠ l := by
            rcases own_form D2 with ⟨h0, _⟩ | ⟨gv', cap', cur', h0, _, hb', _⟩
            · cases h0
            · injection h0 with h0
              injection h0 with h0
              injection h0 with h0
              subst h0
              exact hb'.ne_ V2.b (by decide)
          have D5 := own_ch D2 c5 (fun q hq hm => by
            simp [Value.ownBlock] at hq
            subst hq
            rcases List.mem_cons.1 hm with hm | hm
            · exact hgl2 hm
            · exact hN' _ (by simpa using hm) rfl)
          have N5 : ∀ q, vb.ownBlock = some q → (Value.slice (some ⟨gv, 0, none⟩) Ln cap).ownBlock ≠ some q := fun q hq he => by
            simp [Value.ownBlock] at he
            rcases hloc q hq with h1 | h1
            · exact hN' q h1 he
            · omega
          have hput2 : putL On2 (xa, xc) = (L.take (j + 1)).foldl putL On := HX.out.symm
          rw [hput2] at V5
          clear V2 D2 C2 hb5 hr5 c5 hloc d5 hput2
          go_wp2_with fail
          go_roundw
          case rel => exact ⟨j + 1, vb, by simp, by omega, V5, D5, N5, C5⟩
          case measure => simp [intOf]; omega
        · obtain rfl : j = Ln := by omega
          have hfull : L.take j = L := List.take_of_length_le (by rw [HLn.out]; exact Nat.le_refl _)
          rw [hfull] at hV
          clear hfull
          go_wp2_with fail
          go_ret
          exact ⟨rfl, ⟨_, hV⟩, hC⟩
theorem send_c (t nn : Int) (L : List Itm) (h : LineV w B l g r gc win wt cr T gone last had ow On Bk now Out room store v1 v2 v3) (hb : LineB win wt cr T gone last had On Bk now Out room store) (hBw : B ≤ w.heap.size) (hn : tickN now t = nn) (hL : dueL wt last gone nn T = L) :
    Calls Try.prog 58 #[.pointer (some ⟨l, 0, none⟩), .int .i64 t] w fun e w' => e = .returned (.int .i64 L.length) ∧ (∃ v1', LineV w' B l g r gc win wt cr (dueT wt last gone nn T) gone (dueLast wt last gone nn T) had ow (L.foldl putL On) Bk nn Out room store v1' v2 v3) ∧ ChB B [76, 111, 114, 124] w w' :=
  send_c0 B l g r gc win wt cr gone last had now room store T ow On Bk Out v1 v2 v3 w t nn L _ _ _ h hb hBw hn hL rfl rfl rfl
end
end Go.Proofs.Ytejmcfgmopijkaa
