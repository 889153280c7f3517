/- The reference's sender: Due, of any time: what is due, the marks, the last time. -/
import Derived.Test.YtejmcfgmopijkaaRSnd2
import Derived.BigQuiet
import Derived.Deep.Cut
import Derived.Deep.DeepCutAuto
namespace Go.Proofs.Ytejmcfgmopijkaa
open Go.RowKit
set_option linter.unusedVariables false
set_option linter.unusedSimpArgs false

/-- Of the texts behind the first a the first k are marked as sent. -/
def markX (a k : Nat) (X : List Txt) : List Txt := X.take a ++ markN k (X.drop a)
theorem markX_zero (a : Nat) (X : List Txt) : markX a 0 X = X := by simp [markX, markN_zero]
theorem markX_len (a k : Nat) (X : List Txt) : (markX a k X).length = X.length := by simp [markX, markN_len]; omega
theorem markX_all {a : Nat} {X : List Txt} {k : Nat} (h : a + k = X.length) : markX a k X = X.take a ++ (X.drop a).map fun x => (x.1, true) := by
  have e : k = (X.drop a).length := by simp; omega
  unfold markX
  rw [e, markN_all]
theorem markN_fst (k : Nat) (T : List Txt) : (markN k T).map (·.1) = T.map (·.1) := by
  conv => rhs; rw [← List.take_append_drop k T]
  simp only [markN, List.map_append, List.map_map]
  rfl
theorem strs_mark (a k : Nat) (X : List Txt) : strs (markX a k X) = strs X := by
  have h : (markX a k X).map (·.1) = X.map (·.1) := by
    conv => rhs; rw [← List.take_append_drop a X]
    simp only [markX, List.map_append, markN_fst]
  have e : ∀ Y : List Txt, strs Y = (Y.map (·.1)).map Value.string := fun Y => by simp [strs]
  rw [e, e, h]
theorem markX_succ {a k : Nat} {X : List Txt} (h : a + k < X.length) : bools (markX a (k + 1) X) = (bools (markX a k X)).set (a + k) (.bool true) := by
  have hd : k < (X.drop a).length := by simp; omega
  have ht : (X.take a).length = a := by simp; omega
  have e : markX a (k + 1) X = (markX a k X).set (a + k) ((X.drop a)[k].1, true) := by
    unfold markX
    rw [← markN_succ k _ hd, List.set_append_right _ _ (by omega), ht, Nat.add_sub_cancel_left]
  rw [e]
  unfold bools
  rw [List.map_set]

/-- Are all due again? -/
def rallB (wait last now : Int) (T : List Txt) : Bool := T.any (·.2) && decide (last + wait ≤ max now last)
def rdueL (wait last now : Int) (had : Nat) (X : List Txt) : List Itm := itemsOf (fun x : Txt => rallB wait last now (X.drop had) || !x.2) had (X.drop had)
def RDueRet (B h : Nat) (ep win wait cr : Int) (X : List Txt) (had : Nat) (last now : Int) (w : World) (r : Ending) (w' : World) : Prop :=
  ∃ v', r = .returned v' ∧ w'.ownsRow w.heap.size 115 2 v' (rdueL wait last now had X).length (itmCells (rdueL wait last now had X)) ∧ SndR w' B h ep win wait cr (X.take had ++ (X.drop had).map fun x => (x.1, true)) had (if rdueL wait last now had X = [] then last else max now last) ∧ ChB B [71, 4] w w'

set_option maxHeartbeats 8000000 in
set_option maxRecDepth 100000 in
theorem rdue_fwd (B h : Nat) (ep win wait cr last now : Int) (X : List Txt) (had : Nat) (vl vs : Value) (w : World) (r : SndRV w B h ep win wait cr X had last vl vs) (hBw : B ≤ w.heap.size) (hX : had ≤ X.length) (hXl : X.length ≤ 1000)
    (hwt : 1 ≤ wait ∧ wait ≤ 1000) (hl : 0 ≤ last ∧ last ≤ 1000000000000000) (hn : 0 ≤ now ∧ now ≤ 2000000000000000) (hnl : last ≤ now) :
    Calls Try.prog 38 #[.pointer (some ⟨h, 0, none⟩), .int .i64 now] w (RDueRet B h ep win wait cr X had last now w) := by
  obtain ⟨i0, hi, hz0, hz1, hz2⟩ := info_parts info115
  have hmx : max now last = now := by omega
  have HMX := Lib.hid hmx
  clear hmx
  have hhB := r.hB
  have O0 : (w.alloc (.cells #[] 115)).ownsRow w.heap.size 115 2 (.slice (some ⟨w.heap.size, 0, none⟩) 0 0) 0 [] := ⟨rfl, .inr ⟨w.heap.size, 0, #[], rfl, Nat.le_refl _, Blk.new w 115 #[], by omega, by unfold maxLen; omega, rfl, rfl⟩⟩
  have C0 : Ch [] w (w.alloc (.cells #[] 115)) := (Ch.refl [] w).alloc _
  have r0 := r.chB (C0.toB0 (B := B) (Ts := [])) (by simp) (by simp) (by simp)
  obtain ⟨A, cap, hv, _⟩ := own_len r.l
  subst hv
  obtain ⟨A2, cap2, hv2, _⟩ := own_len r.s
  subst hv2
  have b6 := r0.b.cell 6
  have b7 := r0.b.cell 7
  have b4 := r0.b.cell 4
  simp at b6 b7 b4
  go_enter Try.func38, Try.ntmps38
  go_upto_region 2 with (fail)
  generalize w.alloc _ = w0 at O0 C0 r0 b6 b7 b4 ⊢
  obtain ⟨g0, hg0⟩ : ∃ g0, g0 = w.heap.size := ⟨_, rfl⟩
  rw [← hg0]
  have O1 : w0.ownsRow w.heap.size 115 2 (.slice (some ⟨g0, 0, none⟩) 0 0) 0 [] := by rw [hg0]; exact O0
  clear O0 hg0
  go_wp2_with fail
  go_loopw [6, 7] (fun sm i wr => ∃ k : Nat, sm = .bool (((X.drop had).take k).any (·.2)) ∧ i = .int .i64 ((had : Int) + k) ∧ had + k ≤ X.length ∧ Ch [] w0 wr) (fun _ i _ => (X.length - intOf i).toNat)
  case atStart => exact ⟨0, by simp, by simp, by omega, Ch.refl _ _⟩
  case round =>
    obtain ⟨k, rfl, rfl, hk, hC⟩ := hrel
    clear b6 b7 b4
    have b4 := (r0.b.ch hC (by simp)).cell 4
    have b5 := (r0.b.ch hC (by simp)).cell 5
    simp at b4 b5
    by_cases hlt : had + k < X.length
    · have hx : (X.drop had)[k]? = some X[had + k] := by rw [List.getElem?_drop]; exact List.getElem?_eq_getElem hlt
      have hts : ((X.drop had).take (k + 1)).any (·.2) = (((X.drop had).take k).any (·.2) || X[had + k].2) := by
        rw [List.take_add_one, hx, Option.toList_some, List.any_append]; simp
      obtain ⟨gb, capb, he, c0⟩ := bools_at (own_ch r0.s hC (by simp)) hlt
      injection he with hA _ hcp
      subst hA hcp
      generalize X[had + k] = x at hts c0
      have Hts := Lib.hid hts
      have e8 : ((had : Int) + k).toNat = had + k := by omega
      have e9 : (had : Int) + k < (X.length : Int) := by omega
      have e10 : 0 ≤ (had : Int) + k := by omega
      have e6 : IntKind.i64.wrap ((had : Int) + k + 1) = had + k + 1 := IntWalk.i64_in _ (by omega)
      generalize hs : ((X.drop had).take k).any (·.2) = sb
      have Hs := Lib.hid hs
      clear hts hs r r0 O1 C0 hx
      cases sb
      · go_wp2_with fail
        go_roundw
        case rel => exact ⟨k + 1, by rw [Hts.out, Hs.out]; simp, by simp; omega, by omega, hC⟩
        case measure => simp [intOf]; omega
      · go_wp2_with fail
        go_roundw
        case rel => exact ⟨k + 1, by rw [Hts.out, Hs.out]; simp, by simp; omega, by omega, hC⟩
        case measure => simp [intOf]; omega
    · have hk2 : k = (X.drop had).length := by rw [List.length_drop]; omega
      have e1 : (X.drop had).take k = X.drop had := by rw [hk2]; exact List.take_length
      rw [e1]
      have e2 : ¬ (had : Int) + k < (X.length : Int) := by omega
      have O2 := own_ch O1 hC (by simp)
      have C2 : Ch [] w wr := C0.trans hC
      have r2 := r0.chB (hC.toB0 (B := B) (Ts := [])) (by simp) (by simp) (by simp)
      have b2 := r2.b.cell 2
      have b7 := r2.b.cell 7
      simp at b2 b7
      have e3 : IntKind.i64.wrap (last + wait) = last + wait := IntWalk.i64_in _ (by omega)
      clear O1 hC C0 r0 e1 hk2
      have hal : rallB wait last now (X.drop had) = ((X.drop had).any (·.2) && decide (last + wait ≤ now)) := by unfold rallB; rw [HMX.out]
      have HAL := Lib.hid hal
      clear hal
      generalize (X.drop had).any (·.2) = sb at HAL ⊢
      go_upto_region 8 with (fail)
      go_cut [8] (fun v8 wc => v8 = .bool (sb && decide (last + wait ≤ now)) ∧ Ch [] wr wc)
      case first =>
        cases sb
        · go_quiet (fail)
          (try go_wp2_with fail); go_meet
          case rel => exact ⟨by simp, by first | exact Ch.refl _ _ | exact (Ch.refl [] wr).drewN _⟩
        · by_cases hge : last + wait ≤ now
          · go_quiet (fail)
            (try go_wp2_with fail); go_meet
            case rel => exact ⟨by simp [hge], by first | exact Ch.refl _ _ | exact (Ch.refl [] wr).drewN _⟩
          · go_quiet (fail)
            (try go_wp2_with fail); go_meet
            case rel => exact ⟨by simp [hge], by first | exact Ch.refl _ _ | exact (Ch.refl [] wr).drewN _⟩
      case rest =>
        obtain ⟨rfl, hC3⟩ := hcut
        have C3 : Ch [] w wc := C2.trans hC3
        have O3 := own_ch O2 hC3 (by simp)
        have r3 := r2.chB (hC3.toB0 (B := B) (Ts := [])) (by simp) (by simp) (by simp)
        clear O2 C2 r2 b2 b7 b4 b5 hC3
        generalize (sb && decide (last + wait ≤ now)) = al at HAL ⊢
        have b6 := r3.b.cell 6
        simp at b6
        clear r3
        have hLd : rdueL wait last now had X = itemsOf (fun x : Txt => al || !x.2) had (X.drop had) := by unfold rdueL; rw [HAL.out]
        have HL := Lib.hid hLd
        clear hLd HAL
        go_wp2_with fail
        go_loopw [5, 9] (fun o i wr => ∃ k : Nat, i = .int .i64 ((had : Int) + k) ∧ had + k ≤ X.length ∧ wr.ownsRow w.heap.size 115 2 o (itemsOf (fun x : Txt => al || !x.2) had ((X.drop had).take k)).length (itmCells (itemsOf (fun x : Txt => al || !x.2) had ((X.drop had).take k))) ∧ Ch [] w wr) (fun _ i _ => (X.length - intOf i).toNat)
        case atStart => exact ⟨0, by simp, by omega, by simpa [itemsOf, itmCells] using O3, C3⟩
        case round =>
          obtain ⟨k, rfl, hk, hown, hC⟩ := hrel
          clear O3 C3 b6
          have rr := r.chB (hC.toB0 (B := B) (Ts := [])) (by simp) (by simp) (by simp)
          have b4 := rr.b.cell 4
          have b5 := rr.b.cell 5
          simp at b4 b5
          by_cases hlt : had + k < X.length
          · have hx : (X.drop had)[k]? = some X[had + k] := by rw [List.getElem?_drop]; exact List.getElem?_eq_getElem hlt
            have hts : itemsOf (fun x : Txt => al || !x.2) had ((X.drop had).take (k + 1)) = itemsOf (fun x : Txt => al || !x.2) had ((X.drop had).take k) ++ (if (al || !X[had + k].2) = true then [((had : Int) + k + 1, X[had + k].1)] else []) := by
              rw [List.take_add_one, hx, Option.toList_some, itemsOf_snoc, List.length_take, List.length_drop, Nat.min_eq_left (by omega)]
            have hl2 := itemsOf_len (fun x : Txt => al || !x.2) ((X.drop had).take k) had
            have hl3 : ((X.drop had).take k).length ≤ 1000 := by simp; omega
            obtain ⟨gl, capl, he, d0⟩ := strs_at rr.l hlt
            injection he with hA _ hcp
            subst hA hcp
            obtain ⟨gb, capb, he, c0⟩ := bools_at rr.s hlt
            injection he with hA _ hcp
            subst hA hcp
            generalize X[had + k] = x at hts c0 d0
            obtain ⟨xs, xb⟩ := x
            simp only at hts c0 d0
            generalize hLk : itemsOf (fun x : Txt => al || !x.2) had ((X.drop had).take k) = L at hown hl2 hts
            have hL3 : L.length ≤ 1000 := by omega
            have e8 : ((had : Int) + k).toNat = had + k := by omega
            have e9 : (had : Int) + k < (X.length : Int) := by omega
            have e10 : 0 ≤ (had : Int) + k := by omega
            have e6 : IntKind.i64.wrap ((had : Int) + k + 1) = had + k + 1 := IntWalk.i64_in _ (by omega)
            have oo := hown.alloc (.cells #[.int .i64 ((had : Int) + k + 1), .string xs] 115)
            have cc := hC.alloc (.cells #[.int .i64 ((had : Int) + k + 1), .string xs] 115)
            have zz := cc.size
            clear hLk hx hl3 r rr
            have Hts := Lib.hid hts
            clear hts
            cases al
            · cases xb
              · have hL2 : itemsOf (fun x : Txt => false || !x.2) had ((X.drop had).take (k + 1)) = L ++ [((had : Int) + k + 1, xs)] := by rw [Hts.out]; simp
                have HL2 := Lib.hid hL2
                clear hL2 Hts hown hC
                go_wp2_with (at_builtin; refine wpList_append_any _ rfl (.tmp 83) (.tmp 94) 63 rfl w.heap.size 115 i0 _ 2 24 Try.underlying63 hi hz0 hz1 hz2 rfl (by decide) _ _ _ rfl oo _ _ 1 1 _ rfl (Reads.of_blk (size := 2) (n := 1) (Blk.new wr 115 #[.int .i64 ((had : Int) + k + 1), .string xs]) rfl) (by simp [Value.oneCell']) (by unfold maxLen; omega) (by omega) zz ?_)
                intro v2 w2 own2 grow2 _
                have C2 := cc.grown grow2 (fun q hq => .inr (oo.lt q hq).1)
                clear cc oo grow2
                go_wp2_with fail
                go_roundw
                case rel => exact ⟨k + 1, by simp; omega, by omega, by rw [HL2.out, List.length_append, itmCells_append]; exact own2, C2⟩
                case measure => simp [intOf]; omega
              · have hL2 : itemsOf (fun x : Txt => false || !x.2) had ((X.drop had).take (k + 1)) = L := by rw [Hts.out]; simp
                have HL2 := Lib.hid hL2
                clear hL2 Hts oo cc zz
                go_wp2_with fail
                go_roundw
                case rel => exact ⟨k + 1, by simp; omega, by omega, by rw [HL2.out]; exact hown, hC⟩
                case measure => simp [intOf]; omega
            · have hL2 : itemsOf (fun x : Txt => true || !x.2) had ((X.drop had).take (k + 1)) = L ++ [((had : Int) + k + 1, xs)] := by rw [Hts.out]; simp
              have HL2 := Lib.hid hL2
              clear hL2 Hts hown hC
              go_wp2_with (at_builtin; refine wpList_append_any _ rfl (.tmp 83) (.tmp 94) 63 rfl w.heap.size 115 i0 _ 2 24 Try.underlying63 hi hz0 hz1 hz2 rfl (by decide) _ _ _ rfl oo _ _ 1 1 _ rfl (Reads.of_blk (size := 2) (n := 1) (Blk.new wr 115 #[.int .i64 ((had : Int) + k + 1), .string xs]) rfl) (by simp [Value.oneCell']) (by unfold maxLen; omega) (by omega) zz ?_)
              intro v2 w2 own2 grow2 _
              have C2 := cc.grown grow2 (fun q hq => .inr (oo.lt q hq).1)
              clear cc oo grow2
              go_wp2_with fail
              go_roundw
              case rel => exact ⟨k + 1, by simp; omega, by omega, by rw [HL2.out, List.length_append, itmCells_append]; exact own2, C2⟩
              case measure => simp [intOf]; omega
          · have hk2 : k = (X.drop had).length := by rw [List.length_drop]; omega
            have e1 : (X.drop had).take k = X.drop had := by rw [hk2]; exact List.take_length
            rw [e1, ← HL.out] at hown
            have e2 : ¬ (had : Int) + k < (X.length : Int) := by omega
            generalize hLL : rdueL wait last now had X = L at hown HL
            have HLL := Lib.hid hLL
            have hLlen : L.length ≤ 1000 := by
              have := itemsOf_len (fun x : Txt => al || !x.2) (X.drop had) had
              rw [HL.out]
              have h2 : (X.drop had).length ≤ X.length := by simp
              omega
            clear hLL HL e1 hk2
            obtain ⟨Ao, co, he, _⟩ := own_len hown
            subst he
            have b6 := rr.b.cell 6
            simp at b6
            have hC1 : ChB B [71, 4] w wr := hC.toB0
            clear hC hlt
            go_wp2_with fail
            go_loopw [10] (fun i wr => ∃ k : Nat, i = .int .i64 ((had : Int) + k) ∧ had + k ≤ X.length ∧ SndRV wr B h ep win wait cr (markX had k X) had last (.slice A X.length cap) (.slice A2 X.length cap2) ∧ wr.ownsRow w.heap.size 115 2 (.slice Ao L.length co) L.length (itmCells L) ∧ ChB B [71, 4] w wr) (fun i _ => (X.length - intOf i).toNat)
            case atStart => exact ⟨0, by simp, by omega, by rw [markX_zero]; exact rr, hown, hC1⟩
            case round =>
              clear rr hown hC1 b4 b5 b6 e2
              obtain ⟨k, rfl, hk, S, ho, hC⟩ := hrel
              have b4 := S.b.cell 4
              have b5 := S.b.cell 5
              simp at b4 b5
              by_cases hlt : had + k < X.length
              · have hr := S.s
                have hsl := S.l
                rw [markX_len] at hr hsl
                rw [strs_mark] at hsl
                obtain ⟨gv, cap3, he, hgB, _, _, _, hcells, hfz⟩ := own_at hr (by omega)
                injection he with hA _ hcp
                subst hA hcp
                have hml : had + k < (markX had k X).length := by rw [markX_len]; exact hlt
                have c2 := hcells (had + k) (.bool (markX had k X)[had + k].2) (by simp [bools, List.getElem?_eq_getElem hml])
                have f2 := hfz (had + k)
                have hst := hr.stored (had + k) (.bool true)
                rw [← markX_succ hlt] at hst
                have hne := own_ne hr S.b (by decide)
                have hgne : h ≠ gv := fun e => hne (by rw [e]; rfl)
                have S' : SndRV (wr.setCell ⟨gv, had + k, none⟩ (.bool true)) B h ep win wait cr (markX had (k + 1) X) had last (.slice A X.length cap) (.slice (some ⟨gv, 0, none⟩) X.length cap2) :=
                  ⟨hhB, S.b.far (p := ⟨gv, had + k, none⟩) hgne _, by
                    rw [markX_len, strs_mark]
                    exact own_ch hsl ((Ch.refl [gv] wr).setCell (p := ⟨gv, had + k, none⟩) (.inl (by simp)) (.bool true)) (fun q hq hm => own_two hsl hr (by decide) q hq (by rw [List.mem_singleton.1 hm]; rfl)), by rw [markX_len]; exact hst.1⟩
                have ho' := own_ch ho ((Ch.refl [gv] wr).setCell (p := ⟨gv, had + k, none⟩) (.inl (by simp)) (.bool true)) (fun q hq hm => own_two ho hr (by decide) q hq (by rw [List.mem_singleton.1 hm]; rfl))
                have hC' : ChB B [71, 4] w (wr.setCell ⟨gv, had + k, none⟩ (.bool true)) := ChB.grown (v := .slice (some ⟨gv, 0, none⟩) X.length cap2) hC hst.2 hr (Nat.le_refl _) (by simp)
                generalize (markX had k X)[had + k].2 = bo at c2
                have e8 : ((had : Int) + k).toNat = had + k := by omega
                have e9 : (had : Int) + k < (X.length : Int) := by omega
                have e10 : 0 ≤ (had : Int) + k := by omega
                have e6 : IntKind.i64.wrap ((had : Int) + k + 1) = had + k + 1 := IntWalk.i64_in _ (by omega)
                clear hcells hfz hst hne hr S ho hC hsl hml r
                go_wp2_with fail
                go_roundw
                case rel => exact ⟨k + 1, by simp; omega, by omega, S', ho', hC'⟩
                case measure => simp [intOf]; omega
              · have hk3 : had + k = X.length := by omega
                have e2 : ¬ (had : Int) + k < (X.length : Int) := by omega
                rw [markX_all hk3] at S
                clear hk3 hlt
                by_cases hE : L = []
                · have hret : RDueRet B h ep win wait cr X had last now w (.returned (.slice Ao L.length co)) wr := by
                    unfold RDueRet
                    rw [HLL.out, if_pos hE]
                    exact ⟨_, rfl, ho, ⟨_, _, S⟩, hC⟩
                  have Hret := Lib.hid hret
                  have hz : ¬ 0 < (L.length : Int) := by rw [hE]; simp
                  clear hret hE S ho hC r
                  go_wp2_with fail
                  go_ret
                  exact Hret.out
                · have hz : 0 < (L.length : Int) := by have := List.length_pos_iff.2 hE; omega
                  have b7 := S.b.cell 7
                  have f7 := S.b.frozen 7
                  have b8 := S.b.set_ 7 (.int .i64 now)
                  have n1 := own_ne S.l S.b (by decide)
                  have n2 := own_ne S.s S.b (by decide)
                  have n3 := own_ne ho S.b (by decide)
                  have CC := (Ch.refl [h] wr).setCell (p := ⟨h, 7, none⟩) (.inl (by simp)) (.int .i64 now)
                  have l7 := own_ch S.l CC (fun q hq hm => n1 (by rw [List.mem_singleton.1 hm] at hq; exact hq.symm))
                  have s7 := own_ch S.s CC (fun q hq hm => n2 (by rw [List.mem_singleton.1 hm] at hq; exact hq.symm))
                  have o7 := own_ch ho CC (fun q hq hm => n3 (by rw [List.mem_singleton.1 hm] at hq; exact hq.symm))
                  have C7 : ChB B [71, 4] w (wr.setCell ⟨h, 7, none⟩ (.int .i64 now)) := hC.setCell (p := ⟨h, 7, none⟩) hhB S.b (by simp) _
                  have hret : RDueRet B h ep win wait cr X had last now w (.returned (.slice Ao L.length co)) (wr.setCell ⟨h, 7, none⟩ (.int .i64 now)) := by
                    unfold RDueRet
                    rw [HLL.out, if_neg hE, HMX.out]
                    exact ⟨_, rfl, o7, ⟨_, _, ⟨hhB, by simpa using b8, l7, s7⟩⟩, C7⟩
                  have Hret := Lib.hid hret
                  simp at b7
                  clear hret hE S ho hC l7 s7 o7 C7 CC b8 n1 n2 n3 r
                  go_wp2_with fail
                  go_ret
                  exact Hret.out

set_option maxHeartbeats 8000000 in
set_option maxRecDepth 100000 in
theorem rdue_back (B h : Nat) (ep win wait cr last now : Int) (X : List Txt) (had : Nat) (vl vs : Value) (w : World) (r : SndRV w B h ep win wait cr X had last vl vs) (hBw : B ≤ w.heap.size) (hX : had ≤ X.length) (hXl : X.length ≤ 1000)
    (hwt : 1 ≤ wait ∧ wait ≤ 1000) (hl : 0 ≤ last ∧ last ≤ 1000000000000000) (hn : 0 ≤ now ∧ now ≤ 2000000000000000) (hnl : now < last) :
    Calls Try.prog 38 #[.pointer (some ⟨h, 0, none⟩), .int .i64 now] w (RDueRet B h ep win wait cr X had last now w) := by
  obtain ⟨i0, hi, hz0, hz1, hz2⟩ := info_parts info115
  have hmx : max now last = last := by omega
  have HMX := Lib.hid hmx
  clear hmx
  have hhB := r.hB
  have O0 : (w.alloc (.cells #[] 115)).ownsRow w.heap.size 115 2 (.slice (some ⟨w.heap.size, 0, none⟩) 0 0) 0 [] := ⟨rfl, .inr ⟨w.heap.size, 0, #[], rfl, Nat.le_refl _, Blk.new w 115 #[], by omega, by unfold maxLen; omega, rfl, rfl⟩⟩
  have C0 : Ch [] w (w.alloc (.cells #[] 115)) := (Ch.refl [] w).alloc _
  have r0 := r.chB (C0.toB0 (B := B) (Ts := [])) (by simp) (by simp) (by simp)
  obtain ⟨A, cap, hv, _⟩ := own_len r.l
  subst hv
  obtain ⟨A2, cap2, hv2, _⟩ := own_len r.s
  subst hv2
  have b6 := r0.b.cell 6
  have b7 := r0.b.cell 7
  have b4 := r0.b.cell 4
  simp at b6 b7 b4
  go_enter Try.func38, Try.ntmps38
  go_upto_region 2 with (fail)
  generalize w.alloc _ = w0 at O0 C0 r0 b6 b7 b4 ⊢
  obtain ⟨g0, hg0⟩ : ∃ g0, g0 = w.heap.size := ⟨_, rfl⟩
  rw [← hg0]
  have O1 : w0.ownsRow w.heap.size 115 2 (.slice (some ⟨g0, 0, none⟩) 0 0) 0 [] := by rw [hg0]; exact O0
  clear O0 hg0
  go_wp2_with fail
  go_loopw [6, 7] (fun sm i wr => ∃ k : Nat, sm = .bool (((X.drop had).take k).any (·.2)) ∧ i = .int .i64 ((had : Int) + k) ∧ had + k ≤ X.length ∧ Ch [] w0 wr) (fun _ i _ => (X.length - intOf i).toNat)
  case atStart => exact ⟨0, by simp, by simp, by omega, Ch.refl _ _⟩
  case round =>
    obtain ⟨k, rfl, rfl, hk, hC⟩ := hrel
    clear b6 b7 b4
    have b4 := (r0.b.ch hC (by simp)).cell 4
    have b5 := (r0.b.ch hC (by simp)).cell 5
    simp at b4 b5
    by_cases hlt : had + k < X.length
    · have hx : (X.drop had)[k]? = some X[had + k] := by rw [List.getElem?_drop]; exact List.getElem?_eq_getElem hlt
      have hts : ((X.drop had).take (k + 1)).any (·.2) = (((X.drop had).take k).any (·.2) || X[had + k].2) := by
        rw [List.take_add_one, hx, Option.toList_some, List.any_append]; simp
      obtain ⟨gb, capb, he, c0⟩ := bools_at (own_ch r0.s hC (by simp)) hlt
      injection he with hA _ hcp
      subst hA hcp
      generalize X[had + k] = x at hts c0
      have Hts := Lib.hid hts
      have e8 : ((had : Int) + k).toNat = had + k := by omega
      have e9 : (had : Int) + k < (X.length : Int) := by omega
      have e10 : 0 ≤ (had : Int) + k := by omega
      have e6 : IntKind.i64.wrap ((had : Int) + k + 1) = had + k + 1 := IntWalk.i64_in _ (by omega)
      generalize hs : ((X.drop had).take k).any (·.2) = sb
      have Hs := Lib.hid hs
      clear hts hs r r0 O1 C0 hx
      cases sb
      · go_wp2_with fail
        go_roundw
        case rel => exact ⟨k + 1, by rw [Hts.out, Hs.out]; simp, by simp; omega, by omega, hC⟩
        case measure => simp [intOf]; omega
      · go_wp2_with fail
        go_roundw
        case rel => exact ⟨k + 1, by rw [Hts.out, Hs.out]; simp, by simp; omega, by omega, hC⟩
        case measure => simp [intOf]; omega
    · have hk2 : k = (X.drop had).length := by rw [List.length_drop]; omega
      have e1 : (X.drop had).take k = X.drop had := by rw [hk2]; exact List.take_length
      rw [e1]
      have e2 : ¬ (had : Int) + k < (X.length : Int) := by omega
      have O2 := own_ch O1 hC (by simp)
      have C2 : Ch [] w wr := C0.trans hC
      have r2 := r0.chB (hC.toB0 (B := B) (Ts := [])) (by simp) (by simp) (by simp)
      have b2 := r2.b.cell 2
      have b7 := r2.b.cell 7
      simp at b2 b7
      have e3 : IntKind.i64.wrap (last + wait) = last + wait := IntWalk.i64_in _ (by omega)
      clear O1 hC C0 r0 e1 hk2
      have hal : rallB wait last now (X.drop had) = ((X.drop had).any (·.2) && decide (last + wait ≤ last)) := by unfold rallB; rw [HMX.out]
      have HAL := Lib.hid hal
      clear hal
      generalize (X.drop had).any (·.2) = sb at HAL ⊢
      go_upto_region 8 with (fail)
      go_cut [8] (fun v8 wc => v8 = .bool (sb && decide (last + wait ≤ last)) ∧ Ch [] wr wc)
      case first =>
        cases sb
        · go_quiet (fail)
          (try go_wp2_with fail); go_meet
          case rel => exact ⟨by simp, by first | exact Ch.refl _ _ | exact (Ch.refl [] wr).drewN _⟩
        · by_cases hge : last + wait ≤ last
          · go_quiet (fail)
            (try go_wp2_with fail); go_meet
            case rel => exact ⟨by simp [hge], by first | exact Ch.refl _ _ | exact (Ch.refl [] wr).drewN _⟩
          · go_quiet (fail)
            (try go_wp2_with fail); go_meet
            case rel => exact ⟨by simp [hge], by first | exact Ch.refl _ _ | exact (Ch.refl [] wr).drewN _⟩
      case rest =>
        obtain ⟨rfl, hC3⟩ := hcut
        have C3 : Ch [] w wc := C2.trans hC3
        have O3 := own_ch O2 hC3 (by simp)
        have r3 := r2.chB (hC3.toB0 (B := B) (Ts := [])) (by simp) (by simp) (by simp)
        clear O2 C2 r2 b2 b7 b4 b5 hC3
        generalize (sb && decide (last + wait ≤ last)) = al at HAL ⊢
        have b6 := r3.b.cell 6
        simp at b6
        clear r3
        have hLd : rdueL wait last now had X = itemsOf (fun x : Txt => al || !x.2) had (X.drop had) := by unfold rdueL; rw [HAL.out]
        have HL := Lib.hid hLd
        clear hLd HAL
        go_wp2_with fail
        go_loopw [5, 9] (fun o i wr => ∃ k : Nat, i = .int .i64 ((had : Int) + k) ∧ had + k ≤ X.length ∧ wr.ownsRow w.heap.size 115 2 o (itemsOf (fun x : Txt => al || !x.2) had ((X.drop had).take k)).length (itmCells (itemsOf (fun x : Txt => al || !x.2) had ((X.drop had).take k))) ∧ Ch [] w wr) (fun _ i _ => (X.length - intOf i).toNat)
        case atStart => exact ⟨0, by simp, by omega, by simpa [itemsOf, itmCells] using O3, C3⟩
        case round =>
          obtain ⟨k, rfl, hk, hown, hC⟩ := hrel
          clear O3 C3 b6
          have rr := r.chB (hC.toB0 (B := B) (Ts := [])) (by simp) (by simp) (by simp)
          have b4 := rr.b.cell 4
          have b5 := rr.b.cell 5
          simp at b4 b5
          by_cases hlt : had + k < X.length
          · have hx : (X.drop had)[k]? = some X[had + k] := by rw [List.getElem?_drop]; exact List.getElem?_eq_getElem hlt
            have hts : itemsOf (fun x : Txt => al || !x.2) had ((X.drop had).take (k + 1)) = itemsOf (fun x : Txt => al || !x.2) had ((X.drop had).take k) ++ (if (al || !X[had + k].2) = true then [((had : Int) + k + 1, X[had + k].1)] else []) := by
              rw [List.take_add_one, hx, Option.toList_some, itemsOf_snoc, List.length_take, List.length_drop, Nat.min_eq_left (by omega)]
            have hl2 := itemsOf_len (fun x : Txt => al || !x.2) ((X.drop had).take k) had
            have hl3 : ((X.drop had).take k).length ≤ 1000 := by simp; omega
            obtain ⟨gl, capl, he, d0⟩ := strs_at rr.l hlt
            injection he with hA _ hcp
            subst hA hcp
            obtain ⟨gb, capb, he, c0⟩ := bools_at rr.s hlt
            injection he with hA _ hcp
            subst hA hcp
            generalize X[had + k] = x at hts c0 d0
            obtain ⟨xs, xb⟩ := x
            simp only at hts c0 d0
            generalize hLk : itemsOf (fun x : Txt => al || !x.2) had ((X.drop had).take k) = L at hown hl2 hts
            have hL3 : L.length ≤ 1000 := by omega
            have e8 : ((had : Int) + k).toNat = had + k := by omega
            have e9 : (had : Int) + k < (X.length : Int) := by omega
            have e10 : 0 ≤ (had : Int) + k := by omega
            have e6 : IntKind.i64.wrap ((had : Int) + k + 1) = had + k + 1 := IntWalk.i64_in _ (by omega)
            have oo := hown.alloc (.cells #[.int .i64 ((had : Int) + k + 1), .string xs] 115)
            have cc := hC.alloc (.cells #[.int .i64 ((had : Int) + k + 1), .string xs] 115)
            have zz := cc.size
            clear hLk hx hl3 r rr
            have Hts := Lib.hid hts
            clear hts
            cases al
            · cases xb
              · have hL2 : itemsOf (fun x : Txt => false || !x.2) had ((X.drop had).take (k + 1)) = L ++ [((had : Int) + k + 1, xs)] := by rw [Hts.out]; simp
                have HL2 := Lib.hid hL2
                clear hL2 Hts hown hC
                go_wp2_with (at_builtin; refine wpList_append_any _ rfl (.tmp 83) (.tmp 94) 63 rfl w.heap.size 115 i0 _ 2 24 Try.underlying63 hi hz0 hz1 hz2 rfl (by decide) _ _ _ rfl oo _ _ 1 1 _ rfl (Reads.of_blk (size := 2) (n := 1) (Blk.new wr 115 #[.int .i64 ((had : Int) + k + 1), .string xs]) rfl) (by simp [Value.oneCell']) (by unfold maxLen; omega) (by omega) zz ?_)
                intro v2 w2 own2 grow2 _
                have C2 := cc.grown grow2 (fun q hq => .inr (oo.lt q hq).1)
                clear cc oo grow2
                go_wp2_with fail
                go_roundw
                case rel => exact ⟨k + 1, by simp; omega, by omega, by rw [HL2.out, List.length_append, itmCells_append]; exact own2, C2⟩
                case measure => simp [intOf]; omega
              · have hL2 : itemsOf (fun x : Txt => false || !x.2) had ((X.drop had).take (k + 1)) = L := by rw [Hts.out]; simp
                have HL2 := Lib.hid hL2
                clear hL2 Hts oo cc zz
                go_wp2_with fail
                go_roundw
                case rel => exact ⟨k + 1, by simp; omega, by omega, by rw [HL2.out]; exact hown, hC⟩
                case measure => simp [intOf]; omega
            · have hL2 : itemsOf (fun x : Txt => true || !x.2) had ((X.drop had).take (k + 1)) = L ++ [((had : Int) + k + 1, xs)] := by rw [Hts.out]; simp
              have HL2 := Lib.hid hL2
              clear hL2 Hts hown hC
              go_wp2_with (at_builtin; refine wpList_append_any _ rfl (.tmp 83) (.tmp 94) 63 rfl w.heap.size 115 i0 _ 2 24 Try.underlying63 hi hz0 hz1 hz2 rfl (by decide) _ _ _ rfl oo _ _ 1 1 _ rfl (Reads.of_blk (size := 2) (n := 1) (Blk.new wr 115 #[.int .i64 ((had : Int) + k + 1), .string xs]) rfl) (by simp [Value.oneCell']) (by unfold maxLen; omega) (by omega) zz ?_)
              intro v2 w2 own2 grow2 _
              have C2 := cc.grown grow2 (fun q hq => .inr (oo.lt q hq).1)
              clear cc oo grow2
              go_wp2_with fail
              go_roundw
              case rel => exact ⟨k + 1, by simp; omega, by omega, by rw [HL2.out, List.length_append, itmCells_append]; exact own2, C2⟩
              case measure => simp [intOf]; omega
          · have hk2 : k = (X.drop had).length := by rw [List.length_drop]; omega
            have e1 : (X.drop had).take k = X.drop had := by rw [hk2]; exact List.take_length
            rw [e1, ← HL.out] at hown
            have e2 : ¬ (had : Int) + k < (X.length : Int) := by omega
            generalize hLL : rdueL wait last now had X = L at hown HL
            have HLL := Lib.hid hLL
            have hLlen : L.length ≤ 1000 := by
              have := itemsOf_len (fun x : Txt => al || !x.2) (X.drop had) had
              rw [HL.out]
              have h2 : (X.drop had).length ≤ X.length := by simp
              omega
            clear hLL HL e1 hk2
            obtain ⟨Ao, co, he, _⟩ := own_len hown
            subst he
            have b6 := rr.b.cell 6
            simp at b6
            have hC1 : ChB B [71, 4] w wr := hC.toB0
            clear hC hlt
            go_wp2_with fail
            go_loopw [10] (fun i wr => ∃ k : Nat, i = .int .i64 ((had : Int) + k) ∧ had + k ≤ X.length ∧ SndRV wr B h ep win wait cr (markX had k X) had last (.slice A X.length cap) (.slice A2 X.length cap2) ∧ wr.ownsRow w.heap.size 115 2 (.slice Ao L.length co) L.length (itmCells L) ∧ ChB B [71, 4] w wr) (fun i _ => (X.length - intOf i).toNat)
            case atStart => exact ⟨0, by simp, by omega, by rw [markX_zero]; exact rr, hown, hC1⟩
            case round =>
              clear rr hown hC1 b4 b5 b6 e2
              obtain ⟨k, rfl, hk, S, ho, hC⟩ := hrel
              have b4 := S.b.cell 4
              have b5 := S.b.cell 5
              simp at b4 b5
              by_cases hlt : had + k < X.length
              · have hr := S.s
                have hsl := S.l
                rw [markX_len] at hr hsl
                rw [strs_mark] at hsl
                obtain ⟨gv, cap3, he, hgB, _, _, _, hcells, hfz⟩ := own_at hr (by omega)
                injection he with hA _ hcp
                subst hA hcp
                have hml : had + k < (markX had k X).length := by rw [markX_len]; exact hlt
                have c2 := hcells (had + k) (.bool (markX had k X)[had + k].2) (by simp [bools, List.getElem?_eq_getElem hml])
                have f2 := hfz (had + k)
                have hst := hr.stored (had + k) (.bool true)
                rw [← markX_succ hlt] at hst
                have hne := own_ne hr S.b (by decide)
                have hgne : h ≠ gv := fun e => hne (by rw [e]; rfl)
                have S' : SndRV (wr.setCell ⟨gv, had + k, none⟩ (.bool true)) B h ep win wait cr (markX had (k + 1) X) had last (.slice A X.length cap) (.slice (some ⟨gv, 0, none⟩) X.length cap2) :=
                  ⟨hhB, S.b.far (p := ⟨gv, had + k, none⟩) hgne _, by
                    rw [markX_len, strs_mark]
                    exact own_ch hsl ((Ch.refl [gv] wr).setCell (p := ⟨gv, had + k, none⟩) (.inl (by simp)) (.bool true)) (fun q hq hm => own_two hsl hr (by decide) q hq (by rw [List.mem_singleton.1 hm]; rfl)), by rw [markX_len]; exact hst.1⟩
                have ho' := own_ch ho ((Ch.refl [gv] wr).setCell (p := ⟨gv, had + k, none⟩) (.inl (by simp)) (.bool true)) (fun q hq hm => own_two ho hr (by decide) q hq (by rw [List.mem_singleton.1 hm]; rfl))
                have hC' : ChB B [71, 4] w (wr.setCell ⟨gv, had + k, none⟩ (.bool true)) := ChB.grown (v := .slice (some ⟨gv, 0, none⟩) X.length cap2) hC hst.2 hr (Nat.le_refl _) (by simp)
                generalize (markX had k X)[had + k].2 = bo at c2
                have e8 : ((had : Int) + k).toNat = had + k := by omega
                have e9 : (had : Int) + k < (X.length : Int) := by omega
                have e10 : 0 ≤ (had : Int) + k := by omega
                have e6 : IntKind.i64.wrap ((had : Int) + k + 1) = had + k + 1 := IntWalk.i64_in _ (by omega)
                clear hcells hfz hst hne hr S ho hC hsl hml r
                go_wp2_with fail
                go_roundw
                case rel => exact ⟨k + 1, by simp; omega, by omega, S', ho', hC'⟩
                case measure => simp [intOf]; omega
              · have hk3 : had + k = X.length := by omega
                have e2 : ¬ (had : Int) + k < (X.length : Int) := by omega
                rw [markX_all hk3] at S
                clear hk3 hlt
                by_cases hE : L = []
                · have hret : RDueRet B h ep win wait cr X had last now w (.returned (.slice Ao L.length co)) wr := by
                    unfold RDueRet
                    rw [HLL.out, if_pos hE]
                    exact ⟨_, rfl, ho, ⟨_, _, S⟩, hC⟩
                  have Hret := Lib.hid hret
                  have hz : ¬ 0 < (L.length : Int) := by rw [hE]; simp
                  clear hret hE S ho hC r
                  go_wp2_with fail
                  go_ret
                  exact Hret.out
                · have hz : 0 < (L.length : Int) := by have := List.length_pos_iff.2 hE; omega
                  have b7 := S.b.cell 7
                  have f7 := S.b.frozen 7
                  have b8 := S.b.set_ 7 (.int .i64 last)
                  have n1 := own_ne S.l S.b (by decide)
                  have n2 := own_ne S.s S.b (by decide)
                  have n3 := own_ne ho S.b (by decide)
                  have CC := (Ch.refl [h] wr).setCell (p := ⟨h, 7, none⟩) (.inl (by simp)) (.int .i64 last)
                  have l7 := own_ch S.l CC (fun q hq hm => n1 (by rw [List.mem_singleton.1 hm] at hq; exact hq.symm))
                  have s7 := own_ch S.s CC (fun q hq hm => n2 (by rw [List.mem_singleton.1 hm] at hq; exact hq.symm))
                  have o7 := own_ch ho CC (fun q hq hm => n3 (by rw [List.mem_singleton.1 hm] at hq; exact hq.symm))
                  have C7 : ChB B [71, 4] w (wr.setCell ⟨h, 7, none⟩ (.int .i64 last)) := hC.setCell (p := ⟨h, 7, none⟩) hhB S.b (by simp) _
                  have hret : RDueRet B h ep win wait cr X had last now w (.returned (.slice Ao L.length co)) (wr.setCell ⟨h, 7, none⟩ (.int .i64 last)) := by
                    unfold RDueRet
                    rw [HLL.out, if_neg hE, HMX.out]
                    exact ⟨_, rfl, o7, ⟨_, _, ⟨hhB, by simpa using b8, l7, s7⟩⟩, C7⟩
                  have Hret := Lib.hid hret
                  simp at b7
                  clear hret hE S ho hC l7 s7 o7 C7 CC b8 n1 n2 n3 r
                  go_wp2_with fail
                  go_ret
                  exact Hret.out

theorem rdue_c (B h : Nat) (ep win wait cr last now : Int) (X : List Txt) (had : Nat) (vl vs : Value) (w : World) (r : SndRV w B h ep win wait cr X had last vl vs) (hBw : B ≤ w.heap.size) (hX : had ≤ X.length) (hXl : X.length ≤ 1000)
    (hwt : 1 ≤ wait ∧ wait ≤ 1000) (hl : 0 ≤ last ∧ last ≤ 1000000000000000) (hn : 0 ≤ now ∧ now ≤ 2000000000000000) :
    Calls Try.prog 38 #[.pointer (some ⟨h, 0, none⟩), .int .i64 now] w (RDueRet B h ep win wait cr X had last now w) := by
  by_cases h1 : now < last
  · exact rdue_back B h ep win wait cr last now X had vl vs w r hBw hX hXl hwt hl hn h1
  · exact rdue_fwd B h ep win wait cr last now X had vl vs w r hBw hX hXl hwt hl hn (by omega)
end Go.Proofs.Ytejmcfgmopijkaa
