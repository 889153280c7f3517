/- The line's own calls: Out. -/
import Derived.Test.YtejmcfgmopijkaaLin7
import Derived.Test.YtejmcfgmopijkaaRSnd
import Derived.WalkSpells
namespace Go.Proofs.Ytejmcfgmopijkaa
open Go.RowKit
set_option linter.unusedVariables false
set_option linter.unusedSimpArgs false

set_option maxRecDepth 100000 in
theorem clone_c (B : Nat) (v : Value) (X : List ByteArray) (w : World) (h : w.ownsRow B 9 1 v X.length (X.map Value.string)) (hX : X.length ≤ 1000) :
    Calls Try.prog 77 #[v] w fun e w' => ∃ v', e = .returned v' ∧ w'.ownsRow w.heap.size 9 1 v' X.length (X.map Value.string) ∧ Ch [] w w' := by
  obtain ⟨i0, hi, hz0, hz1, hz2⟩ := info_parts info9
  have q68 : ∀ (w : World) (a : Option Addr) (n c : Nat), (binOp .eql 68 (.slice a n c) (.slice none 0 0)).run Try.prog w = .ok (.bool a.isNone) w := fun w a n c => Lib.run_eql_slice_nil w 68 9 a n c 0 0 Try.underlying68
  have hone : ∀ u ∈ X.map Value.string, u.oneCell' = true := fun u hu => by
    obtain ⟨s, _, rfl⟩ := List.mem_map.1 hu
    rfl
  rcases own_form h with ⟨rfl, hn, hx⟩ | ⟨gv, cap, cur, rfl, _, _, hc, hm, _⟩
  · have hX0 : X = [] := List.map_eq_nil_iff.1 hx
    subst hX0
    clear h hone
    go_enter Try.func77, Try.ntmps77
    go_wp2_with fail
    go_ret
    exact ⟨_, rfl, World.ownsRow_nil _ _ _ _, Ch.refl _ _⟩
  · have O0 : (w.alloc (.cells #[] 9)).ownsRow w.heap.size 9 1 (.slice (some ⟨w.heap.size, 0, none⟩) 0 0) 0 [] := ⟨rfl, .inr ⟨w.heap.size, 0, #[], rfl, Nat.le_refl _, Blk.new w 9 #[], by omega, by unfold maxLen; omega, rfl, rfl⟩⟩
    have C0 : Ch [] w (w.alloc (.cells #[] 9)) := (Ch.refl [] w).alloc _
    have R0 := (Reads.of_own h).alloc (Nat.le_refl _) (.cells #[] 9)
    have z0 := C0.size
    clear h
    go_enter Try.func77, Try.ntmps77
    go_wp2_with (at_builtin; refine wpList_append_any _ rfl (.tmp 5) (.tmp 6) 68 rfl w.heap.size 9 i0 _ 1 16 Try.underlying68 hi hz0 hz1 hz2 rfl (by decide) _ _ _ rfl O0 _ _ _ _ _ rfl R0 hone (by unfold maxLen; omega) (by omega) z0 ?_)
    intro v2 w2 own2 grow2 _
    have C2 := C0.grown grow2 (fun q hq => .inr (O0.lt q hq).1)
    go_wp2_with fail
    go_ret
    exact ⟨_, rfl, by simpa using own2, C2⟩
section
variable (B l g r gc : Nat) (win wt cr gone last had now room store : Int) (T : List Txt) (ow : Bool) (On : List Itm) (Bk : List Frm) (Out : List ByteArray) (v1 v2 v3 : Value) (w : World)
theorem lout_c (h : LineV w B l g r gc win wt cr T gone last had ow On Bk now Out room store v1 v2 v3) (hb : LineB win wt cr T gone last had On Bk now Out room store) :
    Calls Try.prog 50 #[.pointer (some ⟨l, 0, none⟩)] w fun e w' => ∃ v', e = .returned v' ∧ w'.ownsRow w.heap.size 9 1 v' Out.length (Out.map Value.string) ∧ Ch [] w w' := by
  have a5 := h.b.cell 5
  simp at a5
  have c1 := clone_c B v3 Out w h.out hb.out
  go_enter Try.func50, Try.ntmps50
  go_wp2_with fail
  refine c1.mono ?_
  rintro e1 w1 ⟨v', rfl, o1, c2⟩
  go_wp2_with fail
  go_ret
  exact ⟨_, rfl, o1, c2⟩
end
end Go.Proofs.Ytejmcfgmopijkaa
