/- The reference's sender, its contracts in the form that the law's walk takes; what is due is the same on both sides. -/
import Derived.Test.YtejmcfgmopijkaaRDue
import Derived.Test.YtejmcfgmopijkaaOrd
import Derived.Test.YtejmcfgmopijkaaSLaw
import Derived.Test.YtejmcfgmopijkaaRefNew
namespace Go.Proofs.Ytejmcfgmopijkaa
open Go.RowKit
set_option linter.unusedVariables false
set_option linter.unusedSimpArgs false

section
variable {w : World} {B h : Nat} {ep win wait cr last : Int} {X : List Txt} {had : Nat}
theorem SndR.cells (r : SndR w B h ep win wait cr X had last) : ∃ A cap, w.cell? ⟨h, 4, none⟩ = some (.slice A X.length cap) ∧ w.cell? ⟨h, 6, none⟩ = some (.int .i64 had) := by
  obtain ⟨vl, vs, r⟩ := r
  obtain ⟨A, cap, rfl, _⟩ := own_len r.l
  have h4 := r.b.cell 4
  have h6 := r.b.cell 6
  simp at h4 h6
  exact ⟨A, cap, h4, h6⟩
theorem rroom_is {n : Int} (r : SndR w B h ep win wait cr X had last) (hw : 1 ≤ win ∧ win ≤ 16) (hc : 0 ≤ cr ∧ cr ≤ 64) (hh : had ≤ X.length) (hX : X.length ≤ 1000) (hn : roomN win cr (X.length - had) = n) :
    Calls Try.prog 42 #[.pointer (some ⟨h, 0, none⟩)] w fun r w' => r = .returned (.int .i64 n) ∧ ChB B [] w w' := by
  obtain ⟨vl, vs, r⟩ := r
  subst hn
  exact roomR_c B h ep win wait cr last X had vl vs w r hw.1 hw.2 hc.1 hc.2 hh (by omega)
theorem rpush_isno {s : ByteArray} (r : SndR w B h ep win wait cr X had last) (hw : 1 ≤ win ∧ win ≤ 16) (hc : 0 ≤ cr ∧ cr ≤ 64) (hh : had ≤ X.length) (hX : X.length ≤ 1000) (hr : roomN win cr (X.length - had) = 0) :
    Calls Try.prog 35 #[.pointer (some ⟨h, 0, none⟩), .string s] w fun r w' => r = .returned (.tuple #[.int .i64 0, .int .i64 7]) ∧ ChB B [] w w' := by
  obtain ⟨vl, vs, r⟩ := r
  exact rpush_no B h ep win wait cr last X had vl vs s w r hw.1 hw.2 hc.1 hc.2 hh (by omega) hr
theorem rpush_is {s : ByteArray} {n : Int} (r : SndR w B h ep win wait cr X had last) (hBw : B ≤ w.heap.size) (hw : 1 ≤ win ∧ win ≤ 16) (hc : 0 ≤ cr ∧ cr ≤ 64) (hh : had ≤ X.length) (hX : X.length ≤ 1000) (hr : roomN win cr (X.length - had) ≠ 0) (hn : (X.length : Int) + 1 = n) :
    Calls Try.prog 35 #[.pointer (some ⟨h, 0, none⟩), .string s] w fun r w' => r = .returned (.tuple #[.int .i64 n, .int .i64 0]) ∧ SndR w' B h ep win wait cr (X ++ [(s, false)]) had last ∧ ChB B [71, 9, 4] w w' := by
  obtain ⟨vl, vs, r⟩ := r
  subst hn
  exact rpush_yes B h ep win wait cr last X had vl vs s w r hBw hw.1 hw.2 hc.1 hc.2 hh (by omega) (by have := roomN_lo win cr (X.length - had); omega)
theorem rtake_isno {e s c q : Int} {n : Nat} (r : SndR w B h ep win wait cr X had last) (hX : X.length = had + n) (hXl : X.length ≤ 1000) (hq : stakeN ep had n e s c = q) (h0 : q ≠ 0) :
    Calls Try.prog 40 #[.pointer (some ⟨h, 0, none⟩), .int .i64 e, .int .i64 s, .int .i64 c] w fun r w' => r = .returned (.tuple #[.int .i64 0, .int .i64 q]) ∧ ChB B [] w w' := by
  obtain ⟨vl, vs, r⟩ := r
  subst hq
  exact rtake_no B h ep win wait cr last e s c X had n vl vs w r hX hXl h0
theorem rtake_is {s c : Int} {k : Nat} (r : SndR w B h ep win wait cr X had last) (hX : had + k ≤ X.length) (hXl : X.length ≤ 1000) (hc : 0 ≤ c ∧ c ≤ 64) (hs : (had : Int) + k = s) :
    Calls Try.prog 40 #[.pointer (some ⟨h, 0, none⟩), .int .i64 ep, .int .i64 s, .int .i64 c] w fun r w' => r = .returned (.tuple #[.int .i64 k, .int .i64 0]) ∧ SndR w' B h ep win wait c X (had + k) last ∧ ChB B [71] w w' := by
  obtain ⟨vl, vs, r⟩ := r
  subst hs
  exact rtake_yes B h ep win wait cr last c X had k vl vs w r hX hXl hc.1 hc.2
theorem runder_is {L : List Itm} (r : SndR w B h ep win wait cr X had last) (hX : had ≤ X.length) (hXl : X.length ≤ 1000) (hL : itemsOf (fun _ : Txt => true) had (X.drop had) = L) :
    Calls Try.prog 44 #[.pointer (some ⟨h, 0, none⟩)] w fun r w' => ∃ A cap, r = .returned (.slice A L.length cap) ∧ RdI w' A L ∧ Ch [] w w' := by
  obtain ⟨vl, vs, r⟩ := r
  subst hL
  exact (runder_c B h ep win wait cr last X had vl vs w r hX hXl).mono fun r w' ⟨v', h1, h2, h3⟩ => by
    obtain ⟨A, cap, rfl, h5⟩ := own_rd h2
    exact ⟨A, cap, h1, h5, h3⟩
theorem rdue_is {now la' : Int} {L : List Itm} {X' : List Txt} (r : SndR w B h ep win wait cr X had last) (hBw : B ≤ w.heap.size) (hX : had ≤ X.length) (hXl : X.length ≤ 1000)
    (hwt : 1 ≤ wait ∧ wait ≤ 1000) (hl : 0 ≤ last ∧ last ≤ 1000000000000000) (hn : 0 ≤ now ∧ now ≤ 2000000000000000) (hL : rdueL wait last now had X = L) (hX' : (X.take had ++ (X.drop had).map fun x => (x.1, true)) = X') (hla : (if L = [] then last else max now last) = la') :
    Calls Try.prog 38 #[.pointer (some ⟨h, 0, none⟩), .int .i64 now] w fun r w' => ∃ A cap, r = .returned (.slice A L.length cap) ∧ RdI w' A L ∧ SndR w' B h ep win wait cr X' had la' ∧ ChB B [71, 4] w w' := by
  obtain ⟨vl, vs, r⟩ := r
  subst hL hX' hla
  exact (rdue_c B h ep win wait cr last now X had vl vs w r hBw hX hXl hwt hl hn).mono fun r w' ⟨v', h1, h2, h3, h4⟩ => by
    obtain ⟨A, cap, rfl, h5⟩ := own_rd h2
    exact ⟨A, cap, h1, h5, h3, h4⟩
end

/-! ### plain -/
theorem items_none (p : Txt → Bool) : ∀ (T : List Txt) (g : Int), itemsOf p g T = [] → ∀ x ∈ T, p x = false
  | [], _, _, x, hx => absurd hx (by simp)
  | y :: T, g, h, x, hx => by
    unfold itemsOf at h
    by_cases hy : p y = true
    · rw [if_pos hy] at h; simp at h
    · rw [if_neg hy] at h
      rcases List.mem_cons.1 hx with rfl | hx
      · simpa using hy
      · exact items_none p T _ (by simpa using h) x hx
theorem suf_any {T : List Txt} {a : Nat} (h : SufT T a) : T.any (·.2) = (match (generalizing := false) T with | [] => false | x :: _ => x.2) := by
  cases T with
  | nil => rfl
  | cons x T =>
    have h0 := h 0 x rfl
    by_cases ha : 0 < a
    · rw [decide_eq_true ha] at h0
      simp [h0]
    · obtain rfl : a = 0 := by omega
      simp at h0
      show _ = x.2
      rw [List.any_eq_false.2 ?_, h0]
      intro y hy
      obtain ⟨i, hi, rfl⟩ := List.getElem_of_mem hy
      have := h i _ (List.getElem?_eq_getElem hi)
      simp [this]
theorem suf_again {T : List Txt} {a : Nat} (h : SufT T a) (wait last now : Int) : againB wait last (max now last) T = rallB wait last now T := by
  unfold againB rallB
  rw [suf_any h, Bool.and_comm]
  congr 1
  rw [decide_eq_decide]
  omega
/-- Both sides tell the same of what is due. -/
theorem suf_due {X : List Txt} {n a : Nat} (h : SufT (X.drop n) a) (wait last now : Int) : rdueL wait last now n X = dueL wait last n now (X.drop n) := by
  unfold rdueL dueL
  rw [suf_again h]
theorem dueT_map (wait last gone now : Int) (T : List Txt) : dueT wait last gone now T = T.map fun x => (x.1, true) := by
  unfold dueT
  by_cases h : dueL wait last gone now T = []
  · rw [if_pos h]
    have := items_none _ _ _ h
    conv => lhs; rw [← List.map_id T]
    refine List.map_congr_left fun x hx => ?_
    have h2 := this x hx
    simp at h2
    exact Prod.ext rfl h2.2
  · rw [if_neg h]
end Go.Proofs.Ytejmcfgmopijkaa
