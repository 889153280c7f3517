/- The line's law without a program in sight: a line as numbers and lists, what each call makes of it, what holds of it always, and that it serves. -/
import Derived.Test.YtejmcfgmopijkaaLin9
import Derived.Test.YtejmcfgmopijkaaStrs
namespace Go.Proofs.Ytejmcfgmopijkaa
set_option linter.unusedVariables false
set_option linter.unusedSimpArgs false
/-- A line, as numbers and lists. -/
structure LSt where
  win : Int
  wt : Int
  cr : Int
  T : List Txt
  gone : Int
  last : Int
  had : Int
  ow : Bool
  On : List Itm
  Bk : List Frm
  now : Int
  Out : List ByteArray
  room : Int
  store : Int
/-- What is at a place. -/
def atL {α : Type} (L : List α) (i : Int) : Option α := if 0 ≤ i then L[i.toNat]? else none
theorem atL_none {α : Type} {L : List α} {i : Int} (h : atL L i = none) : ¬ (0 ≤ i ∧ i < L.length) := by
  unfold atL at h
  split at h
  · rw [List.getElem?_eq_none_iff] at h; omega
  · omega
theorem atL_some {α : Type} {L : List α} {i : Int} {x : α} (h : atL L i = some x) : ∃ k : Nat, i = k ∧ L[k]? = some x := by
  unfold atL at h
  split at h
  · exact ⟨i.toNat, by omega, h⟩
  · cases h
theorem atL_mem {α : Type} {L : List α} {i : Int} {x : α} (h : atL L i = some x) : x ∈ L := by
  obtain ⟨k, _, hk⟩ := atL_some h
  exact List.mem_of_getElem? hk
def tellS (σ : LSt) : LSt := { σ with ow := false, Bk := putL σ.Bk (σ.had, creditN (σ.room - σ.store)) }
def pushS (σ : LSt) (s : ByteArray) : Int × LSt := if roomN σ.win σ.cr σ.T.length = 0 then (7, σ) else (0, { σ with T := σ.T ++ [(s, false)] })
def tickN (now t : Int) : Int := if 0 ≤ t ∧ t ≤ 1000 then now + t else now
def sendS (σ : LSt) (t : Int) : Int × LSt :=
  ((dueL σ.wt σ.last σ.gone (tickN σ.now t) σ.T).length, { σ with now := tickN σ.now t, T := dueT σ.wt σ.last σ.gone (tickN σ.now t) σ.T, last := dueLast σ.wt σ.last σ.gone (tickN σ.now t) σ.T, On := (dueL σ.wt σ.last σ.gone (tickN σ.now t) σ.T).foldl putL σ.On })
def comeE (σ : LSt) (s : Int) : Int := if whyN 1 σ.had 1 s = 0 ∧ σ.room - σ.store = 0 then 7 else whyN 1 σ.had 1 s
def comeS (σ : LSt) (i : Int) : Int × LSt :=
  match atL σ.On i with
  | none => (8, σ)
  | some x => (comeE σ x.1, tellS (if comeE σ x.1 = 0 then { σ with On := σ.On.eraseIdx i.toNat, had := σ.had + 1, store := σ.store + 1, Out := σ.Out ++ [x.2] } else { σ with On := σ.On.eraseIdx i.toNat }))
def backS (σ : LSt) (i : Int) : Int × LSt :=
  match atL σ.Bk i with
  | none => (8, σ)
  | some f => (stakeN 1 σ.gone σ.T.length 1 f.1 f.2, if stakeN 1 σ.gone σ.T.length 1 f.1 f.2 = 0 then { σ with Bk := σ.Bk.eraseIdx i.toNat, cr := f.2, T := σ.T.drop (f.1 - σ.gone).toNat, gone := f.1 } else { σ with Bk := σ.Bk.eraseIdx i.toNat })
def drainS (σ : LSt) (n : Int) : Int × LSt := if 0 < min n σ.store then (min n σ.store, tellS { σ with store := σ.store - min n σ.store }) else (0, σ)
def loseS (σ : LSt) (b : Bool) (i : Int) : Int × LSt :=
  if b then (match atL σ.Bk i with | none => (8, σ) | some _ => (0, { σ with Bk := σ.Bk.eraseIdx i.toNat }))
  else (match atL σ.On i with | none => (8, σ) | some _ => (0, { σ with On := σ.On.eraseIdx i.toNat }))
def twiceS (σ : LSt) (b : Bool) (i : Int) : Int × LSt :=
  if b then (match atL σ.Bk i with | none => (8, σ) | some x => (0, { σ with Bk := putL σ.Bk x }))
  else (match atL σ.On i with | none => (8, σ) | some x => (0, { σ with On := putL σ.On x }))
/-- A call of a script: which, a text, a place or ticks, of the way back. -/
structure Op14 where
  k : Int
  s : ByteArray
  n : Int
  b : Bool
def playS (σ : LSt) (o : Op14) : Int × LSt :=
  if o.k = 0 then pushS σ (cut o.s) else if o.k = 1 then sendS σ o.n else if o.k = 2 then comeS σ o.n else if o.k = 3 then backS σ o.n else if o.k = 4 then drainS σ o.n else if o.k = 5 then loseS σ o.b o.n else twiceS σ o.b o.n

/-- What holds of a line into which In was pushed. -/
structure Inv (In : List ByteArray) (σ : LSt) : Prop where
  w1 : 1 ≤ σ.win
  w2 : σ.win ≤ 16
  t1 : 1 ≤ σ.wt
  t2 : σ.wt ≤ 1000
  c1 : 0 ≤ σ.cr
  c2 : σ.cr ≤ 64
  g1 : 0 ≤ σ.gone
  gh : σ.gone ≤ σ.had
  hn : σ.had ≤ In.length
  gT : σ.gone + σ.T.length = In.length
  TI : σ.T.map (·.1) = In.drop σ.gone.toNat
  tw : (σ.T.length : Int) ≤ σ.win
  oo : σ.Out = In.take σ.had.toNat
  on : σ.On.length ≤ 64
  onx : ∀ x ∈ σ.On, 1 ≤ x.1 ∧ In[(x.1 - 1).toNat]? = some x.2
  bk : σ.Bk.length ≤ 64
  bkx : ∀ f ∈ σ.Bk, 0 ≤ f.1 ∧ f.1 ≤ σ.had ∧ 0 ≤ f.2 ∧ f.2 ≤ 64
  l1 : 0 ≤ σ.last
  l2 : σ.last ≤ σ.now
  r0 : 1 ≤ σ.room
  r1 : σ.room ≤ 64
  s0 : 0 ≤ σ.store
  s1 : σ.store ≤ σ.room
  fl : ∃ A B : List ByteArray, σ.T = A.map (fun s => (s, true)) ++ B.map (fun s => (s, false))

theorem Inv.bnd {In : List ByteArray} {σ : LSt} (h : Inv In σ) (hI : In.length ≤ 1000) (hn : σ.now ≤ 1000000000) : LineB σ.win σ.wt σ.cr σ.T σ.gone σ.last σ.had σ.On σ.Bk σ.now σ.Out σ.room σ.store := by
  obtain ⟨w1, w2, t1, t2, c1, c2, g1, gh, hn', gT, TI, tw, oo, on, onx, bk, bkx, l1, l2, r0, r1, s0, s1, fl⟩ := h
  exact ⟨⟨w1, w2, t1, t2, c1, c2, g1, by omega, by omega, l1, by omega⟩, by omega, by omega, on, bk, by omega, hn, by rw [oo, List.length_take]; omega, r0, r1, s0, s1⟩
theorem Inv.outlen {In : List ByteArray} {σ : LSt} (h : Inv In σ) : (σ.Out.length : Int) = σ.had := by
  have := h.gh; have := h.g1; have := h.hn
  rw [h.oo, List.length_take]; omega

theorem inv_new {win wt room : Int} (h1 : 1 ≤ win ∧ win ≤ 16) (h2 : 1 ≤ wt ∧ wt ≤ 1000) (h3 : 1 ≤ room ∧ room ≤ 64) : Inv [] ⟨win, wt, win, [], 0, 0, 0, false, [], [], 0, [], room, 0⟩ := by
  constructor <;> first | omega | (simp; done) | (simp; omega) | exact ⟨[], [], rfl⟩
theorem creditN_bd (r : Int) : 0 ≤ creditN r ∧ creditN r ≤ 64 := by unfold creditN; split <;> split <;> omega
theorem putL_mem {α : Type} {L : List α} {x y : α} (h : y ∈ putL L x) : y ∈ L ∨ y = x := by
  unfold putL at h
  split at h
  · simpa using h
  · exact .inl h
theorem inv_tell {In : List ByteArray} {σ : LSt} (h : Inv In σ) : Inv In (tellS σ) := by
  obtain ⟨w1, w2, t1, t2, c1, c2, g1, gh, hn', gT, TI, tw, oo, on, onx, bk, bkx, l1, l2, r0, r1, s0, s1, fl⟩ := h
  refine ⟨w1, w2, t1, t2, c1, c2, g1, gh, hn', gT, TI, tw, oo, on, onx, putL_len _ _ bk, fun f hf => ?_, l1, l2, r0, r1, s0, s1, fl⟩
  rcases putL_mem hf with hf | rfl
  · exact bkx f hf
  · exact ⟨by show 0 ≤ σ.had; omega, Int.le_refl _, (creditN_bd _).1, (creditN_bd _).2⟩
theorem inv_push {In : List ByteArray} {σ : LSt} (h : Inv In σ) (s : ByteArray) : Inv (if (pushS σ s).1 = 0 then In ++ [s] else In) (pushS σ s).2 := by
  unfold pushS
  split
  · simpa using h
  · rename_i hr
    obtain ⟨q1, q2⟩ := roomN_lt hr
    obtain ⟨w1, w2, t1, t2, c1, c2, g1, gh, hn', gT, TI, tw, oo, on, onx, bk, bkx, l1, l2, r0, r1, s0, s1, A, B, fl⟩ := h
    rw [if_pos rfl]
    refine ⟨w1, w2, t1, t2, c1, c2, g1, gh, by show σ.had ≤ ((In ++ [s]).length : Int); simp; omega, by show σ.gone + ((σ.T ++ [(s, false)]).length : Int) = _; simp; omega, ?_, by show ((σ.T ++ [(s, false)]).length : Int) ≤ σ.win; simp; omega, ?_, on, fun x hx => ?_, bk, bkx, l1, l2, r0, r1, s0, s1, A, B ++ [s], by simp [fl]⟩
    · simp only [List.map_append, TI, List.map_cons, List.map_nil]
      rw [List.drop_append_of_le_length (by omega)]
    · show σ.Out = List.take σ.had.toNat (In ++ [s])
      rw [List.take_append_of_le_length (by omega)]; exact oo
    · obtain ⟨x1, x2⟩ := onx x hx
      exact ⟨x1, by rw [List.getElem?_append_left (List.getElem?_eq_some_iff.1 x2).1]; exact x2⟩
theorem tickN_lo (now t : Int) : now ≤ tickN now t := by unfold tickN; split <;> omega
theorem tickN_hi (now t : Int) : tickN now t ≤ now + 1000 := by unfold tickN; split <;> omega
theorem foldl_put_len {α : Type} (D : List α) : ∀ L : List α, L.length ≤ 64 → (D.foldl putL L).length ≤ 64 := by
  induction D with
  | nil => intro L h; exact h
  | cons x D ih => intro L h; exact ih _ (putL_len L x h)
theorem foldl_put_mem {α : Type} (D : List α) : ∀ (L : List α) (y : α), y ∈ D.foldl putL L → y ∈ L ∨ y ∈ D := by
  induction D with
  | nil => intro L y h; exact .inl h
  | cons x D ih =>
    intro L y h
    rcases ih _ y h with h | h
    · rcases putL_mem h with h | h
      · exact .inl h
      · exact .inr (by simp [h])
    · exact .inr (by simp [h])
theorem foldl_put_room {α : Type} (D : List α) : ∀ L : List α, L.length + D.length ≤ 64 → D.foldl putL L = L ++ D := by
  induction D with
  | nil => intro L h; simp
  | cons x D ih =>
    intro L h
    simp at h
    have e : putL L x = L ++ [x] := by unfold putL; rw [if_pos (by omega)]
    rw [List.foldl_cons, e, ih _ (by simp; omega)]; simp
theorem itemsOf_mem {p : Txt → Bool} : ∀ (T : List Txt) (g : Int) (x : Itm), x ∈ itemsOf p g T → ∃ i : Nat, x.1 = g + i + 1 ∧ (T.map (·.1))[i]? = some x.2 := by
  intro T
  induction T with
  | nil => intro g x h; simp [itemsOf] at h
  | cons y T ih =>
    intro g x h
    simp only [itemsOf, List.mem_append] at h
    rcases h with h | h
    · split at h
      · simp at h; subst h; exact ⟨0, by simp, by simp⟩
      · simp at h
    · obtain ⟨i, h1, h2⟩ := ih _ _ h
      exact ⟨i + 1, by omega, by simpa using h2⟩
theorem dueT_fst (wait last gone now : Int) (T : List Txt) : (dueT wait last gone now T).map (·.1) = T.map (·.1) := by
  unfold dueT; split <;> simp
theorem inv_send {In : List ByteArray} {σ : LSt} (h : Inv In σ) (t : Int) : Inv In (sendS σ t).2 := by
  obtain ⟨w1, w2, t1, t2, c1, c2, g1, gh, hn', gT, TI, tw, oo, on, onx, bk, bkx, l1, l2, r0, r1, s0, s1, A, B, fl⟩ := h
  have hk := tickN_lo σ.now t
  unfold sendS
  generalize tickN σ.now t = now at hk
  refine ⟨w1, w2, t1, t2, c1, c2, g1, gh, hn', by rw [dueT_len]; exact gT, by rw [dueT_fst]; exact TI, by rw [dueT_len]; exact tw, oo, foldl_put_len _ _ on, fun x hx => ?_, bk, bkx, dueLast_lo _ l1, dueLast_hi _ (by show σ.last ≤ now; omega) (Int.le_refl _), r0, r1, s0, s1, ?_⟩
  · rcases foldl_put_mem _ _ _ hx with hx | hx
    · exact onx x hx
    · obtain ⟨i, e1, e2⟩ := itemsOf_mem _ _ _ hx
      rw [TI, List.getElem?_drop] at e2
      exact ⟨by omega, by rw [show (x.1 - 1).toNat = σ.gone.toNat + i by omega]; exact e2⟩
  · show ∃ A B, dueT σ.wt σ.last σ.gone now σ.T = _
    unfold dueT
    split
    · exact ⟨A, B, fl⟩
    · exact ⟨σ.T.map (·.1), [], by simp⟩
theorem getElem?_lt_take {α : Type} {L : List α} {n : Nat} {x : α} (h : L[n]? = some x) : L.take n ++ [x] = L.take (n + 1) := by
  obtain ⟨h1, h2⟩ := List.getElem?_eq_some_iff.1 h
  rw [List.take_succ_eq_append_getElem h1, h2]
theorem comeE_zero {σ : LSt} {s : Int} (h : comeE σ s = 0) : s = σ.had + 1 ∧ σ.room - σ.store ≠ 0 := by
  unfold comeE at h
  split at h
  · omega
  · rename_i hn
    have := (whyN_zero.1 h).2
    exact ⟨this, fun e => hn ⟨h, e⟩⟩
theorem eraseIdx_mem {α : Type} {L : List α} {i : Nat} {x : α} (h : x ∈ L.eraseIdx i) : x ∈ L := List.mem_of_mem_eraseIdx h
theorem eraseIdx_le {α : Type} (L : List α) (i : Nat) (h : L.length ≤ 64) : (L.eraseIdx i).length ≤ 64 := by
  have := List.length_eraseIdx_le L i; omega
theorem inv_come {In : List ByteArray} {σ : LSt} (h : Inv In σ) (i : Int) : Inv In (comeS σ i).2 := by
  unfold comeS
  split
  · exact h
  · rename_i x hx
    refine inv_tell ?_
    obtain ⟨w1, w2, t1, t2, c1, c2, g1, gh, hn', gT, TI, tw, oo, on, onx, bk, bkx, l1, l2, r0, r1, s0, s1, fl⟩ := h
    obtain ⟨x1, x2⟩ := onx x (atL_mem hx)
    have hxl := (List.getElem?_eq_some_iff.1 x2).1
    split
    · rename_i he
      obtain ⟨e1, e2⟩ := comeE_zero he
      refine ⟨w1, w2, t1, t2, c1, c2, g1, by show σ.gone ≤ σ.had + 1; omega, by show σ.had + 1 ≤ _; omega, gT, TI, tw, ?_, eraseIdx_le _ _ on, fun y hy => onx y (eraseIdx_mem hy), bk, fun f hf => by have := bkx f hf; exact ⟨this.1, by show f.1 ≤ σ.had + 1; omega, this.2.2⟩, l1, l2, r0, r1, by show 0 ≤ σ.store + 1; omega, by show σ.store + 1 ≤ σ.room; omega, fl⟩
      show σ.Out ++ [x.2] = In.take (σ.had + 1).toNat
      rw [oo, show (σ.had + 1).toNat = σ.had.toNat + 1 by omega]
      exact getElem?_lt_take (by rw [← x2]; congr 1; omega)
    · exact ⟨w1, w2, t1, t2, c1, c2, g1, gh, hn', gT, TI, tw, oo, eraseIdx_le _ _ on, fun y hy => onx y (eraseIdx_mem hy), bk, bkx, l1, l2, r0, r1, s0, s1, fl⟩
theorem inv_back {In : List ByteArray} {σ : LSt} (h : Inv In σ) (i : Int) : Inv In (backS σ i).2 := by
  unfold backS
  split
  · exact h
  · rename_i f hf
    obtain ⟨w1, w2, t1, t2, c1, c2, g1, gh, hn', gT, TI, tw, oo, on, onx, bk, bkx, l1, l2, r0, r1, s0, s1, A, B, fl⟩ := h
    obtain ⟨b1, b2, b3, b4⟩ := bkx f (atL_mem hf)
    dsimp only
    split
    · rename_i he
      obtain ⟨_, e1, e2, e3, e4, e5⟩ := stakeN_zero.1 he
      have hl : (σ.T.drop (f.1 - σ.gone).toNat).length = σ.T.length - (f.1 - σ.gone).toNat := List.length_drop
      refine ⟨w1, w2, t1, t2, b3, b4, b1, b2, hn', by show f.1 + (σ.T.drop (f.1 - σ.gone).toNat).length = _; omega, ?_, by show ((σ.T.drop (f.1 - σ.gone).toNat).length : Int) ≤ σ.win; omega, oo, on, onx, eraseIdx_le _ _ bk, fun y hy => bkx y (eraseIdx_mem hy), l1, l2, r0, r1, s0, s1, ?_⟩
      · show (σ.T.drop (f.1 - σ.gone).toNat).map (·.1) = In.drop f.1.toNat
        rw [List.map_drop, TI, List.drop_drop]; congr 1; omega
      · refine ⟨A.drop (f.1 - σ.gone).toNat, B.drop ((f.1 - σ.gone).toNat - A.length), ?_⟩
        show σ.T.drop (f.1 - σ.gone).toNat = _
        rw [fl, List.drop_append]; simp
    · exact ⟨w1, w2, t1, t2, c1, c2, g1, gh, hn', gT, TI, tw, oo, on, onx, eraseIdx_le _ _ bk, fun y hy => bkx y (eraseIdx_mem hy), l1, l2, r0, r1, s0, s1, A, B, fl⟩
theorem inv_drain {In : List ByteArray} {σ : LSt} (h : Inv In σ) (n : Int) : Inv In (drainS σ n).2 := by
  unfold drainS
  split
  · refine inv_tell ?_
    obtain ⟨w1, w2, t1, t2, c1, c2, g1, gh, hn', gT, TI, tw, oo, on, onx, bk, bkx, l1, l2, r0, r1, s0, s1, fl⟩ := h
    exact ⟨w1, w2, t1, t2, c1, c2, g1, gh, hn', gT, TI, tw, oo, on, onx, bk, bkx, l1, l2, r0, r1, by show 0 ≤ σ.store - _; omega, by show σ.store - _ ≤ σ.room; omega, fl⟩
  · exact h
theorem inv_lose {In : List ByteArray} {σ : LSt} (h : Inv In σ) (b : Bool) (i : Int) : Inv In (loseS σ b i).2 := by
  unfold loseS
  split
  · split
    · exact h
    · obtain ⟨w1, w2, t1, t2, c1, c2, g1, gh, hn', gT, TI, tw, oo, on, onx, bk, bkx, l1, l2, r0, r1, s0, s1, fl⟩ := h
      exact ⟨w1, w2, t1, t2, c1, c2, g1, gh, hn', gT, TI, tw, oo, on, onx, eraseIdx_le _ _ bk, fun y hy => bkx y (eraseIdx_mem hy), l1, l2, r0, r1, s0, s1, fl⟩
  · split
    · exact h
    · obtain ⟨w1, w2, t1, t2, c1, c2, g1, gh, hn', gT, TI, tw, oo, on, onx, bk, bkx, l1, l2, r0, r1, s0, s1, fl⟩ := h
      exact ⟨w1, w2, t1, t2, c1, c2, g1, gh, hn', gT, TI, tw, oo, eraseIdx_le _ _ on, fun y hy => onx y (eraseIdx_mem hy), bk, bkx, l1, l2, r0, r1, s0, s1, fl⟩
theorem inv_twice {In : List ByteArray} {σ : LSt} (h : Inv In σ) (b : Bool) (i : Int) : Inv In (twiceS σ b i).2 := by
  unfold twiceS
  split
  · split
    · exact h
    · rename_i x hx
      obtain ⟨w1, w2, t1, t2, c1, c2, g1, gh, hn', gT, TI, tw, oo, on, onx, bk, bkx, l1, l2, r0, r1, s0, s1, fl⟩ := h
      exact ⟨w1, w2, t1, t2, c1, c2, g1, gh, hn', gT, TI, tw, oo, on, onx, putL_len _ _ bk, fun y hy => (putL_mem hy).elim (bkx y) (fun e => by subst e; exact bkx _ (atL_mem hx)), l1, l2, r0, r1, s0, s1, fl⟩
  · split
    · exact h
    · rename_i x hx
      obtain ⟨w1, w2, t1, t2, c1, c2, g1, gh, hn', gT, TI, tw, oo, on, onx, bk, bkx, l1, l2, r0, r1, s0, s1, fl⟩ := h
      exact ⟨w1, w2, t1, t2, c1, c2, g1, gh, hn', gT, TI, tw, oo, putL_len _ _ on, fun y hy => (putL_mem hy).elim (onx y) (fun e => by subst e; exact onx _ (atL_mem hx)), bk, bkx, l1, l2, r0, r1, s0, s1, fl⟩
/-- What was pushed, behind a call. -/
def playIn (In : List ByteArray) (σ : LSt) (o : Op14) : List ByteArray := if o.k = 0 ∧ (playS σ o).1 = 0 then In ++ [cut o.s] else In
theorem playIn_len (In : List ByteArray) (σ : LSt) (o : Op14) : (playIn In σ o).length ≤ In.length + 1 := by unfold playIn; split <;> simp
theorem inv_play {In : List ByteArray} {σ : LSt} (h : Inv In σ) (o : Op14) : Inv (playIn In σ o) (playS σ o).2 := by
  unfold playIn playS
  by_cases h0 : o.k = 0
  · have := inv_push h (cut o.s)
    simpa [h0] using this
  · simp only [h0, false_and, if_false]
    split
    · exact inv_send h _
    split
    · exact inv_come h _
    split
    · exact inv_back h _
    split
    · exact inv_drain h _
    split
    · exact inv_lose h _ _
    · exact inv_twice h _ _
/-- What stays: the window, the wait, the room; and the clock goes on. -/
structure Sty (σ τ : LSt) : Prop where
  win : τ.win = σ.win
  wt : τ.wt = σ.wt
  room : τ.room = σ.room
  n0 : σ.now ≤ τ.now
  n1 : τ.now ≤ σ.now + 1000
theorem Sty.refl (σ : LSt) : Sty σ σ := ⟨rfl, rfl, rfl, by omega, by omega⟩
theorem sty_play (σ : LSt) (o : Op14) : Sty σ (playS σ o).2 := by
  unfold playS
  split
  · unfold pushS; split <;> exact ⟨rfl, rfl, rfl, Int.le_refl _, by show σ.now ≤ _; omega⟩
  split
  · exact ⟨rfl, rfl, rfl, tickN_lo _ _, tickN_hi _ _⟩
  split
  · unfold comeS; split
    · exact .refl σ
    · dsimp only; split <;> exact ⟨rfl, rfl, rfl, Int.le_refl _, by show σ.now ≤ _; omega⟩
  split
  · unfold backS; split
    · exact .refl σ
    · dsimp only; split <;> exact ⟨rfl, rfl, rfl, Int.le_refl _, by show σ.now ≤ _; omega⟩
  split
  · unfold drainS; split
    · exact ⟨rfl, rfl, rfl, Int.le_refl _, by show σ.now ≤ _; omega⟩
    · exact .refl σ
  split
  · unfold loseS; split <;> split <;> exact ⟨rfl, rfl, rfl, Int.le_refl _, by show σ.now ≤ _; omega⟩
  · unfold twiceS; split <;> split <;> exact ⟨rfl, rfl, rfl, Int.le_refl _, by show σ.now ≤ _; omega⟩
/-- A call, by its kind. -/
theorem play_cases (σ : LSt) (o : Op14) : (o.k = 0 ∧ playS σ o = pushS σ (cut o.s)) ∨ (o.k = 1 ∧ playS σ o = sendS σ o.n) ∨ (o.k = 2 ∧ playS σ o = comeS σ o.n) ∨ (o.k = 3 ∧ playS σ o = backS σ o.n) ∨ (o.k = 4 ∧ playS σ o = drainS σ o.n) ∨ (o.k = 5 ∧ playS σ o = loseS σ o.b o.n) ∨
    ((o.k ≠ 0 ∧ o.k ≠ 1 ∧ o.k ≠ 2 ∧ o.k ≠ 3 ∧ o.k ≠ 4 ∧ o.k ≠ 5) ∧ playS σ o = twiceS σ o.b o.n) := by
  by_cases h0 : o.k = 0
  · exact .inl ⟨h0, by simp [playS, h0]⟩
  refine .inr ?_
  by_cases h1 : o.k = 1
  · exact .inl ⟨h1, by simp [playS, h1]⟩
  refine .inr ?_
  by_cases h2 : o.k = 2
  · exact .inl ⟨h2, by simp [playS, h2]⟩
  refine .inr ?_
  by_cases h3 : o.k = 3
  · exact .inl ⟨h3, by simp [playS, h3]⟩
  refine .inr ?_
  by_cases h4 : o.k = 4
  · exact .inl ⟨h4, by simp [playS, h4]⟩
  refine .inr ?_
  by_cases h5 : o.k = 5
  · exact .inl ⟨h5, by simp [playS, h5]⟩
  exact .inr ⟨⟨h0, h1, h2, h3, h4, h5⟩, by simp [playS, h0, h1, h2, h3, h4, h5]⟩
/-- What was drained: what came, less what is in the store. -/
theorem drained_play (σ : LSt) (o : Op14) : (playS σ o).2.had - (playS σ o).2.store = σ.had - σ.store + (if o.k = 4 then (playS σ o).1 else 0) := by
  rcases play_cases σ o with ⟨h, e⟩ | ⟨h, e⟩ | ⟨h, e⟩ | ⟨h, e⟩ | ⟨h, e⟩ | ⟨h, e⟩ | ⟨h, e⟩
  · rw [e, if_neg (by omega)]; unfold pushS; split <;> simp
  · rw [e, if_neg (by omega)]; simp [sendS]
  · rw [e, if_neg (by omega)]; unfold comeS; split
    · simp
    · simp only [tellS]; split <;> simp; omega
  · rw [e, if_neg (by omega)]; unfold backS; split
    · simp
    · dsimp only; split <;> simp
  · rw [e, if_pos (by assumption)]; unfold drainS; split
    · simp only [tellS]; omega
    · simp
  · rw [e, if_neg (by omega)]; unfold loseS; split <;> split <;> simp
  · rw [e, if_neg (by omega)]; unfold twiceS; split <;> split <;> simp
/-! Service. -/
/-- One turn of the inner loop: Come, Back, Drain, Back. -/
def it1 (σ : LSt) : LSt := (backS (drainS (backS (comeS σ 0).2 0).2 64).2 0).2
def itn : Nat → LSt → LSt
  | 0, σ => σ
  | j + 1, σ => it1 (itn j σ)
def rnd (m : Nat) : Nat → LSt → LSt
  | 0, σ => σ
  | i + 1, σ => (sendS (itn m (rnd m i σ)) 8).2
theorem inv_it1 {In : List ByteArray} {σ : LSt} (h : Inv In σ) : Inv In (it1 σ) := inv_back (inv_drain (inv_back (inv_come h 0) 0) 64) 0
theorem inv_itn {In : List ByteArray} {σ : LSt} (h : Inv In σ) : ∀ j, Inv In (itn j σ)
  | 0 => h
  | j + 1 => inv_it1 (inv_itn h j)
theorem inv_rnd {In : List ByteArray} {σ : LSt} (h : Inv In σ) (m : Nat) : ∀ i, Inv In (rnd m i σ)
  | 0 => h
  | i + 1 => inv_send (inv_itn (inv_rnd h m i) m) 8
/-- What Come at the first place, Back at the first place and Drain of all do, part by part. -/
theorem come_parts (σ : LSt) : (comeS σ 0).2.On = σ.On.drop 1 ∧ (comeS σ 0).2.now = σ.now ∧ (comeS σ 0).2.wt = σ.wt ∧ (comeS σ 0).2.Bk.length ≤ (if σ.On = [] then σ.Bk.length else (if σ.Bk.length < 64 then σ.Bk.length + 1 else σ.Bk.length)) ∧ (σ.On = [] → (comeS σ 0).2 = σ) ∧ (comeS σ 0).2.T = σ.T := by
  unfold comeS atL
  cases h : σ.On with
  | nil => simp [h]
  | cons x L =>
    simp only [Int.le_refl, if_true, Int.toNat_zero, List.getElem?_cons_zero]
    refine ⟨?_, ?_, ?_, ?_, ?_, ?_⟩
    · unfold tellS; split <;> simp [h]
    · unfold tellS; split <;> simp
    · unfold tellS; split <;> simp
    · rw [if_neg (List.cons_ne_nil _ _)]; unfold tellS putL; split <;> (dsimp only; split <;> simp_all)
    · simp
    · unfold tellS; split <;> simp
theorem back_parts (σ : LSt) : (backS σ 0).2.On = σ.On ∧ (backS σ 0).2.now = σ.now ∧ (backS σ 0).2.wt = σ.wt ∧ (backS σ 0).2.store = σ.store ∧ (backS σ 0).2.Bk = σ.Bk.drop 1 ∧ (σ.Bk = [] → (backS σ 0).2 = σ) ∧ (σ.T = [] → (backS σ 0).2.T = []) := by
  unfold backS atL
  cases h : σ.Bk with
  | nil => simp [h]
  | cons x L =>
    simp only [Int.le_refl, if_true, Int.toNat_zero, List.getElem?_cons_zero]
    refine ⟨?_, ?_, ?_, ?_, ?_, ?_, ?_⟩
    all_goals first
      | (split <;> simp; done)
      | (split <;> simp [h]; done)
      | (intro h2; split <;> simp [h2]; done)
      | simp
theorem drain_parts (σ : LSt) (h0 : 0 ≤ σ.store) (h1 : σ.store ≤ 64) : (drainS σ 64).2.On = σ.On ∧ (drainS σ 64).2.now = σ.now ∧ (drainS σ 64).2.wt = σ.wt ∧ (drainS σ 64).2.store = 0 ∧ (drainS σ 64).2.Bk.length ≤ (if σ.store = 0 then σ.Bk.length else (if σ.Bk.length < 64 then σ.Bk.length + 1 else σ.Bk.length)) ∧ (σ.store = 0 → (drainS σ 64).2 = σ) ∧ (drainS σ 64).2.T = σ.T := by
  unfold drainS
  split
  · refine ⟨rfl, rfl, rfl, ?_, ?_, fun h => by omega, rfl⟩
    · show σ.store - min 64 σ.store = 0; omega
    · rw [if_neg (by omega)]; simp only [tellS, putL]; split <;> simp
  · have e : σ.store = 0 := by omega
    simp [e]
theorem it1_parts {In : List ByteArray} {σ : LSt} (h : Inv In σ) : (it1 σ).On = σ.On.drop 1 ∧ (it1 σ).now = σ.now ∧ (it1 σ).wt = σ.wt ∧ (it1 σ).store = 0 ∧ (it1 σ).Bk.length ≤ σ.Bk.length ∧ (σ.On = [] → σ.store = 0 → (it1 σ).Bk.length ≤ σ.Bk.length - 2) ∧ (σ.T = [] → (it1 σ).T = []) := by
  have i1 := inv_come h 0
  have i2 := inv_back i1 0
  obtain ⟨a1, a2, a3, a4, a5, a6⟩ := come_parts σ
  obtain ⟨b1, b2, b3, b4, b5, b6, b7⟩ := back_parts (comeS σ 0).2
  obtain ⟨c1, c2, c3, c4, c5, c6, c7⟩ := drain_parts (backS (comeS σ 0).2 0).2 i2.s0 (by have := i2.s1; have := i2.r1; omega)
  obtain ⟨d1, d2, d3, d4, d5, d6, d7⟩ := back_parts (drainS (backS (comeS σ 0).2 0).2 64).2
  have hb := h.bk
  unfold it1
  refine ⟨by rw [d1, c1, b1, a1], by rw [d2, c2, b2, a2], by rw [d3, c3, b3, a3], by rw [d4, c4], ?_, fun h1 h2 => ?_, fun h1 => d7 (by rw [c7]; exact b7 (by rw [a6]; exact h1))⟩
  · rw [d5, List.length_drop]
    have e1 : (backS (comeS σ 0).2 0).2.Bk.length = (comeS σ 0).2.Bk.length - 1 := by rw [b5, List.length_drop]
    split at c5 <;> split at a4 <;> (try split at c5) <;> (try split at a4) <;> omega
  · have e0 := a5 h1
    rw [d5, List.length_drop]
    rw [e0] at b4 b5 c5 ⊢
    rw [if_pos (by rw [b4]; exact h2)] at c5
    rw [b5, List.length_drop] at c5
    omega
theorem itn_parts {In : List ByteArray} {σ : LSt} (h : Inv In σ) : ∀ j, (itn j σ).On = σ.On.drop j ∧ (itn j σ).now = σ.now ∧ (itn j σ).wt = σ.wt ∧ (1 ≤ j → (itn j σ).store = 0) ∧ (itn j σ).Bk.length ≤ 64 ∧ (σ.On.length ≤ 16 → 17 ≤ j → (itn j σ).Bk.length ≤ 64 - 2 * (j - 17)) ∧ (σ.T = [] → (itn j σ).T = []) := by
  intro j
  induction j with
  | zero => exact ⟨by simp [itn], rfl, rfl, fun h => by omega, h.bk, fun _ h => by omega, id⟩
  | succ j ih =>
    obtain ⟨a1, a2, a3, a4, a5, a6, a7⟩ := ih
    obtain ⟨b1, b2, b3, b4, b5, b6, b7⟩ := it1_parts (inv_itn h j)
    refine ⟨?_, ?_, ?_, fun _ => b4, ?_, fun h16 hj => ?_, fun hT => b7 (a7 hT)⟩
    · show (it1 _).On = _; rw [b1, a1, List.drop_drop]
    · show (it1 _).now = _; rw [b2, a2]
    · show (it1 _).wt = _; rw [b3, a3]
    · show (it1 _).Bk.length ≤ _; omega
    · show (it1 _).Bk.length ≤ _
      by_cases h17 : 17 ≤ j
      · have := a6 h16 h17
        have := b6 (by rw [a1, List.drop_eq_nil_of_le (by omega)]) (a4 (by omega))
        omega
      · omega
/-- What is sent when the way is empty and the wait is over: all that is under way. -/
theorem send_all {In : List ByteArray} {σ : LSt} (h : Inv In σ) (hw : σ.wt ≤ 8) (hO : σ.On = []) : (sendS σ 8).2.On = itemsOf (fun _ => true) σ.gone σ.T := by
  have hk : tickN σ.now 8 = σ.now + 8 := by unfold tickN; rw [if_pos (by omega)]
  have l2 := h.l2
  have hm : max (tickN σ.now 8) σ.last = σ.now + 8 := by rw [hk]; omega
  have hd : dueL σ.wt σ.last σ.gone (tickN σ.now 8) σ.T = itemsOf (fun _ => true) σ.gone σ.T := by
    unfold dueL
    refine itemsOf_eq _ _ fun x hx => ?_
    rw [hm]
    obtain ⟨A, B, fl⟩ := h.fl
    unfold againB
    rw [decide_eq_true (by omega), Bool.true_and]
    cases A with
    | nil =>
      have : x.2 = false := by
        rw [fl] at hx; simp at hx; obtain ⟨_, _, rfl⟩ := hx; rfl
      simp [this]
    | cons a A => rw [fl]; simp
  unfold sendS
  dsimp only
  have tw := h.tw
  have w2 := h.w2
  rw [hd, foldl_put_room _ _ (by rw [hO, items_len]; simp; omega), hO, List.nil_append]
theorem send_parts (σ : LSt) (t : Int) : (sendS σ t).2.Bk = σ.Bk ∧ (sendS σ t).2.store = σ.store ∧ (sendS σ t).2.gone = σ.gone ∧ (sendS σ t).2.had = σ.had ∧ (sendS σ t).2.wt = σ.wt ∧ (sendS σ t).2.T.length = σ.T.length ∧ (sendS σ t).2.Out = σ.Out := ⟨rfl, rfl, rfl, rfl, rfl, dueT_len _ _ _ _ _, rfl⟩
/-- The last round: nothing is on the way back, all that is under way is on the way, from number n + 1 on. -/
structure Fin (In : List ByteArray) (n : Nat) (σ : LSt) : Prop where
  bk : σ.Bk = []
  st : σ.store = 0
  len : n + σ.On.length = In.length
  at_ : ∀ (i : Nat) (x : Itm), σ.On[i]? = some x → x.1 = n + i + 1
  le : (n : Int) ≤ σ.had
  g : σ.gone = σ.had ∨ σ.gone = n
theorem creditN_room {r : Int} (h0 : 0 ≤ r) (h1 : r ≤ 64) : creditN r = r := by unfold creditN; rw [if_neg (show ¬ 64 < r by omega)]; split <;> omega
/-- An ack of all that has come is taken. -/
theorem back_ack {In : List ByteArray} {σ : LSt} {c : Int} (h : Inv In σ) (hb : σ.Bk = [(σ.had, c)]) : (backS σ 0).2 = { σ with Bk := [], cr := c, T := σ.T.drop (σ.had - σ.gone).toNat, gone := σ.had } := by
  have hx := h.bkx (σ.had, c) (by rw [hb]; simp)
  have h0 : stakeN 1 σ.gone σ.T.length 1 σ.had c = 0 := stakeN_zero.2 ⟨rfl, hx.2.2.1, hx.2.2.2, hx.1, by have := h.gT; have := h.hn; omega, h.gh⟩
  unfold backS atL
  rw [hb]
  simp [h0]
theorem fin_it1 {In : List ByteArray} {n : Nat} {σ : LSt} (h : Inv In σ) (f : Fin In n σ) : ∃ m, Fin In m (it1 σ) := by
  obtain ⟨bk, st, len, at_, le, g⟩ := f
  cases hO : σ.On with
  | nil =>
    have e1 : (comeS σ 0).2 = σ := (come_parts σ).2.2.2.2.1 hO
    have e2 : (backS σ 0).2 = σ := (back_parts σ).2.2.2.2.2.1 bk
    have e3 : (drainS σ 64).2 = σ := (drain_parts σ (by omega) (by omega)).2.2.2.2.2.1 st
    have : it1 σ = σ := by unfold it1; rw [e1, e2, e3, e2]
    rw [this]
    exact ⟨n, bk, st, len, at_, le, g⟩
  | cons x L =>
    have hx : x.1 = n + 1 := by have := at_ 0 x (by rw [hO]; rfl); omega
    have hlen : n + L.length + 1 = In.length := by rw [hO] at len; simp at len; omega
    have hat : ∀ (i : Nat) (y : Itm), L[i]? = some y → y.1 = (n + 1 : Nat) + i + 1 := fun i y hy => by have := at_ (i + 1) y (by rw [hO]; simpa using hy); omega
    have i1 := inv_come h 0
    have r0 := h.r0
    have r1 := h.r1
    refine ⟨n + 1, ?_⟩
    by_cases hh : (n : Int) + 1 ≤ σ.had
    · -- it is old
      have hw : whyN 1 σ.had 1 x.1 = 11 := by unfold whyN; rw [if_neg (by simp), if_neg (by omega), if_neg (by omega)]
      have hc : comeE σ x.1 = 11 := by unfold comeE; rw [hw, if_neg (by omega)]
      have e1 : (comeS σ 0).2 = { σ with On := L, ow := false, Bk := [(σ.had, creditN (σ.room - σ.store))] } := by
        unfold comeS atL
        simp [hO, hc, tellS, putL, bk]
      rw [e1] at i1
      have e2 := back_ack (c := creditN (σ.room - σ.store)) i1 rfl
      rw [← e1] at e2
      have e3 : (drainS (backS (comeS σ 0).2 0).2 64).2 = (backS (comeS σ 0).2 0).2 := (drain_parts _ (by rw [e2, e1]; show 0 ≤ σ.store; omega) (by rw [e2, e1]; show σ.store ≤ 64; omega)).2.2.2.2.2.1 (by rw [e2, e1]; exact st)
      have e4 : it1 σ = (backS (comeS σ 0).2 0).2 := by unfold it1; rw [e3]; exact (back_parts _).2.2.2.2.2.1 (by rw [e2])
      rw [e4, e2, e1]
      exact ⟨rfl, st, by show n + 1 + L.length = _; omega, hat, by show ((n + 1 : Nat) : Int) ≤ σ.had; omega, .inl rfl⟩
    · -- it is the next one
      have hn : σ.had = n := by omega
      have hw : whyN 1 σ.had 1 x.1 = 0 := whyN_zero.2 ⟨rfl, by omega⟩
      have hc : comeE σ x.1 = 0 := by unfold comeE; rw [hw, if_neg (by omega)]
      have e1 : (comeS σ 0).2 = { σ with On := L, ow := false, had := σ.had + 1, store := σ.store + 1, Out := σ.Out ++ [x.2], Bk := [(σ.had + 1, creditN (σ.room - (σ.store + 1)))] } := by
        unfold comeS atL
        simp [hO, hc, tellS, putL, bk]
      rw [e1] at i1
      have e2 := back_ack (c := creditN (σ.room - (σ.store + 1))) i1 rfl
      rw [← e1] at e2
      have i2 := inv_back i1 0
      rw [← e1] at i2
      have i3 := inv_drain i2 64
      have e3 : (drainS (backS (comeS σ 0).2 0).2 64).2 = { (backS (comeS σ 0).2 0).2 with store := 0, ow := false, Bk := [((backS (comeS σ 0).2 0).2.had, creditN ((backS (comeS σ 0).2 0).2.room - 0))] } := by
        have hs : (backS (comeS σ 0).2 0).2.store = 1 := by rw [e2, e1]; show σ.store + 1 = 1; omega
        have hbk : (backS (comeS σ 0).2 0).2.Bk = [] := by rw [e2]
        generalize (backS (comeS σ 0).2 0).2 = τ at hs hbk ⊢
        unfold drainS
        rw [if_pos (by omega)]
        have : σ.store + 1 - min 64 (σ.store + 1) = 0 := by omega
        have hmin : τ.store - min 64 τ.store = 0 := by omega
        simp [tellS, putL, hbk, hmin]
      have e4 := back_ack (σ := (drainS (backS (comeS σ 0).2 0).2 64).2) (c := creditN ((backS (comeS σ 0).2 0).2.room - 0)) i3 (by rw [e3])
      show Fin In (n + 1) (backS (drainS (backS (comeS σ 0).2 0).2 64).2 0).2
      rw [e4, e3, e2, e1]
      exact ⟨rfl, rfl, by show n + 1 + L.length = _; omega, hat, by show ((n + 1 : Nat) : Int) ≤ σ.had + 1; omega, .inl rfl⟩
theorem fin_itn {In : List ByteArray} {n : Nat} {σ : LSt} (h : Inv In σ) (f : Fin In n σ) : ∀ j, ∃ m, Fin In m (itn j σ)
  | 0 => ⟨n, f⟩
  | j + 1 => by
    obtain ⟨m, hm⟩ := fin_itn h f j
    exact fin_it1 (inv_itn h j) hm
theorem fin_end {In : List ByteArray} {n : Nat} {σ : LSt} (h : Inv In σ) (f : Fin In n σ) (hO : σ.On = []) : σ.T = [] := by
  have := f.len
  rw [hO] at this
  simp at this
  have := f.le
  have := h.gT
  have := h.hn
  have := f.g
  exact List.length_eq_zero_iff.1 (by omega)
theorem rnd_succ (m i : Nat) (σ : LSt) : rnd m (i + 1) σ = (sendS (itn m (rnd m i σ)) 8).2 := rfl
theorem rnd_wt {In : List ByteArray} {σ : LSt} (h : Inv In σ) (m : Nat) : ∀ i, (rnd m i σ).wt = σ.wt ∧ (rnd m i σ).now ≤ σ.now + 1000 * i ∧ (rnd m i σ).room = (rnd m i σ).room
  | 0 => ⟨rfl, by simp [rnd], rfl⟩
  | i + 1 => by
    obtain ⟨a, b, _⟩ := rnd_wt h m i
    obtain ⟨_, c2, c3, _⟩ := itn_parts (inv_rnd h m i) m
    refine ⟨by show (itn m (rnd m i σ)).wt = _; rw [c3, a], ?_, rfl⟩
    have := tickN_hi (itn m (rnd m i σ)).now 8
    show tickN (itn m (rnd m i σ)).now 8 ≤ _
    omega
/-- Behind three rounds nothing is under way. -/
theorem served3 {In : List ByteArray} {σ : LSt} (h : Inv In σ) (hw : σ.wt ≤ 8) (m : Nat) (hm : 64 ≤ m) : (rnd m 3 σ).T = [] := by
  have i1 := inv_rnd h m 1
  have i2 := inv_rnd h m 2
  have j0 := inv_itn h m
  have j1 := inv_itn i1 m
  have j2 := inv_itn i2 m
  obtain ⟨a1, _, a3, _⟩ := itn_parts h m
  have aO : (itn m σ).On = [] := by rw [a1]; exact List.drop_eq_nil_of_le (Nat.le_trans h.on hm)
  have s1 : (rnd m 1 σ).On = itemsOf (fun _ => true) (itn m σ).gone (itn m σ).T := send_all j0 (by show (itn m σ).wt ≤ 8; rw [a3]; exact hw) aO
  have l1 : (rnd m 1 σ).On.length ≤ 16 := by rw [s1, items_len]; have := j0.tw; have := j0.w2; omega
  obtain ⟨b1, _, b3, b4, _, b6, _⟩ := itn_parts i1 m
  have bO : (itn m (rnd m 1 σ)).On = [] := by rw [b1]; exact List.drop_eq_nil_of_le (by omega)
  have bB : (itn m (rnd m 1 σ)).Bk = [] := List.length_eq_zero_iff.1 (by have := b6 l1 (by omega); omega)
  have s2 : (rnd m 2 σ).On = itemsOf (fun _ => true) (itn m (rnd m 1 σ)).gone (itn m (rnd m 1 σ)).T := send_all j1 (by rw [b3, (rnd_wt h m 1).1]; exact hw) bO
  have g1 := j1.g1
  have fn : Fin In (itn m (rnd m 1 σ)).gone.toNat (rnd m 2 σ) := by
    refine ⟨bB, b4 (by omega), ?_, fun i x hx => ?_, ?_, .inr ?_⟩
    · rw [s2, items_len]; have := j1.gT; omega
    · rw [s2] at hx
      have hi : i < (itn m (rnd m 1 σ)).T.length := by have := (List.getElem?_eq_some_iff.1 hx).1; rwa [items_len] at this
      rw [items_get _ _ i _ (List.getElem?_eq_getElem hi)] at hx
      injection hx with hx
      rw [← hx]
      show (itn m (rnd m 1 σ)).gone + i + 1 = _
      omega
    · show _ ≤ (itn m (rnd m 1 σ)).had; have := j1.gh; omega
    · show (itn m (rnd m 1 σ)).gone = _; omega
  obtain ⟨n, fm⟩ := fin_itn i2 fn m
  obtain ⟨c1, _⟩ := itn_parts i2 m
  have cT := fin_end j2 fm (by rw [c1]; exact List.drop_eq_nil_of_le (Nat.le_trans i2.on hm))
  show (sendS (itn m (rnd m 2 σ)) 8).2.T = []
  exact List.length_eq_zero_iff.1 (by rw [(send_parts _ _).2.2.2.2.2.1, cT]; rfl)
theorem served {In : List ByteArray} {σ : LSt} (h : Inv In σ) (hw : σ.wt ≤ 8) (m : Nat) (hm : 64 ≤ m) : ∀ i, (rnd m (i + 3) σ).T = []
  | 0 => served3 h hw m hm
  | i + 1 => by
    have := served h hw m hm i
    obtain ⟨_, _, _, _, _, _, a7⟩ := itn_parts (inv_rnd h m (i + 3)) m
    show (sendS (itn m (rnd m (i + 3) σ)) 8).2.T = []
    exact List.length_eq_zero_iff.1 (by rw [(send_parts _ _).2.2.2.2.2.1, a7 this]; rfl)
theorem served_out {In : List ByteArray} {σ : LSt} (h : Inv In σ) (hT : σ.T = []) : σ.Out = In := by
  have := h.gT
  rw [hT] at this
  simp at this
  have := h.gh
  have := h.hn
  rw [h.oo, List.take_of_length_le (by omega)]
/-! A straight line. -/
structure Calm (In : List ByteArray) (σ : LSt) : Prop where
  inv : Inv In σ
  T : σ.T = []
  On : σ.On = []
  Bk : σ.Bk = []
  st : σ.store = 0
  cr : 1 ≤ σ.cr
/-- What stands behind each call for one text. -/
structure Step6 (In : List ByteArray) (s : ByteArray) (σ a b c d e f : LSt) : Prop where
  p : pushS σ s = (0, a)
  q : sendS a 0 = (1, b)
  r : comeS b 0 = (0, c)
  t : drainS c 1 = (1, d)
  u : backS d 0 = (0, e)
  v : backS e 0 = (0, f)
  ia : Inv (In ++ [s]) a
  ib : Inv (In ++ [s]) b
  ic : Inv (In ++ [s]) c
  id : Inv (In ++ [s]) d
  ie : Inv (In ++ [s]) e
  calm : Calm (In ++ [s]) f
  na : a.now = σ.now
  nb : b.now = σ.now
  nc : c.now = σ.now
  nd : d.now = σ.now
  ne : e.now = σ.now
  nf : f.now = σ.now
theorem back_ack2 {In : List ByteArray} {σ : LSt} {f1 c : Int} {L : List Frm} (h : Inv In σ) (hb : σ.Bk = (f1, c) :: L) (hg : σ.gone ≤ f1) : backS σ 0 = (0, { σ with Bk := L, cr := c, T := σ.T.drop (f1 - σ.gone).toNat, gone := f1 }) := by
  have hx := h.bkx (f1, c) (by rw [hb]; simp)
  have h0 : stakeN 1 σ.gone σ.T.length 1 f1 c = 0 := stakeN_zero.2 ⟨rfl, hx.2.2.1, hx.2.2.2, hx.1, by have := h.gT; have := h.hn; have := hx.2.1; dsimp only at this; omega, hg⟩
  unfold backS atL
  rw [hb]
  simp [h0]
theorem calm_step {In : List ByteArray} {σ : LSt} (h : Calm In σ) (s : ByteArray) : ∃ a b c d e f, Step6 In s σ a b c d e f := by
  obtain ⟨hi, hT, hO, hB, hst, hcr⟩ := h
  have w1 := hi.w1
  have r0 := hi.r0
  have r1 := hi.r1
  have gT := hi.gT
  have gh := hi.gh
  have hn := hi.hn
  have g1 := hi.g1
  rw [hT] at gT
  simp at gT
  have hhad : σ.had = σ.gone := by omega
  have hr : roomN σ.win σ.cr σ.T.length ≠ 0 := by
    rw [hT]; unfold roomN; simp only [List.length_nil]; split <;> split <;> omega
  have p : pushS σ s = (0, { σ with T := [(s, false)] }) := by unfold pushS; rw [if_neg hr, hT]; rfl
  have ia := inv_push hi s
  rw [p] at ia
  rw [if_pos rfl] at ia
  have ht : ∀ n, tickN n 0 = n := fun n => by unfold tickN; rw [if_pos (by omega)]; omega
  have hd : ∀ wt last gone now, dueL wt last gone now [(s, false)] = [(gone + 1, s)] := fun wt last gone now => by simp [dueL, itemsOf]
  have q : sendS { σ with T := [(s, false)] } 0 = (1, { σ with T := [(s, true)], On := [(σ.gone + 1, s)], last := max σ.now σ.last }) := by
    unfold sendS
    simp [ht, hd, dueT, dueLast, hO, putL]
  have ib := inv_send ia 0
  rw [q] at ib
  have hw : whyN 1 σ.had 1 (σ.gone + 1) = 0 := whyN_zero.2 ⟨rfl, by omega⟩
  have r : comeS { σ with T := [(s, true)], On := [(σ.gone + 1, s)], last := max σ.now σ.last } 0 = (0, { σ with T := [(s, true)], On := [], last := max σ.now σ.last, ow := false, had := σ.had + 1, store := 1, Out := σ.Out ++ [s], Bk := [(σ.had + 1, creditN (σ.room - 1))] }) := by
    have hc : comeE { σ with T := [(s, true)], On := [(σ.gone + 1, s)], last := max σ.now σ.last } (σ.gone + 1) = 0 := by
      unfold comeE
      dsimp only
      rw [hw, if_neg (by omega)]
    unfold comeS atL
    simp only [Int.le_refl, if_true, Int.toNat_zero, List.getElem?_cons_zero, hc]
    simp [tellS, putL, hB, hst]
  have ic := inv_come ib 0
  rw [r] at ic
  have t : drainS { σ with T := [(s, true)], On := [], last := max σ.now σ.last, ow := false, had := σ.had + 1, store := 1, Out := σ.Out ++ [s], Bk := [(σ.had + 1, creditN (σ.room - 1))] } 1 = (1, { σ with T := [(s, true)], On := [], last := max σ.now σ.last, ow := false, had := σ.had + 1, store := 0, Out := σ.Out ++ [s], Bk := [(σ.had + 1, creditN (σ.room - 1)), (σ.had + 1, creditN σ.room)] }) := by
    simp [drainS, tellS, putL]
  have id' := inv_drain ic 1
  rw [t] at id'
  have u := back_ack2 (L := [(σ.had + 1, creditN σ.room)]) id' rfl (by show σ.gone ≤ σ.had + 1; omega)
  have ie := inv_back id' 0
  rw [u] at ie
  have v := back_ack2 (L := []) ie rfl (Int.le_refl _)
  have iff' := inv_back ie 0
  rw [v] at iff'
  have hdrop : List.drop (σ.had + 1 - σ.gone).toNat [(s, true)] = [] := List.drop_eq_nil_of_le (by simp; omega)
  refine ⟨_, _, _, _, _, _, p, q, r, t, u, v, ia, ib, ic, id', ie, ⟨iff', ?_, rfl, rfl, rfl, ?_⟩, rfl, rfl, rfl, rfl, rfl, rfl⟩
  · show List.drop _ (List.drop (σ.had + 1 - σ.gone).toNat [(s, true)]) = []
    rw [hdrop]; simp
  · show 1 ≤ creditN σ.room
    rw [creditN_room (by omega) (by omega)]; omega
theorem calm_new {win wt room : Int} (h1 : 1 ≤ win ∧ win ≤ 16) (h2 : 1 ≤ wt ∧ wt ≤ 1000) (h3 : 1 ≤ room ∧ room ≤ 64) : Calm [] ⟨win, wt, win, [], 0, 0, 0, false, [], [], 0, [], room, 0⟩ := ⟨inv_new h1 h2 h3, rfl, rfl, rfl, rfl, h1.1⟩
theorem calm_out {In : List ByteArray} {σ : LSt} (h : Calm In σ) : σ.Out = In := served_out h.inv h.T
/-! The ways. -/
theorem putL_length {α : Type} (L : List α) (x : α) (h : L.length ≤ 64) : ((putL L x).length : Int) = min 64 ((L.length : Int) + 1) := by
  unfold putL; split <;> (try rw [List.length_append]) <;> (try simp) <;> omega
theorem lose_ways {In : List ByteArray} {σ : LSt} (h : Inv In σ) (b : Bool) (i : Int) : (loseS σ b i).2.Out = σ.Out ∧ (loseS σ b i).2.T = σ.T ∧
    ((loseS σ b i).2.On.length : Int) = (if b then (σ.On.length : Int) else min 64 ((σ.On.length : Int) + (if (loseS σ b i).1 = 0 then -1 else 0))) ∧
    ((loseS σ b i).2.Bk.length : Int) = (if b then min 64 ((σ.Bk.length : Int) + (if (loseS σ b i).1 = 0 then -1 else 0)) else (σ.Bk.length : Int)) := by
  have h1 := h.on
  have h2 := h.bk
  unfold loseS
  cases b
  · simp only [Bool.false_eq_true, if_false]
    split
    · refine ⟨rfl, rfl, ?_, rfl⟩
      simp; omega
    · rename_i x hx
      obtain ⟨k, rfl, hk⟩ := atL_some hx
      have hk2 := (List.getElem?_eq_some_iff.1 hk).1
      refine ⟨rfl, rfl, ?_, rfl⟩
      simp [List.length_eraseIdx, hk2]; omega
  · simp only [if_true]
    split
    · refine ⟨rfl, rfl, rfl, ?_⟩
      simp; omega
    · rename_i x hx
      obtain ⟨k, rfl, hk⟩ := atL_some hx
      have hk2 := (List.getElem?_eq_some_iff.1 hk).1
      refine ⟨rfl, rfl, rfl, ?_⟩
      simp [List.length_eraseIdx, hk2]; omega
theorem twice_ways {In : List ByteArray} {σ : LSt} (h : Inv In σ) (b : Bool) (i : Int) : (twiceS σ b i).2.Out = σ.Out ∧ (twiceS σ b i).2.T = σ.T ∧
    ((twiceS σ b i).2.On.length : Int) = (if b then (σ.On.length : Int) else min 64 ((σ.On.length : Int) + (if (twiceS σ b i).1 = 0 then 1 else 0))) ∧
    ((twiceS σ b i).2.Bk.length : Int) = (if b then min 64 ((σ.Bk.length : Int) + (if (twiceS σ b i).1 = 0 then 1 else 0)) else (σ.Bk.length : Int)) := by
  have h1 := h.on
  have h2 := h.bk
  unfold twiceS
  cases b
  · simp only [Bool.false_eq_true, if_false]
    split
    · refine ⟨rfl, rfl, ?_, rfl⟩
      simp; omega
    · refine ⟨rfl, rfl, ?_, rfl⟩
      simp [putL_length _ _ h1]
  · simp only [if_true]
    split
    · refine ⟨rfl, rfl, rfl, ?_⟩
      simp; omega
    · refine ⟨rfl, rfl, rfl, ?_⟩
      simp [putL_length _ _ h2]
end Go.Proofs.Ytejmcfgmopijkaa
