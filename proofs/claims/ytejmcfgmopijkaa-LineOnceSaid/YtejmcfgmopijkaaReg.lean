/- A region that draws its order, walked by hand: what only reads is taken first, what its guard passes over is passed over, what is left is carried out. -/
import Derived.Deep.RegionHeld3
import Derived.OrdersHeld
namespace Go.Proofs.Ytejmcfgmopijkaa

section
variable {P : Program} {ops : Array Oper} {Q : Exit → Act → World → Prop} {md : Region.Mode} {S : World → Prop} {i : Nat} {dst : Option Tmp} {op : Op} {ty : TypeId} {pos : String} {after : Array Edge} {gd : Option (Nat × Bool)}
  {fuel : Nat} {listed : Array Bool} {a : Act} {w : World}

theorem reg_take {v : Value} (hi : ops[i]? = some ⟨dst, op, ty, pos, after, gd⟩)
    (hs : Region.noSelect ops = true) (hf : Region.free md ops listed i = true) (hr : (Region.ready md ops listed).contains i = true)
    (hQ : ∀ c a w, Q (.panic c) (a.put dst v) w → Q (.panic c) a w)
    (hw : Region.wanted ⟨dst, op, ty, pos, after, gd⟩ (yielded ops a.tmps) = true) (hy : ∀ w, S w → (execOp a.eval ⟨dst, op, ty, pos, after, gd⟩).run P w = .ok (.value v) w) (hS : S w)
    (h : wpAnyH P md ops Q S fuel (listed.setIfInBounds i true) (a.put dst v) w) : wpAnyH P md ops Q S (fuel + 1) listed a w :=
  wpAnyH_take hi hs hf hr hQ (.inl ⟨hw, hy⟩) hS h

theorem reg_skip (hi : ops[i]? = some ⟨dst, op, ty, pos, after, gd⟩)
    (hs : Region.noSelect ops = true) (hf : Region.free md ops listed i = true) (hr : (Region.ready md ops listed).contains i = true)
    (hQ : ∀ c a w, Q (.panic c) (a.put dst undef) w → Q (.panic c) a w)
    (hw : Region.wanted ⟨dst, op, ty, pos, after, gd⟩ (yielded ops a.tmps) = false) (hS : S w)
    (h : wpAnyH P md ops Q S fuel (listed.setIfInBounds i true) (a.put dst undef) w) : wpAnyH P md ops Q S (fuel + 1) listed a w :=
  wpAnyH_take hi hs hf hr hQ (.inr ⟨hw, rfl⟩) hS h

/-- The one operation that may come up is carried out. -/
theorem reg_step (hr : Region.ready md ops listed = [i]) (hi : ops[i]? = some ⟨dst, op, ty, pos, after, gd⟩)
    (h : ∀ K' : Act → World → Prop, Shut (∀ a w, S w → (S w → wpAnyH P md ops Q S fuel (listed.setIfInBounds i true) a w) → K' a w) →
      if Region.wanted ⟨dst, op, ty, pos, after, gd⟩ (yielded ops a.tmps) = true then Oper.wp P ⟨dst, op, ty, pos, after, gd⟩ a w K' Q else K' (a.put dst undef) w) : wpAnyH P md ops Q S (fuel + 1) listed a w :=
  wpAnyH_ready hr (by simp) (AllReadyH.cons hi h AllReadyH.nil)
end
end Go.Proofs.Ytejmcfgmopijkaa
