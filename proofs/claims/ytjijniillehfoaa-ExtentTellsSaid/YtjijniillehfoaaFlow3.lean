/- A region that draws its order: what its reads are to yield hangs on one condition on the world, which every heavy operation is to bring about anew. -/
import Derived.Test.YtjijniillehfoaaFlow2
namespace Go.Own
open Go Go.RowKit
def FlowS (P : Program) (ops : List Oper) (Q : Exit → Act → World → Prop) (S : World → Prop) (fuel : Nat) (listed : Array Bool) (a : Act) (W : World) : Prop :=
  PanicsSame Q ∧ (S W → wpAnyH P .any ops.toArray Q S fuel listed a W)
section
variable {P : Program} {ops : List Oper} {Q : Exit → Act → World → Prop} {S : World → Prop} {fuel : Nat} {listed : Array Bool} {a a' : Act} {W : World}
theorem flows_begin {id : Nat} {l : List Oper} (hm : P.follows .mixedOrders = true) (n : Nat) (hn : l.length = n) (hq : PanicsSame Q) (hS : S W.drew) (h : PanicsSame Q → FlowS P l Q S n (List.replicate n false).toArray a W.drew) : (Code.region id l.toArray true).wp P Q a W := by
  subst hn
  refine wp_region_held (S := S) hm ?_
  have := (h hq).2 hS
  simpa using this
theorem flows_take (i : Nat) {oi : Oper} {v : Value} (hp : PanicsSame Q) (hi : (ops.drop i).head? = some oi) (hc : (Region.noSelect ops.toArray && Region.free .any ops.toArray listed i && (Region.ready .any ops.toArray listed).contains i) = true)
    (hw : Region.wanted oi (yielded ops.toArray a.tmps) = true) (hrun : ∀ w, S w → (execOp a.eval oi).run P w = .ok (.value v) w) (ha : a.put oi.dst v = a')
    (h : FlowS P ops Q S fuel (listed.setIfInBounds i true) a' W) : FlowS P ops Q S (fuel + 1) listed a W := by
  subst ha
  simp only [Bool.and_eq_true] at hc
  exact ⟨hp, fun hS => wpAnyH_take (at_of hi) hc.1.1 hc.1.2 hc.2 (fun c a' w' q => hp c _ _ _ (put_defers _ _ _) q) (.inl ⟨hw, fun w' k' => hrun w' k'⟩) hS (h.2 hS)⟩
theorem flows_skip (i : Nat) {oi : Oper} (hp : PanicsSame Q) (hi : (ops.drop i).head? = some oi) (hc : (Region.noSelect ops.toArray && Region.free .any ops.toArray listed i && (Region.ready .any ops.toArray listed).contains i) = true)
    (hw : Region.wanted oi (yielded ops.toArray a.tmps) = false) (ha : a.put oi.dst undef = a')
    (h : FlowS P ops Q S fuel (listed.setIfInBounds i true) a' W) : FlowS P ops Q S (fuel + 1) listed a W := by
  subst ha
  simp only [Bool.and_eq_true] at hc
  exact ⟨hp, fun hS => wpAnyH_take (at_of hi) hc.1.1 hc.1.2 hc.2 (fun c a' w' q => hp c _ _ _ (put_defers _ _ _) q) (.inr ⟨hw, rfl⟩) hS (h.2 hS)⟩
theorem flows_one (i : Nat) {oi : Oper} (hp : PanicsSame Q) (hi : (ops.drop i).head? = some oi) (hr : Region.ready .any ops.toArray listed = [i]) (hw : Region.wanted oi (yielded ops.toArray a.tmps) = true)
    (h : oi.wp P a W (fun a' w' => S w' ∧ FlowS P ops Q S fuel (listed.setIfInBounds i true) a' w') Q) : FlowS P ops Q S (fuel + 1) listed a W :=
  ⟨hp, fun _ => wpAnyH_all hr (by simp) fun j hj => by
    obtain rfl : j = i := by simpa using hj
    refine wpOp_mono (K := fun a' w' => S w' ∧ FlowS P ops Q S fuel (listed.setIfInBounds j true) a' w') (fun a' w' h' => ⟨h'.1, h'.2.2 h'.1⟩) ?_
    unfold wpOp
    simp only [at_of hi, hw, if_true]
    exact .inl h⟩
theorem flows_any (rs : List Nat) (hp : PanicsSame Q) (hr : Region.ready .any ops.toArray listed = rs) (hne : rs ≠ [])
    (h : ∀ i ∈ rs, ∃ oi, (ops.drop i).head? = some oi ∧ Region.wanted oi (yielded ops.toArray a.tmps) = true ∧
      oi.wp P a W (fun a' w' => S w' ∧ FlowS P ops Q S fuel (listed.setIfInBounds i true) a' w') Q) : FlowS P ops Q S (fuel + 1) listed a W :=
  ⟨hp, fun _ => wpAnyH_all hr hne fun j hj => by
    obtain ⟨oi, hi, hw, h⟩ := h j hj
    refine wpOp_mono (K := fun a' w' => S w' ∧ FlowS P ops Q S fuel (listed.setIfInBounds j true) a' w') (fun a' w' h' => ⟨h'.1, h'.2.2 h'.1⟩) ?_
    unfold wpOp
    simp only [at_of hi, hw, if_true]
    exact .inl h⟩
theorem flows_done (hp : PanicsSame Q) (hr : Region.ready .any ops.toArray listed = []) (h : Q .normal a W) : FlowS P ops Q S fuel listed a W :=
  ⟨hp, fun _ => wpAnyH_done hr h fuel⟩
end
end Go.Own
