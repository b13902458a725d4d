/- A region that draws its order, with the world at hand known exactly: reads are taken at once, calls one by one. -/
import Derived.Test.YtjijniillehfoaaZeros
namespace Go.Own
open Go Go.RowKit
theorem own_lit {w : World} {base z n : Nat} (e : TypeId) (l : List Value) (hb : base ≤ w.heap.size) (hl : l.length = n * z) (hn : n ≤ 9223372036854775807) :
    (w.alloc (.cells l.toArray e (0, 0))).ownsRow base e z (.slice (some ⟨w.heap.size, 0, none⟩) n n) n l :=
  ⟨hl, .inr ⟨w.heap.size, n, l.toArray, rfl, hb, heap_alloc_new w _, Nat.le_refl _, hn, by simpa using hl, by simp [← hl]⟩⟩
theorem own_base {w : World} {B B' z n : Nat} {e : TypeId} {v : Value} {l : List Value} (h : w.ownsRow B e z v n l) (hb : B' ≤ B) : w.ownsRow B' e z v n l := by
  obtain ⟨h1, h2⟩ := h
  refine ⟨h1, ?_⟩
  rcases h2 with h2 | ⟨g, cap, cur, a0, a1, a2⟩
  · exact .inl h2
  · exact .inr ⟨g, cap, cur, a0, Nat.le_trans hb a1, a2⟩
theorem Row.under {B : Nat} {w w' : World} {b : Nat} {e : TypeId} {l : List Value} (h : Row w b e l) (k : Below B w w') (hb : b < B) : Row w' b e l := (k.block b hb).trans h
theorem keep_of_below {B : Nat} {w w' : World} (k : Below B w w') : Keep (fun x => B ≤ x) w w' :=
  ⟨k.os, k.tape, k.output, k.size, fun i _ h => k.block i (by omega)⟩
theorem Bs.under {B : Nat} {w w' : World} {a : Option Addr} {n c : Nat} {l : List UInt8} (h : Bs w a n c l) (k : Below B w w') (hb : ∀ p, a = some p → p.block < B) : Bs w' a n c l :=
  h.keep (keep_of_below k) fun p hp hf => by have := hb p hp; omega
theorem Row.keepB {B : Nat} {w w' : World} {b : Nat} {e : TypeId} {l : List Value} (h : Row w b e l) (k : Keep (fun x => B ≤ x) w w') (hb : b < B) : Row w' b e l := h.keep k (by show ¬ B ≤ b; omega)
theorem Bs.keepB {B : Nat} {w w' : World} {a : Option Addr} {n c : Nat} {l : List UInt8} (h : Bs w a n c l) (k : Keep (fun x => B ≤ x) w w') (hb : ∀ p, a = some p → p.block < B) : Bs w' a n c l :=
  h.keep k fun p hp hf => by have := hb p hp; have hf : B ≤ p.block := hf; omega
theorem Row.drew {w : World} {b : Nat} {e : TypeId} {l : List Value} (h : Row w b e l) : Row w.drew b e l := h
theorem Sl.drew {w : World} {a : Option Addr} {n c z : Nat} {l : List Value} (h : Sl w a n c z l) : Sl w.drew a n c z l := ⟨h.len, h.cap, h.room, h.nilcap, h.cells⟩
theorem Bs.drew {w : World} {a : Option Addr} {n c : Nat} {l : List UInt8} (h : Bs w a n c l) : Bs w.drew a n c l := Sl.drew h
theorem own_drew {w : World} {base z : Nat} {e : TypeId} {v : Value} {n : Nat} {l : List Value} (h : w.ownsRow base e z v n l) : w.drew.ownsRow base e z v n l := h
theorem flow_step {F : Nat → Prop} {W0 w w' : World} {X : Prop} (kk : Keep F W0 w) (kp : Keep F w w') (h : Keep F W0 w' → X) : Keep F w w' ∧ X := ⟨kp, h (kk.trans kp)⟩
/-- What is left of the region goes well from the world W; the reads are to yield in every world that keeps W outside F. -/
def FlowE (P : Program) (ops : List Oper) (Q : Exit → Act → World → Prop) (F : Nat → Prop) (fuel : Nat) (listed : Array Bool) (a : Act) (W : World) : Prop :=
  PanicsSame Q ∧ wpAnyH P .any ops.toArray Q (Keep F W) fuel listed a W
section
variable {P : Program} {ops : List Oper} {Q : Exit → Act → World → Prop} {F : Nat → Prop} {fuel : Nat} {listed : Array Bool} {a a' : Act} {W : World}
theorem flowe_begin {id : Nat} {l : List Oper} (hm : P.follows .mixedOrders = true) (n : Nat) (hn : l.length = n) (hq : PanicsSame Q) (h : PanicsSame Q → FlowE P l Q F n (List.replicate n false).toArray a W.drew) : (Code.region id l.toArray true).wp P Q a W := by
  subst hn
  refine wp_region_held (S := Keep F W.drew) hm ?_
  have := (h hq).2
  simpa using this
theorem flowe_take (i : Nat) {oi : Oper} {v : Value} (hp : PanicsSame Q) (hi : (ops.drop i).head? = some oi) (hc : (Region.noSelect ops.toArray && Region.free .any ops.toArray listed i && (Region.ready .any ops.toArray listed).contains i) = true)
    (hw : Region.wanted oi (yielded ops.toArray a.tmps) = true) (hrun : ∀ w, Keep F W w → (execOp a.eval oi).run P w = .ok (.value v) w) (ha : a.put oi.dst v = a')
    (h : FlowE P ops Q F fuel (listed.setIfInBounds i true) a' W) : FlowE P ops Q F (fuel + 1) listed a W := by
  subst ha
  simp only [Bool.and_eq_true] at hc
  exact ⟨hp, wpAnyH_take (at_of hi) hc.1.1 hc.1.2 hc.2 (fun c a' w' q => hp c _ _ _ (put_defers _ _ _) q) (.inl ⟨hw, fun w' k' => hrun w' k'⟩) (Keep.refl _ _) h.2⟩
theorem flowe_skip (i : Nat) {oi : Oper} (hp : PanicsSame Q) (hi : (ops.drop i).head? = some oi) (hc : (Region.noSelect ops.toArray && Region.free .any ops.toArray listed i && (Region.ready .any ops.toArray listed).contains i) = true)
    (hw : Region.wanted oi (yielded ops.toArray a.tmps) = false) (ha : a.put oi.dst undef = a')
    (h : FlowE P ops Q F fuel (listed.setIfInBounds i true) a' W) : FlowE P ops Q F (fuel + 1) listed a W := by
  subst ha
  simp only [Bool.and_eq_true] at hc
  exact ⟨hp, wpAnyH_take (at_of hi) hc.1.1 hc.1.2 hc.2 (fun c a' w' q => hp c _ _ _ (put_defers _ _ _) q) (.inr ⟨hw, rfl⟩) (Keep.refl _ _) h.2⟩
theorem flowe_one (i : Nat) {oi : Oper} (hp : PanicsSame Q) (hi : (ops.drop i).head? = some oi) (hr : Region.ready .any ops.toArray listed = [i]) (hw : Region.wanted oi (yielded ops.toArray a.tmps) = true)
    (h : oi.wp P a W (fun a' w' => Keep F W w' ∧ FlowE P ops Q F fuel (listed.setIfInBounds i true) a' w') Q) : FlowE P ops Q F (fuel + 1) listed a W :=
  ⟨hp, wpAnyH_all hr (by simp) fun j hj => by
    obtain rfl : j = i := by simpa using hj
    refine wpOp_mono (K := fun a' w' => Keep F W w' ∧ FlowE P ops Q F fuel (listed.setIfInBounds j true) a' w') (fun a' w' h' => ⟨h'.1, wpAnyH_weak (fun x hx => h'.1.trans hx) _ _ _ _ h'.2.2⟩) ?_
    unfold wpOp
    simp only [at_of hi, hw, if_true]
    exact .inl h⟩
theorem flowe_any (rs : List Nat) (hp : PanicsSame Q) (hr : Region.ready .any ops.toArray listed = rs) (hne : rs ≠ [])
    (h : ∀ i ∈ rs, ∃ oi, (ops.drop i).head? = some oi ∧ Region.wanted oi (yielded ops.toArray a.tmps) = true ∧
      oi.wp P a W (fun a' w' => Keep F W w' ∧ FlowE P ops Q F fuel (listed.setIfInBounds i true) a' w') Q) : FlowE P ops Q F (fuel + 1) listed a W :=
  ⟨hp, wpAnyH_all hr hne fun j hj => by
    obtain ⟨oi, hi, hw, h⟩ := h j hj
    refine wpOp_mono (K := fun a' w' => Keep F W w' ∧ FlowE P ops Q F fuel (listed.setIfInBounds j true) a' w') (fun a' w' h' => ⟨h'.1, wpAnyH_weak (fun x hx => h'.1.trans hx) _ _ _ _ h'.2.2⟩) ?_
    unfold wpOp
    simp only [at_of hi, hw, if_true]
    exact .inl h⟩
/-- A heavy one that isn't wanted. -/
theorem flowe_pass (i : Nat) {oi : Oper} (hp : PanicsSame Q) (hi : (ops.drop i).head? = some oi) (hr : Region.ready .any ops.toArray listed = [i]) (hw : Region.wanted oi (yielded ops.toArray a.tmps) = false) (ha : a.put oi.dst undef = a')
    (h : FlowE P ops Q F fuel (listed.setIfInBounds i true) a' W) : FlowE P ops Q F (fuel + 1) listed a W := by
  subst ha
  exact ⟨hp, wpAnyH_all hr (by simp) fun j hj => by
    obtain rfl : j = i := by simpa using hj
    unfold wpOp
    simp only [at_of hi, hw]
    exact ⟨Keep.refl _ _, h.2⟩⟩
theorem flowe_put {w' : World} {d : Option Tmp} {v : Value} (ha : a.put d v = a') (h : FlowE P ops Q F fuel listed a' w') : FlowE P ops Q F fuel listed (a.put d v) w' := ha ▸ h
theorem flowe_done (hp : PanicsSame Q) (hr : Region.ready .any ops.toArray listed = []) (h : Q .normal a W) : FlowE P ops Q F fuel listed a W :=
  ⟨hp, wpAnyH_done hr h fuel⟩
end
end Go.Own
