/- A disk and the reference's disk, side by side: both tell of the same pure disk. -/
import Derived.Test.YtjijniillehfoaaLDisk3
import Derived.Test.YtjijniillehfoaaRDisk4
namespace Go.Proofs.Ytjijniillehfoaa
open Go Go.RowKit Go.Own
set_option linter.unusedVariables false
set_option maxRecDepth 100000
/-- Both disks, with blocks of their own, none below B. -/
def Pair (B : Nat) (w : World) (p q : Nat) (D : Dk) : Prop :=
  ∃ F G, DkRep w p D F ∧ RdRep w q D G ∧ (∀ k, F k → ¬ G k) ∧ ∀ k, F k ∨ G k → B ≤ k ∧ k < w.heap.size
theorem Pair.below {B : Nat} {w w' : World} {p q : Nat} {D : Dk} (h : Pair B w p q D) (k : Below w.heap.size w w') : Pair B w' p q D := by
  obtain ⟨F, G, h1, h2, h3, h4⟩ := h
  exact ⟨F, G, h1.below k, h2.below k, h3, fun x hx => ⟨(h4 x hx).1, Nat.lt_of_lt_of_le (h4 x hx).2 k.size⟩⟩
theorem RdTo.from {p : Nat} {D : Dk} {F : Nat → Prop} {w w1 w' : World} (h : RdTo p D F w1 w') (hb : Below w.heap.size w w1) : RdTo p D F w w' := by
  obtain ⟨F', h1, h2, h3⟩ := h
  exact ⟨F', h1, (Keep.of_below hb).trans h2, fun k hk => (h3 k hk).imp id fun h => Nat.le_trans hb.size h⟩
/-- First the one turns, then the other. -/
theorem Pair.step {B : Nat} {w w1 w2 : World} {p q : Nat} {D D' : Dk} {F G : Nat → Prop} (hp : DkRep w p D F) (hq : RdRep w q D G) (hFG : ∀ k, F k → ¬ G k) (hB : ∀ k, F k ∨ G k → B ≤ k ∧ k < w.heap.size) (hw : B ≤ w.heap.size)
    (h1 : DkTo p D' F w w1) (h2 : RdTo q D' G w1 w2) : Pair B w2 p q D' ∧ Keep (fun k => B ≤ k) w w2 := by
  obtain ⟨F1, a1, a2, a3⟩ := h1
  obtain ⟨G1, b1, b2, b3⟩ := h2
  have s1 := a2.size
  have s2 := b2.size
  have t1 := a1.tight
  have dis : ∀ k, (F1 k ∧ k < w1.heap.size) → ¬ G1 k := fun k hk hg => by
    rcases b3 k hg with h | h
    · rcases a3 k hk.1 with h' | h'
      · exact hFG k h' h
      · have := (hB k (.inr h)).2; omega
    · omega
  refine ⟨⟨fun k => F1 k ∧ k < w1.heap.size, fun k => G1 k ∧ k < w2.heap.size, t1.kept b2 fun k hk hg => ?_, b1.tight, fun k hk hg => dis k hk hg.1, fun k hk => ?_⟩, ?_⟩
  · rcases a3 k hk.1 with h' | h'
    · exact hFG k h' hg
    · have := (hB k (.inr hg)).2; omega
  · rcases hk with ⟨hk, hl⟩ | ⟨hk, hl⟩
    · refine ⟨?_, Nat.lt_of_lt_of_le hl s2⟩
      rcases a3 k hk with h | h
      · exact (hB k (.inl h)).1
      · omega
    · refine ⟨?_, hl⟩
      rcases b3 k hk with h | h
      · exact (hB k (.inr h)).1
      · omega
  · exact (a2.mono fun k _ hk => (hB k (.inl hk)).1).trans (b2.mono fun k _ hk => (hB k (.inr hk)).1)
end Go.Proofs.Ytjijniillehfoaa
