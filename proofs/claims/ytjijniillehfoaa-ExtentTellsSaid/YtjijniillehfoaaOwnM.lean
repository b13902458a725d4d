/- More on rows of one's own. -/
import Derived.Test.YtjijniillehfoaaSt
import Derived.Laws.OwnMore
namespace Go.Own
open Go Go.RowKit
theorem own_some {w : World} {B z n : Nat} {e : TypeId} {v : Value} {l : List Value} (h : w.ownsRow B e z v n l) (h0 : 0 < l.length) :
    ∃ g cap cur, v = .slice (some ⟨g, 0, none⟩) n cap ∧ B ≤ g ∧ w.heap[g]? = some (.cells cur e (0, 0)) ∧ n ≤ cap ∧ cap ≤ 9223372036854775807 ∧ cur.size = cap * z ∧ cur.toList.take (n * z) = l := by
  obtain ⟨h1, h2⟩ := h
  rcases h2 with ⟨rfl, h2⟩ | ⟨g, cap, cur, a0, a1, a2, a3, a4, a5, a6⟩
  · subst h2; simp at h1; subst h1; simp at h0
  · exact ⟨g, cap, cur, a0, a1, a2, a3, a4, a5, a6⟩
end Go.Own
