/- Texts of the proof of 'AllocPlays', part 18: words on memory, contracts of functions, plain laws. No condition. -/
import Derived.Test.YtenbpbnffnodhaaMgAllocPlays17
set_option linter.unusedSimpArgs false
set_option linter.unusedVariables false
/- The reference's heap: the same, of a block between others. -/
namespace Go.Own
open Go Go.RowKit
theorem get_mid {α : Type} {p r : List α} {x : α} {n : Nat} (hn : p.length = n) (h : n < (p ++ x :: r).length) : (p ++ x :: r)[n] = x := by
  subst hn; simp
theorem set_mid {α : Type} {p r : List α} {x y : α} {n : Nat} (hn : p.length = n) : (p ++ x :: r).set n y = p ++ y :: r := by
  subst hn; simp
theorem take_mid {α : Type} {p r : List α} {n : Nat} (hn : p.length = n) : (p ++ r).take n = p := by subst hn; simp
theorem drop_mid {α : Type} {p r : List α} {n : Nat} (hn : p.length = n) : (p ++ r).drop n = r := by subst hn; simp
theorem drop_mid1 {α : Type} {p r : List α} {x : α} {n : Nat} (hn : p.length = n) : (p ++ x :: r).drop (n + 1) = r := by subst hn; simp
end Go.Own
namespace Go.Proofs.Ytenbpbnffnodhaa
open Go Go.RowKit Go.Own
set_option linter.unusedVariables false
set_option maxRecDepth 100000
section
variable {B : Nat} {w0 w : World} {l : List Ob} {q : Nat} {cap : Int} {vb vd vl : Value} {ss : List Sv} {P R : List Blk} {x : Blk} {d : Value} {C E : List Value} {D : List Value} {ls : Ls} {n : Nat}
theorem rm_blk {bb m cb : Nat} (h : St B w0 w (HpX q cap (.slice (some ⟨bb, 0, none⟩) m cb) vd vl ss (P ++ x :: R) D ls l)) (hn : P.length = n) :
    w.cell? ⟨bb, n * 3, none⟩ = some (.int .i64 x.off) ∧ w.cell? ⟨bb, n * 3 + 1, none⟩ = some (.int .i64 x.size) ∧ w.cell? ⟨bb, n * 3 + 2, none⟩ = some (.bool x.used) := by
  have hl : n < (P ++ x :: R).length := by simp; omega
  have := hp_blk h n hl
  rw [get_mid hn hl] at this
  exact this
/-- The rows' values are slices of blocks at hand. -/
theorem rm_some (h : St B w0 w (HpX q cap vb vd vl ss (P ++ x :: R) (C ++ d :: E) ls l)) : ∃ bb cb bd cd, vb = .slice (some ⟨bb, 0, none⟩) (P ++ x :: R).length cb ∧ vd = .slice (some ⟨bd, 0, none⟩) (C ++ d :: E).length cd := by
  have h1 := h.own (i := 1) rfl; have h2 := h.own (i := 2) rfl
  obtain ⟨g1, c1, _, e1, _⟩ := own_some h1 (by have := h1.1; rw [List.length_append, List.length_cons] at this; omega)
  obtain ⟨g2, c2, _, e2, _⟩ := own_some h2 (by rw [List.length_append, List.length_cons]; omega)
  exact ⟨g1, c1, g2, c2, e1, e2⟩
theorem rm_out (h : St B w0 w (HpX q cap vb vd vl ss (P ++ x :: R) D ls l)) (hs : ss.length = 22) (hn : P.length = n) (hz : isSize (x.size : Int) = true) (hll : (ls (clsN x.size)).length ≤ 2000) (hL : (P ++ x :: R).length ≤ 2000) (I : Int) (hI : I = n) :
    Calls Try.prog 207 #[hpP q, .int .i64 I] w fun e w' => e = .returned (.tuple #[]) ∧ ∃ ss', ss'.length = 22 ∧ St B w0 w' (HpX q cap vb vd vl ss' (P ++ x :: R) D (outL ls (clsN x.size) x.off) l) := by
  subst hI
  have hl : n < (P ++ x :: R).length := by simp; omega
  have hg := get_mid hn hl
  have := rh_out h hs n hl (by rw [hg]; exact hz) (by rw [hg]; exact hll) hL
  rw [hg] at this
  exact this
theorem rm_in (h : St B w0 w (HpX q cap vb vd vl ss (P ++ x :: R) D ls l)) (hs : ss.length = 22) (hn : P.length = n) (hz : isSize (x.size : Int) = true) (hll : (ls (clsN x.size)).length ≤ 2000) (hL : (P ++ x :: R).length ≤ 2000) (I : Int) (hI : I = n) :
    Calls Try.prog 229 #[hpP q, .int .i64 I] w fun e w' => e = .returned (.tuple #[]) ∧ ∃ ss', ss'.length = 22 ∧ St B w0 w' (HpX q cap vb vd vl ss' (P ++ x :: R) D (inL ls (clsN x.size) x.off) l) := by
  subst hI
  have hl : n < (P ++ x :: R).length := by simp; omega
  have hg := get_mid hn hl
  have := rh_in h hs n hl (by rw [hg]; exact hz) (by rw [hg]; exact hll) hL
  rw [hg] at this
  exact this
theorem rm_drop (h : St B w0 w (HpX q cap vb vd vl ss (P ++ x :: R) (C ++ d :: E) ls l)) (hn : P.length = n) (hc : C.length = n) (hr : R.length = E.length) (hone : ∀ u ∈ C ++ d :: E, u.oneCell' = true) (hL : (P ++ x :: R).length ≤ 2000) (I : Int) (hI : I = n) :
    Calls Try.prog 208 #[hpP q, .int .i64 I] w fun e w' => e = .returned (.tuple #[]) ∧ ∃ vb' vd', St B w0 w' (HpX q cap vb' vd' vl ss (P ++ R) (C ++ E) ls l) := by
  subst hI
  have hl : n < (P ++ x :: R).length := by simp; omega
  have := rh_drop h n hl (by simp; omega) hone hL
  rw [take_mid hn, drop_mid1 hn, take_mid hc, drop_mid1 hc] at this
  exact this
theorem rm_put (h : St B w0 w (HpX q cap vb vd vl ss (P ++ R) (C ++ E) ls l)) (hn : P.length = n) (hc : C.length = n) (hr : R.length = E.length) (hone : ∀ u ∈ C ++ E, u.oneCell' = true) (hL : (P ++ R).length ≤ 2000) (I O S : Int) (hI : I = n) (hO : O = x.off) (hS : S = x.size) :
    Calls Try.prog 233 #[hpP q, .int .i64 I, .agg #[.int .i64 O, .int .i64 S, .bool x.used]] w fun e w' => e = .returned (.tuple #[]) ∧ ∃ vb' vd', St B w0 w' (HpX q cap vb' vd' vl ss (P ++ x :: R) (C ++ none0 :: E) ls l) := by
  have := rh_put h n (by simp; omega) (by simp; omega) hone hL I O S x hI hO hS
  rw [take_mid hn, drop_mid hn, take_mid hc, drop_mid hc] at this
  exact this
section
variable {ops : Array Oper} {rest : List Oper} {o : Oper} {a : Act} {Q : Exit → Act → World → Prop} {K : Act → World → Prop}
theorem rm_setB_at (h : St B w0 w (HpX q cap vb vd vl ss (P ++ x :: R) D ls l)) (hn : P.length = n) (y : Blk) (j : Nat) (hj : j < 3) (u : Value) (hy : blC y = (blC x).set j u) (bb : Nat) (m c : Nat) (hv : vb = .slice (some ⟨bb, 0, none⟩) m c)
    (t : TypeId) (z1 z : Operand) (ho : o.op = .store t z1 z) (hx : a.eval z1 = .pointer (some ⟨bb, n * 3 + j, none⟩)) (hz : a.eval z = u) (hu : u.oneCell' = true) (ht : (Try.prog.info? t).map (·.size) = some 1)
    (hk : ∀ w', St B w0 w' (HpX q cap vb vd vl ss (P ++ y :: R) D ls l) → K (a.put o.dst undef) w') : o.wp Try.prog a w K Q := by
  have hl : n < (P ++ x :: R).length := by simp; omega
  have hg := get_mid hn hl
  refine hp_setB_at h n hl y j hj u (by rw [hg]; exact hy) bb m c hv t z1 z ho hx hz hu ht fun w' h' => hk w' ?_
  rw [set_mid hn] at h'
  exact h'
theorem rm_setB (h : St B w0 w (HpX q cap vb vd vl ss (P ++ x :: R) D ls l)) (hn : P.length = n) (y : Blk) (j : Nat) (hj : j < 3) (u : Value) (hy : blC y = (blC x).set j u) (bb : Nat) (m c : Nat) (hv : vb = .slice (some ⟨bb, 0, none⟩) m c)
    (hgd : Region.wanted o (yielded ops a.tmps) = true) (t : TypeId) (z1 z : Operand) (ho : o.op = .store t z1 z) (hx : a.eval z1 = .pointer (some ⟨bb, n * 3 + j, none⟩)) (hz : a.eval z = u) (hu : u.oneCell' = true) (ht : (Try.prog.info? t).map (·.size) = some 1)
    (hk : ∀ w', St B w0 w' (HpX q cap vb vd vl ss (P ++ y :: R) D ls l) → wpList Try.prog ops Q rest (a.put o.dst undef) w') : wpList Try.prog ops Q (o :: rest) a w :=
  at_wanted hgd fun _ hK => rm_setB_at h hn y j hj u hy bb m c hv t z1 z ho hx hz hu ht fun w' h' => hK _ _ (hk w' h')
theorem rm_setD (h : St B w0 w (HpX q cap vb vd vl ss (P ++ x :: R) (C ++ d :: E) ls l)) (hc : C.length = n) (u : Value) (bd : Nat) (m c : Nat) (hv : vd = .slice (some ⟨bd, 0, none⟩) m c)
    (hgd : Region.wanted o (yielded ops a.tmps) = true) (t : TypeId) (z1 z : Operand) (ho : o.op = .store t z1 z) (hx : a.eval z1 = .pointer (some ⟨bd, n, none⟩)) (hz : a.eval z = u) (hu : u.oneCell' = true) (ht : (Try.prog.info? t).map (·.size) = some 1)
    (hk : ∀ w', St B w0 w' (HpX q cap vb vd vl ss (P ++ x :: R) (C ++ u :: E) ls l) → wpList Try.prog ops Q rest (a.put o.dst undef) w') : wpList Try.prog ops Q (o :: rest) a w := by
  have hl : n < (C ++ d :: E).length := by simp; omega
  refine hp_setD h n hl u bd m c hv hgd t z1 z ho hx hz hu ht fun w' h' => hk w' ?_
  rw [set_mid hc] at h'
  exact h'
end
end
end Go.Proofs.Ytenbpbnffnodhaa
