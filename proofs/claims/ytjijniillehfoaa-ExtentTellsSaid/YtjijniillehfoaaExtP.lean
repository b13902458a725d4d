/- Bytes on many sectors, in plain words. No program. -/
import Derived.Test.YtjijniillehfoaaDiskP
namespace Go.Own
def secsN (n : Nat) : Nat := n / 512 + (if n % 512 = 0 then 0 else 1)
/-- The first sector of bytes, with 0 behind them. -/
def secB (b : List UInt8) : List UInt8 := b.take 512 ++ List.replicate (512 - b.length) 0
theorem secB_len (b : List UInt8) : (secB b).length = 512 := by unfold secB; simp; omega
def Dk.outN (D : Dk) (at_ : Int) : Nat → List UInt8 → Int × Dk
  | 0, _ => (0, D)
  | k + 1, b => if (D.write at_ (secB b)).1 = 0 then Dk.outN (D.write at_ (secB b)).2 (at_ + 1) k (b.drop 512) else D.write at_ (secB b)
def Dk.may (D : Dk) (at_ n : Int) : Bool := decide (0 ≤ n ∧ 0 ≤ at_ ∧ at_ + secsN n.toNat ≤ D.L.length)
def Dk.out (D : Dk) (at_ : Int) (b : List UInt8) : Int × Dk := if D.may at_ b.length then D.outN at_ (secsN b.length) b else (1, D)
/-- So many sectors, one behind the other. -/
def Dk.secsAt (D : Dk) (at_ : Nat) (k : Nat) : List UInt8 := ((List.range k).map fun i => lastOf D.wait (at_ + i) (D.L.getD (at_ + i) [])).flatten
def Dk.inp (D : Dk) (at_ n : Int) : Int × List UInt8 :=
  if D.may at_ n then (if n = 0 then (0, []) else if D.off then (6, []) else (0, (D.secsAt at_.toNat (secsN n.toNat)).take n.toNat)) else (1, [])
theorem secsN_zero : secsN 0 = 0 := rfl
theorem secsN_pos {n : Nat} (h : 0 < n) : secsN n = secsN (n - 512) + 1 := by
  unfold secsN
  by_cases h1 : n < 512
  · rw [show n - 512 = 0 by omega]
    have : n % 512 ≠ 0 := by omega
    rw [if_neg this]; simp; omega
  · have : n % 512 = (n - 512) % 512 := by omega
    rw [this]; omega
theorem secsN_lt {n k : Nat} : k < secsN n ↔ 512 * k < n := by unfold secsN; split <;> omega
theorem Dk.out_step (D : Dk) (at_ : Int) (b : List UInt8) (h : 0 < b.length) : D.outN at_ (secsN b.length) b =
    if (D.write at_ (secB b)).1 = 0 then Dk.outN (D.write at_ (secB b)).2 (at_ + 1) (secsN (b.drop 512).length) (b.drop 512) else D.write at_ (secB b) := by
  rw [secsN_pos h, List.length_drop]; rfl
theorem Dk.write_wait (D : Dk) (i : Int) (b : List UInt8) : (D.write i b).2.wait.length ≤ D.wait.length + 1 ∧ (D.write i b).2.L = D.L ∧ ((D.write i b).1 ≠ 0 ∨ (D.write i b).2.off = D.off) := by
  unfold Dk.write
  split
  · exact ⟨Nat.le_succ _, rfl, .inr rfl⟩
  · split
    · exact ⟨Nat.le_succ _, rfl, .inl (by show (6 : Int) ≠ 0; decide)⟩
    · exact ⟨by show (D.wait ++ [_]).length ≤ _; rw [List.length_append]; exact Nat.le_refl _, rfl, .inr rfl⟩
theorem Dk.outN_wait : ∀ (k : Nat) (D : Dk) (at_ : Int) (b : List UInt8), (D.outN at_ k b).2.wait.length ≤ D.wait.length + k ∧ (D.outN at_ k b).2.L = D.L
  | 0, D, _, _ => ⟨Nat.le_refl _, rfl⟩
  | k + 1, D, at_, b => by
    have h := D.write_wait at_ (secB b)
    unfold Dk.outN
    split
    · have ih := Dk.outN_wait k (D.write at_ (secB b)).2 (at_ + 1) (b.drop 512)
      exact ⟨by omega, ih.2.trans h.2.1⟩
    · exact ⟨by omega, h.2.1⟩
theorem Dk.secsAt_len {D : Dk} (h : D.Good) (at_ k : Nat) (hk : at_ + k ≤ D.L.length) : (D.secsAt at_ k).length = 512 * k := by
  induction k with
  | zero => rfl
  | succ k ih =>
    have := ih (by omega)
    unfold Dk.secsAt at this ⊢
    rw [List.range_succ, List.map_append, List.flatten_append, List.length_append, this]
    have hl : (lastOf D.wait (at_ + k) (D.L.getD (at_ + k) [])).length = 512 := by
      refine lastOf_len (fun x hx => (h.waits x hx).2) _ _ ?_
      rw [List.getD_eq_getElem?_getD, List.getElem?_eq_getElem (by omega)]
      exact h.secs _ (List.getElem_mem _)
    simp only [List.map_cons, List.map_nil, List.flatten_cons, List.flatten_nil, List.append_nil, hl]
    omega
theorem Dk.secsAt_succ (D : Dk) (at_ k : Nat) : D.secsAt at_ (k + 1) = D.secsAt at_ k ++ lastOf D.wait (at_ + k) (D.L.getD (at_ + k) []) := by
  unfold Dk.secsAt
  rw [List.range_succ, List.map_append, List.flatten_append]; simp
theorem Dk.read_in {D : Dk} (h : D.Good) (ho : D.off = false) (i : Int) (I : Nat) (hi : i = I) (hI : I < D.L.length) : D.read i = (0, lastOf D.wait I (D.L.getD I [])) ∧ (lastOf D.wait I (D.L.getD I [])).length = 512 := by
  subst hi
  refine ⟨?_, ?_⟩
  · unfold Dk.read
    rw [if_neg (by simp; omega), if_neg (by rw [ho]; simp), Int.toNat_natCast]
  · refine lastOf_len (fun x hx => (h.waits x hx).2) _ _ ?_
    rw [List.getD_eq_getElem?_getD, List.getElem?_eq_getElem hI]
    exact h.secs _ (List.getElem_mem _)
/-- What is padded to whole sectors, cut. -/
def padB (b : List UInt8) : List UInt8 := b ++ List.replicate (512 * secsN b.length - b.length) 0
theorem padB_len (b : List UInt8) : (padB b).length = 512 * secsN b.length := by
  unfold padB; rw [List.length_append, List.length_replicate]
  have : b.length ≤ 512 * secsN b.length := by unfold secsN; split <;> omega
  omega
theorem padB_at (b : List UInt8) (i : Nat) (hi : i < secsN b.length) : ((padB b).drop (512 * i)).take 512 = secB (b.drop (512 * i)) := by
  have h1 := secsN_lt.1 hi
  have h2 : b.length ≤ 512 * secsN b.length := by unfold secsN; split <;> omega
  have h3 : 512 * i + 512 ≤ 512 * secsN b.length := by omega
  unfold padB secB
  apply List.ext_getElem?
  intro j
  simp only [List.getElem?_take, List.getElem?_drop, List.getElem?_append, List.getElem?_replicate, List.length_take, List.length_drop]
  grind
end Go.Own
