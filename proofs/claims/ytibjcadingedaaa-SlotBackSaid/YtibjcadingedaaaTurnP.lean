/- Up to four bytes that stand together, turned: plain laws, no program. -/
import Derived.Test.YtibjcadingedaaaNum
namespace Go.Own
/-- The first k of four bytes turned. -/
def turn (l : List UInt8) (at_ x : Nat) : Nat → List UInt8
  | 0 => l
  | k + 1 => (turn l at_ x k).set (at_ + k) ((turn l at_ x k).getD (at_ + k) 0 ^^^ UInt8.ofNat (x / 256 ^ k))
theorem turn_length (l : List UInt8) (at_ x k : Nat) : (turn l at_ x k).length = l.length := by
  induction k with
  | zero => rfl
  | succ k ih => simp [turn, ih]
theorem xor_byte (m x k : Nat) : UInt8.ofNat ((m ^^^ x) / 256 ^ k) = UInt8.ofNat (m / 256 ^ k) ^^^ UInt8.ofNat (x / 256 ^ k) := by
  have h := Nat.shiftRight_xor_distrib (a := m) (b := x) (i := 8 * k)
  simp only [Nat.shiftRight_eq_div_pow, two_eight] at h
  rw [h, UInt8.ofNat_xor]
theorem low4 (m : Nat) : low m 4 = [UInt8.ofNat (m / 256 ^ 0), UInt8.ofNat (m / 256 ^ 1), UInt8.ofNat (m / 256 ^ 2), UInt8.ofNat (m / 256 ^ 3)] := by
  simp [low, Nat.div_div_eq_div_mul]
theorem turn_split (p s : List UInt8) (m x : Nat) : turn (p ++ low m 4 ++ s) p.length x 4 = p ++ low (m ^^^ x) 4 ++ s := by
  have hp : ∀ (q : List UInt8) (k : Nat) v, (p ++ q).set (p.length + k) v = p ++ q.set k v := fun q k v => by
    rw [List.set_append_right _ _ (by omega), Nat.add_sub_cancel_left]
  have hg : ∀ (q : List UInt8) (k : Nat), (p ++ q).getD (p.length + k) 0 = q.getD k 0 := fun q k => by
    simp only [List.getD_eq_getElem?_getD]
    rw [List.getElem?_append_right (by omega), Nat.add_sub_cancel_left]
  rw [low4, low4, List.append_assoc, List.append_assoc, xor_byte, xor_byte, xor_byte, xor_byte]
  simp only [turn, hp, hg]
  rfl
theorem turn_any (l : List UInt8) (at_ x : Nat) (h : at_ + 4 ≤ l.length) : ∃ p s m, l = p ++ low m 4 ++ s ∧ p.length = at_ ∧ m < 4294967296 ∧ turn l at_ x 4 = p ++ low (m ^^^ x) 4 ++ s := by
  have hl : ((l.drop at_).take 4).length = 4 := by rw [List.length_take, List.length_drop]; omega
  have he : l = l.take at_ ++ low (num ((l.drop at_).take 4)) 4 ++ l.drop (at_ + 4) := by
    have := low_num ((l.drop at_).take 4)
    rw [hl] at this
    rw [this, List.append_assoc, ← List.drop_drop, List.take_append_drop, List.take_append_drop]
  have hp : (l.take at_).length = at_ := by rw [List.length_take]; omega
  refine ⟨l.take at_, l.drop (at_ + 4), num ((l.drop at_).take 4), he, hp, by have := num_lt ((l.drop at_).take 4); rw [hl] at this; simpa using this, ?_⟩
  have := turn_split (l.take at_) (l.drop (at_ + 4)) (num ((l.drop at_).take 4)) x
  rw [← he, hp] at this
  exact this
theorem xor_ne (m x : Nat) (h : x ≠ 0) : m ≠ m ^^^ x := by
  intro he
  apply h
  have : m ^^^ m = m ^^^ (m ^^^ x) := by rw [← he]
  rw [Nat.xor_self, ← Nat.xor_assoc, Nat.xor_self, Nat.zero_xor] at this
  exact this.symm
end Go.Own
