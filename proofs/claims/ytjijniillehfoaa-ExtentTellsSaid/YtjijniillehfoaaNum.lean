/- Numbers as bytes, the lowest first: plain laws, no program. -/
import Derived.Laws.BitsAllLaws
import Derived.Laws.Wrap64
import Derived.Laws.BitsLemmas
namespace Go.Own
/-- The number of bytes, the lowest first. -/
def num : List UInt8 → Nat
  | [] => 0
  | b :: t => b.toNat + 256 * num t
theorem num_append (a b : List UInt8) : num (a ++ b) = num a + 256 ^ a.length * num b := by
  induction a with
  | nil => simp [num]
  | cons x t ih => simp only [List.cons_append, num, ih, List.length_cons, Nat.pow_succ]; rw [Nat.mul_add, ← Nat.mul_assoc, Nat.mul_comm 256 (256 ^ t.length)]; omega
theorem num_lt (a : List UInt8) : num a < 256 ^ a.length := by
  induction a with
  | nil => simp [num]
  | cons x t ih => simp only [num, List.length_cons, Nat.pow_succ]; have := x.toNat_lt; omega
/-- n bytes at a place, if they are there. -/
def getB (l : List UInt8) (at_ n : Nat) : Option (List UInt8) := if at_ + n ≤ l.length then some ((l.drop at_).take n) else none
theorem take_snoc (l : List UInt8) (k : Nat) (h : k < l.length) : l.take (k + 1) = l.take k ++ [l[k]] := List.take_succ_eq_append_getElem h
theorem num_snoc (l : List UInt8) (k : Nat) (h : k < l.length) : num (l.take (k + 1)) = num (l.take k) + 256 ^ k * l[k].toNat := by
  rw [take_snoc l k h, num_append]; simp [num]; rw [Nat.min_eq_left (by omega)]
theorem two_eight (k : Nat) : (2 : Nat) ^ (8 * k) = 256 ^ k := by rw [Nat.pow_mul]

theorem wrapU64 {n : Int} (h : 0 ≤ n) (h' : n < 18446744073709551616) : IntKind.u64.wrap n = n := by
  simp [IntKind.wrap, IntKind.bits, IntKind.signed]; omega
theorem wrapI64 {n : Int} (h : -9223372036854775808 ≤ n) (h' : n ≤ 9223372036854775807) : IntKind.i64.wrap n = n := by
  rw [IntKind.wrap_i64]; omega
theorem wrapU32 {n : Int} (h : 0 ≤ n) (h' : n < 4294967296) : IntKind.u32.wrap n = n := by
  simp [IntKind.wrap, IntKind.bits, IntKind.signed]; omega
theorem pow_le8 (k : Nat) (h : k < 8) : 256 * 256 ^ k ≤ 18446744073709551616 := by
  have : 256 ^ (k + 1) ≤ 256 ^ 8 := Nat.pow_le_pow_right (by decide) (by omega)
  rw [Nat.pow_succ] at this; omega
/-- 'v | x << 8 k' at a number v of k bytes. -/
theorem or_shl (v : Nat) (x : UInt8) (k : Nat) (hk : k < 8) (hv : v < 256 ^ k) :
    bits .or .u64 (v : Int) (IntKind.u64.wrap (IntKind.u64.wrap (x.toNat : Int) * 2 ^ (8 * k))) = ((v + 256 ^ k * x.toNat : Nat) : Int) := by
  have hx := x.toNat_lt
  have hp := pow_le8 k hk
  have h1 : x.toNat * 256 ^ k < 18446744073709551616 := by
    have : x.toNat * 256 ^ k ≤ 255 * 256 ^ k := Nat.mul_le_mul_right _ (by omega)
    have : 0 < 256 ^ k := Nat.pos_of_ne_zero (by simp)
    omega
  have e : (IntKind.u64.wrap (x.toNat : Int) * 2 ^ (8 * k)) = ((x.toNat * 256 ^ k : Nat) : Int) := by
    rw [wrapU64 (by omega) (by omega), ← two_eight]; simp
  rw [e, wrapU64 (by omega) (by omega), u64_or_nat _ _ (by omega) h1, Nat.or_comm, nat_join (8 * k), Nat.add_comm, Nat.mul_comm]
  · rw [two_eight]; exact Nat.mul_mod_left _ _
  · rw [two_eight]; exact hv

/-- The n lowest bytes of a number. -/
def low (v : Nat) : Nat → List UInt8
  | 0 => []
  | n + 1 => UInt8.ofNat v :: low (v / 256) n
theorem low_length (v n : Nat) : (low v n).length = n := by
  induction n generalizing v with
  | zero => rfl
  | succ n ih => simp [low, ih]
theorem low_snoc (v n : Nat) : low v (n + 1) = low v n ++ [UInt8.ofNat (v / 256 ^ n)] := by
  induction n generalizing v with
  | zero => simp [low]
  | succ n ih => rw [low, ih, low, List.cons_append, Nat.div_div_eq_div_mul, Nat.pow_succ, Nat.mul_comm]
theorem num_low (v n : Nat) : num (low v n) = v % 256 ^ n := by
  induction n generalizing v with
  | zero => simp [low, num, Nat.mod_one]
  | succ n ih => simp only [low, num, ih, Nat.pow_succ]; rw [Nat.mul_comm (256 ^ n) 256, Nat.mod_mul]; simp
theorem low_num (l : List UInt8) : low (num l) l.length = l := by
  induction l with
  | nil => rfl
  | cons b t ih =>
    simp only [num, List.length_cons, low]
    have hb := b.toNat_lt
    have e : (b.toNat + 256 * num t) / 256 = num t := by omega
    rw [e, ih]; congr 1
    apply UInt8.toNat_inj.1; simp
theorem low_add (v a b : Nat) : low v (a + b) = low v a ++ low (v / 256 ^ a) b := by
  induction a generalizing v with
  | zero => simp [low]
  | succ a ih => rw [Nat.succ_add, low, ih, low, List.cons_append, Nat.div_div_eq_div_mul, Nat.pow_succ, Nat.mul_comm 256]
end Go.Own
