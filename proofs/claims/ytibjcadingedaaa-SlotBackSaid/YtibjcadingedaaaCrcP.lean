/- The sum (CRC-32), in plain words, and its laws. No program. -/
import Derived.Laws.BitsAllLaws
import Derived.Test.YtibjcadingedaaaNum
namespace Go.Own
/-- One shift of the register. -/
def crcStep (r : Nat) : Nat := if r % 2 = 1 then (r / 2) ^^^ 3988292384 else r / 2
/-- n shifts. -/
def crcN : Nat → Nat → Nat
  | 0, r => r
  | n + 1, r => crcN n (crcStep r)
theorem crcN_add (a b r : Nat) : crcN (a + b) r = crcN b (crcN a r) := by
  induction a generalizing r with
  | zero => simp [crcN]
  | succ a ih => rw [Nat.succ_add]; simp only [crcN]; exact ih _
theorem crcN_snoc (n r : Nat) : crcN (n + 1) r = crcStep (crcN n r) := crcN_add n 1 r
/-- A register takes a byte. -/
def crcTake (r x : Nat) : Nat := crcN 8 (r ^^^ x)
/-- A register takes bytes. -/
def crcReg (r : Nat) (l : List UInt8) : Nat := l.foldl (fun r x => crcTake r x.toNat) r
/-- More of a sum and bytes. -/
def crcMore (s : Nat) (l : List UInt8) : Nat := 4294967295 - crcReg (4294967295 - s) l
def crcSum (l : List UInt8) : Nat := crcMore 0 l

theorem xor_half (a b : Nat) : (a ^^^ b) / 2 = a / 2 ^^^ b / 2 := by
  have := Nat.shiftRight_xor_distrib (a := a) (b := b) (i := 1)
  simpa [Nat.shiftRight_eq_div_pow] using this
theorem xor_par (a b : Nat) : (a ^^^ b) % 2 = (a % 2 + b % 2) % 2 := by
  have h := Nat.xor_mod_two_pow (a := a) (b := b) (n := 1)
  have ha : a % 2 = 0 ∨ a % 2 = 1 := by omega
  have hb : b % 2 = 0 ∨ b % 2 = 1 := by omega
  rw [show (2 : Nat) ^ 1 = 2 from rfl] at h
  rcases ha with ha | ha <;> rcases hb with hb | hb <;> rw [h, ha, hb] <;> rfl
theorem lt_xor {a b : Nat} (ha : a < 4294967296) (hb : b < 4294967296) : a ^^^ b < 4294967296 := Nat.xor_lt_two_pow (n := 32) ha hb
theorem step_xor (a b : Nat) : crcStep (a ^^^ b) = crcStep a ^^^ crcStep b := by
  unfold crcStep
  rw [xor_par, xor_half]
  have ha : a % 2 = 0 ∨ a % 2 = 1 := by omega
  have hb : b % 2 = 0 ∨ b % 2 = 1 := by omega
  rcases ha with ha | ha <;> rcases hb with hb | hb <;> simp only [ha, hb, Nat.reduceAdd, Nat.reduceMod, Nat.zero_ne_one, if_true, if_false]
  · rw [Nat.xor_assoc]
  · rw [Nat.xor_assoc, Nat.xor_comm (b / 2), ← Nat.xor_assoc]
  · rw [Nat.xor_assoc, Nat.xor_comm (b / 2), ← Nat.xor_assoc 3988292384, Nat.xor_self, Nat.zero_xor]
theorem crcN_xor (n a b : Nat) : crcN n (a ^^^ b) = crcN n a ^^^ crcN n b := by
  induction n generalizing a b with
  | zero => rfl
  | succ n ih => simp only [crcN]; rw [step_xor, ih]
theorem step_lt {r : Nat} (h : r < 4294967296) : crcStep r < 4294967296 := by
  unfold crcStep; split
  · exact lt_xor (by omega) (by decide)
  · omega
theorem crcN_lt (n : Nat) {r : Nat} (h : r < 4294967296) : crcN n r < 4294967296 := by
  induction n generalizing r with
  | zero => exact h
  | succ n ih => exact ih (step_lt h)
theorem take_lt {r x : Nat} (h : r < 4294967296) (hx : x < 256) : crcTake r x < 4294967296 := crcN_lt 8 (lt_xor h (by omega))
theorem reg_lt (l : List UInt8) {r : Nat} (h : r < 4294967296) : crcReg r l < 4294967296 := by
  induction l generalizing r with
  | nil => exact h
  | cons x t ih => exact ih (take_lt h x.toNat_lt)
theorem crcN_even (n q : Nat) : crcN n (2 ^ n * q) = q := by
  induction n generalizing q with
  | zero => simp [crcN]
  | succ n ih =>
    simp only [crcN]
    have e : crcStep (2 ^ (n + 1) * q) = 2 ^ n * q := by
      unfold crcStep
      have : 2 ^ (n + 1) * q = 2 * (2 ^ n * q) := by rw [Nat.pow_succ, Nat.mul_comm (2 ^ n) 2, Nat.mul_assoc]
      rw [this, if_neg (by omega)]; omega
    rw [e, ih]
/-- The table's way: a byte at once. -/
theorem take_table (v x : Nat) (hx : x < 256) : crcTake v x = (v / 256) ^^^ crcN 8 ((v % 256) ^^^ x) := by
  have hv : v = (256 * (v / 256)) ^^^ (v % 256) := by
    have h := nat_join 8 (256 * (v / 256)) (v % 256) (by simp) (Nat.mod_lt _ (by decide))
    have h2 : (256 * (v / 256)) ^^^ (v % 256) = (256 * (v / 256)) ||| (v % 256) := by
      apply Nat.eq_of_testBit_eq
      intro i
      have ha : (256 * (v / 256)).testBit i = (decide (8 ≤ i) && (v / 256).testBit (i - 8)) := by
        have := Nat.testBit_two_pow_mul (i := 8) (a := v / 256) (j := i); simpa using this
      have hb : (v % 256).testBit i = (decide (i < 8) && v.testBit i) := by
        have := Nat.testBit_mod_two_pow v 8 i; simpa using this
      rw [Nat.testBit_xor, Nat.testBit_or, ha, hb]
      by_cases hi : i < 8
      · have : ¬ 8 ≤ i := by omega
        simp [hi, this]
      · have : 8 ≤ i := by omega
        simp [hi, this]
    rw [h2, h]; omega
  have h1 : crcTake v x = crcN 8 ((256 * (v / 256)) ^^^ ((v % 256) ^^^ x)) := by
    unfold crcTake
    rw [← Nat.xor_assoc, ← hv]
  rw [h1, crcN_xor]
  have := crcN_even 8 (v / 256)
  rw [show (2 : Nat) ^ 8 = 256 from rfl] at this
  rw [this]
theorem reg_append (r : Nat) (a b : List UInt8) : crcReg r (a ++ b) = crcReg (crcReg r a) b := List.foldl_append
theorem reg_snoc (r : Nat) (l : List UInt8) (k : Nat) (h : k < l.length) : crcReg r (l.take (k + 1)) = crcTake (crcReg r (l.take k)) l[k].toNat := by
  rw [take_snoc l k h, reg_append]; rfl
theorem more_lt (s : Nat) (l : List UInt8) : crcMore s l < 4294967296 := by unfold crcMore; omega
theorem more_append (s : Nat) (a b : List UInt8) (hs : s < 4294967296) : crcMore s (a ++ b) = crcMore (crcMore s a) b := by
  unfold crcMore
  have := reg_lt a (r := 4294967295 - s) (by omega)
  rw [reg_append, show 4294967295 - (4294967295 - crcReg (4294967295 - s) a) = crcReg (4294967295 - s) a by omega]
theorem more_nil (s : Nat) (hs : s < 4294967296) : crcMore s [] = s := by simp [crcMore, crcReg]; omega

/-! ### Unlike registers stay unlike. -/
theorem half_top (r : Nat) (h : r < 4294967296) : r / 2 < 2147483648 := by omega
theorem xor_top (x : Nat) (h : x < 2147483648) : 2147483648 ≤ x ^^^ 3988292384 := by
  have e : (x ^^^ 3988292384).testBit 31 = true := by
    rw [Nat.testBit_xor, Nat.testBit_lt_two_pow (x := x) (i := 31) h]; decide
  exact Nat.ge_two_pow_of_testBit e
theorem step_inj {a b : Nat} (ha : a < 4294967296) (hb : b < 4294967296) (h : crcStep a = crcStep b) : a = b := by
  unfold crcStep at h
  have ta := half_top a ha
  have tb := half_top b hb
  by_cases pa : a % 2 = 1 <;> by_cases pb : b % 2 = 1
  · rw [if_pos pa, if_pos pb] at h
    have : a / 2 = b / 2 := by
      have h2 := congrArg (· ^^^ 3988292384) h
      simpa [Nat.xor_assoc] using h2
    omega
  · rw [if_pos pa, if_neg pb] at h
    have := xor_top (a / 2) ta
    omega
  · rw [if_neg pa, if_pos pb] at h
    have := xor_top (b / 2) tb
    omega
  · rw [if_neg pa, if_neg pb] at h
    omega
theorem crcN_inj (n : Nat) {a b : Nat} (ha : a < 4294967296) (hb : b < 4294967296) (h : crcN n a = crcN n b) : a = b := by
  induction n generalizing a b with
  | zero => exact h
  | succ n ih => exact step_inj ha hb (ih (step_lt ha) (step_lt hb) h)
theorem xor_right_inj {a b x : Nat} (h : a ^^^ x = b ^^^ x) : a = b := by
  have h2 := congrArg (· ^^^ x) h
  simpa [Nat.xor_assoc] using h2
theorem reg_inj (l : List UInt8) {a b : Nat} (ha : a < 4294967296) (hb : b < 4294967296) (h : crcReg a l = crcReg b l) : a = b := by
  induction l generalizing a b with
  | nil => exact h
  | cons x t ih =>
    have h1 := ih (take_lt ha x.toNat_lt) (take_lt hb x.toNat_lt) h
    have hx := x.toNat_lt
    exact xor_right_inj (crcN_inj 8 (lt_xor ha (by omega)) (lt_xor hb (by omega)) h1)
theorem more_inj (l : List UInt8) {a b : Nat} (ha : a < 4294967296) (hb : b < 4294967296) (h : crcMore a l = crcMore b l) : a = b := by
  unfold crcMore at h
  have h1 := reg_lt l (r := 4294967295 - a) (by omega)
  have h2 := reg_lt l (r := 4294967295 - b) (by omega)
  have h3 := reg_inj l (a := 4294967295 - a) (b := 4294967295 - b) (by omega) (by omega) (by omega)
  omega
/-- Four bytes at once. -/
theorem reg_low (k r v : Nat) (hv : v < 256 ^ k) : crcReg r (low v k) = crcN (8 * k) (r ^^^ v) := by
  induction k generalizing r v with
  | zero => have : v = 0 := by simpa using hv
            subst this; simp [low, crcReg, crcN]
  | succ k ih =>
    rw [low, Nat.mul_add, Nat.add_comm (8 * k) (8 * 1), crcN_add]
    show crcReg (crcTake r (UInt8.ofNat v).toNat) (low (v / 256) k) = _
    rw [ih _ _ (by rw [Nat.pow_succ] at hv; omega)]
    congr 1
    have e : (UInt8.ofNat v).toNat = v % 256 := by simp
    rw [e]
    have hv' : v = (v % 256) ^^^ (256 * (v / 256)) := by
      have hx := take_table v 0 (by decide)
      have h := nat_join 8 (256 * (v / 256)) (v % 256) (by simp) (Nat.mod_lt _ (by decide))
      have h2 : (v % 256) ^^^ (256 * (v / 256)) = (256 * (v / 256)) ||| (v % 256) := by
        apply Nat.eq_of_testBit_eq
        intro i
        have ha : (256 * (v / 256)).testBit i = (decide (8 ≤ i) && (v / 256).testBit (i - 8)) := by
          have := Nat.testBit_two_pow_mul (i := 8) (a := v / 256) (j := i); simpa using this
        have hb : (v % 256).testBit i = (decide (i < 8) && v.testBit i) := by
          have := Nat.testBit_mod_two_pow v 8 i; simpa using this
        rw [Nat.testBit_xor, Nat.testBit_or, ha, hb]
        by_cases hi : i < 8
        · have : ¬ 8 ≤ i := by omega
          simp [hi, this]
        · have : 8 ≤ i := by omega
          simp [hi, this]
      rw [h2, h]; omega
    have e3 := crcN_even 8 (v / 256)
    rw [show (2 : Nat) ^ 8 = 256 from rfl] at e3
    rw [show r ^^^ v = (r ^^^ (v % 256)) ^^^ (256 * (v / 256)) from by rw [Nat.xor_assoc, ← hv']]
    rw [show (8 * 1 : Nat) = 8 from rfl, crcN_xor, e3]
    rfl
theorem xor_max (s : Nat) (h : s < 4294967296) : bits .xor .u32 IntKind.u32.max (s : Int) = ((4294967295 - s : Nat) : Int) := by
  have e : IntKind.u32.max = ((4294967295 : Nat) : Int) := by decide
  rw [e, u32_xor_nat 4294967295 s (by decide) h]
  congr 1
  apply Nat.eq_of_testBit_eq
  intro i
  have h1 : (4294967295 : Nat).testBit i = decide (i < 32) := by
    have := Nat.testBit_two_pow_sub_one 32 i; simpa using this
  have h2 := Nat.testBit_two_pow_sub_succ (n := 32) (x := s) (by omega) i
  rw [show (2 : Nat) ^ 32 - (s + 1) = 4294967295 - s by omega] at h2
  rw [Nat.testBit_xor, h1, h2]
  by_cases hi : i < 32
  · simp [hi]
  · have : s.testBit i = false := Nat.testBit_lt_two_pow (Nat.lt_of_lt_of_le h (Nat.pow_le_pow_right (n := 2) (by decide) (show 32 ≤ i by omega)))
    simp [hi, this]
end Go.Own
