/- Bytes with their sum behind them: turned in four places that stand together they are none. Plain laws. -/
import Derived.Test.YtibjcadingedaaaCrcP
namespace Go.Own
theorem low_inj {x y k : Nat} (hx : x < 256 ^ k) (hy : y < 256 ^ k) (h : low x k = low y k) : x = y := by
  have h1 := congrArg num h
  rw [num_low, num_low, Nat.mod_eq_of_lt hx, Nat.mod_eq_of_lt hy] at h1; exact h1
theorem low_mod (v k : Nat) : low (v % 256 ^ k) k = low v k := by
  induction k generalizing v with
  | zero => rfl
  | succ k ih =>
    simp only [low]
    have e1 : UInt8.ofNat (v % 256 ^ (k + 1)) = UInt8.ofNat v := by
      apply UInt8.toNat_inj.1
      simp only [UInt8.toNat_ofNat']
      rw [Nat.pow_succ, show (2 : Nat) ^ 8 = 256 from rfl]
      exact Nat.mod_mod_of_dvd v (Nat.dvd_mul_left 256 (256 ^ k))
    have e2 : v % 256 ^ (k + 1) / 256 = v / 256 % 256 ^ k := by rw [Nat.pow_succ, Nat.mul_comm, Nat.mod_mul_right_div_self]
    rw [e1, e2, ih]
theorem reg_inv (k q : Nat) : crcN (8 * k) (256 ^ k * q) = q := by rw [← two_eight]; exact crcN_even (8 * k) q
theorem xor_lt_of {a b k : Nat} (h : a / 2 ^ k = b / 2 ^ k) : a ^^^ b < 2 ^ k := by
  have h1 : (a ^^^ b) / 2 ^ k = 0 := by
    have := Nat.shiftRight_xor_distrib (a := a) (b := b) (i := k)
    simp only [Nat.shiftRight_eq_div_pow] at this
    rw [this, h, Nat.xor_self]
  rcases Nat.lt_or_ge (a ^^^ b) (2 ^ k) with h2 | h2
  · exact h2
  · have := Nat.div_pos h2 (Nat.pow_pos (by decide)); omega
theorem not_xor (a b : Nat) (ha : a < 4294967296) (hb : b < 4294967296) : (4294967295 - a) ^^^ (4294967295 - b) = a ^^^ b := by
  have h1 := xor_max a ha
  have h2 := xor_max b hb
  have e : IntKind.u32.max = ((4294967295 : Nat) : Int) := by decide
  rw [e, u32_xor_nat 4294967295 a (by decide) ha, Int.ofNat_inj] at h1
  rw [e, u32_xor_nat 4294967295 b (by decide) hb, Int.ofNat_inj] at h2
  rw [← h1, ← h2, Nat.xor_comm 4294967295 a, Nat.xor_assoc, ← Nat.xor_assoc 4294967295 4294967295, Nat.xor_self, Nat.zero_xor]
/-- The sum of bytes of which the last t are a number's. -/
theorem sum_tail (p : List UInt8) (m t : Nat) : ∃ R, R < 4294967296 ∧ ∀ m, crcSum (p ++ low m t) = 4294967295 - crcN (8 * t) (R ^^^ (m % 256 ^ t)) := by
  refine ⟨crcReg 4294967295 p, reg_lt p (by decide), fun m => ?_⟩
  unfold crcSum crcMore
  rw [reg_append, ← low_mod m t, reg_low t _ _ (Nat.mod_lt _ (Nat.pow_pos (by decide)))]
theorem sealed_tail (p s : List UInt8) (m n t : Nat) (ht : t ≤ 4) (hm : m < 4294967296) (hn : n < 4294967296) (hs : s.length = t)
    (h1 : low (crcSum (p ++ low m t)) 4 = low (m / 256 ^ t) (4 - t) ++ s) (h2 : low (crcSum (p ++ low n t)) 4 = low (n / 256 ^ t) (4 - t) ++ s) : m = n := by
  obtain ⟨R, hR, hsum⟩ := sum_tail p 0 t
  have a1 := hsum m
  have a2 := hsum n
  have hp : (256 : Nat) ^ t ≤ 4294967296 := by
    have := Nat.pow_le_pow_right (n := 256) (by decide) ht
    rwa [show (256 : Nat) ^ 4 = 4294967296 from by decide] at this
  have hpos : 0 < (256 : Nat) ^ t := Nat.pow_pos (by decide)
  have lm := Nat.mod_lt m hpos
  have ln := Nat.mod_lt n hpos
  have b1 := crcN_lt (8 * t) (lt_xor hR (show m % 256 ^ t < 4294967296 by omega))
  have b2 := crcN_lt (8 * t) (lt_xor hR (show n % 256 ^ t < 4294967296 by omega))
  have l1 : crcSum (p ++ low m t) < 4294967296 := by omega
  have l2 : crcSum (p ++ low n t) < 4294967296 := by omega
  -- the upper t bytes of both sums are s
  have up : ∀ S x, low S 4 = low x (4 - t) ++ s → low (S / 256 ^ (4 - t)) t = s := by
    intro S x h
    have := low_add S (4 - t) t
    rw [show 4 - t + t = 4 by omega, h] at this
    exact (List.append_inj this (by rw [low_length, low_length])).2.symm
  have lo : ∀ S x, low S 4 = low x (4 - t) ++ s → low S (4 - t) = low x (4 - t) := by
    intro S x h
    have := low_add S (4 - t) t
    rw [show 4 - t + t = 4 by omega, h] at this
    exact (List.append_inj this (by rw [low_length, low_length])).1.symm
  have u1 := up _ _ h1
  have u2 := up _ _ h2
  have hsplit : (256 : Nat) ^ (4 - t) * 256 ^ t = 4294967296 := by
    rw [← Nat.pow_add, show 4 - t + t = 4 by omega]
  have hq : ∀ S, S < 4294967296 → S / 256 ^ (4 - t) < 256 ^ t := fun S h => by
    rw [Nat.div_lt_iff_lt_mul (Nat.pow_pos (by decide)), Nat.mul_comm, hsplit]; exact h
  have hdiv := low_inj (hq _ l1) (hq _ l2) (u1.trans u2.symm)
  rw [← two_eight] at hdiv
  have hx := xor_lt_of hdiv
  rw [a1, a2, not_xor _ _ b1 b2, ← crcN_xor] at hx
  have e : (R ^^^ (m % 256 ^ t)) ^^^ (R ^^^ (n % 256 ^ t)) = (m % 256 ^ t) ^^^ (n % 256 ^ t) := by
    rw [Nat.xor_comm R (m % 256 ^ t), Nat.xor_assoc, ← Nat.xor_assoc R R, Nat.xor_self, Nat.zero_xor]
  rw [e, two_eight] at hx
  generalize hD : (m % 256 ^ t) ^^^ (n % 256 ^ t) = D at hx
  have hDlt : D < 256 ^ t := by rw [← hD, ← two_eight]; exact Nat.xor_lt_two_pow (by rw [two_eight]; exact lm) (by rw [two_eight]; exact ln)
  have hi := reg_inv t (crcN (8 * t) D)
  have hbig : 256 ^ t * crcN (8 * t) D < 4294967296 := by
    have h := Nat.mul_lt_mul_of_pos_left hx hpos
    rw [Nat.mul_comm (256 ^ t) (256 ^ (4 - t)), hsplit] at h; exact h
  have hinj := crcN_inj (8 * t) hbig (show D < 4294967296 by omega) hi
  have hz : crcN (8 * t) D = 0 := by
    rcases Nat.eq_zero_or_pos (crcN (8 * t) D) with h | h
    · exact h
    · have := Nat.mul_le_mul_left (256 ^ t) h; omega
  rw [hz, Nat.mul_zero] at hinj
  subst hinj
  have hmn : m % 256 ^ t = n % 256 ^ t := by
    have h2 := congrArg (· ^^^ (n % 256 ^ t)) hD
    simpa [Nat.xor_assoc] using h2
  have hsame : low m t = low n t := by rw [← low_mod m, ← low_mod n, hmn]
  rw [hsame] at h1
  have hl := (lo _ _ h1).symm.trans (lo _ _ h2)
  have hqq : ∀ S, S < 4294967296 → S / 256 ^ t < 256 ^ (4 - t) := fun S h => by
    rw [Nat.div_lt_iff_lt_mul hpos, hsplit]; exact h
  have hmd := low_inj (hqq m hm) (hqq n hn) hl
  have e1 := Nat.div_add_mod m (256 ^ t)
  have e2 := Nat.div_add_mod n (256 ^ t)
  rw [hmd, hmn] at e1
  omega

/-- Sealed bytes: with their sum behind them. -/
def sealed (x : List UInt8) : List UInt8 := x ++ low (crcSum x) 4
/-- Two sealed ones that differ in four places that stand together at most are one. -/
theorem sealed_turn (x y p s : List UInt8) (m n : Nat) (hm : m < 4294967296) (hn : n < 4294967296) (h1 : sealed x = p ++ low m 4 ++ s) (h2 : sealed y = p ++ low n 4 ++ s) : m = n := by
  unfold sealed at h1 h2
  have l1 := congrArg List.length h1
  have l2 := congrArg List.length h2
  simp only [List.length_append, low_length] at l1 l2
  by_cases hs : 4 ≤ s.length
  · -- the window lies in what is sealed
    obtain ⟨s1, s2, hs12, hs2⟩ : ∃ s1 s2, s = s1 ++ s2 ∧ s2.length = 4 := ⟨s.take (s.length - 4), s.drop (s.length - 4), (List.take_append_drop _ _).symm, by rw [List.length_drop]; omega⟩
    subst hs12
    rw [← List.append_assoc] at h1 h2
    have ⟨e1, f1⟩ := List.append_inj' h1 (by rw [low_length, hs2])
    have ⟨e2, f2⟩ := List.append_inj' h2 (by rw [low_length, hs2])
    have hsum : crcSum x = crcSum y := low_inj (k := 4) (more_lt 0 x) (more_lt 0 y) (f1.trans f2.symm)
    rw [e1, e2] at hsum
    unfold crcSum at hsum
    rw [more_append _ _ _ (by decide), more_append _ (p ++ low n 4) _ (by decide)] at hsum
    have h3 := more_inj s1 (more_lt _ _) (more_lt _ _) hsum
    unfold crcMore at h3
    rw [reg_append, reg_append, reg_low 4 _ m (by simpa using hm), reg_low 4 _ n (by simpa using hn)] at h3
    have hr := reg_lt p (r := 4294967295 - 0) (by decide)
    have a1 := crcN_lt (8 * 4) (lt_xor hr hm)
    have a2 := crcN_lt (8 * 4) (lt_xor hr hn)
    have h4 := crcN_inj (8 * 4) (lt_xor hr hm) (lt_xor hr hn) (by omega)
    rw [Nat.xor_comm _ m, Nat.xor_comm _ n] at h4
    exact xor_right_inj h4
  · -- it reaches into the sum, or is it
    have ht : s.length ≤ 4 := by omega
    have w1 := low_add m s.length (4 - s.length)
    have w2 := low_add n s.length (4 - s.length)
    rw [show s.length + (4 - s.length) = 4 by omega] at w1 w2
    have e1 : x ++ low (crcSum x) 4 = (p ++ low m s.length) ++ (low (m / 256 ^ s.length) (4 - s.length) ++ s) := by rw [h1, w1]; simp only [List.append_assoc]
    have e2 : y ++ low (crcSum y) 4 = (p ++ low n s.length) ++ (low (n / 256 ^ s.length) (4 - s.length) ++ s) := by rw [h2, w2]; simp only [List.append_assoc]
    have ⟨x1, x2⟩ := List.append_inj' e1 (by simp only [List.length_append, low_length]; omega)
    have ⟨y1, y2⟩ := List.append_inj' e2 (by simp only [List.length_append, low_length]; omega)
    rw [x1] at x2
    rw [y1] at y2
    exact sealed_tail p s m n s.length ht hm hn rfl x2 y2
end Go.Own
