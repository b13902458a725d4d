/- Sizes, tags and classes in plain words. No program. -/
import Derived.Test.YtjijniillehfoaaNum
namespace Go.Own
def isSize (s : Int) : Bool := decide (32 ≤ s ∧ s ≤ 16384 ∧ s % 16 = 0)
/-- The tag. -/
def tagOf (s : Int) (u : Bool) : Int := if isSize s then (if u then s + 1 else s) else 0
/-- What a number tells as a tag: is it one; the size; is it used. -/
def isTag (w : Int) : Bool := isSize (w - w % 2)
def tagS (w : Int) : Int := if isTag w then w - w % 2 else 0
def tagU (w : Int) : Bool := isTag w && decide (w % 2 = 1)
def needS (n : Int) : Int := if n ≤ 16368 then (if n ≤ 16 then 32 else (n + 31) / 16 * 16) else 0
def needOk (n : Int) : Bool := decide (n ≤ 16368)
def cls (s : Int) : Int :=
  if isSize s then (if s ≤ 256 then s / 16 - 2 else if s < 512 then 15 else if s < 1024 then 16 else if s < 2048 then 17 else if s < 4096 then 18 else if s < 8192 then 19 else if s < 16384 then 20 else 21) else -1
theorem isSize_iff (s : Int) : isSize s = true ↔ 32 ≤ s ∧ s ≤ 16384 ∧ s % 16 = 0 := by unfold isSize; exact decide_eq_true_iff
theorem isSize_yes {s : Int} (h : 32 ≤ s ∧ s ≤ 16384 ∧ s % 16 = 0) : isSize s = true := (isSize_iff s).2 h
theorem isSize_no {s : Int} (h : ¬ (32 ≤ s ∧ s ≤ 16384 ∧ s % 16 = 0)) : isSize s = false := by
  rw [← Bool.not_eq_true, isSize_iff]; exact h
theorem tagOf_rng (s : Int) (u : Bool) : 0 ≤ tagOf s u ∧ tagOf s u ≤ 16385 := by
  unfold tagOf; split
  · rename_i h; rw [isSize_iff] at h; split <;> omega
  · omega
theorem isTag_tagOf {s : Int} {u : Bool} (h : isSize s = true) : isTag (tagOf s u) = true ∧ tagS (tagOf s u) = s ∧ tagU (tagOf s u) = u := by
  have h' := (isSize_iff s).1 h
  have e : tagOf s u - tagOf s u % 2 = s := by unfold tagOf; rw [h]; cases u <;> simp <;> omega
  have t : isTag (tagOf s u) = true := by unfold isTag; rw [e]; exact h
  refine ⟨t, by unfold tagS; rw [t, e]; rfl, ?_⟩
  unfold tagU
  rw [t]
  unfold tagOf
  rw [h]
  cases u <;> simp <;> omega
theorem tagOf_isTag {w : Int} (h : isTag w = true) : tagOf (tagS w) (tagU w) = w ∧ isSize (tagS w) = true := by
  have h0 := h
  unfold isTag at h
  have e : tagS w = w - w % 2 := by unfold tagS; rw [h0]; rfl
  refine ⟨?_, by rw [e]; exact h⟩
  unfold tagOf tagU
  rw [e, h, h0]
  by_cases p : w % 2 = 1
  · simp [p]
  · have : w % 2 = 0 := by omega
    simp [this]
theorem tagOf_zero {s : Int} {u : Bool} : tagOf s u = 0 ↔ isSize s = false := by
  unfold tagOf
  cases h : isSize s with
  | false => simp
  | true => rw [isSize_iff] at h; cases u <;> simp <;> omega
theorem noTag {w : Int} (h : isTag w = false) : tagS w = 0 ∧ tagU w = false := by unfold tagS tagU; rw [h]; exact ⟨rfl, rfl⟩
theorem isTag_zero : isTag 0 = false := by decide
theorem isTag_rng {w : Int} (h : isTag w = true) : 32 ≤ w ∧ w ≤ 16385 := by unfold isTag at h; rw [isSize_iff] at h; omega
theorem andLow (W : Nat) : (W &&& 18446744073709551614) &&& 65535 = W % 65536 - W % 2 := by
  have e1 : (W &&& 18446744073709551614) &&& 65535 = W &&& 65534 := by rw [Nat.and_assoc]; rfl
  have e2 : W &&& 65535 = W % 65536 := Nat.and_two_pow_sub_one_eq_mod W 16
  have e3 : W &&& 1 = W % 2 := Nat.and_two_pow_sub_one_eq_mod W 1
  have e4 : W &&& 65535 = (W &&& 65534) ||| (W &&& 1) := by rw [← Nat.and_or_distrib_left]; rfl
  have e5 : (W &&& 65534) % 2 ^ 1 = 0 := by rw [Nat.and_mod_two_pow]; simp
  have e6 : W &&& 1 < 2 ^ 1 := by rw [e3]; omega
  rw [nat_join 1 _ _ e5 e6, e2, e3] at e4
  rw [e1]; omega
theorem andNot1 (w : Int) (h0 : 0 ≤ w) (h1 : w ≤ 18446744073709551615) : bits .andNot .u64 w 1 = ((w.toNat &&& 18446744073709551614 : Nat) : Int) := by
  rw [u64_andNot w 1 h0 (by omega) (by decide) (by decide)]
  have e : (18446744073709551615 - (1 : Int).toNat) = 18446744073709551614 := by decide
  rw [e]
theorem low_eq (w : Int) (h0 : 0 ≤ w) (h1 : w ≤ 18446744073709551615) : bits .and .u64 (bits .andNot .u64 w 1) 65535 = w % 65536 - w % 2 := by
  rw [andNot1 w h0 h1]
  have hb : ((w.toNat &&& 18446744073709551614 : Nat)) < 18446744073709551616 := by
    have : (w.toNat &&& 18446744073709551614 : Nat) ≤ w.toNat := Nat.and_le_left
    omega
  rw [u64_and _ _ (by omega) (by omega) (by decide) (by decide)]
  have := andLow w.toNat
  have e' : ((65535 : Int)).toNat = 65535 := by decide
  rw [e', Int.toNat_natCast, this]; omega
theorem odd_eq (w : Int) (h0 : 0 ≤ w) (h1 : w ≤ 18446744073709551615) : bits .and .u64 w 1 = w % 2 := by
  rw [u64_and w 1 h0 (by omega) (by decide) (by decide)]
  have e' : ((1 : Int)).toNat = 1 := by decide
  rw [e', nat_mask1]; omega
theorem or1 (w : Int) (h0 : 0 ≤ w) (h1 : w ≤ 18446744073709551615) (h2 : w % 2 = 0) : bits .or .u64 w 1 = w + 1 := by
  rw [u64_or w 1 h0 (by omega) (by decide) (by decide)]
  have e' : ((1 : Int)).toNat = 1 := by decide
  rw [e', nat_join 1 w.toNat 1 (by omega) (by decide)]; omega
/-- Unpack's own way. -/
theorem unpack_eq (w : Int) (h0 : 0 ≤ w) : (tagOf (w % 65536 - w % 2) (w % 2 == 1) != w) = !isTag w ∨ w = 0 := by
  by_cases hz : w = 0
  · exact .inr hz
  left
  unfold tagOf isTag
  by_cases hs : isSize (w % 65536 - w % 2) = true
  · have h' := (isSize_iff _).1 hs
    rw [hs]
    by_cases hw : w < 65536
    · have e : w % 65536 = w := by omega
      rw [e] at hs ⊢
      rw [hs]
      by_cases p : w % 2 = 1
      · simp [p]
      · have : w % 2 = 0 := by omega
        simp [this]
    · rw [isSize_no (by omega)]
      by_cases p : w % 2 = 1
      · simp [p]; omega
      · have : w % 2 = 0 := by omega
        simp [this]; omega
  · rw [Bool.not_eq_true] at hs
    rw [hs]
    have h2 : isSize (w - w % 2) = false := by
      by_cases hw : w < 65536
      · have e : w % 65536 = w := by omega
        rwa [e] at hs
      · exact isSize_no (by omega)
    rw [h2]; simp; omega
theorem and_up16 (m : Nat) (h : m < 18446744073709551616) : m &&& 18446744073709551600 = m / 16 * 16 := by
  have e2 : m &&& 18446744073709551615 = m := by
    have := Nat.and_two_pow_sub_one_eq_mod m 64
    rw [show (2 : Nat) ^ 64 - 1 = 18446744073709551615 from by decide, show (2 : Nat) ^ 64 = 18446744073709551616 from by decide] at this
    rw [this]; exact Nat.mod_eq_of_lt h
  have e3 : m &&& 15 = m % 16 := Nat.and_two_pow_sub_one_eq_mod m 4
  have e4 : m &&& 18446744073709551615 = (m &&& 18446744073709551600) ||| (m &&& 15) := by rw [← Nat.and_or_distrib_left]; rfl
  have e5 : (m &&& 18446744073709551600) % 2 ^ 4 = 0 := by rw [Nat.and_mod_two_pow]; simp
  have e6 : m &&& 15 < 2 ^ 4 := by rw [e3]; omega
  rw [nat_join 4 _ _ e5 e6, e2, e3] at e4
  omega
theorem need_andNot (m : Nat) (h : m < 32768) : bits .andNot .i64 (m : Int) 15 = ((m / 16 * 16 : Nat) : Int) := by
  have hu := u64_andNot_nat m 15 (by omega) (by decide)
  rw [show (18446744073709551615 - 15 : Nat) = 18446744073709551600 from by decide, and_up16 m (by omega)] at hu
  have hu' : IntKind.u64.wrap (((BitVec.ofInt 64 (m : Int) &&& ~~~BitVec.ofInt 64 15).toNat : Nat) : Int) = ((m / 16 * 16 : Nat) : Int) := hu
  show IntKind.i64.wrap (((BitVec.ofInt 64 (m : Int) &&& ~~~BitVec.ofInt 64 15).toNat : Nat) : Int) = _
  generalize hT : (BitVec.ofInt 64 (m : Int) &&& ~~~BitVec.ofInt 64 15) = T at hu' ⊢
  have hlt : T.toNat < 18446744073709551616 := T.isLt
  rw [wrapU64 (by omega) (by omega)] at hu'
  rw [wrapI64 (by omega) (by omega)]; exact hu'
/-- The class, by the length of the number. -/
theorem cls_len {s : Int} (h : isSize s = true) (h2 : 256 < s) (b : Int) (hb : b = if s < 512 then 9 else if s < 1024 then 10 else if s < 2048 then 11 else if s < 4096 then 12 else if s < 8192 then 13 else if s < 16384 then 14 else 15) : cls s = 6 + b := by
  subst hb
  unfold cls
  rw [h]
  simp only [if_true]
  rw [if_neg (by omega)]
  repeat (split <;> try omega)
end Go.Own
