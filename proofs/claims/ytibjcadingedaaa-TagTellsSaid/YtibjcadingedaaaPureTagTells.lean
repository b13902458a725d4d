/- What is proved: TagTells (layer 6): for every size, bool and number w, the program's Pack and Unpack answer as the reference's do. No condition. -/
import Derived.Test.YtibjcadingedaaaPTagTellsx1
namespace Go.Proofs.Ytibjcadingedaaa.Pure
open Go.RowKit Go.Proofs.Ytibjcadingedaaa.PTagTells Go.Proofs.YtibjcadingedaaaW.PrintWords Go.Proofs.YtibjcadingedaaaW.PrintLast

theorem andLow (W : Nat) : (W &&& 18446744073709551614) &&& 65535 = W % 65536 - W % 2 := by
  have e1 : (W &&& 18446744073709551614) &&& 65535 = W &&& 65534 := by rw [Nat.and_assoc]; rfl
  have e2 : W &&& 65535 = W % 65536 := Nat.and_two_pow_sub_one_eq_mod W 16
  have e3 : W &&& 1 = W % 2 := Nat.and_two_pow_sub_one_eq_mod W 1
  have e4 : W &&& 65535 = (W &&& 65534) ||| (W &&& 1) := by rw [← Nat.and_or_distrib_left]; rfl
  have e5 : (W &&& 65534) % 2 ^ 1 = 0 := by rw [Nat.and_mod_two_pow]; simp
  have e6 : W &&& 1 < 2 ^ 1 := by rw [e3]; omega
  rw [nat_join 1 _ _ e5 e6, e2, e3] at e4
  rw [e1]; omega

theorem wf_i64 {a : Int} (h : (Lit.int .i64 a).wf = true) : -9223372036854775808 ≤ a ∧ a ≤ 9223372036854775807 := by
  simp [Lit.wf, IntKind.min, IntKind.max, IntKind.bits, IntKind.signed] at h; omega
theorem wf_u64 {a : Int} (h : (Lit.int .u64 a).wf = true) : 0 ≤ a ∧ a < 18446744073709551616 := by
  simp [Lit.wf, IntKind.min, IntKind.max, IntKind.bits, IntKind.signed] at h; omega
theorem wu (a : Int) (h : 0 ≤ a) (h' : a < 18446744073709551616) : IntKind.u64.wrap a = a := by
  simp [IntKind.wrap, IntKind.bits, IntKind.signed]; omega

theorem low_eq (w : Int) (h0 : 0 ≤ w) (h1 : w < 18446744073709551616) :
    Go.bits .and .u64 (Go.bits .andNot .u64 w 1) 65535 = w % 65536 - w % 2 := by
  rw [u64_andNot w 1 h0 h1 (by decide) (by decide)]
  have hb : ((w.toNat &&& 18446744073709551615 - (1 : Int).toNat : Nat)) < 18446744073709551616 := by
    have : (w.toNat &&& 18446744073709551615 - (1 : Int).toNat : Nat) ≤ w.toNat := Nat.and_le_left
    omega
  rw [u64_and _ _ (by omega) (by omega) (by decide) (by decide)]
  have := andLow w.toNat
  have e : (18446744073709551615 - (1 : Int).toNat) = 18446744073709551614 := by decide
  have e' : ((65535 : Int)).toNat = 65535 := by decide
  rw [e, e', Int.toNat_natCast, this]; omega
theorem odd_eq (w : Int) (h0 : 0 ≤ w) (h1 : w < 18446744073709551616) : Go.bits .and .u64 w 1 = w % 2 := by
  rw [u64_and w 1 h0 h1 (by decide) (by decide)]
  have e' : ((1 : Int)).toNat = 1 := by decide
  rw [e', nat_mask1]; omega
theorem or1 (w : Int) (h0 : 0 ≤ w) (h1 : w < 18446744073709551616) (h2 : w % 2 = 0) : Go.bits .or .u64 w 1 = w + 1 := by
  rw [u64_or w 1 h0 h1 (by decide) (by decide)]
  have e' : ((1 : Int)).toNat = 1 := by decide
  rw [e', nat_join 1 w.toNat 1 (by omega) (by decide)]; omega

/-- The tag, in plain words. -/
def tg (s : Int) (u : Bool) : Int := if 32 ≤ s ∧ s ≤ 16384 ∧ s % 16 = 0 then (if u then s + 1 else s) else 0

theorem pack_ok (k : Nat) (s : Int) (u : Bool) : tag_Pack.f (k + 1) s u = some (tg s u) := by
  unfold tag_Pack.f tag_Pack.j0 tg
  by_cases h1 : s < 32
  · rw [if_pos h1]; simp; omega
  rw [if_neg h1]
  by_cases h2 : s > 16384
  · rw [if_pos h2]; simp; omega
  rw [if_neg h2]
  have hm : Int.tmod s 16 = s % 16 := Int.tmod_eq_emod_of_nonneg (by omega)
  rw [hm]
  by_cases h3 : s % 16 = 0
  · have hu : (32 ≤ s ∧ s ≤ 16384) := by omega
    simp [h3, hu, wu s (by omega) (by omega), or1 s (by omega) (by omega) (by omega)]
    cases u <;> rfl
  · simp [h3]

theorem size_ok (s : Int) : cantleref01_IsSize.f s = some (decide (32 ≤ s ∧ s ≤ 16384 ∧ s % 16 = 0)) := by
  unfold cantleref01_IsSize.f
  by_cases h1 : s ≥ 32
  · have hm : Int.tmod s 16 = s % 16 := Int.tmod_eq_emod_of_nonneg (by omega)
    rw [if_pos h1, hm]
    by_cases h2 : s ≤ 16384
    · rw [if_pos h2]; by_cases h3 : s % 16 = 0 <;> simp [h3, h1, h2]
    · rw [if_neg h2]; simp; omega
  · rw [if_neg h1]; simp; omega

theorem pack_ref (s : Int) (u : Bool) : cantleref01_Pack.f s u = some (tg s u) := by
  unfold cantleref01_Pack.f
  rw [size_ok]; simp only [Option.bind_some, tg]
  by_cases h : 32 ≤ s ∧ s ≤ 16384 ∧ s % 16 = 0
  · simp only [h, and_self, decide_true, if_true]
    rw [wu s (by omega) (by omega), wu (s + 1) (by omega) (by omega)]
    cases u <;> simp
  · simp [h]

/-- What a number tells as a tag, in plain words. -/
def un (w : Int) : Int × Bool × Bool :=
  if 32 ≤ w - w % 2 ∧ w - w % 2 ≤ 16384 ∧ (w - w % 2) % 16 = 0 then (w - w % 2, w % 2 == 1, true) else (0, false, false)

theorem un_ref (w : Int) (h0 : 0 ≤ w) (h1 : w < 18446744073709551616) : cantleref01_Unpack.f w = some (un w) := by
  unfold cantleref01_Unpack.f
  have hm : Int.tmod w 2 = w % 2 := Int.tmod_eq_emod_of_nonneg (by omega)
  rw [hm]
  by_cases h2 : w > 20000
  · rw [if_pos h2]; unfold un; rw [if_neg (by omega)]
  · rw [if_neg h2, wu _ (by omega) (by omega), size_ok]
    have e : wrap64 (w - w % 2) = w - w % 2 := by unfold wrap64; omega
    rw [e]; simp only [Option.bind_some, un]
    by_cases h : 32 ≤ w - w % 2 ∧ w - w % 2 ≤ 16384 ∧ (w - w % 2) % 16 = 0
    · simp [h]
    · simp [h]

theorem un_ok (k : Nat) (w : Int) (h0 : 0 ≤ w) (h1 : w < 18446744073709551616) : tag_Unpack.f (k + 1) w = some (un w) := by
  unfold tag_Unpack.f
  rw [low_eq w h0 h1, odd_eq w h0 h1, pack_ok]
  have e : wrap64 (w % 65536 - w % 2) = w % 65536 - w % 2 := by unfold wrap64; omega
  rw [e]; simp only [Option.bind_some]
  unfold un
  by_cases hz : w = 0
  · subst hz; simp
  rw [if_neg hz]
  unfold tg
  by_cases h : 32 ≤ w % 65536 - w % 2 ∧ w % 65536 - w % 2 ≤ 16384 ∧ (w % 65536 - w % 2) % 16 = 0
  · rw [if_pos h]
    by_cases ho : w % 2 = 1
    · have hb : (w % 2 == 1) = true := by simp [ho]
      rw [hb, if_pos rfl]
      by_cases hw : w < 65536
      · rw [if_pos (by omega), if_pos (by omega)]; rw [show w % 65536 = w by omega]
      · rw [if_neg (by omega), if_neg (by omega)]
    · have hb : (w % 2 == 1) = false := by simp [ho]
      rw [hb]; simp only [Bool.false_eq_true, if_false]
      by_cases hw : w < 65536
      · rw [if_pos (by omega), if_pos (by omega)]; rw [show w % 65536 = w by omega]
      · rw [if_neg (by omega), if_neg (by omega)]
  · rw [if_neg h, if_neg (by omega), if_neg (by omega)]

theorem TagTells : cantlelaw06_TagTells.Pure := by
  intro s u w hs hw
  have hu : cantlelaw06_up.f 1 = some true := by
    unfold cantlelaw06_up.f
    rw [pack_ok]; simp only [Option.bind_some]; rw [pack_ok]; simp [tg]
  obtain ⟨h0, h1⟩ := wf_u64 hw
  refine ⟨1, ?_⟩
  unfold cantlelaw06_TagTells.f
  rw [hu, un_ok 0 w h0 h1, un_ref w h0 h1]
  simp only [Option.bind_some, if_true]
  rw [pack_ok, pack_ref]
  simp

end Go.Proofs.Ytibjcadingedaaa.Pure
