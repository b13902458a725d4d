import Derived.Test.YtibjcadingedaaaWord
import Derived.Test.YtibjcadingedaaaSizeP
namespace Go.Proofs.Ytibjcadingedaaa
open Go Go.RowKit Go.Own
set_option linter.unusedVariables false
theorem rem16 (s : Int) (h : 0 ≤ s) : s.tmod 16 = s % 16 := Int.tmod_eq_emod_of_nonneg h
theorem ref_IsSize (w : World) (s : Int) : Calls Try.prog 49 #[.int .i64 s] w fun e w' => e = .returned (.bool (isSize s)) ∧ w = w' := by
  by_cases h1 : 32 ≤ s
  · by_cases h2 : s ≤ 16384
    · go_enter Try.func49, Try.ntmps49
      go_wp2
      go_ret
      refine ⟨rB ?_, rfl⟩
      simp [isSize, h1, h2, Bool.beq_eq_decide_eq]
    · go_enter Try.func49, Try.ntmps49
      go_wp2
      go_ret
      exact ⟨rB (isSize_no (by omega)).symm, rfl⟩
  · go_enter Try.func49, Try.ntmps49
    go_wp2
    go_ret
    exact ⟨rB (isSize_no (by omega)).symm, rfl⟩
theorem tag_Pack (w : World) (s : Int) (u : Bool) : Calls Try.prog 18 #[.int .i64 s, .bool u] w fun e w' => e = .returned (.int .u64 (tagOf s u)) ∧ w = w' := by
  by_cases h : isSize s = true
  · have h' := (isSize_iff s).1 h
    obtain ⟨h1, h2, h3⟩ := h'
    have hor := or1 s (by omega) (by omega) (by omega)
    have hne : (s % 16 != 0) = false := by rw [bne_eq_false_iff_eq]; exact h3
    have ht : tagOf s u = if u then s + 1 else s := by unfold tagOf; rw [h]; rfl
    have HT := Lib.hid ht
    clear ht h h3
    cases u with
    | true =>
      go_enter Try.func18, Try.ntmps18
      go_wp2
      go_ret
      exact ⟨rI (by rw [HT.out]; rfl), rfl⟩
    | false =>
      go_enter Try.func18, Try.ntmps18
      go_wp2
      go_ret
      exact ⟨rI (by rw [HT.out]; rfl), rfl⟩
  · have hn : s < 32 ∨ 16384 < s ∨ (32 ≤ s ∧ s ≤ 16384 ∧ (s % 16 != 0) = true) := by
      have h4 : ¬ (32 ≤ s ∧ s ≤ 16384 ∧ s % 16 = 0) := fun hh => h (isSize_yes hh)
      rw [bne_iff_ne]; omega
    have ht : tagOf s u = 0 := by unfold tagOf; rw [Bool.not_eq_true] at h; rw [h]; rfl
    have HT := Lib.hid ht
    clear ht h
    rcases hn with hn | hn | ⟨h1, h2, h3⟩
    all_goals
      go_enter Try.func18, Try.ntmps18
      go_wp2
      go_ret
      exact ⟨rI HT.out.symm, rfl⟩
theorem ref_Pack (w : World) (s : Int) (u : Bool) : Calls Try.prog 19 #[.int .i64 s, .bool u] w fun e w' => e = .returned (.int .u64 (tagOf s u)) ∧ w = w' := by
  cases h : isSize s with
  | true =>
    have h' := (isSize_iff s).1 h
    obtain ⟨h1, h2, h3⟩ := h'
    have ht : tagOf s u = if u then s + 1 else s := by unfold tagOf; rw [h]; rfl
    have k := ref_IsSize w s
    rw [h] at k
    have K := Lib.hid k
    have HT := Lib.hid ht
    clear ht h h3 k
    cases u with
    | true =>
      go_enter Try.func19, Try.ntmps19
      go_wp2_with fail
      refine K.out.mono ?_
      rintro e w' ⟨rfl, rfl⟩
      go_wp2
      go_ret
      exact ⟨rI (by rw [HT.out]; rfl), rfl⟩
    | false =>
      go_enter Try.func19, Try.ntmps19
      go_wp2_with fail
      refine K.out.mono ?_
      rintro e w' ⟨rfl, rfl⟩
      go_wp2
      go_ret
      exact ⟨rI (by rw [HT.out]; rfl), rfl⟩
  | false =>
    have ht : tagOf s u = 0 := tagOf_zero.2 h
    have k := ref_IsSize w s
    rw [h] at k
    have K := Lib.hid k
    have HT := Lib.hid ht
    clear ht h k
    go_enter Try.func19, Try.ntmps19
    go_wp2_with fail
    refine K.out.mono ?_
    rintro e w' ⟨rfl, rfl⟩
    go_wp2
    go_ret
    exact ⟨rI HT.out.symm, rfl⟩

theorem tag_Unpack (w : World) (v : Int) (h0 : 0 ≤ v) (h1 : v ≤ 18446744073709551615) :
    Calls Try.prog 16 #[.int .u64 v] w fun e w' => e = .returned (.tuple #[.int .i64 (tagS v), .bool (tagU v), .bool (isTag v)]) ∧ w = w' := by
  have e1 := low_eq v h0 h1
  have e2 := odd_eq v h0 h1
  have hw := wrapI64 (n := v % 65536 - v % 2) (by omega) (by omega)
  by_cases hz : v = 0
  · subst hz
    go_enter Try.func16, Try.ntmps16
    go_wp2
    go_ret3
    exact ⟨by rw [show tagS 0 = 0 from by decide, show tagU 0 = false from by decide, show isTag 0 = false from by decide]; rfl, rfl⟩
  · have hz' : (v == 0) = false := by rw [beq_eq_false_iff_ne]; exact hz
    have hq := (unpack_eq v h0).resolve_right hz
    cases ht : isTag v with
    | true =>
      rw [ht] at hq
      have hs : v % 65536 - v % 2 = tagS v := by have := isTag_rng ht; unfold tagS; rw [ht]; simp; omega
      have hu : (v % 2 == 1) = tagU v := by unfold tagU; rw [ht]; rw [Bool.eq_iff_iff]; simp
      have HS := Lib.hid hs; have HU := Lib.hid hu
      clear hs hu ht hz
      go_enter Try.func16, Try.ntmps16
      go_wp2_with fail
      with_reducible refine (tag_Pack _ _ _).mono ?_
      rintro e w' ⟨rfl, rfl⟩
      go_wp2
      go_ret3
      exact ⟨by rw [← HS.out, ← HU.out]; rfl, rfl⟩
    | false =>
      rw [ht] at hq
      obtain ⟨n1, n2⟩ := noTag ht
      have N1 := Lib.hid n1; have N2 := Lib.hid n2
      clear n1 n2 ht hz
      go_enter Try.func16, Try.ntmps16
      go_wp2_with fail
      with_reducible refine (tag_Pack _ _ _).mono ?_
      rintro e w' ⟨rfl, rfl⟩
      go_wp2
      go_ret3
      exact ⟨by rw [N1.out, N2.out]; rfl, rfl⟩
theorem ref_Unpack (w : World) (v : Int) (h0 : 0 ≤ v) (h1 : v ≤ 18446744073709551615) :
    Calls Try.prog 17 #[.int .u64 v] w fun e w' => e = .returned (.tuple #[.int .i64 (tagS v), .bool (tagU v), .bool (isTag v)]) ∧ w = w' := by
  by_cases hb : 20000 < v
  · have ht : isTag v = false := by
      rw [← Bool.not_eq_true]; intro h; have := isTag_rng h; omega
    obtain ⟨n1, n2⟩ := noTag ht
    have HT := Lib.hid ht; have N1 := Lib.hid n1; have N2 := Lib.hid n2
    clear n1 n2 ht
    go_enter Try.func17, Try.ntmps17
    go_wp2
    go_ret3
    exact ⟨by rw [N1.out, N2.out, HT.out]; rfl, rfl⟩
  · have k := ref_IsSize w (v - v % 2)
    have hu : tagU v = (isTag v && (v % 2 == 1)) := by unfold tagU; congr 1
    have hd : isSize (v - v % 2) = isTag v := rfl
    rw [hd] at k
    clear hd
    cases ht : isTag v with
    | true =>
      rw [ht] at k hu
      have hs : v - v % 2 = tagS v := by unfold tagS; rw [ht]; rfl
      have K := Lib.hid k; have HS := Lib.hid hs; have HU := Lib.hid hu
      clear k hs hu ht
      go_enter Try.func17, Try.ntmps17
      go_wp2_with fail
      with_reducible refine K.out.mono ?_
      rintro e w' ⟨rfl, rfl⟩
      go_wp2
      go_ret3
      exact ⟨by rw [HU.out, ← HS.out]; rfl, rfl⟩
    | false =>
      rw [ht] at k
      obtain ⟨n1, n2⟩ := noTag ht
      have K := Lib.hid k; have N1 := Lib.hid n1; have N2 := Lib.hid n2
      clear k hu n1 n2 ht
      go_enter Try.func17, Try.ntmps17
      go_wp2_with fail
      with_reducible refine K.out.mono ?_
      rintro e w' ⟨rfl, rfl⟩
      go_wp2
      go_ret3
      exact ⟨by rw [N1.out, N2.out]; rfl, rfl⟩
end Go.Proofs.Ytibjcadingedaaa
