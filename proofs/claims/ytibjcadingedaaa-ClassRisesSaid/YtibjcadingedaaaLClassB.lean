import Derived.Test.YtibjcadingedaaaLClass
namespace Go.Proofs.Ytibjcadingedaaa
open Go Go.RowKit Go.Own
set_option linter.unusedVariables false
set_option maxHeartbeats 8000000 in
/-- The walk, once the two sizes' and the class's cases are known. -/
theorem rises_core (w : World) (n m a b X Y c d cX : Int) (okN okM neg : Bool) (n0 : 0 ≤ n) (n1 : n ≤ 18446744073709551615) (m0 : 0 ≤ m) (m1 : m ≤ 18446744073709551615)
    (hN : needS n = X) (oN : needOk n = okN) (hM : needS m = Y) (oM : needOk m = okM) (hc : cls a = c) (hd : cls b = d) (hX : cls X = cX)
    (a0 : -9223372036854775808 ≤ a) (a1 : a ≤ 9223372036854775807) (b0 : -9223372036854775808 ≤ b) (b1 : b ≤ 9223372036854775807)
    (fN : okN = true → n ≤ 16368 ∧ (X % 16 != 0) = false ∧ n + 16 ≤ X ∧ X < n + 48 ∧ 32 ≤ X ∧ X ≤ 16384 ∧ 0 ≤ cX ∧ cX ≤ 21) (gN : okN = false → 16368 < n ∧ X = 0)
    (fM : okM = true → m ≤ 16368) (hmono : okN = true → okM = true → m < n ∨ X ≤ Y)
    (hcl : c ≤ 21) (hcl0 : -1 ≤ c) (hdl : d ≤ 21) (hdl0 : -1 ≤ d) (hcm : c < 0 ∨ d < 0 ∨ b < a ∨ c ≤ d)
    (ha : (32 ≤ a ∧ a ≤ 16384 ∧ (a % 16 != 0) = false ∧ (c == -1) = false ∧ 0 ≤ c) ∨ (a < 32 ∧ c = -1) ∨ (16384 < a ∧ c = -1) ∨ (32 ≤ a ∧ a ≤ 16384 ∧ (a % 16 != 0) = true ∧ c = -1)) :
    Calls Try.prog 11 #[.int .u64 n, .int .u64 m, .int .i64 a, .int .i64 b] w fun e w' => e = .returned (.bool true) ∧ Below w.heap.size w w' := by
  have k1 := class_Need w n n0 n1
  have k2 := class_Need w m m0 m1
  have k3 := class_Class w a a0 a1
  have k4 := class_Class w b b0 b1
  rw [hN, oN] at k1
  rw [hM, oM] at k2
  rw [hc] at k3
  rw [hd] at k4
  have K1 := Lib.hid k1; have K2 := Lib.hid k2; have K3 := Lib.hid k3; have K4 := Lib.hid k4; have FM := Lib.hid fM; have HM := Lib.hid hmono
  have FN := Lib.hid fN; have GN := Lib.hid gN; have HX := Lib.hid hX
  clear k1 k2 k3 k4 hN oN hM oM hc hd fM hmono fN gN hX
  cases okN with
  | true =>
    obtain ⟨p1, p2, p3, p4, p5, p6, p7, p8⟩ := FN.out rfl
    have k5 := class_Class w X (by omega) (by omega)
    rw [HX.out] at k5
    have K5 := Lib.hid k5
    clear k5
    have w1 := wrapU64 (n := X) (by omega) (by omega)
    cases okM with
    | true =>
      have q1 := FM.out rfl
      have q2 := HM.out rfl rfl
      clear FM HM FN GN
      rcases ha with ⟨r1, r2, r3, r4, r5⟩ | ⟨r1, rfl⟩ | ⟨r1, rfl⟩ | ⟨r1, r2, r3, rfl⟩
      all_goals
        go_enter Try.func11, Try.ntmps11
        go_wp2_with fail
        with_reducible refine (up08 _).mono ?_
        rintro e w' ⟨rfl, rfl⟩
        go_wp2_with fail
        refine K1.out.mono ?_
        rintro e w' ⟨rfl, rfl⟩
        go_wp2_with fail
        refine K2.out.mono ?_
        rintro e w' ⟨rfl, rfl⟩
        go_wp2_with fail
        refine K5.out.mono ?_
        rintro e w' ⟨rfl, rfl⟩
        go_wp2_with fail
        all_goals (
          refine K3.out.mono ?_
          rintro e w' ⟨rfl, rfl⟩
          go_wp2_with fail
          refine K4.out.mono ?_
          rintro e w' ⟨rfl, rfl⟩
          go_wp2)
        all_goals go_ret
        all_goals first | exact ⟨rfl, Below.refl _ _⟩ | exact ⟨rB (by simp; omega), Below.refl _ _⟩
    | false =>
      clear FM HM FN GN
      rcases ha with ⟨r1, r2, r3, r4, r5⟩ | ⟨r1, rfl⟩ | ⟨r1, rfl⟩ | ⟨r1, r2, r3, rfl⟩
      all_goals
        go_enter Try.func11, Try.ntmps11
        go_wp2_with fail
        with_reducible refine (up08 _).mono ?_
        rintro e w' ⟨rfl, rfl⟩
        go_wp2_with fail
        refine K1.out.mono ?_
        rintro e w' ⟨rfl, rfl⟩
        go_wp2_with fail
        refine K2.out.mono ?_
        rintro e w' ⟨rfl, rfl⟩
        go_wp2_with fail
        refine K5.out.mono ?_
        rintro e w' ⟨rfl, rfl⟩
        go_wp2_with fail
        all_goals (
          refine K3.out.mono ?_
          rintro e w' ⟨rfl, rfl⟩
          go_wp2_with fail
          refine K4.out.mono ?_
          rintro e w' ⟨rfl, rfl⟩
          go_wp2)
        all_goals go_ret
        all_goals first | exact ⟨rfl, Below.refl _ _⟩ | exact ⟨rB (by simp; omega), Below.refl _ _⟩
  | false =>
    obtain ⟨p1, rfl⟩ := GN.out rfl
    clear FM HM FN GN HX
    cases okM
    all_goals
      rcases ha with ⟨r1, r2, r3, r4, r5⟩ | ⟨r1, rfl⟩ | ⟨r1, rfl⟩ | ⟨r1, r2, r3, rfl⟩
      all_goals
        go_enter Try.func11, Try.ntmps11
        go_wp2_with fail
        with_reducible refine (up08 _).mono ?_
        rintro e w' ⟨rfl, rfl⟩
        go_wp2_with fail
        refine K1.out.mono ?_
        rintro e w' ⟨rfl, rfl⟩
        go_wp2_with fail
        refine K2.out.mono ?_
        rintro e w' ⟨rfl, rfl⟩
        go_wp2_with fail
        all_goals (
          refine K3.out.mono ?_
          rintro e w' ⟨rfl, rfl⟩
          go_wp2_with fail
          refine K4.out.mono ?_
          rintro e w' ⟨rfl, rfl⟩
          go_wp2)
        all_goals go_ret
        all_goals first | exact ⟨rfl, Below.refl _ _⟩ | exact ⟨rB (by simp; omega), Below.refl _ _⟩
theorem classRises (w : World) (n m a b : Int) (hn : (Lit.int .u64 n).wf = true) (hm : (Lit.int .u64 m).wf = true) (ha : (Lit.int .i64 a).wf = true) (hb : (Lit.int .i64 b).wf = true) :
    Calls Try.prog 11 #[.int .u64 n, .int .u64 m, .int .i64 a, .int .i64 b] w fun e w' => e = .returned (.bool true) ∧ Below w.heap.size w w' := by
  obtain ⟨n0, n1⟩ := wf_u64' hn
  obtain ⟨m0, m1⟩ := wf_u64' hm
  obtain ⟨a0, a1⟩ := wf_i64 ha
  obtain ⟨b0, b1⟩ := wf_i64 hb
  obtain ⟨c1, c2, c3, c4⟩ := cls_rng a
  obtain ⟨d1, d2, d3, d4⟩ := cls_rng b
  obtain ⟨x1, x2, x3, x4⟩ := cls_rng (needS n)
  refine rises_core w n m a b _ _ _ _ _ _ _ false n0 n1 m0 m1 rfl rfl rfl rfl rfl rfl rfl a0 a1 b0 b1 ?_ ?_ ?_ ?_ c2 c1 d2 d1 ?_ ?_
  · intro h
    have h : n ≤ 16368 := of_decide_eq_true h
    obtain ⟨f1, f2, f3⟩ := need_facts n0 h
    obtain ⟨g1, g2, g3⟩ := (isSize_iff _).1 f1
    exact ⟨h, by rw [bne_eq_false_iff_eq]; exact g3, f2, f3, g1, g2, x3 f1, x2⟩
  · intro h
    have h : ¬ n ≤ 16368 := of_decide_eq_false h
    exact ⟨by omega, by unfold needS; rw [if_neg h]⟩
  · exact fun h => of_decide_eq_true h
  · intro h1 h2
    have h1 : n ≤ 16368 := of_decide_eq_true h1
    have h2 : m ≤ 16368 := of_decide_eq_true h2
    by_cases h : n ≤ m
    · exact .inr (need_mono n0 h h2)
    · exact .inl (by omega)
  · cases ha : isSize a with
    | false => exact .inl (by rw [c4 ha]; decide)
    | true =>
      cases hb : isSize b with
      | false => exact .inr (.inl (by rw [d4 hb]; decide))
      | true =>
        by_cases h : a ≤ b
        · exact .inr (.inr (.inr (cls_mono ha hb h)))
        · exact .inr (.inr (.inl (by omega)))
  · cases ha : isSize a with
    | true =>
      obtain ⟨g1, g2, g3⟩ := (isSize_iff a).1 ha
      have := c3 ha
      exact .inl ⟨g1, g2, by rw [bne_eq_false_iff_eq]; exact g3, by rw [beq_eq_false_iff_ne]; omega, this⟩
    | false =>
      have h4 : ¬ (32 ≤ a ∧ a ≤ 16384 ∧ a % 16 = 0) := fun hh => by rw [isSize_yes hh] at ha; cases ha
      rw [c4 ha]
      by_cases h1 : a < 32
      · exact .inr (.inl ⟨h1, rfl⟩)
      · by_cases h2 : 16384 < a
        · exact .inr (.inr (.inl ⟨h2, rfl⟩))
        · exact .inr (.inr (.inr ⟨by omega, by omega, by rw [bne_iff_ne]; omega, rfl⟩))
end Go.Proofs.Ytibjcadingedaaa
