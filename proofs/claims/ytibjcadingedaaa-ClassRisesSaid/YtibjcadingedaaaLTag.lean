import Derived.Test.YtibjcadingedaaaSize
namespace Go.Proofs.Ytibjcadingedaaa
open Go Go.RowKit Go.Own
set_option linter.unusedVariables false
theorem up06 (w : World) : Calls Try.prog 15 #[] w fun e w' => e = .returned (.bool true) ∧ w = w' := by
  have k1 := tag_Pack w 48 true
  have k2 := tag_Pack w 40 true
  rw [show tagOf 48 true = 49 from by decide] at k1
  rw [show tagOf 40 true = 0 from by decide] at k2
  have K1 := Lib.hid k1; have K2 := Lib.hid k2
  clear k1 k2
  go_enter Try.func15, Try.ntmps15
  go_wp2_with fail
  refine K1.out.mono ?_
  rintro e w' ⟨rfl, rfl⟩
  go_wp2_with fail
  refine K2.out.mono ?_
  rintro e w' ⟨rfl, rfl⟩
  go_wp2
  go_ret
  exact ⟨rfl, rfl⟩
theorem wf_i64 {a : Int} (h : (Lit.int .i64 a).wf = true) : -9223372036854775808 ≤ a ∧ a ≤ 9223372036854775807 := by
  simp [Lit.wf, IntKind.min, IntKind.max, IntKind.bits, IntKind.signed] at h; omega
theorem wf_u64' {a : Int} (h : (Lit.int .u64 a).wf = true) : 0 ≤ a ∧ a ≤ 18446744073709551615 := by
  simp [Lit.wf, IntKind.min, IntKind.max, IntKind.bits, IntKind.signed] at h; omega
theorem tag_same (s t : Int) (u v : Bool) (h : (tagOf s u != 0) = true) : (tagOf s u == tagOf t v) = (s == t && u == v) := by
  have hs : isSize s = true := by
    rw [← Bool.not_eq_false]; intro hh; rw [tagOf_zero.2 hh] at h; simp at h
  obtain ⟨a1, a2, a3⟩ := isTag_tagOf (u := u) hs
  rw [Bool.eq_iff_iff]; simp only [beq_iff_eq, Bool.and_eq_true]
  constructor
  · intro e
    have ht : isSize t = true := by
      rw [← Bool.not_eq_false]; intro hh; rw [tagOf_zero.2 hh] at e; rw [e] at h; simp at h
    obtain ⟨b1, b2, b3⟩ := isTag_tagOf (u := v) ht
    rw [e] at a2 a3
    exact ⟨a2.symm.trans b2, a3.symm.trans b3⟩
  · rintro ⟨rfl, rfl⟩; rfl
set_option maxHeartbeats 8000000 in
/-- The walk, once the tests of the first half are known. -/
theorem tagBack_core (w : World) (s : Int) (u : Bool) (t : Int) (x : Bool) (v T B n : Int) (is ok p q r : Bool) (v0 : 0 ≤ v) (v1 : v ≤ 18446744073709551615) (r0 : 0 ≤ T) (r1 : T ≤ 16385)
    (hT : tagOf s u = T) (hB : tagOf t x = B) (k3 : ∀ w, Calls Try.prog 16 #[.int .u64 T] w fun e w' => e = .returned (.tuple #[.int .i64 n, .bool is, .bool ok]) ∧ w = w')
    (e1 : (T != 0) = ok) (e2 : ok = true → n = s ∧ is = u) (e3 : (B != 0) = p) (e4 : (s == t) = q) (e5 : (u == x) = r) (e6 : ok = true → p = true → (T == B) = (q && r)) :
    Calls Try.prog 4 #[.int .i64 s, .bool u, .int .i64 t, .bool x, .int .u64 v] w fun e w' => e = .returned (.bool true) ∧ Below w.heap.size w w' := by
  have k1 := tag_Pack w s u
  have k2 := tag_Pack w t x
  rw [hT] at k1
  rw [hB] at k2
  have k4 := tag_Unpack w v v0 v1
  have hpv := tag_Pack w (tagS v) (tagU v)
  have K1 := Lib.hid k1; have K2 := Lib.hid k2; have K3 := Lib.hid k3; have K4 := Lib.hid k4; have KV := Lib.hid hpv
  have E2 := Lib.hid e2; have E6 := Lib.hid e6
  clear k1 k2 k3 k4 hpv e2 e6 hT hB
  have fin : ∀ (a : Bool), True := fun _ => trivial
  clear fin
  cases hv : isTag v with
  | true =>
    obtain ⟨g1, g2⟩ := tagOf_isTag hv
    have g3 := (isSize_iff _).1 g2
    have hm : ((tagS v) % 16 == 0) = true := by rw [beq_iff_eq]; exact g3.2.2
    have G := Lib.hid g1
    obtain ⟨d1, d2, _⟩ := g3
    rw [hv] at K4
    have kv := KV.out
    rw [g1] at kv
    have KW := Lib.hid kv
    clear g1 g2 hv kv KV
    cases ok with
    | false =>
      go_enter Try.func4, Try.ntmps4
      go_wp2_with fail
      refine (up06 _).mono ?_
      rintro e w' ⟨rfl, rfl⟩
      go_wp2_with fail
      refine K1.out.mono ?_
      rintro e w' ⟨rfl, rfl⟩
      go_wp2_with fail
      refine K2.out.mono ?_
      rintro e w' ⟨rfl, rfl⟩
      go_wp2_with fail
      refine (K3.out _).mono ?_
      rintro e w' ⟨rfl, rfl⟩
      go_wp2_with fail
      refine K4.out.mono ?_
      rintro e w' ⟨rfl, rfl⟩
      go_wp2_with fail
      refine KW.out.mono ?_
      rintro e w' ⟨rfl, rfl⟩
      go_wp2
      go_ret
      exact ⟨rB (by simp [d1, d2]), Below.refl _ _⟩
    | true =>
      obtain ⟨rfl, rfl⟩ := E2.out rfl
      have e6 := E6.out rfl
      cases p with
      | false =>
        clear e6
        go_enter Try.func4, Try.ntmps4
        go_wp2_with fail
        refine (up06 _).mono ?_
        rintro e w' ⟨rfl, rfl⟩
        go_wp2_with fail
        refine K1.out.mono ?_
        rintro e w' ⟨rfl, rfl⟩
        go_wp2_with fail
        refine K2.out.mono ?_
        rintro e w' ⟨rfl, rfl⟩
        go_wp2_with fail
        refine (K3.out _).mono ?_
        rintro e w' ⟨rfl, rfl⟩
        go_wp2_with fail
        refine K4.out.mono ?_
        rintro e w' ⟨rfl, rfl⟩
        go_wp2_with fail
        refine KW.out.mono ?_
        rintro e w' ⟨rfl, rfl⟩
        go_wp2
        go_ret
        exact ⟨rB (by simp [d1, d2]), Below.refl _ _⟩
      | true =>
        have e7 := e6 rfl
        clear e6
        cases q <;> cases r
        all_goals simp only [Bool.and_true, Bool.and_false, Bool.true_and, Bool.false_and] at e7
        all_goals
          go_enter Try.func4, Try.ntmps4
          go_wp2_with fail
          refine (up06 _).mono ?_
          rintro e w' ⟨rfl, rfl⟩
          go_wp2_with fail
          refine K1.out.mono ?_
          rintro e w' ⟨rfl, rfl⟩
          go_wp2_with fail
          refine K2.out.mono ?_
          rintro e w' ⟨rfl, rfl⟩
          go_wp2_with fail
          refine (K3.out _).mono ?_
          rintro e w' ⟨rfl, rfl⟩
          go_wp2_with fail
          refine K4.out.mono ?_
          rintro e w' ⟨rfl, rfl⟩
          go_wp2_with fail
          refine KW.out.mono ?_
          rintro e w' ⟨rfl, rfl⟩
          go_wp2
          go_ret
          exact ⟨rB (by simp [d1, d2]), Below.refl _ _⟩
  | false =>
    obtain ⟨n1, n2⟩ := noTag hv
    rw [hv, n1, n2] at K4
    clear n1 n2 hv KV
    cases ok with
    | false =>
      go_enter Try.func4, Try.ntmps4
      go_wp2_with fail
      refine (up06 _).mono ?_
      rintro e w' ⟨rfl, rfl⟩
      go_wp2_with fail
      refine K1.out.mono ?_
      rintro e w' ⟨rfl, rfl⟩
      go_wp2_with fail
      refine K2.out.mono ?_
      rintro e w' ⟨rfl, rfl⟩
      go_wp2_with fail
      refine (K3.out _).mono ?_
      rintro e w' ⟨rfl, rfl⟩
      go_wp2_with fail
      refine K4.out.mono ?_
      rintro e w' ⟨rfl, rfl⟩
      go_wp2
      go_ret
      exact ⟨rfl, Below.refl _ _⟩
    | true =>
      obtain ⟨rfl, rfl⟩ := E2.out rfl
      have e6 := E6.out rfl
      cases p with
      | false =>
        clear e6
        go_enter Try.func4, Try.ntmps4
        go_wp2_with fail
        refine (up06 _).mono ?_
        rintro e w' ⟨rfl, rfl⟩
        go_wp2_with fail
        refine K1.out.mono ?_
        rintro e w' ⟨rfl, rfl⟩
        go_wp2_with fail
        refine K2.out.mono ?_
        rintro e w' ⟨rfl, rfl⟩
        go_wp2_with fail
        refine (K3.out _).mono ?_
        rintro e w' ⟨rfl, rfl⟩
        go_wp2_with fail
        refine K4.out.mono ?_
        rintro e w' ⟨rfl, rfl⟩
        go_wp2
        go_ret
        exact ⟨rfl, Below.refl _ _⟩
      | true =>
        have e7 := e6 rfl
        clear e6
        cases q <;> cases r
        all_goals simp only [Bool.and_true, Bool.and_false, Bool.true_and, Bool.false_and] at e7
        all_goals
          go_enter Try.func4, Try.ntmps4
          go_wp2_with fail
          refine (up06 _).mono ?_
          rintro e w' ⟨rfl, rfl⟩
          go_wp2_with fail
          refine K1.out.mono ?_
          rintro e w' ⟨rfl, rfl⟩
          go_wp2_with fail
          refine K2.out.mono ?_
          rintro e w' ⟨rfl, rfl⟩
          go_wp2_with fail
          refine (K3.out _).mono ?_
          rintro e w' ⟨rfl, rfl⟩
          go_wp2_with fail
          refine K4.out.mono ?_
          rintro e w' ⟨rfl, rfl⟩
          go_wp2
          go_ret
          exact ⟨rfl, Below.refl _ _⟩
theorem tagBack (w : World) (s : Int) (u : Bool) (t : Int) (x : Bool) (v : Int) (hs : (Lit.int .i64 s).wf = true) (ht : (Lit.int .i64 t).wf = true) (hv : (Lit.int .u64 v).wf = true) :
    Calls Try.prog 4 #[.int .i64 s, .bool u, .int .i64 t, .bool x, .int .u64 v] w fun e w' => e = .returned (.bool true) ∧ Below w.heap.size w w' := by
  obtain ⟨v0, v1⟩ := wf_u64' hv
  obtain ⟨r0, r1⟩ := tagOf_rng s u
  refine tagBack_core w s u t x v _ _ (tagS (tagOf s u)) (tagU (tagOf s u)) (isTag (tagOf s u)) _ _ _ v0 v1 r0 r1 rfl rfl (fun w => tag_Unpack w _ r0 (by omega)) ?_ ?_ rfl rfl rfl ?_
  · cases h : isSize s with
    | true =>
      have h2 := isTag_tagOf (u := u) h
      rw [h2.1, bne_iff_ne]
      intro hz
      rw [tagOf_zero] at hz
      rw [h] at hz; cases hz
    | false => rw [tagOf_zero.2 h]; rfl
  · intro hk
    have h : isSize s = true := by
      rw [← Bool.not_eq_false]; intro hh; rw [tagOf_zero.2 hh] at hk; rw [isTag_zero] at hk; cases hk
    obtain ⟨_, h2, h3⟩ := isTag_tagOf (u := u) h
    exact ⟨h2, h3⟩
  · intro hk _
    refine tag_same s t u x ?_
    rw [bne_iff_ne]; intro hh; rw [hh, isTag_zero] at hk; cases hk
end Go.Proofs.Ytibjcadingedaaa
