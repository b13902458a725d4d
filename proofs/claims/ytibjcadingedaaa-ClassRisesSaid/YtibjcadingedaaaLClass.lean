import Derived.Test.YtibjcadingedaaaClass
import Derived.Test.YtibjcadingedaaaLTag
namespace Go.Proofs.Ytibjcadingedaaa
open Go Go.RowKit Go.Own
set_option linter.unusedVariables false
theorem up08 (w : World) : Calls Try.prog 32 #[] w fun e w' => e = .returned (.bool true) ∧ w = w' := by
  have k1 := class_Need w 0 (by decide) (by decide)
  have k2 := class_Need w 17 (by decide) (by decide)
  have k3 := class_Class w 272 (by decide) (by decide)
  have k4 := class_Class w 16384 (by decide) (by decide)
  rw [show needS 0 = 32 from by decide, show needOk 0 = true from by decide] at k1
  rw [show needS 17 = 48 from by decide, show needOk 17 = true from by decide] at k2
  rw [show cls 272 = 15 from by decide] at k3
  rw [show cls 16384 = 21 from by decide] at k4
  have K1 := Lib.hid k1; have K2 := Lib.hid k2; have K3 := Lib.hid k3; have K4 := Lib.hid k4
  clear k1 k2 k3 k4
  go_enter Try.func32, Try.ntmps32
  go_wp2_with fail
  refine K1.out.mono ?_
  rintro e w' ⟨rfl, rfl⟩
  go_wp2_with fail
  refine K2.out.mono ?_
  rintro e w' ⟨rfl, rfl⟩
  go_wp2_with fail
  refine K3.out.mono ?_
  rintro e w' ⟨rfl, rfl⟩
  go_wp2_with fail
  refine K4.out.mono ?_
  rintro e w' ⟨rfl, rfl⟩
  go_wp2
  go_ret
  exact ⟨rfl, rfl⟩
theorem classTells (w : World) (n s : Int) (hn : (Lit.int .u64 n).wf = true) (hs : (Lit.int .i64 s).wf = true) :
    Calls Try.prog 10 #[.int .u64 n, .int .i64 s] w fun e w' => e = .returned (.bool true) ∧ Below w.heap.size w w' := by
  obtain ⟨n0, n1⟩ := wf_u64' hn
  obtain ⟨s0, s1⟩ := wf_i64 hs
  clear hn hs
  go_enter Try.func10, Try.ntmps10
  go_wp2_with fail
  with_reducible refine (up08 _).mono ?_
  rintro e w' ⟨rfl, rfl⟩
  go_wp2_with fail
  with_reducible refine (class_Need _ _ n0 n1).mono ?_
  rintro e w' ⟨rfl, rfl⟩
  go_wp2_with fail
  with_reducible refine (ref_Need _ _ n0 n1).mono ?_
  rintro e w' ⟨rfl, rfl⟩
  go_wp2_with fail
  with_reducible refine (class_Class _ _ s0 s1).mono ?_
  rintro e w' ⟨rfl, rfl⟩
  go_wp2_with fail
  with_reducible refine (ref_Class _ _ s0 s1).mono ?_
  rintro e w' ⟨rfl, rfl⟩
  go_wp2
  go_ret
  exact ⟨rfl, Below.refl _ _⟩
theorem cls_rng (s : Int) : -1 ≤ cls s ∧ cls s ≤ 21 ∧ (isSize s = true → 0 ≤ cls s) ∧ (isSize s = false → cls s = -1) := by
  unfold cls
  cases h : isSize s with
  | true => have := (isSize_iff s).1 h; simp only [if_true]; repeat (first | (split) | omega | (refine ⟨by omega, by omega, fun _ => by omega, fun h => by cases h⟩))
  | false => simp
theorem cls_mono {a b : Int} (ha : isSize a = true) (hb : isSize b = true) (h : a ≤ b) : cls a ≤ cls b := by
  have h1 := (isSize_iff a).1 ha
  have h2 := (isSize_iff b).1 hb
  unfold cls
  rw [ha, hb]; simp only [if_true]
  repeat (split <;> try omega)
theorem need_facts {n : Int} (h0 : 0 ≤ n) (h : n ≤ 16368) : isSize (needS n) = true ∧ n + 16 ≤ needS n ∧ needS n < n + 48 := by
  have e : needS n = if n ≤ 16 then 32 else (n + 31) / 16 * 16 := by unfold needS; rw [if_pos h]
  rw [e, isSize_iff]
  split <;> omega
theorem need_mono {n m : Int} (h0 : 0 ≤ n) (h : n ≤ m) (hm : m ≤ 16368) : needS n ≤ needS m := by
  unfold needS; rw [if_pos (by omega), if_pos hm]; split <;> split <;> omega
end Go.Proofs.Ytibjcadingedaaa
