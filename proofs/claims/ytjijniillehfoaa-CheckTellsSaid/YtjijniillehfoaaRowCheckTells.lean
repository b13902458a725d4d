/- The row of 'CheckTells', out of its walk. No condition of ours. -/
import Derived.Test.YtjijniillehfoaaMgCheckTells6
import Derived.Test.YtjijniillehfoaaRows
import Derived.ProofKit
import Derived.OpenShut
import Derived.ChangeOld
import Derived.Below
import Derived.SizedLaws
namespace Go.Proofs.Ytjijniillehfoaa.checkTells
open Go.ChangeShapes Go.WideShapes Go.ChangeAt Go.RowKit Go.Own
set_option linter.unusedVariables false
theorem own : ownKnob Try.prog.godebug = none := by kernel_rfl
theorem opens49 : Opens Try.prog 49 (.int .u64) := opens_int Try.underlying49
theorem opens3 : Opens Try.prog 3 (.int .i64) := opens_int Try.underlying3
theorem opens227 : Opens Try.prog 227 (.cons (.int .i64) (.cons (.int .i64) (.cons (.int .u64) .nil))) := opens_st Try.underlying227 (by kernel_rfl) (openF_cons rfl (by kernel_rfl) opens3 (openF_cons rfl (by kernel_rfl) opens3 (openF_cons rfl (by kernel_rfl) opens49 openF_nil)))
theorem opens112 : Opens Try.prog 112 (.sl (.cons (.int .i64) (.cons (.int .i64) (.cons (.int .u64) .nil)))) := opens_sl Try.underlying112 (by kernel_rfl) opens227
theorem opens74 : Opens Try.prog 74 (.sl (.int .i64)) := opens_sl Try.underlying74 (by kernel_rfl) opens3
theorem laidOut : laidOutB Try.prog = true := Facts.laidOut
set_option maxRecDepth 100000 in
theorem lifted (os : Os) (started : os.Started) (H : Type) (enc : TypeId × Value → H) :
    ReturnsInHanded {} Try.checked os 13 .any (Rows.checkTellsSpec.pre6 enc Try.prog Try.f13 Rows.checkTellsRow.domain false) (Rows.checkTellsSpec.post enc Try.prog Try.f13 false true false false) := by
  refine returnsInHanded_of_change (C := Try.checked) own started (by kernel_rfl) Try.func13
    (ChangeSpec.witness6 (enc := enc) (C := Try.checked) false ⟨#[], #[.int .i64 0, .slice none 0 0, .slice none 0 0], []⟩ 8 (by kernel_rfl) (by kernel_rfl) (by kernel_rfl) (by kernel_rfl)) ?_
  intro W base args ds gs before hval0 hW hcnd _
  have hval : ∀ (j : Nat) t v, Try.f13.params[j]? = some t → args[j]? = some v → Value.okWide Try.prog W .any base t v := hval0
  have hW' := hW
  obtain ⟨p, q, hA0, hV, rfl, hfz, hnd⟩ := hW
  have hA : DataW.TrodAll enc Try.prog W 0 (fun _ => true) true Try.f13.params.toList args.toList ds p := hA0
  rw [Try.params13] at hA hval
  obtain ⟨v0, vs0, d0, ds0, p0, q0, hargs, rfl, rfl, h0, r0⟩ := trodAll_cons hA
  obtain ⟨v1, vs1, d1, ds1, p1, q1, rfl, rfl, rfl, h1, r1⟩ := trodAll_cons r0
  obtain ⟨v2, vs2, d2, ds2, p2, q2, rfl, rfl, rfl, h2, r2⟩ := trodAll_cons r1
  obtain ⟨rfl, rfl, rfl⟩ := trodAll_nil r2
  obtain rfl : args = #[v0, v1, v2] := by cases args; simp_all
  obtain ⟨rfl, rfl⟩ := trodVars_none hV
  obtain ⟨a0, rfl, rfl, rfl, w0⟩ := open_int Try.underlying3 (hval 0 3 v0 rfl rfl) h0
  have k1 := h1
  have lt1 : ∀ x ∈ p1, x.block < W.heap.size := by obtain ⟨m, hm⟩ := k1; exact DataW.trod_lt m _ _ _ hm
  obtain ⟨a1, len1, cap1, rfl⟩ := okWide_slice Try.underlying112 (hval 1 112 v1 rfl rfl)
  have w1 : Rd W (.sl (.cons (.int .i64) (.cons (.int .i64) (.cons (.int .u64) .nil)))) [.slice a1 len1 cap1] := by obtain ⟨m, hm⟩ := h1; exact (opens112 H enc W m _ _ hm).1
  have k2 := h2
  have lt2 : ∀ x ∈ p2, x.block < W.heap.size := by obtain ⟨m, hm⟩ := k2; exact DataW.trod_lt m _ _ _ hm
  obtain ⟨a2, len2, cap2, rfl⟩ := okWide_slice Try.underlying74 (hval 2 74 v2 rfl rfl)
  have w2 : Rd W (.sl (.int .i64)) [.slice a2 len2 cap2] := by obtain ⟨m, hm⟩ := h2; exact (opens74 H enc W m _ _ hm).1
  clear hA0 hval0
  refine (checkTells W a0 a1 len1 cap1 a2 len2 cap2 w0 w1 w2).mono fun e W' ⟨he, bel⟩ => ?_
  subst he
  exact ⟨_, rfl, _, _, _, [], _, [], hW', trodAll_mk1 (shut_bool Try.underlying4 _), (trodAll_cons_mk (shut_int Try.underlying3 w0) (trodAll_cons_mk (Below.trod laidOut (by kernel_rfl) (of_decide_eq_true (by kernel_rfl)) k1 bel lt1) (trodAll_cons_mk (Below.trod laidOut (by kernel_rfl) (of_decide_eq_true (by kernel_rfl)) k2 bel lt2) trodAll_mk0))), rfl, bel.frame _, fun h => by cases h⟩
theorem closed : joinedFacts Try.prog 13 Try.f13 Rows.checkTellsSpec Rows.checkTellsRow = true := by
  unfold joinedFacts
  rw [Facts.laidOut, Facts.mayEnter, Facts.lifts, Facts.make]
  kernel_rfl
theorem over : Rows.checkTellsRow.holds Try.pinned (OpenSpec.ofChange Rows.checkTellsSpec) :=
  OpenClaim.holds_of_wide 13 Try.f13 rfl rfl rfl rfl rfl rfl rfl ⟨rfl, rfl, rfl, rfl, rfl⟩ rfl rfl rfl rfl rfl (by kernel_rfl) Try.func13 closed
    (of_decide_eq_true (by kernel_rfl)) (by unfold Func.isWrapper; first | (rw [if_pos (by decide +kernel)]; kernel_rfl) | (rw [if_neg (by decide +kernel)]; exact ⟨rfl, rfl⟩))
    (fun os started H enc _ => lifted os started H enc)
theorem proved : Rows.CheckTellsSaid := over
end Go.Proofs.Ytjijniillehfoaa.checkTells
namespace Go.Proofs.Ytjijniillehfoaa
theorem checkTells_holds : Rows.CheckTellsSaid := checkTells.proved
#print axioms checkTells_holds
end Go.Proofs.Ytjijniillehfoaa
