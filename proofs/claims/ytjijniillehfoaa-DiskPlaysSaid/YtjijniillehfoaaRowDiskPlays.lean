/- The row of 'DiskPlays', out of its walk. No condition of ours. -/
import Derived.Test.YtjijniillehfoaaShape
import Derived.Test.YtjijniillehfoaaFacts
import Derived.Test.YtjijniillehfoaaRows
import Derived.Test.YtjijniillehfoaaLDk7
import Derived.Test.YtjijniillehfoaaOpen
import Derived.ProofKit
import Derived.OpenShut
import Derived.ChangeOld
import Derived.Below
import Derived.SizedLaws
namespace Go.Proofs.Ytjijniillehfoaa.diskPlays
open Go.ChangeShapes Go.WideShapes Go.ChangeAt Go.RowKit Go.Own
set_option linter.unusedVariables false
theorem own : ownKnob Try.prog.godebug = none := by kernel_rfl
theorem opens4 : Opens Try.prog 4 .bool := opens_bool Try.underlying4
theorem opens23 : Opens Try.prog 23 (.sl .bool) := opens_sl Try.underlying23 (by kernel_rfl) opens4
theorem opens5 : Opens Try.prog 5 (.int .u8) := opens_int Try.underlying5
theorem opens31 : Opens Try.prog 31 (.sl (.int .u8)) := opens_sl Try.underlying31 (by kernel_rfl) opens5
theorem opens3 : Opens Try.prog 3 (.int .i64) := opens_int Try.underlying3
theorem opens33 : Opens Try.prog 33 (.cons (.int .i64) (.cons (.int .i64) (.cons (.int .i64) (.cons (.int .u8) (.cons (.sl (.int .u8)) (.cons (.sl .bool) .nil)))))) := opens_st Try.underlying33 (by kernel_rfl) (openF_cons rfl (by kernel_rfl) opens3 (openF_cons rfl (by kernel_rfl) opens3 (openF_cons rfl (by kernel_rfl) opens3 (openF_cons rfl (by kernel_rfl) opens5 (openF_cons rfl (by kernel_rfl) opens31 (openF_cons rfl (by kernel_rfl) opens23 openF_nil))))))
theorem opens22 : Opens Try.prog 22 (.sl (.cons (.int .i64) (.cons (.int .i64) (.cons (.int .i64) (.cons (.int .u8) (.cons (.sl (.int .u8)) (.cons (.sl .bool) .nil))))))) := opens_sl Try.underlying22 (by kernel_rfl) opens33
theorem laidOut : laidOutB Try.prog = true := Facts.laidOut
set_option maxRecDepth 100000 in
theorem lifted (os : Os) (started : os.Started) (H : Type) (enc : TypeId × Value → H) :
    ReturnsInHanded {} Try.checked os 4 .any (Rows.diskPlaysSpec.pre6 enc Try.prog Try.f4 Rows.diskPlaysRow.domain false) (Rows.diskPlaysSpec.post enc Try.prog Try.f4 false true false false) := by
  refine returnsInHanded_of_change (C := Try.checked) own started (by kernel_rfl) Try.func4
    (ChangeSpec.witness6 (enc := enc) (C := Try.checked) false ⟨#[], #[.slice none 0 0, .int .i64 0, .slice none 0 0], []⟩ 8 (by kernel_rfl) (by kernel_rfl) (by kernel_rfl) (by kernel_rfl)) ?_
  intro W base args ds gs before hval0 hW hcnd _
  have hval : ∀ (j : Nat) t v, Try.f4.params[j]? = some t → args[j]? = some v → Value.okWide Try.prog W .any base t v := hval0
  have hW' := hW
  obtain ⟨p, q, hA0, hV, rfl, hfz, hnd⟩ := hW
  have hA : DataW.TrodAll enc Try.prog W 0 (fun _ => true) true Try.f4.params.toList args.toList ds p := hA0
  rw [Try.params4] at hA hval
  obtain ⟨v0, vs0, d0, ds0, p0, q0, hargs, rfl, rfl, h0, r0⟩ := trodAll_cons hA
  obtain ⟨v1, vs1, d1, ds1, p1, q1, rfl, rfl, rfl, h1, r1⟩ := trodAll_cons r0
  obtain ⟨v2, vs2, d2, ds2, p2, q2, rfl, rfl, rfl, h2, r2⟩ := trodAll_cons r1
  obtain ⟨rfl, rfl, rfl⟩ := trodAll_nil r2
  obtain rfl : args = #[v0, v1, v2] := by cases args; simp_all
  obtain ⟨rfl, rfl⟩ := trodVars_none hV
  have k0 := h0
  have lt0 : ∀ x ∈ p0, x.block < W.heap.size := by obtain ⟨m, hm⟩ := k0; exact DataW.trod_lt m _ _ _ hm
  obtain ⟨a0, len0, cap0, rfl⟩ := okWide_slice Try.underlying31 (hval 0 31 v0 rfl rfl)
  obtain ⟨z0, w0⟩ := open_bytes (H := H) (enc := enc) Try.underlying31 Try.underlying5 (by kernel_rfl) h0
  obtain ⟨a1, rfl, rfl, rfl, w1⟩ := open_int Try.underlying3 (hval 1 3 v1 rfl rfl) h1
  have k2 := h2
  have lt2 : ∀ x ∈ p2, x.block < W.heap.size := by obtain ⟨m, hm⟩ := k2; exact DataW.trod_lt m _ _ _ hm
  obtain ⟨a2, len2, cap2, rfl⟩ := okWide_slice Try.underlying22 (hval 2 22 v2 rfl rfl)
  have w2 : Rd W (.sl (.cons (.int .i64) (.cons (.int .i64) (.cons (.int .i64) (.cons (.int .u8) (.cons (.sl (.int .u8)) (.cons (.sl .bool) .nil))))))) [.slice a2 len2 cap2] := by obtain ⟨m, hm⟩ := h2; exact (opens22 H enc W m _ _ hm).1
  clear hA0 hval0
  refine (diskPlays W a0 len0 cap0 z0 a1 a2 len2 cap2 w0 w1 w2).mono fun e W' ⟨he, bel⟩ => ?_
  subst he
  exact ⟨_, rfl, _, _, _, [], _, [], hW', trodAll_mk1 (shut_bool Try.underlying4 _), (trodAll_cons_mk (Below.trod laidOut (by kernel_rfl) (of_decide_eq_true (by kernel_rfl)) k0 bel lt0) (trodAll_cons_mk (shut_int Try.underlying3 w1) (trodAll_cons_mk (Below.trod laidOut (by kernel_rfl) (of_decide_eq_true (by kernel_rfl)) k2 bel lt2) trodAll_mk0))), rfl, bel.frame _, fun h => by cases h⟩
theorem closed : joinedFacts Try.prog 4 Try.f4 Rows.diskPlaysSpec Rows.diskPlaysRow = true := by
  unfold joinedFacts
  rw [Facts.laidOut, Facts.mayEnter, Facts.lifts, Facts.make]
  kernel_rfl
theorem over : Rows.diskPlaysRow.holds Try.pinned (OpenSpec.ofChange Rows.diskPlaysSpec) :=
  OpenClaim.holds_of_wide 4 Try.f4 rfl rfl rfl rfl rfl rfl rfl ⟨rfl, rfl, rfl, rfl, rfl⟩ rfl rfl rfl rfl rfl (by kernel_rfl) Try.func4 closed
    (of_decide_eq_true (by kernel_rfl)) (by unfold Func.isWrapper; first | (rw [if_pos (by decide +kernel)]; kernel_rfl) | (rw [if_neg (by decide +kernel)]; exact ⟨rfl, rfl⟩))
    (fun os started H enc _ => lifted os started H enc)
theorem proved : Rows.DiskPlaysSaid := over
end Go.Proofs.Ytjijniillehfoaa.diskPlays
namespace Go.Proofs.Ytjijniillehfoaa
theorem diskPlays_holds : Rows.DiskPlaysSaid := diskPlays.proved
#print axioms diskPlays_holds
end Go.Proofs.Ytjijniillehfoaa
