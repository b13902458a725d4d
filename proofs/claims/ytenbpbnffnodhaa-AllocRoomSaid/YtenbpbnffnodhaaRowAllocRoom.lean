/- The row of 'AllocRoom', out of its walk. No condition of ours. -/
import Derived.Test.YtenbpbnffnodhaaMgAllocRoom1
import Derived.Test.YtenbpbnffnodhaaMgAllocPlays1
import Derived.Test.YtenbpbnffnodhaaMgAllocPlays2
import Derived.Test.YtenbpbnffnodhaaMgAllocPlays3
import Derived.Test.YtenbpbnffnodhaaMgAllocPlays4
import Derived.Test.YtenbpbnffnodhaaMgAllocPlays5
import Derived.Test.YtenbpbnffnodhaaMgAllocPlays6
import Derived.Test.YtenbpbnffnodhaaMgAllocPlays7
import Derived.Test.YtenbpbnffnodhaaMgAllocPlays8
import Derived.Test.YtenbpbnffnodhaaMgAllocPlays9
import Derived.Test.YtenbpbnffnodhaaMgAllocPlays10
import Derived.Test.YtenbpbnffnodhaaMgAllocPlays11
import Derived.Test.YtenbpbnffnodhaaMgAllocPlays12
import Derived.Test.YtenbpbnffnodhaaMgAllocPlays13
import Derived.Test.YtenbpbnffnodhaaMgAllocPlays14
import Derived.Test.YtenbpbnffnodhaaMgAllocPlays15
import Derived.Test.YtenbpbnffnodhaaMgAllocPlays16
import Derived.Test.YtenbpbnffnodhaaMgAllocPlays17
import Derived.Test.YtenbpbnffnodhaaMgAllocPlays18
import Derived.Test.YtenbpbnffnodhaaMgAllocPlays19
import Derived.Test.YtenbpbnffnodhaaMgAllocPlays20
import Derived.Test.YtenbpbnffnodhaaMgAllocPlays21
import Derived.Test.YtenbpbnffnodhaaMgAllocPlays22
import Derived.Test.YtenbpbnffnodhaaMgAllocPlays23
import Derived.Test.YtenbpbnffnodhaaRows
import Derived.ProofKit
import Derived.OpenShut
import Derived.ChangeOld
import Derived.Below
import Derived.SizedLaws
namespace Go.Proofs.Ytenbpbnffnodhaa.allocRoom
open Go.ChangeShapes Go.WideShapes Go.ChangeAt Go.RowKit Go.Own
set_option linter.unusedVariables false
theorem own : ownKnob Try.prog.godebug = none := by kernel_rfl
theorem opens4 : Opens Try.prog 4 .bool := opens_bool Try.underlying4
theorem opens3 : Opens Try.prog 3 (.int .i64) := opens_int Try.underlying3
theorem opens145 : Opens Try.prog 145 (.cons (.int .i64) (.cons (.int .i64) (.cons (.int .i64) (.cons .bool .nil)))) := opens_st Try.underlying145 (by kernel_rfl) (openF_cons rfl (by kernel_rfl) opens3 (openF_cons rfl (by kernel_rfl) opens3 (openF_cons rfl (by kernel_rfl) opens3 (openF_cons rfl (by kernel_rfl) opens4 openF_nil))))
theorem opens141 : Opens Try.prog 141 (.sl (.cons (.int .i64) (.cons (.int .i64) (.cons (.int .i64) (.cons .bool .nil))))) := opens_sl Try.underlying141 (by kernel_rfl) opens145
theorem laidOut : laidOutB Try.prog = true := Facts.laidOut
set_option maxRecDepth 100000 in
theorem lifted (os : Os) (started : os.Started) (H : Type) (enc : TypeId × Value → H) :
    ReturnsInHanded {} Try.checked os 21 .any (Rows.allocRoomSpec.pre6 enc Try.prog Try.f21 Rows.allocRoomRow.domain false) (Rows.allocRoomSpec.post enc Try.prog Try.f21 false true false false) := by
  refine returnsInHanded_of_change (C := Try.checked) own started (by kernel_rfl) Try.func21
    (ChangeSpec.witness6 (enc := enc) (C := Try.checked) false ⟨#[], #[.int .i64 0, .slice none 0 0, .int .i64 0], []⟩ 8 (by kernel_rfl) (by kernel_rfl) (by kernel_rfl) (by kernel_rfl)) ?_
  intro W base args ds gs before hval0 hW hcnd _
  have hval : ∀ (j : Nat) t v, Try.f21.params[j]? = some t → args[j]? = some v → Value.okWide Try.prog W .any base t v := hval0
  have hW' := hW
  obtain ⟨p, q, hA0, hV, rfl, hfz, hnd⟩ := hW
  have hA : DataW.TrodAll enc Try.prog W 0 (fun _ => true) true Try.f21.params.toList args.toList ds p := hA0
  rw [Try.params21] at hA hval
  obtain ⟨v0, vs0, d0, ds0, p0, q0, hargs, rfl, rfl, h0, r0⟩ := trodAll_cons hA
  obtain ⟨v1, vs1, d1, ds1, p1, q1, rfl, rfl, rfl, h1, r1⟩ := trodAll_cons r0
  obtain ⟨v2, vs2, d2, ds2, p2, q2, rfl, rfl, rfl, h2, r2⟩ := trodAll_cons r1
  obtain ⟨rfl, rfl, rfl⟩ := trodAll_nil r2
  obtain rfl : args = #[v0, v1, v2] := by cases args; simp_all
  obtain ⟨rfl, rfl⟩ := trodVars_none hV
  obtain ⟨a0, rfl, rfl, rfl, w0⟩ := open_int Try.underlying3 (hval 0 3 v0 rfl rfl) h0
  have k1 := h1
  have lt1 : ∀ x ∈ p1, x.block < W.heap.size := by obtain ⟨m, hm⟩ := k1; exact DataW.trod_lt m _ _ _ hm
  obtain ⟨a1, len1, cap1, rfl⟩ := okWide_slice Try.underlying141 (hval 1 141 v1 rfl rfl)
  have w1 : Rd W (.sl (.cons (.int .i64) (.cons (.int .i64) (.cons (.int .i64) (.cons .bool .nil))))) [.slice a1 len1 cap1] := by obtain ⟨m, hm⟩ := h1; exact (opens141 H enc W m _ _ hm).1
  obtain ⟨a2, rfl, rfl, rfl, w2⟩ := open_int Try.underlying3 (hval 2 3 v2 rfl rfl) h2
  clear hA0 hval0
  refine (allocRoom W a0 a1 len1 cap1 a2 w0 w1 w2).mono fun e W' ⟨he, bel⟩ => ?_
  subst he
  exact ⟨_, rfl, _, _, _, [], _, [], hW', trodAll_mk1 (shut_bool Try.underlying4 _), (trodAll_cons_mk (shut_int Try.underlying3 w0) (trodAll_cons_mk (Below.trod laidOut (by kernel_rfl) (of_decide_eq_true (by kernel_rfl)) k1 bel lt1) (trodAll_cons_mk (shut_int Try.underlying3 w2) trodAll_mk0))), rfl, bel.frame _, fun h => by cases h⟩
theorem closed : joinedFacts Try.prog 21 Try.f21 Rows.allocRoomSpec Rows.allocRoomRow = true := by
  unfold joinedFacts
  rw [Facts.laidOut, Facts.mayEnter, Facts.lifts, Facts.make]
  kernel_rfl
theorem over : Rows.allocRoomRow.holds Try.pinned (OpenSpec.ofChange Rows.allocRoomSpec) :=
  OpenClaim.holds_of_wide 21 Try.f21 rfl rfl rfl rfl rfl rfl rfl ⟨rfl, rfl, rfl, rfl, rfl⟩ rfl rfl rfl rfl rfl (by kernel_rfl) Try.func21 closed
    (of_decide_eq_true (by kernel_rfl)) (by unfold Func.isWrapper; first | (rw [if_pos (by decide +kernel)]; kernel_rfl) | (rw [if_neg (by decide +kernel)]; exact ⟨rfl, rfl⟩))
    (fun os started H enc _ => lifted os started H enc)
theorem proved : Rows.AllocRoomSaid := over
end Go.Proofs.Ytenbpbnffnodhaa.allocRoom
namespace Go.Proofs.Ytenbpbnffnodhaa
theorem allocRoom_holds : Rows.AllocRoomSaid := allocRoom.proved
#print axioms allocRoom_holds
end Go.Proofs.Ytenbpbnffnodhaa
