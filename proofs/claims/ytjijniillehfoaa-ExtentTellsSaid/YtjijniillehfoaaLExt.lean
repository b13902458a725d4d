/- The example of layer 5's statements. -/
import Derived.Test.YtjijniillehfoaaExt4
import Derived.Test.YtjijniillehfoaaExtQ
namespace Go.Own
open Go Go.RowKit
theorem St.bsV {B : Nat} {w0 w : World} {l : List Ob} {i : Nat} {e : TypeId} {a : Option Addr} {n c m : Nat} {b : List UInt8} (h : St B w0 w l) (hi : l[i]? = some (OwO e 1 (.slice a n c) m (b.map bv))) : Bs w a n c b := by
  obtain ⟨_, _, e, hb⟩ := h.bsOwn hi
  cases e; exact hb
end Go.Own
namespace Go.Proofs.Ytjijniillehfoaa
open Go Go.RowKit Go.Own
set_option linter.unusedVariables false
set_option maxRecDepth 100000
set_option maxHeartbeats 4000000 in
theorem up05 (w : World) : Calls Try.prog 48 #[] w fun e w' => e = .returned (.bool true) ∧ Below w.heap.size w w' := by
  have T0 := Lib.hid (St.start w)
  go_enter Try.func48, Try.ntmps48
  go_wp2_with fail
  have kc := dk_New T0.out 3 3 rfl (by decide) (by decide)
  with_reducible refine kc.mono ?_
  clear kc
  rintro e w1 ⟨q, rfl, t1⟩
  have hL3 : (zeroL 3).length = 3 := zeroL_len 3
  generalize zeroL 3 = L at *
  obtain ⟨g, W, hmk, t2⟩ := mk_st t1 (513 : Int) 513 rfl (by decide)
  have hz : (List.replicate 513 (0 : UInt8)).length = 513 := List.length_replicate ..
  generalize hz0 : List.replicate 513 (0 : UInt8) = z at *
  have kc := extent_Write t2 (i := 1) rfl 1 (by decide) (by decide) (some ⟨g, 0, none⟩) 513 513 z (fun w' D' h => h.bsV (i := 0) rfl) (by show 0 ≤ 500000; decide) (by rw [hz]; decide)
  have hs2 : 2 = secsN z.length := by rw [hz]; decide
  rw [show Dk.out ⟨L, [], false, -1⟩ 1 z = (0, ⟨L, [] ++ outW 1 2 z, false, -1⟩) from Dk.out_on (D := ⟨L, [], false, -1⟩) ⟨rfl, rfl⟩ 1 z 2 hs2 (by show 1 + 2 ≤ L.length; omega), errN_0] at kc
  have HS2 := Lib.hid hs2; have HZ := Lib.hid hz
  clear t1 t2 T0 hs2 hz
  go_wp2_with fail
  with_reducible refine kc.mono ?_
  clear kc
  rintro e w3 ⟨rfl, t3⟩
  have t3 := t3.tail
  obtain ⟨g3, W3, hmk3, t4⟩ := mk_st t3 (513 : Int) 513 rfl (by decide)
  rw [hz0] at t4
  clear hz0
  have kc := extent_Write t4 (i := 1) rfl 2 (by decide) (by decide) (some ⟨g3, 0, none⟩) 513 513 z (fun w' D' h => h.bsV (i := 0) rfl) (by show (([] : List (Nat × List UInt8)) ++ outW 1 2 z).length ≤ 500000; rw [List.nil_append, outW_len]; decide) (by rw [HZ.out]; decide)
  rw [Dk.out_no _ 2 z (by show ¬ (0 ≤ 2 ∧ 2 + ((secsN z.length : Nat) : Int) ≤ (L.length : Nat)); have := HS2.out; omega), errN_pos (show (1 : Int) ≠ 0 by decide)] at kc
  go_wp2_with fail
  with_reducible refine kc.mono ?_
  clear kc
  rintro e w5 ⟨rfl, t5⟩
  have t5 := t5.tail
  go_wp2_with fail
  have kc := dk_Waiting t5 (i := 0) rfl
  rw [show (({ L := L, wait := [] ++ outW 1 2 z, off := false, left := -1 } : Dk).wait.length) = 2 from by rw [List.nil_append, outW_len]] at kc
  with_reducible refine kc.mono ?_
  clear kc
  rintro e w' ⟨rfl, rfl⟩
  go_wp2_with fail
  with_reducible refine (code_of _ 1 (by decide) (by decide)).mono ?_
  rintro e w' ⟨rfl, rfl⟩
  have B5 := Lib.hid t5.end
  go_wp2
  go_ret
  exact ⟨rfl, B5.out⟩
end Go.Proofs.Ytjijniillehfoaa
