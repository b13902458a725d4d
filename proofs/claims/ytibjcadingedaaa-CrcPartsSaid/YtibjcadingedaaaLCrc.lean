import Derived.Test.YtibjcadingedaaaCrc
import Derived.Test.YtibjcadingedaaaLWord
import Derived.Lib.SlBytesConst
namespace Go.Proofs.Ytibjcadingedaaa
open Go Go.RowKit Go.Own
set_option linter.unusedVariables false
theorem crc_Sum (w : World) (a : Option Addr) (n c : Nat) (l : List UInt8) (h : Bs w a n c l) :
    Calls Try.prog 28 #[.slice a n c] w fun e w' => e = .returned (.int .u32 (crcSum l : Nat)) ∧ Below w.heap.size w w' := by
  have k := crc_More w 0 a n c l (by decide) h
  have K := Lib.hid k
  clear k h
  go_enter Try.func28, Try.ntmps28
  go_wp2_with fail
  refine K.out.mono ?_
  rintro e w' ⟨rfl, hb⟩
  go_wp2
  go_ret
  exact ⟨rfl, hb⟩
theorem sum_nine : crcSum [49, 50, 51, 52, 53, 54, 55, 56, 57] = 3421780262 := by kernel_rfl
theorem sum_nil : crcSum [] = 0 := by kernel_rfl
set_option maxHeartbeats 1000000 in
theorem up02 (w : World) : Calls Try.prog 27 #[] w fun e w' => e = .returned (.bool true) ∧ Below w.heap.size w w' := by
  have hs : Bs _ _ 9 9 [49, 50, 51, 52, 53, 54, 55, 56, 57] := Sl.litf w 5 (9, 10) [.int .u8 49, .int .u8 50, .int .u8 51, .int .u8 52, .int .u8 53, .int .u8 54, .int .u8 55, .int .u8 56, .int .u8 57] 9 1 rfl (by decide)
  have k := crc_Sum _ _ _ _ _ hs
  rw [sum_nine] at k
  have kc := fun (w : World) (C : Array Value) (n c : Nat) => Lib.run_convert_bytes_const (P := Try.prog) w 29 5 C n c Try.underlying29 Try.underlying5
  have K := Lib.hid k; clear k hs
  go_enter Try.func27, Try.ntmps27
  go_wp2_with fail
  refine K.out.mono ?_
  rintro e w1 ⟨rfl, hb⟩
  have HB := Lib.hid hb; clear hb
  have k := crc_Sum w1 none 0 0 [] (Bs.nil w1)
  rw [sum_nil] at k
  have K2 := Lib.hid k; clear k
  go_wp2_with fail
  refine K2.out.mono ?_
  rintro e w2 ⟨rfl, hb2⟩
  have hsz := HB.out.size
  simp at hsz
  go_wp2
  go_ret
  exact ⟨rfl, (((Below.refl w.heap.size w).alloc (Nat.le_refl _) _).trans (HB.out.mono (by simp))).trans (hb2.mono (by omega))⟩
set_option maxHeartbeats 2000000 in
theorem crcTells (w : World) (a : Option Addr) (n c : Nat) (l : List UInt8) (s : Int) (h : Bs w a n c l) (hs : (Lit.int .u32 s).wf = true) :
    Calls Try.prog 7 #[.slice a n c, .int .u32 s] w fun e w' => e = .returned (.bool true) ∧ Below w.heap.size w w' := by
  obtain ⟨s0, s1⟩ := wf_u32 hs
  obtain ⟨S, rfl⟩ : ∃ S : Nat, s = S := ⟨s.toNat, by omega⟩
  have hl := h.len
  subst hl
  have hcap := Sl.cap h
  have hroom := Sl.room h
  have H := Lib.hid h; clear h hs
  go_enter Try.func7, Try.ntmps7
  go_wp2_with fail
  with_reducible refine (up02 _).mono ?_; rintro e w1 ⟨rfl, hb⟩
  have H1 := Lib.hid (H.out.below hb); clear H
  by_cases hg : l.length > 30000
  · go_wp2
    go_ret
    exact ⟨rfl, hb⟩
  · have HB := Lib.hid hb; clear hb
    go_wp2_with fail
    with_reducible refine (crc_Sum _ _ _ _ _ H1.out).mono ?_; rintro e w2 ⟨rfl, hb⟩
    have H2 := Lib.hid (H1.out.below hb); have HB2 := Lib.hid (HB.out.trans (hb.mono HB.out.size)); clear hb H1 HB
    go_wp2_with fail
    with_reducible refine (ref_Sum _ _ _ _ _ H2.out).mono ?_; rintro e w3 ⟨rfl, rfl⟩
    go_wp2_with fail
    with_reducible refine (crc_More _ _ _ _ _ _ (by omega) H2.out).mono ?_; rintro e w3 ⟨rfl, hb⟩
    have H3 := Lib.hid (H2.out.below hb); have HB3 := Lib.hid (HB2.out.trans (hb.mono HB2.out.size)); clear hb H2 HB2
    go_wp2_with fail
    with_reducible refine (ref_More _ _ _ _ _ _ (by omega) H3.out).mono ?_; rintro e w4 ⟨rfl, rfl⟩
    go_wp2
    go_ret
    exact ⟨rfl, HB3.out⟩
end Go.Proofs.Ytibjcadingedaaa
