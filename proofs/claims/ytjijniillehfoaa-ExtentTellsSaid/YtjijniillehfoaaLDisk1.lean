import Derived.Test.YtjijniillehfoaaDisk3
import Derived.Test.YtjijniillehfoaaLaw0
namespace Go.Proofs.Ytjijniillehfoaa
open Go Go.RowKit Go.Own
set_option linter.unusedVariables false
set_option maxRecDepth 100000
def secOf (x : UInt8) : List UInt8 := List.replicate 512 x
theorem secOf_len (x : UInt8) : (secOf x).length = 512 := List.length_replicate ..
set_option maxHeartbeats 1000000 in
theorem law_Sector (w : World) (x : UInt8) :
    Calls Try.prog 30 #[.int .u8 (x.toNat : Nat)] w (BytesOk (secOf x) w) := by
  obtain ⟨N, hN⟩ : ∃ N, N = 512 := ⟨_, rfl⟩
  have hmk := fun w => run_mk1 (P := Try.prog) 31 5 _ _ Try.underlying31 info_u8 rfl 512 N (by omega) (by omega) (by omega) w
  have hfin : List.replicate N x = secOf x := by rw [hN]; rfl
  have HF := Lib.hid hfin
  have hNle : N ≤ 512 := by omega
  have hNge : 512 ≤ N := by omega
  have h0 := Row.made w 5 (List.replicate N (.int .u8 0))
  have H0 := Lib.hid h0; have HN := Lib.hid hN
  clear hfin h0 hN
  go_enter Try.func30, Try.ntmps30
  go_wp2
  go_loopw [4] (fun i wr => ∃ k : Nat, k ≤ N ∧ i = .int .i64 k ∧ Row wr w.heap.size 5 (List.replicate k (bv x) ++ List.replicate (N - k) (.int .u8 0)) ∧ Below w.heap.size w wr) (fun i _ => N - (intOf i).toNat)
  case atStart => exact ⟨0, Nat.zero_le _, rfl, by simpa using H0.out, (Below.refl _ _).alloc (Nat.le_refl _) _⟩
  case round =>
    obtain ⟨k, hk, rfl, hrow, hb⟩ := hrel
    by_cases hlt : k < N
    · have hl : (List.replicate k (bv x)).length = k := List.length_replicate ..
      have hc : wr.cell? ⟨w.heap.size, k, none⟩ = some (.int .u8 0) := by
        rw [hrow.cell, List.getElem?_append_right (by omega), hl, Nat.sub_self, List.getElem?_replicate, if_pos (by omega)]
      have hf := hrow.frozen k
      have hr2 := hrow.set k (bv x)
      have hb2 := hb.setCell (p := ⟨w.heap.size, k, none⟩) (Nat.le_refl _) (bv x)
      have hset : (List.replicate k (bv x) ++ List.replicate (N - k) (Value.int .u8 0)).set k (bv x) = List.replicate (k + 1) (bv x) ++ List.replicate (N - (k + 1)) (.int .u8 0) := by
        rw [List.set_append_right _ _ (by omega), hl, Nat.sub_self, show N - k = (N - (k + 1)) + 1 by omega, List.replicate_succ, List.set_cons_zero, List.replicate_succ' , List.append_assoc]; rfl
      rw [hset] at hr2
      unfold bv at hr2 hb2
      have HR := Lib.hid hr2; have HB := Lib.hid hb2
      clear hr2 hb2 hset hl hrow hb
      go_wp2
      exact ⟨⟨k + 1, by omega, by go_num, HR.out, HB.out⟩, by simp [intOf]; omega⟩
    · obtain rfl : k = N := by omega
      go_wp2
      go_ret
      refine ⟨.slice (some ⟨w.heap.size, 0, none⟩) k k, rfl, ownsRow_map (n := k) (l := List.replicate k (bv x)) ⟨by simp, .inr ⟨w.heap.size, k, _, rfl, Nat.le_refl _, hrow, Nat.le_refl _, (by unfold maxLen; omega), by simp, by simp⟩⟩ (by rw [secOf_len]; exact HN.out) (by rw [← HF.out]; simp), hb⟩
end Go.Proofs.Ytjijniillehfoaa
