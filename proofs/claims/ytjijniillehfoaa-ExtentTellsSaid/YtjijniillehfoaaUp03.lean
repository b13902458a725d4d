/- The example of layer 3's statements. -/
import Derived.Test.YtjijniillehfoaaArena3
namespace Go.Proofs.Ytjijniillehfoaa
open Go Go.RowKit Go.Own
set_option linter.unusedVariables false
theorem low258 : low 258 8 = [2, 1, 0, 0, 0, 0, 0, 0] := by decide
set_option maxHeartbeats 1000000 in
theorem up03 (w : World) : Calls Try.prog 40 #[] w fun e w' => e = .returned (.bool true) ∧ Below w.heap.size w w' := by
  go_enter Try.func40, Try.ntmps40
  go_wp2_with fail
  refine (arena_New_ok w 32 32 rfl 1024 1024 rfl (by decide) (by decide) (by decide) (by decide)).mono ?_
  rintro e w1 ⟨rfl, A1, b1⟩
  have s1 := b1.size
  go_wp2_with fail
  refine (arena_Grow_ok w1 _ _ _ A1 8 8 rfl (by decide)).mono ?_
  rintro e w2 ⟨v2, rfl, A2, k2, g2⟩
  have b2 : Below w.heap.size w w2 := b1.trans (k2.below s1 fun k hk hf => by
    rcases hf with rfl | hf
    · omega
    · cases hf)
  have hv2 : ∀ g, v2.ownBlock = some g → w.heap.size ≤ g := by
    intro g hg
    rcases g2 with e | e
    · rw [e] at hg; cases hg
    · rw [e] at hg; cases hg; exact s1
  have A2' := Lib.hid A2; have B2 := Lib.hid b2; have V2 := Lib.hid hv2
  clear A1 A2 b1 k2 g2 b2 hv2
  go_wp2_with fail
  refine (arena_SetWord_ok w2 _ _ _ A2'.out 32 0 rfl 258 258 rfl (by decide) (by decide)).mono ?_
  rintro e w3 ⟨rfl, A3, k3⟩
  have hb3 : lay (([] : List UInt8) ++ List.replicate 8 0) 0 (low 258 8) = [2, 1, 0, 0, 0, 0, 0, 0] := by decide
  simp only at A3
  rw [hb3] at A3
  have b3 := B2.out.trans (k3.below B2.out.size fun k hk hf => by have := V2.out k hf; omega)
  have A3' := Lib.hid A3; have B3 := Lib.hid b3
  clear A3 b3 k3 hb3 A2' B2
  go_wp2_with fail
  refine (arena_Load_ok w3 _ _ _ A3'.out 32 0 rfl 2 2 rfl (by decide)).mono ?_
  rintro e w4 ⟨v4, rfl, o4, b4⟩
  obtain ⟨a4, c4, rfl, _, hB4⟩ := Sl.of_owned o4
  have hB4 : Bs w4 a4 2 c4 [2, 1] := hB4
  have A4' := Lib.hid (A3'.out.below b4)
  have B4 := Lib.hid (B3.out.trans (b4.mono B3.out.size))
  clear o4 A3' B3 b4
  go_wp2_with fail
  refine (arena_Load_bad w4 _ _ _ A4'.out 33 8 (by decide) (by decide) (by decide) (by decide) (by decide)).mono ?_
  rintro e w5 ⟨rfl, b5⟩
  have hB5 := hB4.below b5
  have B5 := Lib.hid (B4.out.trans (b5.mono B4.out.size))
  have hs := run_s w5 hB5
  have hs2 := run_s (w5.alloc (.cells #[.int .u8 2, .int .u8 1] 5 (0, 0))) (show Bs _ (some ⟨w5.heap.size, 0, none⟩) 2 2 [2, 1] from Sl.lit w5 5 [.int .u8 2, .int .u8 1] 2 1 rfl (by decide))
  clear hB4 hB5 A4' B4 b5
  go_wp2_with fail
  refine (code_of _ 2 (by decide) (by decide)).mono ?_
  rintro e w' ⟨rfl, rfl⟩
  go_wp2_with fail
  refine (arena_New_bad _ 8 1024 (by decide) (by decide) (by decide)).mono ?_
  rintro e w' ⟨rfl, rfl⟩
  go_wp2
  go_ret
  exact ⟨rfl, B5.out.alloc B5.out.size _⟩
theorem bs_own {w w' : World} {n : Nat} {l : List UInt8} {v : Value} {B : Nat} (h : w.ownsRow B 5 1 v n (l.map bv)) : ∃ a c, v = .slice a n c ∧ (∀ p, a = some p → B ≤ p.block) ∧ Bs w a n c l := Sl.of_owned h
def lawOk (w : World) (e : Ending) (w' : World) : Prop := e = .returned (.bool true) ∧ Below w.heap.size w w'
end Go.Proofs.Ytjijniillehfoaa
