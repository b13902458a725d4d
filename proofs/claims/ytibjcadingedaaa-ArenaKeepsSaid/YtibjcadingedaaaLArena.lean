import Derived.Test.YtibjcadingedaaaArena3
import Derived.Test.YtibjcadingedaaaWf
import Derived.Test.YtibjcadingedaaaPiece
namespace Go.Proofs.Ytibjcadingedaaa
open Go Go.RowKit Go.Own
set_option linter.unusedVariables false
theorem low258 : low 258 8 = [2, 1, 0, 0, 0, 0, 0, 0] := by decide
set_option maxHeartbeats 1000000 in
theorem up03 (w : World) : Calls Try.prog 37 #[] w fun e w' => e = .returned (.bool true) ∧ Below w.heap.size w w' := by
  go_enter Try.func37, Try.ntmps37
  go_wp2_with fail
  refine (arena_New_ok w 32 32 rfl 1024 1024 rfl (by decide) (by decide) (by decide) (by decide)).mono ?_
  rintro e w1 ⟨rfl, A1, b1⟩
  have s1 := b1.size
  go_wp2_with fail
  refine (arena_Grow_ok w1 _ _ _ A1 8 8 rfl (by decide)).mono ?_
  rintro e w2 ⟨v2, rfl, A2, k2, g2⟩
  have b2 : Below w.heap.size w w2 := b1.trans (k2.below s1 fun k hk hf => by
    rcases hf with rfl | hf
    · omega
    · cases hf)
  have hv2 : ∀ g, v2.ownBlock = some g → w.heap.size ≤ g := by
    intro g hg
    rcases g2 with e | e
    · rw [e] at hg; cases hg
    · rw [e] at hg; cases hg; exact s1
  have A2' := Lib.hid A2; have B2 := Lib.hid b2; have V2 := Lib.hid hv2
  clear A1 A2 b1 k2 g2 b2 hv2
  go_wp2_with fail
  refine (arena_SetWord_ok w2 _ _ _ A2'.out 32 0 rfl 258 258 rfl (by decide) (by decide)).mono ?_
  rintro e w3 ⟨rfl, A3, k3⟩
  have hb3 : lay (([] : List UInt8) ++ List.replicate 8 0) 0 (low 258 8) = [2, 1, 0, 0, 0, 0, 0, 0] := by decide
  simp only at A3
  rw [hb3] at A3
  have b3 := B2.out.trans (k3.below B2.out.size fun k hk hf => by have := V2.out k hf; omega)
  have A3' := Lib.hid A3; have B3 := Lib.hid b3
  clear A3 b3 k3 hb3 A2' B2
  go_wp2_with fail
  refine (arena_Load_ok w3 _ _ _ A3'.out 32 0 rfl 2 2 rfl (by decide)).mono ?_
  rintro e w4 ⟨v4, rfl, o4, b4⟩
  obtain ⟨a4, c4, rfl, _, hB4⟩ := Sl.of_owned o4
  have hB4 : Bs w4 a4 2 c4 [2, 1] := hB4
  have A4' := Lib.hid (A3'.out.below b4)
  have B4 := Lib.hid (B3.out.trans (b4.mono B3.out.size))
  clear o4 A3' B3 b4
  go_wp2_with fail
  refine (arena_Load_bad w4 _ _ _ A4'.out 33 8 (by decide) (by decide) (by decide) (by decide) (by decide)).mono ?_
  rintro e w5 ⟨rfl, b5⟩
  have hB5 := hB4.below b5
  have B5 := Lib.hid (B4.out.trans (b5.mono B4.out.size))
  have hs := run_s w5 hB5
  have hs2 := run_s (w5.alloc (.cells #[.int .u8 2, .int .u8 1] 5 (0, 0))) (show Bs _ (some ⟨w5.heap.size, 0, none⟩) 2 2 [2, 1] from Sl.lit w5 5 [.int .u8 2, .int .u8 1] 2 1 rfl (by decide))
  clear hB4 hB5 A4' B4 b5
  go_wp2_with fail
  refine (code_of _ 2 (by decide) (by decide)).mono ?_
  rintro e w' ⟨rfl, rfl⟩
  go_wp2_with fail
  refine (arena_New_bad _ 8 1024 (by decide) (by decide) (by decide)).mono ?_
  rintro e w' ⟨rfl, rfl⟩
  go_wp2
  go_ret
  exact ⟨rfl, B5.out.alloc B5.out.size _⟩
theorem bs_own {w w' : World} {n : Nat} {l : List UInt8} {v : Value} {B : Nat} (h : w.ownsRow B 5 1 v n (l.map bv)) : ∃ a c, v = .slice a n c ∧ (∀ p, a = some p → B ≤ p.block) ∧ Bs w a n c l := Sl.of_owned h
def lawOk (w : World) (e : Ending) (w' : World) : Prop := e = .returned (.bool true) ∧ Below w.heap.size w w'
set_option maxHeartbeats 4000000 in
set_option maxRecDepth 100000 in
theorem arenaKeeps (w : World) (base : Int) (a1 : Option Addr) (n1 c1 : Nat) (l : List UInt8) (addr : Int) (a2 : Option Addr) (n2 c2 : Nat) (b : List UInt8) (to : Int)
    (hb : (Lit.int .u64 base).wf = true) (h1 : Bs w a1 n1 c1 l) (ha : (Lit.int .u64 addr).wf = true) (h2 : Bs w a2 n2 c2 b) (ht : (Lit.int .u64 to).wf = true) :
    Calls Try.prog 12 #[.int .u64 base, .slice a1 n1 c1, .int .u64 addr, .slice a2 n2 c2, .int .u64 to] w (lawOk w) := by
  obtain ⟨b0, b1⟩ := wfU64 hb
  obtain ⟨d0, d1⟩ := wfU64 ha
  obtain ⟨t0, t1⟩ := wfU64 ht
  clear hb ha ht
  have hn1 := h1.len; have hn2 := h2.len
  subst hn1; subst hn2
  have r1 := Sl.room h1; have r2 := Sl.room h2; have p1 := Sl.cap h1; have p2 := Sl.cap h2
  have H1 := Lib.hid h1; have H2 := Lib.hid h2
  clear h1 h2
  obtain ⟨B, hB⟩ : ∃ B : Nat, base % 288230376151711744 * 16 = B := ⟨(base % 288230376151711744 * 16).toNat, by omega⟩
  have hB16 : B % 16 = 0 := by omega
  have hBle : B ≤ 4611686018427387904 := by omega
  have HB := Lib.hid hB
  clear hB
  go_enter Try.func12, Try.ntmps12
  go_wp2_with fail
  refine (up03 _).mono ?_
  rintro e w1 ⟨rfl, hb1⟩
  have B1 := Lib.hid hb1
  have S1 := hb1.size
  clear hb1
  go_wp2_with fail
  refine (law_Base _ base b0 b1).mono ?_
  rintro e w' ⟨rfl, rfl⟩
  rw [HB.out]
  by_cases hl : l.length > 1024
  · go_wp2
    go_ret
    exact ⟨rfl, B1.out⟩
  by_cases hl2 : b.length > 2000
  · go_wp2
    go_ret
    exact ⟨rfl, B1.out⟩
  go_wp2_with fail
  refine (law_Arena w1 _ B rfl 1024 1024 rfl hB16 hBle (by decide) (by decide) a1 _ c1 l (H1.out.below B1.out) (by omega)).mono ?_
  rintro e w2 ⟨p, v, rfl, hA2, hf2, hb2⟩
  have B2 := Lib.hid (B1.out.trans (hb2.mono B1.out.size))
  have A2 := Lib.hid hA2; have F2 := Lib.hid fun k hk => Nat.le_trans S1 (hf2 k hk)
  have L2 := Lib.hid (H1.out.below B2.out); have L3 := Lib.hid (H2.out.below B2.out)
  clear hA2 hf2 hb2 B1
  by_cases hin : (B : Int) ≤ addr ∧ addr - B + b.length ≤ l.length
  · obtain ⟨q1, q2⟩ := hin
    obtain ⟨i, hi⟩ : ∃ i : Nat, addr = B + i := ⟨(addr - B).toNat, by omega⟩
    subst hi
    have hib : i + b.length ≤ l.length := by omega
    have hll := lay_length l b i hib
    have hsub : (B : Int) + i - B = i := by omega
    have HSUB := Lib.hid hsub
    clear hsub
    go_wp2_with fail
    refine (arena_Store_ok w2 p _ v A2.out _ i rfl a2 _ c2 b L3.out hib).mono ?_
    rintro e w3 ⟨rfl, hA3, hk3⟩
    have hA3 : ArA w3 p ⟨B, 1024, lay l i b⟩ v := hA3
    have hb3 : Below w.heap.size w w3 := B2.out.trans (hk3.below B2.out.size fun k hk hf => by have := F2.out k (.inr hf); omega)
    have A3 := Lib.hid hA3; have B3 := Lib.hid hb3
    have L4 := Lib.hid (H1.out.below B3.out)
    have L5 := Lib.hid (H2.out.below B3.out)
    clear hA3 hb3 hk3 L2 L3 A2 B2
    go_wp2_with fail
    refine (law_Bytes w3 p _ v A3.out).mono ?_
    rintro e w4 ⟨v4, rfl, o4, b4⟩
    obtain ⟨a4, c4, rfl, _, hB4⟩ := bs_own (w' := w4) o4
    have hB4 : Bs w4 a4 (lay l i b).length c4 (lay l i b) := hB4
    rw [hll] at hB4
    rw [hll]
    have hc4 := Sl.cap hB4
    have hr4 := Sl.room hB4
    have L6 := L4.out.below b4; have L7 := L5.out.below b4
    have A4 := Lib.hid (A3.out.below b4)
    have B4 := Lib.hid (B3.out.trans (b4.mono B3.out.size))
    have ht5 : Try.prog.underlying 29 = some (.slice 5) := Try.underlying29
    have hs5 : (Try.prog.info? 5).map (·.size) = some 1 := by kernel_rfl
    obtain ⟨x1, y1, e1, z1, _⟩ := piece ht5 hs5 hB4 .i64 .i64 i (i + b.length) i (i + b.length) rfl (by simp) (by omega) hib
    obtain ⟨x2, y2, e2, z2, _⟩ := piece_to ht5 hs5 hB4 .i64 i i rfl (by omega)
    obtain ⟨x3, y3, e3, z3, _⟩ := piece_to ht5 hs5 L6 .i64 i i rfl (by omega)
    obtain ⟨x4, y4, e4, z4, _⟩ := piece_from ht5 hs5 hB4 .i64 (i + b.length) (i + b.length) (by simp) hib
    obtain ⟨x5, y5, e5, z5, _⟩ := piece_from ht5 hs5 L6 .i64 (i + b.length) (i + b.length) (by simp) hib
    have hp1 : ((lay l i b).take (i + b.length)).drop i = b := by
      have h1 : (l.take i).length = i := by rw [List.length_take]; omega
      unfold lay
      rw [List.take_append_of_le_length (by simp; omega), List.take_of_length_le (by simp; omega), List.drop_append_of_le_length (by omega), List.drop_of_length_le (by omega), List.nil_append]
    have hp2 : (lay l i b).take i = l.take i := by
      have h1 : (l.take i).length = i := by rw [List.length_take]; omega
      unfold lay
      rw [List.append_assoc, List.take_append_of_le_length (by omega), List.take_of_length_le (by omega)]
    have hp4 : (lay l i b).drop (i + b.length) = l.drop (i + b.length) := by
      have h1 : (l.take i ++ b).length = i + b.length := by rw [List.length_append, List.length_take]; omega
      unfold lay
      rw [List.drop_append_of_le_length (by omega), List.drop_of_length_le (by omega), List.nil_append]
    simp only [Nat.add_sub_cancel_left] at z1 e1
    rw [hp1] at z1; rw [hp2] at z2; rw [hp4] at z4
    have f1 := fun n => run_s (w4.drewN n) (z1.drewN n)
    have f2 := fun n => run_s (w4.drewN n) (z2.drewN n)
    have f3 := fun n => run_s (w4.drewN n) (z3.drewN n)
    have f4 := fun n => run_s (w4.drewN n) (z4.drewN n)
    have f5 := fun n => run_s (w4.drewN n) (z5.drewN n)
    have f6 := fun n => run_s (w4.drewN n) (L7.drewN n)
    have H6 := Lib.hid L6; have H7 := Lib.hid L7; have H4 := Lib.hid hB4
    have P1 := Lib.hid hp1
    have i1 : IntKind.i64.wrap ((i : Int) + b.length) = i + b.length := IntWalk.i64_in _ (by omega)
    clear L6 L7 hB4 z1 z2 z3 z4 z5 hp1 hp2 hp4 ht5 hs5 o4 b4 hll
    have hsub := HSUB.out
    go_wp2
    go_quiet (fail)
    clear f1 f2 f3 f4 f5 f6 e1 e2 e3 e4 e5 i1
    have A5 := Lib.hid (A4.out.drewN nq)
    have B5 := Lib.hid (below_drewN B4.out nq)
    generalize w4.drewN nq = w5 at *
    clear H4 H6 H7 A4 B4 L4 L5 A3 B3
    have hle : (lay l i b).length = l.length := lay_length l b i hib
    have HLE := Lib.hid hle
    clear hle
    by_cases hto : (B : Int) ≤ to ∧ to - B + b.length ≤ l.length
    · obtain ⟨j, hj⟩ : ∃ j : Nat, to = B + j := ⟨(to - B).toNat, by omega⟩
      subst hj
      have hjb : j + b.length ≤ l.length := by omega
      clear hto
      go_wp2_with fail
      refine (arena_Copy_ok w5 p _ v A5.out _ _ j i rfl rfl b.length b.length rfl (by show i + b.length ≤ (lay l i b).length; rw [HLE.out]; exact hib) (by show j + b.length ≤ (lay l i b).length; rw [HLE.out]; exact hjb)).mono ?_
      rintro e w6 ⟨rfl, hA6, hk6⟩
      have hpc : ((lay l i b).drop i).take b.length = b := by have hx := P1.out; rw [List.drop_take, Nat.add_sub_cancel_left] at hx; exact hx
      simp only at hA6
      rw [hpc] at hA6
      have hle6 : (lay (lay l i b) j b).length = l.length := by rw [lay_length _ _ _ (by rw [HLE.out]; exact hjb), HLE.out]
      have hpc6 : ((lay (lay l i b) j b).drop j).take b.length = b := by
        have hq : ((lay l i b).take j).length = j := by rw [List.length_take, HLE.out]; omega
        unfold lay at hq ⊢
        rw [List.append_assoc, List.drop_append_of_le_length (by rw [hq]; exact Nat.le_refl _), List.drop_of_length_le (by rw [hq]; exact Nat.le_refl _), List.nil_append, List.take_left]
      have A6 := Lib.hid hA6; have B6 := Lib.hid (B5.out.trans (hk6.below B5.out.size fun k hk hf => by have := F2.out k (.inr hf); omega))
      have HL6 := Lib.hid hle6; have HP6 := Lib.hid hpc6
      clear hA6 hk6 hpc hle6 hpc6
      go_wp2_with fail
      refine (arena_Load_ok w6 p _ v A6.out _ j rfl b.length b.length rfl (by show j + b.length ≤ (lay (lay l i b) j b).length; rw [HL6.out]; exact hjb)).mono ?_
      rintro e w7 ⟨v7, rfl, o7, b7⟩
      obtain ⟨a7, c7, rfl, _, hB7⟩ := bs_own (w' := w7) o7
      have hB7 : Bs w7 a7 _ c7 (List.take b.length (List.drop j (lay (lay l i b) j b))) := hB7
      rw [HP6.out] at hB7
      have B7 := Lib.hid (B6.out.trans (b7.mono B6.out.size))
      have g1 := fun n => run_s (w7.drewN n) (hB7.drewN n)
      have g2 := fun n => run_s (w7.drewN n) ((H2.out.below B7.out).drewN n)
      rw [HP6.out]
      clear o7 b7 hB7
      go_wp2
      go_quiet (fail)
      clear g1 g2
      go_wp2
      go_ret
      exact ⟨rB (by simp), below_drewN B7.out _⟩
    · go_wp2_with fail
      refine (arena_Copy_bad w5 p _ v A5.out to _ b.length t0 t1 (by omega) (by omega) (by omega) (by omega) (by show ¬ (_ ∧ (B : Int) ≤ to ∧ to - B + b.length ≤ ((lay l i b).length : Nat)); rw [HLE.out]; exact fun h => hto h.2)).mono ?_
      rintro e w' ⟨rfl, rfl⟩
      go_wp2_with fail
      refine (arena_Load_bad w5 p _ v A5.out to b.length t0 t1 (by omega) (by omega) (by show ¬ ((B : Int) ≤ to ∧ to - B + b.length ≤ ((lay l i b).length : Nat)); rw [HLE.out]; exact hto)).mono ?_
      rintro e w7 ⟨rfl, b7⟩
      have B7 := Lib.hid (B5.out.trans (b7.mono B5.out.size))
      clear b7 hto
      go_wp2
      go_quiet (fail)
      go_wp2
      go_ret
      exact ⟨rB (by simp), below_drewN B7.out _⟩
  · go_wp2_with fail
    refine (arena_Store_bad w2 p _ v A2.out addr a2 _ c2 b L3.out d0 d1 hin).mono ?_
    rintro e w' ⟨rfl, rfl⟩
    go_wp2_with fail
    refine (law_Bytes w2 p _ v A2.out).mono ?_
    rintro e w3 ⟨v3, rfl, o3, b3⟩
    obtain ⟨a3, c3, rfl, _, hB3⟩ := bs_own (w' := w3) o3
    have hB3 : Bs w3 a3 l.length c3 l := hB3
    have hs3 := run_s w3 hB3
    have hs4 := run_s w3 (L2.out.below b3)
    have B3 := Lib.hid (B2.out.trans (b3.mono B2.out.size))
    have hc3 := Sl.cap hB3
    have HS3 := Lib.hid hs3; have HS4 := Lib.hid hs4
    clear hB3 o3 b3
    by_cases k1 : addr < B
    · clear hin
      go_wp2
      go_ret
      exact ⟨rB (by simp), B3.out⟩
    · by_cases k2 : (l.length : Int) < addr - B
      · clear hin
        go_wp2
        go_ret
        exact ⟨rB (by simp), B3.out⟩
      · have k3 : (l.length : Int) - (addr - B) < b.length := by omega
        have k4 : decide ((b.length : Int) ≤ (l.length : Int) - (addr - B)) = false := by simp; omega
        clear hin
        go_wp2
        go_ret
        exact ⟨rB (by simp), B3.out⟩
end Go.Proofs.Ytibjcadingedaaa
