import Derived.Test.YtibjcadingedaaaSlot
namespace Go.Proofs.Ytibjcadingedaaa
open Go Go.RowKit Go.Own
set_option linter.unusedVariables false
theorem new_of_own {w w' : World} {l : List UInt8} {e : Ending} (h : OwnBs w l e w') : NewBs w l e w' := by
  obtain ⟨v, rfl, ho, hb⟩ := h
  obtain ⟨a, c, rfl, ha, hB⟩ := Sl.of_owned ho
  exact ⟨a, _, c, rfl, hB, ha, hb⟩
theorem low_new (w : World) (v : Int) (n : Int) (N : Nat) (hN : n = N) (h0 : 0 ≤ v) (h1 : v ≤ 18446744073709551615) (hn : N ≤ 8) :
    Calls Try.prog 25 #[.int .u64 v, .int .i64 n] w (NewBs w (low v.toNat N)) :=
  (ref_Low w v n N hN h0 h1 hn).mono fun _ _ h => new_of_own h
theorem ref_Four (w : World) (a : Option Addr) (n c : Nat) (l : List UInt8) (h : Bs w a n c l) :
    Calls Try.prog 64 #[.slice a n c] w (NewBs w (low (crcSum l) 4)) := by
  have hlt : crcSum l < 4294967296 := more_lt _ _
  have K := Lib.hid (ref_Sum w a n c l h)
  clear h
  generalize crcSum l = S at *
  have hw : IntKind.u64.wrap (S : Int) = S := wrapU64 (by omega) (by omega)
  go_enter Try.func64, Try.ntmps64
  go_wp2_with fail
  refine K.out.mono ?_
  rintro e w' ⟨rfl, rfl⟩
  go_wp2_with fail
  refine (low_new _ _ _ 4 rfl (by omega) (by omega) (by decide)).mono ?_
  rintro e w' ⟨a1, n1, c1, rfl, hB1, hn1, hb1⟩
  go_wp2_with fail
  go_ret
  exact ⟨_, _, _, rfl, hB1, hn1, hb1⟩
set_option maxHeartbeats 4000000 in
theorem ref_PutRec (w : World) (g len sum : Nat) (hg : g < 18446744073709551616) (hl : len < 18446744073709551616) (hs : sum < 4294967296) :
    Calls Try.prog 48 #[.agg #[.int .u64 g, .int .u64 len, .int .u32 sum]] w (NewBs w (recB g len sum)) := by
  by_cases hk : recOk g len = true
  · have hB := recB_some (sum := sum) hk
    obtain ⟨k1, k2, k3⟩ := (recOk_iff g len).1 hk
    have HB := Lib.hid hB
    clear hB hk
    have hwr : IntKind.u64.wrap (sum : Int) = sum := wrapU64 (by omega) (by omega)
    go_enter Try.func48, Try.ntmps48
    go_wp2_with fail
    have hx : Row (w.alloc (.cells #[.int .u64 g, .int .u64 len, .int .u32 sum] 66 (0, 0))) w.heap.size 66 [.int .u64 g, .int .u64 len, .int .u32 sum] := Row.made _ _ _
    have hb0 : Below w.heap.size w (w.alloc (.cells #[.int .u64 g, .int .u64 len, .int .u32 sum] 66 (0, 0))) := (Below.refl _ _).alloc (Nat.le_refl _) _
    have hsz : (w.alloc (.cells #[.int .u64 g, .int .u64 len, .int .u32 sum] 66 (0, 0))).heap.size = w.heap.size + 1 := by simp
    generalize w.alloc (.cells #[.int .u64 g, .int .u64 len, .int .u32 sum] 66 (0, 0)) = W0 at hx hb0 hsz ⊢
    have own0 := own_lit (w := W0) 5 (([83, 76, 79, 84, 0, 0, 0, 0] : List UInt8).map bv) (z := 1) (n := 8) (Nat.le_refl _) rfl (by decide)
    rw [hsz] at own0
    have s0 := hb0.size
    refine (low_new _ _ _ 8 rfl (by omega) (by omega) (by decide)).mono ?_
    rintro e w1 ⟨a1, n1, c1, rfl, hB1, hn1, hb1⟩
    have own1 := own_below own0 hb1
    have hx1 := (hx.alloc _).below hb1
    have hsz1 := hb1.size
    have b1 : Below w.heap.size w w1 := (hb0.alloc s0 _).trans (hb1.mono (by simp; omega))
    simp only [World.size_alloc, hsz] at hsz1
    clear hn1 hb1 hb0 hx own0
    go_wp2_with (at_builtin; first
      | (refine app_bl rfl (.tmp 18) (.tmp 21) rfl (w.heap.size + 1) _ _ rfl own1 _ _ _ _ rfl hB1 (by simp [low_length]) (by omega) ?_; intro v2 w2 own2 hb2; have hsz2 := hb2.size; have hx2 := hx1.under hb2 (by omega); have hc2 : w2.cell? ⟨w.heap.size, 1, none⟩ = some (.int .u64 len) := hx2.cell 1))
    refine (low_new _ _ _ 8 rfl (by omega) (by omega) (by decide)).mono ?_
    rintro e w3 ⟨a3, n3, c3, rfl, hB3, hn3, hb3⟩
    have own3 := own_below own2 hb3
    have hx3 := hx2.below hb3
    have hsz3 := hb3.size
    have b3 := (b1.trans (hb2.mono (by omega))).trans (hb3.mono (by omega))
    clear hn3 hb3 hb2 hx2 hx1 own1 own2 b1 hB1
    go_wp2_with (at_builtin; first
      | (refine app_bl rfl (.tmp 23) (.tmp 26) rfl (w.heap.size + 1) _ _ rfl own3 _ _ _ _ rfl hB3 (by simp [low_length]) (by omega) ?_; intro v4 w4 own4 hb4; have hsz4 := hb4.size; have hx4 := hx3.under hb4 (by omega); have hc4 : w4.cell? ⟨w.heap.size, 2, none⟩ = some (.int .u32 sum) := hx4.cell 2))
    refine (low_new _ _ _ 4 rfl (by omega) (by omega) (by decide)).mono ?_
    rintro e w5 ⟨a5, n5, c5, rfl, hB5, hn5, hb5⟩
    have own5 := own_below own4 hb5
    have hsz5 := hb5.size
    have b5 := (b3.trans (hb4.mono (by omega))).trans (hb5.mono (by omega))
    clear hn5 hb5 hb4 hx4 hx3 own3 own4 b3 hB3
    have he : [83, 76, 79, 84, 0, 0, 0, 0] ++ low (g : Int).toNat 8 ++ low (len : Int).toNat 8 ++ low (sum : Int).toNat 4 = recHead g len sum := by simp [recHead]
    have hlh := recHead_length g len sum
    generalize recHead g len sum = hd at *
    have hl5 : ([83, 76, 79, 84, 0, 0, 0, 0] ++ low (g : Int).toNat 8 ++ low (len : Int).toNat 8).length + (low (sum : Int).toNat 4).length ≤ 140737488355328 := by simp [low_length]
    go_wp2_with (at_builtin; first
      | (refine app_bl rfl (.tmp 28) (.tmp 32) rfl (w.heap.size + 1) _ _ rfl own5 _ _ _ _ rfl hB5 hl5 (by omega) ?_; intro v6 w6 own6 hb6; rw [he] at own6; replace own6 := ownsRow_map own6 hlh rfl; have hsz6 := hb6.size; obtain ⟨a6, c6, rfl, ha6, hB6⟩ := Sl.of_owned own6))
    have hB6 : Bs w6 a6 28 c6 hd := hB6
    refine (ref_Four _ _ _ _ _ hB6).mono ?_
    rintro e w7 ⟨a7, n7, c7, rfl, hB7, hn7, hb7⟩
    have own7 := own_below own6 hb7
    have hsz7 := hb7.size
    have b7 := (b5.trans (hb6.mono (by omega))).trans (hb7.mono (by omega))
    have hl11 : (sealed hd).length = 32 := by simp [sealed, low_length, hlh]
    have hs11 : hd ++ low (crcSum hd) 4 = sealed hd := rfl
    have hm11 : hd.length + (low (crcSum hd) 4).length ≤ 140737488355328 := by simp [low_length, hlh]
    clear hn7 hb7 hb6 own5 own6 b5 hB5 hl5 he hB6
    generalize low (crcSum hd) 4 = S4 at *
    generalize sealed hd = sd at *
    go_wp2_with (at_builtin; first
      | (refine app_bl rfl (.tmp 34) (.tmp 36) rfl (w.heap.size + 1) _ _ rfl (ownsRow_map own7 hlh.symm rfl) _ _ _ _ rfl hB7 hm11 (by omega) ?_; intro v8 w8 own8 hb8; rw [hs11] at own8; replace own8 := ownsRow_map own8 hl11 rfl; have hsz8 := hb8.size; obtain ⟨a8, c8, rfl, ha8, hB8⟩ := Sl.of_owned own8)
      | (refine app_bl_z rfl (.tmp 38) (.const (.int .i64 480)) rfl (w.heap.size + 1) _ sd rfl (ownsRow_map own8 hl11.symm rfl) _ 480 rfl rfl (by omega) (by omega) ?_; intro v12 w12 own12 hb12))
    go_ret
    obtain ⟨a12, c12, rfl, ha12, hB12⟩ := Sl.of_owned own12
    refine ⟨a12, _, c12, rfl, ?_, fun p hp => by have := ha12 p hp; omega, (b7.trans (hb8.mono (by omega))).trans (hb12.mono (by omega))⟩
    rw [HB.out]; exact hB12
  · have hB := recB_none g len sum (by simpa using hk)
    have hk' : ¬ (1 ≤ g ∧ g ≤ 4611686018427387904 ∧ len ≤ 65536) := fun h => hk ((recOk_iff g len).2 h)
    have HB := Lib.hid hB
    clear hB hk
    go_enter Try.func48, Try.ntmps48
    go_wp2_with fail
    all_goals first
      | (exfalso; omega)
      | (go_ret; exact ⟨_, _, _, rfl, by rw [HB.out]; exact Bs.nil _, fun p hp => (by cases hp), (Below.refl _ _).alloc (Nat.le_refl _) _⟩)
end Go.Proofs.Ytibjcadingedaaa
