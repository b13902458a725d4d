import Derived.Test.YtibjcadingedaaaWord2
import Derived.Test.YtibjcadingedaaaCrcP
namespace Go.Proofs.Ytibjcadingedaaa
open Go Go.RowKit Go.Own
set_option linter.unusedVariables false
set_option maxHeartbeats 1000000 in
theorem ref_Take (w : World) (r x : Nat) (hr : r < 4294967296) (hx : x < 256) :
    Calls Try.prog 53 #[.int .u32 r, .int .u8 x] w fun e w' => e = .returned (.int .u32 (crcTake r x : Nat)) ∧ w = w' := by
  have hw := wrapU32 (n := (x : Int)) (by omega) (by omega)
  have hxor := u32_xor_nat r x hr (by omega)
  have hlt := lt_xor hr (show x < 4294967296 by omega)
  have HT := Lib.hid (show crcTake r x = crcN 8 (r ^^^ x) from rfl)
  generalize r ^^^ x = q at hxor hlt HT
  go_enter Try.func53, Try.ntmps53
  go_wp2
  go_loop [0, 5] (fun v i => ∃ k y : Nat, k ≤ 8 ∧ i = .int .i64 k ∧ v = .int .u32 y ∧ y = crcN k q) (fun _ i => 8 - (intOf i).toNat)
  case atStart => exact ⟨0, q, by omega, rfl, rfl, rfl⟩
  case round =>
    obtain ⟨k, y, hk, rfl, rfl, hy⟩ := hrel
    have hyl : y < 4294967296 := by rw [hy]; exact crcN_lt k hlt
    by_cases hlt8 : k < 8
    · have hs : crcN (k + 1) q = crcStep y := by rw [hy, crcN_snoc]
      have HS := Lib.hid hs
      clear hs hy
      have hh := u32_xor_nat (y / 2) 3988292384 (by omega) (by decide)
      have HH := Lib.hid hh; clear hh
      by_cases hp : y % 2 = 1
      · have hst : crcStep y = (y / 2) ^^^ 3988292384 := by unfold crcStep; rw [if_pos hp]
        have HST := Lib.hid hst
        clear hst
        go_wp2
        exact ⟨⟨k + 1, _, by omega, by go_num, vI (by simpa using HH.out), by rw [HS.out, HST.out]⟩, by simp [intOf]; omega⟩
      · have hst : crcStep y = y / 2 := by unfold crcStep; rw [if_neg hp]
        have HST := Lib.hid hst
        clear hst
        go_wp2
        exact ⟨⟨k + 1, y / 2, by omega, by go_num, vI (by simp), by rw [HS.out, HST.out]⟩, by simp [intOf]; omega⟩
    · obtain rfl : k = 8 := by omega
      go_wp2
      go_ret
      subst hy
      exact ⟨rI (by rw [HT.out]), rfl⟩

set_option maxHeartbeats 1000000 in
theorem ref_More (w : World) (s : Nat) (a : Option Addr) (n c : Nat) (l : List UInt8) (hs : s < 4294967296) (h : Bs w a n c l) :
    Calls Try.prog 31 #[.int .u32 s, .slice a n c] w fun e w' => e = .returned (.int .u32 (crcMore s l : Nat)) ∧ w = w' := by
  have hl := h.len
  subst hl
  have hc := Sl.cap h; have hr := Sl.room h; have hcell := h.at
  clear h
  have HC := Lib.hid hcell; clear hcell
  go_enter Try.func31, Try.ntmps31
  go_wp2
  go_loop [5, 6] (fun v i => ∃ k y : Nat, k ≤ l.length ∧ i = .int .i64 k ∧ v = .int .u32 y ∧ y < 4294967296 ∧ y = crcReg (4294967295 - s) (l.take k)) (fun _ i => l.length - (intOf i).toNat)
  case atStart => exact ⟨0, 4294967295 - s, by omega, rfl, vI (by omega), by omega, rfl⟩
  case round =>
    obtain ⟨k, y, hk, rfl, rfl, hy, he⟩ := hrel
    by_cases hlt : k < l.length
    · have hs := reg_snoc (4294967295 - s) l k hlt
      rw [← he] at hs
      have HS := Lib.hid hs
      obtain ⟨b, o, rfl, hx⟩ := HC.out k hlt
      have hb := l[k].toNat_lt
      have hty := take_lt (r := y) (x := l[k].toNat) hy hb
      clear hs he
      go_wp2_with fail
      with_reducible refine (ref_Take _ _ _ hy hb).mono ?_
      rintro e w' ⟨rfl, rfl⟩
      go_wp2
      exact ⟨⟨k + 1, _, by omega, by go_num, rfl, hty, HS.out.symm⟩, by simp [intOf]; omega⟩
    · obtain rfl : k = l.length := by omega
      rw [List.take_length] at he
      have HE := Lib.hid he; clear he
      go_wp2
      go_ret
      exact ⟨rI (by rw [crcMore, ← HE.out]; omega), rfl⟩
theorem ref_Sum (w : World) (a : Option Addr) (n c : Nat) (l : List UInt8) (h : Bs w a n c l) :
    Calls Try.prog 29 #[.slice a n c] w fun e w' => e = .returned (.int .u32 (crcSum l : Nat)) ∧ w = w' := by
  have k := ref_More w 0 a n c l (by decide) h
  have K := Lib.hid k
  clear k h
  go_enter Try.func29, Try.ntmps29
  go_wp2_with fail
  refine K.out.mono ?_
  rintro e w' ⟨rfl, rfl⟩
  go_wp2
  go_ret
  exact ⟨rfl, rfl⟩

/-- The table's entries, as cells. -/
def tabV (i : Nat) : Value := .int .u32 (crcN 8 i : Nat)
def tabL (n : Nat) : List Value := (List.range n).map tabV
theorem info_tab : Info Try.prog 76 (.agg (List.replicate 256 (Value.int .u32 0)).toArray) 256 1024 := by unfold Info; kernel_rfl
theorem size_tab : (Try.prog.info? 76).map (·.size) = some 256 := by kernel_rfl
theorem tabL_length (n : Nat) : (tabL n).length = n := by simp [tabL]
theorem tabL_one (n : Nat) : ∀ u ∈ tabL n, u.oneCell' = true := by
  intro u hu; obtain ⟨x, _, rfl⟩ := List.mem_map.1 hu; rfl
def zer (n : Nat) : List Value := List.replicate n (.int .u32 0)
theorem zer_length (n : Nat) : (zer n).length = n := by simp [zer]
theorem tab_set (k : Nat) (hk : k < 256) : (tabL k ++ zer (256 - k)).set k (tabV k) = tabL (k + 1) ++ zer (256 - (k + 1)) := by
  rw [List.set_append_right _ _ (by rw [tabL_length]; omega), tabL_length, Nat.sub_self]
  unfold zer tabL
  rw [show 256 - k = (256 - (k + 1)) + 1 by omega, List.replicate_succ, List.set_cons_zero, List.range_succ, List.map_append]; simp
theorem and_odd (y : Nat) (h : y < 4294967296) (p : y % 2 = 1) : bits .and .u32 (y : Int) 1 = 1 := by
  have := u32_and_nat y 1 h (by decide)
  rw [nat_mask1, p] at this; simpa using this
theorem and_even (y : Nat) (h : y < 4294967296) (p : y % 2 = 0) : bits .and .u32 (y : Int) 1 = 0 := by
  have := u32_and_nat y 1 h (by decide)
  rw [nat_mask1, p] at this; simpa using this
theorem and_all : bits .and .u32 4294967295 3988292384 = 3988292384 := by kernel_rfl
theorem and_none : bits .and .u32 0 3988292384 = 0 := by kernel_rfl
theorem xor_none (d : Nat) (h : d < 4294967296) : bits .xor .u32 (d : Int) 0 = d := by
  have := u32_xor_nat d 0 h (by decide)
  simpa using this
set_option maxRecDepth 100000 in
set_option maxHeartbeats 4000000 in
theorem crc_table (w : World) :
    Calls Try.prog 52 #[] w fun e w' => e = .returned (.agg (tabL 256).toArray) ∧ Below w.heap.size w w' := by
  go_enter Try.func52, Try.ntmps52
  go_wp2_with (first
    | (refine alloc_row rfl 76 rfl _ _ _ info_tab (zer 256) rfl ?_))
  have r0 : Row (w.alloc (.cells (zer 256).toArray 76 (0, 0))) w.heap.size 76 (zer 256) := Row.made _ _ _
  have r1 : Row ((w.alloc (.cells (zer 256).toArray 76 (0, 0))).alloc (.cells (zer 256).toArray 76 (0, 0))) (w.heap.size + 1) 76 (zer 256) := by
    have := Row.made (w.alloc (.cells (zer 256).toArray 76 (0, 0))) 76 (zer 256)
    simpa using this
  have hb := ((Below.refl w.heap.size w).alloc (Nat.le_refl _) (.cells (zer 256).toArray 76 (0, 0))).alloc (by simp) (.cells (zer 256).toArray 76 (0, 0))
  have R0 := Lib.hid (r0.alloc (.cells (zer 256).toArray 76 (0, 0))); have R1 := Lib.hid r1; have HB := Lib.hid hb
  clear r0 r1 hb
  go_loopw [5] (fun i wr => ∃ k : Nat, k ≤ 256 ∧ i = .int .i64 k ∧ Row wr w.heap.size 76 (zer 256) ∧ Row wr (w.heap.size + 1) 76 (tabL k ++ zer (256 - k)) ∧ Below w.heap.size w wr) (fun i _ => 256 - (intOf i).toNat)
  case atStart => exact ⟨0, by omega, rfl, R0.out, by simpa [tabL] using R1.out, HB.out⟩
  case round =>
    clear R0 R1 HB
    obtain ⟨k, hk, rfl, h0, h1, hb⟩ := hrel
    by_cases hlt : k < 256
    · have hc : wr.cell? ⟨w.heap.size + 1, k, none⟩ = some (.int .u32 0) := by
        rw [h1.cell, List.getElem?_append_right (by rw [tabL_length]; omega), tabL_length, Nat.sub_self]
        unfold zer; rw [List.getElem?_replicate, if_pos (by omega)]
      have hf := h1.frozen k
      have h2 := h1.set k (tabV k)
      rw [tab_set k hlt] at h2
      have h3 := hb.setCell (p := ⟨w.heap.size + 1, k, none⟩) (Nat.le_succ _) (tabV k)
      have h4 : Row (wr.setCell ⟨w.heap.size + 1, k, none⟩ (tabV k)) w.heap.size 76 (zer 256) :=
        h0.keep (F := (· = w.heap.size + 1)) ((Keep.refl (· = w.heap.size + 1) wr).setCell (p := ⟨w.heap.size + 1, k, none⟩) (.inl rfl) _) (by omega)
      have H2 := Lib.hid h2; have H3 := Lib.hid h3; have H4 := Lib.hid h4
      clear h2 h3 h4 h0 h1 hb
      obtain ⟨wo, rfl⟩ : ∃ wo : World, wo = wr := ⟨_, rfl⟩
      go_wp2
      go_loop [3, 10] (fun v j => ∃ m y : Nat, m ≤ 8 ∧ j = .int .i64 m ∧ v = .int .u32 y ∧ y < 4294967296 ∧ y = crcN m k) (fun _ j => 8 - (intOf j).toNat)
      case atStart => exact ⟨0, k, by omega, rfl, rfl, by omega, rfl⟩
      case round =>
        obtain ⟨m, y, hm, rfl, rfl, hyl, hy⟩ := hrel
        by_cases hlt8 : m < 8
        · have hs : crcN (m + 1) k = crcStep y := by rw [hy, crcN_snoc]
          have HS := Lib.hid hs
          clear hs hy
          have hh := u32_xor_nat (y / 2) 3988292384 (by omega) (by decide)
          have hx0 := xor_none (y / 2) (by omega)
          have HH := Lib.hid hh; have HX := Lib.hid hx0; clear hh hx0
          by_cases hp : y % 2 = 1
          · have hst : crcStep y = (y / 2) ^^^ 3988292384 := by unfold crcStep; rw [if_pos hp]
            have hl2 := step_lt hyl
            rw [hst] at hl2
            have HST := Lib.hid hst; have HL := Lib.hid hl2
            have ho := and_odd y hyl hp
            have hall := and_all
            clear hst hl2 hp
            go_wp2
            exact ⟨⟨m + 1, _, by omega, by go_num, vI (by simpa using HH.out), HL.out, by rw [HS.out, HST.out]⟩, by simp [intOf]; omega⟩
          · have hst : crcStep y = y / 2 := by unfold crcStep; rw [if_neg hp]
            have HST := Lib.hid hst
            have ho := and_even y hyl (by omega)
            have hall := and_none
            clear hst hp
            go_wp2
            exact ⟨⟨m + 1, y / 2, by omega, by go_num, vI (by simpa using HX.out), by omega, by rw [HS.out, HST.out]⟩, by simp [intOf]; omega⟩
        · obtain rfl : m = 8 := by omega
          subst hy
          go_wp2
          exact ⟨⟨k + 1, by omega, by go_num, H4.out, H2.out, H3.out⟩, by simp [intOf]; omega⟩
    · obtain rfl : k = 256 := by omega
      have h2 : Row wr (w.heap.size + 1) 76 (tabL 256) := by simpa [zer] using h1
      have H0 := Lib.hid h0; have H2 := Lib.hid h2; have HB := Lib.hid hb
      clear h0 h1 h2 hb
      go_wp2_with (first
        | (refine load_row rfl 76 _ rfl (w.heap.size + 1) rfl _ (tabL 256) _ H2.out Try.underlying76 rfl (by rw [tabL_length]; exact size_tab) ?_)
        | (refine store_row rfl 76 _ _ rfl w.heap.size rfl (tabL 256) rfl _ (zer 256) H0.out (by rw [tabL_length]; exact size_tab) (by rw [tabL_length, zer_length]) (tabL_one _) ?_; intro ws hs ks))
      refine bodyPost_ret (results_cell_row rfl _ _ w.heap.size _ (tabL 256).toArray (0, 0) _ rfl hs Try.underlying76 rfl (by simpa [tabL_length] using size_tab)) rfl ⟨rfl, ?_⟩
      exact HB.out.trans (ks.below HB.out.size fun k hk => by omega)

set_option maxRecDepth 100000 in
set_option maxHeartbeats 4000000 in
theorem crc_More (w : World) (s : Nat) (a : Option Addr) (n c : Nat) (l : List UInt8) (hs : s < 4294967296) (h : Bs w a n c l) :
    Calls Try.prog 30 #[.int .u32 s, .slice a n c] w fun e w' => e = .returned (.int .u32 (crcMore s l : Nat)) ∧ Below w.heap.size w w' := by
  have hl := h.len
  subst hl
  have hc := Sl.cap h; have hr := Sl.room h
  have H := Lib.hid h; clear h
  by_cases h0 : l.length = 0
  · have hnil : l = [] := List.eq_nil_of_length_eq_zero h0
    subst hnil
    have hm := more_nil s hs
    have HM := Lib.hid hm; clear hm
    go_enter Try.func30, Try.ntmps30
    go_wp2
    go_ret
    exact ⟨rI (by rw [HM.out]), Below.refl _ _⟩
  · have hz : (((l.length : Nat) : Int) == 0) = false := by rw [beq_eq_false_iff_ne]; omega
    go_enter Try.func30, Try.ntmps30
    go_wp2_with fail
    with_reducible refine (crc_table _).mono ?_
    rintro e w1 ⟨rfl, hb1⟩
    have H1 := Lib.hid (H.out.below hb1); have HB1 := Lib.hid hb1
    clear hb1
    go_wp2_with (first
      | (refine alloc_row rfl 76 rfl _ _ _ info_tab (zer 256) rfl ?_)
      | (refine store_row rfl 76 _ _ rfl w1.heap.size rfl (tabL 256) rfl _ (zer 256) (Row.made _ _ _) (by rw [tabL_length]; exact size_tab) (by rw [tabL_length, zer_length]) (tabL_one _) ?_; intro ws hrow ks))
    have hxm := xor_max s hs
    have hkeep := (Keep.refl (· = w1.heap.size) w1).alloc (.cells (zer 256).toArray 76 (0, 0)) |>.trans ks
    have H2 := Lib.hid (H1.out.below (hkeep.below (Nat.le_refl _) fun k hk => by omega))
    have HB2 := Lib.hid (hkeep.below (B := w1.heap.size) (Nat.le_refl _) fun k hk => by omega)
    have HR := Lib.hid hrow
    clear hkeep ks hrow h0 hz H1
    go_wp2
    go_loop [6, 18] (fun v i => ∃ k y : Nat, k ≤ l.length ∧ i = .int .i64 k ∧ v = .int .u32 y ∧ y < 4294967296 ∧ y = crcReg (4294967295 - s) (l.take k)) (fun _ i => l.length - (intOf i).toNat)
    case atStart => exact ⟨0, 4294967295 - s, by omega, rfl, by simp [hxm], by omega, rfl⟩
    case round =>
      clear hxm
      obtain ⟨k, y, hk, rfl, rfl, hy, he⟩ := hrel
      by_cases hlt : k < l.length
      · have hsn := reg_snoc (4294967295 - s) l k hlt
        rw [← he] at hsn
        obtain ⟨b, o, rfl, hx⟩ := H2.out.at k hlt
        have hb := l[k].toNat_lt
        have htt := take_table y l[k].toNat hb
        have hty := take_lt (r := y) (x := l[k].toNat) hy hb
        have h8 := u8_xor_nat (y % 256) l[k].toNat (by omega) hb
        have hj : (y % 256) ^^^ l[k].toNat < 256 := Nat.xor_lt_two_pow (n := 8) (by omega) hb
        generalize l[k].toNat = x at hsn hx hb htt hty h8 hj
        generalize (y % 256) ^^^ x = j at htt h8 hj
        have h32 := u32_xor_nat (y / 256) (crcN 8 j) (by omega) (crcN_lt 8 (by omega))
        rw [← htt] at h32
        rw [Int.natCast_ediv] at h32
        rw [Int.natCast_emod] at h8
        simp only [Int.cast_ofNat_Int] at h8 h32
        have hcell : ws.cell? ⟨w1.heap.size, j, none⟩ = some (.int .u32 (crcN 8 j : Nat)) := by
          rw [HR.out.cell]; simp [tabL, tabV, hj]
        have hsz := HB2.out.size
        have HS := Lib.hid hsn; have HT := Lib.hid hty
        clear hsn htt he hty
        go_wp2
        exact ⟨⟨k + 1, _, by omega, by go_num, rfl, HT.out, HS.out.symm⟩, by simp [intOf]; omega⟩
      · obtain rfl : k = l.length := by omega
        rw [List.take_length] at he
        have hxy := xor_max y hy
        have HE := Lib.hid he; clear he
        go_wp2
        go_ret
        exact ⟨rI (by rw [crcMore, ← HE.out]), HB1.out.trans (HB2.out.mono HB1.out.size)⟩
end Go.Proofs.Ytibjcadingedaaa
