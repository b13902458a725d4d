import Derived.Test.YtibjcadingedaaaSlotH
import Derived.Test.YtibjcadingedaaaWf
namespace Go.Proofs.Ytibjcadingedaaa
open Go Go.RowKit Go.Own
set_option linter.unusedVariables false
theorem recV_put {g len sum : Nat} (h : recOk g len = true) (hs : sum < 4294967296) : recV (recB g len sum) = .tuple #[.agg #[.int .u64 g, .int .u64 len, .int .u32 sum], .bool true] :=
  recV_some (isRec_put g len sum h hs) (recB_flds g len sum h hs)
theorem num_zeros (n : Nat) : num (List.replicate n 0) = 0 := by
  induction n with
  | zero => rfl
  | succ n ih => rw [List.replicate_succ]; unfold num; rw [ih]; rfl
theorem isRec_zeros (n : Nat) : isRec (List.replicate n 0) = false := by
  have h : fld (List.replicate n 0) 8 8 = 0 := by
    unfold fld
    rw [List.drop_replicate, List.take_replicate, num_zeros]
  unfold isRec
  refine decide_eq_false fun hh => ?_
  have := hh.1
  rw [h] at this
  have := (recOk_iff _ _).1 this
  omega
def zb (n : Nat) : List UInt8 := List.replicate n 0
def zc (n : Nat) : List Value := (zb n).map bv
theorem zc_eq (n : Nat) : zc n = List.replicate n (.int .u8 0) := by simp [zc, zb, bv]
theorem mk_bytes (w : World) (m : Int) (n : Nat) (hm : m = n) (hn : n ≤ 281474976710656) :
    (Instr.makeSlice 29 (.int .i64 m) (.int .i64 m)).run Try.prog w = .ok (.slice (some ⟨w.heap.size, 0, none⟩) n n) (w.alloc (.cells (zc n).toArray 5 (0, 0))) := by
  rw [zc_eq]
  exact run_mk1 (P := Try.prog) 29 5 _ _ Try.underlying29 info_u8 rfl m n hm (by omega) (by omega) w
theorem mk_Bs (w : World) (n : Nat) (hn : n ≤ 9223372036854775807) : Bs (w.alloc (.cells (zc n).toArray 5 (0, 0))) (some ⟨w.heap.size, 0, none⟩) n n (zb n) :=
  Sl.lit w 5 (zc n) n 1 (by simp [zc, zb]) hn
set_option maxHeartbeats 4000000 in
theorem up17 (w : World) : Calls Try.prog 44 #[] w fun e w' => e = .returned (.bool true) ∧ Below w.heap.size w w' := by
  have hmk := fun w => mk_bytes w 512 512 rfl (by decide)
  go_enter Try.func44, Try.ntmps44
  go_wp2_with fail
  refine (slot_Put w 1 2 3 (by decide) (by decide) (by decide)).mono ?_
  rintro e w1 ⟨a1, n1, c1, rfl, hB1, hn1, hb1⟩
  have hk := recV_put (g := 1) (len := 2) (sum := 3) (by decide) (by decide)
  have hlen := hB1.len
  rw [recB_length 1 2 3 (by decide)] at hlen
  subst hlen
  generalize recB 1 2 3 = r at hB1 hk
  go_wp2_with fail
  refine (slot_Get _ _ _ _ _ hB1).mono ?_
  rintro e w2 ⟨rfl, hb2⟩
  rw [hk]
  clear hk hB1 hn1
  have hs2 := hb2.size
  have b2 := hb1.trans (hb2.mono hb1.size)
  go_wp2_with (first
    | (refine alloc_row rfl 63 rfl _ _ _ info_rec [.int .u64 0, .int .u64 0, .int .u32 0] rfl ?_)
    | (refine store_row rfl 63 _ _ rfl w2.heap.size rfl [.int .u64 1, .int .u64 2, .int .u32 3] rfl _ [.int .u64 0, .int .u64 0, .int .u32 0] (Row.made _ _ _) size_rec rfl (by simp [Value.oneCell']) ?_; intro w3 hr3 hk3))
  have b3 : Below w2.heap.size w2 w3 := ((Below.refl _ _).alloc (Nat.le_refl _) _).trans (hk3.below (by simp) (fun k hk => by omega))
  have hs3 := hk3.size
  simp only [World.size_alloc] at hs3
  have hB3 := mk_Bs w3 512 (by decide)
  have hb3 : Below w3.heap.size w3 (w3.alloc (.cells (zc 512).toArray 5 (0, 0))) := (Below.refl _ _).alloc (Nat.le_refl _) _
  have hz : isRec (zb 512) = false := isRec_zeros 512
  generalize zb 512 = zz at hB3 hz
  refine (slot_Get _ _ _ _ _ hB3).mono ?_
  rintro e w4 ⟨rfl, hb4⟩
  rw [recV_none hz]
  have hr4 := (hr3.below hb3).below hb4
  have b4 : Below w3.heap.size w3 w4 := hb3.trans (hb4.mono (by simp))
  have hs4 := hb4.size
  simp only [World.size_alloc] at hs4
  clear hz hB3 hmk
  go_wp2_with (first
    | (refine alloc_row rfl 63 rfl _ _ _ info_rec [.int .u64 0, .int .u64 0, .int .u32 0] rfl ?_)
    | (refine store_row rfl 63 _ _ rfl w4.heap.size rfl [.int .u64 0, .int .u64 0, .int .u32 0] rfl _ [.int .u64 0, .int .u64 0, .int .u32 0] (Row.made _ _ _) size_rec rfl (by simp [Value.oneCell']) ?_; intro w5 hr5 hk5; have b5 : Below w4.heap.size w4 w5 := ((Below.refl _ _).alloc (Nat.le_refl _) _).trans (hk5.below (by simp) (fun k hk => by omega)); have hr6 := hr4.below b5; have q0 : w5.cell? ⟨w2.heap.size, 0, none⟩ = some (.int .u64 1) := hr6.cell 0; have q1 : w5.cell? ⟨w2.heap.size, 1, none⟩ = some (.int .u64 2) := hr6.cell 1; have q2 : w5.cell? ⟨w2.heap.size, 2, none⟩ = some (.int .u32 3) := hr6.cell 2))
  go_ret
  exact ⟨rfl, ((b2.trans (b3.mono b2.size)).trans (b4.mono (by have := b2.size; omega))).trans (b5.mono (by have := b2.size; omega))⟩
set_option maxHeartbeats 8000000 in
theorem slotTells (w : World) (gi si mi : Int) (a : Option Addr) (n c : Nat) (l : List UInt8) (hg : (Lit.int .u64 gi).wf = true) (hs : (Lit.int .u64 si).wf = true) (hm : (Lit.int .u32 mi).wf = true) (h : Bs w a n c l) :
    Calls Try.prog 13 #[.int .u64 gi, .int .u64 si, .int .u32 mi, .slice a n c] w fun e w' => e = .returned (.bool true) ∧ Below w.heap.size w w' := by
  obtain ⟨g0, g1⟩ := wfU64 hg
  obtain ⟨s0, s1⟩ := wfU64 hs
  obtain ⟨m0, m1⟩ := wfU32 hm
  obtain ⟨g, rfl⟩ : ∃ g : Nat, gi = g := ⟨gi.toNat, by omega⟩
  obtain ⟨s, rfl⟩ : ∃ g : Nat, si = g := ⟨si.toNat, by omega⟩
  obtain ⟨m, rfl⟩ : ∃ g : Nat, mi = g := ⟨mi.toNat, by omega⟩
  clear hg hs hm
  have hn := h.len
  subst hn
  have H := Lib.hid h; clear h
  go_enter Try.func13, Try.ntmps13
  go_wp2_with fail
  refine (up17 _).mono ?_
  rintro e w1 ⟨rfl, b1⟩
  have hB1 := H.out.below b1
  by_cases hl : l.length > 2000
  · go_wp2
    go_ret
    exact ⟨rfl, b1⟩
  · have HB1 := Lib.hid hB1; have B1 := Lib.hid b1; clear hB1 b1 H
    go_wp2_with fail
    refine (slot_Get _ _ _ _ _ HB1.out).mono ?_
    rintro e w2 ⟨rfl, b2⟩
    have HB2 := Lib.hid (HB1.out.below b2)
    have B2 := Lib.hid (B1.out.trans (b2.mono B1.out.size))
    obtain ⟨G, S, M, I, hR⟩ : ∃ (G S M : Nat) (I : Bool), recV l = .tuple #[.agg #[.int .u64 G, .int .u64 S, .int .u32 M], .bool I] := ⟨_, _, _, _, rfl⟩
    have R := Lib.hid hR
    rw [hR]
    clear hR
    clear b2 HB1 B1
    go_wp2_with (first
      | (refine alloc_row rfl 63 rfl _ _ _ info_rec [.int .u64 0, .int .u64 0, .int .u32 0] rfl ?_)
      | (refine store_row rfl 63 _ _ rfl w2.heap.size rfl [.int .u64 G, .int .u64 S, .int .u32 M] rfl _ [.int .u64 0, .int .u64 0, .int .u32 0] (Row.made _ _ _) size_rec rfl (by simp [Value.oneCell']) ?_; intro w3 hr3 hk3))
    have b3 : Below w2.heap.size w2 w3 := ((Below.refl _ _).alloc (Nat.le_refl _) _).trans (hk3.below (by simp) (fun k hk => by omega))
    have HB3 := Lib.hid (HB2.out.below b3)
    have B3 := Lib.hid (B2.out.trans (b3.mono B2.out.size))
    have hs3 := hr3.lt
    refine (ref_GetRec _ _ _ _ _ HB3.out).mono ?_
    rintro e w4 ⟨rfl, b4⟩
    have B4 := Lib.hid (B3.out.trans (b4.mono B3.out.size))
    have hr4 := hr3.below b4
    have hs4 := b4.size
    rw [R.out]
    clear b3 b4 B3 HB3 HB2 B2 hr3 hk3
    go_wp2_with (first
      | (refine alloc_row rfl 66 rfl _ _ _ info_rrec [.int .u64 0, .int .u64 0, .int .u32 0] rfl ?_)
      | (refine store_row rfl 66 _ _ rfl w4.heap.size rfl [.int .u64 G, .int .u64 S, .int .u32 M] rfl _ [.int .u64 0, .int .u64 0, .int .u32 0] (Row.made _ _ _) size_rrec rfl (by simp [Value.oneCell']) ?_; intro w5 hr5 hk5))
    have b5 : Below w4.heap.size w4 w5 := ((Below.refl _ _).alloc (Nat.le_refl _) _).trans (hk5.below (by simp) (fun k hk => by omega))
    have B5 := Lib.hid (B4.out.trans (b5.mono B4.out.size))
    have hr4' := hr4.below b5
    have hs5 := hr5.lt
    refine flowe_begin (F := fun _ => False) hmixed 14 rfl (by repeat (first | exact ps_body | refine ps_then ?_ | refine ps_block ?_)) (fun hps => ?_)
    simp only [List.replicate]
    have kk := (Keep.refl (fun _ => False) (w5)).drew
    refine flowe_take 0 (v := ?_) (a' := ?_) hps rfl (by kernel_rfl) rfl ?_ ?_ ?_
    rotate_left 2
    · intro w' hk; go_simp; try rfl
    · simp only [Act.put, List.setIfInBounds_toArray, List.set_cons_succ, List.set_cons_zero]; try rfl
    refine flowe_take 1 (v := ?_) (a' := ?_) hps rfl (by kernel_rfl) rfl ?_ ?_ ?_
    rotate_left 2
    · intro w' hk; go_simp; try rfl
    · simp only [Act.put, List.setIfInBounds_toArray, List.set_cons_succ, List.set_cons_zero]; try rfl
    refine flowe_take 2 (v := ?_) (a' := ?_) hps rfl (by kernel_rfl) rfl ?_ ?_ ?_
    rotate_left 2
    · intro w' hk; go_simp; try rfl
    · simp only [Act.put, List.setIfInBounds_toArray, List.set_cons_succ, List.set_cons_zero]; try rfl
    refine flowe_take 3 (v := ?_) (a' := ?_) hps rfl (by kernel_rfl) rfl ?_ ?_ ?_
    rotate_left 2
    · intro w' hk; go_simp; try rfl
    · simp only [Act.put, List.setIfInBounds_toArray, List.set_cons_succ, List.set_cons_zero]; try rfl
    refine flowe_take 6 (v := ?_) (a' := ?_) hps rfl (by kernel_rfl) rfl ?_ ?_ ?_
    rotate_left 2
    · intro w' hk; go_simp; try rfl
    · simp only [Act.put, List.setIfInBounds_toArray, List.set_cons_succ, List.set_cons_zero]; try rfl
    refine flowe_take 7 (v := ?_) (a' := ?_) hps rfl (by kernel_rfl) rfl ?_ ?_ ?_
    rotate_left 2
    · intro w' hk; go_simp; try rfl
    · simp only [Act.put, List.setIfInBounds_toArray, List.set_cons_succ, List.set_cons_zero]; try rfl
    refine flowe_take 8 (v := ?_) (a' := ?_) hps rfl (by kernel_rfl) rfl ?_ ?_ ?_
    rotate_left 2
    · intro w' hk; go_simp; try rfl
    · simp only [Act.put, List.setIfInBounds_toArray, List.set_cons_succ, List.set_cons_zero]; try rfl
    refine flowe_take 9 (v := ?_) (a' := ?_) hps rfl (by kernel_rfl) rfl ?_ ?_ ?_
    rotate_left 2
    · intro w' hk; go_simp; try rfl
    · simp only [Act.put, List.setIfInBounds_toArray, List.set_cons_succ, List.set_cons_zero]; try rfl
    refine flowe_one 4 hps rfl (by kernel_rfl) rfl (wp_next (fun K hK => ?_))
    go_simp
    go_at_call 47
    refine (slot_Put _ g s m (by omega) (by omega) (by omega)).mono ?_
    rintro e w6 ⟨a6, n6, c6, rfl, hB6, hn6, hb6⟩
    have kp := Keep.of_below (F := fun _ => False) hb6
    refine hK _ _ (flow_step kk ?_ ?_)
    · first | exact kp | exact Keep.refl _ _ | exact (Keep.refl _ _).alloc _
    clear kk hK; try clear kp
    intro kk
    refine flowe_take 5 (v := ?_) (a' := ?_) hps rfl (by kernel_rfl) rfl ?_ ?_ ?_
    rotate_left 2
    · intro w' hk; have hs := run_s w' (hB6.keep hk (fun _ _ h => h)); go_simp; try rfl
    · simp only [Act.put, List.setIfInBounds_toArray, List.set_cons_succ, List.set_cons_zero]; try rfl
    refine flowe_one 10 hps rfl (by kernel_rfl) rfl (wp_next (fun K hK => ?_))
    go_simp
    go_at_call 48
    refine (ref_PutRec _ g s m (by omega) (by omega) (by omega)).mono ?_
    rintro e w7 ⟨a7, n7, c7, rfl, hB7, hn7, hb7⟩
    have kp := Keep.of_below (F := fun _ => False) hb7
    refine hK _ _ (flow_step kk ?_ ?_)
    · first | exact kp | exact Keep.refl _ _ | exact (Keep.refl _ _).alloc _
    clear kk hK; try clear kp
    intro kk
    refine flowe_take 11 (v := ?_) (a' := ?_) hps rfl (by kernel_rfl) rfl ?_ ?_ ?_
    rotate_left 2
    · intro w' hk; have hs := run_s w' (hB7.keep hk (fun _ _ h => h)); go_simp; try rfl
    · simp only [Act.put, List.setIfInBounds_toArray, List.set_cons_succ, List.set_cons_zero]; try rfl
    refine flowe_take 12 (v := ?_) (a' := ?_) hps rfl (by kernel_rfl) rfl ?_ ?_ ?_
    rotate_left 2
    · intro w' hk; go_simp; try rfl
    · simp only [Act.put, List.setIfInBounds_toArray, List.set_cons_succ, List.set_cons_zero]; try rfl
    refine flowe_take 13 (v := ?_) (a' := ?_) hps rfl (by kernel_rfl) rfl ?_ ?_ ?_
    rotate_left 2
    · intro w' hk; go_simp; try rfl
    · simp only [Act.put, List.setIfInBounds_toArray, List.set_cons_succ, List.set_cons_zero]; try rfl
    refine flowe_done hps (by kernel_rfl) ?_
    all_goals
      have hr6 := hr4'.keep kk (fun h => h)
      have hr7 := hr5.keep kk (fun h => h)
      have q0 : w7.cell? ⟨w2.heap.size, 0, none⟩ = some (.int .u64 G) := hr6.cell 0
      have q1 : w7.cell? ⟨w2.heap.size, 1, none⟩ = some (.int .u64 S) := hr6.cell 1
      have q2 : w7.cell? ⟨w2.heap.size, 2, none⟩ = some (.int .u32 M) := hr6.cell 2
      have r0 : w7.cell? ⟨w4.heap.size, 0, none⟩ = some (.int .u64 G) := hr7.cell 0
      have r1 : w7.cell? ⟨w4.heap.size, 1, none⟩ = some (.int .u64 S) := hr7.cell 1
      have r2 : w7.cell? ⟨w4.heap.size, 2, none⟩ = some (.int .u32 M) := hr7.cell 2
      have hb := B5.out.trans (kk.below B5.out.size (fun _ _ h => h))
      clear hr6 hr7 kk hr4 hr5 hr4' hB6 hB7 hn6 hn7 hb6 hb7 b5 hk5
      go_wp2
      go_ret
      exact ⟨rfl, hb⟩
end Go.Proofs.Ytibjcadingedaaa
