/- Texts of the proof of 'AllocPlays', part 13: words on memory, contracts of functions, plain laws. No condition. -/
import Derived.Test.YtenbpbnffnodhaaMgAllocPlays4
import Derived.Test.YtenbpbnffnodhaaMgAllocPlays12
set_option linter.unusedSimpArgs false
set_option linter.unusedVariables false
/- The reference's heap: a block out of its list, and into it. -/
namespace Go.Proofs.Ytenbpbnffnodhaa
open Go Go.RowKit Go.Own
set_option linter.unusedVariables false
set_option maxRecDepth 100000
section
variable {B : Nat} {w0 w : World} {l : List Ob} {q : Nat} {cap : Int} {vb vd vl : Value} {ss : List Sv} {L : List Blk} {D : List Value} {ls : Ls}
set_option maxHeartbeats 4000000 in
theorem rh_out (h : St B w0 w (HpX q cap vb vd vl ss L D ls l)) (hs : ss.length = 22) (i : Nat) (hi : i < L.length) (hz : isSize (L[i].size : Int) = true) (hll : (ls (clsN L[i].size)).length ≤ 2000) (hL : L.length ≤ 2000) :
    Calls Try.prog 207 #[hpP q, .int .i64 i] w fun e w' => e = .returned (.tuple #[]) ∧ ∃ ss', ss'.length = 22 ∧ St B w0 w' (HpX q cap vb vd vl ss' L D (outL ls (clsN L[i].size) L[i].off) l) := by
  obtain ⟨ab, cb, rfl, hcap, hroom, hbl⟩ := hp_bx h
  obtain ⟨bb, rfl, b0, b1, b2⟩ := hbl i hi
  obtain ⟨hC, hcls⟩ := clsN_of hz
  obtain ⟨gl, cl, _, _, rfl, hlc, hlr, _, _⟩ := hp_ls h hs 0 (by omega)
  obtain ⟨c0, c1, c2, c3⟩ := hp_cells h
  have hzb := (isSize_iff _).1 hz
  have kcl := ref_Class w (L[i].size : Int) (by omega) (by omega)
  rw [hcls] at kcl
  have cells : ∀ (w' : World) (ss' : List Sv), St B w0 w' (HpX q cap (.slice (some ⟨bb, 0, none⟩) L.length cb) vd (.slice (some ⟨gl, 0, none⟩) 22 cl) ss' L D ls l) → w'.cell? ⟨bb, i * 3, none⟩ = some (.int .i64 L[i].off) ∧ w'.cell? ⟨q, 1, none⟩ = some (.slice (some ⟨bb, 0, none⟩) L.length cb) ∧ w'.cell? ⟨q, 3, none⟩ = some (.slice (some ⟨gl, 0, none⟩) 22 cl) := fun w' ss' h' => ⟨(hp_blk h' i hi).1, (hp_cells h').2.1, (hp_cells h').2.2.2⟩
  generalize L[i] = x at *
  generalize clsN x.size = C at *
  have CO := Lib.hid cells; have KCL := Lib.hid kcl; have T0 := Lib.hid h; have HSS := Lib.hid hs; have HLL := Lib.hid hll
  clear hbl hz hcls kcl cells h hzb b0 b2 c0 c2 c3 hs hll
  have hci : (C : Int) < 22 := by omega
  go_enter Try.func207, Try.ntmps207
  go_wp2_with fail
  have kc := KCL.out
  with_reducible refine kc.mono ?_
  clear kc
  rintro e w' ⟨rfl, rfl⟩
  go_wp2
  clear c1 b1
  go_loopw [5, 6] (fun vr vk wr => ∃ j : Nat, j ≤ (ls C).length ∧ vk = .int .i64 j ∧ St B w0 wr (IntsO vr (((ls C).take j).filter (· ≠ x.off)) :: HpX q cap (.slice (some ⟨bb, 0, none⟩) L.length cb) vd (.slice (some ⟨gl, 0, none⟩) 22 cl) ss L D ls l)) (fun _ vj _ => (ls C).length - (intOf vj).toNat)
  case atStart => exact ⟨0, Nat.zero_le _, rfl, T0.out.addOwn (Below.refl _ _) (World.ownsRow_nil _ _ _ _)⟩
  case round =>
    clear T0
    obtain ⟨j, hj, rfl, hS⟩ := hrel
    have hll2 := HLL.out
    obtain ⟨k0, c1, c3⟩ := CO.out _ _ hS.tail
    obtain ⟨hcell, hsl⟩ := hp_lst hS.tail (k := 3) rfl HSS.out C hC
    generalize (sv ss C).a = ax at *
    generalize (sv ss C).c = cx at *
    have hq1 := hsl.cap; have hq2 := hsl.room
    by_cases hjl : j < (ls C).length
    · have d1 : decide ((j : Int) < ((ls C).length : Int)) = true := decide_eq_true (by omega)
      obtain ⟨ib, io, rfl, hI⟩ := hsl.cells j (.int .i64 ((ls C)[j] : Nat)) (by simp [ints, hjl])
      have hfs : ((ls C).take (j + 1)).filter (· ≠ x.off) = ((ls C).take j).filter (· ≠ x.off) ++ (if (ls C)[j] = x.off then [] else [(ls C)[j]]) := by
        rw [List.take_succ_eq_append_getElem hjl, List.filter_append]
        congr 1
        by_cases he : (ls C)[j] = x.off
        · rw [if_pos he]; simp [he]
        · rw [if_neg he]; simp [he]
      have hrl : (((ls C).take j).filter (· ≠ x.off)).length ≤ 1000000 := by
        have h1 := List.length_filter_le (fun y => decide (y ≠ x.off)) ((ls C).take j)
        rw [List.length_take] at h1
        omega
      generalize (ls C)[j] = y at *
      have kd := (Keep.refl (fun _ => False) wr).drew
      have HC := Lib.hid (mid_keep kd hcell (fun h => h)); have HI := Lib.hid (mid_keep kd hI (fun h => h)); have HKO := Lib.hid (mid_keep kd k0 (fun h => h)); have HC1 := Lib.hid (mid_keep kd c1 (fun h => h)); have HC3 := Lib.hid (mid_keep kd c3 (fun h => h))
      have HFS := Lib.hid hfs
      have TS := Lib.hid hS.drew
      generalize hne : ((ls C).length : Nat) = nC at *
      generalize ((ls C).take j).filter (· ≠ x.off) = R at *
      have HNE := Lib.hid hne
      clear hS hsl hI k0 kd hfs hne
      by_cases he : y = x.off
      · have d9 : ((y : Int) != (x.off : Int)) = false := by rw [he]; simp
        have hn := HFS.out
        rw [if_pos he, List.append_nil] at hn
        have HN := Lib.hid hn
        clear he hn
        go_wp2
        refine flowe_begin (F := fun _ => False) hmixed 19 rfl (by repeat (first | with_reducible refine ps_then ?_ | with_reducible refine ps_block ?_ | with_reducible exact ps_body | refine ps_then ?_ | refine ps_block ?_ | exact ps_body)) (fun hps => ?_)
        simp only [List.replicate]
        have kk := (Keep.refl (fun _ => False) (wr)).drew
        refine flowe_take 0 (v := ?_) (a' := ?_) hps rfl (by kernel_rfl) rfl ?_ ?_ ?_
        rotate_left 2
        · intro w' hk; go_simp; try rfl
        · simp only [Act.put, List.setIfInBounds_toArray, List.set_cons_succ, List.set_cons_zero]; try rfl
        refine flowe_take 1 (v := ?_) (a' := ?_) hps rfl (by kernel_rfl) rfl ?_ ?_ ?_
        rotate_left 2
        · intro w' hk; go_simp; try rfl
        · simp only [Act.put, List.setIfInBounds_toArray, List.set_cons_succ, List.set_cons_zero]; try rfl
        refine flowe_take 2 (v := ?_) (a' := ?_) hps rfl (by kernel_rfl) rfl ?_ ?_ ?_
        rotate_left 2
        · intro w' hk; go_simp; try rfl
        · simp only [Act.put, List.setIfInBounds_toArray, List.set_cons_succ, List.set_cons_zero]; try rfl
        refine flowe_take 3 (v := ?_) (a' := ?_) hps rfl (by kernel_rfl) rfl ?_ ?_ ?_
        rotate_left 2
        · intro w' hk; have c0 := mid_keep hk HC3.out (fun h => h); go_simp; try rfl
        · simp only [Act.put, List.setIfInBounds_toArray, List.set_cons_succ, List.set_cons_zero]; try rfl
        refine flowe_take 4 (v := ?_) (a' := ?_) hps rfl (by kernel_rfl) rfl ?_ ?_ ?_
        rotate_left 2
        · intro w' hk; go_simp; try rfl
        · simp only [Act.put, List.setIfInBounds_toArray, List.set_cons_succ, List.set_cons_zero]; try rfl
        refine flowe_take 5 (v := ?_) (a' := ?_) hps rfl (by kernel_rfl) rfl ?_ ?_ ?_
        rotate_left 2
        · intro w' hk; go_simp; try rfl
        · simp only [Act.put, List.setIfInBounds_toArray, List.set_cons_succ, List.set_cons_zero]; try rfl
        refine flowe_take 6 (v := ?_) (a' := ?_) hps rfl (by kernel_rfl) rfl ?_ ?_ ?_
        rotate_left 2
        · intro w' hk; have c0 := mid_keep hk HC.out (fun h => h); go_simp; try rfl
        · simp only [Act.put, List.setIfInBounds_toArray, List.set_cons_succ, List.set_cons_zero]; try rfl
        refine flowe_take 7 (v := ?_) (a' := ?_) hps rfl (by kernel_rfl) rfl ?_ ?_ ?_
        rotate_left 2
        · intro w' hk; go_simp; try rfl
        · simp only [Act.put, List.setIfInBounds_toArray, List.set_cons_succ, List.set_cons_zero]; try rfl
        refine flowe_take 8 (v := ?_) (a' := ?_) hps rfl (by kernel_rfl) rfl ?_ ?_ ?_
        rotate_left 2
        · intro w' hk; go_simp; try rfl
        · simp only [Act.put, List.setIfInBounds_toArray, List.set_cons_succ, List.set_cons_zero]; try rfl
        refine flowe_take 9 (v := ?_) (a' := ?_) hps rfl (by kernel_rfl) rfl ?_ ?_ ?_
        rotate_left 2
        · intro w' hk; have c0 := mid_keep hk HI.out (fun h => h); go_simp; try rfl
        · simp only [Act.put, List.setIfInBounds_toArray, List.set_cons_succ, List.set_cons_zero]; try rfl
        refine flowe_take 10 (v := ?_) (a' := ?_) hps rfl (by kernel_rfl) rfl ?_ ?_ ?_
        rotate_left 2
        · intro w' hk; go_simp; try rfl
        · simp only [Act.put, List.setIfInBounds_toArray, List.set_cons_succ, List.set_cons_zero]; try rfl
        refine flowe_take 11 (v := ?_) (a' := ?_) hps rfl (by kernel_rfl) rfl ?_ ?_ ?_
        rotate_left 2
        · intro w' hk; go_simp; try rfl
        · simp only [Act.put, List.setIfInBounds_toArray, List.set_cons_succ, List.set_cons_zero]; try rfl
        refine flowe_take 12 (v := ?_) (a' := ?_) hps rfl (by kernel_rfl) rfl ?_ ?_ ?_
        rotate_left 2
        · intro w' hk; go_simp; try rfl
        · simp only [Act.put, List.setIfInBounds_toArray, List.set_cons_succ, List.set_cons_zero]; try rfl
        refine flowe_take 13 (v := ?_) (a' := ?_) hps rfl (by kernel_rfl) rfl ?_ ?_ ?_
        rotate_left 2
        · intro w' hk; have c0 := mid_keep hk HC1.out (fun h => h); go_simp; try rfl
        · simp only [Act.put, List.setIfInBounds_toArray, List.set_cons_succ, List.set_cons_zero]; try rfl
        refine flowe_take 14 (v := ?_) (a' := ?_) hps rfl (by kernel_rfl) rfl ?_ ?_ ?_
        rotate_left 2
        · intro w' hk; go_simp; try rfl
        · simp only [Act.put, List.setIfInBounds_toArray, List.set_cons_succ, List.set_cons_zero]; try rfl
        refine flowe_take 15 (v := ?_) (a' := ?_) hps rfl (by kernel_rfl) rfl ?_ ?_ ?_
        rotate_left 2
        · intro w' hk; go_simp; try rfl
        · simp only [Act.put, List.setIfInBounds_toArray, List.set_cons_succ, List.set_cons_zero]; try rfl
        refine flowe_take 16 (v := ?_) (a' := ?_) hps rfl (by kernel_rfl) rfl ?_ ?_ ?_
        rotate_left 2
        · intro w' hk; go_simp; try rfl
        · simp only [Act.put, List.setIfInBounds_toArray, List.set_cons_succ, List.set_cons_zero]; try rfl
        refine flowe_take 17 (v := ?_) (a' := ?_) hps rfl (by kernel_rfl) rfl ?_ ?_ ?_
        rotate_left 2
        · intro w' hk; have c0 := mid_keep hk HKO.out (fun h => h); go_simp; try rfl
        · simp only [Act.put, List.setIfInBounds_toArray, List.set_cons_succ, List.set_cons_zero]; try rfl
        refine flowe_take 18 (v := ?_) (a' := ?_) hps rfl (by kernel_rfl) rfl ?_ ?_ ?_
        rotate_left 2
        · intro w' hk; go_simp; try rfl
        · simp only [Act.put, List.setIfInBounds_toArray, List.set_cons_succ, List.set_cons_zero]; try rfl
        refine flowe_done hps (by kernel_rfl) ?_
        clear kk
        go_wp2
        exact ⟨⟨j + 1, by omega, by go_num, by rw [HN.out]; exact TS.out⟩, by simp [intOf]; omega⟩
      · have d9 : ((y : Int) != (x.off : Int)) = true := by rw [bne_iff_ne]; omega
        have hn := HFS.out
        rw [if_neg he] at hn
        have HN := Lib.hid hn
        clear he hn
        go_wp2
        refine flowe_begin (F := fun _ => False) hmixed 19 rfl (by repeat (first | with_reducible refine ps_then ?_ | with_reducible refine ps_block ?_ | with_reducible exact ps_body | refine ps_then ?_ | refine ps_block ?_ | exact ps_body)) (fun hps => ?_)
        simp only [List.replicate]
        have kk := (Keep.refl (fun _ => False) (wr)).drew
        refine flowe_take 0 (v := ?_) (a' := ?_) hps rfl (by kernel_rfl) rfl ?_ ?_ ?_
        rotate_left 2
        · intro w' hk; go_simp; try rfl
        · simp only [Act.put, List.setIfInBounds_toArray, List.set_cons_succ, List.set_cons_zero]; try rfl
        refine flowe_take 1 (v := ?_) (a' := ?_) hps rfl (by kernel_rfl) rfl ?_ ?_ ?_
        rotate_left 2
        · intro w' hk; go_simp; try rfl
        · simp only [Act.put, List.setIfInBounds_toArray, List.set_cons_succ, List.set_cons_zero]; try rfl
        refine flowe_take 2 (v := ?_) (a' := ?_) hps rfl (by kernel_rfl) rfl ?_ ?_ ?_
        rotate_left 2
        · intro w' hk; go_simp; try rfl
        · simp only [Act.put, List.setIfInBounds_toArray, List.set_cons_succ, List.set_cons_zero]; try rfl
        refine flowe_take 3 (v := ?_) (a' := ?_) hps rfl (by kernel_rfl) rfl ?_ ?_ ?_
        rotate_left 2
        · intro w' hk; have c0 := mid_keep hk HC3.out (fun h => h); go_simp; try rfl
        · simp only [Act.put, List.setIfInBounds_toArray, List.set_cons_succ, List.set_cons_zero]; try rfl
        refine flowe_take 4 (v := ?_) (a' := ?_) hps rfl (by kernel_rfl) rfl ?_ ?_ ?_
        rotate_left 2
        · intro w' hk; go_simp; try rfl
        · simp only [Act.put, List.setIfInBounds_toArray, List.set_cons_succ, List.set_cons_zero]; try rfl
        refine flowe_take 5 (v := ?_) (a' := ?_) hps rfl (by kernel_rfl) rfl ?_ ?_ ?_
        rotate_left 2
        · intro w' hk; go_simp; try rfl
        · simp only [Act.put, List.setIfInBounds_toArray, List.set_cons_succ, List.set_cons_zero]; try rfl
        refine flowe_take 6 (v := ?_) (a' := ?_) hps rfl (by kernel_rfl) rfl ?_ ?_ ?_
        rotate_left 2
        · intro w' hk; have c0 := mid_keep hk HC.out (fun h => h); go_simp; try rfl
        · simp only [Act.put, List.setIfInBounds_toArray, List.set_cons_succ, List.set_cons_zero]; try rfl
        refine flowe_take 7 (v := ?_) (a' := ?_) hps rfl (by kernel_rfl) rfl ?_ ?_ ?_
        rotate_left 2
        · intro w' hk; go_simp; try rfl
        · simp only [Act.put, List.setIfInBounds_toArray, List.set_cons_succ, List.set_cons_zero]; try rfl
        refine flowe_take 8 (v := ?_) (a' := ?_) hps rfl (by kernel_rfl) rfl ?_ ?_ ?_
        rotate_left 2
        · intro w' hk; go_simp; try rfl
        · simp only [Act.put, List.setIfInBounds_toArray, List.set_cons_succ, List.set_cons_zero]; try rfl
        refine flowe_take 9 (v := ?_) (a' := ?_) hps rfl (by kernel_rfl) rfl ?_ ?_ ?_
        rotate_left 2
        · intro w' hk; have c0 := mid_keep hk HI.out (fun h => h); go_simp; try rfl
        · simp only [Act.put, List.setIfInBounds_toArray, List.set_cons_succ, List.set_cons_zero]; try rfl
        refine flowe_take 10 (v := ?_) (a' := ?_) hps rfl (by kernel_rfl) rfl ?_ ?_ ?_
        rotate_left 2
        · intro w' hk; go_simp; try rfl
        · simp only [Act.put, List.setIfInBounds_toArray, List.set_cons_succ, List.set_cons_zero]; try rfl
        refine flowe_take 11 (v := ?_) (a' := ?_) hps rfl (by kernel_rfl) rfl ?_ ?_ ?_
        rotate_left 2
        · intro w' hk; go_simp; try rfl
        · simp only [Act.put, List.setIfInBounds_toArray, List.set_cons_succ, List.set_cons_zero]; try rfl
        refine flowe_take 12 (v := ?_) (a' := ?_) hps rfl (by kernel_rfl) rfl ?_ ?_ ?_
        rotate_left 2
        · intro w' hk; go_simp; try rfl
        · simp only [Act.put, List.setIfInBounds_toArray, List.set_cons_succ, List.set_cons_zero]; try rfl
        refine flowe_take 13 (v := ?_) (a' := ?_) hps rfl (by kernel_rfl) rfl ?_ ?_ ?_
        rotate_left 2
        · intro w' hk; have c0 := mid_keep hk HC1.out (fun h => h); go_simp; try rfl
        · simp only [Act.put, List.setIfInBounds_toArray, List.set_cons_succ, List.set_cons_zero]; try rfl
        refine flowe_take 14 (v := ?_) (a' := ?_) hps rfl (by kernel_rfl) rfl ?_ ?_ ?_
        rotate_left 2
        · intro w' hk; go_simp; try rfl
        · simp only [Act.put, List.setIfInBounds_toArray, List.set_cons_succ, List.set_cons_zero]; try rfl
        refine flowe_take 15 (v := ?_) (a' := ?_) hps rfl (by kernel_rfl) rfl ?_ ?_ ?_
        rotate_left 2
        · intro w' hk; go_simp; try rfl
        · simp only [Act.put, List.setIfInBounds_toArray, List.set_cons_succ, List.set_cons_zero]; try rfl
        refine flowe_take 16 (v := ?_) (a' := ?_) hps rfl (by kernel_rfl) rfl ?_ ?_ ?_
        rotate_left 2
        · intro w' hk; go_simp; try rfl
        · simp only [Act.put, List.setIfInBounds_toArray, List.set_cons_succ, List.set_cons_zero]; try rfl
        refine flowe_take 17 (v := ?_) (a' := ?_) hps rfl (by kernel_rfl) rfl ?_ ?_ ?_
        rotate_left 2
        · intro w' hk; have c0 := mid_keep hk HKO.out (fun h => h); go_simp; try rfl
        · simp only [Act.put, List.setIfInBounds_toArray, List.set_cons_succ, List.set_cons_zero]; try rfl
        refine flowe_take 18 (v := ?_) (a' := ?_) hps rfl (by kernel_rfl) rfl ?_ ?_ ?_
        rotate_left 2
        · intro w' hk; go_simp; try rfl
        · simp only [Act.put, List.setIfInBounds_toArray, List.set_cons_succ, List.set_cons_zero]; try rfl
        refine flowe_done hps (by kernel_rfl) ?_
        clear kk hcell c1 c3
        have hcell := HC.out; have hI := HI.out; have c1 := HC1.out; have c3 := HC3.out
        go_wp2_with (at_builtin; go_must (refine ints_app TS.out 0 rfl rfl (.tmp 47) (.tmp 58) rfl rfl (y : Int) y rfl rfl hrl ?_; intro v7 w7 h7; have T7 := Lib.hid h7; clear h7))
        exact ⟨⟨j + 1, by omega, by go_num, by rw [HN.out]; exact T7.out⟩, by simp [intOf]; omega⟩
    · obtain rfl : j = (ls C).length := by omega
      have d1 : decide (((ls C).length : Int) < ((ls C).length : Int)) = false := decide_eq_false (by omega)
      rw [List.take_length] at hS
      have HS2 := Lib.hid hS
      clear hS hsl
      go_wp2_with (refine mx_store HS2.out 3 rfl C (by rw [HSS.out]; exact hC) rfl 74 _ _ rfl rfl rfl (by kernel_rfl) ?_; intro wB sX hB; have TX := Lib.hid (show St B w0 wB (HpX q cap (.slice (some ⟨bb, 0, none⟩) L.length cb) vd (.slice (some ⟨gl, 0, none⟩) 22 cl) (ss.set C sX) L D (outL ls C x.off) l) from by show St B w0 wB (_ :: _ :: _ :: MxO _ _ _ (rowsOf (outL ls C x.off)) :: l); rw [outL_rows ls hC]; exact hB); clear hB)
      go_end0
      exact ⟨rfl, _, by rw [List.length_set]; exact HSS.out, TX.out⟩
set_option maxHeartbeats 4000000 in
theorem rh_in (h : St B w0 w (HpX q cap vb vd vl ss L D ls l)) (hs : ss.length = 22) (i : Nat) (hi : i < L.length) (hz : isSize (L[i].size : Int) = true) (hll : (ls (clsN L[i].size)).length ≤ 2000) (hL : L.length ≤ 2000) :
    Calls Try.prog 229 #[hpP q, .int .i64 i] w fun e w' => e = .returned (.tuple #[]) ∧ ∃ ss', ss'.length = 22 ∧ St B w0 w' (HpX q cap vb vd vl ss' L D (inL ls (clsN L[i].size) L[i].off) l) := by
  obtain ⟨ab, cb, rfl, hcap, hroom, hbl⟩ := hp_bx h
  obtain ⟨bb, rfl, b0, b1, b2⟩ := hbl i hi
  obtain ⟨hC, hcls⟩ := clsN_of hz
  obtain ⟨gl, cl, _, _, rfl, hlc, hlr, _, _⟩ := hp_ls h hs 0 (by omega)
  obtain ⟨c0, c1, c2, c3⟩ := hp_cells h
  have hzb := (isSize_iff _).1 hz
  have kcl := ref_Class w (L[i].size : Int) (by omega) (by omega)
  rw [hcls] at kcl
  have cells : ∀ (w' : World) (ss' : List Sv) (ls' : Ls), St B w0 w' (HpX q cap (.slice (some ⟨bb, 0, none⟩) L.length cb) vd (.slice (some ⟨gl, 0, none⟩) 22 cl) ss' L D ls' l) → w'.cell? ⟨bb, i * 3, none⟩ = some (.int .i64 L[i].off) ∧ w'.cell? ⟨q, 1, none⟩ = some (.slice (some ⟨bb, 0, none⟩) L.length cb) ∧ w'.cell? ⟨q, 3, none⟩ = some (.slice (some ⟨gl, 0, none⟩) 22 cl) := fun w' ss' ls' h' => ⟨(hp_blk h' i hi).1, (hp_cells h').2.1, (hp_cells h').2.2.2⟩
  generalize L[i] = x at *
  generalize clsN x.size = C at *
  have CO := Lib.hid cells; have KCL := Lib.hid kcl; have T0 := Lib.hid h; have HSS := Lib.hid hs; have HLL := Lib.hid hll
  clear hbl hz hcls kcl cells h hzb b0 b2 c0 c2 c3 hs
  have hci : (C : Int) < 22 := by omega
  go_enter Try.func229, Try.ntmps229
  go_wp2_with fail
  have kc := KCL.out
  with_reducible refine kc.mono ?_
  clear kc
  rintro e w' ⟨rfl, rfl⟩
  go_wp2
  clear c1 b1
  have TX := Lib.hid T0.out.drew
  clear T0
  refine flows_begin (S := fun w' => ∃ ss' ls', St B w0 w' (HpX q cap (.slice (some ⟨bb, 0, none⟩) L.length cb) vd (.slice (some ⟨gl, 0, none⟩) 22 cl) ss' L D ls' l)) hmixed 24 rfl (by repeat (first | with_reducible refine ps_then ?_ | with_reducible refine ps_block ?_ | with_reducible exact ps_body | refine ps_then ?_ | refine ps_block ?_ | exact ps_body)) ⟨_, _, TX.out⟩ (fun hps => ?_)
  simp only [List.replicate]
  generalize w.drew = wx at TX ⊢
  refine flows_take 0 (v := ?_) (a' := ?_) hps rfl (by kernel_rfl) rfl ?_ ?_ ?_
  rotate_left 2
  · intro w' hk; go_simp; try rfl
  · simp only [Act.put, List.setIfInBounds_toArray, List.set_cons_succ, List.set_cons_zero]; try rfl
  refine flows_take 1 (v := ?_) (a' := ?_) hps rfl (by kernel_rfl) rfl ?_ ?_ ?_
  rotate_left 2
  · intro w' hk; go_simp; try rfl
  · simp only [Act.put, List.setIfInBounds_toArray, List.set_cons_succ, List.set_cons_zero]; try rfl
  refine flows_take 2 (v := ?_) (a' := ?_) hps rfl (by kernel_rfl) rfl ?_ ?_ ?_
  rotate_left 2
  · intro w' hk; go_simp; try rfl
  · simp only [Act.put, List.setIfInBounds_toArray, List.set_cons_succ, List.set_cons_zero]; try rfl
  refine flows_take 3 (v := ?_) (a' := ?_) hps rfl (by kernel_rfl) rfl ?_ ?_ ?_
  rotate_left 2
  · intro w' hk; obtain ⟨_, _, hq⟩ := hk; have c0 := (CO.out _ _ _ hq).2.2; go_simp; try rfl
  · simp only [Act.put, List.setIfInBounds_toArray, List.set_cons_succ, List.set_cons_zero]; try rfl
  refine flows_take 4 (v := ?_) (a' := ?_) hps rfl (by kernel_rfl) rfl ?_ ?_ ?_
  rotate_left 2
  · intro w' hk; go_simp; try rfl
  · simp only [Act.put, List.setIfInBounds_toArray, List.set_cons_succ, List.set_cons_zero]; try rfl
  refine flows_take 5 (v := ?_) (a' := ?_) hps rfl (by kernel_rfl) rfl ?_ ?_ ?_
  rotate_left 2
  · intro w' hk; go_simp; try rfl
  · simp only [Act.put, List.setIfInBounds_toArray, List.set_cons_succ, List.set_cons_zero]; try rfl
  refine flows_take 6 (v := ?_) (a' := ?_) hps rfl (by kernel_rfl) rfl ?_ ?_ ?_
  rotate_left 2
  · intro w' hk; go_simp; try rfl
  · simp only [Act.put, List.setIfInBounds_toArray, List.set_cons_succ, List.set_cons_zero]; try rfl
  refine flows_take 7 (v := ?_) (a' := ?_) hps rfl (by kernel_rfl) rfl ?_ ?_ ?_
  rotate_left 2
  · intro w' hk; go_simp; try rfl
  · simp only [Act.put, List.setIfInBounds_toArray, List.set_cons_succ, List.set_cons_zero]; try rfl
  refine flows_take 8 (v := ?_) (a' := ?_) hps rfl (by kernel_rfl) rfl ?_ ?_ ?_
  rotate_left 2
  · intro w' hk; obtain ⟨_, _, hq⟩ := hk; have c0 := (CO.out _ _ _ hq).2.1; go_simp; try rfl
  · simp only [Act.put, List.setIfInBounds_toArray, List.set_cons_succ, List.set_cons_zero]; try rfl
  refine flows_take 9 (v := ?_) (a' := ?_) hps rfl (by kernel_rfl) rfl ?_ ?_ ?_
  rotate_left 2
  · intro w' hk; go_simp; try rfl
  · simp only [Act.put, List.setIfInBounds_toArray, List.set_cons_succ, List.set_cons_zero]; try rfl
  refine flows_take 10 (v := ?_) (a' := ?_) hps rfl (by kernel_rfl) rfl ?_ ?_ ?_
  rotate_left 2
  · intro w' hk; go_simp; try rfl
  · simp only [Act.put, List.setIfInBounds_toArray, List.set_cons_succ, List.set_cons_zero]; try rfl
  refine flows_take 11 (v := ?_) (a' := ?_) hps rfl (by kernel_rfl) rfl ?_ ?_ ?_
  rotate_left 2
  · intro w' hk; go_simp; try rfl
  · simp only [Act.put, List.setIfInBounds_toArray, List.set_cons_succ, List.set_cons_zero]; try rfl
  refine flows_take 12 (v := ?_) (a' := ?_) hps rfl (by kernel_rfl) rfl ?_ ?_ ?_
  rotate_left 2
  · intro w' hk; obtain ⟨_, _, hq⟩ := hk; have c0 := (CO.out _ _ _ hq).1; go_simp; try rfl
  · simp only [Act.put, List.setIfInBounds_toArray, List.set_cons_succ, List.set_cons_zero]; try rfl
  refine flows_take 14 (v := ?_) (a' := ?_) hps rfl (by kernel_rfl) rfl ?_ ?_ ?_
  rotate_left 2
  · intro w' hk; go_simp; try rfl
  · simp only [Act.put, List.setIfInBounds_toArray, List.set_cons_succ, List.set_cons_zero]; try rfl
  refine flows_take 15 (v := ?_) (a' := ?_) hps rfl (by kernel_rfl) rfl ?_ ?_ ?_
  rotate_left 2
  · intro w' hk; go_simp; try rfl
  · simp only [Act.put, List.setIfInBounds_toArray, List.set_cons_succ, List.set_cons_zero]; try rfl
  refine flows_take 16 (v := ?_) (a' := ?_) hps rfl (by kernel_rfl) rfl ?_ ?_ ?_
  rotate_left 2
  · intro w' hk; go_simp; try rfl
  · simp only [Act.put, List.setIfInBounds_toArray, List.set_cons_succ, List.set_cons_zero]; try rfl
  refine flows_take 17 (v := ?_) (a' := ?_) hps rfl (by kernel_rfl) rfl ?_ ?_ ?_
  rotate_left 2
  · intro w' hk; obtain ⟨_, _, hq⟩ := hk; have c0 := (CO.out _ _ _ hq).2.2; go_simp; try rfl
  · simp only [Act.put, List.setIfInBounds_toArray, List.set_cons_succ, List.set_cons_zero]; try rfl
  refine flows_take 18 (v := ?_) (a' := ?_) hps rfl (by kernel_rfl) rfl ?_ ?_ ?_
  rotate_left 2
  · intro w' hk; go_simp; try rfl
  · simp only [Act.put, List.setIfInBounds_toArray, List.set_cons_succ, List.set_cons_zero]; try rfl
  refine flows_take 19 (v := ?_) (a' := ?_) hps rfl (by kernel_rfl) rfl ?_ ?_ ?_
  rotate_left 2
  · intro w' hk; go_simp; try rfl
  · simp only [Act.put, List.setIfInBounds_toArray, List.set_cons_succ, List.set_cons_zero]; try rfl
  refine flows_any [13, 20] hps (by kernel_rfl) (by simp) (fun i hi => ?_)
  simp only [List.mem_cons, List.not_mem_nil, or_false] at hi
  rcases hi with rfl | rfl
  · refine ⟨_, rfl, rfl, wp_next (fun K hK => ?_)⟩
    go_simp
    replace TX := Lib.hid (lit_one TX.out x.off x.off rfl)
    have kp : ∃ ss' ls', St B w0 _ (HpX q cap (.slice (some ⟨bb, 0, none⟩) L.length cb) vd (.slice (some ⟨gl, 0, none⟩) 22 cl) ss' L D ls' l) := ⟨_, _, TX.out.tail⟩
    refine hK _ _ ⟨kp, ?_⟩
    clear kp hK
    refine flows_one 20 hps rfl (by kernel_rfl) rfl (wp_next (fun K hK => ?_))
    first | (with_reducible have c0 := (hp_lst TX.out (k := 3) at3 HSS.out C hC).1) | (with_reducible have c0 := (hp_lst TX.out (k := 4) at4 HSS.out C hC).1)
    go_simp
    clear c0
    first | (with_reducible have kp : ∃ ss' ls', St B w0 _ (HpX q cap (.slice (some ⟨bb, 0, none⟩) L.length cb) vd (.slice (some ⟨gl, 0, none⟩) 22 cl) ss' L D ls' l) := ⟨_, _, TX.out⟩) | (with_reducible have kp : ∃ ss' ls', St B w0 _ (HpX q cap (.slice (some ⟨bb, 0, none⟩) L.length cb) vd (.slice (some ⟨gl, 0, none⟩) 22 cl) ss' L D ls' l) := ⟨_, _, TX.out.tail⟩)
    refine hK _ _ ⟨kp, ?_⟩
    clear kp hK
    refine flows_one 21 hps rfl (by kernel_rfl) rfl (wp_next (fun K hK => ?_))
    refine ints_app_at TX.out 0 rfl _ _ rfl rfl _ _ _ (ls C) rfl (hp_lst TX.out.tail (k := 3) rfl HSS.out C hC).2 (by simp; have := HLL.out; omega) ?_
    intro vA wA hA
    replace TX := Lib.hid hA
    clear hA
    have kp : ∃ ss' ls', St B w0 _ (HpX q cap (.slice (some ⟨bb, 0, none⟩) L.length cb) vd (.slice (some ⟨gl, 0, none⟩) 22 cl) ss' L D ls' l) := ⟨_, _, TX.out.tail⟩
    refine hK _ _ ⟨kp, ?_⟩
    clear kp hK
    refine flows_take 22 (v := ?_) (a' := ?_) hps rfl (by kernel_rfl) rfl ?_ ?_ ?_
    rotate_left 2
    · intro w' hk; go_simp; try rfl
    · simp only [Act.put, List.setIfInBounds_toArray, List.set_cons_succ, List.set_cons_zero]; try rfl
    refine flows_one 23 hps rfl (by kernel_rfl) rfl (wp_next (fun K hK => ?_))
    refine mx_store_at TX.out 3 rfl C (by rw [HSS.out]; exact hC) 74 _ _ rfl rfl rfl (by kernel_rfl) ?_
    intro wB sX hB
    replace TX := Lib.hid (show St B w0 wB (HpX q cap (.slice (some ⟨bb, 0, none⟩) L.length cb) vd (.slice (some ⟨gl, 0, none⟩) 22 cl) (ss.set C sX) L D (inL ls C x.off) l) from by show St B w0 wB (_ :: _ :: _ :: MxO _ _ _ (rowsOf (inL ls C x.off)) :: l); rw [inL_rows ls hC]; exact hB)
    clear hB
    have kp : ∃ ss' ls', St B w0 _ (HpX q cap (.slice (some ⟨bb, 0, none⟩) L.length cb) vd (.slice (some ⟨gl, 0, none⟩) 22 cl) ss' L D ls' l) := ⟨_, _, TX.out⟩
    refine hK _ _ ⟨kp, ?_⟩
    clear kp hK
    refine flows_done hps (by kernel_rfl) ?_
    skip
    go_wp2
    go_end0
    exact ⟨rfl, _, by rw [List.length_set]; exact HSS.out, TX.out⟩
  · refine ⟨_, rfl, rfl, wp_next (fun K hK => ?_)⟩
    first | (with_reducible have c0 := (hp_lst TX.out (k := 3) at3 HSS.out C hC).1) | (with_reducible have c0 := (hp_lst TX.out (k := 4) at4 HSS.out C hC).1)
    go_simp
    clear c0
    first | (with_reducible have kp : ∃ ss' ls', St B w0 _ (HpX q cap (.slice (some ⟨bb, 0, none⟩) L.length cb) vd (.slice (some ⟨gl, 0, none⟩) 22 cl) ss' L D ls' l) := ⟨_, _, TX.out⟩) | (with_reducible have kp : ∃ ss' ls', St B w0 _ (HpX q cap (.slice (some ⟨bb, 0, none⟩) L.length cb) vd (.slice (some ⟨gl, 0, none⟩) 22 cl) ss' L D ls' l) := ⟨_, _, TX.out.tail⟩)
    refine hK _ _ ⟨kp, ?_⟩
    clear kp hK
    refine flows_one 13 hps rfl (by kernel_rfl) rfl (wp_next (fun K hK => ?_))
    go_simp
    replace TX := Lib.hid (lit_one TX.out x.off x.off rfl)
    have kp : ∃ ss' ls', St B w0 _ (HpX q cap (.slice (some ⟨bb, 0, none⟩) L.length cb) vd (.slice (some ⟨gl, 0, none⟩) 22 cl) ss' L D ls' l) := ⟨_, _, TX.out.tail⟩
    refine hK _ _ ⟨kp, ?_⟩
    clear kp hK
    refine flows_one 21 hps rfl (by kernel_rfl) rfl (wp_next (fun K hK => ?_))
    refine ints_app_at TX.out 0 rfl _ _ rfl rfl _ _ _ (ls C) rfl (hp_lst TX.out.tail (k := 3) rfl HSS.out C hC).2 (by simp; have := HLL.out; omega) ?_
    intro vA wA hA
    replace TX := Lib.hid hA
    clear hA
    have kp : ∃ ss' ls', St B w0 _ (HpX q cap (.slice (some ⟨bb, 0, none⟩) L.length cb) vd (.slice (some ⟨gl, 0, none⟩) 22 cl) ss' L D ls' l) := ⟨_, _, TX.out.tail⟩
    refine hK _ _ ⟨kp, ?_⟩
    clear kp hK
    refine flows_take 22 (v := ?_) (a' := ?_) hps rfl (by kernel_rfl) rfl ?_ ?_ ?_
    rotate_left 2
    · intro w' hk; go_simp; try rfl
    · simp only [Act.put, List.setIfInBounds_toArray, List.set_cons_succ, List.set_cons_zero]; try rfl
    refine flows_one 23 hps rfl (by kernel_rfl) rfl (wp_next (fun K hK => ?_))
    refine mx_store_at TX.out 3 rfl C (by rw [HSS.out]; exact hC) 74 _ _ rfl rfl rfl (by kernel_rfl) ?_
    intro wB sX hB
    replace TX := Lib.hid (show St B w0 wB (HpX q cap (.slice (some ⟨bb, 0, none⟩) L.length cb) vd (.slice (some ⟨gl, 0, none⟩) 22 cl) (ss.set C sX) L D (inL ls C x.off) l) from by show St B w0 wB (_ :: _ :: _ :: MxO _ _ _ (rowsOf (inL ls C x.off)) :: l); rw [inL_rows ls hC]; exact hB)
    clear hB
    have kp : ∃ ss' ls', St B w0 _ (HpX q cap (.slice (some ⟨bb, 0, none⟩) L.length cb) vd (.slice (some ⟨gl, 0, none⟩) 22 cl) ss' L D ls' l) := ⟨_, _, TX.out⟩
    refine hK _ _ ⟨kp, ?_⟩
    clear kp hK
    refine flows_done hps (by kernel_rfl) ?_
    skip
    go_wp2
    go_end0
    exact ⟨rfl, _, by rw [List.length_set]; exact HSS.out, TX.out⟩
end
end Go.Proofs.Ytenbpbnffnodhaa

/- A region that draws its order, of which one operation waits for all reads: behind that one the condition on the world need not hold. -/
namespace Go.Own
open Go Go.RowKit
/-- Whatever order is picked: until number t has come up the world meets S. -/
def AnyT (P : Program) (ops : Array Oper) (Q : Exit → Act → World → Prop) (S : World → Prop) (t : Nat) : Nat → Array Bool → Act → World → Prop
  | 0, l, a, w => Region.ready .any ops l = [] ∧ Q .normal a w
  | f + 1, l, a, w => (Region.ready .any ops l = [] → Q .normal a w) ∧ ∀ i ∈ Region.ready .any ops l, wpOp P ops Q i (fun a' w' => ((l.setIfInBounds i true).getD t true = false → S w') ∧ AnyT P ops Q S t f (l.setIfInBounds i true) a' w') a w
def waits (ops : Array Oper) (t i : Nat) : Bool := match ops[t]? with
  | some o => o.after.any fun e => Region.binds .any e && e.on == i
  | none => true
section
variable {P : Program} {ops : Array Oper} {Q : Exit → Act → World → Prop} {S S0 : World → Prop} {t : Nat}
theorem AnyT.any : ∀ (f : Nat) (l : Array Bool) (a : Act) (w : World), AnyT P ops Q S t f l a w → wpAny P .any ops Q f l a w
  | 0, _, _, _, h => h
  | f + 1, _, _, _, h => ⟨h.1, fun i hi => wpOp_mono (fun a' w' h' => AnyT.any f _ a' w' h'.2) (h.2 i hi)⟩
theorem AnyT.done {l : Array Bool} {a : Act} {w : World} (hr : Region.ready .any ops l = []) (h : Q .normal a w) : ∀ f, AnyT P ops Q S t f l a w
  | 0 => ⟨hr, h⟩
  | _ + 1 => ⟨fun _ => h, by rw [hr]; simp⟩
theorem AnyT.all {rs : List Nat} {f : Nat} {l : Array Bool} {a : Act} {w : World} (hr : Region.ready .any ops l = rs) (hne : rs ≠ [])
    (h : ∀ i ∈ rs, wpOp P ops Q i (fun a' w' => ((l.setIfInBounds i true).getD t true = false → S w') ∧ AnyT P ops Q S t f (l.setIfInBounds i true) a' w') a w) : AnyT P ops Q S t (f + 1) l a w :=
  ⟨fun h0 => absurd (hr ▸ h0) hne, hr ▸ h⟩
/-- What yields the same in all worlds that meet S0 may be taken at once: S0 is S, and number t waits for it; or S0 is met by all worlds. -/
theorem AnyT.first {i : Nat} {oi : Oper} {v : Value} (hi : ops[i]? = some oi) (hsel : ∀ (j : Nat) (o : Oper) cs b, ops[j]? = some o → o.op ≠ .select cs b)
    (hQ : ∀ c a w, Q (.panic c) (a.put oi.dst v) w → Q (.panic c) a w) (hit : i ≠ t) (hS : ∀ w, S w → S0 w) (hT : (∀ w, S0 w) ∨ waits ops t i = true) :
    ∀ (f : Nat) (l : Array Bool) (a : Act) (w : World),
      (∀ j oj, ops[j]? = some oj → j ≠ i → l.getD j true = false → (∀ e ∈ oj.after, Region.binds .any e = true → e.on ≠ i) → oi.apart ops oj = true) →
      i ∈ Region.ready .any ops l → YieldsIf P ops S0 oi v a → (l.getD t true = false ∨ ∀ w, S0 w) → (l.getD t true = false → S w) →
      AnyT P ops Q S t f (l.setIfInBounds i true) (a.put oi.dst v) w → AnyT P ops Q S t (f + 1) l a w := by
  have now : ∀ {l : Array Bool} {w : World}, (l.getD t true = false ∨ ∀ w, S0 w) → (l.getD t true = false → S w) → S0 w := fun h1 h2 => h1.elim (fun h => hS _ (h2 h)) fun h => h _
  have here : ∀ {l : Array Bool} {w : World}, (l.getD t true = false → S w) → ((l.setIfInBounds i true).getD t true = false → S w) := fun h1 h2 => h1 (by rw [getD_set_ne true hit] at h2; exact h2)
  intro f
  induction f with
  | zero =>
    intro l a w _ hr hy hl hw H
    refine ⟨fun h => (by rw [h] at hr; cases hr), fun j hj => ?_⟩
    by_cases hji : j = i
    · subst hji; exact hy.wpOp hi (now hl hw) ⟨here hw, H⟩
    · have := ready_mono hj hji
      rw [H.1] at this
      cases this
  | succ f ih =>
    intro l a w hfree hr hy hl hw H
    refine ⟨fun h => (by rw [h] at hr; cases hr), fun j hj => ?_⟩
    by_cases hji : j = i
    · subst hji; exact hy.wpOp hi (now hl hw) ⟨here hw, H⟩
    · have h1 := H.2 j (ready_mono hj hji)
      obtain ⟨hjun, oj, hoj, hall⟩ := mem_ready.1 hj
      have hnot : ∀ e ∈ oj.after, Region.binds .any e = true → e.on ≠ i := fun e he hb heq => by
        have h1 := hall e he hb
        have h0 := (mem_ready.1 hr).1
        rw [heq] at h1
        rcases Nat.lt_or_ge i l.size with h' | h'
        · simp [h'] at h0 h1; rw [h0] at h1; cases h1
        · simp [Array.getElem?_eq_none h'] at h1
      have h2 := wpOp_putIf hoj (hfree j oj hoj hji hjun hnot) (fun cs b => hsel i oi cs b hi) (fun cs b => hsel j oj cs b hoj) hQ hy h1
      have hfree' : ∀ k ok, ops[k]? = some ok → k ≠ i → (l.setIfInBounds j true).getD k true = false →
          (∀ e ∈ ok.after, Region.binds .any e = true → e.on ≠ i) → oi.apart ops ok = true := fun k ok hk hki hun hno => by
        refine hfree k ok hk hki ?_ hno
        by_cases hjk : j = k
        · subst hjk; exact hjun
        · rw [getD_set_ne true hjk] at hun; exact hun
      have hc : ((l.setIfInBounds i true).setIfInBounds j true).getD t true = (l.setIfInBounds j true).getD t true := by
        rw [Array.setIfInBounds_comm _ _ (Ne.symm hji), getD_set_ne true hit]
      refine wpOp_mono (fun a' w' h3 => ⟨fun h => h3.2.1 (by rw [hc]; exact h), ?_⟩) h2
      refine ih (l.setIfInBounds j true) a' w' hfree' (ready_mono hr (Ne.symm hji)) h3.1 ?_ (fun h => h3.2.1 (by rw [hc]; exact h)) ?_
      · rcases hT with hT | hT
        · exact .inr hT
        · rcases hl with hl | hl
          · refine .inl ?_
            have hjt : j ≠ t := fun e => by
              subst e
              unfold waits at hT
              rw [hoj] at hT
              simp only [Array.any_eq_true', Bool.and_eq_true, beq_iff_eq] at hT
              obtain ⟨e, he, hb, ho⟩ := hT
              exact hnot e he hb ho
            rw [getD_set_ne true hjt]; exact hl
          · exact .inr hl
      · rw [Array.setIfInBounds_comm _ _ hji]
        exact h3.2.2
end
/-- What is left of the region goes well from the world W. -/
def FlowT (P : Program) (ops : List Oper) (Q : Exit → Act → World → Prop) (S : World → Prop) (t fuel : Nat) (listed : Array Bool) (a : Act) (W : World) : Prop :=
  PanicsSame Q ∧ ((listed.getD t true = false → S W) → AnyT P ops.toArray Q S t fuel listed a W)
section
variable {P : Program} {ops : List Oper} {Q : Exit → Act → World → Prop} {S : World → Prop} {t fuel : Nat} {listed : Array Bool} {a a' : Act} {W : World}
theorem flowt_begin {id : Nat} {l : List Oper} (t : Nat) (hm : P.follows .mixedOrders = true) (n : Nat) (hn : l.length = n) (hq : PanicsSame Q) (hS : S W.drew) (h : PanicsSame Q → FlowT P l Q S t n (List.replicate n false).toArray a W.drew) : (Code.region id l.toArray true).wp P Q a W := by
  subst hn
  refine wp_region_any hm (AnyT.any _ _ _ _ (S := S) (t := t) ?_)
  have := (h hq).2 fun _ => hS
  simpa using this
/-- A read: number t waits for it. -/
theorem flowt_read (i : Nat) {oi : Oper} {v : Value} (hp : PanicsSame Q) (hi : (ops.drop i).head? = some oi) (hc : (Region.noSelect ops.toArray && Region.free .any ops.toArray listed i && (Region.ready .any ops.toArray listed).contains i && (i != t) && waits ops.toArray t i && !listed.getD t true) = true)
    (hw : Region.wanted oi (yielded ops.toArray a.tmps) = true) (hrun : ∀ w, S w → (execOp a.eval oi).run P w = .ok (.value v) w) (ha : a.put oi.dst v = a')
    (h : FlowT P ops Q S t fuel (listed.setIfInBounds i true) a' W) : FlowT P ops Q S t (fuel + 1) listed a W := by
  subst ha
  simp only [Bool.and_eq_true, bne_iff_ne, Bool.not_eq_true'] at hc
  obtain ⟨⟨⟨⟨⟨h1, h2⟩, h3⟩, h4⟩, h5⟩, h6⟩ := hc
  refine ⟨hp, fun hS => AnyT.first (S0 := S) (at_of hi) (Region.noSelect_spec h1) (fun c a' w' q => hp c _ _ _ (put_defers _ _ _) q) h4 (fun _ h => h) (.inr h5) fuel listed a W (Region.free_spec (at_of hi) h2) (by simpa using h3) (.inl ⟨hw, fun w' k' => hrun w' k'⟩) (.inl h6) hS (h.2 fun h7 => hS ?_)⟩
  rw [getD_set_ne true h4] at h7; exact h7
/-- What yields the same in whatever world. -/
theorem flowt_take (i : Nat) {oi : Oper} {v : Value} (hp : PanicsSame Q) (hi : (ops.drop i).head? = some oi) (hc : (Region.noSelect ops.toArray && Region.free .any ops.toArray listed i && (Region.ready .any ops.toArray listed).contains i && (i != t)) = true)
    (hw : Region.wanted oi (yielded ops.toArray a.tmps) = true) (hrun : ∀ w, True → (execOp a.eval oi).run P w = .ok (.value v) w) (ha : a.put oi.dst v = a')
    (h : FlowT P ops Q S t fuel (listed.setIfInBounds i true) a' W) : FlowT P ops Q S t (fuel + 1) listed a W := by
  subst ha
  simp only [Bool.and_eq_true, bne_iff_ne] at hc
  obtain ⟨⟨⟨h1, h2⟩, h3⟩, h4⟩ := hc
  refine ⟨hp, fun hS => AnyT.first (S0 := fun _ => True) (at_of hi) (Region.noSelect_spec h1) (fun c a' w' q => hp c _ _ _ (put_defers _ _ _) q) h4 (fun _ _ => trivial) (.inl fun _ => trivial) fuel listed a W (Region.free_spec (at_of hi) h2) (by simpa using h3) (.inl ⟨hw, fun w' k' => hrun w' k'⟩) (.inr fun _ => trivial) hS (h.2 fun h7 => hS ?_)⟩
  rw [getD_set_ne true h4] at h7; exact h7
theorem flowt_one (i : Nat) {oi : Oper} (hp : PanicsSame Q) (hi : (ops.drop i).head? = some oi) (hr : Region.ready .any ops.toArray listed = [i]) (hw : Region.wanted oi (yielded ops.toArray a.tmps) = true)
    (h : oi.wp P a W (fun a' w' => ((listed.setIfInBounds i true).getD t true = false → S w') ∧ FlowT P ops Q S t fuel (listed.setIfInBounds i true) a' w') Q) : FlowT P ops Q S t (fuel + 1) listed a W :=
  ⟨hp, fun _ => AnyT.all hr (by simp) fun j hj => by
    obtain rfl : j = i := by simpa using hj
    refine wpOp_mono (K := fun a' w' => ((listed.setIfInBounds j true).getD t true = false → S w') ∧ FlowT P ops Q S t fuel (listed.setIfInBounds j true) a' w') (fun a' w' h' => ⟨h'.1, h'.2.2 h'.1⟩) ?_
    unfold wpOp
    simp only [at_of hi, hw, if_true]
    exact .inl h⟩
theorem flowt_any (rs : List Nat) (hp : PanicsSame Q) (hr : Region.ready .any ops.toArray listed = rs) (hne : rs ≠ [])
    (h : ∀ i ∈ rs, ∃ oi, (ops.drop i).head? = some oi ∧ Region.wanted oi (yielded ops.toArray a.tmps) = true ∧
      oi.wp P a W (fun a' w' => ((listed.setIfInBounds i true).getD t true = false → S w') ∧ FlowT P ops Q S t fuel (listed.setIfInBounds i true) a' w') Q) : FlowT P ops Q S t (fuel + 1) listed a W :=
  ⟨hp, fun _ => AnyT.all hr hne fun j hj => by
    obtain ⟨oi, hi, hw, h⟩ := h j hj
    refine wpOp_mono (K := fun a' w' => ((listed.setIfInBounds j true).getD t true = false → S w') ∧ FlowT P ops Q S t fuel (listed.setIfInBounds j true) a' w') (fun a' w' h' => ⟨h'.1, h'.2.2 h'.1⟩) ?_
    unfold wpOp
    simp only [at_of hi, hw, if_true]
    exact .inl h⟩
theorem flowt_done (hp : PanicsSame Q) (hr : Region.ready .any ops.toArray listed = []) (h : Q .normal a W) : FlowT P ops Q S t fuel listed a W :=
  ⟨hp, fun _ => AnyT.done hr h fuel⟩
end
end Go.Own

/- The reference's heap: a block that isn't there any more, and one that comes to stand. -/
namespace Go.Own
open Go Go.RowKit
/-- A part of a slice. -/
theorem Sl.part {w : World} {a : Option Addr} {n c z : Nat} {cs : List Value} (h : Sl w a n c z cs) (x y : Nat) (hxy : x ≤ y) (hy : y ≤ n) (b o : Nat) (ha : a = Option.some ⟨b, o, none⟩) : Sl w (Option.some ⟨b, o + x * z, none⟩) (y - x) (c - x) z ((cs.drop (x * z)).take ((y - x) * z)) where
  len := by
    have h1 := h.len
    rw [List.length_take, List.length_drop, h1]
    have h2 : y * z ≤ n * z := Nat.mul_le_mul_right z hy
    have h3 : x * z ≤ y * z := Nat.mul_le_mul_right z hxy
    rw [Nat.sub_mul]; omega
  cap := by have := h.cap; omega
  room := by have := h.room; omega
  nilcap := fun e => by cases e
  cells := fun i v hi => by
    rw [List.getElem?_take] at hi
    split at hi
    · rw [List.getElem?_drop] at hi
      obtain ⟨b', o', e, hc⟩ := h.cells _ v hi
      rw [ha] at e
      cases e
      exact ⟨b, o + x * z, rfl, by rw [show o + x * z + i = o + (x * z + i) by omega]; exact hc⟩
    · cases hi
/-- What is behind: where the model says that it lies. -/
theorem Sl.from {w : World} {n c z b o : Nat} {cs : List Value} (h : Sl w (Option.some ⟨b, o, Option.none⟩) n c z cs) (k : Nat) (hk : k ≤ n) (ad : Option Addr) (ha : ad = if c = k then Option.some ⟨b, o, Option.none⟩ else Option.some ⟨b, o + k * z, Option.none⟩) : Sl w ad (n - k) (c - k) z (cs.drop (k * z)) := by
  have hcap := h.cap
  have hl := h.len
  by_cases hc : c = k
  · rw [if_pos hc] at ha
    have hnk : n = k := by omega
    have hd : cs.drop (k * z) = [] := List.drop_of_length_le (by rw [hl, hnk]; exact Nat.le_refl _)
    rw [hd, ha]
    exact ⟨by rw [hnk]; simp, by omega, by have := h.room; omega, (fun e => by cases e), (fun i v hi => by cases hi)⟩
  · rw [if_neg hc] at ha
    have := h.part k n hk (Nat.le_refl _) b o rfl
    rw [ha]
    have he : (cs.drop (k * z)).take ((n - k) * z) = cs.drop (k * z) := List.take_of_length_le (by rw [List.length_drop, hl, Nat.sub_mul]; exact Nat.le_refl _)
    rw [he] at this
    exact this
theorem Sl.upto {w : World} {n c z b o : Nat} {cs : List Value} (h : Sl w (Option.some ⟨b, o, Option.none⟩) n c z cs) (k : Nat) (hk : k ≤ n) : Sl w (Option.some ⟨b, o, Option.none⟩) k c z (cs.take (k * z)) := by
  have := h.part 0 k (Nat.zero_le _) hk b o rfl
  simpa using this
theorem blC_drop (L : List Blk) (x : Nat) : (L.map blC).flatten.drop (x * 3) = ((L.drop x).map blC).flatten := by
  induction L generalizing x with
  | nil => simp
  | cons y r ih => cases x with
    | zero => simp
    | succ x =>
      rw [List.map_cons, List.flatten_cons, List.drop_append, List.drop_of_length_le (by rw [blC_len]; omega), List.nil_append, blC_len, show (x + 1) * 3 - 3 = x * 3 by omega, ih]; rfl
theorem blC_take (L : List Blk) (x : Nat) : (L.map blC).flatten.take (x * 3) = ((L.take x).map blC).flatten := by
  induction L generalizing x with
  | nil => simp
  | cons y r ih => cases x with
    | zero => simp
    | succ x =>
      rw [List.map_cons, List.flatten_cons, List.take_append, List.take_of_length_le (by rw [blC_len]; omega), blC_len, show (x + 1) * 3 - 3 = x * 3 by omega, ih]; rfl
end Go.Own
namespace Go.Proofs.Ytenbpbnffnodhaa
open Go Go.RowKit Go.Own
set_option linter.unusedVariables false
set_option maxRecDepth 100000
section
variable {B : Nat} {w0 w : World} {l : List Ob} {q : Nat} {cap : Int} {vb vd vl : Value} {ss : List Sv} {L : List Blk} {D : List Value} {ls : Ls}
section
variable {ops : Array Oper} {rest : List Oper} {o : Oper} {a : Act} {Q : Exit → Act → World → Prop} {K : Act → World → Prop}
/-- 'append(x, l...)', blocks. -/
theorem bls_app_at (h : St B w0 w l) (i : Nat) {v : Value} {L : List Blk} (hi : l[i]? = some (BlsO v L)) (s x : Operand)
    (ho : o.op = .call { callee := .builtin .append, args := #[s, x], argTypes := #[75, 75] }) (hs : a.eval s = v) (ad : Option Addr) (m c : Nat) (L2 : List Blk) (hx : a.eval x = .slice ad m c) (hb : Sl w ad m c 3 (L2.map blC).flatten)
    (hL : L.length + m ≤ 1000000) (hk : ∀ v' w', St B w0 w' (l.set i (BlsO v' (L ++ L2))) → K (a.put o.dst v') w') : o.wp Try.prog a w K Q := by
  have h3 : (L2.map blC).flatten.length = L2.length * 3 := by
    clear hk hb
    induction L2 with
    | nil => rfl
    | cons y r ih => rw [List.map_cons, List.flatten_cons, List.length_append, ih, blC_len, List.length_cons]; omega
  have hm : m = L2.length := by have := hb.len; omega
  have hone : ∀ u ∈ (L2.map blC).flatten, u.oneCell' = true := fun u hu => by
    obtain ⟨cs, hcs, hu⟩ := List.mem_flatten.1 hu
    obtain ⟨y, _, rfl⟩ := List.mem_map.1 hcs
    exact blC_one y u hu
  refine app_at s x 75 ho 0 77 _ 3 24 Try.underlying75 info_bl rfl (by decide) v L.length _ hs (h.own hi) ad m c _ hx hb hone (by omega) (by omega) (Nat.zero_le _) fun v' w' h1 h2 h3 => hk v' w' ?_
  have := h.ownTo hi w' v' _ _ h1 h2 h3
  unfold BlsO
  rw [List.length_append, List.map_append, List.flatten_append, ← hm]; exact this
/-- 'append(x, l...)', slices of bytes. -/
theorem ds_app_at (h : St B w0 w l) (i : Nat) {v : Value} {D : List Value} (hi : l[i]? = some (DsO v D)) (s x : Operand)
    (ho : o.op = .call { callee := .builtin .append, args := #[s, x], argTypes := #[44, 44] }) (hs : a.eval s = v) (ad : Option Addr) (m c : Nat) (D2 : List Value) (hx : a.eval x = .slice ad m c) (hb : Sl w ad m c 1 D2)
    (hone : ∀ u ∈ D2, u.oneCell' = true) (hL : D.length + m ≤ 1000000) (hk : ∀ v' w', St B w0 w' (l.set i (DsO v' (D ++ D2))) → K (a.put o.dst v') w') : o.wp Try.prog a w K Q := by
  have hm : m = D2.length := by have := hb.len; omega
  refine app_at s x 44 ho 0 31 (.slice none 0 0) 1 24 Try.underlying44 (by unfold Info; kernel_rfl) rfl (by decide) v D.length _ hs (h.own hi) ad m c _ hx hb hone (by omega) (by omega) (Nat.zero_le _) fun v' w' h1 h2 h3 => hk v' w' ?_
  have := h.ownTo hi w' v' _ _ h1 h2 h3
  unfold DsO
  rw [List.length_append, ← hm]; exact this
end
theorem bls0 (h : St B w0 w l) : St B w0 (w.alloc (.cells #[] 77 (0, 0))) (BlsO (.slice (some ⟨w.heap.size, 0, none⟩) 0 0) [] :: l) := h.addOwn ((Below.refl _ _).alloc (Nat.le_refl _) _) (own_empty w 77 3)
theorem ds0 (h : St B w0 w l) : St B w0 (w.alloc (.cells #[] 31 (0, 0))) (DsO (.slice (some ⟨w.heap.size, 0, none⟩) 0 0) [] :: l) := h.addOwn ((Below.refl _ _).alloc (Nat.le_refl _) _) (own_empty w 31 1)
theorem ds_sl (h : St B w0 w l) {i : Nat} {a : Option Addr} {n c : Nat} {D : List Value} (hi : l[i]? = some (DsO (.slice a n c) D)) : Sl w a n c 1 D := by
  obtain ⟨a, c, e, _, hs⟩ := Sl.of_owned (h.own hi)
  cases e; exact hs
set_option maxHeartbeats 4000000 in
theorem rh_drop (h : St B w0 w (HpX q cap vb vd vl ss L D ls l)) (i : Nat) (hi : i < L.length) (hD : D.length = L.length) (hone : ∀ u ∈ D, u.oneCell' = true) (hL : L.length ≤ 2000) :
    Calls Try.prog 208 #[hpP q, .int .i64 i] w fun e w' => e = .returned (.tuple #[]) ∧ ∃ vb' vd', St B w0 w' (HpX q cap vb' vd' vl ss (L.take i ++ L.drop (i + 1)) (D.take i ++ D.drop (i + 1)) ls l) := by
  obtain ⟨ab, cb, rfl, hcap, hroom, hbl⟩ := hp_bx h
  obtain ⟨bb, rfl, b0, b1, b2⟩ := hbl i hi
  obtain ⟨ad, cd, rfl, _, hsd⟩ := Sl.of_owned (h.own (i := 2) rfl)
  have hcd := Sl.cap hsd; have hrd := Sl.room hsd
  obtain ⟨bd, _, _, e2, _⟩ := own_some (h.own (i := 2) rfl) (by omega)
  cases e2
  obtain ⟨c0, c1, c2, c3⟩ := hp_cells h
  have TX := Lib.hid h.drew
  have HONE := Lib.hid hone
  have HD := Lib.hid hD
  have e1 : IntKind.i64.wrap ((i : Int) + 1) = (i : Int) + 1 := IntWalk.i64_in _ (by omega)
  have g1 : i ≤ cb := by omega
  have g2 : 0 ≤ (i : Int) + 1 ∧ (i : Int) + 1 ≤ (L.length : Int) := by omega
  have g3 : 0 ≤ (i : Int) + 1 := by omega
  have g4 : (i : Int) + 1 ≤ (L.length : Int) := by omega
  have g5 : i ≤ cd := by omega
  have g6 : 0 ≤ (i : Int) + 1 ∧ (i : Int) + 1 ≤ (D.length : Int) := by omega
  have hlt : (L.take i).length = i := by rw [List.length_take]; omega
  have HLT := Lib.hid hlt
  clear h hbl b0 b1 b2 c0 c3 hsd hone hlt hD
  go_enter Try.func208, Try.ntmps208
  go_wp2
  refine flowt_begin 19 (S := fun w' => w'.cell? ⟨q, 1, none⟩ = some (.slice (some ⟨bb, 0, none⟩) L.length cb)) hmixed 20 rfl (by repeat (first | with_reducible refine ps_then ?_ | with_reducible refine ps_block ?_ | with_reducible exact ps_body | refine ps_then ?_ | refine ps_block ?_ | exact ps_body)) (hp_cells TX.out).2.1 (fun hps => ?_)
  simp only [List.replicate]
  generalize w.drew = wx at TX ⊢
  refine flowt_take 0 (v := ?_) (a' := ?_) hps rfl (by kernel_rfl) rfl ?_ ?_ ?_
  rotate_left 2
  · intro w' hk; go_simp; try rfl
  · simp only [Act.put, List.setIfInBounds_toArray, List.set_cons_succ, List.set_cons_zero]; try rfl
  refine flowt_take 2 (v := ?_) (a' := ?_) hps rfl (by kernel_rfl) rfl ?_ ?_ ?_
  rotate_left 2
  · intro w' hk; go_simp; try rfl
  · simp only [Act.put, List.setIfInBounds_toArray, List.set_cons_succ, List.set_cons_zero]; try rfl
  refine flowt_take 3 (v := ?_) (a' := ?_) hps rfl (by kernel_rfl) rfl ?_ ?_ ?_
  rotate_left 2
  · intro w' hk; go_simp; try rfl
  · simp only [Act.put, List.setIfInBounds_toArray, List.set_cons_succ, List.set_cons_zero]; try rfl
  refine flowt_take 4 (v := ?_) (a' := ?_) hps rfl (by kernel_rfl) rfl ?_ ?_ ?_
  rotate_left 2
  · intro w' hk; go_simp; try rfl
  · simp only [Act.put, List.setIfInBounds_toArray, List.set_cons_succ, List.set_cons_zero]; try rfl
  refine flowt_read 5 (v := ?_) (a' := ?_) hps rfl (by kernel_rfl) rfl ?_ ?_ ?_
  rotate_left 2
  · intro w' hk; have c1 := hk; go_simp; try rfl
  · simp only [Act.put, List.setIfInBounds_toArray, List.set_cons_succ, List.set_cons_zero]; try rfl
  refine flowt_take 6 (v := ?_) (a' := ?_) hps rfl (by kernel_rfl) rfl ?_ ?_ ?_
  rotate_left 2
  · intro w' hk; go_simp; try rfl
  · simp only [Act.put, List.setIfInBounds_toArray, List.set_cons_succ, List.set_cons_zero]; try rfl
  refine flowt_take 7 (v := ?_) (a' := ?_) hps rfl (by kernel_rfl) rfl ?_ ?_ ?_
  rotate_left 2
  · intro w' hk; go_simp; try rfl
  · simp only [Act.put, List.setIfInBounds_toArray, List.set_cons_succ, List.set_cons_zero]; try rfl
  refine flowt_take 9 (v := ?_) (a' := ?_) hps rfl (by kernel_rfl) rfl ?_ ?_ ?_
  rotate_left 2
  · intro w' hk; go_simp; try rfl
  · simp only [Act.put, List.setIfInBounds_toArray, List.set_cons_succ, List.set_cons_zero]; try rfl
  refine flowt_take 10 (v := ?_) (a' := ?_) hps rfl (by kernel_rfl) rfl ?_ ?_ ?_
  rotate_left 2
  · intro w' hk; go_simp; try rfl
  · simp only [Act.put, List.setIfInBounds_toArray, List.set_cons_succ, List.set_cons_zero]; try rfl
  refine flowt_take 11 (v := ?_) (a' := ?_) hps rfl (by kernel_rfl) rfl ?_ ?_ ?_
  rotate_left 2
  · intro w' hk; go_simp; try rfl
  · simp only [Act.put, List.setIfInBounds_toArray, List.set_cons_succ, List.set_cons_zero]; try rfl
  refine flowt_read 12 (v := ?_) (a' := ?_) hps rfl (by kernel_rfl) rfl ?_ ?_ ?_
  rotate_left 2
  · intro w' hk; have c1 := hk; go_simp; try rfl
  · simp only [Act.put, List.setIfInBounds_toArray, List.set_cons_succ, List.set_cons_zero]; try rfl
  refine flowt_take 13 (v := ?_) (a' := ?_) hps rfl (by kernel_rfl) rfl ?_ ?_ ?_
  rotate_left 2
  · intro w' hk; go_simp; try rfl
  · simp only [Act.put, List.setIfInBounds_toArray, List.set_cons_succ, List.set_cons_zero]; try rfl
  refine flowt_take 14 (v := ?_) (a' := ?_) hps rfl (by kernel_rfl) rfl ?_ ?_ ?_
  rotate_left 2
  · intro w' hk; go_simp; try rfl
  · simp only [Act.put, List.setIfInBounds_toArray, List.set_cons_succ, List.set_cons_zero]; try rfl
  refine flowt_take 15 (v := ?_) (a' := ?_) hps rfl (by kernel_rfl) rfl ?_ ?_ ?_
  rotate_left 2
  · intro w' hk; go_simp; try rfl
  · simp only [Act.put, List.setIfInBounds_toArray, List.set_cons_succ, List.set_cons_zero]; try rfl
  refine flowt_one 1 hps rfl (by kernel_rfl) rfl (wp_next (fun K hK => ?_))
  go_simp
  replace TX := Lib.hid (bls0 TX.out)
  have kp := (hp_cells TX.out.tail).2.1
  refine hK _ _ ⟨fun _ => kp, ?_⟩
  clear kp hK
  refine flowt_one 8 hps rfl (by kernel_rfl) rfl (wp_next (fun K hK => ?_))
  refine bls_app_at TX.out 0 rfl _ _ rfl rfl _ _ _ (L.take i) rfl (by have hx := Sl.upto (bls_sl TX.out (i := 2) rfl).2 i (by omega); rw [blC_take] at hx; exact hx) (by rw [List.length_nil]; omega) ?_
  intro vA wA hA
  replace TX := Lib.hid hA
  clear hA
  have kp := (hp_cells TX.out.tail).2.1
  refine hK _ _ ⟨fun _ => kp, ?_⟩
  clear kp hK
  refine flowt_one 16 hps rfl (by kernel_rfl) rfl (wp_next (fun K hK => ?_))
  refine bls_app_at TX.out 0 rfl _ _ rfl rfl _ _ _ (L.drop (i + 1)) rfl (by have hx := Sl.from (bls_sl TX.out (i := 2) rfl).2 (i + 1) hi _ rfl; rw [blC_drop, Nat.zero_add] at hx; exact hx) (by rw [List.nil_append, HLT.out]; omega) ?_
  intro vA2 wA2 hA
  replace TX := Lib.hid hA
  clear hA
  have kp := (hp_cells TX.out.tail).2.1
  refine hK _ _ ⟨fun _ => kp, ?_⟩
  clear kp hK
  refine flowt_take 17 (v := ?_) (a' := ?_) hps rfl (by kernel_rfl) rfl ?_ ?_ ?_
  rotate_left 2
  · intro w' hk; go_simp; try rfl
  · simp only [Act.put, List.setIfInBounds_toArray, List.set_cons_succ, List.set_cons_zero]; try rfl
  refine flowt_take 18 (v := ?_) (a' := ?_) hps rfl (by kernel_rfl) rfl ?_ ?_ ?_
  rotate_left 2
  · intro w' hk; go_simp; try rfl
  · simp only [Act.put, List.setIfInBounds_toArray, List.set_cons_succ, List.set_cons_zero]; try rfl
  refine flowt_one 19 hps rfl (by kernel_rfl) rfl (wp_next (fun K hK => ?_))
  refine hp_newB_at TX.out _ _ 75 rfl rfl rfl (by kernel_rfl) ?_
  intro wB hB
  replace TX := Lib.hid hB
  clear hB
  refine hK _ _ ⟨fun h => absurd (show true = false from h) (by decide), ?_⟩
  clear hK
  refine flowt_done hps (by kernel_rfl) ?_
  generalize (if cb = i + 1 then (some ⟨bb, 0, none⟩ : Option Addr) else some ⟨bb, (i + 1) * 3, none⟩) = aZ
  rw [List.nil_append] at TX
  clear c1
  replace TX := Lib.hid TX.out.drew
  go_wp2
  refine flowt_begin 19 (S := fun w' => w'.cell? ⟨q, 2, none⟩ = some (.slice (some ⟨bd, 0, none⟩) D.length cd)) hmixed 20 rfl (by repeat (first | with_reducible refine ps_then ?_ | with_reducible refine ps_block ?_ | with_reducible exact ps_body | refine ps_then ?_ | refine ps_block ?_ | exact ps_body)) (hp_cells TX.out).2.2.1 (fun hps => ?_)
  simp only [List.replicate]
  generalize wB.drew = wy at TX ⊢
  refine flowt_take 0 (v := ?_) (a' := ?_) hps rfl (by kernel_rfl) rfl ?_ ?_ ?_
  rotate_left 2
  · intro w' hk; go_simp; try rfl
  · simp only [Act.put, List.setIfInBounds_toArray, List.set_cons_succ, List.set_cons_zero]; try rfl
  refine flowt_take 2 (v := ?_) (a' := ?_) hps rfl (by kernel_rfl) rfl ?_ ?_ ?_
  rotate_left 2
  · intro w' hk; go_simp; try rfl
  · simp only [Act.put, List.setIfInBounds_toArray, List.set_cons_succ, List.set_cons_zero]; try rfl
  refine flowt_take 3 (v := ?_) (a' := ?_) hps rfl (by kernel_rfl) rfl ?_ ?_ ?_
  rotate_left 2
  · intro w' hk; go_simp; try rfl
  · simp only [Act.put, List.setIfInBounds_toArray, List.set_cons_succ, List.set_cons_zero]; try rfl
  refine flowt_take 4 (v := ?_) (a' := ?_) hps rfl (by kernel_rfl) rfl ?_ ?_ ?_
  rotate_left 2
  · intro w' hk; go_simp; try rfl
  · simp only [Act.put, List.setIfInBounds_toArray, List.set_cons_succ, List.set_cons_zero]; try rfl
  refine flowt_read 5 (v := ?_) (a' := ?_) hps rfl (by kernel_rfl) rfl ?_ ?_ ?_
  rotate_left 2
  · intro w' hk; have c1 := hk; go_simp; try rfl
  · simp only [Act.put, List.setIfInBounds_toArray, List.set_cons_succ, List.set_cons_zero]; try rfl
  refine flowt_take 6 (v := ?_) (a' := ?_) hps rfl (by kernel_rfl) rfl ?_ ?_ ?_
  rotate_left 2
  · intro w' hk; go_simp; try rfl
  · simp only [Act.put, List.setIfInBounds_toArray, List.set_cons_succ, List.set_cons_zero]; try rfl
  refine flowt_take 7 (v := ?_) (a' := ?_) hps rfl (by kernel_rfl) rfl ?_ ?_ ?_
  rotate_left 2
  · intro w' hk; go_simp; try rfl
  · simp only [Act.put, List.setIfInBounds_toArray, List.set_cons_succ, List.set_cons_zero]; try rfl
  refine flowt_take 9 (v := ?_) (a' := ?_) hps rfl (by kernel_rfl) rfl ?_ ?_ ?_
  rotate_left 2
  · intro w' hk; go_simp; try rfl
  · simp only [Act.put, List.setIfInBounds_toArray, List.set_cons_succ, List.set_cons_zero]; try rfl
  refine flowt_take 10 (v := ?_) (a' := ?_) hps rfl (by kernel_rfl) rfl ?_ ?_ ?_
  rotate_left 2
  · intro w' hk; go_simp; try rfl
  · simp only [Act.put, List.setIfInBounds_toArray, List.set_cons_succ, List.set_cons_zero]; try rfl
  refine flowt_take 11 (v := ?_) (a' := ?_) hps rfl (by kernel_rfl) rfl ?_ ?_ ?_
  rotate_left 2
  · intro w' hk; go_simp; try rfl
  · simp only [Act.put, List.setIfInBounds_toArray, List.set_cons_succ, List.set_cons_zero]; try rfl
  refine flowt_read 12 (v := ?_) (a' := ?_) hps rfl (by kernel_rfl) rfl ?_ ?_ ?_
  rotate_left 2
  · intro w' hk; have c1 := hk; go_simp; try rfl
  · simp only [Act.put, List.setIfInBounds_toArray, List.set_cons_succ, List.set_cons_zero]; try rfl
  refine flowt_take 13 (v := ?_) (a' := ?_) hps rfl (by kernel_rfl) rfl ?_ ?_ ?_
  rotate_left 2
  · intro w' hk; go_simp; try rfl
  · simp only [Act.put, List.setIfInBounds_toArray, List.set_cons_succ, List.set_cons_zero]; try rfl
  refine flowt_take 14 (v := ?_) (a' := ?_) hps rfl (by kernel_rfl) rfl ?_ ?_ ?_
  rotate_left 2
  · intro w' hk; go_simp; try rfl
  · simp only [Act.put, List.setIfInBounds_toArray, List.set_cons_succ, List.set_cons_zero]; try rfl
  refine flowt_take 15 (v := ?_) (a' := ?_) hps rfl (by kernel_rfl) rfl ?_ ?_ ?_
  rotate_left 2
  · intro w' hk; go_simp; try rfl
  · simp only [Act.put, List.setIfInBounds_toArray, List.set_cons_succ, List.set_cons_zero]; try rfl
  refine flowt_one 1 hps rfl (by kernel_rfl) rfl (wp_next (fun K hK => ?_))
  go_simp
  replace TX := Lib.hid (ds0 TX.out)
  have kp := (hp_cells TX.out.tail).2.2.1
  refine hK _ _ ⟨fun _ => kp, ?_⟩
  clear kp hK
  refine flowt_one 8 hps rfl (by kernel_rfl) rfl (wp_next (fun K hK => ?_))
  refine ds_app_at TX.out 0 rfl _ _ rfl rfl _ _ _ (D.take i) rfl (by have hx := Sl.upto (ds_sl TX.out (i := 3) rfl) i (by have := HD.out; omega); rw [Nat.mul_one] at hx; exact hx) (fun u hu => HONE.out u (List.mem_of_mem_take hu)) (by rw [List.length_nil]; omega) ?_
  intro vA wA hA
  replace TX := Lib.hid hA
  clear hA
  have kp := (hp_cells TX.out.tail).2.2.1
  refine hK _ _ ⟨fun _ => kp, ?_⟩
  clear kp hK
  refine flowt_one 16 hps rfl (by kernel_rfl) rfl (wp_next (fun K hK => ?_))
  refine ds_app_at TX.out 0 rfl _ _ rfl rfl _ _ _ (D.drop (i + 1)) rfl (by have hx := Sl.from (ds_sl TX.out (i := 3) rfl) (i + 1) (by have := HD.out; omega) _ rfl; rw [Nat.mul_one, Nat.zero_add] at hx; exact hx) (fun u hu => HONE.out u (List.mem_of_mem_drop hu)) (by rw [List.nil_append, List.length_take]; have := HD.out; omega) ?_
  intro vA2 wA2 hA
  replace TX := Lib.hid hA
  clear hA
  have kp := (hp_cells TX.out.tail).2.2.1
  refine hK _ _ ⟨fun _ => kp, ?_⟩
  clear kp hK
  refine flowt_take 17 (v := ?_) (a' := ?_) hps rfl (by kernel_rfl) rfl ?_ ?_ ?_
  rotate_left 2
  · intro w' hk; go_simp; try rfl
  · simp only [Act.put, List.setIfInBounds_toArray, List.set_cons_succ, List.set_cons_zero]; try rfl
  refine flowt_take 18 (v := ?_) (a' := ?_) hps rfl (by kernel_rfl) rfl ?_ ?_ ?_
  rotate_left 2
  · intro w' hk; go_simp; try rfl
  · simp only [Act.put, List.setIfInBounds_toArray, List.set_cons_succ, List.set_cons_zero]; try rfl
  refine flowt_one 19 hps rfl (by kernel_rfl) rfl (wp_next (fun K hK => ?_))
  refine hp_newD_at TX.out _ _ 44 rfl rfl rfl (by kernel_rfl) ?_
  intro wC hC
  replace TX := Lib.hid hC
  clear hC
  refine hK _ _ ⟨fun h => absurd (show true = false from h) (by decide), ?_⟩
  clear hK
  refine flowt_done hps (by kernel_rfl) ?_
  generalize (if cd = i + 1 then (some ⟨bd, 0, none⟩ : Option Addr) else some ⟨bd, i + 1, none⟩) = aY
  rw [List.nil_append] at TX
  go_wp2
  go_end0
  exact ⟨rfl, _, _, TX.out⟩
end
end Go.Proofs.Ytenbpbnffnodhaa

/- The reference's heap: a block that comes to stand. -/
namespace Go.Proofs.Ytenbpbnffnodhaa
open Go Go.RowKit Go.Own
set_option linter.unusedVariables false
set_option maxRecDepth 100000
section
variable {B : Nat} {w0 w : World} {l : List Ob} {q : Nat} {cap : Int} {vb vd vl : Value} {ss : List Sv} {L : List Blk} {D : List Value} {ls : Ls}
theorem lit_bl (h : St B w0 w l) (x : Blk) (o s : Int) (u : Bool) (ho : o = x.off) (hs : s = x.size) (hu : u = x.used) : St B w0 (w.alloc (.cells #[.int .i64 o, .int .i64 s, .bool u] 77 (0, 0))) (BlsO (.slice (some ⟨w.heap.size, 0, none⟩) 1 1) [x] :: l) := by
  subst ho; subst hs; subst hu
  refine h.addOwn ((Below.refl _ _).alloc (Nat.le_refl _) _) ?_
  exact ⟨rfl, .inr ⟨w.heap.size, 1, #[.int .i64 x.off, .int .i64 x.size, .bool x.used], rfl, Nat.le_refl _, by show (w.heap.push _)[w.heap.size]? = _; simp, Nat.le_refl _, by decide, rfl, rfl⟩⟩
theorem lit_ds (h : St B w0 w l) : St B w0 (w.alloc (.cells #[.slice none 0 0] 31 (0, 0))) (DsO (.slice (some ⟨w.heap.size, 0, none⟩) 1 1) [none0] :: l) := by
  refine h.addOwn ((Below.refl _ _).alloc (Nat.le_refl _) _) ?_
  exact ⟨rfl, .inr ⟨w.heap.size, 1, #[.slice none 0 0], rfl, Nat.le_refl _, by show (w.heap.push _)[w.heap.size]? = _; simp, Nat.le_refl _, by decide, rfl, rfl⟩⟩
theorem St.drop3 {P Q R : Ob} (h : St B w0 w (P :: Q :: R :: l)) : St B w0 w (P :: Q :: l) := h.sub (.cons_cons _ (.cons_cons _ (List.sublist_cons_self ..)))
section
variable {ops : Array Oper} {o : Oper} {a : Act} {Q : Exit → Act → World → Prop} {K : Act → World → Prop}
theorem bls0_at (h : St B w0 w l) (ho : o.op = .buildSlice 75 0 #[]) (hk : ∀ g w', St B w0 w' (BlsO (.slice (some ⟨g, 0, none⟩) 0 0) [] :: l) → K (a.put o.dst (.slice (some ⟨g, 0, none⟩) 0 0)) w') : o.wp Try.prog a w K Q := by
  have hb := hk _ _ (bls0 h)
  clear hk h
  unfold Oper.wp
  generalize a.eval = ev at *
  unfold execOp
  simp only [ho]
  go_simp
  exact hb
theorem litb_at (h : St B w0 w l) (x : Blk) (z : Operand) (ho : o.op = .buildSlice 75 1 #[(0, z)]) (O S : Int) (hz : a.eval z = .agg #[.int .i64 O, .int .i64 S, .bool x.used]) (hO : O = x.off) (hS : S = x.size) (hk : ∀ g w', St B w0 w' (BlsO (.slice (some ⟨g, 0, none⟩) 1 1) [x] :: l) → K (a.put o.dst (.slice (some ⟨g, 0, none⟩) 1 1)) w') : o.wp Try.prog a w K Q := by
  subst hO; subst hS
  have hb := hk _ _ (lit_bl h x _ _ x.used rfl rfl rfl)
  clear hk h
  unfold Oper.wp
  generalize a.eval = ev at *
  unfold execOp
  simp only [ho]
  go_simp
  exact hb
theorem ds0_at (h : St B w0 w l) (ho : o.op = .buildSlice 44 0 #[]) (hk : ∀ g w', St B w0 w' (DsO (.slice (some ⟨g, 0, none⟩) 0 0) [] :: l) → K (a.put o.dst (.slice (some ⟨g, 0, none⟩) 0 0)) w') : o.wp Try.prog a w K Q := by
  have hb := hk _ _ (ds0 h)
  clear hk h
  unfold Oper.wp
  generalize a.eval = ev at *
  unfold execOp
  simp only [ho]
  go_simp
  exact hb
theorem litd_at (h : St B w0 w l) (z : Operand) (ho : o.op = .buildSlice 44 1 #[(0, z)]) (hz : a.eval z = .slice none 0 0) (hk : ∀ g w', St B w0 w' (DsO (.slice (some ⟨g, 0, none⟩) 1 1) [none0] :: l) → K (a.put o.dst (.slice (some ⟨g, 0, none⟩) 1 1)) w') : o.wp Try.prog a w K Q := by
  have hb := hk _ _ (lit_ds h)
  clear hk h
  unfold Oper.wp
  generalize a.eval = ev at *
  unfold execOp
  simp only [ho]
  go_simp
  exact hb
end
/-- Is the slice's value the nil one? -/
def isNil : Value → Bool
  | .slice none _ _ => true
  | _ => false
end
end Go.Proofs.Ytenbpbnffnodhaa
