/- Texts of the proof of 'AllocPlays', part 14: words on memory, contracts of functions, plain laws. No condition. -/
import Derived.Test.YtenbpbnffnodhaaMgAllocPlays13
/- The reference's heap: a block is taken. -/
namespace Go.Proofs.Ytenbpbnffnodhaa
open Go Go.RowKit Go.Own
set_option linter.unusedVariables false
set_option maxRecDepth 100000
section
variable {B : Nat} {w0 w : World} {l : List Ob} {q : Nat} {cap : Int} {vb vd vl : Value} {ss : List Sv} {m : List Bd} {ls : Ls} {b : List UInt8}
/-- What Take tells, and what has become of the heap. -/
def TkR (B : Nat) (w0 : World) (q : Nat) (cap : Int) (vl : Value) (m : List Bd) (ls : Ls) (r : Option (Nat × List Bd × Ls)) (l : List Ob) (e : Ending) (w' : World) : Prop := match r with
  | some (o, r) => e = .returned (.tuple #[.int .i64 (o : Nat), .int .i64 0]) ∧ HpR B w0 q cap vl r l w'
  | none => e = .returned (.tuple #[.int .i64 0, .int .i64 5]) ∧ HpR B w0 q cap vl (m, ls) l w'
theorem hp_mid {mp mr : List Bd} {X : Bd} : St B w0 w (HpL q cap vb vd vl ss (mp ++ X :: mr) ls l) ↔ St B w0 w (HpX q cap vb vd vl ss (bsOf mp ++ X.b :: bsOf mr) (mp.map (·.d) ++ X.d :: mr.map (·.d)) ls l) := by
  show St B w0 w (HpX q cap vb vd vl ss (bsOf (mp ++ X :: mr)) ((mp ++ X :: mr).map (·.d)) ls l) ↔ _
  rw [bsOf_append, bsOf_cons, List.map_append, List.map_cons]
set_option maxHeartbeats 8000000 in
theorem rh_Take_found (h : St B w0 w (HpL q cap vb vd vl ss m ls l)) (hs : ss.length = 22) (hR : Right b (bsOf m) ls) (hF : Fine m) (n : Nat) (hn : isSize (n : Int) = true) (cp : Nat) {a : Nat} (hf : findL (bsOf m) ls n = some a) :
    Calls Try.prog 201 #[hpP q, .int .i64 n] w (TkR B w0 q cap vl m ls (takeM m cp n ls) l) := by
  have hm := right_count' hR
  have kf := rh_Find h hs hR n hn
  obtain ⟨j, X, hj, hXo, hXu, hXn, hXm, htk⟩ := take_found hR hn hf
  subst hXo
  rw [htk cp]
  have hat : atI m X.b.off = some j := hR.offs.atI hj rfl
  rw [hf, Option.bind_some, hat] at kf
  have KF := Lib.hid (show Calls Try.prog 232 #[hpP q, .int .i64 n] w fun e w' => e = .returned (.int .i64 (j : Int)) ∧ w = w' from kf)
  obtain ⟨mp, mr, hsp, hmp, hmr, hjl⟩ : ∃ mp mr, m = mp ++ X :: mr ∧ m.take j = mp ∧ m.drop (j + 1) = mr ∧ mp.length = j := ⟨_, _, split_at hj, rfl, rfl, by rw [List.length_take]; have := (List.getElem?_eq_some_iff.1 hj).1; omega⟩
  have hfine := fine_parts hF hj
  rw [hmp, hmr] at hfine ⊢
  have hXz := blkAt_isSize (hR.good.mem hXm).2.1
  have hll := hR.lists.short hR.good hR.max (clsN_of hXz).1
  clear hmp hmr kf hat htk hf
  subst hsp
  have h2 := hp_mid.1 h
  have hR2 := hR
  rw [bsOf_append, bsOf_cons] at hR2
  obtain ⟨b1, _, _, _, hh, _⟩ := hR2.take hXu
  have hbm : (bsOf mp).length = j := by rw [← hjl]; exact List.length_map ..
  have hnf : NilFree (mp ++ mr) := nf_app.2 ⟨hfine.1.2, hfine.2.1.2⟩
  have hdx := hfine.2.2
  have hcnt : mp.length + mr.length ≤ 900 := by simp only [List.length_append, List.length_cons] at hm; omega
  obtain ⟨bb, cb, bd, cd, rfl, rfl⟩ := rm_some h2
  obtain ⟨N, hN⟩ : ∃ N, N = (bsOf mp ++ X.b :: bsOf mr).length := ⟨_, rfl⟩
  obtain ⟨M, hM⟩ : ∃ M, M = (mp.map (·.d) ++ X.d :: mr.map (·.d)).length := ⟨_, rfl⟩
  rw [← hN, ← hM] at h2
  have lt1 : j < N := by rw [hN, List.length_append, List.length_cons, hbm]; omega
  have hN2 : (bsOf mp ++ X.b :: bsOf mr).length ≤ 2000 := by rw [List.length_append, List.length_cons, hbm]; unfold bsOf; rw [List.length_map]; omega
  have d1 : decide ((j : Int) ≥ 0) = true := decide_eq_true (by omega)
  have d2 : decide ((0 : Int) ≤ (j : Int)) = true := decide_eq_true (by omega)
  have T0 := Lib.hid h2; have HS := Lib.hid hs; have HH := Lib.hid hh; have HBM := Lib.hid hbm; have HNF := Lib.hid hnf; have HDX := Lib.hid hdx; have HCNT := Lib.hid hcnt; have HXN := Lib.hid hXn; have HXZ := Lib.hid hXz; have HLL := Lib.hid hll; have HN2 := Lib.hid hN2; have HN := Lib.hid hn; have HJ := Lib.hid hjl
  clear h h2 hs hh hbm hnf hdx hcnt hXn hXz hll hN hM hN2 hn hXu hXm hj hfine hR hR2 hF hm hjl
  go_enter Try.func201, Try.ntmps201
  go_wp2_with fail
  have kc := KF.out
  with_reducible refine kc.mono ?_
  clear kc
  rintro e w' ⟨rfl, rfl⟩
  go_wp2_with fail
  have kc := rm_out T0.out HS.out HBM.out HXZ.out (by have := HLL.out; omega) HN2.out (j : Int) rfl
  with_reducible refine kc.mono ?_
  clear kc
  rintro e w1 ⟨rfl, ss1', hs1, t1⟩
  have HS1 := Lib.hid hs1
  have T1 := Lib.hid t1
  clear hs1 t1
  have c1 := (hp_cells T1.out).2.1
  have b0 := (rm_blk T1.out HBM.out).1
  go_wp2_with fail
  have kc := rh_cut (o := X.b.off) (s := X.b.size) (u := X.b.used) T1.out HS1.out HH.out HN.out HXN.out HNF.out HDX.out (by have := HCNT.out; omega) (j : Int) (n : Int) (by rw [HJ.out]) rfl
  with_reducible refine kc.mono ?_
  clear kc
  rintro e w2 ⟨rfl, t2⟩
  have T2 := Lib.hid t2
  clear t2
  go_wp2
  go_ret2
  exact ⟨rfl, T2.out⟩
set_option maxHeartbeats 8000000 in
theorem rh_Take_none (h : St B w0 w (HpL q cap vb vd vl ss m ls l)) (hs : ss.length = 22) (hR : Right b (bsOf m) ls) (hF : Fine m) (n : Nat) (hn : isSize (n : Int) = true) (cp : Nat) (hcap : cap = cp) (hcp : cp ≤ 16384) (hf : findL (bsOf m) ls n = none) :
    Calls Try.prog 201 #[hpP q, .int .i64 n] w (TkR B w0 q cap vl m ls (takeM m cp n ls) l) := by
  have hm := right_count' hR
  have hEb := hR.endOf
  have hmax := hR.max
  have hsz := (isSize_iff _).1 hn
  have kf := rh_Find h hs hR n hn
  rw [hf] at kf
  have KF := Lib.hid (show Calls Try.prog 232 #[hpP q, .int .i64 n] w fun e w' => e = .returned (.int .i64 (-1)) ∧ w = w' from kf)
  have ht : takeM m cp n ls = takeTail m cp n ls := by unfold takeM; rw [hf]
  rw [ht]
  obtain ⟨E, hE⟩ : ∃ E, E = endOf 184 (bsOf m) := ⟨_, rfl⟩
  have hEle : E ≤ 16384 := by omega
  have kl : ∀ w' vb, St B w0 w' (HpL q cap vb vd vl ss m ls l) → Calls Try.prog 206 #[hpP q] w' fun e w'' => e = .returned (.int .i64 (E : Nat)) ∧ w' = w'' := fun w' vb h' => by rw [hE]; exact rh_Len h' (by omega)
  obtain ⟨ab, cb, rfl, hcc, hrm, hbl⟩ := hp_bl h
  obtain ⟨M, hM⟩ : ∃ M, M = m.length := ⟨_, rfl⟩
  rw [← hM] at h hcc
  have c1 := (hp_cells h).2.1
  have u1 : IntKind.i64.wrap ((E : Int) + (n : Int)) = (E : Int) + (n : Int) := IntWalk.i64_in _ (by omega)
  have u4 : IntKind.i64.wrap ((E : Int) + (n : Int) - 0) = (E : Int) + (n : Int) := by rw [IntWalk.i64_in _ (by omega)]; omega
  have hone : ∀ v ∈ m.map (·.d) ++ [], v.oneCell' = true := fun v hv => by
    rw [List.append_nil] at hv
    obtain ⟨x, hx, rfl⟩ := List.mem_map.1 hv
    exact (hF.2 x hx).1
  have T0 := Lib.hid h; have HS := Lib.hid hs; have HN := Lib.hid hn; have HE := Lib.hid hE; have HM := Lib.hid hM; have KL := Lib.hid kl; have HCAP := Lib.hid hcap; have HMM := Lib.hid hm; have HONE := Lib.hid hone; have HRI := Lib.hid hR
  clear kf ht h hs hn kl hcap hm hf hEb hmax hone hE hM
  cases hl : m.getLast? with
  | none =>
    obtain rfl : m = [] := by simpa using hl
    have e1 : IntKind.i64.wrap ((M : Int) - 1) = -1 := by have := HM.out; simp only [List.length_nil] at this; subst this; decide
    have d1 : decide ((-1 : Int) ≥ 0) = false := by decide
    have htt : takeTail [] cp n ls = tailM [] cp n ls := rfl
    rw [htt]
    clear htt hl hbl
    by_cases hroom : E + n ≤ cp
    · have d8 : decide (cap < (E : Int) + (n : Int)) = false := decide_eq_false (by have := HCAP.out; omega)
      have d8g : decide ((E : Int) + (n : Int) > cap) = false := d8
      have htm : tailM ([] : List Bd) cp n ls = some (E, ([] : List Bd) ++ [⟨⟨E, n, true⟩, none0⟩], ls) := by unfold tailM; rw [← HE.out, if_pos hroom]
      rw [htm]
      clear htm hroom hcp hsz
      go_enter Try.func201, Try.ntmps201
      go_wp2_with fail
      have kc := KF.out
      with_reducible refine kc.mono ?_
      clear kc
      rintro e w' ⟨rfl, rfl⟩
      go_wp2_with fail
      refine flows_begin (S := fun w' => St B w0 w' (HpL q cap (.slice ab M cb) vd vl ss ([] : List Bd) ls l)) hmixed 11 rfl (by repeat (first | with_reducible refine ps_then ?_ | with_reducible refine ps_block ?_ | with_reducible exact ps_body | refine ps_then ?_ | refine ps_block ?_ | exact ps_body)) T0.out.drew (fun hps => ?_)
      simp only [List.replicate]
      refine flows_take 0 (v := ?_) (a' := ?_) hps rfl (by kernel_rfl) rfl ?_ ?_ ?_
      rotate_left 2
      · intro w' hk; go_simp; try rfl
      · simp only [Act.put, List.setIfInBounds_toArray, List.set_cons_succ, List.set_cons_zero]; try rfl
      refine flows_take 2 (v := ?_) (a' := ?_) hps rfl (by kernel_rfl) rfl ?_ ?_ ?_
      rotate_left 2
      · intro w' hk; go_simp; try rfl
      · simp only [Act.put, List.setIfInBounds_toArray, List.set_cons_succ, List.set_cons_zero]; try rfl
      refine flows_take 4 (v := ?_) (a' := ?_) hps rfl (by kernel_rfl) rfl ?_ ?_ ?_
      rotate_left 2
      · intro w' hk; go_simp; try rfl
      · simp only [Act.put, List.setIfInBounds_toArray, List.set_cons_succ, List.set_cons_zero]; try rfl
      refine flows_take 6 (v := ?_) (a' := ?_) hps rfl (by kernel_rfl) rfl ?_ ?_ ?_
      rotate_left 2
      · intro w' hk; go_simp; try rfl
      · simp only [Act.put, List.setIfInBounds_toArray, List.set_cons_succ, List.set_cons_zero]; try rfl
      refine flows_take 7 (v := ?_) (a' := ?_) hps rfl (by kernel_rfl) rfl ?_ ?_ ?_
      rotate_left 2
      · intro w' hk; go_simp; try rfl
      · simp only [Act.put, List.setIfInBounds_toArray, List.set_cons_succ, List.set_cons_zero]; try rfl
      refine flows_take 8 (v := ?_) (a' := ?_) hps rfl (by kernel_rfl) rfl ?_ ?_ ?_
      rotate_left 2
      · intro w' hk; go_simp; try rfl
      · simp only [Act.put, List.setIfInBounds_toArray, List.set_cons_succ, List.set_cons_zero]; try rfl
      refine flows_take 9 (v := ?_) (a' := ?_) hps rfl (by kernel_rfl) rfl ?_ ?_ ?_
      rotate_left 2
      · intro w' hk; have c9 := (hp_cells hk).1; go_simp; try rfl
      · simp only [Act.put, List.setIfInBounds_toArray, List.set_cons_succ, List.set_cons_zero]; try rfl
      refine flows_one 1 hps rfl (by kernel_rfl) rfl (wp_next (fun K hK => ?_))
      go_simp
      with_reducible refine (KL.out _ _ T0.out.drew).mono ?_
      rintro e w' ⟨rfl, rfl⟩
      have kp := T0.out.drew
      refine hK _ _ ⟨kp, ?_⟩
      clear kp hK
      refine flows_take 3 (v := ?_) (a' := ?_) hps rfl (by kernel_rfl) rfl ?_ ?_ ?_
      rotate_left 2
      · intro w' hk; go_simp; try rfl
      · simp only [Act.put, List.setIfInBounds_toArray, List.set_cons_succ, List.set_cons_zero]; try rfl
      refine flows_take 5 (v := ?_) (a' := ?_) hps rfl (by kernel_rfl) rfl ?_ ?_ ?_
      rotate_left 2
      · intro w' hk; go_simp; try rfl
      · simp only [Act.put, List.setIfInBounds_toArray, List.set_cons_succ, List.set_cons_zero]; try rfl
      refine flows_take 10 (v := ?_) (a' := ?_) hps rfl (by kernel_rfl) rfl ?_ ?_ ?_
      rotate_left 2
      · intro w' hk; go_simp; try rfl
      · simp only [Act.put, List.setIfInBounds_toArray, List.set_cons_succ, List.set_cons_zero]; try rfl
      refine flows_done hps (by kernel_rfl) ?_
      have T1 := Lib.hid T0.out.drew
      generalize w.drew = w1 at T1 ⊢
      clear T0 c1
      have c1 := (hp_cells T1.out).2.1
      go_wp2_with fail
      have kc := KL.out _ _ T1.out
      with_reducible refine kc.mono ?_
      clear kc
      rintro e w2 ⟨rfl, rfl⟩
      go_wp2_with fail
      have HB1 := Lib.hid (show (bsOf ([] : List Bd)).length = M from by rw [HM.out]; exact List.length_map ..)
      have HB2 := Lib.hid (show ((([] : List Bd)).map (·.d)).length = M from by rw [HM.out]; exact List.length_map ..)
      with_reducible refine (rm_put (P := bsOf ([] : List Bd)) (R := []) (C := (([] : List Bd)).map (·.d)) (E := []) (x := ⟨E, n, true⟩) (n := M) (by rw [List.append_nil, List.append_nil]; exact T1.out) HB1.out HB2.out rfl HONE.out (by rw [List.append_nil, HB1.out]; have := HMM.out; have := HM.out; omega) (M : Int) (E : Int) (n : Int) rfl rfl rfl).mono ?_
      rintro e w3 ⟨rfl, vb3, vd3, t3⟩
      have T3 := Lib.hid t3
      clear t3
      go_wp2
      go_ret2
      refine ⟨rfl, vb3, vd3, ss, HS.out, ?_⟩
      show St B w0 w3 (HpX q cap vb3 vd3 vl ss (bsOf (([] : List Bd) ++ [⟨⟨E, n, true⟩, none0⟩])) ((([] : List Bd) ++ [(⟨⟨E, n, true⟩, none0⟩ : Bd)]).map (·.d)) ls l)
      rw [bsOf_append, List.map_append]
      exact T3.out
    · have d8 : decide (cap < (E : Int) + (n : Int)) = true := decide_eq_true (by have := HCAP.out; omega)
      have d8g : decide ((E : Int) + (n : Int) > cap) = true := d8
      have htm : tailM ([] : List Bd) cp n ls = none := by unfold tailM; rw [← HE.out, if_neg hroom]
      rw [htm]
      clear htm hroom hcp hsz
      go_enter Try.func201, Try.ntmps201
      go_wp2_with fail
      have kc := KF.out
      with_reducible refine kc.mono ?_
      clear kc
      rintro e w' ⟨rfl, rfl⟩
      go_wp2_with fail
      refine flows_begin (S := fun w' => St B w0 w' (HpL q cap (.slice ab M cb) vd vl ss ([] : List Bd) ls l)) hmixed 11 rfl (by repeat (first | with_reducible refine ps_then ?_ | with_reducible refine ps_block ?_ | with_reducible exact ps_body | refine ps_then ?_ | refine ps_block ?_ | exact ps_body)) T0.out.drew (fun hps => ?_)
      simp only [List.replicate]
      refine flows_take 0 (v := ?_) (a' := ?_) hps rfl (by kernel_rfl) rfl ?_ ?_ ?_
      rotate_left 2
      · intro w' hk; go_simp; try rfl
      · simp only [Act.put, List.setIfInBounds_toArray, List.set_cons_succ, List.set_cons_zero]; try rfl
      refine flows_take 2 (v := ?_) (a' := ?_) hps rfl (by kernel_rfl) rfl ?_ ?_ ?_
      rotate_left 2
      · intro w' hk; go_simp; try rfl
      · simp only [Act.put, List.setIfInBounds_toArray, List.set_cons_succ, List.set_cons_zero]; try rfl
      refine flows_take 4 (v := ?_) (a' := ?_) hps rfl (by kernel_rfl) rfl ?_ ?_ ?_
      rotate_left 2
      · intro w' hk; go_simp; try rfl
      · simp only [Act.put, List.setIfInBounds_toArray, List.set_cons_succ, List.set_cons_zero]; try rfl
      refine flows_take 6 (v := ?_) (a' := ?_) hps rfl (by kernel_rfl) rfl ?_ ?_ ?_
      rotate_left 2
      · intro w' hk; go_simp; try rfl
      · simp only [Act.put, List.setIfInBounds_toArray, List.set_cons_succ, List.set_cons_zero]; try rfl
      refine flows_take 7 (v := ?_) (a' := ?_) hps rfl (by kernel_rfl) rfl ?_ ?_ ?_
      rotate_left 2
      · intro w' hk; go_simp; try rfl
      · simp only [Act.put, List.setIfInBounds_toArray, List.set_cons_succ, List.set_cons_zero]; try rfl
      refine flows_take 8 (v := ?_) (a' := ?_) hps rfl (by kernel_rfl) rfl ?_ ?_ ?_
      rotate_left 2
      · intro w' hk; go_simp; try rfl
      · simp only [Act.put, List.setIfInBounds_toArray, List.set_cons_succ, List.set_cons_zero]; try rfl
      refine flows_take 9 (v := ?_) (a' := ?_) hps rfl (by kernel_rfl) rfl ?_ ?_ ?_
      rotate_left 2
      · intro w' hk; have c9 := (hp_cells hk).1; go_simp; try rfl
      · simp only [Act.put, List.setIfInBounds_toArray, List.set_cons_succ, List.set_cons_zero]; try rfl
      refine flows_one 1 hps rfl (by kernel_rfl) rfl (wp_next (fun K hK => ?_))
      go_simp
      with_reducible refine (KL.out _ _ T0.out.drew).mono ?_
      rintro e w' ⟨rfl, rfl⟩
      have kp := T0.out.drew
      refine hK _ _ ⟨kp, ?_⟩
      clear kp hK
      refine flows_take 3 (v := ?_) (a' := ?_) hps rfl (by kernel_rfl) rfl ?_ ?_ ?_
      rotate_left 2
      · intro w' hk; go_simp; try rfl
      · simp only [Act.put, List.setIfInBounds_toArray, List.set_cons_succ, List.set_cons_zero]; try rfl
      refine flows_take 5 (v := ?_) (a' := ?_) hps rfl (by kernel_rfl) rfl ?_ ?_ ?_
      rotate_left 2
      · intro w' hk; go_simp; try rfl
      · simp only [Act.put, List.setIfInBounds_toArray, List.set_cons_succ, List.set_cons_zero]; try rfl
      refine flows_take 10 (v := ?_) (a' := ?_) hps rfl (by kernel_rfl) rfl ?_ ?_ ?_
      rotate_left 2
      · intro w' hk; go_simp; try rfl
      · simp only [Act.put, List.setIfInBounds_toArray, List.set_cons_succ, List.set_cons_zero]; try rfl
      refine flows_done hps (by kernel_rfl) ?_
      have T1 := Lib.hid T0.out.drew
      generalize w.drew = w1 at T1 ⊢
      clear T0 c1
      have c1 := (hp_cells T1.out).2.1
      go_wp2
      go_ret2
      exact ⟨rfl, _, _, ss, HS.out, T1.out⟩
  | some x =>
    obtain ⟨p, rfl⟩ : ∃ p, m = p ++ [x] := ⟨_, getLast_split hl⟩
    obtain ⟨k, hk⟩ : ∃ k, k = p.length := ⟨_, rfl⟩
    have hMk : M = k + 1 := by have := HM.out; rw [List.length_append, List.length_singleton] at this; omega
    have e1 : IntKind.i64.wrap ((M : Int) - 1) = (k : Int) := by have := HMM.out; have := HM.out; rw [IntWalk.i64_in _ (by omega)]; omega
    have d1 : decide ((k : Int) ≥ 0) = true := decide_eq_true (by omega)
    have d1' : decide ((0 : Int) ≤ (k : Int)) = true := decide_eq_true (by omega)
    have lt1 : k < M := by omega
    obtain ⟨bb, rfl, b0, b1, b2⟩ := hbl k (by rw [← HM.out]; omega)
    have hg : (p ++ [x])[k]'(by rw [← HM.out]; omega) = x := get_mid hk.symm _
    rw [hg] at b0 b1 b2
    clear hg hbl hMk
    cases hu : x.b.used with
    | true =>
      rw [hu] at b2
      have htt : takeTail (p ++ [x]) cp n ls = tailM (p ++ [x]) cp n ls := by unfold takeTail; rw [hl]; simp only [hu, if_true]
      rw [htt]
      clear htt hl hu b0 b1 hk
      by_cases hroom : E + n ≤ cp
      · have d8 : decide (cap < (E : Int) + (n : Int)) = false := decide_eq_false (by have := HCAP.out; omega)
        have d8g : decide ((E : Int) + (n : Int) > cap) = false := d8
        have htm : tailM (p ++ [x]) cp n ls = some (E, (p ++ [x]) ++ [⟨⟨E, n, true⟩, none0⟩], ls) := by unfold tailM; rw [← HE.out, if_pos hroom]
        rw [htm]
        clear htm hroom hcp hsz
        go_enter Try.func201, Try.ntmps201
        go_wp2_with fail
        have kc := KF.out
        with_reducible refine kc.mono ?_
        clear kc
        rintro e w' ⟨rfl, rfl⟩
        go_wp2_with fail
        refine flows_begin (S := fun w' => St B w0 w' (HpL q cap (.slice (some ⟨bb, 0, none⟩) M cb) vd vl ss (p ++ [x]) ls l)) hmixed 11 rfl (by repeat (first | with_reducible refine ps_then ?_ | with_reducible refine ps_block ?_ | with_reducible exact ps_body | refine ps_then ?_ | refine ps_block ?_ | exact ps_body)) T0.out.drew (fun hps => ?_)
        simp only [List.replicate]
        refine flows_take 0 (v := ?_) (a' := ?_) hps rfl (by kernel_rfl) rfl ?_ ?_ ?_
        rotate_left 2
        · intro w' hk; go_simp; try rfl
        · simp only [Act.put, List.setIfInBounds_toArray, List.set_cons_succ, List.set_cons_zero]; try rfl
        refine flows_take 2 (v := ?_) (a' := ?_) hps rfl (by kernel_rfl) rfl ?_ ?_ ?_
        rotate_left 2
        · intro w' hk; go_simp; try rfl
        · simp only [Act.put, List.setIfInBounds_toArray, List.set_cons_succ, List.set_cons_zero]; try rfl
        refine flows_take 4 (v := ?_) (a' := ?_) hps rfl (by kernel_rfl) rfl ?_ ?_ ?_
        rotate_left 2
        · intro w' hk; go_simp; try rfl
        · simp only [Act.put, List.setIfInBounds_toArray, List.set_cons_succ, List.set_cons_zero]; try rfl
        refine flows_take 6 (v := ?_) (a' := ?_) hps rfl (by kernel_rfl) rfl ?_ ?_ ?_
        rotate_left 2
        · intro w' hk; go_simp; try rfl
        · simp only [Act.put, List.setIfInBounds_toArray, List.set_cons_succ, List.set_cons_zero]; try rfl
        refine flows_take 7 (v := ?_) (a' := ?_) hps rfl (by kernel_rfl) rfl ?_ ?_ ?_
        rotate_left 2
        · intro w' hk; go_simp; try rfl
        · simp only [Act.put, List.setIfInBounds_toArray, List.set_cons_succ, List.set_cons_zero]; try rfl
        refine flows_take 8 (v := ?_) (a' := ?_) hps rfl (by kernel_rfl) rfl ?_ ?_ ?_
        rotate_left 2
        · intro w' hk; go_simp; try rfl
        · simp only [Act.put, List.setIfInBounds_toArray, List.set_cons_succ, List.set_cons_zero]; try rfl
        refine flows_take 9 (v := ?_) (a' := ?_) hps rfl (by kernel_rfl) rfl ?_ ?_ ?_
        rotate_left 2
        · intro w' hk; have c9 := (hp_cells hk).1; go_simp; try rfl
        · simp only [Act.put, List.setIfInBounds_toArray, List.set_cons_succ, List.set_cons_zero]; try rfl
        refine flows_one 1 hps rfl (by kernel_rfl) rfl (wp_next (fun K hK => ?_))
        go_simp
        with_reducible refine (KL.out _ _ T0.out.drew).mono ?_
        rintro e w' ⟨rfl, rfl⟩
        have kp := T0.out.drew
        refine hK _ _ ⟨kp, ?_⟩
        clear kp hK
        refine flows_take 3 (v := ?_) (a' := ?_) hps rfl (by kernel_rfl) rfl ?_ ?_ ?_
        rotate_left 2
        · intro w' hk; go_simp; try rfl
        · simp only [Act.put, List.setIfInBounds_toArray, List.set_cons_succ, List.set_cons_zero]; try rfl
        refine flows_take 5 (v := ?_) (a' := ?_) hps rfl (by kernel_rfl) rfl ?_ ?_ ?_
        rotate_left 2
        · intro w' hk; go_simp; try rfl
        · simp only [Act.put, List.setIfInBounds_toArray, List.set_cons_succ, List.set_cons_zero]; try rfl
        refine flows_take 10 (v := ?_) (a' := ?_) hps rfl (by kernel_rfl) rfl ?_ ?_ ?_
        rotate_left 2
        · intro w' hk; go_simp; try rfl
        · simp only [Act.put, List.setIfInBounds_toArray, List.set_cons_succ, List.set_cons_zero]; try rfl
        refine flows_done hps (by kernel_rfl) ?_
        have T1 := Lib.hid T0.out.drew
        generalize w.drew = w1 at T1 ⊢
        clear T0 c1
        have c1 := (hp_cells T1.out).2.1
        go_wp2_with fail
        have kc := KL.out _ _ T1.out
        with_reducible refine kc.mono ?_
        clear kc
        rintro e w2 ⟨rfl, rfl⟩
        go_wp2_with fail
        have HB1 := Lib.hid (show (bsOf (p ++ [x])).length = M from by rw [HM.out]; exact List.length_map ..)
        have HB2 := Lib.hid (show (((p ++ [x])).map (·.d)).length = M from by rw [HM.out]; exact List.length_map ..)
        with_reducible refine (rm_put (P := bsOf (p ++ [x])) (R := []) (C := ((p ++ [x])).map (·.d)) (E := []) (x := ⟨E, n, true⟩) (n := M) (by rw [List.append_nil, List.append_nil]; exact T1.out) HB1.out HB2.out rfl HONE.out (by rw [List.append_nil, HB1.out]; have := HMM.out; have := HM.out; omega) (M : Int) (E : Int) (n : Int) rfl rfl rfl).mono ?_
        rintro e w3 ⟨rfl, vb3, vd3, t3⟩
        have T3 := Lib.hid t3
        clear t3
        go_wp2
        go_ret2
        refine ⟨rfl, vb3, vd3, ss, HS.out, ?_⟩
        show St B w0 w3 (HpX q cap vb3 vd3 vl ss (bsOf ((p ++ [x]) ++ [⟨⟨E, n, true⟩, none0⟩])) (((p ++ [x]) ++ [(⟨⟨E, n, true⟩, none0⟩ : Bd)]).map (·.d)) ls l)
        rw [bsOf_append, List.map_append]
        exact T3.out
      · have d8 : decide (cap < (E : Int) + (n : Int)) = true := decide_eq_true (by have := HCAP.out; omega)
        have d8g : decide ((E : Int) + (n : Int) > cap) = true := d8
        have htm : tailM (p ++ [x]) cp n ls = none := by unfold tailM; rw [← HE.out, if_neg hroom]
        rw [htm]
        clear htm hroom hcp hsz
        go_enter Try.func201, Try.ntmps201
        go_wp2_with fail
        have kc := KF.out
        with_reducible refine kc.mono ?_
        clear kc
        rintro e w' ⟨rfl, rfl⟩
        go_wp2_with fail
        refine flows_begin (S := fun w' => St B w0 w' (HpL q cap (.slice (some ⟨bb, 0, none⟩) M cb) vd vl ss (p ++ [x]) ls l)) hmixed 11 rfl (by repeat (first | with_reducible refine ps_then ?_ | with_reducible refine ps_block ?_ | with_reducible exact ps_body | refine ps_then ?_ | refine ps_block ?_ | exact ps_body)) T0.out.drew (fun hps => ?_)
        simp only [List.replicate]
        refine flows_take 0 (v := ?_) (a' := ?_) hps rfl (by kernel_rfl) rfl ?_ ?_ ?_
        rotate_left 2
        · intro w' hk; go_simp; try rfl
        · simp only [Act.put, List.setIfInBounds_toArray, List.set_cons_succ, List.set_cons_zero]; try rfl
        refine flows_take 2 (v := ?_) (a' := ?_) hps rfl (by kernel_rfl) rfl ?_ ?_ ?_
        rotate_left 2
        · intro w' hk; go_simp; try rfl
        · simp only [Act.put, List.setIfInBounds_toArray, List.set_cons_succ, List.set_cons_zero]; try rfl
        refine flows_take 4 (v := ?_) (a' := ?_) hps rfl (by kernel_rfl) rfl ?_ ?_ ?_
        rotate_left 2
        · intro w' hk; go_simp; try rfl
        · simp only [Act.put, List.setIfInBounds_toArray, List.set_cons_succ, List.set_cons_zero]; try rfl
        refine flows_take 6 (v := ?_) (a' := ?_) hps rfl (by kernel_rfl) rfl ?_ ?_ ?_
        rotate_left 2
        · intro w' hk; go_simp; try rfl
        · simp only [Act.put, List.setIfInBounds_toArray, List.set_cons_succ, List.set_cons_zero]; try rfl
        refine flows_take 7 (v := ?_) (a' := ?_) hps rfl (by kernel_rfl) rfl ?_ ?_ ?_
        rotate_left 2
        · intro w' hk; go_simp; try rfl
        · simp only [Act.put, List.setIfInBounds_toArray, List.set_cons_succ, List.set_cons_zero]; try rfl
        refine flows_take 8 (v := ?_) (a' := ?_) hps rfl (by kernel_rfl) rfl ?_ ?_ ?_
        rotate_left 2
        · intro w' hk; go_simp; try rfl
        · simp only [Act.put, List.setIfInBounds_toArray, List.set_cons_succ, List.set_cons_zero]; try rfl
        refine flows_take 9 (v := ?_) (a' := ?_) hps rfl (by kernel_rfl) rfl ?_ ?_ ?_
        rotate_left 2
        · intro w' hk; have c9 := (hp_cells hk).1; go_simp; try rfl
        · simp only [Act.put, List.setIfInBounds_toArray, List.set_cons_succ, List.set_cons_zero]; try rfl
        refine flows_one 1 hps rfl (by kernel_rfl) rfl (wp_next (fun K hK => ?_))
        go_simp
        with_reducible refine (KL.out _ _ T0.out.drew).mono ?_
        rintro e w' ⟨rfl, rfl⟩
        have kp := T0.out.drew
        refine hK _ _ ⟨kp, ?_⟩
        clear kp hK
        refine flows_take 3 (v := ?_) (a' := ?_) hps rfl (by kernel_rfl) rfl ?_ ?_ ?_
        rotate_left 2
        · intro w' hk; go_simp; try rfl
        · simp only [Act.put, List.setIfInBounds_toArray, List.set_cons_succ, List.set_cons_zero]; try rfl
        refine flows_take 5 (v := ?_) (a' := ?_) hps rfl (by kernel_rfl) rfl ?_ ?_ ?_
        rotate_left 2
        · intro w' hk; go_simp; try rfl
        · simp only [Act.put, List.setIfInBounds_toArray, List.set_cons_succ, List.set_cons_zero]; try rfl
        refine flows_take 10 (v := ?_) (a' := ?_) hps rfl (by kernel_rfl) rfl ?_ ?_ ?_
        rotate_left 2
        · intro w' hk; go_simp; try rfl
        · simp only [Act.put, List.setIfInBounds_toArray, List.set_cons_succ, List.set_cons_zero]; try rfl
        refine flows_done hps (by kernel_rfl) ?_
        have T1 := Lib.hid T0.out.drew
        generalize w.drew = w1 at T1 ⊢
        clear T0 c1
        have c1 := (hp_cells T1.out).2.1
        go_wp2
        go_ret2
        exact ⟨rfl, _, _, ss, HS.out, T1.out⟩
    | false =>
      rw [hu] at b2
      have HU := Lib.hid hu
      have hR3 := HRI.out
      rw [bsOf_append] at hR3
      have hxm : x.b ∈ bsOf (p ++ [x]) := by rw [bsOf_append]; exact List.mem_append_right _ (List.mem_singleton.2 rfl)
      have hXz := blkAt_isSize (HRI.out.good.mem hxm).2.1
      have hxe := (HRI.out.good.mem hxm).2.2
      have hxz2 := (isSize_iff _).1 hXz
      have hll := HRI.out.lists.short HRI.out.good HRI.out.max (clsN_of hXz).1
      have hle : x.b.size ≤ E := by rw [HE.out, HRI.out.endOf]; omega
      have u2 : IntKind.i64.wrap ((E : Int) + (n : Int) - (x.b.size : Int)) = (E : Int) + (n : Int) - (x.b.size : Int) := IntWalk.i64_in _ (by omega)
      have d5 : decide ((0 : Int) < (x.b.size : Int)) = true := decide_eq_true (by omega)
      have d6 : decide (0 < x.b.size) = true := decide_eq_true (by omega)
      have htt : takeTail (p ++ [x]) cp n ls = if E + n ≤ cp + x.b.size then some (x.b.off, p ++ [⟨⟨x.b.off, n, true⟩, x.d⟩], outL ls (clsN x.b.size) x.b.off) else none := by
        unfold takeTail; rw [hl]; simp only [hu, Bool.false_eq_true, if_false, List.dropLast_concat, HE.out]
      rw [htt]
      have HXZ := Lib.hid hXz; have HLL := Lib.hid hll; have HK := Lib.hid hk
      have HBM := Lib.hid (show (bsOf p).length = k by rw [hk]; exact List.length_map ..)
      by_cases hroom : E + n ≤ cp + x.b.size
      · have d8 : decide (cap < (E : Int) + (n : Int) - (x.b.size : Int)) = false := decide_eq_false (by have := HCAP.out; omega)
        have d8g : decide ((E : Int) + (n : Int) - (x.b.size : Int) > cap) = false := d8
        rw [if_pos hroom]
        clear htt hl hu hk hR3 hxm hXz hxe hxz2 hll hle hroom hcp hsz b0
        go_enter Try.func201, Try.ntmps201
        go_wp2_with fail
        have kc := KF.out
        with_reducible refine kc.mono ?_
        clear kc
        rintro e w' ⟨rfl, rfl⟩
        go_wp2_with fail
        refine flows_begin (S := fun w' => St B w0 w' (HpL q cap (.slice (some ⟨bb, 0, none⟩) M cb) vd vl ss (p ++ [x]) ls l)) hmixed 11 rfl (by repeat (first | with_reducible refine ps_then ?_ | with_reducible refine ps_block ?_ | with_reducible exact ps_body | refine ps_then ?_ | refine ps_block ?_ | exact ps_body)) T0.out.drew (fun hps => ?_)
        simp only [List.replicate]
        refine flows_take 0 (v := ?_) (a' := ?_) hps rfl (by kernel_rfl) rfl ?_ ?_ ?_
        rotate_left 2
        · intro w' hk; go_simp; try rfl
        · simp only [Act.put, List.setIfInBounds_toArray, List.set_cons_succ, List.set_cons_zero]; try rfl
        refine flows_take 2 (v := ?_) (a' := ?_) hps rfl (by kernel_rfl) rfl ?_ ?_ ?_
        rotate_left 2
        · intro w' hk; go_simp; try rfl
        · simp only [Act.put, List.setIfInBounds_toArray, List.set_cons_succ, List.set_cons_zero]; try rfl
        refine flows_take 4 (v := ?_) (a' := ?_) hps rfl (by kernel_rfl) rfl ?_ ?_ ?_
        rotate_left 2
        · intro w' hk; go_simp; try rfl
        · simp only [Act.put, List.setIfInBounds_toArray, List.set_cons_succ, List.set_cons_zero]; try rfl
        refine flows_take 6 (v := ?_) (a' := ?_) hps rfl (by kernel_rfl) rfl ?_ ?_ ?_
        rotate_left 2
        · intro w' hk; go_simp; try rfl
        · simp only [Act.put, List.setIfInBounds_toArray, List.set_cons_succ, List.set_cons_zero]; try rfl
        refine flows_take 7 (v := ?_) (a' := ?_) hps rfl (by kernel_rfl) rfl ?_ ?_ ?_
        rotate_left 2
        · intro w' hk; go_simp; try rfl
        · simp only [Act.put, List.setIfInBounds_toArray, List.set_cons_succ, List.set_cons_zero]; try rfl
        refine flows_take 8 (v := ?_) (a' := ?_) hps rfl (by kernel_rfl) rfl ?_ ?_ ?_
        rotate_left 2
        · intro w' hk; go_simp; try rfl
        · simp only [Act.put, List.setIfInBounds_toArray, List.set_cons_succ, List.set_cons_zero]; try rfl
        refine flows_take 9 (v := ?_) (a' := ?_) hps rfl (by kernel_rfl) rfl ?_ ?_ ?_
        rotate_left 2
        · intro w' hk; have c9 := (hp_cells hk).1; go_simp; try rfl
        · simp only [Act.put, List.setIfInBounds_toArray, List.set_cons_succ, List.set_cons_zero]; try rfl
        refine flows_one 1 hps rfl (by kernel_rfl) rfl (wp_next (fun K hK => ?_))
        go_simp
        with_reducible refine (KL.out _ _ T0.out.drew).mono ?_
        rintro e w' ⟨rfl, rfl⟩
        have kp := T0.out.drew
        refine hK _ _ ⟨kp, ?_⟩
        clear kp hK
        refine flows_take 3 (v := ?_) (a' := ?_) hps rfl (by kernel_rfl) rfl ?_ ?_ ?_
        rotate_left 2
        · intro w' hk; go_simp; try rfl
        · simp only [Act.put, List.setIfInBounds_toArray, List.set_cons_succ, List.set_cons_zero]; try rfl
        refine flows_take 5 (v := ?_) (a' := ?_) hps rfl (by kernel_rfl) rfl ?_ ?_ ?_
        rotate_left 2
        · intro w' hk; go_simp; try rfl
        · simp only [Act.put, List.setIfInBounds_toArray, List.set_cons_succ, List.set_cons_zero]; try rfl
        refine flows_take 10 (v := ?_) (a' := ?_) hps rfl (by kernel_rfl) rfl ?_ ?_ ?_
        rotate_left 2
        · intro w' hk; go_simp; try rfl
        · simp only [Act.put, List.setIfInBounds_toArray, List.set_cons_succ, List.set_cons_zero]; try rfl
        refine flows_done hps (by kernel_rfl) ?_
        have T1 := Lib.hid T0.out.drew
        generalize w.drew = w1 at T1 ⊢
        clear T0 c1
        have c1 := (hp_cells T1.out).2.1
        have T1m := Lib.hid (hp_mid.1 T1.out)
        go_wp2_with fail
        have HL2 := Lib.hid (show (bsOf p ++ x.b :: bsOf ([] : List Bd)).length ≤ 2000 from by have h1 := HMM.out; have h2 := HBM.out; rw [List.length_append, List.length_cons, h2]; simp only [List.length_append, List.length_singleton] at h1; show k + (0 + 1) ≤ 2000; have := HK.out; omega)
        with_reducible refine (rm_out T1m.out HS.out HBM.out HXZ.out (by have := HLL.out; omega) HL2.out (k : Int) rfl).mono ?_
        rintro e w2 ⟨rfl, ss2, hs2, t2⟩
        have T2 := Lib.hid t2; have HS2 := Lib.hid hs2
        clear t2 hs2 T1 T1m c1
        have c1 := (hp_cells T2.out).2.1
        go_wp2_with (first
          | (refine rm_setB T2.out HBM.out ⟨x.b.off, n, false⟩ 1 (by decide) (.int .i64 (n : Nat)) (by unfold blC; rw [HU.out]; rfl) bb M cb rfl rfl 3 _ _ rfl rfl rfl rfl (by kernel_rfl) ?_; intro w3 h3; have T3 := Lib.hid h3; clear h3 T2 c1; have c1 := (hp_cells T3.out).2.1)
          | (refine rm_setB T3.out HBM.out ⟨x.b.off, n, true⟩ 2 (by decide) (.bool true) rfl bb M cb rfl rfl 4 _ _ rfl rfl rfl rfl (by kernel_rfl) ?_; intro w4 h4; have T4 := Lib.hid h4; clear h4 T3 c1; have c1 := (hp_cells T4.out).2.1; have b0 := (rm_blk T4.out HBM.out).1; go_wp2_with fail))
        go_ret2
        exact ⟨rfl, _, _, ss2, HS2.out, (hp_mid (X := ⟨⟨x.b.off, n, true⟩, x.d⟩) (mr := [])).2 T4.out⟩
      · have d8 : decide (cap < (E : Int) + (n : Int) - (x.b.size : Int)) = true := decide_eq_true (by have := HCAP.out; omega)
        have d8g : decide ((E : Int) + (n : Int) - (x.b.size : Int) > cap) = true := d8
        rw [if_neg hroom]
        clear htt hl hu hk hR3 hxm hXz hxe hxz2 hll hle hroom hcp hsz b0
        go_enter Try.func201, Try.ntmps201
        go_wp2_with fail
        have kc := KF.out
        with_reducible refine kc.mono ?_
        clear kc
        rintro e w' ⟨rfl, rfl⟩
        go_wp2_with fail
        refine flows_begin (S := fun w' => St B w0 w' (HpL q cap (.slice (some ⟨bb, 0, none⟩) M cb) vd vl ss (p ++ [x]) ls l)) hmixed 11 rfl (by repeat (first | with_reducible refine ps_then ?_ | with_reducible refine ps_block ?_ | with_reducible exact ps_body | refine ps_then ?_ | refine ps_block ?_ | exact ps_body)) T0.out.drew (fun hps => ?_)
        simp only [List.replicate]
        refine flows_take 0 (v := ?_) (a' := ?_) hps rfl (by kernel_rfl) rfl ?_ ?_ ?_
        rotate_left 2
        · intro w' hk; go_simp; try rfl
        · simp only [Act.put, List.setIfInBounds_toArray, List.set_cons_succ, List.set_cons_zero]; try rfl
        refine flows_take 2 (v := ?_) (a' := ?_) hps rfl (by kernel_rfl) rfl ?_ ?_ ?_
        rotate_left 2
        · intro w' hk; go_simp; try rfl
        · simp only [Act.put, List.setIfInBounds_toArray, List.set_cons_succ, List.set_cons_zero]; try rfl
        refine flows_take 4 (v := ?_) (a' := ?_) hps rfl (by kernel_rfl) rfl ?_ ?_ ?_
        rotate_left 2
        · intro w' hk; go_simp; try rfl
        · simp only [Act.put, List.setIfInBounds_toArray, List.set_cons_succ, List.set_cons_zero]; try rfl
        refine flows_take 6 (v := ?_) (a' := ?_) hps rfl (by kernel_rfl) rfl ?_ ?_ ?_
        rotate_left 2
        · intro w' hk; go_simp; try rfl
        · simp only [Act.put, List.setIfInBounds_toArray, List.set_cons_succ, List.set_cons_zero]; try rfl
        refine flows_take 7 (v := ?_) (a' := ?_) hps rfl (by kernel_rfl) rfl ?_ ?_ ?_
        rotate_left 2
        · intro w' hk; go_simp; try rfl
        · simp only [Act.put, List.setIfInBounds_toArray, List.set_cons_succ, List.set_cons_zero]; try rfl
        refine flows_take 8 (v := ?_) (a' := ?_) hps rfl (by kernel_rfl) rfl ?_ ?_ ?_
        rotate_left 2
        · intro w' hk; go_simp; try rfl
        · simp only [Act.put, List.setIfInBounds_toArray, List.set_cons_succ, List.set_cons_zero]; try rfl
        refine flows_take 9 (v := ?_) (a' := ?_) hps rfl (by kernel_rfl) rfl ?_ ?_ ?_
        rotate_left 2
        · intro w' hk; have c9 := (hp_cells hk).1; go_simp; try rfl
        · simp only [Act.put, List.setIfInBounds_toArray, List.set_cons_succ, List.set_cons_zero]; try rfl
        refine flows_one 1 hps rfl (by kernel_rfl) rfl (wp_next (fun K hK => ?_))
        go_simp
        with_reducible refine (KL.out _ _ T0.out.drew).mono ?_
        rintro e w' ⟨rfl, rfl⟩
        have kp := T0.out.drew
        refine hK _ _ ⟨kp, ?_⟩
        clear kp hK
        refine flows_take 3 (v := ?_) (a' := ?_) hps rfl (by kernel_rfl) rfl ?_ ?_ ?_
        rotate_left 2
        · intro w' hk; go_simp; try rfl
        · simp only [Act.put, List.setIfInBounds_toArray, List.set_cons_succ, List.set_cons_zero]; try rfl
        refine flows_take 5 (v := ?_) (a' := ?_) hps rfl (by kernel_rfl) rfl ?_ ?_ ?_
        rotate_left 2
        · intro w' hk; go_simp; try rfl
        · simp only [Act.put, List.setIfInBounds_toArray, List.set_cons_succ, List.set_cons_zero]; try rfl
        refine flows_take 10 (v := ?_) (a' := ?_) hps rfl (by kernel_rfl) rfl ?_ ?_ ?_
        rotate_left 2
        · intro w' hk; go_simp; try rfl
        · simp only [Act.put, List.setIfInBounds_toArray, List.set_cons_succ, List.set_cons_zero]; try rfl
        refine flows_done hps (by kernel_rfl) ?_
        have T1 := Lib.hid T0.out.drew
        generalize w.drew = w1 at T1 ⊢
        clear T0 c1
        have c1 := (hp_cells T1.out).2.1
        go_wp2
        go_ret2
        exact ⟨rfl, _, _, ss, HS.out, T1.out⟩
theorem rh_Take (h : St B w0 w (HpL q cap vb vd vl ss m ls l)) (hs : ss.length = 22) (hR : Right b (bsOf m) ls) (hF : Fine m) (n : Nat) (hn : isSize (n : Int) = true) (cp : Nat) (hcap : cap = cp) (hcp : cp ≤ 16384) :
    Calls Try.prog 201 #[hpP q, .int .i64 n] w (TkR B w0 q cap vl m ls (takeM m cp n ls) l) := by
  cases hf : findL (bsOf m) ls n with
  | some a => exact rh_Take_found h hs hR hF n hn cp hf
  | none => exact rh_Take_none h hs hR hF n hn cp hcap hcp hf
end
end Go.Proofs.Ytenbpbnffnodhaa

/- The reference's heap: Give, Trim, New. -/
namespace Go.Proofs.Ytenbpbnffnodhaa
open Go Go.RowKit Go.Own
set_option linter.unusedVariables false
set_option maxRecDepth 100000
section
variable {B : Nat} {w0 w : World} {l : List Ob} {q : Nat} {cap : Int} {vb vd vl : Value} {ss : List Sv} {m : List Bd} {ls : Ls} {b : List UInt8}
/-- What Give and Trim tell, and what has become of the heap. -/
def GvR (B : Nat) (w0 : World) (q : Nat) (cap : Int) (vl : Value) (m : List Bd) (ls : Ls) (r : Option (List Bd × Ls)) (l : List Ob) (e : Ending) (w' : World) : Prop := match r with
  | some r => e = .returned (.int .i64 0) ∧ HpR B w0 q cap vl r l w'
  | none => e = .returned (.int .i64 3) ∧ HpR B w0 q cap vl (m, ls) l w'
theorem mid_of {m : List Bd} {j : Nat} {X : Bd} (hj : m[j]? = some X) : ∃ mp mr, m = mp ++ X :: mr ∧ m.take j = mp ∧ m.drop (j + 1) = mr ∧ mp.length = j :=
  ⟨_, _, split_at hj, rfl, rfl, by rw [List.length_take]; have := (List.getElem?_eq_some_iff.1 hj).1; omega⟩
set_option maxHeartbeats 8000000 in
theorem rh_Give (h : St B w0 w (HpL q cap vb vd vl ss m ls l)) (hs : ss.length = 22) (hR : Right b (bsOf m) ls) (hF : Fine m) (o : Int) :
    Calls Try.prog 196 #[hpP q, .int .i64 o] w (GvR B w0 q cap vl m ls (giveM m o ls) l) := by
  have hm := right_count' hR
  have ku := rh_Used h (by omega) o
  unfold giveM
  cases hz : usedZ m o with
  | none =>
    rw [hz] at ku
    have KU := Lib.hid (show Calls Try.prog 200 #[hpP q, .int .i64 o] w fun e w' => e = .returned (.int .i64 (-1)) ∧ w = w' from ku)
    have H := Lib.hid h; have HS := Lib.hid hs
    clear ku hz h hs hR hm
    go_enter Try.func196, Try.ntmps196
    go_wp2_with fail
    have kc := KU.out
    with_reducible refine kc.mono ?_
    clear kc
    rintro e w' ⟨rfl, rfl⟩
    go_wp2
    go_ret
    exact ⟨rfl, _, _, ss, HS.out, H.out⟩
  | some j =>
    obtain ⟨X, hj, hXo, hXu⟩ := usedZ_some hz
    rw [hz] at ku
    have KU := Lib.hid (show Calls Try.prog 200 #[hpP q, .int .i64 o] w fun e w' => e = .returned (.int .i64 (j : Int)) ∧ w = w' from ku)
    obtain ⟨mp, mr, hsp, hmp, hmr, hjl⟩ := mid_of hj
    have hfine := fine_parts hF hj
    have hg : giveAt m j ls = freeM mp X.b.off X.b.size mr ls := by unfold giveAt; simp only [hj]; rw [hmp, hmr]
    simp only [Option.map_some]
    rw [hg]
    rw [hmp, hmr] at hfine
    clear hmp hmr ku hz hg
    subst hsp
    have h2 := hp_mid.1 h
    have hR2 := hR
    rw [bsOf_append, bsOf_cons] at hR2
    have HH := Lib.hid (hR2.hole hXu); have T0 := Lib.hid h2; have HS := Lib.hid hs; have HJ := Lib.hid hjl
    have HNF := Lib.hid (nf_app.2 ⟨hfine.1.2, hfine.2.1.2⟩ : NilFree (mp ++ mr))
    have HCNT := Lib.hid (show mp.length + mr.length ≤ 900 by simp only [List.length_append, List.length_cons] at hm; omega)
    have d1 : decide ((j : Int) < 0) = false := decide_eq_false (by omega)
    clear h h2 hs hR hR2 hm hj hfine hXo hXu hF hjl
    go_enter Try.func196, Try.ntmps196
    go_wp2_with fail
    have kc := KU.out
    with_reducible refine kc.mono ?_
    clear kc
    rintro e w' ⟨rfl, rfl⟩
    go_wp2_with fail
    have kc := rh_give (o := X.b.off) (s := X.b.size) (u := X.b.used) T0.out HS.out HH.out HNF.out (by have := HCNT.out; omega) (j : Int) (by rw [HJ.out])
    with_reducible refine kc.mono ?_
    clear kc
    rintro e w2 ⟨rfl, t2⟩
    have T2 := Lib.hid t2
    clear t2
    go_wp2
    go_ret
    exact ⟨rfl, T2.out⟩
set_option maxHeartbeats 8000000 in
theorem rh_Trim (h : St B w0 w (HpL q cap vb vd vl ss m ls l)) (hs : ss.length = 22) (hR : Right b (bsOf m) ls) (hF : Fine m) (o : Int) (n : Nat) (hn : isSize (n : Int) = true) :
    Calls Try.prog 198 #[hpP q, .int .i64 o, .int .i64 n] w (GvR B w0 q cap vl m ls (trimM m o n ls) l) := by
  have hm := right_count' hR
  have ku := rh_Used h (by omega) o
  unfold trimM
  cases hz : usedZ m o with
  | none =>
    rw [hz] at ku
    have KU := Lib.hid (show Calls Try.prog 200 #[hpP q, .int .i64 o] w fun e w' => e = .returned (.int .i64 (-1)) ∧ w = w' from ku)
    have H := Lib.hid h; have HS := Lib.hid hs
    clear ku hz h hs hR hm
    go_enter Try.func198, Try.ntmps198
    go_wp2_with fail
    have kc := KU.out
    with_reducible refine kc.mono ?_
    clear kc
    rintro e w' ⟨rfl, rfl⟩
    go_wp2
    go_ret
    exact ⟨rfl, _, _, ss, HS.out, H.out⟩
  | some j =>
    obtain ⟨X, hj, hXo, hXu⟩ := usedZ_some hz
    rw [hz] at ku
    have KU := Lib.hid (show Calls Try.prog 200 #[hpP q, .int .i64 o] w fun e w' => e = .returned (.int .i64 (j : Int)) ∧ w = w' from ku)
    obtain ⟨mp, mr, hsp, hmp, hmr, hjl⟩ := mid_of hj
    have hfine := fine_parts hF hj
    have hg : cutAt m j n ls = cutM mp X.b.off X.b.size X.d mr n ls := by unfold cutAt; simp only [hj]; rw [hmp, hmr]
    simp only [hj]
    rw [hg]
    rw [hmp, hmr] at hfine
    clear hmp hmr ku hz hg hj
    subst hsp
    have h2 := hp_mid.1 h
    have hR2 := hR
    rw [bsOf_append, bsOf_cons] at hR2
    have hbm : (bsOf mp).length = j := by rw [← hjl]; exact List.length_map ..
    obtain ⟨bb, cb, bd, cd, rfl, rfl⟩ := rm_some h2
    obtain ⟨N, hN⟩ : ∃ N, N = (bsOf mp ++ X.b :: bsOf mr).length := ⟨_, rfl⟩
    obtain ⟨M, hM⟩ : ∃ M, M = (mp.map (·.d) ++ X.d :: mr.map (·.d)).length := ⟨_, rfl⟩
    rw [← hN, ← hM] at h2
    have lt1 : j < N := by rw [hN, List.length_append, List.length_cons, hbm]; omega
    have c1 := (hp_cells h2).2.1
    have b1 := (rm_blk h2 hbm).2.1
    have HH := Lib.hid (hR2.hole hXu); have T0 := Lib.hid h2; have HS := Lib.hid hs; have HJ := Lib.hid hjl; have HN := Lib.hid hn
    have HNF := Lib.hid (nf_app.2 ⟨hfine.1.2, hfine.2.1.2⟩ : NilFree (mp ++ mr)); have HDX := Lib.hid hfine.2.2
    have HCNT := Lib.hid (show mp.length + mr.length ≤ 900 by simp only [List.length_append, List.length_cons] at hm; omega)
    have d1 : decide ((j : Int) < 0) = false := decide_eq_false (by omega)
    clear h h2 hs hR hR2 hm hfine hXo hXu hF hN hM hbm hjl hn
    by_cases hlt : X.b.size < n
    · rw [if_pos hlt]
      have d2 : decide ((X.b.size : Int) < (n : Int)) = true := decide_eq_true (by omega)
      have d3 : decide (X.b.size < n) = true := decide_eq_true hlt
      clear hlt
      go_enter Try.func198, Try.ntmps198
      go_wp2_with fail
      have kc := KU.out
      with_reducible refine kc.mono ?_
      clear kc
      rintro e w' ⟨rfl, rfl⟩
      go_wp2
      go_ret
      exact ⟨rfl, _, _, ss, HS.out, hp_mid.2 T0.out⟩
    · rw [if_neg hlt]
      have d2 : decide ((X.b.size : Int) < (n : Int)) = false := decide_eq_false (by omega)
      have d3 : decide (X.b.size < n) = false := decide_eq_false hlt
      have HLE := Lib.hid (show n ≤ X.b.size by omega)
      clear hlt
      go_enter Try.func198, Try.ntmps198
      go_wp2_with fail
      have kc := KU.out
      with_reducible refine kc.mono ?_
      clear kc
      rintro e w' ⟨rfl, rfl⟩
      go_wp2_with fail
      have kc := rh_cut (o := X.b.off) (s := X.b.size) (u := X.b.used) T0.out HS.out HH.out HN.out HLE.out HNF.out HDX.out (by have := HCNT.out; omega) (j : Int) (n : Int) (by rw [HJ.out]) rfl
      with_reducible refine kc.mono ?_
      clear kc
      rintro e w2 ⟨rfl, t2⟩
      have T2 := Lib.hid t2
      clear t2
      go_wp2
      go_ret
      exact ⟨rfl, T2.out⟩
theorem rh_New (h : St B w0 w l) (c : Int) : Calls Try.prog 104 #[.int .i64 c] w fun e w' => ∃ q vl ss, e = .returned (hpP q) ∧ ss.length = 22 ∧ St B w0 w' (HpL q c none0 none0 vl ss [] (fun _ => []) l) := by
  obtain ⟨g, W, hmk, t1⟩ := mx_mk h (22 : Int) 22 rfl (by decide)
  have T1 := Lib.hid t1
  clear t1 h
  go_enter Try.func104, Try.ntmps104
  go_wp2
  go_ret
  have t2 := T1.out.addOwn (e := 31) (z := 1) (v := none0) (n := 0) (cs := []) (Below.refl _ _) (World.ownsRow_nil _ _ _ _)
  have t3 := t2.addOwn (e := 77) (z := 3) (v := none0) (n := 0) (cs := []) (Below.refl _ _) (World.ownsRow_nil _ _ _ _)
  have t4 := t3.addRow 249 [.int .i64 c, none0, none0, .slice (some ⟨g, 0, none⟩) 22 22]
  exact ⟨_, _, _, rfl, List.length_replicate .., t4⟩
end
end Go.Proofs.Ytenbpbnffnodhaa

/- Layer 12's statements: sizes, used blocks, whether an arena and its model are the same. -/
namespace Go.Proofs.Ytenbpbnffnodhaa
open Go Go.RowKit Go.Own
set_option linter.unusedVariables false
set_option maxRecDepth 100000
section
variable {B : Nat} {w0 w : World} {l : List Ob} {q p bs cp : Nat} {cap : Int} {vb vd vl : Value} {ss : List Sv} {m : List Bd} {ls : Ls} {b : List UInt8}
theorem law12_Size (w : World) (n : Int) (raw : Bool) (h0 : -9223372036854775808 ≤ n) (h1 : n ≤ 9223372036854775807) :
    Calls Try.prog 109 #[.int .i64 n, .bool raw] w fun e w' => (∃ s, e = .returned (.int .i64 s) ∧ -9223372036854775808 ≤ s ∧ s ≤ 9223372036854775807) ∧ w = w' := by
  cases raw with
  | true =>
    have H := Lib.hid (And.intro h0 h1)
    clear h0 h1
    go_enter Try.func109, Try.ntmps109
    go_wp2
    go_ret
    exact ⟨⟨n, rfl, H.out.1, H.out.2⟩, rfl⟩
  | false =>
    have k0 : 0 ≤ n % 40 := Int.emod_nonneg _ (by decide)
    have k1 : n % 40 < 40 := Int.emod_lt_of_pos _ (by decide)
    have KP := Lib.hid (law_Pick w n 40 h0 h1 (by decide) (by decide))
    have u1 : IntKind.i64.wrap (16 * (n % 40)) = 16 * (n % 40) := IntWalk.i64_in _ (by omega)
    have u2 : IntKind.i64.wrap (32 + 16 * (n % 40)) = 32 + 16 * (n % 40) := IntWalk.i64_in _ (by omega)
    have HB := Lib.hid (show -9223372036854775808 ≤ 32 + 16 * (n % 40) ∧ 32 + 16 * (n % 40) ≤ 9223372036854775807 by omega)
    generalize n % 40 = r at *
    clear h0 h1 k0 k1
    go_enter Try.func109, Try.ntmps109
    go_wp2_with fail
    have kc := KP.out
    with_reducible refine kc.mono ?_
    clear kc
    rintro e w' ⟨rfl, rfl⟩
    go_wp2
    go_ret
    exact ⟨⟨_, rfl, HB.out.1, HB.out.2⟩, rfl⟩
set_option maxHeartbeats 8000000 in
theorem law12_Used (h : St B w0 w (HpL q cap vb vd vl ss m ls l)) (hm : m.length ≤ 2000) (n : Int) (h0 : -9223372036854775808 ≤ n) (h1 : n ≤ 9223372036854775807) :
    Calls Try.prog 108 #[hpP q, .int .i64 n] w fun e w' => (∃ o : Int, e = .returned (.int .i64 o)) ∧ St B w0 w' (HpL q cap vb vd vl ss m ls l) := by
  obtain ⟨ab, cb, rfl, hcap, hroom, hbl⟩ := hp_bl h
  obtain ⟨M, hM⟩ : ∃ M, M = m.length := ⟨_, rfl⟩
  have cells : ∀ w', St B w0 w' (HpL q cap (.slice ab m.length cb) vd vl ss m ls l) → w'.cell? ⟨q, 1, none⟩ = some (.slice ab m.length cb) ∧ ∀ i, (hi : i < m.length) → ∃ bb, ab = some ⟨bb, 0, none⟩ ∧ w'.cell? ⟨bb, i * 3, none⟩ = some (.int .i64 m[i].b.off) ∧ w'.cell? ⟨bb, i * 3 + 2, none⟩ = some (.bool m[i].b.used) := fun w' h' => by
    refine ⟨(hp_cells h').2.1, fun i hi => ?_⟩
    obtain ⟨ab2, cb2, e2, _, _, h3⟩ := hp_bl h'
    cases e2
    obtain ⟨bb, e, x0, _, x2⟩ := h3 i hi
    exact ⟨bb, e, x0, x2⟩
  have CO := Lib.hid cells; have T0 := Lib.hid h; have HMM := Lib.hid hm; have HN := Lib.hid (And.intro h0 h1)
  clear cells h hbl h0 h1
  go_enter Try.func108, Try.ntmps108
  go_wp2
  go_loopw [5, 6] (fun vr vk wr => ∃ (j : Nat) (R : List Nat), j ≤ m.length ∧ vk = .int .i64 j ∧ R.length ≤ j ∧ St B w0 wr (IntsO vr R :: HpL q cap (.slice ab m.length cb) vd vl ss m ls l)) (fun _ vj _ => m.length - (intOf vj).toNat)
  case atStart => exact ⟨0, [], Nat.zero_le _, rfl, Nat.le_refl _, T0.out.addOwn (Below.refl _ _) (World.ownsRow_nil _ _ _ _)⟩
  case round =>
    clear T0
    obtain ⟨j, R, hj, rfl, hRl, hS⟩ := hrel
    obtain ⟨c1, cb2⟩ := CO.out _ hS.tail
    by_cases hjl : j < m.length
    · have d1 : decide ((j : Int) < (m.length : Int)) = true := decide_eq_true (by omega)
      obtain ⟨bb, rfl, b0, b2⟩ := cb2 j hjl
      have hRl2 : R.length ≤ 1000000 := by omega
      generalize m[j] = x at *
      have HS := Lib.hid hS
      clear hS cb2
      cases hu : x.b.used with
      | true =>
        rw [hu] at b2
        clear hu
        go_wp2_with (at_builtin; go_must (refine ints_app HS.out 0 rfl rfl _ _ rfl rfl (x.b.off : Int) x.b.off rfl rfl hRl2 ?_; intro v7 w7 h7; have T7 := Lib.hid h7; clear h7))
        exact ⟨⟨j + 1, R ++ [x.b.off], by omega, by go_num, by rw [List.length_append, List.length_singleton]; omega, T7.out⟩, by simp [intOf]; omega⟩
      | false =>
        rw [hu] at b2
        clear hu
        go_wp2
        exact ⟨⟨j + 1, R, by omega, by go_num, by omega, HS.out⟩, by simp [intOf]; omega⟩
    · obtain rfl : j = m.length := by omega
      have d1 : decide ((m.length : Int) < (m.length : Int)) = false := decide_eq_false (by omega)
      have HS := Lib.hid hS
      obtain ⟨a4, c4, e4, hs4⟩ := ints_slice hS (i := 0) rfl
      subst e4
      clear hS cb2
      have hLb := Sl.cap hs4; have hLr := Sl.room hs4
      by_cases hz : R.length = 0
      · have d2 : ((R.length : Int) == 0) = true := by rw [beq_iff_eq]; omega
        clear hz hs4
        go_wp2
        go_ret
        exact ⟨⟨0, rfl⟩, HS.out.tail⟩
      · have d2 : ((R.length : Int) == 0) = false := by rw [beq_eq_false_iff_ne]; omega
        have k0 : 0 ≤ n % (R.length : Int) := Int.emod_nonneg _ (by omega)
        have k1 : n % (R.length : Int) < (R.length : Int) := Int.emod_lt_of_pos _ (by omega)
        have KP := Lib.hid (law_Pick wr n (R.length : Int) HN.out.1 HN.out.2 (by omega) (by have := HMM.out; omega))
        obtain ⟨i, hi⟩ : ∃ i : Nat, n % (R.length : Int) = i := ⟨(n % (R.length : Int)).toNat, by omega⟩
        rw [hi] at KP k1
        have hil : i < R.length := by omega
        obtain ⟨bb, bo, rfl, hcell⟩ := Sl.cells hs4 i (.int .i64 (R[i] : Nat)) (by simp [hil])
        generalize R[i] = y at *
        have hcell : wr.cell? ⟨bb, bo + i, none⟩ = some (.int .i64 (y : Nat)) := hcell
        clear hz hs4 k0 k1 hi
        go_wp2_with fail
        have kc := KP.out
        with_reducible refine kc.mono ?_
        clear kc
        rintro e w' ⟨rfl, rfl⟩
        go_wp2
        go_ret
        exact ⟨⟨_, rfl⟩, HS.out.tail⟩
set_option maxHeartbeats 8000000 in
theorem law12_Same (h : St B w0 w (HpL q cap vb vd vl ss m ls (ArT p ⟨bs, cp, b⟩ :: l))) (hs : ss.length = 22) (hR : Right b (bsOf m) ls) (hA : Apart (bsOf m)) (hcap : cap = cp) :
    Calls Try.prog 101 #[arP p, hpP q] w fun e w' => e = .returned (.int .i64 1) ∧ St B w0 w' (HpL q cap vb vd vl ss m ls (ArT p ⟨bs, cp, b⟩ :: l)) := by
  have hm := right_count' hR
  have hW := hR.walk
  have hmx := hR.max
  subst hcap
  obtain ⟨gl, cl, _, _, rfl, hcl1, hcl2, _, _⟩ := hp_ls h hs 0 (by decide)
  have hIR : IsRight b := ⟨bsOf m, ls, hR, hA⟩
  have hall : ∀ c, c < 22 → allB b c = some (ls c) := fun c hc => hR.lists.all hR.good hR.len hR.max hc
  have KW := Lib.hid (blk_Walk h (i := 4) rfl)
  have hms : ∀ w', St B w0 w' (HpL q cp vb vd (.slice (some ⟨gl, 0, none⟩) 22 cl) ss m ls (ArT p ⟨bs, cp, b⟩ :: l)) → (∀ c, c < 22 → w'.cell? ⟨gl, c, none⟩ = some (.slice (sv ss c).a (ls c).length (sv ss c).c) ∧ Sl w' (sv ss c).a (ls c).length (sv ss c).c 1 (ints (ls c))) ∧ w'.cell? ⟨q, 3, none⟩ = some (.slice (some ⟨gl, 0, none⟩) 22 cl) := fun w' h' => ⟨fun c hc => hp_lst h' (k := 3) rfl hs c hc, (hp_cells h').2.2.2⟩
  have HW := Lib.hid hW; have HIR := Lib.hid hIR; have HALL := Lib.hid hall; have HMS := Lib.hid hms; have HMM := Lib.hid hm
  clear hW hIR hall hR hA h hm hms
  go_enter Try.func101, Try.ntmps101
  go_wp2_with fail
  have kc := KW.out
  rw [HW.out, show errW (some (bsOf m)) = .nilIface from rfl, Option.getD_some] at kc
  with_reducible refine kc.mono ?_
  clear kc
  rintro e w2 ⟨v2', rfl, t2⟩
  have T2 := Lib.hid t2
  clear t2
  obtain ⟨a2, c2, e2, hs2⟩ := bls_slice T2.out (i := 0) rfl
  subst e2
  obtain ⟨a3, c3, e3, hs3⟩ := bls_slice T2.out (i := 2) rfl
  subst e3
  have BLK := fun (W : World) (h1 : Sl W a2 (bsOf m).length c2 3 ((bsOf m).map blC).flatten) (h2 : Sl W a3 (bsOf m).length c3 3 ((bsOf m).map blC).flatten) => (law_Blocks W a2 c2 (bsOf m) a3 c3 (bsOf m) h1 h2)
  simp only [if_true] at BLK
  have HBLK := Lib.hid BLK
  have s2 := Sl.cap hs2; have s3 := Sl.room hs2; have s4 := Sl.cap hs3; have s5 := Sl.room hs3
  have TX := Lib.hid T2.out.drew
  clear BLK hs2 hs3
  go_wp2_with fail
  refine flows_begin (S := fun w' => St B w0 w' (BlsO (.slice a2 (bsOf m).length c2) (bsOf m) :: HpL q cp (.slice a3 (bsOf m).length c3) vd (.slice (some ⟨gl, 0, none⟩) 22 cl) ss m ls (ArT p ⟨bs, cp, b⟩ :: l))) hmixed 25 rfl (by repeat (first | with_reducible refine ps_then ?_ | with_reducible refine ps_block ?_ | with_reducible exact ps_body | refine ps_then ?_ | refine ps_block ?_ | exact ps_body)) TX.out (fun hps => ?_)
  simp only [List.replicate]
  generalize w2.drew = wx at TX ⊢
  refine flows_take 0 (v := ?_) (a' := ?_) hps rfl (by kernel_rfl) rfl ?_ ?_ ?_
  rotate_left 2
  · intro w' hk; go_simp; try rfl
  · simp only [Act.put, List.setIfInBounds_toArray, List.set_cons_succ, List.set_cons_zero]; try rfl
  refine flows_take 1 (v := ?_) (a' := ?_) hps rfl (by kernel_rfl) rfl ?_ ?_ ?_
  rotate_left 2
  · intro w' hk; go_simp; try rfl
  · simp only [Act.put, List.setIfInBounds_toArray, List.set_cons_succ, List.set_cons_zero]; try rfl
  refine flows_take 2 (v := ?_) (a' := ?_) hps rfl (by kernel_rfl) rfl ?_ ?_ ?_
  rotate_left 2
  · intro w' hk; go_simp; try rfl
  · simp only [Act.put, List.setIfInBounds_toArray, List.set_cons_succ, List.set_cons_zero]; try rfl
  refine flows_take 3 (v := ?_) (a' := ?_) hps rfl (by kernel_rfl) rfl ?_ ?_ ?_
  rotate_left 2
  · intro w' hk; go_simp; try rfl
  · simp only [Act.put, List.setIfInBounds_toArray, List.set_cons_succ, List.set_cons_zero]; try rfl
  refine flows_take 4 (v := ?_) (a' := ?_) hps rfl (by kernel_rfl) rfl ?_ ?_ ?_
  rotate_left 2
  · intro w' hk; go_simp; try rfl
  · simp only [Act.put, List.setIfInBounds_toArray, List.set_cons_succ, List.set_cons_zero]; try rfl
  refine flows_take 5 (v := ?_) (a' := ?_) hps rfl (by kernel_rfl) rfl ?_ ?_ ?_
  rotate_left 2
  · intro w' hk; go_simp; try rfl
  · simp only [Act.put, List.setIfInBounds_toArray, List.set_cons_succ, List.set_cons_zero]; try rfl
  refine flows_take 6 (v := ?_) (a' := ?_) hps rfl (by kernel_rfl) rfl ?_ ?_ ?_
  rotate_left 2
  · intro w' hk; go_simp; try rfl
  · simp only [Act.put, List.setIfInBounds_toArray, List.set_cons_succ, List.set_cons_zero]; try rfl
  refine flows_take 7 (v := ?_) (a' := ?_) hps rfl (by kernel_rfl) rfl ?_ ?_ ?_
  rotate_left 2
  · intro w' hk; have c1 := (hp_cells hk.tail).2.1; go_simp; try rfl
  · simp only [Act.put, List.setIfInBounds_toArray, List.set_cons_succ, List.set_cons_zero]; try rfl
  refine flows_one 8 hps rfl (by kernel_rfl) rfl (wp_next (fun K hK => ?_))
  go_simp
  with_reducible refine (HBLK.out _ (bls_sl TX.out (i := 0) rfl).2 (bls_sl TX.out (i := 2) rfl).2).mono ?_
  rintro e w8 ⟨rfl, b8⟩
  have kp := TX.out.below b8
  have TY := Lib.hid kp
  clear b8 TX
  refine hK _ _ ⟨kp, ?_⟩
  clear kp hK
  refine flows_take 9 (v := ?_) (a' := ?_) hps rfl (by kernel_rfl) rfl ?_ ?_ ?_
  rotate_left 2
  · intro w' hk; go_simp; try rfl
  · simp only [Act.put, List.setIfInBounds_toArray, List.set_cons_succ, List.set_cons_zero]; try rfl
  refine flows_take 10 (v := ?_) (a' := ?_) hps rfl (by kernel_rfl) rfl ?_ ?_ ?_
  rotate_left 2
  · intro w' hk; go_simp; try rfl
  · simp only [Act.put, List.setIfInBounds_toArray, List.set_cons_succ, List.set_cons_zero]; try rfl
  refine flows_take 11 (v := ?_) (a' := ?_) hps rfl (by kernel_rfl) rfl ?_ ?_ ?_
  rotate_left 2
  · intro w' hk; go_simp; try rfl
  · simp only [Act.put, List.setIfInBounds_toArray, List.set_cons_succ, List.set_cons_zero]; try rfl
  refine flows_take 12 (v := ?_) (a' := ?_) hps rfl (by kernel_rfl) rfl ?_ ?_ ?_
  rotate_left 2
  · intro w' hk; go_simp; try rfl
  · simp only [Act.put, List.setIfInBounds_toArray, List.set_cons_succ, List.set_cons_zero]; try rfl
  refine flows_take 14 (v := ?_) (a' := ?_) hps rfl (by kernel_rfl) rfl ?_ ?_ ?_
  rotate_left 2
  · intro w' hk; go_simp; try rfl
  · simp only [Act.put, List.setIfInBounds_toArray, List.set_cons_succ, List.set_cons_zero]; try rfl
  refine flows_take 15 (v := ?_) (a' := ?_) hps rfl (by kernel_rfl) rfl ?_ ?_ ?_
  rotate_left 2
  · intro w' hk; go_simp; try rfl
  · simp only [Act.put, List.setIfInBounds_toArray, List.set_cons_succ, List.set_cons_zero]; try rfl
  refine flows_take 16 (v := ?_) (a' := ?_) hps rfl (by kernel_rfl) rfl ?_ ?_ ?_
  rotate_left 2
  · intro w' hk; go_simp; try rfl
  · simp only [Act.put, List.setIfInBounds_toArray, List.set_cons_succ, List.set_cons_zero]; try rfl
  refine flows_take 17 (v := ?_) (a' := ?_) hps rfl (by kernel_rfl) rfl ?_ ?_ ?_
  rotate_left 2
  · intro w' hk; have c0 := (hp_cells hk.tail).1; go_simp; try rfl
  · simp only [Act.put, List.setIfInBounds_toArray, List.set_cons_succ, List.set_cons_zero]; try rfl
  refine flows_one 13 hps rfl (by kernel_rfl) rfl (wp_next (fun K hK => ?_))
  go_simp
  with_reducible refine (ar_Cap TY.out (i := 5) rfl).mono ?_
  rintro e w9 ⟨rfl, rfl⟩
  have kp := TY.out
  refine hK _ _ ⟨kp, ?_⟩
  clear kp hK
  refine flows_take 18 (v := ?_) (a' := ?_) hps rfl (by kernel_rfl) rfl ?_ ?_ ?_
  rotate_left 2
  · intro w' hk; go_simp; try rfl
  · simp only [Act.put, List.setIfInBounds_toArray, List.set_cons_succ, List.set_cons_zero]; try rfl
  refine flows_take 19 (v := ?_) (a' := ?_) hps rfl (by kernel_rfl) rfl ?_ ?_ ?_
  rotate_left 2
  · intro w' hk; go_simp; try rfl
  · simp only [Act.put, List.setIfInBounds_toArray, List.set_cons_succ, List.set_cons_zero]; try rfl
  refine flows_take 20 (v := ?_) (a' := ?_) hps rfl (by kernel_rfl) rfl ?_ ?_ ?_
  rotate_left 2
  · intro w' hk; go_simp; try rfl
  · simp only [Act.put, List.setIfInBounds_toArray, List.set_cons_succ, List.set_cons_zero]; try rfl
  refine flows_take 21 (v := ?_) (a' := ?_) hps rfl (by kernel_rfl) rfl ?_ ?_ ?_
  rotate_left 2
  · intro w' hk; go_simp; try rfl
  · simp only [Act.put, List.setIfInBounds_toArray, List.set_cons_succ, List.set_cons_zero]; try rfl
  refine flows_one 22 hps rfl (by kernel_rfl) rfl (wp_next (fun K hK => ?_))
  go_simp
  with_reducible refine (chk_Check (i := 5) (show St B w0 _ ((BlsO (.slice a2 (bsOf m).length c2) (bsOf m) :: HpL q cp (.slice a3 (bsOf m).length c3) vd (.slice (some ⟨gl, 0, none⟩) 22 cl) ss m ls (ArT p ⟨bs, cp, b⟩ :: l)).set 5 (ArT p ⟨bs, cp, b⟩)) from TY.out) (by simp only [List.length_cons]; omega)).mono ?_
  rintro e w10 ⟨r10, rfl, b10, t10⟩
  obtain rfl := chkV_true b10 HIR.out
  rw [show chkV true = .nilIface from rfl]
  have kp : St B w0 w10 (BlsO (.slice a2 (bsOf m).length c2) (bsOf m) :: HpL q cp (.slice a3 (bsOf m).length c3) vd (.slice (some ⟨gl, 0, none⟩) 22 cl) ss m ls (ArT p ⟨bs, cp, b⟩ :: l)) := t10
  have TZ := Lib.hid kp
  clear b10 t10 TY
  refine hK _ _ ⟨kp, ?_⟩
  clear kp hK
  refine flows_take 23 (v := ?_) (a' := ?_) hps rfl (by kernel_rfl) rfl ?_ ?_ ?_
  rotate_left 2
  · intro w' hk; go_simp; try rfl
  · simp only [Act.put, List.setIfInBounds_toArray, List.set_cons_succ, List.set_cons_zero]; try rfl
  refine flows_take 24 (v := ?_) (a' := ?_) hps rfl (by kernel_rfl) rfl ?_ ?_ ?_
  rotate_left 2
  · intro w' hk; go_simp; try rfl
  · simp only [Act.put, List.setIfInBounds_toArray, List.set_cons_succ, List.set_cons_zero]; try rfl
  refine flows_done hps (by kernel_rfl) ?_
  go_wp2
  go_loopw [7] (fun vi wr => ∃ c : Nat, c ≤ 22 ∧ vi = .int .i64 c ∧ St B w0 wr (BlsO (.slice a2 (bsOf m).length c2) (bsOf m) :: HpL q cp (.slice a3 (bsOf m).length c3) vd (.slice (some ⟨gl, 0, none⟩) 22 cl) ss m ls (ArT p ⟨bs, cp, b⟩ :: l))) (fun vi _ => 22 - (intOf vi).toNat)
  case atStart => exact ⟨0, Nat.zero_le _, rfl, TZ.out⟩
  case round =>
    obtain ⟨c, hc, rfl, hS⟩ := hrel
    clear TZ
    by_cases hlt : c < 22
    · have d1 : decide ((c : Int) < 22) = true := decide_eq_true (by omega)
      have ka := ls_All (i := 5) (show St B w0 wr ((BlsO (.slice a2 (bsOf m).length c2) (bsOf m) :: HpL q cp (.slice a3 (bsOf m).length c3) vd (.slice (some ⟨gl, 0, none⟩) 22 cl) ss m ls (ArT p ⟨bs, cp, b⟩ :: l)).set 5 (ArT p ⟨bs, cp, b⟩)) from hS) (by simp only [List.length_cons]; omega) c hlt
      rw [HALL.out c hlt, show errA (some (ls c)) = .nilIface from rfl, Option.getD_some] at ka
      have KA := Lib.hid ka
      have HLT := Lib.hid hlt
      clear ka hS
      go_wp2_with fail
      have kc := KA.out
      with_reducible refine kc.mono ?_
      clear kc
      rintro e w4 ⟨v4', rfl, t4⟩
      have T4 := Lib.hid t4
      clear t4
      have T5 := Lib.hid (show St B w0 w4 (IntsO v4' (ls c) :: BlsO (.slice a2 (bsOf m).length c2) (bsOf m) :: HpL q cp (.slice a3 (bsOf m).length c3) vd (.slice (some ⟨gl, 0, none⟩) 22 cl) ss m ls (ArT p ⟨bs, cp, b⟩ :: l)) from T4.out)
      clear T4
      obtain ⟨a5, c5, e5, hs5⟩ := ints_slice T5.out (i := 0) rfl
      subst e5
      obtain ⟨hml, c3'⟩ := HMS.out _ T5.out.tail.tail
      obtain ⟨hcell, hsl⟩ := hml c HLT.out
      generalize (sv ss c).a = ax at *
      generalize (sv ss c).c = cx at *
      have ki := law_Ints w4 a5 c5 (ls c) ax cx (ls c) hs5 hsl
      rw [if_pos rfl] at ki
      have KI := Lib.hid ki
      clear ki hs5 hsl hml
      go_wp2_with fail
      have kc := KI.out
      with_reducible refine kc.mono ?_
      clear kc
      rintro e w6 ⟨rfl, b6⟩
      have B6 := Lib.hid b6
      clear b6
      go_wp2
      exact ⟨⟨c + 1, HLT.out, by go_num, (T5.out.below B6.out).tail⟩, by simp [intOf]; omega⟩
    · obtain rfl : c = 22 := by omega
      have HS := Lib.hid hS
      clear hS
      go_wp2
      go_ret
      exact ⟨rfl, HS.out.tail⟩
end
end Go.Proofs.Ytenbpbnffnodhaa

/- Layer 12's statements: a deed. -/
namespace Go.Proofs.Ytenbpbnffnodhaa
open Go Go.RowKit Go.Own
set_option linter.unusedVariables false
set_option maxRecDepth 100000
section
variable {B : Nat} {w0 w : World} {l : List Ob} {q p bs cp : Nat} {cap : Int} {vb vd vl : Value} {ss : List Sv} {m : List Bd} {ls : Ls} {b : List UInt8}
/-- An arena and its model, that have the same blocks and lists. -/
def AlS (B : Nat) (w0 w : World) (q p bs cp : Nat) (l : List Ob) (m : List Bd) (ls : Ls) (b : List UInt8) : Prop :=
  ∃ vb vd vl ss, ss.length = 22 ∧ Right b (bsOf m) ls ∧ Fine m ∧ St B w0 w (HpL q cp vb vd vl ss m ls (ArT p ⟨bs, cp, b⟩ :: l))
abbrev DdO (g : Nat) (W N M : Int) (R : Bool) : Ob := RowO g 145 [.int .i64 W, .int .i64 N, .int .i64 M, .bool R]
theorem dd_back {P X : Ob} (h : St B w0 w (P :: HpL q cap vb vd vl ss m ls (X :: l))) : St B w0 w (HpL q cap vb vd vl ss m ls (X :: P :: l)) :=
  h.perm (List.perm_middle (l₁ := [_, _, _, _, _])).symm
theorem als_done {r : List Bd × Ls} {P : Ob} (h : HpR B w0 q cp vl r (ArT p ⟨bs, cp, b⟩ :: P :: l) w) (hR : Right b (bsOf r.1) r.2) (hF : Fine r.1) : ∃ m' ls' b', AlS B w0 w q p bs cp l m' ls' b' := by
  obtain ⟨vb, vd, ss, h1, h2⟩ := h
  exact ⟨r.1, r.2, b, vb, vd, vl, ss, h1, hR, hF, h2.sub (.cons_cons _ (.cons_cons _ (.cons_cons _ (.cons_cons _ (.cons_cons _ (List.sublist_cons_self ..))))))⟩
theorem cls_no {s : Int} (h : isSize s = false) : cls s = -1 := by unfold cls; rw [h]; rfl
set_option maxHeartbeats 32000000 in
theorem law12_Do (h : AlS B w0 w q p bs cp l m ls b) (W N M : Int) (R : Bool) (w0' : -9223372036854775808 ≤ W ∧ W ≤ 9223372036854775807) (n0 : -9223372036854775808 ≤ N ∧ N ≤ 9223372036854775807) (m0 : -9223372036854775808 ≤ M ∧ M ≤ 9223372036854775807) :
    Calls Try.prog 105 #[arP p, hpP q, .agg #[.int .i64 W, .int .i64 N, .int .i64 M, .bool R]] w fun e w' => e = .returned (.int .i64 1) ∧ ∃ m' ls' b', AlS B w0 w' q p bs cp l m' ls' b' := by
  obtain ⟨vb, vd, vl, ss, hs, hR, hF, h⟩ := h
  have hm := right_count' hR
  have hcaps := ar_caps (i := 4) (show St B w0 w ((HpL q cp vb vd vl ss m ls (ArT p ⟨bs, cp, b⟩ :: l)).set 4 (ArT p ⟨bs, cp, b⟩)) from h) (by simp only [List.length_cons]; omega)
  have KP := Lib.hid (fun w => law_Pick w W 6 w0'.1 w0'.2 (by decide) (by decide))
  have p0 : 0 ≤ W % 6 := Int.emod_nonneg _ (by decide)
  have p1 : W % 6 < 6 := Int.emod_lt_of_pos _ (by decide)
  obtain ⟨P, hP⟩ : ∃ P, P = W % 6 := ⟨_, rfl⟩
  rw [← hP] at KP p0 p1
  have H := Lib.hid h; have HS := Lib.hid hs; have HR := Lib.hid hR; have HF := Lib.hid hF; have HM := Lib.hid (show m.length ≤ 2000 by omega); have HCP := Lib.hid hcaps; have HN := Lib.hid n0; have HMM := Lib.hid m0; have HP := Lib.hid (And.intro p0 p1)
  clear h hs hR hF hm hcaps n0 m0 w0' hP p0 p1
  cases R with
  | true =>
    by_cases p3 : P = 3
    · subst p3
      go_enter Try.func105, Try.ntmps105
      go_wp2_with fail
      have h1 := H.out.addRow 145 [.int .i64 W, .int .i64 N, .int .i64 M, .bool true]
      generalize w.alloc (Obj.cells #[Value.int IntKind.i64 W, Value.int IntKind.i64 N, Value.int IntKind.i64 M, Value.bool true] 145 (0, 0)) = w1 at h1 ⊢
      generalize w.heap.size = g at h1 ⊢
      have T1 := Lib.hid (dd_back h1)
      clear h1
      have k0 : w1.cell? ⟨g, 0, none⟩ = some (.int .i64 W) := (T1.out.row (i := 5) rfl).cell 0
      have k1 : w1.cell? ⟨g, 1, none⟩ = some (.int .i64 N) := (T1.out.row (i := 5) rfl).cell 1
      have k2 : w1.cell? ⟨g, 2, none⟩ = some (.int .i64 M) := (T1.out.row (i := 5) rfl).cell 2
      have k3 : w1.cell? ⟨g, 3, none⟩ = some (.bool true) := (T1.out.row (i := 5) rfl).cell 3
      have T2 := T1
      clear T1
      go_wp2_with fail
      have kc := KP.out w1
      with_reducible refine kc.mono ?_
      clear kc
      rintro e w' ⟨rfl, rfl⟩
      have hl4 : 4 < (HpL q cp vb vd vl ss m ls (ArT p ⟨bs, cp, b⟩ :: DdO g W N M true :: l)).length := by simp only [List.length_cons]; omega
      have HL4 := Lib.hid hl4
      clear hl4
      cases hg : giveM m N ls with
      | none =>
        have HG := Lib.hid hg
        clear hg
        go_wp2_with fail
        have kc := al_Give (i := 4) (show St B w0 w1 ((HpL q cp vb vd vl ss m ls (ArT p ⟨bs, cp, b⟩ :: DdO g W N M true :: l)).set 4 (ArT p ⟨bs, cp, b⟩)) from T2.out) HL4.out HR.out N
        rw [HG.out] at kc
        with_reducible refine kc.mono ?_
        clear kc
        rintro e w3 ⟨rfl, t3⟩
        have T3 := Lib.hid t3
        clear t3
        go_wp2_with fail
        have kc := code_of w3 3 (by decide) (by decide)
        with_reducible refine kc.mono ?_
        clear kc
        rintro e w' ⟨rfl, rfl⟩
        go_wp2_with fail
        have kc := rh_Give (m := m) (l := ArT p ⟨bs, cp, b⟩ :: DdO g W N M true :: l) T3.out HS.out HR.out HF.out N
        rw [HG.out] at kc
        with_reducible refine kc.mono ?_
        clear kc
        rintro e w4 ⟨rfl, t4⟩
        have T4 := Lib.hid t4
        clear t4
        go_wp2
        go_ret
        exact ⟨rfl, als_done T4.out HR.out HF.out⟩
      | some r =>
        have HG := Lib.hid hg
        clear hg
        go_wp2_with fail
        have kc := al_Give (i := 4) (show St B w0 w1 ((HpL q cp vb vd vl ss m ls (ArT p ⟨bs, cp, b⟩ :: DdO g W N M true :: l)).set 4 (ArT p ⟨bs, cp, b⟩)) from T2.out) HL4.out HR.out N
        rw [HG.out] at kc
        with_reducible refine kc.mono ?_
        clear kc
        rintro e w3 ⟨rfl, b3', t3, hn3, hu3, hr3⟩
        have T3 := Lib.hid t3
        have HN3 := Lib.hid hn3
        have HU3 := Lib.hid hu3
        have HR3 := Lib.hid hr3
        clear t3 hn3 hu3 hr3
        go_wp2_with fail
        have kc := code_nil w3
        with_reducible refine kc.mono ?_
        clear kc
        rintro e w' ⟨rfl, rfl⟩
        go_wp2_with fail
        have kc := rh_Give (m := m) (l := ArT p ⟨bs, cp, b3'⟩ :: DdO g W N M true :: l) T3.out HS.out HR.out HF.out N
        rw [HG.out] at kc
        with_reducible refine kc.mono ?_
        clear kc
        rintro e w4 ⟨rfl, t4⟩
        have T4 := Lib.hid t4
        clear t4
        go_wp2
        go_ret
        exact ⟨rfl, als_done T4.out HR3.out (fine_giveM HF.out HG.out)⟩
    by_cases p4 : P = 4
    · subst p4
      go_enter Try.func105, Try.ntmps105
      go_wp2_with fail
      have h1 := H.out.addRow 145 [.int .i64 W, .int .i64 N, .int .i64 M, .bool true]
      generalize w.alloc (Obj.cells #[Value.int IntKind.i64 W, Value.int IntKind.i64 N, Value.int IntKind.i64 M, Value.bool true] 145 (0, 0)) = w1 at h1 ⊢
      generalize w.heap.size = g at h1 ⊢
      have T1 := Lib.hid (dd_back h1)
      clear h1
      have k0 : w1.cell? ⟨g, 0, none⟩ = some (.int .i64 W) := (T1.out.row (i := 5) rfl).cell 0
      have k1 : w1.cell? ⟨g, 1, none⟩ = some (.int .i64 N) := (T1.out.row (i := 5) rfl).cell 1
      have k2 : w1.cell? ⟨g, 2, none⟩ = some (.int .i64 M) := (T1.out.row (i := 5) rfl).cell 2
      have k3 : w1.cell? ⟨g, 3, none⟩ = some (.bool true) := (T1.out.row (i := 5) rfl).cell 3
      have T2 := T1
      clear T1
      go_wp2_with fail
      have kc := KP.out w1
      with_reducible refine kc.mono ?_
      clear kc
      rintro e w' ⟨rfl, rfl⟩
      have hl4 : 4 < (HpL q cp vb vd vl ss m ls (ArT p ⟨bs, cp, b⟩ :: DdO g W N M true :: l)).length := by simp only [List.length_cons]; omega
      have HL4 := Lib.hid hl4
      clear hl4
      go_wp2_with fail
      have kc := law12_Size w1 M true HMM.out.1 HMM.out.2
      with_reducible refine kc.mono ?_
      clear kc
      rintro e w' ⟨⟨s', rfl, hz0, hz1⟩, rfl⟩
      have HZ0 := Lib.hid hz0
      have HZ1 := Lib.hid hz1
      clear hz0 hz1
      cases hz : isSize s' with
      | false =>
        have HZ := Lib.hid hz
        clear hz
        go_wp2_with fail
        have kc := al_Trim_bad (p := p) T2.out N s' HZ0.out HZ1.out HZ.out
        with_reducible refine kc.mono ?_
        clear kc
        rintro e w3 ⟨rfl, t3⟩
        have T3 := Lib.hid t3
        clear t3
        go_wp2_with fail
        have kc := code_of w3 1 (by decide) (by decide)
        with_reducible refine kc.mono ?_
        clear kc
        rintro e w' ⟨rfl, rfl⟩
        go_wp2_with fail
        have kc := ref_Class w3 s' HZ0.out HZ1.out
        rw [cls_no HZ.out] at kc
        with_reducible refine kc.mono ?_
        clear kc
        rintro e w' ⟨rfl, rfl⟩
        go_wp2
        go_ret
        exact ⟨rfl, als_done (r := (m, ls)) ⟨_, _, _, HS.out, T3.out⟩ HR.out HF.out⟩
      | true =>
        have hz2 := (isSize_iff _).1 hz
        obtain ⟨n, rfl⟩ : ∃ n : Nat, s' = n := ⟨s'.toNat, by omega⟩
        have HZ := Lib.hid hz
        have hcn := clsN_of hz
        have HCN := Lib.hid hcn
        have d7 : decide ((clsN n : Int) ≥ 0) = true := decide_eq_true (by omega)
        clear hz hz2 hcn
        cases hg : trimM m N n ls with
        | none =>
          have HG := Lib.hid hg
          clear hg
          go_wp2_with fail
          have kc := al_Trim (i := 4) (show St B w0 w1 ((HpL q cp vb vd vl ss m ls (ArT p ⟨bs, cp, b⟩ :: DdO g W N M true :: l)).set 4 (ArT p ⟨bs, cp, b⟩)) from T2.out) HL4.out HR.out N n HZ.out
          rw [HG.out] at kc
          with_reducible refine kc.mono ?_
          clear kc
          rintro e w3 ⟨rfl, t3⟩
          have T3 := Lib.hid t3
          clear t3
          go_wp2_with fail
          have kc := code_of w3 3 (by decide) (by decide)
          with_reducible refine kc.mono ?_
          clear kc
          rintro e w' ⟨rfl, rfl⟩
          go_wp2_with fail
          have kc := ref_Class w3 (n : Int) HZ0.out HZ1.out
          rw [HCN.out.2] at kc
          with_reducible refine kc.mono ?_
          clear kc
          rintro e w' ⟨rfl, rfl⟩
          go_wp2_with fail
          have kc := rh_Trim (m := m) (l := ArT p ⟨bs, cp, b⟩ :: DdO g W N M true :: l) T3.out HS.out HR.out HF.out N n HZ.out
          rw [HG.out] at kc
          with_reducible refine kc.mono ?_
          clear kc
          rintro e w4 ⟨rfl, t4⟩
          have T4 := Lib.hid t4
          clear t4
          go_wp2
          go_ret
          exact ⟨rfl, als_done T4.out HR.out HF.out⟩
        | some r =>
          have HG := Lib.hid hg
          clear hg
          go_wp2_with fail
          have kc := al_Trim (i := 4) (show St B w0 w1 ((HpL q cp vb vd vl ss m ls (ArT p ⟨bs, cp, b⟩ :: DdO g W N M true :: l)).set 4 (ArT p ⟨bs, cp, b⟩)) from T2.out) HL4.out HR.out N n HZ.out
          rw [HG.out] at kc
          with_reducible refine kc.mono ?_
          clear kc
          rintro e w3 ⟨rfl, b3', t3, hn3, hu3, hr3⟩
          have T3 := Lib.hid t3
          have HN3 := Lib.hid hn3
          have HU3 := Lib.hid hu3
          have HR3 := Lib.hid hr3
          clear t3 hn3 hu3 hr3
          go_wp2_with fail
          have kc := code_nil w3
          with_reducible refine kc.mono ?_
          clear kc
          rintro e w' ⟨rfl, rfl⟩
          go_wp2_with fail
          have kc := ref_Class w3 (n : Int) HZ0.out HZ1.out
          rw [HCN.out.2] at kc
          with_reducible refine kc.mono ?_
          clear kc
          rintro e w' ⟨rfl, rfl⟩
          go_wp2_with fail
          have kc := rh_Trim (m := m) (l := ArT p ⟨bs, cp, b3'⟩ :: DdO g W N M true :: l) T3.out HS.out HR.out HF.out N n HZ.out
          rw [HG.out] at kc
          with_reducible refine kc.mono ?_
          clear kc
          rintro e w4 ⟨rfl, t4⟩
          have T4 := Lib.hid t4
          clear t4
          go_wp2
          go_ret
          exact ⟨rfl, als_done T4.out HR3.out (fine_trimM HF.out HG.out)⟩
    by_cases p5 : P = 5
    · subst p5
      go_enter Try.func105, Try.ntmps105
      go_wp2_with fail
      have h1 := H.out.addRow 145 [.int .i64 W, .int .i64 N, .int .i64 M, .bool true]
      generalize w.alloc (Obj.cells #[Value.int IntKind.i64 W, Value.int IntKind.i64 N, Value.int IntKind.i64 M, Value.bool true] 145 (0, 0)) = w1 at h1 ⊢
      generalize w.heap.size = g at h1 ⊢
      have T1 := Lib.hid (dd_back h1)
      clear h1
      have k0 : w1.cell? ⟨g, 0, none⟩ = some (.int .i64 W) := (T1.out.row (i := 5) rfl).cell 0
      have k1 : w1.cell? ⟨g, 1, none⟩ = some (.int .i64 N) := (T1.out.row (i := 5) rfl).cell 1
      have k2 : w1.cell? ⟨g, 2, none⟩ = some (.int .i64 M) := (T1.out.row (i := 5) rfl).cell 2
      have k3 : w1.cell? ⟨g, 3, none⟩ = some (.bool true) := (T1.out.row (i := 5) rfl).cell 3
      have T2 := T1
      clear T1
      go_wp2_with fail
      have kc := KP.out w1
      with_reducible refine kc.mono ?_
      clear kc
      rintro e w' ⟨rfl, rfl⟩
      have hl4 : 4 < (HpL q cp vb vd vl ss m ls (ArT p ⟨bs, cp, b⟩ :: DdO g W N M true :: l)).length := by simp only [List.length_cons]; omega
      have HL4 := Lib.hid hl4
      clear hl4
      cases hz : usedZ m N with
      | none =>
        have HV := Lib.hid (show usV m N = .tuple #[.agg #[.int .i64 0, .int .i64 0, .bool false], .iface 183 (.int .i64 3)] from by unfold usV; rw [hz])
        have HZ := Lib.hid hz
        clear hz
        go_wp2_with fail
        have kc := al_Used (i := 4) (show St B w0 w1 ((HpL q cp vb vd vl ss m ls (ArT p ⟨bs, cp, b⟩ :: DdO g W N M true :: l)).set 4 (ArT p ⟨bs, cp, b⟩)) from T2.out) HL4.out HR.out N
        rw [HV.out] at kc
        with_reducible refine kc.mono ?_
        clear kc
        rintro e w3 ⟨rfl, t3⟩
        have T3 := Lib.hid t3
        clear t3
        go_wp2_with (first | (refine bk_alloc T3.out rfl rfl ?_; intro g4 w4 h4; have T4 := Lib.hid h4; clear h4) | (refine bk_store T4.out 0 rfl rfl _ _ rfl rfl 0 0 false rfl ?_; intro w5 h5; have T5 := Lib.hid (show St B w0 w5 (HpL q cp vb vd vl ss m ls (BkO g4 0 0 false :: ArT p ⟨bs, cp, b⟩ :: DdO g W N M true :: l)) from hp_back (P := BkO g4 0 0 false) h5); clear h5 T4; go_wp2_with fail))
        have kc := rh_Used T5.out HM.out N
        rw [HZ.out, show ixV none = -1 from rfl] at kc
        with_reducible refine kc.mono ?_
        clear kc
        rintro e w' ⟨rfl, rfl⟩
        go_wp2_with fail
        have kc := code_of w5 3 (by decide) (by decide)
        with_reducible refine kc.mono ?_
        clear kc
        rintro e w' ⟨rfl, rfl⟩
        go_wp2
        go_ret
        exact ⟨rfl, als_done (r := (m, ls)) (b := b) ⟨_, _, _, HS.out, (T5.out.sub (.cons_cons _ (.cons_cons _ (.cons_cons _ (.cons_cons _ (List.sublist_cons_self ..))))))⟩ HR.out HF.out⟩
      | some j =>
        obtain ⟨X, hj, hXo, hXu⟩ := usedZ_some hz
        have HV := Lib.hid (show usV m N = .tuple #[.agg #[.int .i64 X.b.off, .int .i64 X.b.size, .bool true], .nilIface] from by unfold usV; simp only [hz, hj])
        have HZ := Lib.hid hz
        have HJ := Lib.hid hj; have HXU := Lib.hid hXu
        have d7 : decide ((j : Int) < 0) = false := decide_eq_false (by omega)
        clear hz hj hXo hXu
        go_wp2_with fail
        have kc := al_Used (i := 4) (show St B w0 w1 ((HpL q cp vb vd vl ss m ls (ArT p ⟨bs, cp, b⟩ :: DdO g W N M true :: l)).set 4 (ArT p ⟨bs, cp, b⟩)) from T2.out) HL4.out HR.out N
        rw [HV.out] at kc
        with_reducible refine kc.mono ?_
        clear kc
        rintro e w3 ⟨rfl, t3⟩
        have T3 := Lib.hid t3
        clear t3
        go_wp2_with (first | (refine bk_alloc T3.out rfl rfl ?_; intro g4 w4 h4; have T4 := Lib.hid h4; clear h4) | (refine bk_store T4.out 0 rfl rfl _ _ rfl rfl X.b.off X.b.size true rfl ?_; intro w5 h5; have T5 := Lib.hid (show St B w0 w5 (HpL q cp vb vd vl ss m ls (BkO g4 X.b.off X.b.size true :: ArT p ⟨bs, cp, b⟩ :: DdO g W N M true :: l)) from hp_back (P := BkO g4 X.b.off X.b.size true) h5); clear h5 T4; go_wp2_with fail))
        have kc := rh_Used T5.out HM.out N
        rw [HZ.out, show ixV (some j) = (j : Int) from rfl] at kc
        with_reducible refine kc.mono ?_
        clear kc
        rintro e w' ⟨rfl, rfl⟩
        go_wp2_with fail
        have kc := code_nil w5
        with_reducible refine kc.mono ?_
        clear kc
        rintro e w' ⟨rfl, rfl⟩
        have T6 := Lib.hid T5.out.drew
        have hjl : j < m.length := (List.getElem?_eq_some_iff.1 HJ.out).1
        have hj2 : m[j] = X := (List.getElem?_eq_some_iff.1 HJ.out).2
        obtain ⟨ab, cb, e9, hcc, hrm, hbl⟩ := hp_bl T6.out
        obtain ⟨bb, e10, b0, b1, b2⟩ := hbl j hjl
        subst e9
        subst e10
        rw [hj2] at b0 b1 b2
        rw [HXU.out] at b2
        have C1 := Lib.hid (hp_cells T6.out).2.1
        have B0 := Lib.hid b0; have B1 := Lib.hid b1; have B2 := Lib.hid b2
        have x0 := Lib.hid ((T6.out.row (i := 4) rfl).cell 0); have x1 := Lib.hid ((T6.out.row (i := 4) rfl).cell 1); have x2 := Lib.hid ((T6.out.row (i := 4) rfl).cell 2)
        clear b0 b1 b2 hbl hj2
        go_wp2_with fail
        refine flowe_begin (F := fun _ => False) hmixed 9 rfl (by repeat (first | with_reducible refine ps_then ?_ | with_reducible refine ps_block ?_ | with_reducible exact ps_body | refine ps_then ?_ | refine ps_block ?_ | exact ps_body)) (fun hps => ?_)
        simp only [List.replicate]
        have kk := (Keep.refl (fun _ => False) (w5)).drew
        refine flowe_take 0 (v := ?_) (a' := ?_) hps rfl (by kernel_rfl) rfl ?_ ?_ ?_
        rotate_left 2
        · intro w' hk; have c0 := mid_keep hk x0.out (fun h => h); have c1 := mid_keep hk x1.out (fun h => h); have c2 := mid_keep hk x2.out (fun h => h); go_simp; try rfl
        · simp only [Act.put, List.setIfInBounds_toArray, List.set_cons_succ, List.set_cons_zero]; try rfl
        refine flowe_take 1 (v := ?_) (a' := ?_) hps rfl (by kernel_rfl) rfl ?_ ?_ ?_
        rotate_left 2
        · intro w' hk; go_simp; try rfl
        · simp only [Act.put, List.setIfInBounds_toArray, List.set_cons_succ, List.set_cons_zero]; try rfl
        refine flowe_take 2 (v := ?_) (a' := ?_) hps rfl (by kernel_rfl) rfl ?_ ?_ ?_
        rotate_left 2
        · intro w' hk; go_simp; try rfl
        · simp only [Act.put, List.setIfInBounds_toArray, List.set_cons_succ, List.set_cons_zero]; try rfl
        refine flowe_take 3 (v := ?_) (a' := ?_) hps rfl (by kernel_rfl) rfl ?_ ?_ ?_
        rotate_left 2
        · intro w' hk; go_simp; try rfl
        · simp only [Act.put, List.setIfInBounds_toArray, List.set_cons_succ, List.set_cons_zero]; try rfl
        refine flowe_take 4 (v := ?_) (a' := ?_) hps rfl (by kernel_rfl) rfl ?_ ?_ ?_
        rotate_left 2
        · intro w' hk; have c0 := mid_keep hk C1.out (fun h => h); go_simp; try rfl
        · simp only [Act.put, List.setIfInBounds_toArray, List.set_cons_succ, List.set_cons_zero]; try rfl
        refine flowe_take 5 (v := ?_) (a' := ?_) hps rfl (by kernel_rfl) rfl ?_ ?_ ?_
        rotate_left 2
        · intro w' hk; go_simp; try rfl
        · simp only [Act.put, List.setIfInBounds_toArray, List.set_cons_succ, List.set_cons_zero]; try rfl
        refine flowe_take 6 (v := ?_) (a' := ?_) hps rfl (by kernel_rfl) rfl ?_ ?_ ?_
        rotate_left 2
        · intro w' hk; go_simp; try rfl
        · simp only [Act.put, List.setIfInBounds_toArray, List.set_cons_succ, List.set_cons_zero]; try rfl
        refine flowe_take 7 (v := ?_) (a' := ?_) hps rfl (by kernel_rfl) rfl ?_ ?_ ?_
        rotate_left 2
        · intro w' hk; have c0 := mid_keep hk B0.out (fun h => h); have c1 := mid_keep hk B1.out (fun h => h); have c2 := mid_keep hk B2.out (fun h => h); go_simp; try rfl
        · simp only [Act.put, List.setIfInBounds_toArray, List.set_cons_succ, List.set_cons_zero]; try rfl
        refine flowe_take 8 (v := ?_) (a' := ?_) hps rfl (by kernel_rfl) rfl ?_ ?_ ?_
        rotate_left 2
        · intro w' hk; go_simp; try rfl
        · simp only [Act.put, List.setIfInBounds_toArray, List.set_cons_succ, List.set_cons_zero]; try rfl
        refine flowe_done hps (by kernel_rfl) ?_
        clear kk
        go_wp2
        go_ret
        exact ⟨rfl, als_done (r := (m, ls)) (b := b) ⟨_, _, _, HS.out, (T6.out.sub (.cons_cons _ (.cons_cons _ (.cons_cons _ (.cons_cons _ (List.sublist_cons_self ..))))))⟩ HR.out HF.out⟩
    have e3 : ((P : Int) == 3) = false := by rw [beq_eq_false_iff_ne]; exact p3
    have e4 : ((P : Int) == 4) = false := by rw [beq_eq_false_iff_ne]; exact p4
    have e5 : ((P : Int) == 5) = false := by rw [beq_eq_false_iff_ne]; exact p5
    clear p3 p4 p5
    go_enter Try.func105, Try.ntmps105
    go_wp2_with fail
    have h1 := H.out.addRow 145 [.int .i64 W, .int .i64 N, .int .i64 M, .bool true]
    generalize w.alloc (Obj.cells #[Value.int IntKind.i64 W, Value.int IntKind.i64 N, Value.int IntKind.i64 M, Value.bool true] 145 (0, 0)) = w1 at h1 ⊢
    generalize w.heap.size = g at h1 ⊢
    have T1 := Lib.hid (dd_back h1)
    clear h1
    have k0 : w1.cell? ⟨g, 0, none⟩ = some (.int .i64 W) := (T1.out.row (i := 5) rfl).cell 0
    have k1 : w1.cell? ⟨g, 1, none⟩ = some (.int .i64 N) := (T1.out.row (i := 5) rfl).cell 1
    have k2 : w1.cell? ⟨g, 2, none⟩ = some (.int .i64 M) := (T1.out.row (i := 5) rfl).cell 2
    have k3 : w1.cell? ⟨g, 3, none⟩ = some (.bool true) := (T1.out.row (i := 5) rfl).cell 3
    have T2 := T1
    clear T1
    go_wp2_with fail
    have kc := KP.out w1
    with_reducible refine kc.mono ?_
    clear kc
    rintro e w' ⟨rfl, rfl⟩
    have hl4 : 4 < (HpL q cp vb vd vl ss m ls (ArT p ⟨bs, cp, b⟩ :: DdO g W N M true :: l)).length := by simp only [List.length_cons]; omega
    have HL4 := Lib.hid hl4
    clear hl4
    go_wp2_with fail
    have kc := law12_Size w1 N true HN.out.1 HN.out.2
    with_reducible refine kc.mono ?_
    clear kc
    rintro e w' ⟨⟨s', rfl, hz0, hz1⟩, rfl⟩
    have HZ0 := Lib.hid hz0
    have HZ1 := Lib.hid hz1
    clear hz0 hz1
    cases hz : isSize s' with
    | false =>
      have HZ := Lib.hid hz
      clear hz
      go_wp2_with fail
      have kc := al_Take_bad (p := p) T2.out s' HZ0.out HZ1.out HZ.out
      with_reducible refine kc.mono ?_
      clear kc
      rintro e w3 ⟨rfl, t3⟩
      have T3 := Lib.hid t3
      clear t3
      go_wp2_with fail
      have kc := code_of w3 1 (by decide) (by decide)
      with_reducible refine kc.mono ?_
      clear kc
      rintro e w' ⟨rfl, rfl⟩
      go_wp2_with fail
      have kc := ref_Class w3 s' HZ0.out HZ1.out
      rw [cls_no HZ.out] at kc
      with_reducible refine kc.mono ?_
      clear kc
      rintro e w' ⟨rfl, rfl⟩
      go_wp2
      go_ret
      exact ⟨rfl, als_done (r := (m, ls)) ⟨_, _, _, HS.out, T3.out⟩ HR.out HF.out⟩
    | true =>
      have hz2 := (isSize_iff _).1 hz
      obtain ⟨n, rfl⟩ : ∃ n : Nat, s' = n := ⟨s'.toNat, by omega⟩
      have HZ := Lib.hid hz
      have hcn := clsN_of hz
      have HCN := Lib.hid hcn
      have d7 : decide ((clsN n : Int) ≥ 0) = true := decide_eq_true (by omega)
      clear hz hz2 hcn
      cases hg : takeM m cp n ls with
      | none =>
        have HG := Lib.hid hg
        clear hg
        go_wp2_with fail
        have kc := al_Take (i := 4) (show St B w0 w1 ((HpL q cp vb vd vl ss m ls (ArT p ⟨bs, cp, b⟩ :: DdO g W N M true :: l)).set 4 (ArT p ⟨bs, cp, b⟩)) from T2.out) HL4.out HR.out n HZ.out
        rw [HG.out] at kc
        with_reducible refine kc.mono ?_
        clear kc
        rintro e w3 ⟨rfl, t3⟩
        have T3 := Lib.hid t3
        clear t3
        go_wp2_with fail
        have kc := code_of w3 5 (by decide) (by decide)
        with_reducible refine kc.mono ?_
        clear kc
        rintro e w' ⟨rfl, rfl⟩
        go_wp2_with fail
        have kc := ref_Class w3 (n : Int) HZ0.out HZ1.out
        rw [HCN.out.2] at kc
        with_reducible refine kc.mono ?_
        clear kc
        rintro e w' ⟨rfl, rfl⟩
        go_wp2_with fail
        have kc := rh_Take (m := m) (l := ArT p ⟨bs, cp, b⟩ :: DdO g W N M true :: l) T3.out HS.out HR.out HF.out n HZ.out cp rfl HCP.out.2.1
        rw [HG.out] at kc
        with_reducible refine kc.mono ?_
        clear kc
        rintro e w4 ⟨rfl, t4⟩
        have T4 := Lib.hid t4
        clear t4
        go_wp2
        go_ret
        exact ⟨rfl, als_done T4.out HR.out HF.out⟩
      | some r =>
        obtain ⟨o2, r⟩ := r
        have HG := Lib.hid hg
        clear hg
        go_wp2_with fail
        have kc := al_Take (i := 4) (show St B w0 w1 ((HpL q cp vb vd vl ss m ls (ArT p ⟨bs, cp, b⟩ :: DdO g W N M true :: l)).set 4 (ArT p ⟨bs, cp, b⟩)) from T2.out) HL4.out HR.out n HZ.out
        rw [HG.out] at kc
        with_reducible refine kc.mono ?_
        clear kc
        rintro e w3 ⟨rfl, b3', t3, hu3, hr3⟩
        have T3 := Lib.hid t3
        have HU3 := Lib.hid hu3
        have HR3 := Lib.hid hr3
        clear t3 hu3 hr3
        go_wp2_with fail
        have kc := code_nil w3
        with_reducible refine kc.mono ?_
        clear kc
        rintro e w' ⟨rfl, rfl⟩
        go_wp2_with fail
        have kc := ref_Class w3 (n : Int) HZ0.out HZ1.out
        rw [HCN.out.2] at kc
        with_reducible refine kc.mono ?_
        clear kc
        rintro e w' ⟨rfl, rfl⟩
        go_wp2_with fail
        have kc := rh_Take (m := m) (l := ArT p ⟨bs, cp, b3'⟩ :: DdO g W N M true :: l) T3.out HS.out HR.out HF.out n HZ.out cp rfl HCP.out.2.1
        rw [HG.out] at kc
        with_reducible refine kc.mono ?_
        clear kc
        rintro e w4 ⟨rfl, t4⟩
        have T4 := Lib.hid t4
        clear t4
        go_wp2
        go_ret
        exact ⟨rfl, als_done T4.out HR3.out (fine_takeM HF.out HG.out)⟩
  | false =>
    by_cases p3 : P = 3
    · subst p3
      go_enter Try.func105, Try.ntmps105
      go_wp2_with fail
      have h1 := H.out.addRow 145 [.int .i64 W, .int .i64 N, .int .i64 M, .bool false]
      generalize w.alloc (Obj.cells #[Value.int IntKind.i64 W, Value.int IntKind.i64 N, Value.int IntKind.i64 M, Value.bool false] 145 (0, 0)) = w1 at h1 ⊢
      generalize w.heap.size = g at h1 ⊢
      have T1 := Lib.hid (dd_back h1)
      clear h1
      have k0 : w1.cell? ⟨g, 0, none⟩ = some (.int .i64 W) := (T1.out.row (i := 5) rfl).cell 0
      have k1 : w1.cell? ⟨g, 1, none⟩ = some (.int .i64 N) := (T1.out.row (i := 5) rfl).cell 1
      have k2 : w1.cell? ⟨g, 2, none⟩ = some (.int .i64 M) := (T1.out.row (i := 5) rfl).cell 2
      have k3 : w1.cell? ⟨g, 3, none⟩ = some (.bool false) := (T1.out.row (i := 5) rfl).cell 3
      go_wp2_with fail
      have kc := law12_Used T1.out HM.out N HN.out.1 HN.out.2
      with_reducible refine kc.mono ?_
      clear kc
      rintro e w2 ⟨⟨o', rfl⟩, t2⟩
      have T2 := Lib.hid t2
      clear t2
      have k0 : w2.cell? ⟨g, 0, none⟩ = some (.int .i64 W) := (T2.out.row (i := 5) rfl).cell 0
      have k1 : w2.cell? ⟨g, 1, none⟩ = some (.int .i64 N) := (T2.out.row (i := 5) rfl).cell 1
      have k2 : w2.cell? ⟨g, 2, none⟩ = some (.int .i64 M) := (T2.out.row (i := 5) rfl).cell 2
      have k3 : w2.cell? ⟨g, 3, none⟩ = some (.bool false) := (T2.out.row (i := 5) rfl).cell 3
      clear T1
      go_wp2_with fail
      have kc := KP.out w2
      with_reducible refine kc.mono ?_
      clear kc
      rintro e w' ⟨rfl, rfl⟩
      have hl4 : 4 < (HpL q cp vb vd vl ss m ls (ArT p ⟨bs, cp, b⟩ :: DdO g W N M false :: l)).length := by simp only [List.length_cons]; omega
      have HL4 := Lib.hid hl4
      clear hl4
      cases hg : giveM m o' ls with
      | none =>
        have HG := Lib.hid hg
        clear hg
        go_wp2_with fail
        have kc := al_Give (i := 4) (show St B w0 w2 ((HpL q cp vb vd vl ss m ls (ArT p ⟨bs, cp, b⟩ :: DdO g W N M false :: l)).set 4 (ArT p ⟨bs, cp, b⟩)) from T2.out) HL4.out HR.out o'
        rw [HG.out] at kc
        with_reducible refine kc.mono ?_
        clear kc
        rintro e w3 ⟨rfl, t3⟩
        have T3 := Lib.hid t3
        clear t3
        go_wp2_with fail
        have kc := code_of w3 3 (by decide) (by decide)
        with_reducible refine kc.mono ?_
        clear kc
        rintro e w' ⟨rfl, rfl⟩
        go_wp2_with fail
        have kc := rh_Give (m := m) (l := ArT p ⟨bs, cp, b⟩ :: DdO g W N M false :: l) T3.out HS.out HR.out HF.out o'
        rw [HG.out] at kc
        with_reducible refine kc.mono ?_
        clear kc
        rintro e w4 ⟨rfl, t4⟩
        have T4 := Lib.hid t4
        clear t4
        go_wp2
        go_ret
        exact ⟨rfl, als_done T4.out HR.out HF.out⟩
      | some r =>
        have HG := Lib.hid hg
        clear hg
        go_wp2_with fail
        have kc := al_Give (i := 4) (show St B w0 w2 ((HpL q cp vb vd vl ss m ls (ArT p ⟨bs, cp, b⟩ :: DdO g W N M false :: l)).set 4 (ArT p ⟨bs, cp, b⟩)) from T2.out) HL4.out HR.out o'
        rw [HG.out] at kc
        with_reducible refine kc.mono ?_
        clear kc
        rintro e w3 ⟨rfl, b3', t3, hn3, hu3, hr3⟩
        have T3 := Lib.hid t3
        have HN3 := Lib.hid hn3
        have HU3 := Lib.hid hu3
        have HR3 := Lib.hid hr3
        clear t3 hn3 hu3 hr3
        go_wp2_with fail
        have kc := code_nil w3
        with_reducible refine kc.mono ?_
        clear kc
        rintro e w' ⟨rfl, rfl⟩
        go_wp2_with fail
        have kc := rh_Give (m := m) (l := ArT p ⟨bs, cp, b3'⟩ :: DdO g W N M false :: l) T3.out HS.out HR.out HF.out o'
        rw [HG.out] at kc
        with_reducible refine kc.mono ?_
        clear kc
        rintro e w4 ⟨rfl, t4⟩
        have T4 := Lib.hid t4
        clear t4
        go_wp2
        go_ret
        exact ⟨rfl, als_done T4.out HR3.out (fine_giveM HF.out HG.out)⟩
    by_cases p4 : P = 4
    · subst p4
      go_enter Try.func105, Try.ntmps105
      go_wp2_with fail
      have h1 := H.out.addRow 145 [.int .i64 W, .int .i64 N, .int .i64 M, .bool false]
      generalize w.alloc (Obj.cells #[Value.int IntKind.i64 W, Value.int IntKind.i64 N, Value.int IntKind.i64 M, Value.bool false] 145 (0, 0)) = w1 at h1 ⊢
      generalize w.heap.size = g at h1 ⊢
      have T1 := Lib.hid (dd_back h1)
      clear h1
      have k0 : w1.cell? ⟨g, 0, none⟩ = some (.int .i64 W) := (T1.out.row (i := 5) rfl).cell 0
      have k1 : w1.cell? ⟨g, 1, none⟩ = some (.int .i64 N) := (T1.out.row (i := 5) rfl).cell 1
      have k2 : w1.cell? ⟨g, 2, none⟩ = some (.int .i64 M) := (T1.out.row (i := 5) rfl).cell 2
      have k3 : w1.cell? ⟨g, 3, none⟩ = some (.bool false) := (T1.out.row (i := 5) rfl).cell 3
      go_wp2_with fail
      have kc := law12_Used T1.out HM.out N HN.out.1 HN.out.2
      with_reducible refine kc.mono ?_
      clear kc
      rintro e w2 ⟨⟨o', rfl⟩, t2⟩
      have T2 := Lib.hid t2
      clear t2
      have k0 : w2.cell? ⟨g, 0, none⟩ = some (.int .i64 W) := (T2.out.row (i := 5) rfl).cell 0
      have k1 : w2.cell? ⟨g, 1, none⟩ = some (.int .i64 N) := (T2.out.row (i := 5) rfl).cell 1
      have k2 : w2.cell? ⟨g, 2, none⟩ = some (.int .i64 M) := (T2.out.row (i := 5) rfl).cell 2
      have k3 : w2.cell? ⟨g, 3, none⟩ = some (.bool false) := (T2.out.row (i := 5) rfl).cell 3
      clear T1
      go_wp2_with fail
      have kc := KP.out w2
      with_reducible refine kc.mono ?_
      clear kc
      rintro e w' ⟨rfl, rfl⟩
      have hl4 : 4 < (HpL q cp vb vd vl ss m ls (ArT p ⟨bs, cp, b⟩ :: DdO g W N M false :: l)).length := by simp only [List.length_cons]; omega
      have HL4 := Lib.hid hl4
      clear hl4
      go_wp2_with fail
      have kc := law12_Size w2 M false HMM.out.1 HMM.out.2
      with_reducible refine kc.mono ?_
      clear kc
      rintro e w' ⟨⟨s', rfl, hz0, hz1⟩, rfl⟩
      have HZ0 := Lib.hid hz0
      have HZ1 := Lib.hid hz1
      clear hz0 hz1
      cases hz : isSize s' with
      | false =>
        have HZ := Lib.hid hz
        clear hz
        go_wp2_with fail
        have kc := al_Trim_bad (p := p) T2.out o' s' HZ0.out HZ1.out HZ.out
        with_reducible refine kc.mono ?_
        clear kc
        rintro e w3 ⟨rfl, t3⟩
        have T3 := Lib.hid t3
        clear t3
        go_wp2_with fail
        have kc := code_of w3 1 (by decide) (by decide)
        with_reducible refine kc.mono ?_
        clear kc
        rintro e w' ⟨rfl, rfl⟩
        go_wp2_with fail
        have kc := ref_Class w3 s' HZ0.out HZ1.out
        rw [cls_no HZ.out] at kc
        with_reducible refine kc.mono ?_
        clear kc
        rintro e w' ⟨rfl, rfl⟩
        go_wp2
        go_ret
        exact ⟨rfl, als_done (r := (m, ls)) ⟨_, _, _, HS.out, T3.out⟩ HR.out HF.out⟩
      | true =>
        have hz2 := (isSize_iff _).1 hz
        obtain ⟨n, rfl⟩ : ∃ n : Nat, s' = n := ⟨s'.toNat, by omega⟩
        have HZ := Lib.hid hz
        have hcn := clsN_of hz
        have HCN := Lib.hid hcn
        have d7 : decide ((clsN n : Int) ≥ 0) = true := decide_eq_true (by omega)
        clear hz hz2 hcn
        cases hg : trimM m o' n ls with
        | none =>
          have HG := Lib.hid hg
          clear hg
          go_wp2_with fail
          have kc := al_Trim (i := 4) (show St B w0 w2 ((HpL q cp vb vd vl ss m ls (ArT p ⟨bs, cp, b⟩ :: DdO g W N M false :: l)).set 4 (ArT p ⟨bs, cp, b⟩)) from T2.out) HL4.out HR.out o' n HZ.out
          rw [HG.out] at kc
          with_reducible refine kc.mono ?_
          clear kc
          rintro e w3 ⟨rfl, t3⟩
          have T3 := Lib.hid t3
          clear t3
          go_wp2_with fail
          have kc := code_of w3 3 (by decide) (by decide)
          with_reducible refine kc.mono ?_
          clear kc
          rintro e w' ⟨rfl, rfl⟩
          go_wp2_with fail
          have kc := ref_Class w3 (n : Int) HZ0.out HZ1.out
          rw [HCN.out.2] at kc
          with_reducible refine kc.mono ?_
          clear kc
          rintro e w' ⟨rfl, rfl⟩
          go_wp2_with fail
          have kc := rh_Trim (m := m) (l := ArT p ⟨bs, cp, b⟩ :: DdO g W N M false :: l) T3.out HS.out HR.out HF.out o' n HZ.out
          rw [HG.out] at kc
          with_reducible refine kc.mono ?_
          clear kc
          rintro e w4 ⟨rfl, t4⟩
          have T4 := Lib.hid t4
          clear t4
          go_wp2
          go_ret
          exact ⟨rfl, als_done T4.out HR.out HF.out⟩
        | some r =>
          have HG := Lib.hid hg
          clear hg
          go_wp2_with fail
          have kc := al_Trim (i := 4) (show St B w0 w2 ((HpL q cp vb vd vl ss m ls (ArT p ⟨bs, cp, b⟩ :: DdO g W N M false :: l)).set 4 (ArT p ⟨bs, cp, b⟩)) from T2.out) HL4.out HR.out o' n HZ.out
          rw [HG.out] at kc
          with_reducible refine kc.mono ?_
          clear kc
          rintro e w3 ⟨rfl, b3', t3, hn3, hu3, hr3⟩
          have T3 := Lib.hid t3
          have HN3 := Lib.hid hn3
          have HU3 := Lib.hid hu3
          have HR3 := Lib.hid hr3
          clear t3 hn3 hu3 hr3
          go_wp2_with fail
          have kc := code_nil w3
          with_reducible refine kc.mono ?_
          clear kc
          rintro e w' ⟨rfl, rfl⟩
          go_wp2_with fail
          have kc := ref_Class w3 (n : Int) HZ0.out HZ1.out
          rw [HCN.out.2] at kc
          with_reducible refine kc.mono ?_
          clear kc
          rintro e w' ⟨rfl, rfl⟩
          go_wp2_with fail
          have kc := rh_Trim (m := m) (l := ArT p ⟨bs, cp, b3'⟩ :: DdO g W N M false :: l) T3.out HS.out HR.out HF.out o' n HZ.out
          rw [HG.out] at kc
          with_reducible refine kc.mono ?_
          clear kc
          rintro e w4 ⟨rfl, t4⟩
          have T4 := Lib.hid t4
          clear t4
          go_wp2
          go_ret
          exact ⟨rfl, als_done T4.out HR3.out (fine_trimM HF.out HG.out)⟩
    by_cases p5 : P = 5
    · subst p5
      go_enter Try.func105, Try.ntmps105
      go_wp2_with fail
      have h1 := H.out.addRow 145 [.int .i64 W, .int .i64 N, .int .i64 M, .bool false]
      generalize w.alloc (Obj.cells #[Value.int IntKind.i64 W, Value.int IntKind.i64 N, Value.int IntKind.i64 M, Value.bool false] 145 (0, 0)) = w1 at h1 ⊢
      generalize w.heap.size = g at h1 ⊢
      have T1 := Lib.hid (dd_back h1)
      clear h1
      have k0 : w1.cell? ⟨g, 0, none⟩ = some (.int .i64 W) := (T1.out.row (i := 5) rfl).cell 0
      have k1 : w1.cell? ⟨g, 1, none⟩ = some (.int .i64 N) := (T1.out.row (i := 5) rfl).cell 1
      have k2 : w1.cell? ⟨g, 2, none⟩ = some (.int .i64 M) := (T1.out.row (i := 5) rfl).cell 2
      have k3 : w1.cell? ⟨g, 3, none⟩ = some (.bool false) := (T1.out.row (i := 5) rfl).cell 3
      go_wp2_with fail
      have kc := law12_Used T1.out HM.out N HN.out.1 HN.out.2
      with_reducible refine kc.mono ?_
      clear kc
      rintro e w2 ⟨⟨o', rfl⟩, t2⟩
      have T2 := Lib.hid t2
      clear t2
      have k0 : w2.cell? ⟨g, 0, none⟩ = some (.int .i64 W) := (T2.out.row (i := 5) rfl).cell 0
      have k1 : w2.cell? ⟨g, 1, none⟩ = some (.int .i64 N) := (T2.out.row (i := 5) rfl).cell 1
      have k2 : w2.cell? ⟨g, 2, none⟩ = some (.int .i64 M) := (T2.out.row (i := 5) rfl).cell 2
      have k3 : w2.cell? ⟨g, 3, none⟩ = some (.bool false) := (T2.out.row (i := 5) rfl).cell 3
      clear T1
      go_wp2_with fail
      have kc := KP.out w2
      with_reducible refine kc.mono ?_
      clear kc
      rintro e w' ⟨rfl, rfl⟩
      have hl4 : 4 < (HpL q cp vb vd vl ss m ls (ArT p ⟨bs, cp, b⟩ :: DdO g W N M false :: l)).length := by simp only [List.length_cons]; omega
      have HL4 := Lib.hid hl4
      clear hl4
      cases hz : usedZ m o' with
      | none =>
        have HV := Lib.hid (show usV m o' = .tuple #[.agg #[.int .i64 0, .int .i64 0, .bool false], .iface 183 (.int .i64 3)] from by unfold usV; rw [hz])
        have HZ := Lib.hid hz
        clear hz
        go_wp2_with fail
        have kc := al_Used (i := 4) (show St B w0 w2 ((HpL q cp vb vd vl ss m ls (ArT p ⟨bs, cp, b⟩ :: DdO g W N M false :: l)).set 4 (ArT p ⟨bs, cp, b⟩)) from T2.out) HL4.out HR.out o'
        rw [HV.out] at kc
        with_reducible refine kc.mono ?_
        clear kc
        rintro e w3 ⟨rfl, t3⟩
        have T3 := Lib.hid t3
        clear t3
        go_wp2_with (first | (refine bk_alloc T3.out rfl rfl ?_; intro g4 w4 h4; have T4 := Lib.hid h4; clear h4) | (refine bk_store T4.out 0 rfl rfl _ _ rfl rfl 0 0 false rfl ?_; intro w5 h5; have T5 := Lib.hid (show St B w0 w5 (HpL q cp vb vd vl ss m ls (BkO g4 0 0 false :: ArT p ⟨bs, cp, b⟩ :: DdO g W N M false :: l)) from hp_back (P := BkO g4 0 0 false) h5); clear h5 T4; go_wp2_with fail))
        have kc := rh_Used T5.out HM.out o'
        rw [HZ.out, show ixV none = -1 from rfl] at kc
        with_reducible refine kc.mono ?_
        clear kc
        rintro e w' ⟨rfl, rfl⟩
        go_wp2_with fail
        have kc := code_of w5 3 (by decide) (by decide)
        with_reducible refine kc.mono ?_
        clear kc
        rintro e w' ⟨rfl, rfl⟩
        go_wp2
        go_ret
        exact ⟨rfl, als_done (r := (m, ls)) (b := b) ⟨_, _, _, HS.out, (T5.out.sub (.cons_cons _ (.cons_cons _ (.cons_cons _ (.cons_cons _ (List.sublist_cons_self ..))))))⟩ HR.out HF.out⟩
      | some j =>
        obtain ⟨X, hj, hXo, hXu⟩ := usedZ_some hz
        have HV := Lib.hid (show usV m o' = .tuple #[.agg #[.int .i64 X.b.off, .int .i64 X.b.size, .bool true], .nilIface] from by unfold usV; simp only [hz, hj])
        have HZ := Lib.hid hz
        have HJ := Lib.hid hj; have HXU := Lib.hid hXu
        have d7 : decide ((j : Int) < 0) = false := decide_eq_false (by omega)
        clear hz hj hXo hXu
        go_wp2_with fail
        have kc := al_Used (i := 4) (show St B w0 w2 ((HpL q cp vb vd vl ss m ls (ArT p ⟨bs, cp, b⟩ :: DdO g W N M false :: l)).set 4 (ArT p ⟨bs, cp, b⟩)) from T2.out) HL4.out HR.out o'
        rw [HV.out] at kc
        with_reducible refine kc.mono ?_
        clear kc
        rintro e w3 ⟨rfl, t3⟩
        have T3 := Lib.hid t3
        clear t3
        go_wp2_with (first | (refine bk_alloc T3.out rfl rfl ?_; intro g4 w4 h4; have T4 := Lib.hid h4; clear h4) | (refine bk_store T4.out 0 rfl rfl _ _ rfl rfl X.b.off X.b.size true rfl ?_; intro w5 h5; have T5 := Lib.hid (show St B w0 w5 (HpL q cp vb vd vl ss m ls (BkO g4 X.b.off X.b.size true :: ArT p ⟨bs, cp, b⟩ :: DdO g W N M false :: l)) from hp_back (P := BkO g4 X.b.off X.b.size true) h5); clear h5 T4; go_wp2_with fail))
        have kc := rh_Used T5.out HM.out o'
        rw [HZ.out, show ixV (some j) = (j : Int) from rfl] at kc
        with_reducible refine kc.mono ?_
        clear kc
        rintro e w' ⟨rfl, rfl⟩
        go_wp2_with fail
        have kc := code_nil w5
        with_reducible refine kc.mono ?_
        clear kc
        rintro e w' ⟨rfl, rfl⟩
        have T6 := Lib.hid T5.out.drew
        have hjl : j < m.length := (List.getElem?_eq_some_iff.1 HJ.out).1
        have hj2 : m[j] = X := (List.getElem?_eq_some_iff.1 HJ.out).2
        obtain ⟨ab, cb, e9, hcc, hrm, hbl⟩ := hp_bl T6.out
        obtain ⟨bb, e10, b0, b1, b2⟩ := hbl j hjl
        subst e9
        subst e10
        rw [hj2] at b0 b1 b2
        rw [HXU.out] at b2
        have C1 := Lib.hid (hp_cells T6.out).2.1
        have B0 := Lib.hid b0; have B1 := Lib.hid b1; have B2 := Lib.hid b2
        have x0 := Lib.hid ((T6.out.row (i := 4) rfl).cell 0); have x1 := Lib.hid ((T6.out.row (i := 4) rfl).cell 1); have x2 := Lib.hid ((T6.out.row (i := 4) rfl).cell 2)
        clear b0 b1 b2 hbl hj2
        go_wp2_with fail
        refine flowe_begin (F := fun _ => False) hmixed 9 rfl (by repeat (first | with_reducible refine ps_then ?_ | with_reducible refine ps_block ?_ | with_reducible exact ps_body | refine ps_then ?_ | refine ps_block ?_ | exact ps_body)) (fun hps => ?_)
        simp only [List.replicate]
        have kk := (Keep.refl (fun _ => False) (w5)).drew
        refine flowe_take 0 (v := ?_) (a' := ?_) hps rfl (by kernel_rfl) rfl ?_ ?_ ?_
        rotate_left 2
        · intro w' hk; have c0 := mid_keep hk x0.out (fun h => h); have c1 := mid_keep hk x1.out (fun h => h); have c2 := mid_keep hk x2.out (fun h => h); go_simp; try rfl
        · simp only [Act.put, List.setIfInBounds_toArray, List.set_cons_succ, List.set_cons_zero]; try rfl
        refine flowe_take 1 (v := ?_) (a' := ?_) hps rfl (by kernel_rfl) rfl ?_ ?_ ?_
        rotate_left 2
        · intro w' hk; go_simp; try rfl
        · simp only [Act.put, List.setIfInBounds_toArray, List.set_cons_succ, List.set_cons_zero]; try rfl
        refine flowe_take 2 (v := ?_) (a' := ?_) hps rfl (by kernel_rfl) rfl ?_ ?_ ?_
        rotate_left 2
        · intro w' hk; go_simp; try rfl
        · simp only [Act.put, List.setIfInBounds_toArray, List.set_cons_succ, List.set_cons_zero]; try rfl
        refine flowe_take 3 (v := ?_) (a' := ?_) hps rfl (by kernel_rfl) rfl ?_ ?_ ?_
        rotate_left 2
        · intro w' hk; go_simp; try rfl
        · simp only [Act.put, List.setIfInBounds_toArray, List.set_cons_succ, List.set_cons_zero]; try rfl
        refine flowe_take 4 (v := ?_) (a' := ?_) hps rfl (by kernel_rfl) rfl ?_ ?_ ?_
        rotate_left 2
        · intro w' hk; have c0 := mid_keep hk C1.out (fun h => h); go_simp; try rfl
        · simp only [Act.put, List.setIfInBounds_toArray, List.set_cons_succ, List.set_cons_zero]; try rfl
        refine flowe_take 5 (v := ?_) (a' := ?_) hps rfl (by kernel_rfl) rfl ?_ ?_ ?_
        rotate_left 2
        · intro w' hk; go_simp; try rfl
        · simp only [Act.put, List.setIfInBounds_toArray, List.set_cons_succ, List.set_cons_zero]; try rfl
        refine flowe_take 6 (v := ?_) (a' := ?_) hps rfl (by kernel_rfl) rfl ?_ ?_ ?_
        rotate_left 2
        · intro w' hk; go_simp; try rfl
        · simp only [Act.put, List.setIfInBounds_toArray, List.set_cons_succ, List.set_cons_zero]; try rfl
        refine flowe_take 7 (v := ?_) (a' := ?_) hps rfl (by kernel_rfl) rfl ?_ ?_ ?_
        rotate_left 2
        · intro w' hk; have c0 := mid_keep hk B0.out (fun h => h); have c1 := mid_keep hk B1.out (fun h => h); have c2 := mid_keep hk B2.out (fun h => h); go_simp; try rfl
        · simp only [Act.put, List.setIfInBounds_toArray, List.set_cons_succ, List.set_cons_zero]; try rfl
        refine flowe_take 8 (v := ?_) (a' := ?_) hps rfl (by kernel_rfl) rfl ?_ ?_ ?_
        rotate_left 2
        · intro w' hk; go_simp; try rfl
        · simp only [Act.put, List.setIfInBounds_toArray, List.set_cons_succ, List.set_cons_zero]; try rfl
        refine flowe_done hps (by kernel_rfl) ?_
        clear kk
        go_wp2
        go_ret
        exact ⟨rfl, als_done (r := (m, ls)) (b := b) ⟨_, _, _, HS.out, (T6.out.sub (.cons_cons _ (.cons_cons _ (.cons_cons _ (.cons_cons _ (List.sublist_cons_self ..))))))⟩ HR.out HF.out⟩
    have e3 : ((P : Int) == 3) = false := by rw [beq_eq_false_iff_ne]; exact p3
    have e4 : ((P : Int) == 4) = false := by rw [beq_eq_false_iff_ne]; exact p4
    have e5 : ((P : Int) == 5) = false := by rw [beq_eq_false_iff_ne]; exact p5
    clear p3 p4 p5
    go_enter Try.func105, Try.ntmps105
    go_wp2_with fail
    have h1 := H.out.addRow 145 [.int .i64 W, .int .i64 N, .int .i64 M, .bool false]
    generalize w.alloc (Obj.cells #[Value.int IntKind.i64 W, Value.int IntKind.i64 N, Value.int IntKind.i64 M, Value.bool false] 145 (0, 0)) = w1 at h1 ⊢
    generalize w.heap.size = g at h1 ⊢
    have T1 := Lib.hid (dd_back h1)
    clear h1
    have k0 : w1.cell? ⟨g, 0, none⟩ = some (.int .i64 W) := (T1.out.row (i := 5) rfl).cell 0
    have k1 : w1.cell? ⟨g, 1, none⟩ = some (.int .i64 N) := (T1.out.row (i := 5) rfl).cell 1
    have k2 : w1.cell? ⟨g, 2, none⟩ = some (.int .i64 M) := (T1.out.row (i := 5) rfl).cell 2
    have k3 : w1.cell? ⟨g, 3, none⟩ = some (.bool false) := (T1.out.row (i := 5) rfl).cell 3
    go_wp2_with fail
    have kc := law12_Used T1.out HM.out N HN.out.1 HN.out.2
    with_reducible refine kc.mono ?_
    clear kc
    rintro e w2 ⟨⟨o', rfl⟩, t2⟩
    have T2 := Lib.hid t2
    clear t2
    have k0 : w2.cell? ⟨g, 0, none⟩ = some (.int .i64 W) := (T2.out.row (i := 5) rfl).cell 0
    have k1 : w2.cell? ⟨g, 1, none⟩ = some (.int .i64 N) := (T2.out.row (i := 5) rfl).cell 1
    have k2 : w2.cell? ⟨g, 2, none⟩ = some (.int .i64 M) := (T2.out.row (i := 5) rfl).cell 2
    have k3 : w2.cell? ⟨g, 3, none⟩ = some (.bool false) := (T2.out.row (i := 5) rfl).cell 3
    clear T1
    go_wp2_with fail
    have kc := KP.out w2
    with_reducible refine kc.mono ?_
    clear kc
    rintro e w' ⟨rfl, rfl⟩
    have hl4 : 4 < (HpL q cp vb vd vl ss m ls (ArT p ⟨bs, cp, b⟩ :: DdO g W N M false :: l)).length := by simp only [List.length_cons]; omega
    have HL4 := Lib.hid hl4
    clear hl4
    go_wp2_with fail
    have kc := law12_Size w2 N false HN.out.1 HN.out.2
    with_reducible refine kc.mono ?_
    clear kc
    rintro e w' ⟨⟨s', rfl, hz0, hz1⟩, rfl⟩
    have HZ0 := Lib.hid hz0
    have HZ1 := Lib.hid hz1
    clear hz0 hz1
    cases hz : isSize s' with
    | false =>
      have HZ := Lib.hid hz
      clear hz
      go_wp2_with fail
      have kc := al_Take_bad (p := p) T2.out s' HZ0.out HZ1.out HZ.out
      with_reducible refine kc.mono ?_
      clear kc
      rintro e w3 ⟨rfl, t3⟩
      have T3 := Lib.hid t3
      clear t3
      go_wp2_with fail
      have kc := code_of w3 1 (by decide) (by decide)
      with_reducible refine kc.mono ?_
      clear kc
      rintro e w' ⟨rfl, rfl⟩
      go_wp2_with fail
      have kc := ref_Class w3 s' HZ0.out HZ1.out
      rw [cls_no HZ.out] at kc
      with_reducible refine kc.mono ?_
      clear kc
      rintro e w' ⟨rfl, rfl⟩
      go_wp2
      go_ret
      exact ⟨rfl, als_done (r := (m, ls)) ⟨_, _, _, HS.out, T3.out⟩ HR.out HF.out⟩
    | true =>
      have hz2 := (isSize_iff _).1 hz
      obtain ⟨n, rfl⟩ : ∃ n : Nat, s' = n := ⟨s'.toNat, by omega⟩
      have HZ := Lib.hid hz
      have hcn := clsN_of hz
      have HCN := Lib.hid hcn
      have d7 : decide ((clsN n : Int) ≥ 0) = true := decide_eq_true (by omega)
      clear hz hz2 hcn
      cases hg : takeM m cp n ls with
      | none =>
        have HG := Lib.hid hg
        clear hg
        go_wp2_with fail
        have kc := al_Take (i := 4) (show St B w0 w2 ((HpL q cp vb vd vl ss m ls (ArT p ⟨bs, cp, b⟩ :: DdO g W N M false :: l)).set 4 (ArT p ⟨bs, cp, b⟩)) from T2.out) HL4.out HR.out n HZ.out
        rw [HG.out] at kc
        with_reducible refine kc.mono ?_
        clear kc
        rintro e w3 ⟨rfl, t3⟩
        have T3 := Lib.hid t3
        clear t3
        go_wp2_with fail
        have kc := code_of w3 5 (by decide) (by decide)
        with_reducible refine kc.mono ?_
        clear kc
        rintro e w' ⟨rfl, rfl⟩
        go_wp2_with fail
        have kc := ref_Class w3 (n : Int) HZ0.out HZ1.out
        rw [HCN.out.2] at kc
        with_reducible refine kc.mono ?_
        clear kc
        rintro e w' ⟨rfl, rfl⟩
        go_wp2_with fail
        have kc := rh_Take (m := m) (l := ArT p ⟨bs, cp, b⟩ :: DdO g W N M false :: l) T3.out HS.out HR.out HF.out n HZ.out cp rfl HCP.out.2.1
        rw [HG.out] at kc
        with_reducible refine kc.mono ?_
        clear kc
        rintro e w4 ⟨rfl, t4⟩
        have T4 := Lib.hid t4
        clear t4
        go_wp2
        go_ret
        exact ⟨rfl, als_done T4.out HR.out HF.out⟩
      | some r =>
        obtain ⟨o2, r⟩ := r
        have HG := Lib.hid hg
        clear hg
        go_wp2_with fail
        have kc := al_Take (i := 4) (show St B w0 w2 ((HpL q cp vb vd vl ss m ls (ArT p ⟨bs, cp, b⟩ :: DdO g W N M false :: l)).set 4 (ArT p ⟨bs, cp, b⟩)) from T2.out) HL4.out HR.out n HZ.out
        rw [HG.out] at kc
        with_reducible refine kc.mono ?_
        clear kc
        rintro e w3 ⟨rfl, b3', t3, hu3, hr3⟩
        have T3 := Lib.hid t3
        have HU3 := Lib.hid hu3
        have HR3 := Lib.hid hr3
        clear t3 hu3 hr3
        go_wp2_with fail
        have kc := code_nil w3
        with_reducible refine kc.mono ?_
        clear kc
        rintro e w' ⟨rfl, rfl⟩
        go_wp2_with fail
        have kc := ref_Class w3 (n : Int) HZ0.out HZ1.out
        rw [HCN.out.2] at kc
        with_reducible refine kc.mono ?_
        clear kc
        rintro e w' ⟨rfl, rfl⟩
        go_wp2_with fail
        have kc := rh_Take (m := m) (l := ArT p ⟨bs, cp, b3'⟩ :: DdO g W N M false :: l) T3.out HS.out HR.out HF.out n HZ.out cp rfl HCP.out.2.1
        rw [HG.out] at kc
        with_reducible refine kc.mono ?_
        clear kc
        rintro e w4 ⟨rfl, t4⟩
        have T4 := Lib.hid t4
        clear t4
        go_wp2
        go_ret
        exact ⟨rfl, als_done T4.out HR3.out (fine_takeM HF.out HG.out)⟩
end
end Go.Proofs.Ytenbpbnffnodhaa
