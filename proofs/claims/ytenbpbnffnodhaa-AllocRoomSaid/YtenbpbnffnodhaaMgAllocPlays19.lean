/- Texts of the proof of 'AllocPlays', part 19: words on memory, contracts of functions, plain laws. No condition. -/
import Derived.Test.YtenbpbnffnodhaaMgAllocPlays11
import Derived.Test.YtenbpbnffnodhaaMgAllocPlays18
set_option linter.unusedSimpArgs false
set_option linter.unusedVariables false
/- The reference's heap: a block is given back. -/
namespace Go.Proofs.Ytenbpbnffnodhaa
open Go Go.RowKit Go.Own
set_option linter.unusedVariables false
set_option maxRecDepth 100000
section
variable {B : Nat} {w0 w : World} {l : List Ob} {q : Nat} {cap : Int} {vb vd vl : Value} {ss : List Sv} {b : List UInt8}
def HpR (B : Nat) (w0 : World) (q : Nat) (cap : Int) (vl : Value) (r : List Bd × Ls) (l : List Ob) (w' : World) : Prop :=
  ∃ vb vd ss, ss.length = 22 ∧ St B w0 w' (HpX q cap vb vd vl ss (bsOf r.1) (r.1.map (·.d)) r.2 l)
/-- A block that is free holds nothing. -/
def NilFree (m : List Bd) : Prop := ∀ x ∈ m, x.d.oneCell' = true ∧ (x.b.used = false → x.d = none0)
set_option maxHeartbeats 8000000 in
theorem rh_give {mp mr : List Bd} {o s : Nat} {u : Bool} {dx : Value} {ls : Ls} (h : St B w0 w (HpX q cap vb vd vl ss (bsOf mp ++ ⟨o, s, u⟩ :: bsOf mr) (mp.map (·.d) ++ dx :: mr.map (·.d)) ls l)) (hs : ss.length = 22)
    (hh : Hole b (bsOf mp) o s (bsOf mr) ls) (hnf : NilFree (mp ++ mr)) (hcnt : mp.length + mr.length ≤ 1000) (I : Int) (hI : I = mp.length) :
    Calls Try.prog 231 #[hpP q, .int .i64 I] w fun e w' => e = .returned (.tuple #[]) ∧ HpR B w0 q cap vl (freeM mp o s mr ls) l w' := by
  subst hI
  obtain ⟨n, hn⟩ : ∃ n, n = mp.length := ⟨_, rfl⟩
  have hbm : (bsOf mp).length = n := by rw [hn]; exact List.length_map ..
  have hdm : (mp.map (·.d)).length = n := by rw [hn]; exact List.length_map ..
  rw [← hn]
  have fin : ∀ (p2 r2 : List Bd) (o2 s2 : Nat) (ls2 : Ls) (b2 : List UInt8) (vb2 vd2 : Value) (ss2 : List Sv) (w2 : World) (d2 : Value) (k : Nat), St B w0 w2 (HpX q cap vb2 vd2 vl ss2 (bsOf p2 ++ ⟨o2, s2, false⟩ :: bsOf r2) (p2.map (·.d) ++ d2 :: r2.map (·.d)) ls2 l) → d2 = none0 → ss2.length = 22 → p2.length = k → p2.length + r2.length ≤ 1000 → Hole b2 (bsOf p2) o2 s2 (bsOf r2) ls2 →
      freeM mp o s mr ls = (p2 ++ ⟨⟨o2, s2, false⟩, none0⟩ :: r2, inL ls2 (clsN s2) o2) →
      Calls Try.prog 229 #[hpP q, .int .i64 (k : Nat)] w2 fun e w' => e = .returned (.tuple #[]) ∧ HpR B w0 q cap vl (freeM mp o s mr ls) l w' := by
    intro p2 r2 o2 s2 ls2 b2 vb2 vd2 ss2 w2 d2 k h2 hd2 hs2 hk hc2 hh2 hf
    subst hd2
    have hll := hh2.lists.short hh2.good hh2.max (clsN_of hh2.sized).1
    refine (rm_in h2 hs2 (n := k) (by rw [← hk]; exact List.length_map ..) hh2.sized (by show (ls2 (clsN s2)).length ≤ 2000; omega) (by rw [List.length_append, List.length_cons]; unfold bsOf; rw [List.length_map, List.length_map]; omega) _ rfl).mono ?_
    rintro e w3 ⟨rfl, ss3, hs3, t3⟩
    refine ⟨rfl, vb2, vd2, ss3, hs3, ?_⟩
    rw [hf]
    show St B w0 w3 (HpX q cap vb2 vd2 vl ss3 (bsOf (p2 ++ ⟨⟨o2, s2, false⟩, none0⟩ :: r2)) ((p2 ++ ⟨⟨o2, s2, false⟩, none0⟩ :: r2).map (·.d)) (inL ls2 (clsN s2) o2) l)
    rw [bsOf_append, bsOf_cons, List.map_append, List.map_cons]
    exact t3
  have FIN := Lib.hid fin
  clear fin
  obtain ⟨bb, cb, bd, cd, rfl, rfl⟩ := rm_some h
  obtain ⟨N, hN⟩ : ∃ N, N = (bsOf mp ++ ⟨o, s, u⟩ :: bsOf mr).length := ⟨_, rfl⟩
  obtain ⟨M, hM⟩ : ∃ M, M = (mp.map (·.d) ++ dx :: mr.map (·.d)).length := ⟨_, rfl⟩
  rw [← hN, ← hM] at h
  have hN2 : N = n + 1 + mr.length := by rw [hN, List.length_append, List.length_cons, hbm]; unfold bsOf; rw [List.length_map]; omega
  have hM2 : M = n + 1 + mr.length := by rw [hM, List.length_append, List.length_cons, hdm, List.length_map]; omega
  have lt1 : n < N := by omega
  have lt2 : n < M := by omega
  have c1 := (hp_cells h).2.1
  have T0 := Lib.hid h; have HH := Lib.hid hh; have HS := Lib.hid hs; have HNF := Lib.hid (show ∀ x ∈ mp ++ mr, x.d.oneCell' = true ∧ (x.b.used = false → x.d = none0) from hnf); have HBM := Lib.hid hbm; have HDM := Lib.hid hdm; have HN := Lib.hid hn; have HN2 := Lib.hid hN2
  clear h hh hs hnf hbm hdm hn hN hM hN2 hM2
  have e1 : IntKind.i64.wrap ((n : Int) + 1) = (n : Int) + 1 := IntWalk.i64_in _ (by have := HN.out; omega)
  rcases List.eq_nil_or_concat mp with hmp | ⟨p, z, hmp⟩
  · have hn0 : n = 0 := by have := HN.out; rw [hmp] at this; simpa using this
    have d2 : decide ((0 : Int) < (n : Int)) = false := decide_eq_false (by omega)
    have d3 : decide (0 < n) = false := decide_eq_false (by omega)
    have HMP := Lib.hid hmp
    clear hmp hn0
    cases mr with
    | nil =>
      have d1 : decide ((n : Int) + 1 < (N : Int)) = false := decide_eq_false (by have := HN2.out; simp only [List.length_nil] at this; omega)
      have HJ := Lib.hid (show joinN [] s ls = ([], s, ls) from rfl)
      go_enter Try.func231, Try.ntmps231
      go_wp2_with (first
        | (refine rm_setB T0.out HBM.out ⟨o, s, false⟩ 2 (by decide) (.bool false) rfl bb N cb rfl rfl 4 _ _ rfl rfl rfl rfl (by kernel_rfl) ?_; intro w1 h1; have T1 := Lib.hid h1; clear h1 T0; have c1 := (hp_cells T1.out).2.1; have c2 := (hp_cells T1.out).2.2.1)
        | (refine rm_setD T1.out HDM.out none0 bd M cd rfl rfl 31 _ _ rfl rfl rfl rfl (by kernel_rfl) ?_; intro w2 h2; have T2 := Lib.hid h2; clear h2 T1 c2; have c1 := (hp_cells T2.out).2.1; skip; go_wp2_with fail))
      have kin := FIN.out mp ([] : List Bd) o s ls b _ _ _ _ none0 n T2.out rfl HS.out HN.out.symm hcnt HH.out (by unfold freeM; rw [HJ.out]; unfold joinP; rw [HMP.out]; rfl)
      have KIN := Lib.hid kin
      clear kin
      go_wp2_with fail
      with_reducible refine KIN.out.mono ?_
      rintro e wZ ⟨rfl, hZ⟩
      have HZ := Lib.hid hZ
      clear hZ
      go_wp2_with fail
      go_end0
      exact ⟨rfl, HZ.out⟩
    | cons y r =>
      have d1 : decide ((n : Int) + 1 < (N : Int)) = true := decide_eq_true (by have := HN2.out; simp only [List.length_cons] at this; omega)
      have lt3 : n + 1 < N := by have := HN2.out; simp only [List.length_cons] at this; omega
      have lt4 : 0 ≤ (n : Int) + 1 ∧ (n : Int) + 1 < (N : Int) := by omega
      have hp1 : ∀ s', (bsOf mp ++ [(⟨o, s', false⟩ : Blk)]).length = n + 1 := fun s' => by rw [List.length_append, HBM.out]; rfl
      have HP1 := Lib.hid hp1
      have cy : ∀ w' vb vd ss D ls s', St B w0 w' (HpX q cap vb vd vl ss (bsOf mp ++ ⟨o, s', false⟩ :: bsOf (y :: r)) D ls l) → St B w0 w' (HpX q cap vb vd vl ss ((bsOf mp ++ [⟨o, s', false⟩]) ++ y.b :: bsOf r) D ls l) := fun w' vb vd ss D ls s' h => by rw [bsOf_cons] at h; rw [List.append_assoc]; exact h
      have CY := Lib.hid cy
      clear hp1 cy
      cases hu : y.b.used with
      | true =>
        have HU := Lib.hid hu
        have HJ := Lib.hid (show joinN (y :: r) s ls = (y :: r, s, ls) from by unfold joinN; simp only [hu]; rfl)
        clear hu
        go_enter Try.func231, Try.ntmps231
        go_wp2_with (first
          | (refine rm_setB T0.out HBM.out ⟨o, s, false⟩ 2 (by decide) (.bool false) rfl bb N cb rfl rfl 4 _ _ rfl rfl rfl rfl (by kernel_rfl) ?_; intro w1 h1; have T1 := Lib.hid h1; clear h1 T0; have c1 := (hp_cells T1.out).2.1; have c2 := (hp_cells T1.out).2.2.1)
          | (refine rm_setD T1.out HDM.out none0 bd M cd rfl rfl 31 _ _ rfl rfl rfl rfl (by kernel_rfl) ?_; intro w2 h2; have T2 := Lib.hid h2; clear h2 T1 c2; have c1 := (hp_cells T2.out).2.1; have b2 := (rm_blk (CY.out _ _ _ _ _ _ _ T2.out) (HP1.out s)).2.2; rw [HU.out] at b2; skip; go_wp2_with fail))
        have kin := FIN.out mp (y :: r) o s ls b _ _ _ _ none0 n T2.out rfl HS.out HN.out.symm hcnt HH.out (by unfold freeM; rw [HJ.out]; unfold joinP; rw [HMP.out]; rfl)
        have KIN := Lib.hid kin
        clear kin
        go_wp2_with fail
        with_reducible refine KIN.out.mono ?_
        rintro e wZ ⟨rfl, hZ⟩
        have HZ := Lib.hid hZ
        clear hZ
        go_wp2_with fail
        go_end0
        exact ⟨rfl, HZ.out⟩
      | false =>
        have HU := Lib.hid hu
        have HJ := Lib.hid (show joinN (y :: r) s ls = (r, s + y.b.size, outL ls (clsN y.b.size) y.b.off) from by unfold joinN; simp only [hu]; rfl)
        obtain ⟨b1, _, _, _, _, hh1⟩ := HH.out.next hu
        have hys := HH.out.side (List.mem_append_right _ (List.mem_cons_self ..) : y.b ∈ bsOf mp ++ bsOf (y :: r))
        have hyz := blkAt_isSize hys.2.1
        have hyb := (isSize_iff _).1 hyz
        have hob := HH.out.at
        have hmx := HH.out.max
        have hll := HH.out.lists.short HH.out.good HH.out.max (clsN_of hyz).1
        have u2 : IntKind.i64.wrap ((s : Int) + (y.b.size : Int)) = ((s + y.b.size : Nat) : Int) := by rw [IntWalk.i64_in _ (by omega)]; omega
        obtain ⟨s5, h5⟩ : ∃ v, s + y.b.size = v := ⟨_, rfl⟩
        have hj5 := HJ.out
        rw [h5] at hh1 u2 hj5
        clear HJ
        have HJ := Lib.hid hj5
        have HH1 := Lib.hid hh1; have HYZ := Lib.hid hyz; have HLL := Lib.hid hll
        clear hu hys hyz hyb hob hll hh1 h5 hj5
        go_enter Try.func231, Try.ntmps231
        go_wp2_with (first
          | (refine rm_setB T0.out HBM.out ⟨o, s, false⟩ 2 (by decide) (.bool false) rfl bb N cb rfl rfl 4 _ _ rfl rfl rfl rfl (by kernel_rfl) ?_; intro w1 h1; have T1 := Lib.hid h1; clear h1 T0; have c1 := (hp_cells T1.out).2.1; have c2 := (hp_cells T1.out).2.2.1)
          | (refine rm_setD T1.out HDM.out none0 bd M cd rfl rfl 31 _ _ rfl rfl rfl rfl (by kernel_rfl) ?_; intro w2 h2; have T2 := Lib.hid h2; clear h2 T1 c2; have c1 := (hp_cells T2.out).2.1; have b2 := (rm_blk (CY.out _ _ _ _ _ _ _ T2.out) (HP1.out s)).2.2; rw [HU.out] at b2; go_wp2_with fail))
        with_reducible refine (rm_out (CY.out _ _ _ _ _ _ _ T2.out) HS.out (HP1.out s) HYZ.out (by have := HLL.out; omega) (by have := HN2.out; have := HBM.out; simp only [List.length_append, List.length_cons, List.length_nil] at *; unfold bsOf; simp only [List.length_map]; omega) ((n : Int) + 1) (by omega)).mono ?_
        rintro e w3 ⟨rfl, ss3, hs3, t3⟩
        have TX := Lib.hid (show St B w0 w3 (HpX q cap (.slice (some ⟨bb, 0, none⟩) N cb) (.slice (some ⟨bd, 0, none⟩) M cd) vl ss3 (bsOf mp ++ ⟨o, s, false⟩ :: bsOf (y :: r)) (mp.map (·.d) ++ none0 :: (y :: r).map (·.d)) (outL ls (clsN y.b.size) y.b.off) l) from by rw [List.append_assoc] at t3; exact t3)
        have HS3 := Lib.hid hs3
        clear t3 hs3 T2 c1 b2
        replace TX := Lib.hid TX.out.drew
        go_wp2_with fail
        refine flowt_begin 25 (S := fun w' => w'.cell? ⟨q, 1, none⟩ = some (.slice (some ⟨bb, 0, none⟩) N cb) ∧ w'.cell? ⟨bb, n * 3 + 1, none⟩ = some (.int .i64 s) ∧ w'.cell? ⟨bb, (n + 1) * 3 + 1, none⟩ = some (.int .i64 y.b.size)) hmixed 26 rfl (by repeat (first | with_reducible refine ps_then ?_ | with_reducible refine ps_block ?_ | with_reducible exact ps_body | refine ps_then ?_ | refine ps_block ?_ | exact ps_body)) ⟨(hp_cells TX.out).2.1, (rm_blk TX.out HBM.out).2.1, (rm_blk (CY.out _ _ _ _ _ _ _ TX.out) (HP1.out s)).2.1⟩ (fun hps => ?_)
        simp only [List.replicate]
        generalize w3.drew = wx at TX ⊢
        refine flowt_take 0 (v := ?_) (a' := ?_) hps rfl (by kernel_rfl) rfl ?_ ?_ ?_
        rotate_left 2
        · intro w' hk; go_simp; try rfl
        · simp only [Act.put, List.setIfInBounds_toArray, List.set_cons_succ, List.set_cons_zero]; try rfl
        refine flowt_take 1 (v := ?_) (a' := ?_) hps rfl (by kernel_rfl) rfl ?_ ?_ ?_
        rotate_left 2
        · intro w' hk; go_simp; try rfl
        · simp only [Act.put, List.setIfInBounds_toArray, List.set_cons_succ, List.set_cons_zero]; try rfl
        refine flowt_take 2 (v := ?_) (a' := ?_) hps rfl (by kernel_rfl) rfl ?_ ?_ ?_
        rotate_left 2
        · intro w' hk; go_simp; try rfl
        · simp only [Act.put, List.setIfInBounds_toArray, List.set_cons_succ, List.set_cons_zero]; try rfl
        refine flowt_read 3 (v := ?_) (a' := ?_) hps rfl (by kernel_rfl) rfl ?_ ?_ ?_
        rotate_left 2
        · intro w' hk; have c1 := hk.1; go_simp; try rfl
        · simp only [Act.put, List.setIfInBounds_toArray, List.set_cons_succ, List.set_cons_zero]; try rfl
        refine flowt_take 4 (v := ?_) (a' := ?_) hps rfl (by kernel_rfl) rfl ?_ ?_ ?_
        rotate_left 2
        · intro w' hk; go_simp; try rfl
        · simp only [Act.put, List.setIfInBounds_toArray, List.set_cons_succ, List.set_cons_zero]; try rfl
        refine flowt_take 5 (v := ?_) (a' := ?_) hps rfl (by kernel_rfl) rfl ?_ ?_ ?_
        rotate_left 2
        · intro w' hk; go_simp; try rfl
        · simp only [Act.put, List.setIfInBounds_toArray, List.set_cons_succ, List.set_cons_zero]; try rfl
        refine flowt_take 6 (v := ?_) (a' := ?_) hps rfl (by kernel_rfl) rfl ?_ ?_ ?_
        rotate_left 2
        · intro w' hk; go_simp; try rfl
        · simp only [Act.put, List.setIfInBounds_toArray, List.set_cons_succ, List.set_cons_zero]; try rfl
        refine flowt_take 7 (v := ?_) (a' := ?_) hps rfl (by kernel_rfl) rfl ?_ ?_ ?_
        rotate_left 2
        · intro w' hk; go_simp; try rfl
        · simp only [Act.put, List.setIfInBounds_toArray, List.set_cons_succ, List.set_cons_zero]; try rfl
        refine flowt_read 8 (v := ?_) (a' := ?_) hps rfl (by kernel_rfl) rfl ?_ ?_ ?_
        rotate_left 2
        · intro w' hk; have c1 := hk.1; go_simp; try rfl
        · simp only [Act.put, List.setIfInBounds_toArray, List.set_cons_succ, List.set_cons_zero]; try rfl
        refine flowt_take 9 (v := ?_) (a' := ?_) hps rfl (by kernel_rfl) rfl ?_ ?_ ?_
        rotate_left 2
        · intro w' hk; go_simp; try rfl
        · simp only [Act.put, List.setIfInBounds_toArray, List.set_cons_succ, List.set_cons_zero]; try rfl
        refine flowt_take 10 (v := ?_) (a' := ?_) hps rfl (by kernel_rfl) rfl ?_ ?_ ?_
        rotate_left 2
        · intro w' hk; go_simp; try rfl
        · simp only [Act.put, List.setIfInBounds_toArray, List.set_cons_succ, List.set_cons_zero]; try rfl
        refine flowt_take 11 (v := ?_) (a' := ?_) hps rfl (by kernel_rfl) rfl ?_ ?_ ?_
        rotate_left 2
        · intro w' hk; go_simp; try rfl
        · simp only [Act.put, List.setIfInBounds_toArray, List.set_cons_succ, List.set_cons_zero]; try rfl
        refine flowt_read 12 (v := ?_) (a' := ?_) hps rfl (by kernel_rfl) rfl ?_ ?_ ?_
        rotate_left 2
        · intro w' hk; have c1 := hk.2.1; go_simp; try rfl
        · simp only [Act.put, List.setIfInBounds_toArray, List.set_cons_succ, List.set_cons_zero]; try rfl
        refine flowt_take 13 (v := ?_) (a' := ?_) hps rfl (by kernel_rfl) rfl ?_ ?_ ?_
        rotate_left 2
        · intro w' hk; go_simp; try rfl
        · simp only [Act.put, List.setIfInBounds_toArray, List.set_cons_succ, List.set_cons_zero]; try rfl
        refine flowt_take 14 (v := ?_) (a' := ?_) hps rfl (by kernel_rfl) rfl ?_ ?_ ?_
        rotate_left 2
        · intro w' hk; go_simp; try rfl
        · simp only [Act.put, List.setIfInBounds_toArray, List.set_cons_succ, List.set_cons_zero]; try rfl
        refine flowt_take 15 (v := ?_) (a' := ?_) hps rfl (by kernel_rfl) rfl ?_ ?_ ?_
        rotate_left 2
        · intro w' hk; go_simp; try rfl
        · simp only [Act.put, List.setIfInBounds_toArray, List.set_cons_succ, List.set_cons_zero]; try rfl
        refine flowt_read 16 (v := ?_) (a' := ?_) hps rfl (by kernel_rfl) rfl ?_ ?_ ?_
        rotate_left 2
        · intro w' hk; have c1 := hk.1; go_simp; try rfl
        · simp only [Act.put, List.setIfInBounds_toArray, List.set_cons_succ, List.set_cons_zero]; try rfl
        refine flowt_take 17 (v := ?_) (a' := ?_) hps rfl (by kernel_rfl) rfl ?_ ?_ ?_
        rotate_left 2
        · intro w' hk; go_simp; try rfl
        · simp only [Act.put, List.setIfInBounds_toArray, List.set_cons_succ, List.set_cons_zero]; try rfl
        refine flowt_take 18 (v := ?_) (a' := ?_) hps rfl (by kernel_rfl) rfl ?_ ?_ ?_
        rotate_left 2
        · intro w' hk; go_simp; try rfl
        · simp only [Act.put, List.setIfInBounds_toArray, List.set_cons_succ, List.set_cons_zero]; try rfl
        refine flowt_take 19 (v := ?_) (a' := ?_) hps rfl (by kernel_rfl) rfl ?_ ?_ ?_
        rotate_left 2
        · intro w' hk; go_simp; try rfl
        · simp only [Act.put, List.setIfInBounds_toArray, List.set_cons_succ, List.set_cons_zero]; try rfl
        refine flowt_take 20 (v := ?_) (a' := ?_) hps rfl (by kernel_rfl) rfl ?_ ?_ ?_
        rotate_left 2
        · intro w' hk; go_simp; try rfl
        · simp only [Act.put, List.setIfInBounds_toArray, List.set_cons_succ, List.set_cons_zero]; try rfl
        refine flowt_read 21 (v := ?_) (a' := ?_) hps rfl (by kernel_rfl) rfl ?_ ?_ ?_
        rotate_left 2
        · intro w' hk; have c1 := hk.2.2; go_simp; try rfl
        · simp only [Act.put, List.setIfInBounds_toArray, List.set_cons_succ, List.set_cons_zero]; try rfl
        refine flowt_take 22 (v := ?_) (a' := ?_) hps rfl (by kernel_rfl) rfl ?_ ?_ ?_
        rotate_left 2
        · intro w' hk; go_simp; try rfl
        · simp only [Act.put, List.setIfInBounds_toArray, List.set_cons_succ, List.set_cons_zero]; try rfl
        refine flowt_take 23 (v := ?_) (a' := ?_) hps rfl (by kernel_rfl) rfl ?_ ?_ ?_
        rotate_left 2
        · intro w' hk; go_simp; try rfl
        · simp only [Act.put, List.setIfInBounds_toArray, List.set_cons_succ, List.set_cons_zero]; try rfl
        refine flowt_take 24 (v := ?_) (a' := ?_) hps rfl (by kernel_rfl) rfl ?_ ?_ ?_
        rotate_left 2
        · intro w' hk; go_simp; try rfl
        · simp only [Act.put, List.setIfInBounds_toArray, List.set_cons_succ, List.set_cons_zero]; try rfl
        refine flowt_one 25 hps rfl (by kernel_rfl) rfl (wp_next (fun K hK => ?_))
        refine rm_setB_at TX.out HBM.out ⟨o, s5, false⟩ 1 (by decide) (.int .i64 (s5 : Int)) rfl bb N cb rfl 3 _ _ rfl rfl rfl rfl (by kernel_rfl) ?_
        intro w4 h4
        replace TX := Lib.hid h4
        clear h4
        refine hK _ _ ⟨fun h => absurd (show true = false from h) (by decide), ?_⟩
        clear hK
        refine flowt_done hps (by kernel_rfl) ?_
        go_wp2_with fail
        have t6 := CY.out _ _ _ _ _ _ _ TX.out
        rw [show mp.map (·.d) ++ none0 :: (y :: r).map (·.d) = (mp.map (·.d) ++ [none0]) ++ y.d :: r.map (·.d) from by simp] at t6
        have T6 := Lib.hid t6
        clear t6
        with_reducible refine (rm_drop T6.out (HP1.out _) (by rw [List.length_append, HDM.out, List.length_singleton]) (by unfold bsOf; rw [List.length_map, List.length_map]) (fun v hv => by
          simp only [List.mem_append, List.mem_map, List.mem_cons, List.not_mem_nil, or_false] at hv
          rcases hv with (⟨x, hx, rfl⟩ | rfl) | rfl | ⟨x, hx, rfl⟩
          · exact (HNF.out x (List.mem_append_left _ hx)).1
          · simp [Value.oneCell']
          · exact (HNF.out y (List.mem_append_right _ (List.mem_cons_self ..))).1
          · exact (HNF.out x (List.mem_append_right _ (List.mem_cons_of_mem _ hx))).1) (by have := HBM.out; simp only [List.length_append, List.length_cons, List.length_nil] at *; unfold bsOf; simp only [List.length_map]; omega) ((n : Int) + 1) (by omega)).mono ?_
        rintro e w5 ⟨rfl, vb5, vd5, t5⟩
        replace t5 : St B w0 w5 (HpX q cap vb5 vd5 vl ss3 (bsOf mp ++ ⟨o, s5, false⟩ :: bsOf r) (mp.map (·.d) ++ none0 :: r.map (·.d)) (outL ls (clsN y.b.size) y.b.off) l) := by rw [List.append_assoc, List.append_assoc] at t5; exact t5
        clear TX T6
        obtain ⟨bb5, cb5, bd5, cd5, rfl, rfl⟩ := rm_some t5
        obtain ⟨N5, hN5⟩ : ∃ N5, N5 = (bsOf mp ++ ⟨o, s5, false⟩ :: bsOf r).length := ⟨_, rfl⟩
        obtain ⟨M5, hM5⟩ : ∃ M5, M5 = (mp.map (·.d) ++ none0 :: r.map (·.d)).length := ⟨_, rfl⟩
        rw [← hN5, ← hM5] at t5
        have lt5 : n < N5 := by rw [hN5, List.length_append, List.length_cons, HBM.out]; omega
        have c1 := (hp_cells t5).2.1
        have T5 := Lib.hid t5
        clear t5 hN5 hM5
        skip
        go_wp2_with fail
        have kin := FIN.out mp r o s5 (outL ls (clsN y.b.size) y.b.off) b1 _ _ _ _ none0 n T5.out rfl HS3.out HN.out.symm (by simp only [List.length_cons] at hcnt; omega) HH1.out (by unfold freeM; rw [HJ.out]; unfold joinP; rw [HMP.out]; rfl)
        have KIN := Lib.hid kin
        clear kin
        go_wp2_with fail
        with_reducible refine KIN.out.mono ?_
        rintro e wZ ⟨rfl, hZ⟩
        have HZ := Lib.hid hZ
        clear hZ
        go_wp2_with fail
        go_end0
        exact ⟨rfl, HZ.out⟩
  · rw [List.concat_eq_append] at hmp
    obtain ⟨k, hk⟩ : ∃ k, k = p.length := ⟨_, rfl⟩
    have hnk : n = k + 1 := by have := HN.out; rw [hmp, List.length_append] at this; rw [this, hk]; rfl
    have d2 : decide ((0 : Int) < (n : Int)) = true := decide_eq_true (by omega)
    have d3 : decide (0 < n) = true := decide_eq_true (by omega)
    have e2 : IntKind.i64.wrap ((n : Int) - 1) = (k : Int) := by have := HN.out; rw [IntWalk.i64_in _ (by omega)]; omega
    have lt7 : k < N := by omega
    have hpk : (bsOf p).length = k := by rw [hk]; exact List.length_map ..
    have hpn : (bsOf p ++ [z.b]).length = n := by rw [List.length_append, hpk, hnk]; rfl
    have pv : ∀ w' vb vd ss X D ls, St B w0 w' (HpX q cap vb vd vl ss (bsOf mp ++ X) D ls l) → St B w0 w' (HpX q cap vb vd vl ss (bsOf p ++ z.b :: X) D ls l) := fun w' vb vd ss X D ls h => by rw [hmp, bsOf_append, List.append_assoc] at h; exact h
    have hzm : z ∈ mp := by rw [hmp]; exact List.mem_append_right _ (List.mem_singleton.2 rfl)
    have hys := HH.out.side (List.mem_append_left _ (List.mem_map_of_mem hzm) : z.b ∈ bsOf mp ++ bsOf mr)
    have hyz := blkAt_isSize hys.2.1
    have hzd := (HNF.out z (List.mem_append_left _ hzm)).2
    have PV := Lib.hid pv; have HPK := Lib.hid hpk; have HPN := Lib.hid hpn; have HMP := Lib.hid hmp; have HZZ := Lib.hid hyz; have HPL := Lib.hid hk.symm
    have HNK := Lib.hid hnk
    clear pv hpk hpn hmp hk hzm hys hyz hnk
    cases hzu : z.b.used with
    | true =>
      have HZU := Lib.hid hzu
      clear hzu hzd
      cases mr with
      | nil =>
        have d1 : decide ((n : Int) + 1 < (N : Int)) = false := decide_eq_false (by have := HN2.out; simp only [List.length_nil] at this; omega)
        have HJ := Lib.hid (show joinN [] s ls = ([], s, ls) from rfl)
        go_enter Try.func231, Try.ntmps231
        go_wp2_with (first
          | (refine rm_setB T0.out HBM.out ⟨o, s, false⟩ 2 (by decide) (.bool false) rfl bb N cb rfl rfl 4 _ _ rfl rfl rfl rfl (by kernel_rfl) ?_; intro w1 h1; have T1 := Lib.hid h1; clear h1 T0; have c1 := (hp_cells T1.out).2.1; have c2 := (hp_cells T1.out).2.2.1)
          | (refine rm_setD T1.out HDM.out none0 bd M cd rfl rfl 31 _ _ rfl rfl rfl rfl (by kernel_rfl) ?_; intro w2 h2; have T2 := Lib.hid h2; clear h2 T1 c2; have c1 := (hp_cells T2.out).2.1; have b7 := (rm_blk (PV.out _ _ _ _ _ _ _ T2.out) HPK.out).2.2; rw [HZU.out] at b7; go_wp2_with fail))
        have kin := FIN.out mp ([] : List Bd) o s ls b _ _ _ _ none0 n T2.out rfl HS.out HN.out.symm hcnt HH.out (by unfold freeM; rw [HJ.out]; unfold joinP; rw [HMP.out, List.getLast?_concat]; simp only [HZU.out]; rfl)
        have KIN := Lib.hid kin
        clear kin
        go_wp2_with fail
        with_reducible refine KIN.out.mono ?_
        rintro e wZ ⟨rfl, hZ⟩
        have HZ := Lib.hid hZ
        clear hZ
        go_wp2_with fail
        go_end0
        exact ⟨rfl, HZ.out⟩
      | cons y r =>
        have d1 : decide ((n : Int) + 1 < (N : Int)) = true := decide_eq_true (by have := HN2.out; simp only [List.length_cons] at this; omega)
        have lt3 : n + 1 < N := by have := HN2.out; simp only [List.length_cons] at this; omega
        have lt4 : 0 ≤ (n : Int) + 1 ∧ (n : Int) + 1 < (N : Int) := by omega
        have hp1 : ∀ s', (bsOf mp ++ [(⟨o, s', false⟩ : Blk)]).length = n + 1 := fun s' => by rw [List.length_append, HBM.out]; rfl
        have HP1 := Lib.hid hp1
        have cy : ∀ w' vb vd ss D ls s', St B w0 w' (HpX q cap vb vd vl ss (bsOf mp ++ ⟨o, s', false⟩ :: bsOf (y :: r)) D ls l) → St B w0 w' (HpX q cap vb vd vl ss ((bsOf mp ++ [⟨o, s', false⟩]) ++ y.b :: bsOf r) D ls l) := fun w' vb vd ss D ls s' h => by rw [bsOf_cons] at h; rw [List.append_assoc]; exact h
        have CY := Lib.hid cy
        clear hp1 cy
        cases hu : y.b.used with
        | true =>
          have HU := Lib.hid hu
          have HJ := Lib.hid (show joinN (y :: r) s ls = (y :: r, s, ls) from by unfold joinN; simp only [hu]; rfl)
          clear hu
          go_enter Try.func231, Try.ntmps231
          go_wp2_with (first
            | (refine rm_setB T0.out HBM.out ⟨o, s, false⟩ 2 (by decide) (.bool false) rfl bb N cb rfl rfl 4 _ _ rfl rfl rfl rfl (by kernel_rfl) ?_; intro w1 h1; have T1 := Lib.hid h1; clear h1 T0; have c1 := (hp_cells T1.out).2.1; have c2 := (hp_cells T1.out).2.2.1)
            | (refine rm_setD T1.out HDM.out none0 bd M cd rfl rfl 31 _ _ rfl rfl rfl rfl (by kernel_rfl) ?_; intro w2 h2; have T2 := Lib.hid h2; clear h2 T1 c2; have c1 := (hp_cells T2.out).2.1; have b2 := (rm_blk (CY.out _ _ _ _ _ _ _ T2.out) (HP1.out s)).2.2; rw [HU.out] at b2; have b7 := (rm_blk (PV.out _ _ _ _ _ _ _ T2.out) HPK.out).2.2; rw [HZU.out] at b7; go_wp2_with fail))
          have kin := FIN.out mp (y :: r) o s ls b _ _ _ _ none0 n T2.out rfl HS.out HN.out.symm hcnt HH.out (by unfold freeM; rw [HJ.out]; unfold joinP; rw [HMP.out, List.getLast?_concat]; simp only [HZU.out]; rfl)
          have KIN := Lib.hid kin
          clear kin
          go_wp2_with fail
          with_reducible refine KIN.out.mono ?_
          rintro e wZ ⟨rfl, hZ⟩
          have HZ := Lib.hid hZ
          clear hZ
          go_wp2_with fail
          go_end0
          exact ⟨rfl, HZ.out⟩
        | false =>
          have HU := Lib.hid hu
          have HJ := Lib.hid (show joinN (y :: r) s ls = (r, s + y.b.size, outL ls (clsN y.b.size) y.b.off) from by unfold joinN; simp only [hu]; rfl)
          obtain ⟨b1, _, _, _, _, hh1⟩ := HH.out.next hu
          have hys := HH.out.side (List.mem_append_right _ (List.mem_cons_self ..) : y.b ∈ bsOf mp ++ bsOf (y :: r))
          have hyz := blkAt_isSize hys.2.1
          have hyb := (isSize_iff _).1 hyz
          have hob := HH.out.at
          have hmx := HH.out.max
          have hll := HH.out.lists.short HH.out.good HH.out.max (clsN_of hyz).1
          have u2 : IntKind.i64.wrap ((s : Int) + (y.b.size : Int)) = ((s + y.b.size : Nat) : Int) := by rw [IntWalk.i64_in _ (by omega)]; omega
          obtain ⟨s5, h5⟩ : ∃ v, s + y.b.size = v := ⟨_, rfl⟩
          have hj5 := HJ.out
          rw [h5] at hh1 u2 hj5
          clear HJ
          have HJ := Lib.hid hj5
          have HH1 := Lib.hid hh1; have HYZ := Lib.hid hyz; have HLL := Lib.hid hll
          clear hu hys hyz hyb hob hll hh1 h5 hj5
          go_enter Try.func231, Try.ntmps231
          go_wp2_with (first
            | (refine rm_setB T0.out HBM.out ⟨o, s, false⟩ 2 (by decide) (.bool false) rfl bb N cb rfl rfl 4 _ _ rfl rfl rfl rfl (by kernel_rfl) ?_; intro w1 h1; have T1 := Lib.hid h1; clear h1 T0; have c1 := (hp_cells T1.out).2.1; have c2 := (hp_cells T1.out).2.2.1)
            | (refine rm_setD T1.out HDM.out none0 bd M cd rfl rfl 31 _ _ rfl rfl rfl rfl (by kernel_rfl) ?_; intro w2 h2; have T2 := Lib.hid h2; clear h2 T1 c2; have c1 := (hp_cells T2.out).2.1; have b2 := (rm_blk (CY.out _ _ _ _ _ _ _ T2.out) (HP1.out s)).2.2; rw [HU.out] at b2; go_wp2_with fail))
          with_reducible refine (rm_out (CY.out _ _ _ _ _ _ _ T2.out) HS.out (HP1.out s) HYZ.out (by have := HLL.out; omega) (by have := HN2.out; have := HBM.out; simp only [List.length_append, List.length_cons, List.length_nil] at *; unfold bsOf; simp only [List.length_map]; omega) ((n : Int) + 1) (by omega)).mono ?_
          rintro e w3 ⟨rfl, ss3, hs3, t3⟩
          have TX := Lib.hid (show St B w0 w3 (HpX q cap (.slice (some ⟨bb, 0, none⟩) N cb) (.slice (some ⟨bd, 0, none⟩) M cd) vl ss3 (bsOf mp ++ ⟨o, s, false⟩ :: bsOf (y :: r)) (mp.map (·.d) ++ none0 :: (y :: r).map (·.d)) (outL ls (clsN y.b.size) y.b.off) l) from by rw [List.append_assoc] at t3; exact t3)
          have HS3 := Lib.hid hs3
          clear t3 hs3 T2 c1 b2
          replace TX := Lib.hid TX.out.drew
          go_wp2_with fail
          refine flowt_begin 25 (S := fun w' => w'.cell? ⟨q, 1, none⟩ = some (.slice (some ⟨bb, 0, none⟩) N cb) ∧ w'.cell? ⟨bb, n * 3 + 1, none⟩ = some (.int .i64 s) ∧ w'.cell? ⟨bb, (n + 1) * 3 + 1, none⟩ = some (.int .i64 y.b.size)) hmixed 26 rfl (by repeat (first | with_reducible refine ps_then ?_ | with_reducible refine ps_block ?_ | with_reducible exact ps_body | refine ps_then ?_ | refine ps_block ?_ | exact ps_body)) ⟨(hp_cells TX.out).2.1, (rm_blk TX.out HBM.out).2.1, (rm_blk (CY.out _ _ _ _ _ _ _ TX.out) (HP1.out s)).2.1⟩ (fun hps => ?_)
          simp only [List.replicate]
          generalize w3.drew = wx at TX ⊢
          refine flowt_take 0 (v := ?_) (a' := ?_) hps rfl (by kernel_rfl) rfl ?_ ?_ ?_
          rotate_left 2
          · intro w' hk; go_simp; try rfl
          · simp only [Act.put, List.setIfInBounds_toArray, List.set_cons_succ, List.set_cons_zero]; try rfl
          refine flowt_take 1 (v := ?_) (a' := ?_) hps rfl (by kernel_rfl) rfl ?_ ?_ ?_
          rotate_left 2
          · intro w' hk; go_simp; try rfl
          · simp only [Act.put, List.setIfInBounds_toArray, List.set_cons_succ, List.set_cons_zero]; try rfl
          refine flowt_take 2 (v := ?_) (a' := ?_) hps rfl (by kernel_rfl) rfl ?_ ?_ ?_
          rotate_left 2
          · intro w' hk; go_simp; try rfl
          · simp only [Act.put, List.setIfInBounds_toArray, List.set_cons_succ, List.set_cons_zero]; try rfl
          refine flowt_read 3 (v := ?_) (a' := ?_) hps rfl (by kernel_rfl) rfl ?_ ?_ ?_
          rotate_left 2
          · intro w' hk; have c1 := hk.1; go_simp; try rfl
          · simp only [Act.put, List.setIfInBounds_toArray, List.set_cons_succ, List.set_cons_zero]; try rfl
          refine flowt_take 4 (v := ?_) (a' := ?_) hps rfl (by kernel_rfl) rfl ?_ ?_ ?_
          rotate_left 2
          · intro w' hk; go_simp; try rfl
          · simp only [Act.put, List.setIfInBounds_toArray, List.set_cons_succ, List.set_cons_zero]; try rfl
          refine flowt_take 5 (v := ?_) (a' := ?_) hps rfl (by kernel_rfl) rfl ?_ ?_ ?_
          rotate_left 2
          · intro w' hk; go_simp; try rfl
          · simp only [Act.put, List.setIfInBounds_toArray, List.set_cons_succ, List.set_cons_zero]; try rfl
          refine flowt_take 6 (v := ?_) (a' := ?_) hps rfl (by kernel_rfl) rfl ?_ ?_ ?_
          rotate_left 2
          · intro w' hk; go_simp; try rfl
          · simp only [Act.put, List.setIfInBounds_toArray, List.set_cons_succ, List.set_cons_zero]; try rfl
          refine flowt_take 7 (v := ?_) (a' := ?_) hps rfl (by kernel_rfl) rfl ?_ ?_ ?_
          rotate_left 2
          · intro w' hk; go_simp; try rfl
          · simp only [Act.put, List.setIfInBounds_toArray, List.set_cons_succ, List.set_cons_zero]; try rfl
          refine flowt_read 8 (v := ?_) (a' := ?_) hps rfl (by kernel_rfl) rfl ?_ ?_ ?_
          rotate_left 2
          · intro w' hk; have c1 := hk.1; go_simp; try rfl
          · simp only [Act.put, List.setIfInBounds_toArray, List.set_cons_succ, List.set_cons_zero]; try rfl
          refine flowt_take 9 (v := ?_) (a' := ?_) hps rfl (by kernel_rfl) rfl ?_ ?_ ?_
          rotate_left 2
          · intro w' hk; go_simp; try rfl
          · simp only [Act.put, List.setIfInBounds_toArray, List.set_cons_succ, List.set_cons_zero]; try rfl
          refine flowt_take 10 (v := ?_) (a' := ?_) hps rfl (by kernel_rfl) rfl ?_ ?_ ?_
          rotate_left 2
          · intro w' hk; go_simp; try rfl
          · simp only [Act.put, List.setIfInBounds_toArray, List.set_cons_succ, List.set_cons_zero]; try rfl
          refine flowt_take 11 (v := ?_) (a' := ?_) hps rfl (by kernel_rfl) rfl ?_ ?_ ?_
          rotate_left 2
          · intro w' hk; go_simp; try rfl
          · simp only [Act.put, List.setIfInBounds_toArray, List.set_cons_succ, List.set_cons_zero]; try rfl
          refine flowt_read 12 (v := ?_) (a' := ?_) hps rfl (by kernel_rfl) rfl ?_ ?_ ?_
          rotate_left 2
          · intro w' hk; have c1 := hk.2.1; go_simp; try rfl
          · simp only [Act.put, List.setIfInBounds_toArray, List.set_cons_succ, List.set_cons_zero]; try rfl
          refine flowt_take 13 (v := ?_) (a' := ?_) hps rfl (by kernel_rfl) rfl ?_ ?_ ?_
          rotate_left 2
          · intro w' hk; go_simp; try rfl
          · simp only [Act.put, List.setIfInBounds_toArray, List.set_cons_succ, List.set_cons_zero]; try rfl
          refine flowt_take 14 (v := ?_) (a' := ?_) hps rfl (by kernel_rfl) rfl ?_ ?_ ?_
          rotate_left 2
          · intro w' hk; go_simp; try rfl
          · simp only [Act.put, List.setIfInBounds_toArray, List.set_cons_succ, List.set_cons_zero]; try rfl
          refine flowt_take 15 (v := ?_) (a' := ?_) hps rfl (by kernel_rfl) rfl ?_ ?_ ?_
          rotate_left 2
          · intro w' hk; go_simp; try rfl
          · simp only [Act.put, List.setIfInBounds_toArray, List.set_cons_succ, List.set_cons_zero]; try rfl
          refine flowt_read 16 (v := ?_) (a' := ?_) hps rfl (by kernel_rfl) rfl ?_ ?_ ?_
          rotate_left 2
          · intro w' hk; have c1 := hk.1; go_simp; try rfl
          · simp only [Act.put, List.setIfInBounds_toArray, List.set_cons_succ, List.set_cons_zero]; try rfl
          refine flowt_take 17 (v := ?_) (a' := ?_) hps rfl (by kernel_rfl) rfl ?_ ?_ ?_
          rotate_left 2
          · intro w' hk; go_simp; try rfl
          · simp only [Act.put, List.setIfInBounds_toArray, List.set_cons_succ, List.set_cons_zero]; try rfl
          refine flowt_take 18 (v := ?_) (a' := ?_) hps rfl (by kernel_rfl) rfl ?_ ?_ ?_
          rotate_left 2
          · intro w' hk; go_simp; try rfl
          · simp only [Act.put, List.setIfInBounds_toArray, List.set_cons_succ, List.set_cons_zero]; try rfl
          refine flowt_take 19 (v := ?_) (a' := ?_) hps rfl (by kernel_rfl) rfl ?_ ?_ ?_
          rotate_left 2
          · intro w' hk; go_simp; try rfl
          · simp only [Act.put, List.setIfInBounds_toArray, List.set_cons_succ, List.set_cons_zero]; try rfl
          refine flowt_take 20 (v := ?_) (a' := ?_) hps rfl (by kernel_rfl) rfl ?_ ?_ ?_
          rotate_left 2
          · intro w' hk; go_simp; try rfl
          · simp only [Act.put, List.setIfInBounds_toArray, List.set_cons_succ, List.set_cons_zero]; try rfl
          refine flowt_read 21 (v := ?_) (a' := ?_) hps rfl (by kernel_rfl) rfl ?_ ?_ ?_
          rotate_left 2
          · intro w' hk; have c1 := hk.2.2; go_simp; try rfl
          · simp only [Act.put, List.setIfInBounds_toArray, List.set_cons_succ, List.set_cons_zero]; try rfl
          refine flowt_take 22 (v := ?_) (a' := ?_) hps rfl (by kernel_rfl) rfl ?_ ?_ ?_
          rotate_left 2
          · intro w' hk; go_simp; try rfl
          · simp only [Act.put, List.setIfInBounds_toArray, List.set_cons_succ, List.set_cons_zero]; try rfl
          refine flowt_take 23 (v := ?_) (a' := ?_) hps rfl (by kernel_rfl) rfl ?_ ?_ ?_
          rotate_left 2
          · intro w' hk; go_simp; try rfl
          · simp only [Act.put, List.setIfInBounds_toArray, List.set_cons_succ, List.set_cons_zero]; try rfl
          refine flowt_take 24 (v := ?_) (a' := ?_) hps rfl (by kernel_rfl) rfl ?_ ?_ ?_
          rotate_left 2
          · intro w' hk; go_simp; try rfl
          · simp only [Act.put, List.setIfInBounds_toArray, List.set_cons_succ, List.set_cons_zero]; try rfl
          refine flowt_one 25 hps rfl (by kernel_rfl) rfl (wp_next (fun K hK => ?_))
          refine rm_setB_at TX.out HBM.out ⟨o, s5, false⟩ 1 (by decide) (.int .i64 (s5 : Int)) rfl bb N cb rfl 3 _ _ rfl rfl rfl rfl (by kernel_rfl) ?_
          intro w4 h4
          replace TX := Lib.hid h4
          clear h4
          refine hK _ _ ⟨fun h => absurd (show true = false from h) (by decide), ?_⟩
          clear hK
          refine flowt_done hps (by kernel_rfl) ?_
          go_wp2_with fail
          have t6 := CY.out _ _ _ _ _ _ _ TX.out
          rw [show mp.map (·.d) ++ none0 :: (y :: r).map (·.d) = (mp.map (·.d) ++ [none0]) ++ y.d :: r.map (·.d) from by simp] at t6
          have T6 := Lib.hid t6
          clear t6
          with_reducible refine (rm_drop T6.out (HP1.out _) (by rw [List.length_append, HDM.out, List.length_singleton]) (by unfold bsOf; rw [List.length_map, List.length_map]) (fun v hv => by
            simp only [List.mem_append, List.mem_map, List.mem_cons, List.not_mem_nil, or_false] at hv
            rcases hv with (⟨x, hx, rfl⟩ | rfl) | rfl | ⟨x, hx, rfl⟩
            · exact (HNF.out x (List.mem_append_left _ hx)).1
            · simp [Value.oneCell']
            · exact (HNF.out y (List.mem_append_right _ (List.mem_cons_self ..))).1
            · exact (HNF.out x (List.mem_append_right _ (List.mem_cons_of_mem _ hx))).1) (by have := HBM.out; simp only [List.length_append, List.length_cons, List.length_nil] at *; unfold bsOf; simp only [List.length_map]; omega) ((n : Int) + 1) (by omega)).mono ?_
          rintro e w5 ⟨rfl, vb5, vd5, t5⟩
          replace t5 : St B w0 w5 (HpX q cap vb5 vd5 vl ss3 (bsOf mp ++ ⟨o, s5, false⟩ :: bsOf r) (mp.map (·.d) ++ none0 :: r.map (·.d)) (outL ls (clsN y.b.size) y.b.off) l) := by rw [List.append_assoc, List.append_assoc] at t5; exact t5
          clear TX T6
          obtain ⟨bb5, cb5, bd5, cd5, rfl, rfl⟩ := rm_some t5
          obtain ⟨N5, hN5⟩ : ∃ N5, N5 = (bsOf mp ++ ⟨o, s5, false⟩ :: bsOf r).length := ⟨_, rfl⟩
          obtain ⟨M5, hM5⟩ : ∃ M5, M5 = (mp.map (·.d) ++ none0 :: r.map (·.d)).length := ⟨_, rfl⟩
          rw [← hN5, ← hM5] at t5
          have lt5 : n < N5 := by rw [hN5, List.length_append, List.length_cons, HBM.out]; omega
          have c1 := (hp_cells t5).2.1
          have T5 := Lib.hid t5
          clear t5 hN5 hM5
          have lt8 : k < N5 := (by have := HNK.out; omega); have b7 := (rm_blk (PV.out _ _ _ _ _ _ _ T5.out) HPK.out).2.2; rw [HZU.out] at b7
          go_wp2_with fail
          have kin := FIN.out mp r o s5 (outL ls (clsN y.b.size) y.b.off) b1 _ _ _ _ none0 n T5.out rfl HS3.out HN.out.symm (by simp only [List.length_cons] at hcnt; omega) HH1.out (by unfold freeM; rw [HJ.out]; unfold joinP; rw [HMP.out, List.getLast?_concat]; simp only [HZU.out]; rfl)
          have KIN := Lib.hid kin
          clear kin
          go_wp2_with fail
          with_reducible refine KIN.out.mono ?_
          rintro e wZ ⟨rfl, hZ⟩
          have HZ := Lib.hid hZ
          clear hZ
          go_wp2_with fail
          go_end0
          exact ⟨rfl, HZ.out⟩
    | false =>
      have HZU := Lib.hid hzu; have HZD := Lib.hid (hzd hzu)
      clear hzu hzd
      cases mr with
      | nil =>
        have d1 : decide ((n : Int) + 1 < (N : Int)) = false := decide_eq_false (by have := HN2.out; simp only [List.length_nil] at this; omega)
        have HJ := Lib.hid (show joinN [] s ls = ([], s, ls) from rfl)
        go_enter Try.func231, Try.ntmps231
        go_wp2_with (first
          | (refine rm_setB T0.out HBM.out ⟨o, s, false⟩ 2 (by decide) (.bool false) rfl bb N cb rfl rfl 4 _ _ rfl rfl rfl rfl (by kernel_rfl) ?_; intro w1 h1; have T1 := Lib.hid h1; clear h1 T0; have c1 := (hp_cells T1.out).2.1; have c2 := (hp_cells T1.out).2.2.1)
          | (refine rm_setD T1.out HDM.out none0 bd M cd rfl rfl 31 _ _ rfl rfl rfl rfl (by kernel_rfl) ?_; intro w2 h2; have T2 := Lib.hid h2; clear h2 T1 c2; have c1 := (hp_cells T2.out).2.1; have b7 := (rm_blk (PV.out _ _ _ _ _ _ _ T2.out) HPK.out).2.2; rw [HZU.out] at b7; go_wp2_with fail))
        have hll := (HH.out).lists.short (HH.out).good (HH.out).max (clsN_of HZZ.out).1
        have hHH := HH.out
        rw [HMP.out, bsOf_append] at hHH
        obtain ⟨b9, _, h91, _, _, hh9⟩ := Hole.prev (y := z.b) hHH HZU.out
        have hmx := hh9.max; have hat := hh9.at; have hsd := hh9.sized
        have u7 : IntKind.i64.wrap ((z.b.size : Int) + (s : Int)) = ((z.b.size + s : Nat) : Int) := by rw [IntWalk.i64_in _ (by omega)]; omega
        have HH9 := Lib.hid hh9
        have HLL7 := Lib.hid hll
        clear hHH hh9 h91 hmx hat hsd hll
        with_reducible refine (rm_out (PV.out _ _ _ _ _ _ _ T2.out) HS.out HPK.out HZZ.out (by have := HLL7.out; omega) (by have h1 := HPK.out; have h2 : mp.length + (([] : List Bd)).length ≤ 1000 := hcnt; have h3 := HN.out; have h4 := HNK.out; have h5 := HPL.out; simp only [bsOf, List.length_append, List.length_cons, List.length_map] at h1 h2 h3 ⊢; omega) (k : Int) rfl).mono ?_
        rintro e w7 ⟨rfl, ss7, hs7, t7⟩
        have TX := Lib.hid t7.drew
        have HS7 := Lib.hid hs7
        clear t7 hs7 c1 b7
        go_wp2_with fail
        refine flowt_begin 26 (S := fun w' => w'.cell? ⟨q, 1, none⟩ = some (.slice (some ⟨bb, 0, none⟩) N cb) ∧ w'.cell? ⟨bb, k * 3 + 1, none⟩ = some (.int .i64 z.b.size) ∧ w'.cell? ⟨bb, n * 3 + 1, none⟩ = some (.int .i64 s)) hmixed 27 rfl (by repeat (first | with_reducible refine ps_then ?_ | with_reducible refine ps_block ?_ | with_reducible exact ps_body | refine ps_then ?_ | refine ps_block ?_ | exact ps_body)) ⟨(hp_cells TX.out).2.1, (rm_blk TX.out HPK.out).2.1, (rm_blk (P := bsOf p ++ [z.b]) (x := ⟨o, s, false⟩) (R := bsOf ([] : List Bd)) (by rw [List.append_assoc]; exact TX.out) HPN.out).2.1⟩ (fun hps => ?_)
        simp only [List.replicate]
        generalize w7.drew = wv at TX ⊢
        refine flowt_take 0 (v := ?_) (a' := ?_) hps rfl (by kernel_rfl) rfl ?_ ?_ ?_
        rotate_left 2
        · intro w' hk; go_simp; try rfl
        · simp only [Act.put, List.setIfInBounds_toArray, List.set_cons_succ, List.set_cons_zero]; try rfl
        refine flowt_take 1 (v := ?_) (a' := ?_) hps rfl (by kernel_rfl) rfl ?_ ?_ ?_
        rotate_left 2
        · intro w' hk; go_simp; try rfl
        · simp only [Act.put, List.setIfInBounds_toArray, List.set_cons_succ, List.set_cons_zero]; try rfl
        refine flowt_take 2 (v := ?_) (a' := ?_) hps rfl (by kernel_rfl) rfl ?_ ?_ ?_
        rotate_left 2
        · intro w' hk; go_simp; try rfl
        · simp only [Act.put, List.setIfInBounds_toArray, List.set_cons_succ, List.set_cons_zero]; try rfl
        refine flowt_read 3 (v := ?_) (a' := ?_) hps rfl (by kernel_rfl) rfl ?_ ?_ ?_
        rotate_left 2
        · intro w' hk; have c1 := hk.1; go_simp; try rfl
        · simp only [Act.put, List.setIfInBounds_toArray, List.set_cons_succ, List.set_cons_zero]; try rfl
        refine flowt_take 4 (v := ?_) (a' := ?_) hps rfl (by kernel_rfl) rfl ?_ ?_ ?_
        rotate_left 2
        · intro w' hk; go_simp; try rfl
        · simp only [Act.put, List.setIfInBounds_toArray, List.set_cons_succ, List.set_cons_zero]; try rfl
        refine flowt_take 5 (v := ?_) (a' := ?_) hps rfl (by kernel_rfl) rfl ?_ ?_ ?_
        rotate_left 2
        · intro w' hk; go_simp; try rfl
        · simp only [Act.put, List.setIfInBounds_toArray, List.set_cons_succ, List.set_cons_zero]; try rfl
        refine flowt_take 6 (v := ?_) (a' := ?_) hps rfl (by kernel_rfl) rfl ?_ ?_ ?_
        rotate_left 2
        · intro w' hk; go_simp; try rfl
        · simp only [Act.put, List.setIfInBounds_toArray, List.set_cons_succ, List.set_cons_zero]; try rfl
        refine flowt_take 7 (v := ?_) (a' := ?_) hps rfl (by kernel_rfl) rfl ?_ ?_ ?_
        rotate_left 2
        · intro w' hk; go_simp; try rfl
        · simp only [Act.put, List.setIfInBounds_toArray, List.set_cons_succ, List.set_cons_zero]; try rfl
        refine flowt_take 8 (v := ?_) (a' := ?_) hps rfl (by kernel_rfl) rfl ?_ ?_ ?_
        rotate_left 2
        · intro w' hk; go_simp; try rfl
        · simp only [Act.put, List.setIfInBounds_toArray, List.set_cons_succ, List.set_cons_zero]; try rfl
        refine flowt_read 9 (v := ?_) (a' := ?_) hps rfl (by kernel_rfl) rfl ?_ ?_ ?_
        rotate_left 2
        · intro w' hk; have c1 := hk.1; go_simp; try rfl
        · simp only [Act.put, List.setIfInBounds_toArray, List.set_cons_succ, List.set_cons_zero]; try rfl
        refine flowt_take 10 (v := ?_) (a' := ?_) hps rfl (by kernel_rfl) rfl ?_ ?_ ?_
        rotate_left 2
        · intro w' hk; go_simp; try rfl
        · simp only [Act.put, List.setIfInBounds_toArray, List.set_cons_succ, List.set_cons_zero]; try rfl
        refine flowt_take 11 (v := ?_) (a' := ?_) hps rfl (by kernel_rfl) rfl ?_ ?_ ?_
        rotate_left 2
        · intro w' hk; go_simp; try rfl
        · simp only [Act.put, List.setIfInBounds_toArray, List.set_cons_succ, List.set_cons_zero]; try rfl
        refine flowt_take 12 (v := ?_) (a' := ?_) hps rfl (by kernel_rfl) rfl ?_ ?_ ?_
        rotate_left 2
        · intro w' hk; go_simp; try rfl
        · simp only [Act.put, List.setIfInBounds_toArray, List.set_cons_succ, List.set_cons_zero]; try rfl
        refine flowt_take 13 (v := ?_) (a' := ?_) hps rfl (by kernel_rfl) rfl ?_ ?_ ?_
        rotate_left 2
        · intro w' hk; go_simp; try rfl
        · simp only [Act.put, List.setIfInBounds_toArray, List.set_cons_succ, List.set_cons_zero]; try rfl
        refine flowt_read 14 (v := ?_) (a' := ?_) hps rfl (by kernel_rfl) rfl ?_ ?_ ?_
        rotate_left 2
        · intro w' hk; have c1 := hk.2.1; go_simp; try rfl
        · simp only [Act.put, List.setIfInBounds_toArray, List.set_cons_succ, List.set_cons_zero]; try rfl
        refine flowt_take 15 (v := ?_) (a' := ?_) hps rfl (by kernel_rfl) rfl ?_ ?_ ?_
        rotate_left 2
        · intro w' hk; go_simp; try rfl
        · simp only [Act.put, List.setIfInBounds_toArray, List.set_cons_succ, List.set_cons_zero]; try rfl
        refine flowt_take 16 (v := ?_) (a' := ?_) hps rfl (by kernel_rfl) rfl ?_ ?_ ?_
        rotate_left 2
        · intro w' hk; go_simp; try rfl
        · simp only [Act.put, List.setIfInBounds_toArray, List.set_cons_succ, List.set_cons_zero]; try rfl
        refine flowt_take 17 (v := ?_) (a' := ?_) hps rfl (by kernel_rfl) rfl ?_ ?_ ?_
        rotate_left 2
        · intro w' hk; go_simp; try rfl
        · simp only [Act.put, List.setIfInBounds_toArray, List.set_cons_succ, List.set_cons_zero]; try rfl
        refine flowt_read 18 (v := ?_) (a' := ?_) hps rfl (by kernel_rfl) rfl ?_ ?_ ?_
        rotate_left 2
        · intro w' hk; have c1 := hk.1; go_simp; try rfl
        · simp only [Act.put, List.setIfInBounds_toArray, List.set_cons_succ, List.set_cons_zero]; try rfl
        refine flowt_take 19 (v := ?_) (a' := ?_) hps rfl (by kernel_rfl) rfl ?_ ?_ ?_
        rotate_left 2
        · intro w' hk; go_simp; try rfl
        · simp only [Act.put, List.setIfInBounds_toArray, List.set_cons_succ, List.set_cons_zero]; try rfl
        refine flowt_take 20 (v := ?_) (a' := ?_) hps rfl (by kernel_rfl) rfl ?_ ?_ ?_
        rotate_left 2
        · intro w' hk; go_simp; try rfl
        · simp only [Act.put, List.setIfInBounds_toArray, List.set_cons_succ, List.set_cons_zero]; try rfl
        refine flowt_take 21 (v := ?_) (a' := ?_) hps rfl (by kernel_rfl) rfl ?_ ?_ ?_
        rotate_left 2
        · intro w' hk; go_simp; try rfl
        · simp only [Act.put, List.setIfInBounds_toArray, List.set_cons_succ, List.set_cons_zero]; try rfl
        refine flowt_read 22 (v := ?_) (a' := ?_) hps rfl (by kernel_rfl) rfl ?_ ?_ ?_
        rotate_left 2
        · intro w' hk; have c1 := hk.2.2; go_simp; try rfl
        · simp only [Act.put, List.setIfInBounds_toArray, List.set_cons_succ, List.set_cons_zero]; try rfl
        refine flowt_take 23 (v := ?_) (a' := ?_) hps rfl (by kernel_rfl) rfl ?_ ?_ ?_
        rotate_left 2
        · intro w' hk; go_simp; try rfl
        · simp only [Act.put, List.setIfInBounds_toArray, List.set_cons_succ, List.set_cons_zero]; try rfl
        refine flowt_take 24 (v := ?_) (a' := ?_) hps rfl (by kernel_rfl) rfl ?_ ?_ ?_
        rotate_left 2
        · intro w' hk; go_simp; try rfl
        · simp only [Act.put, List.setIfInBounds_toArray, List.set_cons_succ, List.set_cons_zero]; try rfl
        refine flowt_take 25 (v := ?_) (a' := ?_) hps rfl (by kernel_rfl) rfl ?_ ?_ ?_
        rotate_left 2
        · intro w' hk; go_simp; try rfl
        · simp only [Act.put, List.setIfInBounds_toArray, List.set_cons_succ, List.set_cons_zero]; try rfl
        refine flowt_one 26 hps rfl (by kernel_rfl) rfl (wp_next (fun K hK => ?_))
        refine rm_setB_at TX.out HPK.out ⟨z.b.off, z.b.size + s, false⟩ 1 (by decide) (.int .i64 ((z.b.size + s : Nat) : Int)) (by unfold blC; rw [HZU.out]; rfl) bb N cb rfl 3 _ _ rfl rfl rfl rfl (by kernel_rfl) ?_
        intro w8 h8
        replace TX := Lib.hid h8
        clear h8
        refine hK _ _ ⟨fun h => absurd (show true = false from h) (by decide), ?_⟩
        clear hK
        refine flowt_done hps (by kernel_rfl) ?_
        go_wp2_with fail
        have t8 := TX.out
        rw [HMP.out, List.map_append, show bsOf p ++ (⟨z.b.off, z.b.size + s, false⟩ : Blk) :: ⟨o, s, false⟩ :: bsOf ([] : List Bd) = (bsOf p ++ [⟨z.b.off, z.b.size + s, false⟩]) ++ ⟨o, s, false⟩ :: bsOf ([] : List Bd) from by simp] at t8
        have T8 := Lib.hid t8
        clear t8
        with_reducible refine (rm_drop (n := n) (C := p.map (·.d) ++ [z].map (·.d)) (d := none0) (E := (([] : List Bd)).map (·.d)) T8.out (by have := HPN.out; simpa using this) (by have := HPN.out; unfold bsOf at this; simpa using this) (by unfold bsOf; rw [List.length_map, List.length_map]) (fun v hv => by
            simp only [List.mem_append, List.mem_map, List.mem_cons, List.not_mem_nil, or_false] at hv
            rcases hv with (⟨x, hx, rfl⟩ | ⟨x, rfl, rfl⟩) | rfl | ⟨x, hx, rfl⟩
            · exact (HNF.out x (by rw [HMP.out]; simp [hx])).1
            · exact (HNF.out x (by rw [HMP.out]; simp)).1
            · simp [Value.oneCell']
            · exact (HNF.out x (by first | exact hx.elim | exact List.mem_append_right _ hx | exact List.mem_append_right _ (List.mem_cons.2 hx) | exact List.mem_append_right _ (List.mem_cons_of_mem _ hx))).1) (by have h1 := HPK.out; have h2 : mp.length + (([] : List Bd)).length ≤ 1000 := hcnt; have h3 := HN.out; have h4 := HNK.out; have h5 := HPL.out; simp only [bsOf, List.length_append, List.length_cons, List.length_map, List.length_nil] at h1 h2 h3 ⊢; omega) (n : Int) rfl).mono ?_
        rintro e w9 ⟨rfl, vb9, vd9, t9⟩
        have T9 := Lib.hid (show St B w0 w9 (HpX q cap vb9 vd9 vl ss7 (bsOf p ++ ⟨z.b.off, z.b.size + s, false⟩ :: bsOf ([] : List Bd)) (p.map (·.d) ++ z.d :: (([] : List Bd)).map (·.d)) (outL ls (clsN z.b.size) z.b.off) l) from by rw [List.append_assoc, List.append_assoc] at t9; exact t9)
        clear t9 TX T8
        go_wp2_with fail
        have kin := FIN.out p ([] : List Bd) z.b.off (z.b.size + s) (outL ls (clsN z.b.size) z.b.off) b9 _ _ _ _ z.d k T9.out HZD.out HS7.out HPL.out (by have h1 : mp.length + (([] : List Bd)).length ≤ 1000 := hcnt; have h2 := HN.out; have h3 := HNK.out; have h4 := HPL.out; omega) HH9.out (by unfold freeM; rw [HJ.out]; unfold joinP; rw [HMP.out, List.getLast?_concat]; simp only [HZU.out]; rw [List.dropLast_concat]; rfl)
        have KIN := Lib.hid kin
        clear kin
        go_wp2_with fail
        with_reducible refine KIN.out.mono ?_
        rintro e wZ ⟨rfl, hZ⟩
        have HZ := Lib.hid hZ
        clear hZ
        go_wp2_with fail
        go_end0
        exact ⟨rfl, HZ.out⟩
      | cons y r =>
        have d1 : decide ((n : Int) + 1 < (N : Int)) = true := decide_eq_true (by have := HN2.out; simp only [List.length_cons] at this; omega)
        have lt3 : n + 1 < N := by have := HN2.out; simp only [List.length_cons] at this; omega
        have lt4 : 0 ≤ (n : Int) + 1 ∧ (n : Int) + 1 < (N : Int) := by omega
        have hp1 : ∀ s', (bsOf mp ++ [(⟨o, s', false⟩ : Blk)]).length = n + 1 := fun s' => by rw [List.length_append, HBM.out]; rfl
        have HP1 := Lib.hid hp1
        have cy : ∀ w' vb vd ss D ls s', St B w0 w' (HpX q cap vb vd vl ss (bsOf mp ++ ⟨o, s', false⟩ :: bsOf (y :: r)) D ls l) → St B w0 w' (HpX q cap vb vd vl ss ((bsOf mp ++ [⟨o, s', false⟩]) ++ y.b :: bsOf r) D ls l) := fun w' vb vd ss D ls s' h => by rw [bsOf_cons] at h; rw [List.append_assoc]; exact h
        have CY := Lib.hid cy
        clear hp1 cy
        cases hu : y.b.used with
        | true =>
          have HU := Lib.hid hu
          have HJ := Lib.hid (show joinN (y :: r) s ls = (y :: r, s, ls) from by unfold joinN; simp only [hu]; rfl)
          clear hu
          go_enter Try.func231, Try.ntmps231
          go_wp2_with (first
            | (refine rm_setB T0.out HBM.out ⟨o, s, false⟩ 2 (by decide) (.bool false) rfl bb N cb rfl rfl 4 _ _ rfl rfl rfl rfl (by kernel_rfl) ?_; intro w1 h1; have T1 := Lib.hid h1; clear h1 T0; have c1 := (hp_cells T1.out).2.1; have c2 := (hp_cells T1.out).2.2.1)
            | (refine rm_setD T1.out HDM.out none0 bd M cd rfl rfl 31 _ _ rfl rfl rfl rfl (by kernel_rfl) ?_; intro w2 h2; have T2 := Lib.hid h2; clear h2 T1 c2; have c1 := (hp_cells T2.out).2.1; have b2 := (rm_blk (CY.out _ _ _ _ _ _ _ T2.out) (HP1.out s)).2.2; rw [HU.out] at b2; have b7 := (rm_blk (PV.out _ _ _ _ _ _ _ T2.out) HPK.out).2.2; rw [HZU.out] at b7; go_wp2_with fail))
          have hll := (HH.out).lists.short (HH.out).good (HH.out).max (clsN_of HZZ.out).1
          have hHH := HH.out
          rw [HMP.out, bsOf_append] at hHH
          obtain ⟨b9, _, h91, _, _, hh9⟩ := Hole.prev (y := z.b) hHH HZU.out
          have hmx := hh9.max; have hat := hh9.at; have hsd := hh9.sized
          have u7 : IntKind.i64.wrap ((z.b.size : Int) + (s : Int)) = ((z.b.size + s : Nat) : Int) := by rw [IntWalk.i64_in _ (by omega)]; omega
          have HH9 := Lib.hid hh9
          have HLL7 := Lib.hid hll
          clear hHH hh9 h91 hmx hat hsd hll
          with_reducible refine (rm_out (PV.out _ _ _ _ _ _ _ T2.out) HS.out HPK.out HZZ.out (by have := HLL7.out; omega) (by have h1 := HPK.out; have h2 : mp.length + ((y :: r)).length ≤ 1000 := hcnt; have h3 := HN.out; have h4 := HNK.out; have h5 := HPL.out; simp only [bsOf, List.length_append, List.length_cons, List.length_map] at h1 h2 h3 ⊢; omega) (k : Int) rfl).mono ?_
          rintro e w7 ⟨rfl, ss7, hs7, t7⟩
          have TX := Lib.hid t7.drew
          have HS7 := Lib.hid hs7
          clear t7 hs7 c1 b7
          go_wp2_with fail
          refine flowt_begin 26 (S := fun w' => w'.cell? ⟨q, 1, none⟩ = some (.slice (some ⟨bb, 0, none⟩) N cb) ∧ w'.cell? ⟨bb, k * 3 + 1, none⟩ = some (.int .i64 z.b.size) ∧ w'.cell? ⟨bb, n * 3 + 1, none⟩ = some (.int .i64 s)) hmixed 27 rfl (by repeat (first | with_reducible refine ps_then ?_ | with_reducible refine ps_block ?_ | with_reducible exact ps_body | refine ps_then ?_ | refine ps_block ?_ | exact ps_body)) ⟨(hp_cells TX.out).2.1, (rm_blk TX.out HPK.out).2.1, (rm_blk (P := bsOf p ++ [z.b]) (x := ⟨o, s, false⟩) (R := bsOf (y :: r)) (by rw [List.append_assoc]; exact TX.out) HPN.out).2.1⟩ (fun hps => ?_)
          simp only [List.replicate]
          generalize w7.drew = wv at TX ⊢
          refine flowt_take 0 (v := ?_) (a' := ?_) hps rfl (by kernel_rfl) rfl ?_ ?_ ?_
          rotate_left 2
          · intro w' hk; go_simp; try rfl
          · simp only [Act.put, List.setIfInBounds_toArray, List.set_cons_succ, List.set_cons_zero]; try rfl
          refine flowt_take 1 (v := ?_) (a' := ?_) hps rfl (by kernel_rfl) rfl ?_ ?_ ?_
          rotate_left 2
          · intro w' hk; go_simp; try rfl
          · simp only [Act.put, List.setIfInBounds_toArray, List.set_cons_succ, List.set_cons_zero]; try rfl
          refine flowt_take 2 (v := ?_) (a' := ?_) hps rfl (by kernel_rfl) rfl ?_ ?_ ?_
          rotate_left 2
          · intro w' hk; go_simp; try rfl
          · simp only [Act.put, List.setIfInBounds_toArray, List.set_cons_succ, List.set_cons_zero]; try rfl
          refine flowt_read 3 (v := ?_) (a' := ?_) hps rfl (by kernel_rfl) rfl ?_ ?_ ?_
          rotate_left 2
          · intro w' hk; have c1 := hk.1; go_simp; try rfl
          · simp only [Act.put, List.setIfInBounds_toArray, List.set_cons_succ, List.set_cons_zero]; try rfl
          refine flowt_take 4 (v := ?_) (a' := ?_) hps rfl (by kernel_rfl) rfl ?_ ?_ ?_
          rotate_left 2
          · intro w' hk; go_simp; try rfl
          · simp only [Act.put, List.setIfInBounds_toArray, List.set_cons_succ, List.set_cons_zero]; try rfl
          refine flowt_take 5 (v := ?_) (a' := ?_) hps rfl (by kernel_rfl) rfl ?_ ?_ ?_
          rotate_left 2
          · intro w' hk; go_simp; try rfl
          · simp only [Act.put, List.setIfInBounds_toArray, List.set_cons_succ, List.set_cons_zero]; try rfl
          refine flowt_take 6 (v := ?_) (a' := ?_) hps rfl (by kernel_rfl) rfl ?_ ?_ ?_
          rotate_left 2
          · intro w' hk; go_simp; try rfl
          · simp only [Act.put, List.setIfInBounds_toArray, List.set_cons_succ, List.set_cons_zero]; try rfl
          refine flowt_take 7 (v := ?_) (a' := ?_) hps rfl (by kernel_rfl) rfl ?_ ?_ ?_
          rotate_left 2
          · intro w' hk; go_simp; try rfl
          · simp only [Act.put, List.setIfInBounds_toArray, List.set_cons_succ, List.set_cons_zero]; try rfl
          refine flowt_take 8 (v := ?_) (a' := ?_) hps rfl (by kernel_rfl) rfl ?_ ?_ ?_
          rotate_left 2
          · intro w' hk; go_simp; try rfl
          · simp only [Act.put, List.setIfInBounds_toArray, List.set_cons_succ, List.set_cons_zero]; try rfl
          refine flowt_read 9 (v := ?_) (a' := ?_) hps rfl (by kernel_rfl) rfl ?_ ?_ ?_
          rotate_left 2
          · intro w' hk; have c1 := hk.1; go_simp; try rfl
          · simp only [Act.put, List.setIfInBounds_toArray, List.set_cons_succ, List.set_cons_zero]; try rfl
          refine flowt_take 10 (v := ?_) (a' := ?_) hps rfl (by kernel_rfl) rfl ?_ ?_ ?_
          rotate_left 2
          · intro w' hk; go_simp; try rfl
          · simp only [Act.put, List.setIfInBounds_toArray, List.set_cons_succ, List.set_cons_zero]; try rfl
          refine flowt_take 11 (v := ?_) (a' := ?_) hps rfl (by kernel_rfl) rfl ?_ ?_ ?_
          rotate_left 2
          · intro w' hk; go_simp; try rfl
          · simp only [Act.put, List.setIfInBounds_toArray, List.set_cons_succ, List.set_cons_zero]; try rfl
          refine flowt_take 12 (v := ?_) (a' := ?_) hps rfl (by kernel_rfl) rfl ?_ ?_ ?_
          rotate_left 2
          · intro w' hk; go_simp; try rfl
          · simp only [Act.put, List.setIfInBounds_toArray, List.set_cons_succ, List.set_cons_zero]; try rfl
          refine flowt_take 13 (v := ?_) (a' := ?_) hps rfl (by kernel_rfl) rfl ?_ ?_ ?_
          rotate_left 2
          · intro w' hk; go_simp; try rfl
          · simp only [Act.put, List.setIfInBounds_toArray, List.set_cons_succ, List.set_cons_zero]; try rfl
          refine flowt_read 14 (v := ?_) (a' := ?_) hps rfl (by kernel_rfl) rfl ?_ ?_ ?_
          rotate_left 2
          · intro w' hk; have c1 := hk.2.1; go_simp; try rfl
          · simp only [Act.put, List.setIfInBounds_toArray, List.set_cons_succ, List.set_cons_zero]; try rfl
          refine flowt_take 15 (v := ?_) (a' := ?_) hps rfl (by kernel_rfl) rfl ?_ ?_ ?_
          rotate_left 2
          · intro w' hk; go_simp; try rfl
          · simp only [Act.put, List.setIfInBounds_toArray, List.set_cons_succ, List.set_cons_zero]; try rfl
          refine flowt_take 16 (v := ?_) (a' := ?_) hps rfl (by kernel_rfl) rfl ?_ ?_ ?_
          rotate_left 2
          · intro w' hk; go_simp; try rfl
          · simp only [Act.put, List.setIfInBounds_toArray, List.set_cons_succ, List.set_cons_zero]; try rfl
          refine flowt_take 17 (v := ?_) (a' := ?_) hps rfl (by kernel_rfl) rfl ?_ ?_ ?_
          rotate_left 2
          · intro w' hk; go_simp; try rfl
          · simp only [Act.put, List.setIfInBounds_toArray, List.set_cons_succ, List.set_cons_zero]; try rfl
          refine flowt_read 18 (v := ?_) (a' := ?_) hps rfl (by kernel_rfl) rfl ?_ ?_ ?_
          rotate_left 2
          · intro w' hk; have c1 := hk.1; go_simp; try rfl
          · simp only [Act.put, List.setIfInBounds_toArray, List.set_cons_succ, List.set_cons_zero]; try rfl
          refine flowt_take 19 (v := ?_) (a' := ?_) hps rfl (by kernel_rfl) rfl ?_ ?_ ?_
          rotate_left 2
          · intro w' hk; go_simp; try rfl
          · simp only [Act.put, List.setIfInBounds_toArray, List.set_cons_succ, List.set_cons_zero]; try rfl
          refine flowt_take 20 (v := ?_) (a' := ?_) hps rfl (by kernel_rfl) rfl ?_ ?_ ?_
          rotate_left 2
          · intro w' hk; go_simp; try rfl
          · simp only [Act.put, List.setIfInBounds_toArray, List.set_cons_succ, List.set_cons_zero]; try rfl
          refine flowt_take 21 (v := ?_) (a' := ?_) hps rfl (by kernel_rfl) rfl ?_ ?_ ?_
          rotate_left 2
          · intro w' hk; go_simp; try rfl
          · simp only [Act.put, List.setIfInBounds_toArray, List.set_cons_succ, List.set_cons_zero]; try rfl
          refine flowt_read 22 (v := ?_) (a' := ?_) hps rfl (by kernel_rfl) rfl ?_ ?_ ?_
          rotate_left 2
          · intro w' hk; have c1 := hk.2.2; go_simp; try rfl
          · simp only [Act.put, List.setIfInBounds_toArray, List.set_cons_succ, List.set_cons_zero]; try rfl
          refine flowt_take 23 (v := ?_) (a' := ?_) hps rfl (by kernel_rfl) rfl ?_ ?_ ?_
          rotate_left 2
          · intro w' hk; go_simp; try rfl
          · simp only [Act.put, List.setIfInBounds_toArray, List.set_cons_succ, List.set_cons_zero]; try rfl
          refine flowt_take 24 (v := ?_) (a' := ?_) hps rfl (by kernel_rfl) rfl ?_ ?_ ?_
          rotate_left 2
          · intro w' hk; go_simp; try rfl
          · simp only [Act.put, List.setIfInBounds_toArray, List.set_cons_succ, List.set_cons_zero]; try rfl
          refine flowt_take 25 (v := ?_) (a' := ?_) hps rfl (by kernel_rfl) rfl ?_ ?_ ?_
          rotate_left 2
          · intro w' hk; go_simp; try rfl
          · simp only [Act.put, List.setIfInBounds_toArray, List.set_cons_succ, List.set_cons_zero]; try rfl
          refine flowt_one 26 hps rfl (by kernel_rfl) rfl (wp_next (fun K hK => ?_))
          refine rm_setB_at TX.out HPK.out ⟨z.b.off, z.b.size + s, false⟩ 1 (by decide) (.int .i64 ((z.b.size + s : Nat) : Int)) (by unfold blC; rw [HZU.out]; rfl) bb N cb rfl 3 _ _ rfl rfl rfl rfl (by kernel_rfl) ?_
          intro w8 h8
          replace TX := Lib.hid h8
          clear h8
          refine hK _ _ ⟨fun h => absurd (show true = false from h) (by decide), ?_⟩
          clear hK
          refine flowt_done hps (by kernel_rfl) ?_
          go_wp2_with fail
          have t8 := TX.out
          rw [HMP.out, List.map_append, show bsOf p ++ (⟨z.b.off, z.b.size + s, false⟩ : Blk) :: ⟨o, s, false⟩ :: bsOf (y :: r) = (bsOf p ++ [⟨z.b.off, z.b.size + s, false⟩]) ++ ⟨o, s, false⟩ :: bsOf (y :: r) from by simp] at t8
          have T8 := Lib.hid t8
          clear t8
          with_reducible refine (rm_drop (n := n) (C := p.map (·.d) ++ [z].map (·.d)) (d := none0) (E := ((y :: r)).map (·.d)) T8.out (by have := HPN.out; simpa using this) (by have := HPN.out; unfold bsOf at this; simpa using this) (by unfold bsOf; rw [List.length_map, List.length_map]) (fun v hv => by
              simp only [List.mem_append, List.mem_map, List.mem_cons, List.not_mem_nil, or_false] at hv
              rcases hv with (⟨x, hx, rfl⟩ | ⟨x, rfl, rfl⟩) | rfl | ⟨x, hx, rfl⟩
              · exact (HNF.out x (by rw [HMP.out]; simp [hx])).1
              · exact (HNF.out x (by rw [HMP.out]; simp)).1
              · simp [Value.oneCell']
              · exact (HNF.out x (by first | exact hx.elim | exact List.mem_append_right _ hx | exact List.mem_append_right _ (List.mem_cons.2 hx) | exact List.mem_append_right _ (List.mem_cons_of_mem _ hx))).1) (by have h1 := HPK.out; have h2 : mp.length + ((y :: r)).length ≤ 1000 := hcnt; have h3 := HN.out; have h4 := HNK.out; have h5 := HPL.out; simp only [bsOf, List.length_append, List.length_cons, List.length_map, List.length_nil] at h1 h2 h3 ⊢; omega) (n : Int) rfl).mono ?_
          rintro e w9 ⟨rfl, vb9, vd9, t9⟩
          have T9 := Lib.hid (show St B w0 w9 (HpX q cap vb9 vd9 vl ss7 (bsOf p ++ ⟨z.b.off, z.b.size + s, false⟩ :: bsOf (y :: r)) (p.map (·.d) ++ z.d :: ((y :: r)).map (·.d)) (outL ls (clsN z.b.size) z.b.off) l) from by rw [List.append_assoc, List.append_assoc] at t9; exact t9)
          clear t9 TX T8
          go_wp2_with fail
          have kin := FIN.out p (y :: r) z.b.off (z.b.size + s) (outL ls (clsN z.b.size) z.b.off) b9 _ _ _ _ z.d k T9.out HZD.out HS7.out HPL.out (by have h1 : mp.length + ((y :: r)).length ≤ 1000 := hcnt; have h2 := HN.out; have h3 := HNK.out; have h4 := HPL.out; omega) HH9.out (by unfold freeM; rw [HJ.out]; unfold joinP; rw [HMP.out, List.getLast?_concat]; simp only [HZU.out]; rw [List.dropLast_concat]; rfl)
          have KIN := Lib.hid kin
          clear kin
          go_wp2_with fail
          with_reducible refine KIN.out.mono ?_
          rintro e wZ ⟨rfl, hZ⟩
          have HZ := Lib.hid hZ
          clear hZ
          go_wp2_with fail
          go_end0
          exact ⟨rfl, HZ.out⟩
        | false =>
          have HU := Lib.hid hu
          have HJ := Lib.hid (show joinN (y :: r) s ls = (r, s + y.b.size, outL ls (clsN y.b.size) y.b.off) from by unfold joinN; simp only [hu]; rfl)
          obtain ⟨b1, _, _, _, _, hh1⟩ := HH.out.next hu
          have hys := HH.out.side (List.mem_append_right _ (List.mem_cons_self ..) : y.b ∈ bsOf mp ++ bsOf (y :: r))
          have hyz := blkAt_isSize hys.2.1
          have hyb := (isSize_iff _).1 hyz
          have hob := HH.out.at
          have hmx := HH.out.max
          have hll := HH.out.lists.short HH.out.good HH.out.max (clsN_of hyz).1
          have u2 : IntKind.i64.wrap ((s : Int) + (y.b.size : Int)) = ((s + y.b.size : Nat) : Int) := by rw [IntWalk.i64_in _ (by omega)]; omega
          obtain ⟨s5, h5⟩ : ∃ v, s + y.b.size = v := ⟨_, rfl⟩
          have hj5 := HJ.out
          rw [h5] at hh1 u2 hj5
          clear HJ
          have HJ := Lib.hid hj5
          have HH1 := Lib.hid hh1; have HYZ := Lib.hid hyz; have HLL := Lib.hid hll
          clear hu hys hyz hyb hob hll hh1 h5 hj5
          go_enter Try.func231, Try.ntmps231
          go_wp2_with (first
            | (refine rm_setB T0.out HBM.out ⟨o, s, false⟩ 2 (by decide) (.bool false) rfl bb N cb rfl rfl 4 _ _ rfl rfl rfl rfl (by kernel_rfl) ?_; intro w1 h1; have T1 := Lib.hid h1; clear h1 T0; have c1 := (hp_cells T1.out).2.1; have c2 := (hp_cells T1.out).2.2.1)
            | (refine rm_setD T1.out HDM.out none0 bd M cd rfl rfl 31 _ _ rfl rfl rfl rfl (by kernel_rfl) ?_; intro w2 h2; have T2 := Lib.hid h2; clear h2 T1 c2; have c1 := (hp_cells T2.out).2.1; have b2 := (rm_blk (CY.out _ _ _ _ _ _ _ T2.out) (HP1.out s)).2.2; rw [HU.out] at b2; go_wp2_with fail))
          with_reducible refine (rm_out (CY.out _ _ _ _ _ _ _ T2.out) HS.out (HP1.out s) HYZ.out (by have := HLL.out; omega) (by have := HN2.out; have := HBM.out; simp only [List.length_append, List.length_cons, List.length_nil] at *; unfold bsOf; simp only [List.length_map]; omega) ((n : Int) + 1) (by omega)).mono ?_
          rintro e w3 ⟨rfl, ss3, hs3, t3⟩
          have TX := Lib.hid (show St B w0 w3 (HpX q cap (.slice (some ⟨bb, 0, none⟩) N cb) (.slice (some ⟨bd, 0, none⟩) M cd) vl ss3 (bsOf mp ++ ⟨o, s, false⟩ :: bsOf (y :: r)) (mp.map (·.d) ++ none0 :: (y :: r).map (·.d)) (outL ls (clsN y.b.size) y.b.off) l) from by rw [List.append_assoc] at t3; exact t3)
          have HS3 := Lib.hid hs3
          clear t3 hs3 T2 c1 b2
          replace TX := Lib.hid TX.out.drew
          go_wp2_with fail
          refine flowt_begin 25 (S := fun w' => w'.cell? ⟨q, 1, none⟩ = some (.slice (some ⟨bb, 0, none⟩) N cb) ∧ w'.cell? ⟨bb, n * 3 + 1, none⟩ = some (.int .i64 s) ∧ w'.cell? ⟨bb, (n + 1) * 3 + 1, none⟩ = some (.int .i64 y.b.size)) hmixed 26 rfl (by repeat (first | with_reducible refine ps_then ?_ | with_reducible refine ps_block ?_ | with_reducible exact ps_body | refine ps_then ?_ | refine ps_block ?_ | exact ps_body)) ⟨(hp_cells TX.out).2.1, (rm_blk TX.out HBM.out).2.1, (rm_blk (CY.out _ _ _ _ _ _ _ TX.out) (HP1.out s)).2.1⟩ (fun hps => ?_)
          simp only [List.replicate]
          generalize w3.drew = wx at TX ⊢
          refine flowt_take 0 (v := ?_) (a' := ?_) hps rfl (by kernel_rfl) rfl ?_ ?_ ?_
          rotate_left 2
          · intro w' hk; go_simp; try rfl
          · simp only [Act.put, List.setIfInBounds_toArray, List.set_cons_succ, List.set_cons_zero]; try rfl
          refine flowt_take 1 (v := ?_) (a' := ?_) hps rfl (by kernel_rfl) rfl ?_ ?_ ?_
          rotate_left 2
          · intro w' hk; go_simp; try rfl
          · simp only [Act.put, List.setIfInBounds_toArray, List.set_cons_succ, List.set_cons_zero]; try rfl
          refine flowt_take 2 (v := ?_) (a' := ?_) hps rfl (by kernel_rfl) rfl ?_ ?_ ?_
          rotate_left 2
          · intro w' hk; go_simp; try rfl
          · simp only [Act.put, List.setIfInBounds_toArray, List.set_cons_succ, List.set_cons_zero]; try rfl
          refine flowt_read 3 (v := ?_) (a' := ?_) hps rfl (by kernel_rfl) rfl ?_ ?_ ?_
          rotate_left 2
          · intro w' hk; have c1 := hk.1; go_simp; try rfl
          · simp only [Act.put, List.setIfInBounds_toArray, List.set_cons_succ, List.set_cons_zero]; try rfl
          refine flowt_take 4 (v := ?_) (a' := ?_) hps rfl (by kernel_rfl) rfl ?_ ?_ ?_
          rotate_left 2
          · intro w' hk; go_simp; try rfl
          · simp only [Act.put, List.setIfInBounds_toArray, List.set_cons_succ, List.set_cons_zero]; try rfl
          refine flowt_take 5 (v := ?_) (a' := ?_) hps rfl (by kernel_rfl) rfl ?_ ?_ ?_
          rotate_left 2
          · intro w' hk; go_simp; try rfl
          · simp only [Act.put, List.setIfInBounds_toArray, List.set_cons_succ, List.set_cons_zero]; try rfl
          refine flowt_take 6 (v := ?_) (a' := ?_) hps rfl (by kernel_rfl) rfl ?_ ?_ ?_
          rotate_left 2
          · intro w' hk; go_simp; try rfl
          · simp only [Act.put, List.setIfInBounds_toArray, List.set_cons_succ, List.set_cons_zero]; try rfl
          refine flowt_take 7 (v := ?_) (a' := ?_) hps rfl (by kernel_rfl) rfl ?_ ?_ ?_
          rotate_left 2
          · intro w' hk; go_simp; try rfl
          · simp only [Act.put, List.setIfInBounds_toArray, List.set_cons_succ, List.set_cons_zero]; try rfl
          refine flowt_read 8 (v := ?_) (a' := ?_) hps rfl (by kernel_rfl) rfl ?_ ?_ ?_
          rotate_left 2
          · intro w' hk; have c1 := hk.1; go_simp; try rfl
          · simp only [Act.put, List.setIfInBounds_toArray, List.set_cons_succ, List.set_cons_zero]; try rfl
          refine flowt_take 9 (v := ?_) (a' := ?_) hps rfl (by kernel_rfl) rfl ?_ ?_ ?_
          rotate_left 2
          · intro w' hk; go_simp; try rfl
          · simp only [Act.put, List.setIfInBounds_toArray, List.set_cons_succ, List.set_cons_zero]; try rfl
          refine flowt_take 10 (v := ?_) (a' := ?_) hps rfl (by kernel_rfl) rfl ?_ ?_ ?_
          rotate_left 2
          · intro w' hk; go_simp; try rfl
          · simp only [Act.put, List.setIfInBounds_toArray, List.set_cons_succ, List.set_cons_zero]; try rfl
          refine flowt_take 11 (v := ?_) (a' := ?_) hps rfl (by kernel_rfl) rfl ?_ ?_ ?_
          rotate_left 2
          · intro w' hk; go_simp; try rfl
          · simp only [Act.put, List.setIfInBounds_toArray, List.set_cons_succ, List.set_cons_zero]; try rfl
          refine flowt_read 12 (v := ?_) (a' := ?_) hps rfl (by kernel_rfl) rfl ?_ ?_ ?_
          rotate_left 2
          · intro w' hk; have c1 := hk.2.1; go_simp; try rfl
          · simp only [Act.put, List.setIfInBounds_toArray, List.set_cons_succ, List.set_cons_zero]; try rfl
          refine flowt_take 13 (v := ?_) (a' := ?_) hps rfl (by kernel_rfl) rfl ?_ ?_ ?_
          rotate_left 2
          · intro w' hk; go_simp; try rfl
          · simp only [Act.put, List.setIfInBounds_toArray, List.set_cons_succ, List.set_cons_zero]; try rfl
          refine flowt_take 14 (v := ?_) (a' := ?_) hps rfl (by kernel_rfl) rfl ?_ ?_ ?_
          rotate_left 2
          · intro w' hk; go_simp; try rfl
          · simp only [Act.put, List.setIfInBounds_toArray, List.set_cons_succ, List.set_cons_zero]; try rfl
          refine flowt_take 15 (v := ?_) (a' := ?_) hps rfl (by kernel_rfl) rfl ?_ ?_ ?_
          rotate_left 2
          · intro w' hk; go_simp; try rfl
          · simp only [Act.put, List.setIfInBounds_toArray, List.set_cons_succ, List.set_cons_zero]; try rfl
          refine flowt_read 16 (v := ?_) (a' := ?_) hps rfl (by kernel_rfl) rfl ?_ ?_ ?_
          rotate_left 2
          · intro w' hk; have c1 := hk.1; go_simp; try rfl
          · simp only [Act.put, List.setIfInBounds_toArray, List.set_cons_succ, List.set_cons_zero]; try rfl
          refine flowt_take 17 (v := ?_) (a' := ?_) hps rfl (by kernel_rfl) rfl ?_ ?_ ?_
          rotate_left 2
          · intro w' hk; go_simp; try rfl
          · simp only [Act.put, List.setIfInBounds_toArray, List.set_cons_succ, List.set_cons_zero]; try rfl
          refine flowt_take 18 (v := ?_) (a' := ?_) hps rfl (by kernel_rfl) rfl ?_ ?_ ?_
          rotate_left 2
          · intro w' hk; go_simp; try rfl
          · simp only [Act.put, List.setIfInBounds_toArray, List.set_cons_succ, List.set_cons_zero]; try rfl
          refine flowt_take 19 (v := ?_) (a' := ?_) hps rfl (by kernel_rfl) rfl ?_ ?_ ?_
          rotate_left 2
          · intro w' hk; go_simp; try rfl
          · simp only [Act.put, List.setIfInBounds_toArray, List.set_cons_succ, List.set_cons_zero]; try rfl
          refine flowt_take 20 (v := ?_) (a' := ?_) hps rfl (by kernel_rfl) rfl ?_ ?_ ?_
          rotate_left 2
          · intro w' hk; go_simp; try rfl
          · simp only [Act.put, List.setIfInBounds_toArray, List.set_cons_succ, List.set_cons_zero]; try rfl
          refine flowt_read 21 (v := ?_) (a' := ?_) hps rfl (by kernel_rfl) rfl ?_ ?_ ?_
          rotate_left 2
          · intro w' hk; have c1 := hk.2.2; go_simp; try rfl
          · simp only [Act.put, List.setIfInBounds_toArray, List.set_cons_succ, List.set_cons_zero]; try rfl
          refine flowt_take 22 (v := ?_) (a' := ?_) hps rfl (by kernel_rfl) rfl ?_ ?_ ?_
          rotate_left 2
          · intro w' hk; go_simp; try rfl
          · simp only [Act.put, List.setIfInBounds_toArray, List.set_cons_succ, List.set_cons_zero]; try rfl
          refine flowt_take 23 (v := ?_) (a' := ?_) hps rfl (by kernel_rfl) rfl ?_ ?_ ?_
          rotate_left 2
          · intro w' hk; go_simp; try rfl
          · simp only [Act.put, List.setIfInBounds_toArray, List.set_cons_succ, List.set_cons_zero]; try rfl
          refine flowt_take 24 (v := ?_) (a' := ?_) hps rfl (by kernel_rfl) rfl ?_ ?_ ?_
          rotate_left 2
          · intro w' hk; go_simp; try rfl
          · simp only [Act.put, List.setIfInBounds_toArray, List.set_cons_succ, List.set_cons_zero]; try rfl
          refine flowt_one 25 hps rfl (by kernel_rfl) rfl (wp_next (fun K hK => ?_))
          refine rm_setB_at TX.out HBM.out ⟨o, s5, false⟩ 1 (by decide) (.int .i64 (s5 : Int)) rfl bb N cb rfl 3 _ _ rfl rfl rfl rfl (by kernel_rfl) ?_
          intro w4 h4
          replace TX := Lib.hid h4
          clear h4
          refine hK _ _ ⟨fun h => absurd (show true = false from h) (by decide), ?_⟩
          clear hK
          refine flowt_done hps (by kernel_rfl) ?_
          go_wp2_with fail
          have t6 := CY.out _ _ _ _ _ _ _ TX.out
          rw [show mp.map (·.d) ++ none0 :: (y :: r).map (·.d) = (mp.map (·.d) ++ [none0]) ++ y.d :: r.map (·.d) from by simp] at t6
          have T6 := Lib.hid t6
          clear t6
          with_reducible refine (rm_drop T6.out (HP1.out _) (by rw [List.length_append, HDM.out, List.length_singleton]) (by unfold bsOf; rw [List.length_map, List.length_map]) (fun v hv => by
            simp only [List.mem_append, List.mem_map, List.mem_cons, List.not_mem_nil, or_false] at hv
            rcases hv with (⟨x, hx, rfl⟩ | rfl) | rfl | ⟨x, hx, rfl⟩
            · exact (HNF.out x (List.mem_append_left _ hx)).1
            · simp [Value.oneCell']
            · exact (HNF.out y (List.mem_append_right _ (List.mem_cons_self ..))).1
            · exact (HNF.out x (List.mem_append_right _ (List.mem_cons_of_mem _ hx))).1) (by have := HBM.out; simp only [List.length_append, List.length_cons, List.length_nil] at *; unfold bsOf; simp only [List.length_map]; omega) ((n : Int) + 1) (by omega)).mono ?_
          rintro e w5 ⟨rfl, vb5, vd5, t5⟩
          replace t5 : St B w0 w5 (HpX q cap vb5 vd5 vl ss3 (bsOf mp ++ ⟨o, s5, false⟩ :: bsOf r) (mp.map (·.d) ++ none0 :: r.map (·.d)) (outL ls (clsN y.b.size) y.b.off) l) := by rw [List.append_assoc, List.append_assoc] at t5; exact t5
          clear TX T6
          obtain ⟨bb5, cb5, bd5, cd5, rfl, rfl⟩ := rm_some t5
          obtain ⟨N5, hN5⟩ : ∃ N5, N5 = (bsOf mp ++ ⟨o, s5, false⟩ :: bsOf r).length := ⟨_, rfl⟩
          obtain ⟨M5, hM5⟩ : ∃ M5, M5 = (mp.map (·.d) ++ none0 :: r.map (·.d)).length := ⟨_, rfl⟩
          rw [← hN5, ← hM5] at t5
          have lt5 : n < N5 := by rw [hN5, List.length_append, List.length_cons, HBM.out]; omega
          have c1 := (hp_cells t5).2.1
          have T5 := Lib.hid t5
          clear t5 hN5 hM5
          have lt8 : k < N5 := (by have := HNK.out; omega); have b7 := (rm_blk (PV.out _ _ _ _ _ _ _ T5.out) HPK.out).2.2; rw [HZU.out] at b7
          go_wp2_with fail
          have hll := (HH1.out).lists.short (HH1.out).good (HH1.out).max (clsN_of HZZ.out).1
          have hHH := HH1.out
          rw [HMP.out, bsOf_append] at hHH
          obtain ⟨b9, _, h91, _, _, hh9⟩ := Hole.prev (y := z.b) hHH HZU.out
          have hmx := hh9.max; have hat := hh9.at; have hsd := hh9.sized
          have u7 : IntKind.i64.wrap ((z.b.size : Int) + (s5 : Int)) = ((z.b.size + s5 : Nat) : Int) := by rw [IntWalk.i64_in _ (by omega)]; omega
          have HH9 := Lib.hid hh9
          have HLL7 := Lib.hid hll
          clear hHH hh9 h91 hmx hat hsd hll
          with_reducible refine (rm_out (PV.out _ _ _ _ _ _ _ T5.out) HS3.out HPK.out HZZ.out (by have := HLL7.out; omega) (by have h1 := HPK.out; have h2 : mp.length + (r).length ≤ 1000 := (by simp only [List.length_cons] at hcnt; omega); have h3 := HN.out; have h4 := HNK.out; have h5 := HPL.out; simp only [bsOf, List.length_append, List.length_cons, List.length_map] at h1 h2 h3 ⊢; omega) (k : Int) rfl).mono ?_
          rintro e w7 ⟨rfl, ss7, hs7, t7⟩
          have TX := Lib.hid t7.drew
          have HS7 := Lib.hid hs7
          clear t7 hs7 c1 b7
          go_wp2_with fail
          refine flowt_begin 26 (S := fun w' => w'.cell? ⟨q, 1, none⟩ = some (.slice (some ⟨bb5, 0, none⟩) N5 cb5) ∧ w'.cell? ⟨bb5, k * 3 + 1, none⟩ = some (.int .i64 z.b.size) ∧ w'.cell? ⟨bb5, n * 3 + 1, none⟩ = some (.int .i64 s5)) hmixed 27 rfl (by repeat (first | with_reducible refine ps_then ?_ | with_reducible refine ps_block ?_ | with_reducible exact ps_body | refine ps_then ?_ | refine ps_block ?_ | exact ps_body)) ⟨(hp_cells TX.out).2.1, (rm_blk TX.out HPK.out).2.1, (rm_blk (P := bsOf p ++ [z.b]) (x := ⟨o, s5, false⟩) (R := bsOf r) (by rw [List.append_assoc]; exact TX.out) HPN.out).2.1⟩ (fun hps => ?_)
          simp only [List.replicate]
          generalize w7.drew = wv at TX ⊢
          refine flowt_take 0 (v := ?_) (a' := ?_) hps rfl (by kernel_rfl) rfl ?_ ?_ ?_
          rotate_left 2
          · intro w' hk; go_simp; try rfl
          · simp only [Act.put, List.setIfInBounds_toArray, List.set_cons_succ, List.set_cons_zero]; try rfl
          refine flowt_take 1 (v := ?_) (a' := ?_) hps rfl (by kernel_rfl) rfl ?_ ?_ ?_
          rotate_left 2
          · intro w' hk; go_simp; try rfl
          · simp only [Act.put, List.setIfInBounds_toArray, List.set_cons_succ, List.set_cons_zero]; try rfl
          refine flowt_take 2 (v := ?_) (a' := ?_) hps rfl (by kernel_rfl) rfl ?_ ?_ ?_
          rotate_left 2
          · intro w' hk; go_simp; try rfl
          · simp only [Act.put, List.setIfInBounds_toArray, List.set_cons_succ, List.set_cons_zero]; try rfl
          refine flowt_read 3 (v := ?_) (a' := ?_) hps rfl (by kernel_rfl) rfl ?_ ?_ ?_
          rotate_left 2
          · intro w' hk; have c1 := hk.1; go_simp; try rfl
          · simp only [Act.put, List.setIfInBounds_toArray, List.set_cons_succ, List.set_cons_zero]; try rfl
          refine flowt_take 4 (v := ?_) (a' := ?_) hps rfl (by kernel_rfl) rfl ?_ ?_ ?_
          rotate_left 2
          · intro w' hk; go_simp; try rfl
          · simp only [Act.put, List.setIfInBounds_toArray, List.set_cons_succ, List.set_cons_zero]; try rfl
          refine flowt_take 5 (v := ?_) (a' := ?_) hps rfl (by kernel_rfl) rfl ?_ ?_ ?_
          rotate_left 2
          · intro w' hk; go_simp; try rfl
          · simp only [Act.put, List.setIfInBounds_toArray, List.set_cons_succ, List.set_cons_zero]; try rfl
          refine flowt_take 6 (v := ?_) (a' := ?_) hps rfl (by kernel_rfl) rfl ?_ ?_ ?_
          rotate_left 2
          · intro w' hk; go_simp; try rfl
          · simp only [Act.put, List.setIfInBounds_toArray, List.set_cons_succ, List.set_cons_zero]; try rfl
          refine flowt_take 7 (v := ?_) (a' := ?_) hps rfl (by kernel_rfl) rfl ?_ ?_ ?_
          rotate_left 2
          · intro w' hk; go_simp; try rfl
          · simp only [Act.put, List.setIfInBounds_toArray, List.set_cons_succ, List.set_cons_zero]; try rfl
          refine flowt_take 8 (v := ?_) (a' := ?_) hps rfl (by kernel_rfl) rfl ?_ ?_ ?_
          rotate_left 2
          · intro w' hk; go_simp; try rfl
          · simp only [Act.put, List.setIfInBounds_toArray, List.set_cons_succ, List.set_cons_zero]; try rfl
          refine flowt_read 9 (v := ?_) (a' := ?_) hps rfl (by kernel_rfl) rfl ?_ ?_ ?_
          rotate_left 2
          · intro w' hk; have c1 := hk.1; go_simp; try rfl
          · simp only [Act.put, List.setIfInBounds_toArray, List.set_cons_succ, List.set_cons_zero]; try rfl
          refine flowt_take 10 (v := ?_) (a' := ?_) hps rfl (by kernel_rfl) rfl ?_ ?_ ?_
          rotate_left 2
          · intro w' hk; go_simp; try rfl
          · simp only [Act.put, List.setIfInBounds_toArray, List.set_cons_succ, List.set_cons_zero]; try rfl
          refine flowt_take 11 (v := ?_) (a' := ?_) hps rfl (by kernel_rfl) rfl ?_ ?_ ?_
          rotate_left 2
          · intro w' hk; go_simp; try rfl
          · simp only [Act.put, List.setIfInBounds_toArray, List.set_cons_succ, List.set_cons_zero]; try rfl
          refine flowt_take 12 (v := ?_) (a' := ?_) hps rfl (by kernel_rfl) rfl ?_ ?_ ?_
          rotate_left 2
          · intro w' hk; go_simp; try rfl
          · simp only [Act.put, List.setIfInBounds_toArray, List.set_cons_succ, List.set_cons_zero]; try rfl
          refine flowt_take 13 (v := ?_) (a' := ?_) hps rfl (by kernel_rfl) rfl ?_ ?_ ?_
          rotate_left 2
          · intro w' hk; go_simp; try rfl
          · simp only [Act.put, List.setIfInBounds_toArray, List.set_cons_succ, List.set_cons_zero]; try rfl
          refine flowt_read 14 (v := ?_) (a' := ?_) hps rfl (by kernel_rfl) rfl ?_ ?_ ?_
          rotate_left 2
          · intro w' hk; have c1 := hk.2.1; go_simp; try rfl
          · simp only [Act.put, List.setIfInBounds_toArray, List.set_cons_succ, List.set_cons_zero]; try rfl
          refine flowt_take 15 (v := ?_) (a' := ?_) hps rfl (by kernel_rfl) rfl ?_ ?_ ?_
          rotate_left 2
          · intro w' hk; go_simp; try rfl
          · simp only [Act.put, List.setIfInBounds_toArray, List.set_cons_succ, List.set_cons_zero]; try rfl
          refine flowt_take 16 (v := ?_) (a' := ?_) hps rfl (by kernel_rfl) rfl ?_ ?_ ?_
          rotate_left 2
          · intro w' hk; go_simp; try rfl
          · simp only [Act.put, List.setIfInBounds_toArray, List.set_cons_succ, List.set_cons_zero]; try rfl
          refine flowt_take 17 (v := ?_) (a' := ?_) hps rfl (by kernel_rfl) rfl ?_ ?_ ?_
          rotate_left 2
          · intro w' hk; go_simp; try rfl
          · simp only [Act.put, List.setIfInBounds_toArray, List.set_cons_succ, List.set_cons_zero]; try rfl
          refine flowt_read 18 (v := ?_) (a' := ?_) hps rfl (by kernel_rfl) rfl ?_ ?_ ?_
          rotate_left 2
          · intro w' hk; have c1 := hk.1; go_simp; try rfl
          · simp only [Act.put, List.setIfInBounds_toArray, List.set_cons_succ, List.set_cons_zero]; try rfl
          refine flowt_take 19 (v := ?_) (a' := ?_) hps rfl (by kernel_rfl) rfl ?_ ?_ ?_
          rotate_left 2
          · intro w' hk; go_simp; try rfl
          · simp only [Act.put, List.setIfInBounds_toArray, List.set_cons_succ, List.set_cons_zero]; try rfl
          refine flowt_take 20 (v := ?_) (a' := ?_) hps rfl (by kernel_rfl) rfl ?_ ?_ ?_
          rotate_left 2
          · intro w' hk; go_simp; try rfl
          · simp only [Act.put, List.setIfInBounds_toArray, List.set_cons_succ, List.set_cons_zero]; try rfl
          refine flowt_take 21 (v := ?_) (a' := ?_) hps rfl (by kernel_rfl) rfl ?_ ?_ ?_
          rotate_left 2
          · intro w' hk; go_simp; try rfl
          · simp only [Act.put, List.setIfInBounds_toArray, List.set_cons_succ, List.set_cons_zero]; try rfl
          refine flowt_read 22 (v := ?_) (a' := ?_) hps rfl (by kernel_rfl) rfl ?_ ?_ ?_
          rotate_left 2
          · intro w' hk; have c1 := hk.2.2; go_simp; try rfl
          · simp only [Act.put, List.setIfInBounds_toArray, List.set_cons_succ, List.set_cons_zero]; try rfl
          refine flowt_take 23 (v := ?_) (a' := ?_) hps rfl (by kernel_rfl) rfl ?_ ?_ ?_
          rotate_left 2
          · intro w' hk; go_simp; try rfl
          · simp only [Act.put, List.setIfInBounds_toArray, List.set_cons_succ, List.set_cons_zero]; try rfl
          refine flowt_take 24 (v := ?_) (a' := ?_) hps rfl (by kernel_rfl) rfl ?_ ?_ ?_
          rotate_left 2
          · intro w' hk; go_simp; try rfl
          · simp only [Act.put, List.setIfInBounds_toArray, List.set_cons_succ, List.set_cons_zero]; try rfl
          refine flowt_take 25 (v := ?_) (a' := ?_) hps rfl (by kernel_rfl) rfl ?_ ?_ ?_
          rotate_left 2
          · intro w' hk; go_simp; try rfl
          · simp only [Act.put, List.setIfInBounds_toArray, List.set_cons_succ, List.set_cons_zero]; try rfl
          refine flowt_one 26 hps rfl (by kernel_rfl) rfl (wp_next (fun K hK => ?_))
          refine rm_setB_at TX.out HPK.out ⟨z.b.off, z.b.size + s5, false⟩ 1 (by decide) (.int .i64 ((z.b.size + s5 : Nat) : Int)) (by unfold blC; rw [HZU.out]; rfl) bb5 N5 cb5 rfl 3 _ _ rfl rfl rfl rfl (by kernel_rfl) ?_
          intro w8 h8
          replace TX := Lib.hid h8
          clear h8
          refine hK _ _ ⟨fun h => absurd (show true = false from h) (by decide), ?_⟩
          clear hK
          refine flowt_done hps (by kernel_rfl) ?_
          go_wp2_with fail
          have t8 := TX.out
          rw [HMP.out, List.map_append, show bsOf p ++ (⟨z.b.off, z.b.size + s5, false⟩ : Blk) :: ⟨o, s5, false⟩ :: bsOf r = (bsOf p ++ [⟨z.b.off, z.b.size + s5, false⟩]) ++ ⟨o, s5, false⟩ :: bsOf r from by simp] at t8
          have T8 := Lib.hid t8
          clear t8
          with_reducible refine (rm_drop (n := n) (C := p.map (·.d) ++ [z].map (·.d)) (d := none0) (E := (r).map (·.d)) T8.out (by have := HPN.out; simpa using this) (by have := HPN.out; unfold bsOf at this; simpa using this) (by unfold bsOf; rw [List.length_map, List.length_map]) (fun v hv => by
              simp only [List.mem_append, List.mem_map, List.mem_cons, List.not_mem_nil, or_false] at hv
              rcases hv with (⟨x, hx, rfl⟩ | ⟨x, rfl, rfl⟩) | rfl | ⟨x, hx, rfl⟩
              · exact (HNF.out x (by rw [HMP.out]; simp [hx])).1
              · exact (HNF.out x (by rw [HMP.out]; simp)).1
              · simp [Value.oneCell']
              · exact (HNF.out x (by first | exact hx.elim | exact List.mem_append_right _ hx | exact List.mem_append_right _ (List.mem_cons.2 hx) | exact List.mem_append_right _ (List.mem_cons_of_mem _ hx))).1) (by have h1 := HPK.out; have h2 : mp.length + (r).length ≤ 1000 := (by simp only [List.length_cons] at hcnt; omega); have h3 := HN.out; have h4 := HNK.out; have h5 := HPL.out; simp only [bsOf, List.length_append, List.length_cons, List.length_map, List.length_nil] at h1 h2 h3 ⊢; omega) (n : Int) rfl).mono ?_
          rintro e w9 ⟨rfl, vb9, vd9, t9⟩
          have T9 := Lib.hid (show St B w0 w9 (HpX q cap vb9 vd9 vl ss7 (bsOf p ++ ⟨z.b.off, z.b.size + s5, false⟩ :: bsOf r) (p.map (·.d) ++ z.d :: (r).map (·.d)) (outL (outL ls (clsN y.b.size) y.b.off) (clsN z.b.size) z.b.off) l) from by rw [List.append_assoc, List.append_assoc] at t9; exact t9)
          clear t9 TX T8
          go_wp2_with fail
          have kin := FIN.out p r z.b.off (z.b.size + s5) (outL (outL ls (clsN y.b.size) y.b.off) (clsN z.b.size) z.b.off) b9 _ _ _ _ z.d k T9.out HZD.out HS7.out HPL.out (by have h1 : mp.length + (r).length ≤ 1000 := (by simp only [List.length_cons] at hcnt; omega); have h2 := HN.out; have h3 := HNK.out; have h4 := HPL.out; omega) HH9.out (by unfold freeM; rw [HJ.out]; unfold joinP; rw [HMP.out, List.getLast?_concat]; simp only [HZU.out]; rw [List.dropLast_concat]; rfl)
          have KIN := Lib.hid kin
          clear kin
          go_wp2_with fail
          with_reducible refine KIN.out.mono ?_
          rintro e wZ ⟨rfl, hZ⟩
          have HZ := Lib.hid hZ
          clear hZ
          go_wp2_with fail
          go_end0
          exact ⟨rfl, HZ.out⟩
end
end Go.Proofs.Ytenbpbnffnodhaa
