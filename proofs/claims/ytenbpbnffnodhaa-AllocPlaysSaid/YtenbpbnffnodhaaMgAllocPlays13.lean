/- Texts of the proof of 'AllocPlays', part 13: words on memory, contracts of functions, plain laws. No condition. -/
import Derived.Test.YtenbpbnffnodhaaMgAllocPlays12
/- The reference's heap: a block is given back. -/
namespace Go.Proofs.Ytenbpbnffnodhaa
open Go Go.RowKit Go.Own
set_option linter.unusedVariables false
set_option maxRecDepth 100000
section
variable {B : Nat} {w0 w : World} {l : List Ob} {q : Nat} {cap : Int} {vb vd vl : Value} {ss : List Sv} {b : List UInt8}
def HpR (B : Nat) (w0 : World) (q : Nat) (cap : Int) (vl : Value) (r : List Bd × Ls) (l : List Ob) (w' : World) : Prop :=
  ∃ vb vd ss, ss.length = 22 ∧ St B w0 w' (HpX q cap vb vd vl ss (bsOf r.1) (r.1.map (·.d)) r.2 l)
/-- A block that is free holds nothing. -/
def NilFree (m : List Bd) : Prop := ∀ x ∈ m, x.d.oneCell' = true ∧ (x.b.used = false → x.d = none0)
set_option maxHeartbeats 8000000 in
theorem rh_give {mp mr : List Bd} {o s : Nat} {u : Bool} {dx : Value} {ls : Ls} (h : St B w0 w (HpX q cap vb vd vl ss (bsOf mp ++ ⟨o, s, u⟩ :: bsOf mr) (mp.map (·.d) ++ dx :: mr.map (·.d)) ls l)) (hs : ss.length = 22)
    (hh : Hole b (bsOf mp) o s (bsOf mr) ls) (hnf : NilFree (mp ++ mr)) (hcnt : mp.length + mr.length ≤ 1000) (I : Int) (hI : I = mp.length) :
    Calls Try.prog 231 #[hpP q, .int .i64 I] w fun e w' => e = .returned (.tuple #[]) ∧ HpR B w0 q cap vl (freeM mp o s mr ls) l w' := by
  subst hI
  obtain ⟨n, hn⟩ : ∃ n, n = mp.length := ⟨_, rfl⟩
  have hbm : (bsOf mp).length = n := by rw [hn]; exact List.length_map ..
  have hdm : (mp.map (·.d)).length = n := by rw [hn]; exact List.length_map ..
  rw [← hn]
  have fin : ∀ (p2 r2 : List Bd) (o2 s2 : Nat) (ls2 : Ls) (b2 : List UInt8) (vb2 vd2 : Value) (ss2 : List Sv) (w2 : World) (d2 : Value) (k : Nat), St B w0 w2 (HpX q cap vb2 vd2 vl ss2 (bsOf p2 ++ ⟨o2, s2, false⟩ :: bsOf r2) (p2.map (·.d) ++ d2 :: r2.map (·.d)) ls2 l) → d2 = none0 → ss2.length = 22 → p2.length = k → p2.length + r2.length ≤ 1000 → Hole b2 (bsOf p2) o2 s2 (bsOf r2) ls2 →
      freeM mp o s mr ls = (p2 ++ ⟨⟨o2, s2, false⟩, none0⟩ :: r2, inL ls2 (clsN s2) o2) →
      Calls Try.prog 229 #[hpP q, .int .i64 (k : Nat)] w2 fun e w' => e = .returned (.tuple #[]) ∧ HpR B w0 q cap vl (freeM mp o s mr ls) l w' := by
    intro p2 r2 o2 s2 ls2 b2 vb2 vd2 ss2 w2 d2 k h2 hd2 hs2 hk hc2 hh2 hf
    subst hd2
    have hll := hh2.lists.short hh2.good hh2.max (clsN_of hh2.sized).1
    refine (rm_in h2 hs2 (n := k) (by rw [← hk]; exact List.length_map ..) hh2.sized (by show (ls2 (clsN s2)).length ≤ 2000; omega) (by rw [List.length_append, List.length_cons]; unfold bsOf; rw [List.length_map, List.length_map]; omega) _ rfl).mono ?_
    rintro e w3 ⟨rfl, ss3, hs3, t3⟩
    refine ⟨rfl, vb2, vd2, ss3, hs3, ?_⟩
    rw [hf]
    show St B w0 w3 (HpX q cap vb2 vd2 vl ss3 (bsOf (p2 ++ ⟨⟨o2, s2, false⟩, none0⟩ :: r2)) ((p2 ++ ⟨⟨o2, s2, false⟩, none0⟩ :: r2).map (·.d)) (inL ls2 (clsN s2) o2) l)
    rw [bsOf_append, bsOf_cons, List.map_append, List.map_cons]
    exact t3
  have FIN := Lib.hid fin
  clear fin
  obtain ⟨bb, cb, bd, cd, rfl, rfl⟩ := rm_some h
  obtain ⟨N, hN⟩ : ∃ N, N = (bsOf mp ++ ⟨o, s, u⟩ :: bsOf mr).length := ⟨_, rfl⟩
  obtain ⟨M, hM⟩ : ∃ M, M = (mp.map (·.d) ++ dx :: mr.map (·.d)).length := ⟨_, rfl⟩
  rw [← hN, ← hM] at h
  have hN2 : N = n + 1 + mr.length := by rw [hN, List.length_append, List.length_cons, hbm]; unfold bsOf; rw [List.length_map]; omega
  have hM2 : M = n + 1 + mr.length := by rw [hM, List.length_append, List.length_cons, hdm, List.length_map]; omega
  have lt1 : n < N := by omega
  have lt2 : n < M := by omega
  have c1 := (hp_cells h).2.1
  have T0 := Lib.hid h; have HH := Lib.hid hh; have HS := Lib.hid hs; have HNF := Lib.hid (show ∀ x ∈ mp ++ mr, x.d.oneCell' = true ∧ (x.b.used = false → x.d = none0) from hnf); have HBM := Lib.hid hbm; have HDM := Lib.hid hdm; have HN := Lib.hid hn; have HN2 := Lib.hid hN2
  clear h hh hs hnf hbm hdm hn hN hM hN2 hM2
  have e1 : IntKind.i64.wrap ((n : Int) + 1) = (n : Int) + 1 := IntWalk.i64_in _ (by have := HN.out; omega)
  rcases List.eq_nil_or_concat mp with hmp | ⟨p, z, hmp⟩
  · have hn0 : n = 0 := by have := HN.out; rw [hmp] at this; simpa using this
    have d2 : decide ((0 : Int) < (n : Int)) = false := decide_eq_false (by omega)
    have d3 : decide (0 < n) = false := decide_eq_false (by omega)
    have HMP := Lib.hid hmp
    clear hmp hn0
    cases mr with
    | nil =>
      have d1 : decide ((n : Int) + 1 < (N : Int)) = false := decide_eq_false (by have := HN2.out; simp only [List.length_nil] at this; omega)
      have HJ := Lib.hid (show joinN [] s ls = ([], s, ls) from rfl)
      go_enter Try.func231, Try.ntmps231
      go_wp2_with (first
        | (refine rm_setB T0.out HBM.out ⟨o, s, false⟩ 2 (by decide) (.bool false) rfl bb N cb rfl rfl 4 _ _ rfl rfl rfl rfl (by kernel_rfl) ?_; intro w1 h1; have T1 := Lib.hid h1; clear h1 T0; have c1 := (hp_cells T1.out).2.1; have c2 := (hp_cells T1.out).2.2.1)
        | (refine rm_setD T1.out HDM.out none0 bd M cd rfl rfl 31 _ _ rfl rfl rfl rfl (by kernel_rfl) ?_; intro w2 h2; have T2 := Lib.hid h2; clear h2 T1 c2; have c1 := (hp_cells T2.out).2.1; skip; go_wp2_with fail))
      have kin := FIN.out mp ([] : List Bd) o s ls b _ _ _ _ none0 n T2.out rfl HS.out HN.out.symm hcnt HH.out (by unfold freeM; rw [HJ.out]; unfold joinP; rw [HMP.out]; rfl)
      have KIN := Lib.hid kin
      clear kin
      go_wp2_with fail
      with_reducible refine KIN.out.mono ?_
      rintro e wZ ⟨rfl, hZ⟩
      have HZ := Lib.hid hZ
      clear hZ
      go_wp2_with fail
      go_end0
      exact ⟨rfl, HZ.out⟩
    | cons y r =>
      have d1 : decide ((n : Int) + 1 < (N : Int)) = true := decide_eq_true (by have := HN2.out; simp only [List.length_cons] at this; omega)
      have lt3 : n + 1 < N := by have := HN2.out; simp only [List.length_cons] at this; omega
      have lt4 : 0 ≤ (n : Int) + 1 ∧ (n : Int) + 1 < (N : Int) := by omega
      have hp1 : ∀ s', (bsOf mp ++ [(⟨o, s', false⟩ : Blk)]).length = n + 1 := fun s' => by rw [List.length_append, HBM.out]; rfl
      have HP1 := Lib.hid hp1
      have cy : ∀ w' vb vd ss D ls s', St B w0 w' (HpX q cap vb vd vl ss (bsOf mp ++ ⟨o, s', false⟩ :: bsOf (y :: r)) D ls l) → St B w0 w' (HpX q cap vb vd vl ss ((bsOf mp ++ [⟨o, s', false⟩]) ++ y.b :: bsOf r) D ls l) := fun w' vb vd ss D ls s' h => by rw [bsOf_cons] at h; rw [List.append_assoc]; exact h
      have CY := Lib.hid cy
      clear hp1 cy
      cases hu : y.b.used with
      | true =>
        have HU := Lib.hid hu
        have HJ := Lib.hid (show joinN (y :: r) s ls = (y :: r, s, ls) from by unfold joinN; simp only [hu]; rfl)
        clear hu
        go_enter Try.func231, Try.ntmps231
        go_wp2_with (first
          | (refine rm_setB T0.out HBM.out ⟨o, s, false⟩ 2 (by decide) (.bool false) rfl bb N cb rfl rfl 4 _ _ rfl rfl rfl rfl (by kernel_rfl) ?_; intro w1 h1; have T1 := Lib.hid h1; clear h1 T0; have c1 := (hp_cells T1.out).2.1; have c2 := (hp_cells T1.out).2.2.1)
          | (refine rm_setD T1.out HDM.out none0 bd M cd rfl rfl 31 _ _ rfl rfl rfl rfl (by kernel_rfl) ?_; intro w2 h2; have T2 := Lib.hid h2; clear h2 T1 c2; have c1 := (hp_cells T2.out).2.1; have b2 := (rm_blk (CY.out _ _ _ _ _ _ _ T2.out) (HP1.out s)).2.2; rw [HU.out] at b2; skip; go_wp2_with fail))
        have kin := FIN.out mp (y :: r) o s ls b _ _ _ _ none0 n T2.out rfl HS.out HN.out.symm hcnt HH.out (by unfold freeM; rw [HJ.out]; unfold joinP; rw [HMP.out]; rfl)
        have KIN := Lib.hid kin
        clear kin
        go_wp2_with fail
        with_reducible refine KIN.out.mono ?_
        rintro e wZ ⟨rfl, hZ⟩
        have HZ := Lib.hid hZ
        clear hZ
        go_wp2_with fail
        go_end0
        exact ⟨rfl, HZ.out⟩
      | false =>
        have HU := Lib.hid hu
        have HJ := Lib.hid (show joinN (y :: r) s ls = (r, s + y.b.size, outL ls (clsN y.b.size) y.b.off) from by unfold joinN; simp only [hu]; rfl)
        obtain ⟨b1, _, _, _, _, hh1⟩ := HH.out.next hu
        have hys := HH.out.side (List.mem_append_right _ (List.mem_cons_self ..) : y.b ∈ bsOf mp ++ bsOf (y :: r))
        have hyz := blkAt_isSize hys.2.1
        have hyb := (isSize_iff _).1 hyz
        have hob := HH.out.at
        have hmx := HH.out.max
        have hll := HH.out.lists.short HH.out.good HH.out.max (clsN_of hyz).1
        have u2 : IntKind.i64.wrap ((s : Int) + (y.b.size : Int)) = ((s + y.b.size : Nat) : Int) := by rw [IntWalk.i64_in _ (by omega)]; omega
        obtain ⟨s5, h5⟩ : ∃ v, s + y.b.size = v := ⟨_, rfl⟩
        have hj5 := HJ.out
        rw [h5] at hh1 u2 hj5
        clear HJ
        have HJ := Lib.hid hj5
        have HH1 := Lib.hid hh1; have HYZ := Lib.hid hyz; have HLL := Lib.hid hll
        clear hu hys hyz hyb hob hll hh1 h5 hj5
        go_enter Try.func231, Try.ntmps231
        go_wp2_with (first
          | (refine rm_setB T0.out HBM.out ⟨o, s, false⟩ 2 (by decide) (.bool false) rfl bb N cb rfl rfl 4 _ _ rfl rfl rfl rfl (by kernel_rfl) ?_; intro w1 h1; have T1 := Lib.hid h1; clear h1 T0; have c1 := (hp_cells T1.out).2.1; have c2 := (hp_cells T1.out).2.2.1)
          | (refine rm_setD T1.out HDM.out none0 bd M cd rfl rfl 31 _ _ rfl rfl rfl rfl (by kernel_rfl) ?_; intro w2 h2; have T2 := Lib.hid h2; clear h2 T1 c2; have c1 := (hp_cells T2.out).2.1; have b2 := (rm_blk (CY.out _ _ _ _ _ _ _ T2.out) (HP1.out s)).2.2; rw [HU.out] at b2; go_wp2_with fail))
        with_reducible refine (rm_out (CY.out _ _ _ _ _ _ _ T2.out) HS.out (HP1.out s) HYZ.out (by have := HLL.out; omega) (by have := HN2.out; have := HBM.out; simp only [List.length_append, List.length_cons, List.length_nil] at *; unfold bsOf; simp only [List.length_map]; omega) ((n : Int) + 1) (by omega)).mono ?_
        rintro e w3 ⟨rfl, ss3, hs3, t3⟩
        have TX := Lib.hid (show St B w0 w3 (HpX q cap (.slice (some ⟨bb, 0, none⟩) N cb) (.slice (some ⟨bd, 0, none⟩) M cd) vl ss3 (bsOf mp ++ ⟨o, s, false⟩ :: bsOf (y :: r)) (mp.map (·.d) ++ none0 :: (y :: r).map (·.d)) (outL ls (clsN y.b.size) y.b.off) l) from by rw [List.append_assoc] at t3; exact t3)
        have HS3 := Lib.hid hs3
        clear t3 hs3 T2 c1 b2
        replace TX := Lib.hid TX.out.drew
        go_wp2_with fail
        refine flowt_begin 25 (S := fun w' => w'.cell? ⟨q, 1, none⟩ = some (.slice (some ⟨bb, 0, none⟩) N cb) ∧ w'.cell? ⟨bb, n * 3 + 1, none⟩ = some (.int .i64 s) ∧ w'.cell? ⟨bb, (n + 1) * 3 + 1, none⟩ = some (.int .i64 y.b.size)) hmixed 26 rfl (by repeat (first | with_reducible refine ps_then ?_ | with_reducible refine ps_block ?_ | with_reducible exact ps_body | refine ps_then ?_ | refine ps_block ?_ | exact ps_body)) ⟨(hp_cells TX.out).2.1, (rm_blk TX.out HBM.out).2.1, (rm_blk (CY.out _ _ _ _ _ _ _ TX.out) (HP1.out s)).2.1⟩ (fun hps => ?_)
        simp only [List.replicate]
        generalize w3.drew = wx at TX ⊢
        refine flowt_take 0 (v := ?_) (a' := ?_) hps rfl (by kernel_rfl) rfl ?_ ?_ ?_
        rotate_left 2
        · intro w' hk; go_simp; try rfl
        · simp only [Act.put, List.setIfInBounds_toArray, List.set_cons_succ, List.set_cons_zero]; try rfl
        refine flowt_take 1 (v := ?_) (a' := ?_) hps rfl (by kernel_rfl) rfl ?_ ?_ ?_
        rotate_left 2
        · intro w' hk; go_simp; try rfl
        · simp only [Act.put, List.setIfInBounds_toArray, List.set_cons_succ, List.set_cons_zero]; try rfl
        refine flowt_take 2 (v := ?_) (a' := ?_) hps rfl (by kernel_rfl) rfl ?_ ?_ ?_
        rotate_left 2
        · intro w' hk; go_simp; try rfl
        · simp only [Act.put, List.setIfInBounds_toArray, List.set_cons_succ, List.set_cons_zero]; try rfl
        refine flowt_read 3 (v := ?_) (a' := ?_) hps rfl (by kernel_rfl) rfl ?_ ?_ ?_
        rotate_left 2
        · intro w' hk; have c1 := hk.1; go_simp; try rfl
        · simp only [Act.put, List.setIfInBounds_toArray, List.set_cons_succ, List.set_cons_zero]; try rfl
        refine flowt_take 4 (v := ?_) (a' := ?_) hps rfl (by kernel_rfl) rfl ?_ ?_ ?_
        rotate_left 2
        · intro w' hk; go_simp; try rfl
        · simp only [Act.put, List.setIfInBounds_toArray, List.set_cons_succ, List.set_cons_zero]; try rfl
        refine flowt_take 5 (v := ?_) (a' := ?_) hps rfl (by kernel_rfl) rfl ?_ ?_ ?_
        rotate_left 2
        · intro w' hk; go_simp; try rfl
        · simp only [Act.put, List.setIfInBounds_toArray, List.set_cons_succ, List.set_cons_zero]; try rfl
        refine flowt_take 6 (v := ?_) (a' := ?_) hps rfl (by kernel_rfl) rfl ?_ ?_ ?_
        rotate_left 2
        · intro w' hk; go_simp; try rfl
        · simp only [Act.put, List.setIfInBounds_toArray, List.set_cons_succ, List.set_cons_zero]; try rfl
        refine flowt_take 7 (v := ?_) (a' := ?_) hps rfl (by kernel_rfl) rfl ?_ ?_ ?_
        rotate_left 2
        · intro w' hk; go_simp; try rfl
        · simp only [Act.put, List.setIfInBounds_toArray, List.set_cons_succ, List.set_cons_zero]; try rfl
        refine flowt_read 8 (v := ?_) (a' := ?_) hps rfl (by kernel_rfl) rfl ?_ ?_ ?_
        rotate_left 2
        · intro w' hk; have c1 := hk.1; go_simp; try rfl
        · simp only [Act.put, List.setIfInBounds_toArray, List.set_cons_succ, List.set_cons_zero]; try rfl
        refine flowt_take 9 (v := ?_) (a' := ?_) hps rfl (by kernel_rfl) rfl ?_ ?_ ?_
        rotate_left 2
        · intro w' hk; go_simp; try rfl
        · simp only [Act.put, List.setIfInBounds_toArray, List.set_cons_succ, List.set_cons_zero]; try rfl
        refine flowt_take 10 (v := ?_) (a' := ?_) hps rfl (by kernel_rfl) rfl ?_ ?_ ?_
        rotate_left 2
        · intro w' hk; go_simp; try rfl
        · simp only [Act.put, List.setIfInBounds_toArray, List.set_cons_succ, List.set_cons_zero]; try rfl
        refine flowt_take 11 (v := ?_) (a' := ?_) hps rfl (by kernel_rfl) rfl ?_ ?_ ?_
        rotate_left 2
        · intro w' hk; go_simp; try rfl
        · simp only [Act.put, List.setIfInBounds_toArray, List.set_cons_succ, List.set_cons_zero]; try rfl
        refine flowt_read 12 (v := ?_) (a' := ?_) hps rfl (by kernel_rfl) rfl ?_ ?_ ?_
        rotate_left 2
        · intro w' hk; have c1 := hk.2.1; go_simp; try rfl
        · simp only [Act.put, List.setIfInBounds_toArray, List.set_cons_succ, List.set_cons_zero]; try rfl
        refine flowt_take 13 (v := ?_) (a' := ?_) hps rfl (by kernel_rfl) rfl ?_ ?_ ?_
        rotate_left 2
        · intro w' hk; go_simp; try rfl
        · simp only [Act.put, List.setIfInBounds_toArray, List.set_cons_succ, List.set_cons_zero]; try rfl
        refine flowt_take 14 (v := ?_) (a' := ?_) hps rfl (by kernel_rfl) rfl ?_ ?_ ?_
        rotate_left 2
        · intro w' hk; go_simp; try rfl
        · simp only [Act.put, List.setIfInBounds_toArray, List.set_cons_succ, List.set_cons_zero]; try rfl
        refine flowt_take 15 (v := ?_) (a' := ?_) hps rfl (by kernel_rfl) rfl ?_ ?_ ?_
        rotate_left 2
        · intro w' hk; go_simp; try rfl
        · simp only [Act.put, List.setIfInBounds_toArray, List.set_cons_succ, List.set_cons_zero]; try rfl
        refine flowt_read 16 (v := ?_) (a' := ?_) hps rfl (by kernel_rfl) rfl ?_ ?_ ?_
        rotate_left 2
        · intro w' hk; have c1 := hk.1; go_simp; try rfl
        · simp only [Act.put, List.setIfInBounds_toArray, List.set_cons_succ, List.set_cons_zero]; try rfl
        refine flowt_take 17 (v := ?_) (a' := ?_) hps rfl (by kernel_rfl) rfl ?_ ?_ ?_
        rotate_left 2
        · intro w' hk; go_simp; try rfl
        · simp only [Act.put, List.setIfInBounds_toArray, List.set_cons_succ, List.set_cons_zero]; try rfl
        refine flowt_take 18 (v := ?_) (a' := ?_) hps rfl (by kernel_rfl) rfl ?_ ?_ ?_
        rotate_left 2
        · intro w' hk; go_simp; try rfl
        · simp only [Act.put, List.setIfInBounds_toArray, List.set_cons_succ, List.set_cons_zero]; try rfl
        refine flowt_take 19 (v := ?_) (a' := ?_) hps rfl (by kernel_rfl) rfl ?_ ?_ ?_
        rotate_left 2
        · intro w' hk; go_simp; try rfl
        · simp only [Act.put, List.setIfInBounds_toArray, List.set_cons_succ, List.set_cons_zero]; try rfl
        refine flowt_take 20 (v := ?_) (a' := ?_) hps rfl (by kernel_rfl) rfl ?_ ?_ ?_
        rotate_left 2
        · intro w' hk; go_simp; try rfl
        · simp only [Act.put, List.setIfInBounds_toArray, List.set_cons_succ, List.set_cons_zero]; try rfl
        refine flowt_read 21 (v := ?_) (a' := ?_) hps rfl (by kernel_rfl) rfl ?_ ?_ ?_
        rotate_left 2
        · intro w' hk; have c1 := hk.2.2; go_simp; try rfl
        · simp only [Act.put, List.setIfInBounds_toArray, List.set_cons_succ, List.set_cons_zero]; try rfl
        refine flowt_take 22 (v := ?_) (a' := ?_) hps rfl (by kernel_rfl) rfl ?_ ?_ ?_
        rotate_left 2
        · intro w' hk; go_simp; try rfl
        · simp only [Act.put, List.setIfInBounds_toArray, List.set_cons_succ, List.set_cons_zero]; try rfl
        refine flowt_take 23 (v := ?_) (a' := ?_) hps rfl (by kernel_rfl) rfl ?_ ?_ ?_
        rotate_left 2
        · intro w' hk; go_simp; try rfl
        · simp only [Act.put, List.setIfInBounds_toArray, List.set_cons_succ, List.set_cons_zero]; try rfl
        refine flowt_take 24 (v := ?_) (a' := ?_) hps rfl (by kernel_rfl) rfl ?_ ?_ ?_
        rotate_left 2
        · intro w' hk; go_simp; try rfl
        · simp only [Act.put, List.setIfInBounds_toArray, List.set_cons_succ, List.set_cons_zero]; try rfl
        refine flowt_one 25 hps rfl (by kernel_rfl) rfl (wp_next (fun K hK => ?_))
        refine rm_setB_at TX.out HBM.out ⟨o, s5, false⟩ 1 (by decide) (.int .i64 (s5 : Int)) rfl bb N cb rfl 3 _ _ rfl rfl rfl rfl (by kernel_rfl) ?_
        intro w4 h4
        replace TX := Lib.hid h4
        clear h4
        refine hK _ _ ⟨fun h => absurd (show true = false from h) (by decide), ?_⟩
        clear hK
        refine flowt_done hps (by kernel_rfl) ?_
        go_wp2_with fail
        have t6 := CY.out _ _ _ _ _ _ _ TX.out
        rw [show mp.map (·.d) ++ none0 :: (y :: r).map (·.d) = (mp.map (·.d) ++ [none0]) ++ y.d :: r.map (·.d) from by simp] at t6
        have T6 := Lib.hid t6
        clear t6
        with_reducible refine (rm_drop T6.out (HP1.out _) (by rw [List.length_append, HDM.out, List.length_singleton]) (by unfold bsOf; rw [List.length_map, List.length_map]) (fun v hv => by
          simp only [List.mem_append, List.mem_map, List.mem_cons, List.not_mem_nil, or_false] at hv
          rcases hv with (⟨x, hx, rfl⟩ | rfl) | rfl | ⟨x, hx, rfl⟩
          · exact (HNF.out x (List.mem_append_left _ hx)).1
          · simp [Value.oneCell']
          · exact (HNF.out y (List.mem_append_right _ (List.mem_cons_self ..))).1
          · exact (HNF.out x (List.mem_append_right _ (List.mem_cons_of_mem _ hx))).1) (by have := HBM.out; simp only [List.length_append, List.length_cons, List.length_nil] at *; unfold bsOf; simp only [List.length_map]; omega) ((n : Int) + 1) (by omega)).mono ?_
        rintro e w5 ⟨rfl, vb5, vd5, t5⟩
        replace t5 : St B w0 w5 (HpX q cap vb5 vd5 vl ss3 (bsOf mp ++ ⟨o, s5, false⟩ :: bsOf r) (mp.map (·.d) ++ none0 :: r.map (·.d)) (outL ls (clsN y.b.size) y.b.off) l) := by rw [List.append_assoc, List.append_assoc] at t5; exact t5
        clear TX T6
        obtain ⟨bb5, cb5, bd5, cd5, rfl, rfl⟩ := rm_some t5
        obtain ⟨N5, hN5⟩ : ∃ N5, N5 = (bsOf mp ++ ⟨o, s5, false⟩ :: bsOf r).length := ⟨_, rfl⟩
        obtain ⟨M5, hM5⟩ : ∃ M5, M5 = (mp.map (·.d) ++ none0 :: r.map (·.d)).length := ⟨_, rfl⟩
        rw [← hN5, ← hM5] at t5
        have lt5 : n < N5 := by rw [hN5, List.length_append, List.length_cons, HBM.out]; omega
        have c1 := (hp_cells t5).2.1
        have T5 := Lib.hid t5
        clear t5 hN5 hM5
        skip
        go_wp2_with fail
        have kin := FIN.out mp r o s5 (outL ls (clsN y.b.size) y.b.off) b1 _ _ _ _ none0 n T5.out rfl HS3.out HN.out.symm (by simp only [List.length_cons] at hcnt; omega) HH1.out (by unfold freeM; rw [HJ.out]; unfold joinP; rw [HMP.out]; rfl)
        have KIN := Lib.hid kin
        clear kin
        go_wp2_with fail
        with_reducible refine KIN.out.mono ?_
        rintro e wZ ⟨rfl, hZ⟩
        have HZ := Lib.hid hZ
        clear hZ
        go_wp2_with fail
        go_end0
        exact ⟨rfl, HZ.out⟩
  · rw [List.concat_eq_append] at hmp
    obtain ⟨k, hk⟩ : ∃ k, k = p.length := ⟨_, rfl⟩
    have hnk : n = k + 1 := by have := HN.out; rw [hmp, List.length_append] at this; rw [this, hk]; rfl
    have d2 : decide ((0 : Int) < (n : Int)) = true := decide_eq_true (by omega)
    have d3 : decide (0 < n) = true := decide_eq_true (by omega)
    have e2 : IntKind.i64.wrap ((n : Int) - 1) = (k : Int) := by have := HN.out; rw [IntWalk.i64_in _ (by omega)]; omega
    have lt7 : k < N := by omega
    have hpk : (bsOf p).length = k := by rw [hk]; exact List.length_map ..
    have hpn : (bsOf p ++ [z.b]).length = n := by rw [List.length_append, hpk, hnk]; rfl
    have pv : ∀ w' vb vd ss X D ls, St B w0 w' (HpX q cap vb vd vl ss (bsOf mp ++ X) D ls l) → St B w0 w' (HpX q cap vb vd vl ss (bsOf p ++ z.b :: X) D ls l) := fun w' vb vd ss X D ls h => by rw [hmp, bsOf_append, List.append_assoc] at h; exact h
    have hzm : z ∈ mp := by rw [hmp]; exact List.mem_append_right _ (List.mem_singleton.2 rfl)
    have hys := HH.out.side (List.mem_append_left _ (List.mem_map_of_mem hzm) : z.b ∈ bsOf mp ++ bsOf mr)
    have hyz := blkAt_isSize hys.2.1
    have hzd := (HNF.out z (List.mem_append_left _ hzm)).2
    have PV := Lib.hid pv; have HPK := Lib.hid hpk; have HPN := Lib.hid hpn; have HMP := Lib.hid hmp; have HZZ := Lib.hid hyz; have HPL := Lib.hid hk.symm
    have HNK := Lib.hid hnk
    clear pv hpk hpn hmp hk hzm hys hyz hnk
    cases hzu : z.b.used with
    | true =>
      have HZU := Lib.hid hzu
      clear hzu hzd
      cases mr with
      | nil =>
        have d1 : decide ((n : Int) + 1 < (N : Int)) = false := decide_eq_false (by have := HN2.out; simp only [List.length_nil] at this; omega)
        have HJ := Lib.hid (show joinN [] s ls = ([], s, ls) from rfl)
        go_enter Try.func231, Try.ntmps231
        go_wp2_with (first
          | (refine rm_setB T0.out HBM.out ⟨o, s, false⟩ 2 (by decide) (.bool false) rfl bb N cb rfl rfl 4 _ _ rfl rfl rfl rfl (by kernel_rfl) ?_; intro w1 h1; have T1 := Lib.hid h1; clear h1 T0; have c1 := (hp_cells T1.out).2.1; have c2 := (hp_cells T1.out).2.2.1)
          | (refine rm_setD T1.out HDM.out none0 bd M cd rfl rfl 31 _ _ rfl rfl rfl rfl (by kernel_rfl) ?_; intro w2 h2; have T2 := Lib.hid h2; clear h2 T1 c2; have c1 := (hp_cells T2.out).2.1; have b7 := (rm_blk (PV.out _ _ _ _ _ _ _ T2.out) HPK.out).2.2; rw [HZU.out] at b7; go_wp2_with fail))
        have kin := FIN.out mp ([] : List Bd) o s ls b _ _ _ _ none0 n T2.out rfl HS.out HN.out.symm hcnt HH.out (by unfold freeM; rw [HJ.out]; unfold joinP; rw [HMP.out, List.getLast?_concat]; simp only [HZU.out]; rfl)
        have KIN := Lib.hid kin
        clear kin
        go_wp2_with fail
        with_reducible refine KIN.out.mono ?_
        rintro e wZ ⟨rfl, hZ⟩
        have HZ := Lib.hid hZ
        clear hZ
        go_wp2_with fail
        go_end0
        exact ⟨rfl, HZ.out⟩
      | cons y r =>
        have d1 : decide ((n : Int) + 1 < (N : Int)) = true := decide_eq_true (by have := HN2.out; simp only [List.length_cons] at this; omega)
        have lt3 : n + 1 < N := by have := HN2.out; simp only [List.length_cons] at this; omega
        have lt4 : 0 ≤ (n : Int) + 1 ∧ (n : Int) + 1 < (N : Int) := by omega
        have hp1 : ∀ s', (bsOf mp ++ [(⟨o, s', false⟩ : Blk)]).length = n + 1 := fun s' => by rw [List.length_append, HBM.out]; rfl
        have HP1 := Lib.hid hp1
        have cy : ∀ w' vb vd ss D ls s', St B w0 w' (HpX q cap vb vd vl ss (bsOf mp ++ ⟨o, s', false⟩ :: bsOf (y :: r)) D ls l) → St B w0 w' (HpX q cap vb vd vl ss ((bsOf mp ++ [⟨o, s', false⟩]) ++ y.b :: bsOf r) D ls l) := fun w' vb vd ss D ls s' h => by rw [bsOf_cons] at h; rw [List.append_assoc]; exact h
        have CY := Lib.hid cy
        clear hp1 cy
        cases hu : y.b.used with
        | true =>
          have HU := Lib.hid hu
          have HJ := Lib.hid (show joinN (y :: r) s ls = (y :: r, s, ls) from by unfold joinN; simp only [hu]; rfl)
          clear hu
          go_enter Try.func231, Try.ntmps231
          go_wp2_with (first
            | (refine rm_setB T0.out HBM.out ⟨o, s, false⟩ 2 (by decide) (.bool false) rfl bb N cb rfl rfl 4 _ _ rfl rfl rfl rfl (by kernel_rfl) ?_; intro w1 h1; have T1 := Lib.hid h1; clear h1 T0; have c1 := (hp_cells T1.out).2.1; have c2 := (hp_cells T1.out).2.2.1)
            | (refine rm_setD T1.out HDM.out none0 bd M cd rfl rfl 31 _ _ rfl rfl rfl rfl (by kernel_rfl) ?_; intro w2 h2; have T2 := Lib.hid h2; clear h2 T1 c2; have c1 := (hp_cells T2.out).2.1; have b2 := (rm_blk (CY.out _ _ _ _ _ _ _ T2.out) (HP1.out s)).2.2; rw [HU.out] at b2; have b7 := (rm_blk (PV.out _ _ _ _ _ _ _ T2.out) HPK.out).2.2; rw [HZU.out] at b7; go_wp2_with fail))
          have kin := FIN.out mp (y :: r) o s ls b _ _ _ _ none0 n T2.out rfl HS.out HN.out.symm hcnt HH.out (by unfold freeM; rw [HJ.out]; unfold joinP; rw [HMP.out, List.getLast?_concat]; simp only [HZU.out]; rfl)
          have KIN := Lib.hid kin
          clear kin
          go_wp2_with fail
          with_reducible refine KIN.out.mono ?_
          rintro e wZ ⟨rfl, hZ⟩
          have HZ := Lib.hid hZ
          clear hZ
          go_wp2_with fail
          go_end0
          exact ⟨rfl, HZ.out⟩
        | false =>
          have HU := Lib.hid hu
          have HJ := Lib.hid (show joinN (y :: r) s ls = (r, s + y.b.size, outL ls (clsN y.b.size) y.b.off) from by unfold joinN; simp only [hu]; rfl)
          obtain ⟨b1, _, _, _, _, hh1⟩ := HH.out.next hu
          have hys := HH.out.side (List.mem_append_right _ (List.mem_cons_self ..) : y.b ∈ bsOf mp ++ bsOf (y :: r))
          have hyz := blkAt_isSize hys.2.1
          have hyb := (isSize_iff _).1 hyz
          have hob := HH.out.at
          have hmx := HH.out.max
          have hll := HH.out.lists.short HH.out.good HH.out.max (clsN_of hyz).1
          have u2 : IntKind.i64.wrap ((s : Int) + (y.b.size : Int)) = ((s + y.b.size : Nat) : Int) := by rw [IntWalk.i64_in _ (by omega)]; omega
          obtain ⟨s5, h5⟩ : ∃ v, s + y.b.size = v := ⟨_, rfl⟩
          have hj5 := HJ.out
          rw [h5] at hh1 u2 hj5
          clear HJ
          have HJ := Lib.hid hj5
          have HH1 := Lib.hid hh1; have HYZ := Lib.hid hyz; have HLL := Lib.hid hll
          clear hu hys hyz hyb hob hll hh1 h5 hj5
          go_enter Try.func231, Try.ntmps231
          go_wp2_with (first
            | (refine rm_setB T0.out HBM.out ⟨o, s, false⟩ 2 (by decide) (.bool false) rfl bb N cb rfl rfl 4 _ _ rfl rfl rfl rfl (by kernel_rfl) ?_; intro w1 h1; have T1 := Lib.hid h1; clear h1 T0; have c1 := (hp_cells T1.out).2.1; have c2 := (hp_cells T1.out).2.2.1)
            | (refine rm_setD T1.out HDM.out none0 bd M cd rfl rfl 31 _ _ rfl rfl rfl rfl (by kernel_rfl) ?_; intro w2 h2; have T2 := Lib.hid h2; clear h2 T1 c2; have c1 := (hp_cells T2.out).2.1; have b2 := (rm_blk (CY.out _ _ _ _ _ _ _ T2.out) (HP1.out s)).2.2; rw [HU.out] at b2; go_wp2_with fail))
          with_reducible refine (rm_out (CY.out _ _ _ _ _ _ _ T2.out) HS.out (HP1.out s) HYZ.out (by have := HLL.out; omega) (by have := HN2.out; have := HBM.out; simp only [List.length_append, List.length_cons, List.length_nil] at *; unfold bsOf; simp only [List.length_map]; omega) ((n : Int) + 1) (by omega)).mono ?_
          rintro e w3 ⟨rfl, ss3, hs3, t3⟩
          have TX := Lib.hid (show St B w0 w3 (HpX q cap (.slice (some ⟨bb, 0, none⟩) N cb) (.slice (some ⟨bd, 0, none⟩) M cd) vl ss3 (bsOf mp ++ ⟨o, s, false⟩ :: bsOf (y :: r)) (mp.map (·.d) ++ none0 :: (y :: r).map (·.d)) (outL ls (clsN y.b.size) y.b.off) l) from by rw [List.append_assoc] at t3; exact t3)
          have HS3 := Lib.hid hs3
          clear t3 hs3 T2 c1 b2
          replace TX := Lib.hid TX.out.drew
          go_wp2_with fail
          refine flowt_begin 25 (S := fun w' => w'.cell? ⟨q, 1, none⟩ = some (.slice (some ⟨bb, 0, none⟩) N cb) ∧ w'.cell? ⟨bb, n * 3 + 1, none⟩ = some (.int .i64 s) ∧ w'.cell? ⟨bb, (n + 1) * 3 + 1, none⟩ = some (.int .i64 y.b.size)) hmixed 26 rfl (by repeat (first | with_reducible refine ps_then ?_ | with_reducible refine ps_block ?_ | with_reducible exact ps_body | refine ps_then ?_ | refine ps_block ?_ | exact ps_body)) ⟨(hp_cells TX.out).2.1, (rm_blk TX.out HBM.out).2.1, (rm_blk (CY.out _ _ _ _ _ _ _ TX.out) (HP1.out s)).2.1⟩ (fun hps => ?_)
          simp only [List.replicate]
          generalize w3.drew = wx at TX ⊢
          refine flowt_take 0 (v := ?_) (a' := ?_) hps rfl (by kernel_rfl) rfl ?_ ?_ ?_
          rotate_left 2
          · intro w' hk; go_simp; try rfl
          · simp only [Act.put, List.setIfInBounds_toArray, List.set_cons_succ, List.set_cons_zero]; try rfl
          refine flowt_take 1 (v := ?_) (a' := ?_) hps rfl (by kernel_rfl) rfl ?_ ?_ ?_
          rotate_left 2
          · intro w' hk; go_simp; try rfl
          · simp only [Act.put, List.setIfInBounds_toArray, List.set_cons_succ, List.set_cons_zero]; try rfl
          refine flowt_take 2 (v := ?_) (a' := ?_) hps rfl (by kernel_rfl) rfl ?_ ?_ ?_
          rotate_left 2
          · intro w' hk; go_simp; try rfl
          · simp only [Act.put, List.setIfInBounds_toArray, List.set_cons_succ, List.set_cons_zero]; try rfl
          refine flowt_read 3 (v := ?_) (a' := ?_) hps rfl (by kernel_rfl) rfl ?_ ?_ ?_
          rotate_left 2
          · intro w' hk; have c1 := hk.1; go_simp; try rfl
          · simp only [Act.put, List.setIfInBounds_toArray, List.set_cons_succ, List.set_cons_zero]; try rfl
          refine flowt_take 4 (v := ?_) (a' := ?_) hps rfl (by kernel_rfl) rfl ?_ ?_ ?_
          rotate_left 2
          · intro w' hk; go_simp; try rfl
          · simp only [Act.put, List.setIfInBounds_toArray, List.set_cons_succ, List.set_cons_zero]; try rfl
          refine flowt_take 5 (v := ?_) (a' := ?_) hps rfl (by kernel_rfl) rfl ?_ ?_ ?_
          rotate_left 2
          · intro w' hk; go_simp; try rfl
          · simp only [Act.put, List.setIfInBounds_toArray, List.set_cons_succ, List.set_cons_zero]; try rfl
          refine flowt_take 6 (v := ?_) (a' := ?_) hps rfl (by kernel_rfl) rfl ?_ ?_ ?_
          rotate_left 2
          · intro w' hk; go_simp; try rfl
          · simp only [Act.put, List.setIfInBounds_toArray, List.set_cons_succ, List.set_cons_zero]; try rfl
          refine flowt_take 7 (v := ?_) (a' := ?_) hps rfl (by kernel_rfl) rfl ?_ ?_ ?_
          rotate_left 2
          · intro w' hk; go_simp; try rfl
          · simp only [Act.put, List.setIfInBounds_toArray, List.set_cons_succ, List.set_cons_zero]; try rfl
          refine flowt_read 8 (v := ?_) (a' := ?_) hps rfl (by kernel_rfl) rfl ?_ ?_ ?_
          rotate_left 2
          · intro w' hk; have c1 := hk.1; go_simp; try rfl
          · simp only [Act.put, List.setIfInBounds_toArray, List.set_cons_succ, List.set_cons_zero]; try rfl
          refine flowt_take 9 (v := ?_) (a' := ?_) hps rfl (by kernel_rfl) rfl ?_ ?_ ?_
          rotate_left 2
          · intro w' hk; go_simp; try rfl
          · simp only [Act.put, List.setIfInBounds_toArray, List.set_cons_succ, List.set_cons_zero]; try rfl
          refine flowt_take 10 (v := ?_) (a' := ?_) hps rfl (by kernel_rfl) rfl ?_ ?_ ?_
          rotate_left 2
          · intro w' hk; go_simp; try rfl
          · simp only [Act.put, List.setIfInBounds_toArray, List.set_cons_succ, List.set_cons_zero]; try rfl
          refine flowt_take 11 (v := ?_) (a' := ?_) hps rfl (by kernel_rfl) rfl ?_ ?_ ?_
          rotate_left 2
          · intro w' hk; go_simp; try rfl
          · simp only [Act.put, List.setIfInBounds_toArray, List.set_cons_succ, List.set_cons_zero]; try rfl
          refine flowt_read 12 (v := ?_) (a' := ?_) hps rfl (by kernel_rfl) rfl ?_ ?_ ?_
          rotate_left 2
          · intro w' hk; have c1 := hk.2.1; go_simp; try rfl
          · simp only [Act.put, List.setIfInBounds_toArray, List.set_cons_succ, List.set_cons_zero]; try rfl
          refine flowt_take 13 (v := ?_) (a' := ?_) hps rfl (by kernel_rfl) rfl ?_ ?_ ?_
          rotate_left 2
          · intro w' hk; go_simp; try rfl
          · simp only [Act.put, List.setIfInBounds_toArray, List.set_cons_succ, List.set_cons_zero]; try rfl
          refine flowt_take 14 (v := ?_) (a' := ?_) hps rfl (by kernel_rfl) rfl ?_ ?_ ?_
          rotate_left 2
          · intro w' hk; go_simp; try rfl
          · simp only [Act.put, List.setIfInBounds_toArray, List.set_cons_succ, List.set_cons_zero]; try rfl
          refine flowt_take 15 (v := ?_) (a' := ?_) hps rfl (by kernel_rfl) rfl ?_ ?_ ?_
          rotate_left 2
          · intro w' hk; go_simp; try rfl
          · simp only [Act.put, List.setIfInBounds_toArray, List.set_cons_succ, List.set_cons_zero]; try rfl
          refine flowt_read 16 (v := ?_) (a' := ?_) hps rfl (by kernel_rfl) rfl ?_ ?_ ?_
          rotate_left 2
          · intro w' hk; have c1 := hk.1; go_simp; try rfl
          · simp only [Act.put, List.setIfInBounds_toArray, List.set_cons_succ, List.set_cons_zero]; try rfl
          refine flowt_take 17 (v := ?_) (a' := ?_) hps rfl (by kernel_rfl) rfl ?_ ?_ ?_
          rotate_left 2
          · intro w' hk; go_simp; try rfl
          · simp only [Act.put, List.setIfInBounds_toArray, List.set_cons_succ, List.set_cons_zero]; try rfl
          refine flowt_take 18 (v := ?_) (a' := ?_) hps rfl (by kernel_rfl) rfl ?_ ?_ ?_
          rotate_left 2
          · intro w' hk; go_simp; try rfl
          · simp only [Act.put, List.setIfInBounds_toArray, List.set_cons_succ, List.set_cons_zero]; try rfl
          refine flowt_take 19 (v := ?_) (a' := ?_) hps rfl (by kernel_rfl) rfl ?_ ?_ ?_
          rotate_left 2
          · intro w' hk; go_simp; try rfl
          · simp only [Act.put, List.setIfInBounds_toArray, List.set_cons_succ, List.set_cons_zero]; try rfl
          refine flowt_take 20 (v := ?_) (a' := ?_) hps rfl (by kernel_rfl) rfl ?_ ?_ ?_
          rotate_left 2
          · intro w' hk; go_simp; try rfl
          · simp only [Act.put, List.setIfInBounds_toArray, List.set_cons_succ, List.set_cons_zero]; try rfl
          refine flowt_read 21 (v := ?_) (a' := ?_) hps rfl (by kernel_rfl) rfl ?_ ?_ ?_
          rotate_left 2
          · intro w' hk; have c1 := hk.2.2; go_simp; try rfl
          · simp only [Act.put, List.setIfInBounds_toArray, List.set_cons_succ, List.set_cons_zero]; try rfl
          refine flowt_take 22 (v := ?_) (a' := ?_) hps rfl (by kernel_rfl) rfl ?_ ?_ ?_
          rotate_left 2
          · intro w' hk; go_simp; try rfl
          · simp only [Act.put, List.setIfInBounds_toArray, List.set_cons_succ, List.set_cons_zero]; try rfl
          refine flowt_take 23 (v := ?_) (a' := ?_) hps rfl (by kernel_rfl) rfl ?_ ?_ ?_
          rotate_left 2
          · intro w' hk; go_simp; try rfl
          · simp only [Act.put, List.setIfInBounds_toArray, List.set_cons_succ, List.set_cons_zero]; try rfl
          refine flowt_take 24 (v := ?_) (a' := ?_) hps rfl (by kernel_rfl) rfl ?_ ?_ ?_
          rotate_left 2
          · intro w' hk; go_simp; try rfl
          · simp only [Act.put, List.setIfInBounds_toArray, List.set_cons_succ, List.set_cons_zero]; try rfl
          refine flowt_one 25 hps rfl (by kernel_rfl) rfl (wp_next (fun K hK => ?_))
          refine rm_setB_at TX.out HBM.out ⟨o, s5, false⟩ 1 (by decide) (.int .i64 (s5 : Int)) rfl bb N cb rfl 3 _ _ rfl rfl rfl rfl (by kernel_rfl) ?_
          intro w4 h4
          replace TX := Lib.hid h4
          clear h4
          refine hK _ _ ⟨fun h => absurd (show true = false from h) (by decide), ?_⟩
          clear hK
          refine flowt_done hps (by kernel_rfl) ?_
          go_wp2_with fail
          have t6 := CY.out _ _ _ _ _ _ _ TX.out
          rw [show mp.map (·.d) ++ none0 :: (y :: r).map (·.d) = (mp.map (·.d) ++ [none0]) ++ y.d :: r.map (·.d) from by simp] at t6
          have T6 := Lib.hid t6
          clear t6
          with_reducible refine (rm_drop T6.out (HP1.out _) (by rw [List.length_append, HDM.out, List.length_singleton]) (by unfold bsOf; rw [List.length_map, List.length_map]) (fun v hv => by
            simp only [List.mem_append, List.mem_map, List.mem_cons, List.not_mem_nil, or_false] at hv
            rcases hv with (⟨x, hx, rfl⟩ | rfl) | rfl | ⟨x, hx, rfl⟩
            · exact (HNF.out x (List.mem_append_left _ hx)).1
            · simp [Value.oneCell']
            · exact (HNF.out y (List.mem_append_right _ (List.mem_cons_self ..))).1
            · exact (HNF.out x (List.mem_append_right _ (List.mem_cons_of_mem _ hx))).1) (by have := HBM.out; simp only [List.length_append, List.length_cons, List.length_nil] at *; unfold bsOf; simp only [List.length_map]; omega) ((n : Int) + 1) (by omega)).mono ?_
          rintro e w5 ⟨rfl, vb5, vd5, t5⟩
          replace t5 : St B w0 w5 (HpX q cap vb5 vd5 vl ss3 (bsOf mp ++ ⟨o, s5, false⟩ :: bsOf r) (mp.map (·.d) ++ none0 :: r.map (·.d)) (outL ls (clsN y.b.size) y.b.off) l) := by rw [List.append_assoc, List.append_assoc] at t5; exact t5
          clear TX T6
          obtain ⟨bb5, cb5, bd5, cd5, rfl, rfl⟩ := rm_some t5
          obtain ⟨N5, hN5⟩ : ∃ N5, N5 = (bsOf mp ++ ⟨o, s5, false⟩ :: bsOf r).length := ⟨_, rfl⟩
          obtain ⟨M5, hM5⟩ : ∃ M5, M5 = (mp.map (·.d) ++ none0 :: r.map (·.d)).length := ⟨_, rfl⟩
          rw [← hN5, ← hM5] at t5
          have lt5 : n < N5 := by rw [hN5, List.length_append, List.length_cons, HBM.out]; omega
          have c1 := (hp_cells t5).2.1
          have T5 := Lib.hid t5
          clear t5 hN5 hM5
          have lt8 : k < N5 := (by have := HNK.out; omega); have b7 := (rm_blk (PV.out _ _ _ _ _ _ _ T5.out) HPK.out).2.2; rw [HZU.out] at b7
          go_wp2_with fail
          have kin := FIN.out mp r o s5 (outL ls (clsN y.b.size) y.b.off) b1 _ _ _ _ none0 n T5.out rfl HS3.out HN.out.symm (by simp only [List.length_cons] at hcnt; omega) HH1.out (by unfold freeM; rw [HJ.out]; unfold joinP; rw [HMP.out, List.getLast?_concat]; simp only [HZU.out]; rfl)
          have KIN := Lib.hid kin
          clear kin
          go_wp2_with fail
          with_reducible refine KIN.out.mono ?_
          rintro e wZ ⟨rfl, hZ⟩
          have HZ := Lib.hid hZ
          clear hZ
          go_wp2_with fail
          go_end0
          exact ⟨rfl, HZ.out⟩
    | false =>
      have HZU := Lib.hid hzu; have HZD := Lib.hid (hzd hzu)
      clear hzu hzd
      cases mr with
      | nil =>
        have d1 : decide ((n : Int) + 1 < (N : Int)) = false := decide_eq_false (by have := HN2.out; simp only [List.length_nil] at this; omega)
        have HJ := Lib.hid (show joinN [] s ls = ([], s, ls) from rfl)
        go_enter Try.func231, Try.ntmps231
        go_wp2_with (first
          | (refine rm_setB T0.out HBM.out ⟨o, s, false⟩ 2 (by decide) (.bool false) rfl bb N cb rfl rfl 4 _ _ rfl rfl rfl rfl (by kernel_rfl) ?_; intro w1 h1; have T1 := Lib.hid h1; clear h1 T0; have c1 := (hp_cells T1.out).2.1; have c2 := (hp_cells T1.out).2.2.1)
          | (refine rm_setD T1.out HDM.out none0 bd M cd rfl rfl 31 _ _ rfl rfl rfl rfl (by kernel_rfl) ?_; intro w2 h2; have T2 := Lib.hid h2; clear h2 T1 c2; have c1 := (hp_cells T2.out).2.1; have b7 := (rm_blk (PV.out _ _ _ _ _ _ _ T2.out) HPK.out).2.2; rw [HZU.out] at b7; go_wp2_with fail))
        have hll := (HH.out).lists.short (HH.out).good (HH.out).max (clsN_of HZZ.out).1
        have hHH := HH.out
        rw [HMP.out, bsOf_append] at hHH
        obtain ⟨b9, _, h91, _, _, hh9⟩ := Hole.prev (y := z.b) hHH HZU.out
        have hmx := hh9.max; have hat := hh9.at; have hsd := hh9.sized
        have u7 : IntKind.i64.wrap ((z.b.size : Int) + (s : Int)) = ((z.b.size + s : Nat) : Int) := by rw [IntWalk.i64_in _ (by omega)]; omega
        have HH9 := Lib.hid hh9
        have HLL7 := Lib.hid hll
        clear hHH hh9 h91 hmx hat hsd hll
        with_reducible refine (rm_out (PV.out _ _ _ _ _ _ _ T2.out) HS.out HPK.out HZZ.out (by have := HLL7.out; omega) (by have h1 := HPK.out; have h2 : mp.length + (([] : List Bd)).length ≤ 1000 := hcnt; have h3 := HN.out; have h4 := HNK.out; have h5 := HPL.out; simp only [bsOf, List.length_append, List.length_cons, List.length_map] at h1 h2 h3 ⊢; omega) (k : Int) rfl).mono ?_
        rintro e w7 ⟨rfl, ss7, hs7, t7⟩
        have TX := Lib.hid t7.drew
        have HS7 := Lib.hid hs7
        clear t7 hs7 c1 b7
        go_wp2_with fail
        refine flowt_begin 26 (S := fun w' => w'.cell? ⟨q, 1, none⟩ = some (.slice (some ⟨bb, 0, none⟩) N cb) ∧ w'.cell? ⟨bb, k * 3 + 1, none⟩ = some (.int .i64 z.b.size) ∧ w'.cell? ⟨bb, n * 3 + 1, none⟩ = some (.int .i64 s)) hmixed 27 rfl (by repeat (first | with_reducible refine ps_then ?_ | with_reducible refine ps_block ?_ | with_reducible exact ps_body | refine ps_then ?_ | refine ps_block ?_ | exact ps_body)) ⟨(hp_cells TX.out).2.1, (rm_blk TX.out HPK.out).2.1, (rm_blk (P := bsOf p ++ [z.b]) (x := ⟨o, s, false⟩) (R := bsOf ([] : List Bd)) (by rw [List.append_assoc]; exact TX.out) HPN.out).2.1⟩ (fun hps => ?_)
        simp only [List.replicate]
        generalize w7.drew = wv at TX ⊢
        refine flowt_take 0 (v := ?_) (a' := ?_) hps rfl (by kernel_rfl) rfl ?_ ?_ ?_
        rotate_left 2
        · intro w' hk; go_simp; try rfl
        · simp only [Act.put, List.setIfInBounds_toArray, List.set_cons_succ, List.set_cons_zero]; try rfl
        refine flowt_take 1 (v := ?_) (a' := ?_) hps rfl (by kernel_rfl) rfl ?_ ?_ ?_
        rotate_left 2
        · intro w' hk; go_simp; try rfl
        · simp only [Act.put, List.setIfInBounds_toArray, List.set_cons_succ, List.set_cons_zero]; try rfl
        refine flowt_take 2 (v := ?_) (a' := ?_) hps rfl (by kernel_rfl) rfl ?_ ?_ ?_
        rotate_left 2
        · intro w' hk; go_simp; try rfl
        · simp only [Act.put, List.setIfInBounds_toArray, List.set_cons_succ, List.set_cons_zero]; try rfl
        refine flowt_read 3 (v := ?_) (a' := ?_) hps rfl (by kernel_rfl) rfl ?_ ?_ ?_
        rotate_left 2
        · intro w' hk; have c1 := hk.1; go_simp; try rfl
        · simp only [Act.put, List.setIfInBounds_toArray, List.set_cons_succ, List.set_cons_zero]; try rfl
        refine flowt_take 4 (v := ?_) (a' := ?_) hps rfl (by kernel_rfl) rfl ?_ ?_ ?_
        rotate_left 2
        · intro w' hk; go_simp; try rfl
        · simp only [Act.put, List.setIfInBounds_toArray, List.set_cons_succ, List.set_cons_zero]; try rfl
        refine flowt_take 5 (v := ?_) (a' := ?_) hps rfl (by kernel_rfl) rfl ?_ ?_ ?_
        rotate_left 2
        · intro w' hk; go_simp; try rfl
        · simp only [Act.put, List.setIfInBounds_toArray, List.set_cons_succ, List.set_cons_zero]; try rfl
        refine flowt_take 6 (v := ?_) (a' := ?_) hps rfl (by kernel_rfl) rfl ?_ ?_ ?_
        rotate_left 2
        · intro w' hk; go_simp; try rfl
        · simp only [Act.put, List.setIfInBounds_toArray, List.set_cons_succ, List.set_cons_zero]; try rfl
        refine flowt_take 7 (v := ?_) (a' := ?_) hps rfl (by kernel_rfl) rfl ?_ ?_ ?_
        rotate_left 2
        · intro w' hk; go_simp; try rfl
        · simp only [Act.put, List.setIfInBounds_toArray, List.set_cons_succ, List.set_cons_zero]; try rfl
        refine flowt_take 8 (v := ?_) (a' := ?_) hps rfl (by kernel_rfl) rfl ?_ ?_ ?_
        rotate_left 2
        · intro w' hk; go_simp; try rfl
        · simp only [Act.put, List.setIfInBounds_toArray, List.set_cons_succ, List.set_cons_zero]; try rfl
        refine flowt_read 9 (v := ?_) (a' := ?_) hps rfl (by kernel_rfl) rfl ?_ ?_ ?_
        rotate_left 2
        · intro w' hk; have c1 := hk.1; go_simp; try rfl
        · simp only [Act.put, List.setIfInBounds_toArray, List.set_cons_succ, List.set_cons_zero]; try rfl
        refine flowt_take 10 (v := ?_) (a' := ?_) hps rfl (by kernel_rfl) rfl ?_ ?_ ?_
        rotate_left 2
        · intro w' hk; go_simp; try rfl
        · simp only [Act.put, List.setIfInBounds_toArray, List.set_cons_succ, List.set_cons_zero]; try rfl
        refine flowt_take 11 (v := ?_) (a' := ?_) hps rfl (by kernel_rfl) rfl ?_ ?_ ?_
        rotate_left 2
        · intro w' hk; go_simp; try rfl
        · simp only [Act.put, List.setIfInBounds_toArray, List.set_cons_succ, List.set_cons_zero]; try rfl
        refine flowt_take 12 (v := ?_) (a' := ?_) hps rfl (by kernel_rfl) rfl ?_ ?_ ?_
        rotate_left 2
        · intro w' hk; go_simp; try rfl
        · simp only [Act.put, List.setIfInBounds_toArray, List.set_cons_succ, List.set_cons_zero]; try rfl
        refine flowt_take 13 (v := ?_) (a' := ?_) hps rfl (by kernel_rfl) rfl ?_ ?_ ?_
        rotate_left 2
        · intro w' hk; go_simp; try rfl
        · simp only [Act.put, List.setIfInBounds_toArray, List.set_cons_succ, List.set_cons_zero]; try rfl
        refine flowt_read 14 (v := ?_) (a' := ?_) hps rfl (by kernel_rfl) rfl ?_ ?_ ?_
        rotate_left 2
        · intro w' hk; have c1 := hk.2.1; go_simp; try rfl
        · simp only [Act.put, List.setIfInBounds_toArray, List.set_cons_succ, List.set_cons_zero]; try rfl
        refine flowt_take 15 (v := ?_) (a' := ?_) hps rfl (by kernel_rfl) rfl ?_ ?_ ?_
        rotate_left 2
        · intro w' hk; go_simp; try rfl
        · simp only [Act.put, List.setIfInBounds_toArray, List.set_cons_succ, List.set_cons_zero]; try rfl
        refine flowt_take 16 (v := ?_) (a' := ?_) hps rfl (by kernel_rfl) rfl ?_ ?_ ?_
        rotate_left 2
        · intro w' hk; go_simp; try rfl
        · simp only [Act.put, List.setIfInBounds_toArray, List.set_cons_succ, List.set_cons_zero]; try rfl
        refine flowt_take 17 (v := ?_) (a' := ?_) hps rfl (by kernel_rfl) rfl ?_ ?_ ?_
        rotate_left 2
        · intro w' hk; go_simp; try rfl
        · simp only [Act.put, List.setIfInBounds_toArray, List.set_cons_succ, List.set_cons_zero]; try rfl
        refine flowt_read 18 (v := ?_) (a' := ?_) hps rfl (by kernel_rfl) rfl ?_ ?_ ?_
        rotate_left 2
        · intro w' hk; have c1 := hk.1; go_simp; try rfl
        · simp only [Act.put, List.setIfInBounds_toArray, List.set_cons_succ, List.set_cons_zero]; try rfl
        refine flowt_take 19 (v := ?_) (a' := ?_) hps rfl (by kernel_rfl) rfl ?_ ?_ ?_
        rotate_left 2
        · intro w' hk; go_simp; try rfl
        · simp only [Act.put, List.setIfInBounds_toArray, List.set_cons_succ, List.set_cons_zero]; try rfl
        refine flowt_take 20 (v := ?_) (a' := ?_) hps rfl (by kernel_rfl) rfl ?_ ?_ ?_
        rotate_left 2
        · intro w' hk; go_simp; try rfl
        · simp only [Act.put, List.setIfInBounds_toArray, List.set_cons_succ, List.set_cons_zero]; try rfl
        refine flowt_take 21 (v := ?_) (a' := ?_) hps rfl (by kernel_rfl) rfl ?_ ?_ ?_
        rotate_left 2
        · intro w' hk; go_simp; try rfl
        · simp only [Act.put, List.setIfInBounds_toArray, List.set_cons_succ, List.set_cons_zero]; try rfl
        refine flowt_read 22 (v := ?_) (a' := ?_) hps rfl (by kernel_rfl) rfl ?_ ?_ ?_
        rotate_left 2
        · intro w' hk; have c1 := hk.2.2; go_simp; try rfl
        · simp only [Act.put, List.setIfInBounds_toArray, List.set_cons_succ, List.set_cons_zero]; try rfl
        refine flowt_take 23 (v := ?_) (a' := ?_) hps rfl (by kernel_rfl) rfl ?_ ?_ ?_
        rotate_left 2
        · intro w' hk; go_simp; try rfl
        · simp only [Act.put, List.setIfInBounds_toArray, List.set_cons_succ, List.set_cons_zero]; try rfl
        refine flowt_take 24 (v := ?_) (a' := ?_) hps rfl (by kernel_rfl) rfl ?_ ?_ ?_
        rotate_left 2
        · intro w' hk; go_simp; try rfl
        · simp only [Act.put, List.setIfInBounds_toArray, List.set_cons_succ, List.set_cons_zero]; try rfl
        refine flowt_take 25 (v := ?_) (a' := ?_) hps rfl (by kernel_rfl) rfl ?_ ?_ ?_
        rotate_left 2
        · intro w' hk; go_simp; try rfl
        · simp only [Act.put, List.setIfInBounds_toArray, List.set_cons_succ, List.set_cons_zero]; try rfl
        refine flowt_one 26 hps rfl (by kernel_rfl) rfl (wp_next (fun K hK => ?_))
        refine rm_setB_at TX.out HPK.out ⟨z.b.off, z.b.size + s, false⟩ 1 (by decide) (.int .i64 ((z.b.size + s : Nat) : Int)) (by unfold blC; rw [HZU.out]; rfl) bb N cb rfl 3 _ _ rfl rfl rfl rfl (by kernel_rfl) ?_
        intro w8 h8
        replace TX := Lib.hid h8
        clear h8
        refine hK _ _ ⟨fun h => absurd (show true = false from h) (by decide), ?_⟩
        clear hK
        refine flowt_done hps (by kernel_rfl) ?_
        go_wp2_with fail
        have t8 := TX.out
        rw [HMP.out, List.map_append, show bsOf p ++ (⟨z.b.off, z.b.size + s, false⟩ : Blk) :: ⟨o, s, false⟩ :: bsOf ([] : List Bd) = (bsOf p ++ [⟨z.b.off, z.b.size + s, false⟩]) ++ ⟨o, s, false⟩ :: bsOf ([] : List Bd) from by simp] at t8
        have T8 := Lib.hid t8
        clear t8
        with_reducible refine (rm_drop (n := n) (C := p.map (·.d) ++ [z].map (·.d)) (d := none0) (E := (([] : List Bd)).map (·.d)) T8.out (by have := HPN.out; simpa using this) (by have := HPN.out; unfold bsOf at this; simpa using this) (by unfold bsOf; rw [List.length_map, List.length_map]) (fun v hv => by
            simp only [List.mem_append, List.mem_map, List.mem_cons, List.not_mem_nil, or_false] at hv
            rcases hv with (⟨x, hx, rfl⟩ | ⟨x, rfl, rfl⟩) | rfl | ⟨x, hx, rfl⟩
            · exact (HNF.out x (by rw [HMP.out]; simp [hx])).1
            · exact (HNF.out x (by rw [HMP.out]; simp)).1
            · simp [Value.oneCell']
            · exact (HNF.out x (by first | exact hx.elim | exact List.mem_append_right _ hx | exact List.mem_append_right _ (List.mem_cons.2 hx) | exact List.mem_append_right _ (List.mem_cons_of_mem _ hx))).1) (by have h1 := HPK.out; have h2 : mp.length + (([] : List Bd)).length ≤ 1000 := hcnt; have h3 := HN.out; have h4 := HNK.out; have h5 := HPL.out; simp only [bsOf, List.length_append, List.length_cons, List.length_map, List.length_nil] at h1 h2 h3 ⊢; omega) (n : Int) rfl).mono ?_
        rintro e w9 ⟨rfl, vb9, vd9, t9⟩
        have T9 := Lib.hid (show St B w0 w9 (HpX q cap vb9 vd9 vl ss7 (bsOf p ++ ⟨z.b.off, z.b.size + s, false⟩ :: bsOf ([] : List Bd)) (p.map (·.d) ++ z.d :: (([] : List Bd)).map (·.d)) (outL ls (clsN z.b.size) z.b.off) l) from by rw [List.append_assoc, List.append_assoc] at t9; exact t9)
        clear t9 TX T8
        go_wp2_with fail
        have kin := FIN.out p ([] : List Bd) z.b.off (z.b.size + s) (outL ls (clsN z.b.size) z.b.off) b9 _ _ _ _ z.d k T9.out HZD.out HS7.out HPL.out (by have h1 : mp.length + (([] : List Bd)).length ≤ 1000 := hcnt; have h2 := HN.out; have h3 := HNK.out; have h4 := HPL.out; omega) HH9.out (by unfold freeM; rw [HJ.out]; unfold joinP; rw [HMP.out, List.getLast?_concat]; simp only [HZU.out]; rw [List.dropLast_concat]; rfl)
        have KIN := Lib.hid kin
        clear kin
        go_wp2_with fail
        with_reducible refine KIN.out.mono ?_
        rintro e wZ ⟨rfl, hZ⟩
        have HZ := Lib.hid hZ
        clear hZ
        go_wp2_with fail
        go_end0
        exact ⟨rfl, HZ.out⟩
      | cons y r =>
        have d1 : decide ((n : Int) + 1 < (N : Int)) = true := decide_eq_true (by have := HN2.out; simp only [List.length_cons] at this; omega)
        have lt3 : n + 1 < N := by have := HN2.out; simp only [List.length_cons] at this; omega
        have lt4 : 0 ≤ (n : Int) + 1 ∧ (n : Int) + 1 < (N : Int) := by omega
        have hp1 : ∀ s', (bsOf mp ++ [(⟨o, s', false⟩ : Blk)]).length = n + 1 := fun s' => by rw [List.length_append, HBM.out]; rfl
        have HP1 := Lib.hid hp1
        have cy : ∀ w' vb vd ss D ls s', St B w0 w' (HpX q cap vb vd vl ss (bsOf mp ++ ⟨o, s', false⟩ :: bsOf (y :: r)) D ls l) → St B w0 w' (HpX q cap vb vd vl ss ((bsOf mp ++ [⟨o, s', false⟩]) ++ y.b :: bsOf r) D ls l) := fun w' vb vd ss D ls s' h => by rw [bsOf_cons] at h; rw [List.append_assoc]; exact h
        have CY := Lib.hid cy
        clear hp1 cy
        cases hu : y.b.used with
        | true =>
          have HU := Lib.hid hu
          have HJ := Lib.hid (show joinN (y :: r) s ls = (y :: r, s, ls) from by unfold joinN; simp only [hu]; rfl)
          clear hu
          go_enter Try.func231, Try.ntmps231
          go_wp2_with (first
            | (refine rm_setB T0.out HBM.out ⟨o, s, false⟩ 2 (by decide) (.bool false) rfl bb N cb rfl rfl 4 _ _ rfl rfl rfl rfl (by kernel_rfl) ?_; intro w1 h1; have T1 := Lib.hid h1; clear h1 T0; have c1 := (hp_cells T1.out).2.1; have c2 := (hp_cells T1.out).2.2.1)
            | (refine rm_setD T1.out HDM.out none0 bd M cd rfl rfl 31 _ _ rfl rfl rfl rfl (by kernel_rfl) ?_; intro w2 h2; have T2 := Lib.hid h2; clear h2 T1 c2; have c1 := (hp_cells T2.out).2.1; have b2 := (rm_blk (CY.out _ _ _ _ _ _ _ T2.out) (HP1.out s)).2.2; rw [HU.out] at b2; have b7 := (rm_blk (PV.out _ _ _ _ _ _ _ T2.out) HPK.out).2.2; rw [HZU.out] at b7; go_wp2_with fail))
          have hll := (HH.out).lists.short (HH.out).good (HH.out).max (clsN_of HZZ.out).1
          have hHH := HH.out
          rw [HMP.out, bsOf_append] at hHH
          obtain ⟨b9, _, h91, _, _, hh9⟩ := Hole.prev (y := z.b) hHH HZU.out
          have hmx := hh9.max; have hat := hh9.at; have hsd := hh9.sized
          have u7 : IntKind.i64.wrap ((z.b.size : Int) + (s : Int)) = ((z.b.size + s : Nat) : Int) := by rw [IntWalk.i64_in _ (by omega)]; omega
          have HH9 := Lib.hid hh9
          have HLL7 := Lib.hid hll
          clear hHH hh9 h91 hmx hat hsd hll
          with_reducible refine (rm_out (PV.out _ _ _ _ _ _ _ T2.out) HS.out HPK.out HZZ.out (by have := HLL7.out; omega) (by have h1 := HPK.out; have h2 : mp.length + ((y :: r)).length ≤ 1000 := hcnt; have h3 := HN.out; have h4 := HNK.out; have h5 := HPL.out; simp only [bsOf, List.length_append, List.length_cons, List.length_map] at h1 h2 h3 ⊢; omega) (k : Int) rfl).mono ?_
          rintro e w7 ⟨rfl, ss7, hs7, t7⟩
          have TX := Lib.hid t7.drew
          have HS7 := Lib.hid hs7
          clear t7 hs7 c1 b7
          go_wp2_with fail
          refine flowt_begin 26 (S := fun w' => w'.cell? ⟨q, 1, none⟩ = some (.slice (some ⟨bb, 0, none⟩) N cb) ∧ w'.cell? ⟨bb, k * 3 + 1, none⟩ = some (.int .i64 z.b.size) ∧ w'.cell? ⟨bb, n * 3 + 1, none⟩ = some (.int .i64 s)) hmixed 27 rfl (by repeat (first | with_reducible refine ps_then ?_ | with_reducible refine ps_block ?_ | with_reducible exact ps_body | refine ps_then ?_ | refine ps_block ?_ | exact ps_body)) ⟨(hp_cells TX.out).2.1, (rm_blk TX.out HPK.out).2.1, (rm_blk (P := bsOf p ++ [z.b]) (x := ⟨o, s, false⟩) (R := bsOf (y :: r)) (by rw [List.append_assoc]; exact TX.out) HPN.out).2.1⟩ (fun hps => ?_)
          simp only [List.replicate]
          generalize w7.drew = wv at TX ⊢
          refine flowt_take 0 (v := ?_) (a' := ?_) hps rfl (by kernel_rfl) rfl ?_ ?_ ?_
          rotate_left 2
          · intro w' hk; go_simp; try rfl
          · simp only [Act.put, List.setIfInBounds_toArray, List.set_cons_succ, List.set_cons_zero]; try rfl
          refine flowt_take 1 (v := ?_) (a' := ?_) hps rfl (by kernel_rfl) rfl ?_ ?_ ?_
          rotate_left 2
          · intro w' hk; go_simp; try rfl
          · simp only [Act.put, List.setIfInBounds_toArray, List.set_cons_succ, List.set_cons_zero]; try rfl
          refine flowt_take 2 (v := ?_) (a' := ?_) hps rfl (by kernel_rfl) rfl ?_ ?_ ?_
          rotate_left 2
          · intro w' hk; go_simp; try rfl
          · simp only [Act.put, List.setIfInBounds_toArray, List.set_cons_succ, List.set_cons_zero]; try rfl
          refine flowt_read 3 (v := ?_) (a' := ?_) hps rfl (by kernel_rfl) rfl ?_ ?_ ?_
          rotate_left 2
          · intro w' hk; have c1 := hk.1; go_simp; try rfl
          · simp only [Act.put, List.setIfInBounds_toArray, List.set_cons_succ, List.set_cons_zero]; try rfl
          refine flowt_take 4 (v := ?_) (a' := ?_) hps rfl (by kernel_rfl) rfl ?_ ?_ ?_
          rotate_left 2
          · intro w' hk; go_simp; try rfl
          · simp only [Act.put, List.setIfInBounds_toArray, List.set_cons_succ, List.set_cons_zero]; try rfl
          refine flowt_take 5 (v := ?_) (a' := ?_) hps rfl (by kernel_rfl) rfl ?_ ?_ ?_
          rotate_left 2
          · intro w' hk; go_simp; try rfl
          · simp only [Act.put, List.setIfInBounds_toArray, List.set_cons_succ, List.set_cons_zero]; try rfl
          refine flowt_take 6 (v := ?_) (a' := ?_) hps rfl (by kernel_rfl) rfl ?_ ?_ ?_
          rotate_left 2
          · intro w' hk; go_simp; try rfl
          · simp only [Act.put, List.setIfInBounds_toArray, List.set_cons_succ, List.set_cons_zero]; try rfl
          refine flowt_take 7 (v := ?_) (a' := ?_) hps rfl (by kernel_rfl) rfl ?_ ?_ ?_
          rotate_left 2
          · intro w' hk; go_simp; try rfl
          · simp only [Act.put, List.setIfInBounds_toArray, List.set_cons_succ, List.set_cons_zero]; try rfl
          refine flowt_take 8 (v := ?_) (a' := ?_) hps rfl (by kernel_rfl) rfl ?_ ?_ ?_
          rotate_left 2
          · intro w' hk; go_simp; try rfl
          · simp only [Act.put, List.setIfInBounds_toArray, List.set_cons_succ, List.set_cons_zero]; try rfl
          refine flowt_read 9 (v := ?_) (a' := ?_) hps rfl (by kernel_rfl) rfl ?_ ?_ ?_
          rotate_left 2
          · intro w' hk; have c1 := hk.1; go_simp; try rfl
          · simp only [Act.put, List.setIfInBounds_toArray, List.set_cons_succ, List.set_cons_zero]; try rfl
          refine flowt_take 10 (v := ?_) (a' := ?_) hps rfl (by kernel_rfl) rfl ?_ ?_ ?_
          rotate_left 2
          · intro w' hk; go_simp; try rfl
          · simp only [Act.put, List.setIfInBounds_toArray, List.set_cons_succ, List.set_cons_zero]; try rfl
          refine flowt_take 11 (v := ?_) (a' := ?_) hps rfl (by kernel_rfl) rfl ?_ ?_ ?_
          rotate_left 2
          · intro w' hk; go_simp; try rfl
          · simp only [Act.put, List.setIfInBounds_toArray, List.set_cons_succ, List.set_cons_zero]; try rfl
          refine flowt_take 12 (v := ?_) (a' := ?_) hps rfl (by kernel_rfl) rfl ?_ ?_ ?_
          rotate_left 2
          · intro w' hk; go_simp; try rfl
          · simp only [Act.put, List.setIfInBounds_toArray, List.set_cons_succ, List.set_cons_zero]; try rfl
          refine flowt_take 13 (v := ?_) (a' := ?_) hps rfl (by kernel_rfl) rfl ?_ ?_ ?_
          rotate_left 2
          · intro w' hk; go_simp; try rfl
          · simp only [Act.put, List.setIfInBounds_toArray, List.set_cons_succ, List.set_cons_zero]; try rfl
          refine flowt_read 14 (v := ?_) (a' := ?_) hps rfl (by kernel_rfl) rfl ?_ ?_ ?_
          rotate_left 2
          · intro w' hk; have c1 := hk.2.1; go_simp; try rfl
          · simp only [Act.put, List.setIfInBounds_toArray, List.set_cons_succ, List.set_cons_zero]; try rfl
          refine flowt_take 15 (v := ?_) (a' := ?_) hps rfl (by kernel_rfl) rfl ?_ ?_ ?_
          rotate_left 2
          · intro w' hk; go_simp; try rfl
          · simp only [Act.put, List.setIfInBounds_toArray, List.set_cons_succ, List.set_cons_zero]; try rfl
          refine flowt_take 16 (v := ?_) (a' := ?_) hps rfl (by kernel_rfl) rfl ?_ ?_ ?_
          rotate_left 2
          · intro w' hk; go_simp; try rfl
          · simp only [Act.put, List.setIfInBounds_toArray, List.set_cons_succ, List.set_cons_zero]; try rfl
          refine flowt_take 17 (v := ?_) (a' := ?_) hps rfl (by kernel_rfl) rfl ?_ ?_ ?_
          rotate_left 2
          · intro w' hk; go_simp; try rfl
          · simp only [Act.put, List.setIfInBounds_toArray, List.set_cons_succ, List.set_cons_zero]; try rfl
          refine flowt_read 18 (v := ?_) (a' := ?_) hps rfl (by kernel_rfl) rfl ?_ ?_ ?_
          rotate_left 2
          · intro w' hk; have c1 := hk.1; go_simp; try rfl
          · simp only [Act.put, List.setIfInBounds_toArray, List.set_cons_succ, List.set_cons_zero]; try rfl
          refine flowt_take 19 (v := ?_) (a' := ?_) hps rfl (by kernel_rfl) rfl ?_ ?_ ?_
          rotate_left 2
          · intro w' hk; go_simp; try rfl
          · simp only [Act.put, List.setIfInBounds_toArray, List.set_cons_succ, List.set_cons_zero]; try rfl
          refine flowt_take 20 (v := ?_) (a' := ?_) hps rfl (by kernel_rfl) rfl ?_ ?_ ?_
          rotate_left 2
          · intro w' hk; go_simp; try rfl
          · simp only [Act.put, List.setIfInBounds_toArray, List.set_cons_succ, List.set_cons_zero]; try rfl
          refine flowt_take 21 (v := ?_) (a' := ?_) hps rfl (by kernel_rfl) rfl ?_ ?_ ?_
          rotate_left 2
          · intro w' hk; go_simp; try rfl
          · simp only [Act.put, List.setIfInBounds_toArray, List.set_cons_succ, List.set_cons_zero]; try rfl
          refine flowt_read 22 (v := ?_) (a' := ?_) hps rfl (by kernel_rfl) rfl ?_ ?_ ?_
          rotate_left 2
          · intro w' hk; have c1 := hk.2.2; go_simp; try rfl
          · simp only [Act.put, List.setIfInBounds_toArray, List.set_cons_succ, List.set_cons_zero]; try rfl
          refine flowt_take 23 (v := ?_) (a' := ?_) hps rfl (by kernel_rfl) rfl ?_ ?_ ?_
          rotate_left 2
          · intro w' hk; go_simp; try rfl
          · simp only [Act.put, List.setIfInBounds_toArray, List.set_cons_succ, List.set_cons_zero]; try rfl
          refine flowt_take 24 (v := ?_) (a' := ?_) hps rfl (by kernel_rfl) rfl ?_ ?_ ?_
          rotate_left 2
          · intro w' hk; go_simp; try rfl
          · simp only [Act.put, List.setIfInBounds_toArray, List.set_cons_succ, List.set_cons_zero]; try rfl
          refine flowt_take 25 (v := ?_) (a' := ?_) hps rfl (by kernel_rfl) rfl ?_ ?_ ?_
          rotate_left 2
          · intro w' hk; go_simp; try rfl
          · simp only [Act.put, List.setIfInBounds_toArray, List.set_cons_succ, List.set_cons_zero]; try rfl
          refine flowt_one 26 hps rfl (by kernel_rfl) rfl (wp_next (fun K hK => ?_))
          refine rm_setB_at TX.out HPK.out ⟨z.b.off, z.b.size + s, false⟩ 1 (by decide) (.int .i64 ((z.b.size + s : Nat) : Int)) (by unfold blC; rw [HZU.out]; rfl) bb N cb rfl 3 _ _ rfl rfl rfl rfl (by kernel_rfl) ?_
          intro w8 h8
          replace TX := Lib.hid h8
          clear h8
          refine hK _ _ ⟨fun h => absurd (show true = false from h) (by decide), ?_⟩
          clear hK
          refine flowt_done hps (by kernel_rfl) ?_
          go_wp2_with fail
          have t8 := TX.out
          rw [HMP.out, List.map_append, show bsOf p ++ (⟨z.b.off, z.b.size + s, false⟩ : Blk) :: ⟨o, s, false⟩ :: bsOf (y :: r) = (bsOf p ++ [⟨z.b.off, z.b.size + s, false⟩]) ++ ⟨o, s, false⟩ :: bsOf (y :: r) from by simp] at t8
          have T8 := Lib.hid t8
          clear t8
          with_reducible refine (rm_drop (n := n) (C := p.map (·.d) ++ [z].map (·.d)) (d := none0) (E := ((y :: r)).map (·.d)) T8.out (by have := HPN.out; simpa using this) (by have := HPN.out; unfold bsOf at this; simpa using this) (by unfold bsOf; rw [List.length_map, List.length_map]) (fun v hv => by
              simp only [List.mem_append, List.mem_map, List.mem_cons, List.not_mem_nil, or_false] at hv
              rcases hv with (⟨x, hx, rfl⟩ | ⟨x, rfl, rfl⟩) | rfl | ⟨x, hx, rfl⟩
              · exact (HNF.out x (by rw [HMP.out]; simp [hx])).1
              · exact (HNF.out x (by rw [HMP.out]; simp)).1
              · simp [Value.oneCell']
              · exact (HNF.out x (by first | exact hx.elim | exact List.mem_append_right _ hx | exact List.mem_append_right _ (List.mem_cons.2 hx) | exact List.mem_append_right _ (List.mem_cons_of_mem _ hx))).1) (by have h1 := HPK.out; have h2 : mp.length + ((y :: r)).length ≤ 1000 := hcnt; have h3 := HN.out; have h4 := HNK.out; have h5 := HPL.out; simp only [bsOf, List.length_append, List.length_cons, List.length_map, List.length_nil] at h1 h2 h3 ⊢; omega) (n : Int) rfl).mono ?_
          rintro e w9 ⟨rfl, vb9, vd9, t9⟩
          have T9 := Lib.hid (show St B w0 w9 (HpX q cap vb9 vd9 vl ss7 (bsOf p ++ ⟨z.b.off, z.b.size + s, false⟩ :: bsOf (y :: r)) (p.map (·.d) ++ z.d :: ((y :: r)).map (·.d)) (outL ls (clsN z.b.size) z.b.off) l) from by rw [List.append_assoc, List.append_assoc] at t9; exact t9)
          clear t9 TX T8
          go_wp2_with fail
          have kin := FIN.out p (y :: r) z.b.off (z.b.size + s) (outL ls (clsN z.b.size) z.b.off) b9 _ _ _ _ z.d k T9.out HZD.out HS7.out HPL.out (by have h1 : mp.length + ((y :: r)).length ≤ 1000 := hcnt; have h2 := HN.out; have h3 := HNK.out; have h4 := HPL.out; omega) HH9.out (by unfold freeM; rw [HJ.out]; unfold joinP; rw [HMP.out, List.getLast?_concat]; simp only [HZU.out]; rw [List.dropLast_concat]; rfl)
          have KIN := Lib.hid kin
          clear kin
          go_wp2_with fail
          with_reducible refine KIN.out.mono ?_
          rintro e wZ ⟨rfl, hZ⟩
          have HZ := Lib.hid hZ
          clear hZ
          go_wp2_with fail
          go_end0
          exact ⟨rfl, HZ.out⟩
        | false =>
          have HU := Lib.hid hu
          have HJ := Lib.hid (show joinN (y :: r) s ls = (r, s + y.b.size, outL ls (clsN y.b.size) y.b.off) from by unfold joinN; simp only [hu]; rfl)
          obtain ⟨b1, _, _, _, _, hh1⟩ := HH.out.next hu
          have hys := HH.out.side (List.mem_append_right _ (List.mem_cons_self ..) : y.b ∈ bsOf mp ++ bsOf (y :: r))
          have hyz := blkAt_isSize hys.2.1
          have hyb := (isSize_iff _).1 hyz
          have hob := HH.out.at
          have hmx := HH.out.max
          have hll := HH.out.lists.short HH.out.good HH.out.max (clsN_of hyz).1
          have u2 : IntKind.i64.wrap ((s : Int) + (y.b.size : Int)) = ((s + y.b.size : Nat) : Int) := by rw [IntWalk.i64_in _ (by omega)]; omega
          obtain ⟨s5, h5⟩ : ∃ v, s + y.b.size = v := ⟨_, rfl⟩
          have hj5 := HJ.out
          rw [h5] at hh1 u2 hj5
          clear HJ
          have HJ := Lib.hid hj5
          have HH1 := Lib.hid hh1; have HYZ := Lib.hid hyz; have HLL := Lib.hid hll
          clear hu hys hyz hyb hob hll hh1 h5 hj5
          go_enter Try.func231, Try.ntmps231
          go_wp2_with (first
            | (refine rm_setB T0.out HBM.out ⟨o, s, false⟩ 2 (by decide) (.bool false) rfl bb N cb rfl rfl 4 _ _ rfl rfl rfl rfl (by kernel_rfl) ?_; intro w1 h1; have T1 := Lib.hid h1; clear h1 T0; have c1 := (hp_cells T1.out).2.1; have c2 := (hp_cells T1.out).2.2.1)
            | (refine rm_setD T1.out HDM.out none0 bd M cd rfl rfl 31 _ _ rfl rfl rfl rfl (by kernel_rfl) ?_; intro w2 h2; have T2 := Lib.hid h2; clear h2 T1 c2; have c1 := (hp_cells T2.out).2.1; have b2 := (rm_blk (CY.out _ _ _ _ _ _ _ T2.out) (HP1.out s)).2.2; rw [HU.out] at b2; go_wp2_with fail))
          with_reducible refine (rm_out (CY.out _ _ _ _ _ _ _ T2.out) HS.out (HP1.out s) HYZ.out (by have := HLL.out; omega) (by have := HN2.out; have := HBM.out; simp only [List.length_append, List.length_cons, List.length_nil] at *; unfold bsOf; simp only [List.length_map]; omega) ((n : Int) + 1) (by omega)).mono ?_
          rintro e w3 ⟨rfl, ss3, hs3, t3⟩
          have TX := Lib.hid (show St B w0 w3 (HpX q cap (.slice (some ⟨bb, 0, none⟩) N cb) (.slice (some ⟨bd, 0, none⟩) M cd) vl ss3 (bsOf mp ++ ⟨o, s, false⟩ :: bsOf (y :: r)) (mp.map (·.d) ++ none0 :: (y :: r).map (·.d)) (outL ls (clsN y.b.size) y.b.off) l) from by rw [List.append_assoc] at t3; exact t3)
          have HS3 := Lib.hid hs3
          clear t3 hs3 T2 c1 b2
          replace TX := Lib.hid TX.out.drew
          go_wp2_with fail
          refine flowt_begin 25 (S := fun w' => w'.cell? ⟨q, 1, none⟩ = some (.slice (some ⟨bb, 0, none⟩) N cb) ∧ w'.cell? ⟨bb, n * 3 + 1, none⟩ = some (.int .i64 s) ∧ w'.cell? ⟨bb, (n + 1) * 3 + 1, none⟩ = some (.int .i64 y.b.size)) hmixed 26 rfl (by repeat (first | with_reducible refine ps_then ?_ | with_reducible refine ps_block ?_ | with_reducible exact ps_body | refine ps_then ?_ | refine ps_block ?_ | exact ps_body)) ⟨(hp_cells TX.out).2.1, (rm_blk TX.out HBM.out).2.1, (rm_blk (CY.out _ _ _ _ _ _ _ TX.out) (HP1.out s)).2.1⟩ (fun hps => ?_)
          simp only [List.replicate]
          generalize w3.drew = wx at TX ⊢
          refine flowt_take 0 (v := ?_) (a' := ?_) hps rfl (by kernel_rfl) rfl ?_ ?_ ?_
          rotate_left 2
          · intro w' hk; go_simp; try rfl
          · simp only [Act.put, List.setIfInBounds_toArray, List.set_cons_succ, List.set_cons_zero]; try rfl
          refine flowt_take 1 (v := ?_) (a' := ?_) hps rfl (by kernel_rfl) rfl ?_ ?_ ?_
          rotate_left 2
          · intro w' hk; go_simp; try rfl
          · simp only [Act.put, List.setIfInBounds_toArray, List.set_cons_succ, List.set_cons_zero]; try rfl
          refine flowt_take 2 (v := ?_) (a' := ?_) hps rfl (by kernel_rfl) rfl ?_ ?_ ?_
          rotate_left 2
          · intro w' hk; go_simp; try rfl
          · simp only [Act.put, List.setIfInBounds_toArray, List.set_cons_succ, List.set_cons_zero]; try rfl
          refine flowt_read 3 (v := ?_) (a' := ?_) hps rfl (by kernel_rfl) rfl ?_ ?_ ?_
          rotate_left 2
          · intro w' hk; have c1 := hk.1; go_simp; try rfl
          · simp only [Act.put, List.setIfInBounds_toArray, List.set_cons_succ, List.set_cons_zero]; try rfl
          refine flowt_take 4 (v := ?_) (a' := ?_) hps rfl (by kernel_rfl) rfl ?_ ?_ ?_
          rotate_left 2
          · intro w' hk; go_simp; try rfl
          · simp only [Act.put, List.setIfInBounds_toArray, List.set_cons_succ, List.set_cons_zero]; try rfl
          refine flowt_take 5 (v := ?_) (a' := ?_) hps rfl (by kernel_rfl) rfl ?_ ?_ ?_
          rotate_left 2
          · intro w' hk; go_simp; try rfl
          · simp only [Act.put, List.setIfInBounds_toArray, List.set_cons_succ, List.set_cons_zero]; try rfl
          refine flowt_take 6 (v := ?_) (a' := ?_) hps rfl (by kernel_rfl) rfl ?_ ?_ ?_
          rotate_left 2
          · intro w' hk; go_simp; try rfl
          · simp only [Act.put, List.setIfInBounds_toArray, List.set_cons_succ, List.set_cons_zero]; try rfl
          refine flowt_take 7 (v := ?_) (a' := ?_) hps rfl (by kernel_rfl) rfl ?_ ?_ ?_
          rotate_left 2
          · intro w' hk; go_simp; try rfl
          · simp only [Act.put, List.setIfInBounds_toArray, List.set_cons_succ, List.set_cons_zero]; try rfl
          refine flowt_read 8 (v := ?_) (a' := ?_) hps rfl (by kernel_rfl) rfl ?_ ?_ ?_
          rotate_left 2
          · intro w' hk; have c1 := hk.1; go_simp; try rfl
          · simp only [Act.put, List.setIfInBounds_toArray, List.set_cons_succ, List.set_cons_zero]; try rfl
          refine flowt_take 9 (v := ?_) (a' := ?_) hps rfl (by kernel_rfl) rfl ?_ ?_ ?_
          rotate_left 2
          · intro w' hk; go_simp; try rfl
          · simp only [Act.put, List.setIfInBounds_toArray, List.set_cons_succ, List.set_cons_zero]; try rfl
          refine flowt_take 10 (v := ?_) (a' := ?_) hps rfl (by kernel_rfl) rfl ?_ ?_ ?_
          rotate_left 2
          · intro w' hk; go_simp; try rfl
          · simp only [Act.put, List.setIfInBounds_toArray, List.set_cons_succ, List.set_cons_zero]; try rfl
          refine flowt_take 11 (v := ?_) (a' := ?_) hps rfl (by kernel_rfl) rfl ?_ ?_ ?_
          rotate_left 2
          · intro w' hk; go_simp; try rfl
          · simp only [Act.put, List.setIfInBounds_toArray, List.set_cons_succ, List.set_cons_zero]; try rfl
          refine flowt_read 12 (v := ?_) (a' := ?_) hps rfl (by kernel_rfl) rfl ?_ ?_ ?_
          rotate_left 2
          · intro w' hk; have c1 := hk.2.1; go_simp; try rfl
          · simp only [Act.put, List.setIfInBounds_toArray, List.set_cons_succ, List.set_cons_zero]; try rfl
          refine flowt_take 13 (v := ?_) (a' := ?_) hps rfl (by kernel_rfl) rfl ?_ ?_ ?_
          rotate_left 2
          · intro w' hk; go_simp; try rfl
          · simp only [Act.put, List.setIfInBounds_toArray, List.set_cons_succ, List.set_cons_zero]; try rfl
          refine flowt_take 14 (v := ?_) (a' := ?_) hps rfl (by kernel_rfl) rfl ?_ ?_ ?_
          rotate_left 2
          · intro w' hk; go_simp; try rfl
          · simp only [Act.put, List.setIfInBounds_toArray, List.set_cons_succ, List.set_cons_zero]; try rfl
          refine flowt_take 15 (v := ?_) (a' := ?_) hps rfl (by kernel_rfl) rfl ?_ ?_ ?_
          rotate_left 2
          · intro w' hk; go_simp; try rfl
          · simp only [Act.put, List.setIfInBounds_toArray, List.set_cons_succ, List.set_cons_zero]; try rfl
          refine flowt_read 16 (v := ?_) (a' := ?_) hps rfl (by kernel_rfl) rfl ?_ ?_ ?_
          rotate_left 2
          · intro w' hk; have c1 := hk.1; go_simp; try rfl
          · simp only [Act.put, List.setIfInBounds_toArray, List.set_cons_succ, List.set_cons_zero]; try rfl
          refine flowt_take 17 (v := ?_) (a' := ?_) hps rfl (by kernel_rfl) rfl ?_ ?_ ?_
          rotate_left 2
          · intro w' hk; go_simp; try rfl
          · simp only [Act.put, List.setIfInBounds_toArray, List.set_cons_succ, List.set_cons_zero]; try rfl
          refine flowt_take 18 (v := ?_) (a' := ?_) hps rfl (by kernel_rfl) rfl ?_ ?_ ?_
          rotate_left 2
          · intro w' hk; go_simp; try rfl
          · simp only [Act.put, List.setIfInBounds_toArray, List.set_cons_succ, List.set_cons_zero]; try rfl
          refine flowt_take 19 (v := ?_) (a' := ?_) hps rfl (by kernel_rfl) rfl ?_ ?_ ?_
          rotate_left 2
          · intro w' hk; go_simp; try rfl
          · simp only [Act.put, List.setIfInBounds_toArray, List.set_cons_succ, List.set_cons_zero]; try rfl
          refine flowt_take 20 (v := ?_) (a' := ?_) hps rfl (by kernel_rfl) rfl ?_ ?_ ?_
          rotate_left 2
          · intro w' hk; go_simp; try rfl
          · simp only [Act.put, List.setIfInBounds_toArray, List.set_cons_succ, List.set_cons_zero]; try rfl
          refine flowt_read 21 (v := ?_) (a' := ?_) hps rfl (by kernel_rfl) rfl ?_ ?_ ?_
          rotate_left 2
          · intro w' hk; have c1 := hk.2.2; go_simp; try rfl
          · simp only [Act.put, List.setIfInBounds_toArray, List.set_cons_succ, List.set_cons_zero]; try rfl
          refine flowt_take 22 (v := ?_) (a' := ?_) hps rfl (by kernel_rfl) rfl ?_ ?_ ?_
          rotate_left 2
          · intro w' hk; go_simp; try rfl
          · simp only [Act.put, List.setIfInBounds_toArray, List.set_cons_succ, List.set_cons_zero]; try rfl
          refine flowt_take 23 (v := ?_) (a' := ?_) hps rfl (by kernel_rfl) rfl ?_ ?_ ?_
          rotate_left 2
          · intro w' hk; go_simp; try rfl
          · simp only [Act.put, List.setIfInBounds_toArray, List.set_cons_succ, List.set_cons_zero]; try rfl
          refine flowt_take 24 (v := ?_) (a' := ?_) hps rfl (by kernel_rfl) rfl ?_ ?_ ?_
          rotate_left 2
          · intro w' hk; go_simp; try rfl
          · simp only [Act.put, List.setIfInBounds_toArray, List.set_cons_succ, List.set_cons_zero]; try rfl
          refine flowt_one 25 hps rfl (by kernel_rfl) rfl (wp_next (fun K hK => ?_))
          refine rm_setB_at TX.out HBM.out ⟨o, s5, false⟩ 1 (by decide) (.int .i64 (s5 : Int)) rfl bb N cb rfl 3 _ _ rfl rfl rfl rfl (by kernel_rfl) ?_
          intro w4 h4
          replace TX := Lib.hid h4
          clear h4
          refine hK _ _ ⟨fun h => absurd (show true = false from h) (by decide), ?_⟩
          clear hK
          refine flowt_done hps (by kernel_rfl) ?_
          go_wp2_with fail
          have t6 := CY.out _ _ _ _ _ _ _ TX.out
          rw [show mp.map (·.d) ++ none0 :: (y :: r).map (·.d) = (mp.map (·.d) ++ [none0]) ++ y.d :: r.map (·.d) from by simp] at t6
          have T6 := Lib.hid t6
          clear t6
          with_reducible refine (rm_drop T6.out (HP1.out _) (by rw [List.length_append, HDM.out, List.length_singleton]) (by unfold bsOf; rw [List.length_map, List.length_map]) (fun v hv => by
            simp only [List.mem_append, List.mem_map, List.mem_cons, List.not_mem_nil, or_false] at hv
            rcases hv with (⟨x, hx, rfl⟩ | rfl) | rfl | ⟨x, hx, rfl⟩
            · exact (HNF.out x (List.mem_append_left _ hx)).1
            · simp [Value.oneCell']
            · exact (HNF.out y (List.mem_append_right _ (List.mem_cons_self ..))).1
            · exact (HNF.out x (List.mem_append_right _ (List.mem_cons_of_mem _ hx))).1) (by have := HBM.out; simp only [List.length_append, List.length_cons, List.length_nil] at *; unfold bsOf; simp only [List.length_map]; omega) ((n : Int) + 1) (by omega)).mono ?_
          rintro e w5 ⟨rfl, vb5, vd5, t5⟩
          replace t5 : St B w0 w5 (HpX q cap vb5 vd5 vl ss3 (bsOf mp ++ ⟨o, s5, false⟩ :: bsOf r) (mp.map (·.d) ++ none0 :: r.map (·.d)) (outL ls (clsN y.b.size) y.b.off) l) := by rw [List.append_assoc, List.append_assoc] at t5; exact t5
          clear TX T6
          obtain ⟨bb5, cb5, bd5, cd5, rfl, rfl⟩ := rm_some t5
          obtain ⟨N5, hN5⟩ : ∃ N5, N5 = (bsOf mp ++ ⟨o, s5, false⟩ :: bsOf r).length := ⟨_, rfl⟩
          obtain ⟨M5, hM5⟩ : ∃ M5, M5 = (mp.map (·.d) ++ none0 :: r.map (·.d)).length := ⟨_, rfl⟩
          rw [← hN5, ← hM5] at t5
          have lt5 : n < N5 := by rw [hN5, List.length_append, List.length_cons, HBM.out]; omega
          have c1 := (hp_cells t5).2.1
          have T5 := Lib.hid t5
          clear t5 hN5 hM5
          have lt8 : k < N5 := (by have := HNK.out; omega); have b7 := (rm_blk (PV.out _ _ _ _ _ _ _ T5.out) HPK.out).2.2; rw [HZU.out] at b7
          go_wp2_with fail
          have hll := (HH1.out).lists.short (HH1.out).good (HH1.out).max (clsN_of HZZ.out).1
          have hHH := HH1.out
          rw [HMP.out, bsOf_append] at hHH
          obtain ⟨b9, _, h91, _, _, hh9⟩ := Hole.prev (y := z.b) hHH HZU.out
          have hmx := hh9.max; have hat := hh9.at; have hsd := hh9.sized
          have u7 : IntKind.i64.wrap ((z.b.size : Int) + (s5 : Int)) = ((z.b.size + s5 : Nat) : Int) := by rw [IntWalk.i64_in _ (by omega)]; omega
          have HH9 := Lib.hid hh9
          have HLL7 := Lib.hid hll
          clear hHH hh9 h91 hmx hat hsd hll
          with_reducible refine (rm_out (PV.out _ _ _ _ _ _ _ T5.out) HS3.out HPK.out HZZ.out (by have := HLL7.out; omega) (by have h1 := HPK.out; have h2 : mp.length + (r).length ≤ 1000 := (by simp only [List.length_cons] at hcnt; omega); have h3 := HN.out; have h4 := HNK.out; have h5 := HPL.out; simp only [bsOf, List.length_append, List.length_cons, List.length_map] at h1 h2 h3 ⊢; omega) (k : Int) rfl).mono ?_
          rintro e w7 ⟨rfl, ss7, hs7, t7⟩
          have TX := Lib.hid t7.drew
          have HS7 := Lib.hid hs7
          clear t7 hs7 c1 b7
          go_wp2_with fail
          refine flowt_begin 26 (S := fun w' => w'.cell? ⟨q, 1, none⟩ = some (.slice (some ⟨bb5, 0, none⟩) N5 cb5) ∧ w'.cell? ⟨bb5, k * 3 + 1, none⟩ = some (.int .i64 z.b.size) ∧ w'.cell? ⟨bb5, n * 3 + 1, none⟩ = some (.int .i64 s5)) hmixed 27 rfl (by repeat (first | with_reducible refine ps_then ?_ | with_reducible refine ps_block ?_ | with_reducible exact ps_body | refine ps_then ?_ | refine ps_block ?_ | exact ps_body)) ⟨(hp_cells TX.out).2.1, (rm_blk TX.out HPK.out).2.1, (rm_blk (P := bsOf p ++ [z.b]) (x := ⟨o, s5, false⟩) (R := bsOf r) (by rw [List.append_assoc]; exact TX.out) HPN.out).2.1⟩ (fun hps => ?_)
          simp only [List.replicate]
          generalize w7.drew = wv at TX ⊢
          refine flowt_take 0 (v := ?_) (a' := ?_) hps rfl (by kernel_rfl) rfl ?_ ?_ ?_
          rotate_left 2
          · intro w' hk; go_simp; try rfl
          · simp only [Act.put, List.setIfInBounds_toArray, List.set_cons_succ, List.set_cons_zero]; try rfl
          refine flowt_take 1 (v := ?_) (a' := ?_) hps rfl (by kernel_rfl) rfl ?_ ?_ ?_
          rotate_left 2
          · intro w' hk; go_simp; try rfl
          · simp only [Act.put, List.setIfInBounds_toArray, List.set_cons_succ, List.set_cons_zero]; try rfl
          refine flowt_take 2 (v := ?_) (a' := ?_) hps rfl (by kernel_rfl) rfl ?_ ?_ ?_
          rotate_left 2
          · intro w' hk; go_simp; try rfl
          · simp only [Act.put, List.setIfInBounds_toArray, List.set_cons_succ, List.set_cons_zero]; try rfl
          refine flowt_read 3 (v := ?_) (a' := ?_) hps rfl (by kernel_rfl) rfl ?_ ?_ ?_
          rotate_left 2
          · intro w' hk; have c1 := hk.1; go_simp; try rfl
          · simp only [Act.put, List.setIfInBounds_toArray, List.set_cons_succ, List.set_cons_zero]; try rfl
          refine flowt_take 4 (v := ?_) (a' := ?_) hps rfl (by kernel_rfl) rfl ?_ ?_ ?_
          rotate_left 2
          · intro w' hk; go_simp; try rfl
          · simp only [Act.put, List.setIfInBounds_toArray, List.set_cons_succ, List.set_cons_zero]; try rfl
          refine flowt_take 5 (v := ?_) (a' := ?_) hps rfl (by kernel_rfl) rfl ?_ ?_ ?_
          rotate_left 2
          · intro w' hk; go_simp; try rfl
          · simp only [Act.put, List.setIfInBounds_toArray, List.set_cons_succ, List.set_cons_zero]; try rfl
          refine flowt_take 6 (v := ?_) (a' := ?_) hps rfl (by kernel_rfl) rfl ?_ ?_ ?_
          rotate_left 2
          · intro w' hk; go_simp; try rfl
          · simp only [Act.put, List.setIfInBounds_toArray, List.set_cons_succ, List.set_cons_zero]; try rfl
          refine flowt_take 7 (v := ?_) (a' := ?_) hps rfl (by kernel_rfl) rfl ?_ ?_ ?_
          rotate_left 2
          · intro w' hk; go_simp; try rfl
          · simp only [Act.put, List.setIfInBounds_toArray, List.set_cons_succ, List.set_cons_zero]; try rfl
          refine flowt_take 8 (v := ?_) (a' := ?_) hps rfl (by kernel_rfl) rfl ?_ ?_ ?_
          rotate_left 2
          · intro w' hk; go_simp; try rfl
          · simp only [Act.put, List.setIfInBounds_toArray, List.set_cons_succ, List.set_cons_zero]; try rfl
          refine flowt_read 9 (v := ?_) (a' := ?_) hps rfl (by kernel_rfl) rfl ?_ ?_ ?_
          rotate_left 2
          · intro w' hk; have c1 := hk.1; go_simp; try rfl
          · simp only [Act.put, List.setIfInBounds_toArray, List.set_cons_succ, List.set_cons_zero]; try rfl
          refine flowt_take 10 (v := ?_) (a' := ?_) hps rfl (by kernel_rfl) rfl ?_ ?_ ?_
          rotate_left 2
          · intro w' hk; go_simp; try rfl
          · simp only [Act.put, List.setIfInBounds_toArray, List.set_cons_succ, List.set_cons_zero]; try rfl
          refine flowt_take 11 (v := ?_) (a' := ?_) hps rfl (by kernel_rfl) rfl ?_ ?_ ?_
          rotate_left 2
          · intro w' hk; go_simp; try rfl
          · simp only [Act.put, List.setIfInBounds_toArray, List.set_cons_succ, List.set_cons_zero]; try rfl
          refine flowt_take 12 (v := ?_) (a' := ?_) hps rfl (by kernel_rfl) rfl ?_ ?_ ?_
          rotate_left 2
          · intro w' hk; go_simp; try rfl
          · simp only [Act.put, List.setIfInBounds_toArray, List.set_cons_succ, List.set_cons_zero]; try rfl
          refine flowt_take 13 (v := ?_) (a' := ?_) hps rfl (by kernel_rfl) rfl ?_ ?_ ?_
          rotate_left 2
          · intro w' hk; go_simp; try rfl
          · simp only [Act.put, List.setIfInBounds_toArray, List.set_cons_succ, List.set_cons_zero]; try rfl
          refine flowt_read 14 (v := ?_) (a' := ?_) hps rfl (by kernel_rfl) rfl ?_ ?_ ?_
          rotate_left 2
          · intro w' hk; have c1 := hk.2.1; go_simp; try rfl
          · simp only [Act.put, List.setIfInBounds_toArray, List.set_cons_succ, List.set_cons_zero]; try rfl
          refine flowt_take 15 (v := ?_) (a' := ?_) hps rfl (by kernel_rfl) rfl ?_ ?_ ?_
          rotate_left 2
          · intro w' hk; go_simp; try rfl
          · simp only [Act.put, List.setIfInBounds_toArray, List.set_cons_succ, List.set_cons_zero]; try rfl
          refine flowt_take 16 (v := ?_) (a' := ?_) hps rfl (by kernel_rfl) rfl ?_ ?_ ?_
          rotate_left 2
          · intro w' hk; go_simp; try rfl
          · simp only [Act.put, List.setIfInBounds_toArray, List.set_cons_succ, List.set_cons_zero]; try rfl
          refine flowt_take 17 (v := ?_) (a' := ?_) hps rfl (by kernel_rfl) rfl ?_ ?_ ?_
          rotate_left 2
          · intro w' hk; go_simp; try rfl
          · simp only [Act.put, List.setIfInBounds_toArray, List.set_cons_succ, List.set_cons_zero]; try rfl
          refine flowt_read 18 (v := ?_) (a' := ?_) hps rfl (by kernel_rfl) rfl ?_ ?_ ?_
          rotate_left 2
          · intro w' hk; have c1 := hk.1; go_simp; try rfl
          · simp only [Act.put, List.setIfInBounds_toArray, List.set_cons_succ, List.set_cons_zero]; try rfl
          refine flowt_take 19 (v := ?_) (a' := ?_) hps rfl (by kernel_rfl) rfl ?_ ?_ ?_
          rotate_left 2
          · intro w' hk; go_simp; try rfl
          · simp only [Act.put, List.setIfInBounds_toArray, List.set_cons_succ, List.set_cons_zero]; try rfl
          refine flowt_take 20 (v := ?_) (a' := ?_) hps rfl (by kernel_rfl) rfl ?_ ?_ ?_
          rotate_left 2
          · intro w' hk; go_simp; try rfl
          · simp only [Act.put, List.setIfInBounds_toArray, List.set_cons_succ, List.set_cons_zero]; try rfl
          refine flowt_take 21 (v := ?_) (a' := ?_) hps rfl (by kernel_rfl) rfl ?_ ?_ ?_
          rotate_left 2
          · intro w' hk; go_simp; try rfl
          · simp only [Act.put, List.setIfInBounds_toArray, List.set_cons_succ, List.set_cons_zero]; try rfl
          refine flowt_read 22 (v := ?_) (a' := ?_) hps rfl (by kernel_rfl) rfl ?_ ?_ ?_
          rotate_left 2
          · intro w' hk; have c1 := hk.2.2; go_simp; try rfl
          · simp only [Act.put, List.setIfInBounds_toArray, List.set_cons_succ, List.set_cons_zero]; try rfl
          refine flowt_take 23 (v := ?_) (a' := ?_) hps rfl (by kernel_rfl) rfl ?_ ?_ ?_
          rotate_left 2
          · intro w' hk; go_simp; try rfl
          · simp only [Act.put, List.setIfInBounds_toArray, List.set_cons_succ, List.set_cons_zero]; try rfl
          refine flowt_take 24 (v := ?_) (a' := ?_) hps rfl (by kernel_rfl) rfl ?_ ?_ ?_
          rotate_left 2
          · intro w' hk; go_simp; try rfl
          · simp only [Act.put, List.setIfInBounds_toArray, List.set_cons_succ, List.set_cons_zero]; try rfl
          refine flowt_take 25 (v := ?_) (a' := ?_) hps rfl (by kernel_rfl) rfl ?_ ?_ ?_
          rotate_left 2
          · intro w' hk; go_simp; try rfl
          · simp only [Act.put, List.setIfInBounds_toArray, List.set_cons_succ, List.set_cons_zero]; try rfl
          refine flowt_one 26 hps rfl (by kernel_rfl) rfl (wp_next (fun K hK => ?_))
          refine rm_setB_at TX.out HPK.out ⟨z.b.off, z.b.size + s5, false⟩ 1 (by decide) (.int .i64 ((z.b.size + s5 : Nat) : Int)) (by unfold blC; rw [HZU.out]; rfl) bb5 N5 cb5 rfl 3 _ _ rfl rfl rfl rfl (by kernel_rfl) ?_
          intro w8 h8
          replace TX := Lib.hid h8
          clear h8
          refine hK _ _ ⟨fun h => absurd (show true = false from h) (by decide), ?_⟩
          clear hK
          refine flowt_done hps (by kernel_rfl) ?_
          go_wp2_with fail
          have t8 := TX.out
          rw [HMP.out, List.map_append, show bsOf p ++ (⟨z.b.off, z.b.size + s5, false⟩ : Blk) :: ⟨o, s5, false⟩ :: bsOf r = (bsOf p ++ [⟨z.b.off, z.b.size + s5, false⟩]) ++ ⟨o, s5, false⟩ :: bsOf r from by simp] at t8
          have T8 := Lib.hid t8
          clear t8
          with_reducible refine (rm_drop (n := n) (C := p.map (·.d) ++ [z].map (·.d)) (d := none0) (E := (r).map (·.d)) T8.out (by have := HPN.out; simpa using this) (by have := HPN.out; unfold bsOf at this; simpa using this) (by unfold bsOf; rw [List.length_map, List.length_map]) (fun v hv => by
              simp only [List.mem_append, List.mem_map, List.mem_cons, List.not_mem_nil, or_false] at hv
              rcases hv with (⟨x, hx, rfl⟩ | ⟨x, rfl, rfl⟩) | rfl | ⟨x, hx, rfl⟩
              · exact (HNF.out x (by rw [HMP.out]; simp [hx])).1
              · exact (HNF.out x (by rw [HMP.out]; simp)).1
              · simp [Value.oneCell']
              · exact (HNF.out x (by first | exact hx.elim | exact List.mem_append_right _ hx | exact List.mem_append_right _ (List.mem_cons.2 hx) | exact List.mem_append_right _ (List.mem_cons_of_mem _ hx))).1) (by have h1 := HPK.out; have h2 : mp.length + (r).length ≤ 1000 := (by simp only [List.length_cons] at hcnt; omega); have h3 := HN.out; have h4 := HNK.out; have h5 := HPL.out; simp only [bsOf, List.length_append, List.length_cons, List.length_map, List.length_nil] at h1 h2 h3 ⊢; omega) (n : Int) rfl).mono ?_
          rintro e w9 ⟨rfl, vb9, vd9, t9⟩
          have T9 := Lib.hid (show St B w0 w9 (HpX q cap vb9 vd9 vl ss7 (bsOf p ++ ⟨z.b.off, z.b.size + s5, false⟩ :: bsOf r) (p.map (·.d) ++ z.d :: (r).map (·.d)) (outL (outL ls (clsN y.b.size) y.b.off) (clsN z.b.size) z.b.off) l) from by rw [List.append_assoc, List.append_assoc] at t9; exact t9)
          clear t9 TX T8
          go_wp2_with fail
          have kin := FIN.out p r z.b.off (z.b.size + s5) (outL (outL ls (clsN y.b.size) y.b.off) (clsN z.b.size) z.b.off) b9 _ _ _ _ z.d k T9.out HZD.out HS7.out HPL.out (by have h1 : mp.length + (r).length ≤ 1000 := (by simp only [List.length_cons] at hcnt; omega); have h2 := HN.out; have h3 := HNK.out; have h4 := HPL.out; omega) HH9.out (by unfold freeM; rw [HJ.out]; unfold joinP; rw [HMP.out, List.getLast?_concat]; simp only [HZU.out]; rw [List.dropLast_concat]; rfl)
          have KIN := Lib.hid kin
          clear kin
          go_wp2_with fail
          with_reducible refine KIN.out.mono ?_
          rintro e wZ ⟨rfl, hZ⟩
          have HZ := Lib.hid hZ
          clear hZ
          go_wp2_with fail
          go_end0
          exact ⟨rfl, HZ.out⟩
end
end Go.Proofs.Ytenbpbnffnodhaa

/- The reference's heap: a block is cut. -/
namespace Go.Proofs.Ytenbpbnffnodhaa
open Go Go.RowKit Go.Own
set_option linter.unusedVariables false
set_option maxRecDepth 100000
section
variable {B : Nat} {w0 w : World} {l : List Ob} {q : Nat} {cap : Int} {vb vd vl : Value} {ss : List Sv} {b : List UInt8}
theorem hp_back {P : Ob} {L : List Blk} {D : List Value} {ls : Ls} (h : St B w0 w (P :: HpX q cap vb vd vl ss L D ls l)) : St B w0 w (HpX q cap vb vd vl ss L D ls (P :: l)) :=
  h.perm (List.perm_middle (l₁ := [_, _, _, _])).symm
theorem HpR.untop {P : Ob} {r : List Bd × Ls} {w' : World} (h : HpR B w0 q cap vl r (P :: l) w') : HpR B w0 q cap vl r l w' := by
  obtain ⟨vb, vd, ss, h1, h2⟩ := h
  exact ⟨vb, vd, ss, h1, h2.sub (.cons_cons _ (.cons_cons _ (.cons_cons _ (.cons_cons _ (List.sublist_cons_self ..)))))⟩
set_option maxHeartbeats 8000000 in
theorem rh_cut {mp mr : List Bd} {o s n : Nat} {u : Bool} {dx : Value} {ls : Ls} (h : St B w0 w (HpX q cap vb vd vl ss (bsOf mp ++ ⟨o, s, u⟩ :: bsOf mr) (mp.map (·.d) ++ dx :: mr.map (·.d)) ls l)) (hs : ss.length = 22)
    (hh : Hole b (bsOf mp) o s (bsOf mr) ls) (hn : isSize (n : Int) = true) (hns : n ≤ s) (hnf : NilFree (mp ++ mr)) (hdx : dx.oneCell' = true) (hcnt : mp.length + mr.length ≤ 990) (I N : Int) (hI : I = mp.length) (hN : N = n) :
    Calls Try.prog 205 #[hpP q, .int .i64 I, .int .i64 N] w fun e w' => e = .returned (.tuple #[]) ∧ HpR B w0 q cap vl (cutM mp o s dx mr n ls) l w' := by
  subst hI; subst hN
  obtain ⟨k, hk⟩ : ∃ k, k = mp.length := ⟨_, rfl⟩
  have hbm : (bsOf mp).length = k := by rw [hk]; exact List.length_map ..
  have hdm : (mp.map (·.d)).length = k := by rw [hk]; exact List.length_map ..
  rw [← hk]
  have hat := hh.at; have hsz := hh.size; have hmx := hh.max
  have hcl : (mp.map (·.d)).length = (bsOf mp).length := by rw [hdm, hbm]
  have done : ∀ w', St B w0 w' (HpX q cap vb vd vl ss (bsOf mp ++ ⟨o, s, true⟩ :: bsOf mr) (mp.map (·.d) ++ dx :: mr.map (·.d)) ls l) → s < n + 32 → HpR B w0 q cap vl (cutM mp o s dx mr n ls) l w' := fun w' h' hlt => by
    refine ⟨vb, vd, ss, hs, ?_⟩
    unfold cutM
    rw [if_pos hlt]
    show St B w0 w' (HpX q cap vb vd vl ss (bsOf (mp ++ ⟨⟨o, s, true⟩, dx⟩ :: mr)) ((mp ++ ⟨⟨o, s, true⟩, dx⟩ :: mr).map (·.d)) ls l)
    rw [bsOf_append, bsOf_cons, List.map_append, List.map_cons]
    exact h'
  obtain ⟨bb, cb, bd, cd, rfl, rfl⟩ := rm_some h
  obtain ⟨X, hX⟩ : ∃ X, X = (bsOf mp ++ ⟨o, s, u⟩ :: bsOf mr).length := ⟨_, rfl⟩
  obtain ⟨M, hM⟩ : ∃ M, M = (mp.map (·.d) ++ dx :: mr.map (·.d)).length := ⟨_, rfl⟩
  rw [← hX, ← hM] at h done
  have lt1 : k < X := by rw [hX, List.length_append, List.length_cons, hbm]; omega
  have c1 := (hp_cells h).2.1
  obtain ⟨b0, b1, b2⟩ := rm_blk h hbm
  have u1 : IntKind.i64.wrap ((s : Int) - (n : Int)) = ((s - n : Nat) : Int) := by rw [IntWalk.i64_in _ (by omega)]; omega
  have u2 : IntKind.i64.wrap ((o : Int) + (n : Int)) = ((o + n : Nat) : Int) := by rw [IntWalk.i64_in _ (by omega)]; omega
  have u3 : IntKind.i64.wrap ((k : Int) + 1) = ((k + 1 : Nat) : Int) := by rw [IntWalk.i64_in _ (by omega)]; omega
  have rng : w.rangeAt bb (k * 3) (blC ⟨o, s, u⟩) := by
    intro j v hj
    match j, hj with
    | 0, hj => cases hj; exact b0
    | 1, hj => cases hj; exact b1
    | 2, hj => cases hj; exact b2
  have T0 := Lib.hid h; have HH := Lib.hid hh; have HS := Lib.hid hs; have HNF := Lib.hid hnf; have HBM := Lib.hid hbm; have HDM := Lib.hid hdm; have HK := Lib.hid hk; have HRG := Lib.hid rng; have DN := Lib.hid done; have HIS := Lib.hid hn; have HDX := Lib.hid hdx
  clear h hh hs hnf hbm hdm hk hX hM b0 b1 b2 rng done hn hdx hat hmx hcl
  go_enter Try.func205, Try.ntmps205
  by_cases hlt : s < n + 32
  · have d1 : decide (((s - n : Nat) : Int) < 32) = true := decide_eq_true (by omega)
    go_wp2_with (first
      | (refine bl_mid rfl _ rfl bb (k * 3) rfl ⟨o, s, u⟩ HRG.out ?_)
      | (refine bk_alloc T0.out rfl rfl ?_; intro g w1 h1; have T1 := Lib.hid h1; clear h1 c1)
      | (refine bk_store T1.out 0 rfl rfl _ _ rfl rfl o s u rfl ?_; intro w2 h2; have T2 := Lib.hid (hp_back (show St B w0 w2 (BkO g o s u :: HpX q cap (.slice (some ⟨bb, 0, none⟩) X cb) (.slice (some ⟨bd, 0, none⟩) M cd) vl ss (bsOf mp ++ ⟨o, s, u⟩ :: bsOf mr) (mp.map (·.d) ++ dx :: mr.map (·.d)) ls l) from h2)); clear h2 T1; have c1 := (hp_cells T2.out).2.1)
      | (refine rm_setB (l := BkO g o s u :: l) T2.out HBM.out ⟨o, s, true⟩ 2 (by decide) (.bool true) rfl bb X cb rfl rfl 4 _ _ rfl rfl rfl rfl (by kernel_rfl) ?_; intro w3 h3; have T3 := Lib.hid h3; clear h3 T2; have c1 := (hp_cells T3.out).2.1; have q1 : w3.cell? ⟨g, 1, none⟩ = some (.int .i64 (s : Nat)) := (T3.out.row (i := 4) rfl).cell 1; have q0 : w3.cell? ⟨g, 0, none⟩ = some (.int .i64 (o : Nat)) := (T3.out.row (i := 4) rfl).cell 0; go_wp2_with fail))
    (try simp only [Exit.inBlock, Exit.then])
    refine bodyPost_ret (results_none rfl _ _ _) rfl ?_
    exact ⟨rfl, DN.out _ (T3.out.sub (.cons_cons _ (.cons_cons _ (.cons_cons _ (.cons_cons _ (List.sublist_cons_self ..)))))) hlt⟩
  · have d1 : decide (((s - n : Nat) : Int) < 32) = false := decide_eq_false (by omega)
    have hct : cutM mp o s dx mr n ls = freeM (mp ++ [⟨⟨o, n, true⟩, dx⟩]) (o + n) (s - n) mr ls := by unfold cutM; rw [if_neg hlt]
    rw [hct]
    have hcut : Hole (setB b ⟨o, n, true⟩) (bsOf (mp ++ [⟨⟨o, n, true⟩, dx⟩])) (o + n) (s - n) (bsOf mr) ls := by rw [bsOf_append]; exact (HH.out.cut HIS.out (by omega)).1
    have HC := Lib.hid hcut
    clear hct hcut
    go_wp2_with (first
      | (refine bl_mid rfl _ rfl bb (k * 3) rfl ⟨o, s, u⟩ HRG.out ?_)
      | (refine bk_alloc T0.out rfl rfl ?_; intro g w1 h1; have T1 := Lib.hid h1; clear h1 c1)
      | (refine bk_store T1.out 0 rfl rfl _ _ rfl rfl o s u rfl ?_; intro w2 h2; have T2 := Lib.hid (hp_back (show St B w0 w2 (BkO g o s u :: HpX q cap (.slice (some ⟨bb, 0, none⟩) X cb) (.slice (some ⟨bd, 0, none⟩) M cd) vl ss (bsOf mp ++ ⟨o, s, u⟩ :: bsOf mr) (mp.map (·.d) ++ dx :: mr.map (·.d)) ls l) from h2)); clear h2 T1; have c1 := (hp_cells T2.out).2.1)
      | (refine rm_setB (l := BkO g o s u :: l) T2.out HBM.out ⟨o, s, true⟩ 2 (by decide) (.bool true) rfl bb X cb rfl rfl 4 _ _ rfl rfl rfl rfl (by kernel_rfl) ?_; intro w3 h3; have T3 := Lib.hid h3; clear h3 T2; have c1 := (hp_cells T3.out).2.1; have q1 : w3.cell? ⟨g, 1, none⟩ = some (.int .i64 (s : Nat)) := (T3.out.row (i := 4) rfl).cell 1; have q0 : w3.cell? ⟨g, 0, none⟩ = some (.int .i64 (o : Nat)) := (T3.out.row (i := 4) rfl).cell 0; go_wp2_with (refine rm_setB (l := BkO g o s u :: l) T3.out HBM.out ⟨o, n, true⟩ 1 (by decide) (.int .i64 (n : Nat)) rfl bb X cb rfl rfl 3 _ _ rfl rfl rfl rfl (by kernel_rfl) ?_; intro w4 h4; have T4 := Lib.hid h4; clear h4 T3 c1 q0 q1; have q1 : w4.cell? ⟨g, 1, none⟩ = some (.int .i64 (s : Nat)) := (T4.out.row (i := 4) rfl).cell 1; have q0 : w4.cell? ⟨g, 0, none⟩ = some (.int .i64 (o : Nat)) := (T4.out.row (i := 4) rfl).cell 0; go_wp2_with fail)))
    have HT4 := Lib.hid (show St B w0 w4 (HpX q cap (.slice (some ⟨bb, 0, none⟩) X cb) (.slice (some ⟨bd, 0, none⟩) M cd) vl ss ((bsOf mp ++ [⟨o, n, true⟩]) ++ bsOf mr) ((mp.map (·.d) ++ [dx]) ++ mr.map (·.d)) ls (BkO g o s u :: l)) from by rw [List.append_assoc, List.append_assoc]; exact T4.out)
    have HNF2 := Lib.hid (show ∀ x ∈ mp ++ mr, x.d.oneCell' = true ∧ (x.b.used = false → x.d = none0) from HNF.out)
    have kc : Calls Try.prog 233 #[hpP q, .int .i64 ((k : Int) + 1), .agg #[.int .i64 ((o : Int) + (n : Int)), .int .i64 ((s - n : Nat) : Int), .bool true]] w4 _ := (rm_put (l := BkO g o s u :: l) (P := bsOf mp ++ [⟨o, n, true⟩]) (R := bsOf mr) (C := mp.map (·.d) ++ [dx]) (E := mr.map (·.d)) (x := ⟨o + n, s - n, true⟩) (n := k + 1) HT4.out (by rw [List.length_append, HBM.out, List.length_singleton]) (by rw [List.length_append, HDM.out, List.length_singleton]) (by unfold bsOf; rw [List.length_map, List.length_map]) (fun v hv => by
        simp only [List.mem_append, List.mem_map, List.mem_cons, List.not_mem_nil, or_false] at hv
        rcases hv with (⟨x, hx, rfl⟩ | rfl) | ⟨x, hx, rfl⟩
        · exact (HNF2.out x (List.mem_append_left _ hx)).1
        · exact HDX.out
        · exact (HNF2.out x (List.mem_append_right _ hx)).1) (by have := HBM.out; simp only [List.length_append, List.length_cons, List.length_nil] at *; unfold bsOf at *; simp only [List.length_map] at *; omega) ((k : Int) + 1) ((o : Int) + (n : Int)) ((s - n : Nat) : Int) (by omega) (by show (o : Int) + (n : Int) = ((o + n : Nat) : Int); omega) rfl)
    with_reducible refine kc.mono ?_
    clear kc
    rintro e w5 ⟨rfl, vb5, vd5, t5⟩
    have T5 := Lib.hid (show St B w0 w5 (HpX q cap vb5 vd5 vl ss (bsOf (mp ++ [⟨⟨o, n, true⟩, dx⟩]) ++ ⟨o + n, s - n, true⟩ :: bsOf mr) ((mp ++ [(⟨⟨o, n, true⟩, dx⟩ : Bd)]).map (·.d) ++ none0 :: mr.map (·.d)) ls (BkO g o s u :: l)) from by rw [bsOf_append, List.map_append]; exact t5)
    clear t5 T4 c1 q0 q1
    go_wp2_with fail
    have HNF3 := Lib.hid (show NilFree ((mp ++ [⟨⟨o, n, true⟩, dx⟩]) ++ mr) from fun x hx => by
        rcases List.mem_append.1 hx with h1 | h1
        · rcases List.mem_append.1 h1 with h2 | h2
          · exact HNF2.out x (List.mem_append_left _ h2)
          · rw [List.mem_singleton.1 h2]; exact ⟨HDX.out, fun h => by cases h⟩
        · exact HNF2.out x (List.mem_append_right _ h1))
    with_reducible refine (rh_give (mp := mp ++ [⟨⟨o, n, true⟩, dx⟩]) T5.out HS.out HC.out HNF3.out (by rw [List.length_append, List.length_singleton]; omega) ((k : Int) + 1) (by rw [List.length_append, List.length_singleton, HK.out]; omega)).mono ?_
    rintro e w6 ⟨rfl, t6⟩
    have T6 := Lib.hid t6
    clear t6 T5
    go_wp2_with fail
    go_end0
    exact ⟨rfl, T6.out.untop⟩
end
end Go.Proofs.Ytenbpbnffnodhaa

/- Layer 10: behind Rebuild the lists have just the free blocks; what Find tells. -/
namespace Go.Own
end Go.Own
namespace Go.Proofs.Ytenbpbnffnodhaa
open Go Go.RowKit Go.Own
set_option linter.unusedVariables false
set_option maxRecDepth 100000
end Go.Proofs.Ytenbpbnffnodhaa

/- What stays true of a heap's blocks, whatever is done; when there is room. No program. -/
namespace Go.Proofs.Ytenbpbnffnodhaa
open Go Go.RowKit Go.Own
set_option linter.unusedVariables false
set_option maxRecDepth 100000
theorem nf_app {a b : List Bd} : NilFree (a ++ b) ↔ NilFree a ∧ NilFree b := List.forall_mem_append
theorem nf_cons {x : Bd} {m : List Bd} : NilFree (x :: m) ↔ (x.d.oneCell' = true ∧ (x.b.used = false → x.d = none0)) ∧ NilFree m := List.forall_mem_cons
theorem nf_one {x : Bd} (h : x.d.oneCell' = true) (hu : x.b.used = true) : NilFree [x] := nf_cons.2 ⟨⟨h, fun h2 => by rw [hu] at h2; cases h2⟩, fun _ h => by cases h⟩
theorem nf_joinN {post : List Bd} {s : Nat} {ls : Ls} (h : NilFree post) : NilFree (joinN post s ls).1 := by
  cases post with
  | nil => exact h
  | cons y r =>
    unfold joinN; simp only
    split
    · exact h
    · exact (nf_cons.1 h).2
theorem nf_joinP {pre : List Bd} {o s : Nat} {ls : Ls} (h : NilFree pre) : NilFree (joinP pre o s ls).1 := by
  unfold joinP
  cases pre.getLast? with
  | none => exact h
  | some y =>
    simp only
    split
    · exact h
    · exact fun x hx => h x ((List.dropLast_sublist _).subset hx)
theorem nf_freeM {pre post : List Bd} {o s : Nat} {ls : Ls} (h1 : NilFree pre) (h2 : NilFree post) : NilFree (freeM pre o s post ls).1 :=
  nf_app.2 ⟨nf_joinP h1, nf_cons.2 ⟨⟨by simp [Value.oneCell'], fun _ => rfl⟩, nf_joinN h2⟩⟩
theorem nf_cutM {pre post : List Bd} {o s n : Nat} {d : Value} {ls : Ls} (h1 : NilFree pre) (h2 : NilFree post) (hd : d.oneCell' = true) : NilFree (cutM pre o s d post n ls).1 := by
  unfold cutM
  split
  · exact nf_app.2 ⟨h1, nf_cons.2 ⟨⟨hd, fun h => by cases h⟩, h2⟩⟩
  · exact nf_freeM (nf_app.2 ⟨h1, nf_one hd rfl⟩) h2
/-- What holds of the blocks between any two deeds. -/
def Fine (m : List Bd) : Prop := Apart (bsOf m) ∧ NilFree m
theorem fine_nil : Fine [] := ⟨trivial, fun _ h => by cases h⟩
theorem fine_parts {m : List Bd} {i : Nat} {x : Bd} (h : Fine m) (hx : m[i]? = some x) : Fine (m.take i) ∧ Fine (m.drop (i + 1)) ∧ x.d.oneCell' = true := by
  have h1 := h.1
  have h2 := h.2
  rw [bsOf_split hx] at h1
  rw [split_at hx] at h2
  have a1 := Apart.append.1 h1
  have a2 := nf_app.1 h2
  have a3 := nf_cons.1 a2.2
  exact ⟨⟨a1.1, a2.1⟩, ⟨a1.2.1.2, a3.2⟩, a3.1.1⟩
theorem fine_giveAt {m : List Bd} {i : Nat} {ls : Ls} (h : Fine m) : Fine (giveAt m i ls).1 := by
  unfold giveAt
  cases hx : m[i]? with
  | none => exact h
  | some x =>
    obtain ⟨h1, h2, _⟩ := fine_parts h hx
    exact ⟨freeM_apart h1.1 h2.1, nf_freeM h1.2 h2.2⟩
theorem fine_cutAt {m : List Bd} {i n : Nat} {ls : Ls} (h : Fine m) : Fine (cutAt m i n ls).1 := by
  unfold cutAt
  cases hx : m[i]? with
  | none => exact h
  | some x =>
    obtain ⟨h1, h2, h3⟩ := fine_parts h hx
    exact ⟨cutM_apart h1.1 h2.1, nf_cutM h1.2 h2.2 h3⟩
theorem fine_tailM {m m' : List Bd} {cap n o : Nat} {ls ls' : Ls} (h : Fine m) (ht : tailM m cap n ls = some (o, m', ls')) : Fine m' := by
  unfold tailM at ht
  split at ht
  · cases ht
    exact ⟨by rw [bsOf_append]; exact Apart.snoc.2 ⟨h.1, fun _ _ => .inr rfl⟩, nf_app.2 ⟨h.2, nf_one (by simp [Value.oneCell']) rfl⟩⟩
  · cases ht
theorem fine_takeTail {m m' : List Bd} {cap n o : Nat} {ls ls' : Ls} (h : Fine m) (ht : takeTail m cap n ls = some (o, m', ls')) : Fine m' := by
  unfold takeTail at ht
  cases hl : m.getLast? with
  | none => rw [hl] at ht; exact fine_tailM h ht
  | some x =>
    rw [hl] at ht
    simp only at ht
    split at ht
    · exact fine_tailM h ht
    · split at ht
      · cases ht
        have h1 := h.1
        have h2 := h.2
        rw [getLast_split hl] at h1 h2
        rw [bsOf_append] at h1
        have a1 := Apart.append.1 h1
        have a2 := nf_app.1 h2
        exact ⟨by rw [bsOf_append]; exact Apart.snoc.2 ⟨a1.1, fun _ _ => .inr rfl⟩, nf_app.2 ⟨a2.1, nf_one (nf_cons.1 a2.2).1.1 rfl⟩⟩
      · cases ht
theorem fine_takeM {m m' : List Bd} {cap n o : Nat} {ls ls' : Ls} (h : Fine m) (ht : takeM m cap n ls = some (o, m', ls')) : Fine m' := by
  unfold takeM at ht
  cases hf : findL (bsOf m) ls n with
  | none => rw [hf] at ht; exact fine_takeTail h ht
  | some a =>
    rw [hf] at ht
    simp only at ht
    cases ha : atI m a with
    | none => rw [ha] at ht; cases ht
    | some i =>
      rw [ha] at ht
      simp only at ht
      cases hx : m[i]? with
      | none => rw [hx] at ht; cases ht
      | some x =>
        rw [hx] at ht
        cases ht
        exact fine_cutAt h
theorem fine_giveM {m : List Bd} {o : Int} {ls : Ls} {q : List Bd × Ls} (h : Fine m) (ht : giveM m o ls = some q) : Fine q.1 := by
  unfold giveM at ht
  cases hz : usedZ m o with
  | none => rw [hz] at ht; cases ht
  | some j => rw [hz] at ht; cases ht; exact fine_giveAt h
theorem fine_trimM {m : List Bd} {o : Int} {n : Nat} {ls : Ls} {q : List Bd × Ls} (h : Fine m) (ht : trimM m o n ls = some q) : Fine q.1 := by
  unfold trimM at ht
  cases hz : usedZ m o with
  | none => rw [hz] at ht; cases ht
  | some j =>
    rw [hz] at ht
    simp only at ht
    cases hx : m[j]? with
    | none => rw [hx] at ht; cases ht
    | some x =>
      rw [hx] at ht
      simp only at ht
      split at ht
      · cases ht
      · cases ht; exact fine_cutAt h
theorem take_found {b : List UInt8} {m : List Bd} {ls : Ls} (h : Right b (bsOf m) ls) {n a : Nat} (hn : isSize (n : Int) = true) (hf : findL (bsOf m) ls n = some a) :
    ∃ j X, m[j]? = some X ∧ X.b.off = a ∧ X.b.used = false ∧ n ≤ X.b.size ∧ X.b ∈ bsOf m ∧ ∀ cap, takeM m cap n ls = some (a, cutM (m.take j) a X.b.size X.d (m.drop (j + 1)) n (outL ls (clsN X.b.size) a)) := by
  obtain ⟨x0, hx0, hxo, hxu, hxn, ho0⟩ := findL_some h hn hf
  obtain ⟨X, hX, rfl⟩ := List.mem_map.1 hx0
  obtain ⟨j, hj⟩ := List.getElem?_of_mem hX
  subst hxo
  have hat := h.offs.atI hj rfl
  refine ⟨j, X, hj, rfl, hxu, hxn, hx0, fun cap => ?_⟩
  unfold takeM cutAt
  rw [hf]
  simp only [hat, hj]
end Go.Proofs.Ytenbpbnffnodhaa

/- The reference's heap: which block is found. -/
namespace Go.Own
open Go Go.RowKit
/-- What is found from the k-th of list c on. -/
def foundF (bs : List Blk) (ls : Ls) (n c k : Nat) : Option Nat := match ((ls c).drop k).find? (fun o => decide (n ≤ sizeAt bs o)) with
  | some o => some o
  | none => findIn bs ls n (21 - c) (c + 1)
theorem foundF_first (bs : List Blk) (ls : Ls) (n : Nat) {c : Nat} (hc : c < 22) : findIn bs ls n (22 - c) c = foundF bs ls n c 0 := by
  rw [show 22 - c = (21 - c) + 1 by omega]
  rfl
theorem foundF_hit {bs : List Blk} {ls : Ls} {n c k : Nat} (hk : k < (ls c).length) (h : n ≤ sizeAt bs (ls c)[k]) : foundF bs ls n c k = some (ls c)[k] := by
  unfold foundF
  rw [List.drop_eq_getElem_cons hk, List.find?_cons, decide_eq_true h]
theorem foundF_miss {bs : List Blk} {ls : Ls} {n c k : Nat} (hk : k < (ls c).length) (h : ¬ n ≤ sizeAt bs (ls c)[k]) : foundF bs ls n c k = foundF bs ls n c (k + 1) := by
  unfold foundF
  rw [List.drop_eq_getElem_cons hk, List.find?_cons, decide_eq_false h]
theorem foundF_end {bs : List Blk} {ls : Ls} {n c : Nat} : foundF bs ls n c (ls c).length = findIn bs ls n (21 - c) (c + 1) := by
  unfold foundF
  rw [List.drop_length]; rfl
end Go.Own
namespace Go.Proofs.Ytenbpbnffnodhaa
open Go Go.RowKit Go.Own
set_option linter.unusedVariables false
set_option maxRecDepth 100000
section
variable {B : Nat} {w0 w : World} {l : List Ob} {q : Nat} {cap : Int} {vb vd vl : Value} {ss : List Sv} {m : List Bd} {ls : Ls} {b : List UInt8}
theorem tile_count {b : List UInt8} {e : Nat} : ∀ {L : List Blk} {o : Nat}, TileTo b e o L → o + 32 * L.length ≤ e
  | [], o, h => by have h : o = e := h; simp only [List.length_nil]; omega
  | x :: r, o, h => by have h1 := tile_count h.2; have h2 := (isSize_iff _).1 (blkAt_isSize h.1); simp only [List.length_cons]; omega
theorem right_count' (hR : Right b (bsOf m) ls) : m.length ≤ 600 := by
  have h1 := tile_count hR.tile
  have h2 := hR.max
  unfold bsOf at h1
  rw [List.length_map] at h1
  omega
/-- Of a block in a list: where it stands among the blocks. -/
theorem listed (hR : Right b (bsOf m) ls) {c k : Nat} (hc : c < 22) (hk : k < (ls c).length) : ∃ j X, m[j]? = some X ∧ X.b.off = (ls c)[k] ∧ sizeAt (bsOf m) (ls c)[k] = X.b.size ∧ atI m (ls c)[k] = some j := by
  obtain ⟨x, hx, ho, hu, _⟩ := hR.lists.mem c hc (ls c)[k] (List.getElem_mem hk)
  obtain ⟨X, hX, rfl⟩ := List.mem_map.1 hx
  obtain ⟨j, hj⟩ := List.getElem?_of_mem hX
  exact ⟨j, X, hj, ho, by rw [← ho]; exact sizeAt_mem hR.good hx, hR.offs.atI hj ho⟩
set_option maxHeartbeats 8000000 in
theorem rh_Find (h : St B w0 w (HpL q cap vb vd vl ss m ls l)) (hs : ss.length = 22) (hR : Right b (bsOf m) ls) (n : Nat) (hn : isSize (n : Int) = true) :
    Calls Try.prog 232 #[hpP q, .int .i64 n] w fun e w' => e = .returned (.int .i64 (ixV ((findL (bsOf m) ls n).bind (atI m)))) ∧ w = w' := by
  have hsz := (isSize_iff _).1 hn
  have hm := right_count' hR
  have kc0 := ref_Class w (n : Int) (by omega) (by omega)
  have hcs := clsN_of hn
  rw [hcs.2] at kc0
  have hC22 := hcs.1
  obtain ⟨R, hRR⟩ : ∃ R, findL (bsOf m) ls n = R := ⟨_, rfl⟩
  have hF : findIn (bsOf m) ls n (22 - clsN n) (clsN n) = R := hRR
  rw [hRR]
  generalize clsN n = C at *
  have hat := fun o : Int => rh_At h (by omega : m.length ≤ 2000) o
  obtain ⟨gl, cl, _, _, rfl, hcl1, hcl2, _, _⟩ := hp_ls h hs 0 (by decide)
  have hmx : ∀ c, c < 22 → w.cell? ⟨gl, c, none⟩ = some (.slice (sv ss c).a (ls c).length (sv ss c).c) ∧ Sl w (sv ss c).a (ls c).length (sv ss c).c 1 (ints (ls c)) := fun c hc => hp_lst h (k := 3) rfl hs c hc
  obtain ⟨ab, cb, rfl, hcap, hroom, hbl⟩ := hp_bl h
  obtain ⟨c0, c1, c2, c3⟩ := hp_cells h
  have KC := Lib.hid kc0; have HF := Lib.hid hF; have HAT := Lib.hid hat; have HMX := Lib.hid hmx; have HBL := Lib.hid hbl
  have HLS := Lib.hid (fun (c k : Nat) (hc : c < 22) (hk : k < (ls c).length) => listed hR hc hk)
  have HC := Lib.hid hC22
  clear kc0 hF hat hmx hbl h hs hR hn hRR hcs c0 c2
  go_enter Try.func232, Try.ntmps232
  go_wp2_with fail
  have kc := KC.out
  with_reducible refine kc.mono ?_
  clear kc
  rintro e w' ⟨rfl, rfl⟩
  go_wp2
  go_loopw [5] (fun vc wr => ∃ c : Nat, c ≤ 22 ∧ vc = .int .i64 c ∧ findIn (bsOf m) ls n (22 - c) c = R ∧ wr = w) (fun vc _ => 22 - (intOf vc).toNat)
  case atStart => exact ⟨C, by have := HC.out; omega, rfl, HF.out, rfl⟩
  case round =>
    obtain ⟨c, hc, rfl, hR, rfl⟩ := hrel
    by_cases hlt : c < 22
    · rw [foundF_first _ _ _ hlt] at hR
      obtain ⟨hlc, hsl⟩ := HMX.out c hlt
      have d2 : decide ((c : Int) < 22) = true := decide_eq_true (by omega)
      have hlcap := Sl.cap hsl; have hlrm := Sl.room hsl
      have HSL := Lib.hid hsl; have HR := Lib.hid hR; have HLT := Lib.hid hlt
      clear hsl hR HF KC HC
      generalize (sv ss c).a = ax at *
      generalize (sv ss c).c = cx at *
      go_wp2
      go_loopw [6] (fun vk wr2 => ∃ k : Nat, k ≤ (ls c).length ∧ vk = .int .i64 k ∧ foundF (bsOf m) ls n c k = R ∧ wr2 = wr) (fun vk _ => (ls c).length - (intOf vk).toNat)
      case atStart => exact ⟨0, Nat.zero_le _, rfl, HR.out, rfl⟩
      case round =>
        obtain ⟨k, hk, rfl, hR, rfl⟩ := hrel
        clear HR
        by_cases hkl : k < (ls c).length
        · obtain ⟨j, X, hj, ho, hz, ha⟩ := HLS.out c k HLT.out hkl
          obtain ⟨bb, bo, e6, hcell⟩ := Sl.cells HSL.out k (.int .i64 ((ls c)[k] : Nat)) (by simp [ints, hkl])
          subst e6
          have d3 : decide ((k : Int) < ((ls c).length : Int)) = true := decide_eq_true (by omega)
          have hjl : j < m.length := (List.getElem?_eq_some_iff.1 hj).1
          have hj2 : m[j] = X := (List.getElem?_eq_some_iff.1 hj).2
          obtain ⟨bb2, rfl, b0, b1, b2⟩ := HBL.out j hjl
          rw [hj2] at b1
          have ka := HAT.out ((ls c)[k] : Nat)
          have hhit := fun h : n ≤ X.b.size => (foundF_hit (bs := bsOf m) (ls := ls) hkl (by rw [hz]; exact h)).symm.trans hR
          have hmiss := fun h : ¬ n ≤ X.b.size => (foundF_miss (bs := bsOf m) (ls := ls) hkl (by rw [hz]; exact h)).symm.trans hR
          have hatz : atZ m ((ls c)[k] : Nat) = some j := by unfold atZ; rw [if_pos (by omega), Int.toNat_natCast]; exact ha
          rw [hatz] at ka
          have KA := Lib.hid (show Calls Try.prog 209 #[hpP q, .int .i64 ((ls c)[k] : Nat)] wr fun e w' => e = .returned (.int .i64 (j : Int)) ∧ wr = w' from ka)
          have HHIT := Lib.hid hhit; have HMISS := Lib.hid hmiss; have HA := Lib.hid ha
          have hcell : wr.cell? ⟨bb, bo + k, none⟩ = some (.int .i64 ((ls c)[k] : Nat)) := hcell
          clear ka hhit hmiss ha hatz hj hj2 ho hz hR b0 b2
          generalize (ls c)[k] = O at *
          by_cases hle : n ≤ X.b.size
          · have d4 : decide ((X.b.size : Int) ≥ (n : Int)) = true := decide_eq_true (by omega)
            have d4' : decide ((n : Int) ≤ (X.b.size : Int)) = true := decide_eq_true (by omega)
            have d4'' : decide (n ≤ X.b.size) = true := decide_eq_true hle
            have HV := Lib.hid (HHIT.out hle)
            clear hle
            go_wp2_with fail
            have kc := KA.out
            with_reducible refine kc.mono ?_
            clear kc
            rintro e w6 ⟨rfl, rfl⟩
            go_wp2
            go_ret
            refine ⟨?_, rfl⟩
            rw [← HV.out, Option.bind_some, HA.out]
            rfl
          · have d4 : decide ((X.b.size : Int) ≥ (n : Int)) = false := decide_eq_false (by omega)
            have d4' : decide ((n : Int) ≤ (X.b.size : Int)) = false := decide_eq_false (by omega)
            have d4'' : decide (n ≤ X.b.size) = false := decide_eq_false hle
            have HV := Lib.hid (HMISS.out hle)
            clear hle
            go_wp2_with fail
            have kc := KA.out
            with_reducible refine kc.mono ?_
            clear kc
            rintro e w6 ⟨rfl, rfl⟩
            go_wp2
            exact ⟨⟨k + 1, hkl, by go_num, HV.out, trivial⟩, by simp [intOf]; omega⟩
        · obtain rfl : k = (ls c).length := by omega
          rw [foundF_end] at hR
          have HR := Lib.hid (show findIn (bsOf m) ls n (22 - (c + 1)) (c + 1) = R from by rw [show 22 - (c + 1) = 21 - c by omega]; exact hR)
          have d3 : decide (((ls c).length : Int) < ((ls c).length : Int)) = false := decide_eq_false (by omega)
          clear hR
          go_wp2
          exact ⟨⟨c + 1, HLT.out, by go_num, HR.out, trivial⟩, by simp [intOf]; omega⟩
    · obtain rfl : c = 22 := by omega
      have HR := Lib.hid (show none = R from hR)
      clear hR HF KC
      go_wp2
      go_ret
      refine ⟨?_, rfl⟩
      rw [← HR.out]
      rfl
end
end Go.Proofs.Ytenbpbnffnodhaa
