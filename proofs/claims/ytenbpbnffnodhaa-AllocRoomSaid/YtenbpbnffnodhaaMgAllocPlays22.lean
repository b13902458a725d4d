/- Texts of the proof of 'AllocPlays', part 22: words on memory, contracts of functions, plain laws. No condition. -/
import Derived.Test.YtenbpbnffnodhaaMgAllocPlays6
import Derived.Test.YtenbpbnffnodhaaMgAllocPlays7
import Derived.Test.YtenbpbnffnodhaaMgAllocPlays8
import Derived.Test.YtenbpbnffnodhaaMgAllocPlays21
set_option linter.unusedSimpArgs false
set_option linter.unusedVariables false
/- Layer 12's statements: a deed. -/
namespace Go.Proofs.Ytenbpbnffnodhaa
open Go Go.RowKit Go.Own
set_option linter.unusedVariables false
set_option maxRecDepth 100000
section
variable {B : Nat} {w0 w : World} {l : List Ob} {q p bs cp : Nat} {cap : Int} {vb vd vl : Value} {ss : List Sv} {m : List Bd} {ls : Ls} {b : List UInt8}
/-- An arena and its model, that have the same blocks and lists. -/
def AlS (B : Nat) (w0 w : World) (q p bs cp : Nat) (l : List Ob) (m : List Bd) (ls : Ls) (b : List UInt8) : Prop :=
  ∃ vb vd vl ss, ss.length = 22 ∧ Right b (bsOf m) ls ∧ Fine m ∧ St B w0 w (HpL q cp vb vd vl ss m ls (ArT p ⟨bs, cp, b⟩ :: l))
abbrev DdO (g : Nat) (W N M : Int) (R : Bool) : Ob := RowO g 145 [.int .i64 W, .int .i64 N, .int .i64 M, .bool R]
theorem dd_back {P X : Ob} (h : St B w0 w (P :: HpL q cap vb vd vl ss m ls (X :: l))) : St B w0 w (HpL q cap vb vd vl ss m ls (X :: P :: l)) :=
  h.perm (List.perm_middle (l₁ := [_, _, _, _, _])).symm
theorem als_done {r : List Bd × Ls} {P : Ob} (h : HpR B w0 q cp vl r (ArT p ⟨bs, cp, b⟩ :: P :: l) w) (hR : Right b (bsOf r.1) r.2) (hF : Fine r.1) : ∃ m' ls' b', AlS B w0 w q p bs cp l m' ls' b' := by
  obtain ⟨vb, vd, ss, h1, h2⟩ := h
  exact ⟨r.1, r.2, b, vb, vd, vl, ss, h1, hR, hF, h2.sub (.cons_cons _ (.cons_cons _ (.cons_cons _ (.cons_cons _ (.cons_cons _ (List.sublist_cons_self ..))))))⟩
theorem cls_no {s : Int} (h : isSize s = false) : cls s = -1 := by unfold cls; rw [h]; rfl
set_option maxHeartbeats 32000000 in
theorem law12_Do (h : AlS B w0 w q p bs cp l m ls b) (W N M : Int) (R : Bool) (w0' : -9223372036854775808 ≤ W ∧ W ≤ 9223372036854775807) (n0 : -9223372036854775808 ≤ N ∧ N ≤ 9223372036854775807) (m0 : -9223372036854775808 ≤ M ∧ M ≤ 9223372036854775807) :
    Calls Try.prog 105 #[arP p, hpP q, .agg #[.int .i64 W, .int .i64 N, .int .i64 M, .bool R]] w fun e w' => e = .returned (.int .i64 1) ∧ ∃ m' ls' b', AlS B w0 w' q p bs cp l m' ls' b' := by
  obtain ⟨vb, vd, vl, ss, hs, hR, hF, h⟩ := h
  have hm := right_count' hR
  have hcaps := ar_caps (i := 4) (show St B w0 w ((HpL q cp vb vd vl ss m ls (ArT p ⟨bs, cp, b⟩ :: l)).set 4 (ArT p ⟨bs, cp, b⟩)) from h) (by simp only [List.length_cons]; omega)
  have KP := Lib.hid (fun w => law_Pick w W 6 w0'.1 w0'.2 (by decide) (by decide))
  have p0 : 0 ≤ W % 6 := Int.emod_nonneg _ (by decide)
  have p1 : W % 6 < 6 := Int.emod_lt_of_pos _ (by decide)
  obtain ⟨P, hP⟩ : ∃ P, P = W % 6 := ⟨_, rfl⟩
  rw [← hP] at KP p0 p1
  have H := Lib.hid h; have HS := Lib.hid hs; have HR := Lib.hid hR; have HF := Lib.hid hF; have HM := Lib.hid (show m.length ≤ 2000 by omega); have HCP := Lib.hid hcaps; have HN := Lib.hid n0; have HMM := Lib.hid m0; have HP := Lib.hid (And.intro p0 p1)
  clear h hs hR hF hm hcaps n0 m0 w0' hP p0 p1
  cases R with
  | true =>
    by_cases p3 : P = 3
    · subst p3
      go_enter Try.func105, Try.ntmps105
      go_wp2_with fail
      have h1 := H.out.addRow 145 [.int .i64 W, .int .i64 N, .int .i64 M, .bool true]
      generalize w.alloc (Obj.cells #[Value.int IntKind.i64 W, Value.int IntKind.i64 N, Value.int IntKind.i64 M, Value.bool true] 145 (0, 0)) = w1 at h1 ⊢
      generalize w.heap.size = g at h1 ⊢
      have T1 := Lib.hid (dd_back h1)
      clear h1
      have k0 : w1.cell? ⟨g, 0, none⟩ = some (.int .i64 W) := (T1.out.row (i := 5) rfl).cell 0
      have k1 : w1.cell? ⟨g, 1, none⟩ = some (.int .i64 N) := (T1.out.row (i := 5) rfl).cell 1
      have k2 : w1.cell? ⟨g, 2, none⟩ = some (.int .i64 M) := (T1.out.row (i := 5) rfl).cell 2
      have k3 : w1.cell? ⟨g, 3, none⟩ = some (.bool true) := (T1.out.row (i := 5) rfl).cell 3
      have T2 := T1
      clear T1
      go_wp2_with fail
      have kc := KP.out w1
      with_reducible refine kc.mono ?_
      clear kc
      rintro e w' ⟨rfl, rfl⟩
      have hl4 : 4 < (HpL q cp vb vd vl ss m ls (ArT p ⟨bs, cp, b⟩ :: DdO g W N M true :: l)).length := by simp only [List.length_cons]; omega
      have HL4 := Lib.hid hl4
      clear hl4
      cases hg : giveM m N ls with
      | none =>
        have HG := Lib.hid hg
        clear hg
        go_wp2_with fail
        have kc := al_Give (i := 4) (show St B w0 w1 ((HpL q cp vb vd vl ss m ls (ArT p ⟨bs, cp, b⟩ :: DdO g W N M true :: l)).set 4 (ArT p ⟨bs, cp, b⟩)) from T2.out) HL4.out HR.out N
        rw [HG.out] at kc
        with_reducible refine kc.mono ?_
        clear kc
        rintro e w3 ⟨rfl, t3⟩
        have T3 := Lib.hid t3
        clear t3
        go_wp2_with fail
        have kc := code_of w3 3 (by decide) (by decide)
        with_reducible refine kc.mono ?_
        clear kc
        rintro e w' ⟨rfl, rfl⟩
        go_wp2_with fail
        have kc := rh_Give (m := m) (l := ArT p ⟨bs, cp, b⟩ :: DdO g W N M true :: l) T3.out HS.out HR.out HF.out N
        rw [HG.out] at kc
        with_reducible refine kc.mono ?_
        clear kc
        rintro e w4 ⟨rfl, t4⟩
        have T4 := Lib.hid t4
        clear t4
        go_wp2
        go_ret
        exact ⟨rfl, als_done T4.out HR.out HF.out⟩
      | some r =>
        have HG := Lib.hid hg
        clear hg
        go_wp2_with fail
        have kc := al_Give (i := 4) (show St B w0 w1 ((HpL q cp vb vd vl ss m ls (ArT p ⟨bs, cp, b⟩ :: DdO g W N M true :: l)).set 4 (ArT p ⟨bs, cp, b⟩)) from T2.out) HL4.out HR.out N
        rw [HG.out] at kc
        with_reducible refine kc.mono ?_
        clear kc
        rintro e w3 ⟨rfl, b3', t3, hn3, hu3, hr3⟩
        have T3 := Lib.hid t3
        have HN3 := Lib.hid hn3
        have HU3 := Lib.hid hu3
        have HR3 := Lib.hid hr3
        clear t3 hn3 hu3 hr3
        go_wp2_with fail
        have kc := code_nil w3
        with_reducible refine kc.mono ?_
        clear kc
        rintro e w' ⟨rfl, rfl⟩
        go_wp2_with fail
        have kc := rh_Give (m := m) (l := ArT p ⟨bs, cp, b3'⟩ :: DdO g W N M true :: l) T3.out HS.out HR.out HF.out N
        rw [HG.out] at kc
        with_reducible refine kc.mono ?_
        clear kc
        rintro e w4 ⟨rfl, t4⟩
        have T4 := Lib.hid t4
        clear t4
        go_wp2
        go_ret
        exact ⟨rfl, als_done T4.out HR3.out (fine_giveM HF.out HG.out)⟩
    by_cases p4 : P = 4
    · subst p4
      go_enter Try.func105, Try.ntmps105
      go_wp2_with fail
      have h1 := H.out.addRow 145 [.int .i64 W, .int .i64 N, .int .i64 M, .bool true]
      generalize w.alloc (Obj.cells #[Value.int IntKind.i64 W, Value.int IntKind.i64 N, Value.int IntKind.i64 M, Value.bool true] 145 (0, 0)) = w1 at h1 ⊢
      generalize w.heap.size = g at h1 ⊢
      have T1 := Lib.hid (dd_back h1)
      clear h1
      have k0 : w1.cell? ⟨g, 0, none⟩ = some (.int .i64 W) := (T1.out.row (i := 5) rfl).cell 0
      have k1 : w1.cell? ⟨g, 1, none⟩ = some (.int .i64 N) := (T1.out.row (i := 5) rfl).cell 1
      have k2 : w1.cell? ⟨g, 2, none⟩ = some (.int .i64 M) := (T1.out.row (i := 5) rfl).cell 2
      have k3 : w1.cell? ⟨g, 3, none⟩ = some (.bool true) := (T1.out.row (i := 5) rfl).cell 3
      have T2 := T1
      clear T1
      go_wp2_with fail
      have kc := KP.out w1
      with_reducible refine kc.mono ?_
      clear kc
      rintro e w' ⟨rfl, rfl⟩
      have hl4 : 4 < (HpL q cp vb vd vl ss m ls (ArT p ⟨bs, cp, b⟩ :: DdO g W N M true :: l)).length := by simp only [List.length_cons]; omega
      have HL4 := Lib.hid hl4
      clear hl4
      go_wp2_with fail
      have kc := law12_Size w1 M true HMM.out.1 HMM.out.2
      with_reducible refine kc.mono ?_
      clear kc
      rintro e w' ⟨⟨s', rfl, hz0, hz1⟩, rfl⟩
      have HZ0 := Lib.hid hz0
      have HZ1 := Lib.hid hz1
      clear hz0 hz1
      cases hz : isSize s' with
      | false =>
        have HZ := Lib.hid hz
        clear hz
        go_wp2_with fail
        have kc := al_Trim_bad (p := p) T2.out N s' HZ0.out HZ1.out HZ.out
        with_reducible refine kc.mono ?_
        clear kc
        rintro e w3 ⟨rfl, t3⟩
        have T3 := Lib.hid t3
        clear t3
        go_wp2_with fail
        have kc := code_of w3 1 (by decide) (by decide)
        with_reducible refine kc.mono ?_
        clear kc
        rintro e w' ⟨rfl, rfl⟩
        go_wp2_with fail
        have kc := ref_Class w3 s' HZ0.out HZ1.out
        rw [cls_no HZ.out] at kc
        with_reducible refine kc.mono ?_
        clear kc
        rintro e w' ⟨rfl, rfl⟩
        go_wp2
        go_ret
        exact ⟨rfl, als_done (r := (m, ls)) ⟨_, _, _, HS.out, T3.out⟩ HR.out HF.out⟩
      | true =>
        have hz2 := (isSize_iff _).1 hz
        obtain ⟨n, rfl⟩ : ∃ n : Nat, s' = n := ⟨s'.toNat, by omega⟩
        have HZ := Lib.hid hz
        have hcn := clsN_of hz
        have HCN := Lib.hid hcn
        have d7 : decide ((clsN n : Int) ≥ 0) = true := decide_eq_true (by omega)
        clear hz hz2 hcn
        cases hg : trimM m N n ls with
        | none =>
          have HG := Lib.hid hg
          clear hg
          go_wp2_with fail
          have kc := al_Trim (i := 4) (show St B w0 w1 ((HpL q cp vb vd vl ss m ls (ArT p ⟨bs, cp, b⟩ :: DdO g W N M true :: l)).set 4 (ArT p ⟨bs, cp, b⟩)) from T2.out) HL4.out HR.out N n HZ.out
          rw [HG.out] at kc
          with_reducible refine kc.mono ?_
          clear kc
          rintro e w3 ⟨rfl, t3⟩
          have T3 := Lib.hid t3
          clear t3
          go_wp2_with fail
          have kc := code_of w3 3 (by decide) (by decide)
          with_reducible refine kc.mono ?_
          clear kc
          rintro e w' ⟨rfl, rfl⟩
          go_wp2_with fail
          have kc := ref_Class w3 (n : Int) HZ0.out HZ1.out
          rw [HCN.out.2] at kc
          with_reducible refine kc.mono ?_
          clear kc
          rintro e w' ⟨rfl, rfl⟩
          go_wp2_with fail
          have kc := rh_Trim (m := m) (l := ArT p ⟨bs, cp, b⟩ :: DdO g W N M true :: l) T3.out HS.out HR.out HF.out N n HZ.out
          rw [HG.out] at kc
          with_reducible refine kc.mono ?_
          clear kc
          rintro e w4 ⟨rfl, t4⟩
          have T4 := Lib.hid t4
          clear t4
          go_wp2
          go_ret
          exact ⟨rfl, als_done T4.out HR.out HF.out⟩
        | some r =>
          have HG := Lib.hid hg
          clear hg
          go_wp2_with fail
          have kc := al_Trim (i := 4) (show St B w0 w1 ((HpL q cp vb vd vl ss m ls (ArT p ⟨bs, cp, b⟩ :: DdO g W N M true :: l)).set 4 (ArT p ⟨bs, cp, b⟩)) from T2.out) HL4.out HR.out N n HZ.out
          rw [HG.out] at kc
          with_reducible refine kc.mono ?_
          clear kc
          rintro e w3 ⟨rfl, b3', t3, hn3, hu3, hr3⟩
          have T3 := Lib.hid t3
          have HN3 := Lib.hid hn3
          have HU3 := Lib.hid hu3
          have HR3 := Lib.hid hr3
          clear t3 hn3 hu3 hr3
          go_wp2_with fail
          have kc := code_nil w3
          with_reducible refine kc.mono ?_
          clear kc
          rintro e w' ⟨rfl, rfl⟩
          go_wp2_with fail
          have kc := ref_Class w3 (n : Int) HZ0.out HZ1.out
          rw [HCN.out.2] at kc
          with_reducible refine kc.mono ?_
          clear kc
          rintro e w' ⟨rfl, rfl⟩
          go_wp2_with fail
          have kc := rh_Trim (m := m) (l := ArT p ⟨bs, cp, b3'⟩ :: DdO g W N M true :: l) T3.out HS.out HR.out HF.out N n HZ.out
          rw [HG.out] at kc
          with_reducible refine kc.mono ?_
          clear kc
          rintro e w4 ⟨rfl, t4⟩
          have T4 := Lib.hid t4
          clear t4
          go_wp2
          go_ret
          exact ⟨rfl, als_done T4.out HR3.out (fine_trimM HF.out HG.out)⟩
    by_cases p5 : P = 5
    · subst p5
      go_enter Try.func105, Try.ntmps105
      go_wp2_with fail
      have h1 := H.out.addRow 145 [.int .i64 W, .int .i64 N, .int .i64 M, .bool true]
      generalize w.alloc (Obj.cells #[Value.int IntKind.i64 W, Value.int IntKind.i64 N, Value.int IntKind.i64 M, Value.bool true] 145 (0, 0)) = w1 at h1 ⊢
      generalize w.heap.size = g at h1 ⊢
      have T1 := Lib.hid (dd_back h1)
      clear h1
      have k0 : w1.cell? ⟨g, 0, none⟩ = some (.int .i64 W) := (T1.out.row (i := 5) rfl).cell 0
      have k1 : w1.cell? ⟨g, 1, none⟩ = some (.int .i64 N) := (T1.out.row (i := 5) rfl).cell 1
      have k2 : w1.cell? ⟨g, 2, none⟩ = some (.int .i64 M) := (T1.out.row (i := 5) rfl).cell 2
      have k3 : w1.cell? ⟨g, 3, none⟩ = some (.bool true) := (T1.out.row (i := 5) rfl).cell 3
      have T2 := T1
      clear T1
      go_wp2_with fail
      have kc := KP.out w1
      with_reducible refine kc.mono ?_
      clear kc
      rintro e w' ⟨rfl, rfl⟩
      have hl4 : 4 < (HpL q cp vb vd vl ss m ls (ArT p ⟨bs, cp, b⟩ :: DdO g W N M true :: l)).length := by simp only [List.length_cons]; omega
      have HL4 := Lib.hid hl4
      clear hl4
      cases hz : usedZ m N with
      | none =>
        have HV := Lib.hid (show usV m N = .tuple #[.agg #[.int .i64 0, .int .i64 0, .bool false], .iface 183 (.int .i64 3)] from by unfold usV; rw [hz])
        have HZ := Lib.hid hz
        clear hz
        go_wp2_with fail
        have kc := al_Used (i := 4) (show St B w0 w1 ((HpL q cp vb vd vl ss m ls (ArT p ⟨bs, cp, b⟩ :: DdO g W N M true :: l)).set 4 (ArT p ⟨bs, cp, b⟩)) from T2.out) HL4.out HR.out N
        rw [HV.out] at kc
        with_reducible refine kc.mono ?_
        clear kc
        rintro e w3 ⟨rfl, t3⟩
        have T3 := Lib.hid t3
        clear t3
        go_wp2_with (first | (refine bk_alloc T3.out rfl rfl ?_; intro g4 w4 h4; have T4 := Lib.hid h4; clear h4) | (refine bk_store T4.out 0 rfl rfl _ _ rfl rfl 0 0 false rfl ?_; intro w5 h5; have T5 := Lib.hid (show St B w0 w5 (HpL q cp vb vd vl ss m ls (BkO g4 0 0 false :: ArT p ⟨bs, cp, b⟩ :: DdO g W N M true :: l)) from hp_back (P := BkO g4 0 0 false) h5); clear h5 T4; go_wp2_with fail))
        have kc := rh_Used T5.out HM.out N
        rw [HZ.out, show ixV none = -1 from rfl] at kc
        with_reducible refine kc.mono ?_
        clear kc
        rintro e w' ⟨rfl, rfl⟩
        go_wp2_with fail
        have kc := code_of w5 3 (by decide) (by decide)
        with_reducible refine kc.mono ?_
        clear kc
        rintro e w' ⟨rfl, rfl⟩
        go_wp2
        go_ret
        exact ⟨rfl, als_done (r := (m, ls)) (b := b) ⟨_, _, _, HS.out, (T5.out.sub (.cons_cons _ (.cons_cons _ (.cons_cons _ (.cons_cons _ (List.sublist_cons_self ..))))))⟩ HR.out HF.out⟩
      | some j =>
        obtain ⟨X, hj, hXo, hXu⟩ := usedZ_some hz
        have HV := Lib.hid (show usV m N = .tuple #[.agg #[.int .i64 X.b.off, .int .i64 X.b.size, .bool true], .nilIface] from by unfold usV; simp only [hz, hj])
        have HZ := Lib.hid hz
        have HJ := Lib.hid hj; have HXU := Lib.hid hXu
        have d7 : decide ((j : Int) < 0) = false := decide_eq_false (by omega)
        clear hz hj hXo hXu
        go_wp2_with fail
        have kc := al_Used (i := 4) (show St B w0 w1 ((HpL q cp vb vd vl ss m ls (ArT p ⟨bs, cp, b⟩ :: DdO g W N M true :: l)).set 4 (ArT p ⟨bs, cp, b⟩)) from T2.out) HL4.out HR.out N
        rw [HV.out] at kc
        with_reducible refine kc.mono ?_
        clear kc
        rintro e w3 ⟨rfl, t3⟩
        have T3 := Lib.hid t3
        clear t3
        go_wp2_with (first | (refine bk_alloc T3.out rfl rfl ?_; intro g4 w4 h4; have T4 := Lib.hid h4; clear h4) | (refine bk_store T4.out 0 rfl rfl _ _ rfl rfl X.b.off X.b.size true rfl ?_; intro w5 h5; have T5 := Lib.hid (show St B w0 w5 (HpL q cp vb vd vl ss m ls (BkO g4 X.b.off X.b.size true :: ArT p ⟨bs, cp, b⟩ :: DdO g W N M true :: l)) from hp_back (P := BkO g4 X.b.off X.b.size true) h5); clear h5 T4; go_wp2_with fail))
        have kc := rh_Used T5.out HM.out N
        rw [HZ.out, show ixV (some j) = (j : Int) from rfl] at kc
        with_reducible refine kc.mono ?_
        clear kc
        rintro e w' ⟨rfl, rfl⟩
        go_wp2_with fail
        have kc := code_nil w5
        with_reducible refine kc.mono ?_
        clear kc
        rintro e w' ⟨rfl, rfl⟩
        have T6 := Lib.hid T5.out.drew
        have hjl : j < m.length := (List.getElem?_eq_some_iff.1 HJ.out).1
        have hj2 : m[j] = X := (List.getElem?_eq_some_iff.1 HJ.out).2
        obtain ⟨ab, cb, e9, hcc, hrm, hbl⟩ := hp_bl T6.out
        obtain ⟨bb, e10, b0, b1, b2⟩ := hbl j hjl
        subst e9
        subst e10
        rw [hj2] at b0 b1 b2
        rw [HXU.out] at b2
        have C1 := Lib.hid (hp_cells T6.out).2.1
        have B0 := Lib.hid b0; have B1 := Lib.hid b1; have B2 := Lib.hid b2
        have x0 := Lib.hid ((T6.out.row (i := 4) rfl).cell 0); have x1 := Lib.hid ((T6.out.row (i := 4) rfl).cell 1); have x2 := Lib.hid ((T6.out.row (i := 4) rfl).cell 2)
        clear b0 b1 b2 hbl hj2
        go_wp2_with fail
        refine flowe_begin (F := fun _ => False) hmixed 9 rfl (by repeat (first | with_reducible refine ps_then ?_ | with_reducible refine ps_block ?_ | with_reducible exact ps_body | refine ps_then ?_ | refine ps_block ?_ | exact ps_body)) (fun hps => ?_)
        simp only [List.replicate]
        have kk := (Keep.refl (fun _ => False) (w5)).drew
        refine flowe_take 0 (v := ?_) (a' := ?_) hps rfl (by kernel_rfl) rfl ?_ ?_ ?_
        rotate_left 2
        · intro w' hk; have c0 := mid_keep hk x0.out (fun h => h); have c1 := mid_keep hk x1.out (fun h => h); have c2 := mid_keep hk x2.out (fun h => h); go_simp; try rfl
        · simp only [Act.put, List.setIfInBounds_toArray, List.set_cons_succ, List.set_cons_zero]; try rfl
        refine flowe_take 1 (v := ?_) (a' := ?_) hps rfl (by kernel_rfl) rfl ?_ ?_ ?_
        rotate_left 2
        · intro w' hk; go_simp; try rfl
        · simp only [Act.put, List.setIfInBounds_toArray, List.set_cons_succ, List.set_cons_zero]; try rfl
        refine flowe_take 2 (v := ?_) (a' := ?_) hps rfl (by kernel_rfl) rfl ?_ ?_ ?_
        rotate_left 2
        · intro w' hk; go_simp; try rfl
        · simp only [Act.put, List.setIfInBounds_toArray, List.set_cons_succ, List.set_cons_zero]; try rfl
        refine flowe_take 3 (v := ?_) (a' := ?_) hps rfl (by kernel_rfl) rfl ?_ ?_ ?_
        rotate_left 2
        · intro w' hk; go_simp; try rfl
        · simp only [Act.put, List.setIfInBounds_toArray, List.set_cons_succ, List.set_cons_zero]; try rfl
        refine flowe_take 4 (v := ?_) (a' := ?_) hps rfl (by kernel_rfl) rfl ?_ ?_ ?_
        rotate_left 2
        · intro w' hk; have c0 := mid_keep hk C1.out (fun h => h); go_simp; try rfl
        · simp only [Act.put, List.setIfInBounds_toArray, List.set_cons_succ, List.set_cons_zero]; try rfl
        refine flowe_take 5 (v := ?_) (a' := ?_) hps rfl (by kernel_rfl) rfl ?_ ?_ ?_
        rotate_left 2
        · intro w' hk; go_simp; try rfl
        · simp only [Act.put, List.setIfInBounds_toArray, List.set_cons_succ, List.set_cons_zero]; try rfl
        refine flowe_take 6 (v := ?_) (a' := ?_) hps rfl (by kernel_rfl) rfl ?_ ?_ ?_
        rotate_left 2
        · intro w' hk; go_simp; try rfl
        · simp only [Act.put, List.setIfInBounds_toArray, List.set_cons_succ, List.set_cons_zero]; try rfl
        refine flowe_take 7 (v := ?_) (a' := ?_) hps rfl (by kernel_rfl) rfl ?_ ?_ ?_
        rotate_left 2
        · intro w' hk; have c0 := mid_keep hk B0.out (fun h => h); have c1 := mid_keep hk B1.out (fun h => h); have c2 := mid_keep hk B2.out (fun h => h); go_simp; try rfl
        · simp only [Act.put, List.setIfInBounds_toArray, List.set_cons_succ, List.set_cons_zero]; try rfl
        refine flowe_take 8 (v := ?_) (a' := ?_) hps rfl (by kernel_rfl) rfl ?_ ?_ ?_
        rotate_left 2
        · intro w' hk; go_simp; try rfl
        · simp only [Act.put, List.setIfInBounds_toArray, List.set_cons_succ, List.set_cons_zero]; try rfl
        refine flowe_done hps (by kernel_rfl) ?_
        clear kk
        go_wp2
        go_ret
        exact ⟨rfl, als_done (r := (m, ls)) (b := b) ⟨_, _, _, HS.out, (T6.out.sub (.cons_cons _ (.cons_cons _ (.cons_cons _ (.cons_cons _ (List.sublist_cons_self ..))))))⟩ HR.out HF.out⟩
    have e3 : ((P : Int) == 3) = false := by rw [beq_eq_false_iff_ne]; exact p3
    have e4 : ((P : Int) == 4) = false := by rw [beq_eq_false_iff_ne]; exact p4
    have e5 : ((P : Int) == 5) = false := by rw [beq_eq_false_iff_ne]; exact p5
    clear p3 p4 p5
    go_enter Try.func105, Try.ntmps105
    go_wp2_with fail
    have h1 := H.out.addRow 145 [.int .i64 W, .int .i64 N, .int .i64 M, .bool true]
    generalize w.alloc (Obj.cells #[Value.int IntKind.i64 W, Value.int IntKind.i64 N, Value.int IntKind.i64 M, Value.bool true] 145 (0, 0)) = w1 at h1 ⊢
    generalize w.heap.size = g at h1 ⊢
    have T1 := Lib.hid (dd_back h1)
    clear h1
    have k0 : w1.cell? ⟨g, 0, none⟩ = some (.int .i64 W) := (T1.out.row (i := 5) rfl).cell 0
    have k1 : w1.cell? ⟨g, 1, none⟩ = some (.int .i64 N) := (T1.out.row (i := 5) rfl).cell 1
    have k2 : w1.cell? ⟨g, 2, none⟩ = some (.int .i64 M) := (T1.out.row (i := 5) rfl).cell 2
    have k3 : w1.cell? ⟨g, 3, none⟩ = some (.bool true) := (T1.out.row (i := 5) rfl).cell 3
    have T2 := T1
    clear T1
    go_wp2_with fail
    have kc := KP.out w1
    with_reducible refine kc.mono ?_
    clear kc
    rintro e w' ⟨rfl, rfl⟩
    have hl4 : 4 < (HpL q cp vb vd vl ss m ls (ArT p ⟨bs, cp, b⟩ :: DdO g W N M true :: l)).length := by simp only [List.length_cons]; omega
    have HL4 := Lib.hid hl4
    clear hl4
    go_wp2_with fail
    have kc := law12_Size w1 N true HN.out.1 HN.out.2
    with_reducible refine kc.mono ?_
    clear kc
    rintro e w' ⟨⟨s', rfl, hz0, hz1⟩, rfl⟩
    have HZ0 := Lib.hid hz0
    have HZ1 := Lib.hid hz1
    clear hz0 hz1
    cases hz : isSize s' with
    | false =>
      have HZ := Lib.hid hz
      clear hz
      go_wp2_with fail
      have kc := al_Take_bad (p := p) T2.out s' HZ0.out HZ1.out HZ.out
      with_reducible refine kc.mono ?_
      clear kc
      rintro e w3 ⟨rfl, t3⟩
      have T3 := Lib.hid t3
      clear t3
      go_wp2_with fail
      have kc := code_of w3 1 (by decide) (by decide)
      with_reducible refine kc.mono ?_
      clear kc
      rintro e w' ⟨rfl, rfl⟩
      go_wp2_with fail
      have kc := ref_Class w3 s' HZ0.out HZ1.out
      rw [cls_no HZ.out] at kc
      with_reducible refine kc.mono ?_
      clear kc
      rintro e w' ⟨rfl, rfl⟩
      go_wp2
      go_ret
      exact ⟨rfl, als_done (r := (m, ls)) ⟨_, _, _, HS.out, T3.out⟩ HR.out HF.out⟩
    | true =>
      have hz2 := (isSize_iff _).1 hz
      obtain ⟨n, rfl⟩ : ∃ n : Nat, s' = n := ⟨s'.toNat, by omega⟩
      have HZ := Lib.hid hz
      have hcn := clsN_of hz
      have HCN := Lib.hid hcn
      have d7 : decide ((clsN n : Int) ≥ 0) = true := decide_eq_true (by omega)
      clear hz hz2 hcn
      cases hg : takeM m cp n ls with
      | none =>
        have HG := Lib.hid hg
        clear hg
        go_wp2_with fail
        have kc := al_Take (i := 4) (show St B w0 w1 ((HpL q cp vb vd vl ss m ls (ArT p ⟨bs, cp, b⟩ :: DdO g W N M true :: l)).set 4 (ArT p ⟨bs, cp, b⟩)) from T2.out) HL4.out HR.out n HZ.out
        rw [HG.out] at kc
        with_reducible refine kc.mono ?_
        clear kc
        rintro e w3 ⟨rfl, t3⟩
        have T3 := Lib.hid t3
        clear t3
        go_wp2_with fail
        have kc := code_of w3 5 (by decide) (by decide)
        with_reducible refine kc.mono ?_
        clear kc
        rintro e w' ⟨rfl, rfl⟩
        go_wp2_with fail
        have kc := ref_Class w3 (n : Int) HZ0.out HZ1.out
        rw [HCN.out.2] at kc
        with_reducible refine kc.mono ?_
        clear kc
        rintro e w' ⟨rfl, rfl⟩
        go_wp2_with fail
        have kc := rh_Take (m := m) (l := ArT p ⟨bs, cp, b⟩ :: DdO g W N M true :: l) T3.out HS.out HR.out HF.out n HZ.out cp rfl HCP.out.2.1
        rw [HG.out] at kc
        with_reducible refine kc.mono ?_
        clear kc
        rintro e w4 ⟨rfl, t4⟩
        have T4 := Lib.hid t4
        clear t4
        go_wp2
        go_ret
        exact ⟨rfl, als_done T4.out HR.out HF.out⟩
      | some r =>
        obtain ⟨o2, r⟩ := r
        have HG := Lib.hid hg
        clear hg
        go_wp2_with fail
        have kc := al_Take (i := 4) (show St B w0 w1 ((HpL q cp vb vd vl ss m ls (ArT p ⟨bs, cp, b⟩ :: DdO g W N M true :: l)).set 4 (ArT p ⟨bs, cp, b⟩)) from T2.out) HL4.out HR.out n HZ.out
        rw [HG.out] at kc
        with_reducible refine kc.mono ?_
        clear kc
        rintro e w3 ⟨rfl, b3', t3, hu3, hr3⟩
        have T3 := Lib.hid t3
        have HU3 := Lib.hid hu3
        have HR3 := Lib.hid hr3
        clear t3 hu3 hr3
        go_wp2_with fail
        have kc := code_nil w3
        with_reducible refine kc.mono ?_
        clear kc
        rintro e w' ⟨rfl, rfl⟩
        go_wp2_with fail
        have kc := ref_Class w3 (n : Int) HZ0.out HZ1.out
        rw [HCN.out.2] at kc
        with_reducible refine kc.mono ?_
        clear kc
        rintro e w' ⟨rfl, rfl⟩
        go_wp2_with fail
        have kc := rh_Take (m := m) (l := ArT p ⟨bs, cp, b3'⟩ :: DdO g W N M true :: l) T3.out HS.out HR.out HF.out n HZ.out cp rfl HCP.out.2.1
        rw [HG.out] at kc
        with_reducible refine kc.mono ?_
        clear kc
        rintro e w4 ⟨rfl, t4⟩
        have T4 := Lib.hid t4
        clear t4
        go_wp2
        go_ret
        exact ⟨rfl, als_done T4.out HR3.out (fine_takeM HF.out HG.out)⟩
  | false =>
    by_cases p3 : P = 3
    · subst p3
      go_enter Try.func105, Try.ntmps105
      go_wp2_with fail
      have h1 := H.out.addRow 145 [.int .i64 W, .int .i64 N, .int .i64 M, .bool false]
      generalize w.alloc (Obj.cells #[Value.int IntKind.i64 W, Value.int IntKind.i64 N, Value.int IntKind.i64 M, Value.bool false] 145 (0, 0)) = w1 at h1 ⊢
      generalize w.heap.size = g at h1 ⊢
      have T1 := Lib.hid (dd_back h1)
      clear h1
      have k0 : w1.cell? ⟨g, 0, none⟩ = some (.int .i64 W) := (T1.out.row (i := 5) rfl).cell 0
      have k1 : w1.cell? ⟨g, 1, none⟩ = some (.int .i64 N) := (T1.out.row (i := 5) rfl).cell 1
      have k2 : w1.cell? ⟨g, 2, none⟩ = some (.int .i64 M) := (T1.out.row (i := 5) rfl).cell 2
      have k3 : w1.cell? ⟨g, 3, none⟩ = some (.bool false) := (T1.out.row (i := 5) rfl).cell 3
      go_wp2_with fail
      have kc := law12_Used T1.out HM.out N HN.out.1 HN.out.2
      with_reducible refine kc.mono ?_
      clear kc
      rintro e w2 ⟨⟨o', rfl⟩, t2⟩
      have T2 := Lib.hid t2
      clear t2
      have k0 : w2.cell? ⟨g, 0, none⟩ = some (.int .i64 W) := (T2.out.row (i := 5) rfl).cell 0
      have k1 : w2.cell? ⟨g, 1, none⟩ = some (.int .i64 N) := (T2.out.row (i := 5) rfl).cell 1
      have k2 : w2.cell? ⟨g, 2, none⟩ = some (.int .i64 M) := (T2.out.row (i := 5) rfl).cell 2
      have k3 : w2.cell? ⟨g, 3, none⟩ = some (.bool false) := (T2.out.row (i := 5) rfl).cell 3
      clear T1
      go_wp2_with fail
      have kc := KP.out w2
      with_reducible refine kc.mono ?_
      clear kc
      rintro e w' ⟨rfl, rfl⟩
      have hl4 : 4 < (HpL q cp vb vd vl ss m ls (ArT p ⟨bs, cp, b⟩ :: DdO g W N M false :: l)).length := by simp only [List.length_cons]; omega
      have HL4 := Lib.hid hl4
      clear hl4
      cases hg : giveM m o' ls with
      | none =>
        have HG := Lib.hid hg
        clear hg
        go_wp2_with fail
        have kc := al_Give (i := 4) (show St B w0 w2 ((HpL q cp vb vd vl ss m ls (ArT p ⟨bs, cp, b⟩ :: DdO g W N M false :: l)).set 4 (ArT p ⟨bs, cp, b⟩)) from T2.out) HL4.out HR.out o'
        rw [HG.out] at kc
        with_reducible refine kc.mono ?_
        clear kc
        rintro e w3 ⟨rfl, t3⟩
        have T3 := Lib.hid t3
        clear t3
        go_wp2_with fail
        have kc := code_of w3 3 (by decide) (by decide)
        with_reducible refine kc.mono ?_
        clear kc
        rintro e w' ⟨rfl, rfl⟩
        go_wp2_with fail
        have kc := rh_Give (m := m) (l := ArT p ⟨bs, cp, b⟩ :: DdO g W N M false :: l) T3.out HS.out HR.out HF.out o'
        rw [HG.out] at kc
        with_reducible refine kc.mono ?_
        clear kc
        rintro e w4 ⟨rfl, t4⟩
        have T4 := Lib.hid t4
        clear t4
        go_wp2
        go_ret
        exact ⟨rfl, als_done T4.out HR.out HF.out⟩
      | some r =>
        have HG := Lib.hid hg
        clear hg
        go_wp2_with fail
        have kc := al_Give (i := 4) (show St B w0 w2 ((HpL q cp vb vd vl ss m ls (ArT p ⟨bs, cp, b⟩ :: DdO g W N M false :: l)).set 4 (ArT p ⟨bs, cp, b⟩)) from T2.out) HL4.out HR.out o'
        rw [HG.out] at kc
        with_reducible refine kc.mono ?_
        clear kc
        rintro e w3 ⟨rfl, b3', t3, hn3, hu3, hr3⟩
        have T3 := Lib.hid t3
        have HN3 := Lib.hid hn3
        have HU3 := Lib.hid hu3
        have HR3 := Lib.hid hr3
        clear t3 hn3 hu3 hr3
        go_wp2_with fail
        have kc := code_nil w3
        with_reducible refine kc.mono ?_
        clear kc
        rintro e w' ⟨rfl, rfl⟩
        go_wp2_with fail
        have kc := rh_Give (m := m) (l := ArT p ⟨bs, cp, b3'⟩ :: DdO g W N M false :: l) T3.out HS.out HR.out HF.out o'
        rw [HG.out] at kc
        with_reducible refine kc.mono ?_
        clear kc
        rintro e w4 ⟨rfl, t4⟩
        have T4 := Lib.hid t4
        clear t4
        go_wp2
        go_ret
        exact ⟨rfl, als_done T4.out HR3.out (fine_giveM HF.out HG.out)⟩
    by_cases p4 : P = 4
    · subst p4
      go_enter Try.func105, Try.ntmps105
      go_wp2_with fail
      have h1 := H.out.addRow 145 [.int .i64 W, .int .i64 N, .int .i64 M, .bool false]
      generalize w.alloc (Obj.cells #[Value.int IntKind.i64 W, Value.int IntKind.i64 N, Value.int IntKind.i64 M, Value.bool false] 145 (0, 0)) = w1 at h1 ⊢
      generalize w.heap.size = g at h1 ⊢
      have T1 := Lib.hid (dd_back h1)
      clear h1
      have k0 : w1.cell? ⟨g, 0, none⟩ = some (.int .i64 W) := (T1.out.row (i := 5) rfl).cell 0
      have k1 : w1.cell? ⟨g, 1, none⟩ = some (.int .i64 N) := (T1.out.row (i := 5) rfl).cell 1
      have k2 : w1.cell? ⟨g, 2, none⟩ = some (.int .i64 M) := (T1.out.row (i := 5) rfl).cell 2
      have k3 : w1.cell? ⟨g, 3, none⟩ = some (.bool false) := (T1.out.row (i := 5) rfl).cell 3
      go_wp2_with fail
      have kc := law12_Used T1.out HM.out N HN.out.1 HN.out.2
      with_reducible refine kc.mono ?_
      clear kc
      rintro e w2 ⟨⟨o', rfl⟩, t2⟩
      have T2 := Lib.hid t2
      clear t2
      have k0 : w2.cell? ⟨g, 0, none⟩ = some (.int .i64 W) := (T2.out.row (i := 5) rfl).cell 0
      have k1 : w2.cell? ⟨g, 1, none⟩ = some (.int .i64 N) := (T2.out.row (i := 5) rfl).cell 1
      have k2 : w2.cell? ⟨g, 2, none⟩ = some (.int .i64 M) := (T2.out.row (i := 5) rfl).cell 2
      have k3 : w2.cell? ⟨g, 3, none⟩ = some (.bool false) := (T2.out.row (i := 5) rfl).cell 3
      clear T1
      go_wp2_with fail
      have kc := KP.out w2
      with_reducible refine kc.mono ?_
      clear kc
      rintro e w' ⟨rfl, rfl⟩
      have hl4 : 4 < (HpL q cp vb vd vl ss m ls (ArT p ⟨bs, cp, b⟩ :: DdO g W N M false :: l)).length := by simp only [List.length_cons]; omega
      have HL4 := Lib.hid hl4
      clear hl4
      go_wp2_with fail
      have kc := law12_Size w2 M false HMM.out.1 HMM.out.2
      with_reducible refine kc.mono ?_
      clear kc
      rintro e w' ⟨⟨s', rfl, hz0, hz1⟩, rfl⟩
      have HZ0 := Lib.hid hz0
      have HZ1 := Lib.hid hz1
      clear hz0 hz1
      cases hz : isSize s' with
      | false =>
        have HZ := Lib.hid hz
        clear hz
        go_wp2_with fail
        have kc := al_Trim_bad (p := p) T2.out o' s' HZ0.out HZ1.out HZ.out
        with_reducible refine kc.mono ?_
        clear kc
        rintro e w3 ⟨rfl, t3⟩
        have T3 := Lib.hid t3
        clear t3
        go_wp2_with fail
        have kc := code_of w3 1 (by decide) (by decide)
        with_reducible refine kc.mono ?_
        clear kc
        rintro e w' ⟨rfl, rfl⟩
        go_wp2_with fail
        have kc := ref_Class w3 s' HZ0.out HZ1.out
        rw [cls_no HZ.out] at kc
        with_reducible refine kc.mono ?_
        clear kc
        rintro e w' ⟨rfl, rfl⟩
        go_wp2
        go_ret
        exact ⟨rfl, als_done (r := (m, ls)) ⟨_, _, _, HS.out, T3.out⟩ HR.out HF.out⟩
      | true =>
        have hz2 := (isSize_iff _).1 hz
        obtain ⟨n, rfl⟩ : ∃ n : Nat, s' = n := ⟨s'.toNat, by omega⟩
        have HZ := Lib.hid hz
        have hcn := clsN_of hz
        have HCN := Lib.hid hcn
        have d7 : decide ((clsN n : Int) ≥ 0) = true := decide_eq_true (by omega)
        clear hz hz2 hcn
        cases hg : trimM m o' n ls with
        | none =>
          have HG := Lib.hid hg
          clear hg
          go_wp2_with fail
          have kc := al_Trim (i := 4) (show St B w0 w2 ((HpL q cp vb vd vl ss m ls (ArT p ⟨bs, cp, b⟩ :: DdO g W N M false :: l)).set 4 (ArT p ⟨bs, cp, b⟩)) from T2.out) HL4.out HR.out o' n HZ.out
          rw [HG.out] at kc
          with_reducible refine kc.mono ?_
          clear kc
          rintro e w3 ⟨rfl, t3⟩
          have T3 := Lib.hid t3
          clear t3
          go_wp2_with fail
          have kc := code_of w3 3 (by decide) (by decide)
          with_reducible refine kc.mono ?_
          clear kc
          rintro e w' ⟨rfl, rfl⟩
          go_wp2_with fail
          have kc := ref_Class w3 (n : Int) HZ0.out HZ1.out
          rw [HCN.out.2] at kc
          with_reducible refine kc.mono ?_
          clear kc
          rintro e w' ⟨rfl, rfl⟩
          go_wp2_with fail
          have kc := rh_Trim (m := m) (l := ArT p ⟨bs, cp, b⟩ :: DdO g W N M false :: l) T3.out HS.out HR.out HF.out o' n HZ.out
          rw [HG.out] at kc
          with_reducible refine kc.mono ?_
          clear kc
          rintro e w4 ⟨rfl, t4⟩
          have T4 := Lib.hid t4
          clear t4
          go_wp2
          go_ret
          exact ⟨rfl, als_done T4.out HR.out HF.out⟩
        | some r =>
          have HG := Lib.hid hg
          clear hg
          go_wp2_with fail
          have kc := al_Trim (i := 4) (show St B w0 w2 ((HpL q cp vb vd vl ss m ls (ArT p ⟨bs, cp, b⟩ :: DdO g W N M false :: l)).set 4 (ArT p ⟨bs, cp, b⟩)) from T2.out) HL4.out HR.out o' n HZ.out
          rw [HG.out] at kc
          with_reducible refine kc.mono ?_
          clear kc
          rintro e w3 ⟨rfl, b3', t3, hn3, hu3, hr3⟩
          have T3 := Lib.hid t3
          have HN3 := Lib.hid hn3
          have HU3 := Lib.hid hu3
          have HR3 := Lib.hid hr3
          clear t3 hn3 hu3 hr3
          go_wp2_with fail
          have kc := code_nil w3
          with_reducible refine kc.mono ?_
          clear kc
          rintro e w' ⟨rfl, rfl⟩
          go_wp2_with fail
          have kc := ref_Class w3 (n : Int) HZ0.out HZ1.out
          rw [HCN.out.2] at kc
          with_reducible refine kc.mono ?_
          clear kc
          rintro e w' ⟨rfl, rfl⟩
          go_wp2_with fail
          have kc := rh_Trim (m := m) (l := ArT p ⟨bs, cp, b3'⟩ :: DdO g W N M false :: l) T3.out HS.out HR.out HF.out o' n HZ.out
          rw [HG.out] at kc
          with_reducible refine kc.mono ?_
          clear kc
          rintro e w4 ⟨rfl, t4⟩
          have T4 := Lib.hid t4
          clear t4
          go_wp2
          go_ret
          exact ⟨rfl, als_done T4.out HR3.out (fine_trimM HF.out HG.out)⟩
    by_cases p5 : P = 5
    · subst p5
      go_enter Try.func105, Try.ntmps105
      go_wp2_with fail
      have h1 := H.out.addRow 145 [.int .i64 W, .int .i64 N, .int .i64 M, .bool false]
      generalize w.alloc (Obj.cells #[Value.int IntKind.i64 W, Value.int IntKind.i64 N, Value.int IntKind.i64 M, Value.bool false] 145 (0, 0)) = w1 at h1 ⊢
      generalize w.heap.size = g at h1 ⊢
      have T1 := Lib.hid (dd_back h1)
      clear h1
      have k0 : w1.cell? ⟨g, 0, none⟩ = some (.int .i64 W) := (T1.out.row (i := 5) rfl).cell 0
      have k1 : w1.cell? ⟨g, 1, none⟩ = some (.int .i64 N) := (T1.out.row (i := 5) rfl).cell 1
      have k2 : w1.cell? ⟨g, 2, none⟩ = some (.int .i64 M) := (T1.out.row (i := 5) rfl).cell 2
      have k3 : w1.cell? ⟨g, 3, none⟩ = some (.bool false) := (T1.out.row (i := 5) rfl).cell 3
      go_wp2_with fail
      have kc := law12_Used T1.out HM.out N HN.out.1 HN.out.2
      with_reducible refine kc.mono ?_
      clear kc
      rintro e w2 ⟨⟨o', rfl⟩, t2⟩
      have T2 := Lib.hid t2
      clear t2
      have k0 : w2.cell? ⟨g, 0, none⟩ = some (.int .i64 W) := (T2.out.row (i := 5) rfl).cell 0
      have k1 : w2.cell? ⟨g, 1, none⟩ = some (.int .i64 N) := (T2.out.row (i := 5) rfl).cell 1
      have k2 : w2.cell? ⟨g, 2, none⟩ = some (.int .i64 M) := (T2.out.row (i := 5) rfl).cell 2
      have k3 : w2.cell? ⟨g, 3, none⟩ = some (.bool false) := (T2.out.row (i := 5) rfl).cell 3
      clear T1
      go_wp2_with fail
      have kc := KP.out w2
      with_reducible refine kc.mono ?_
      clear kc
      rintro e w' ⟨rfl, rfl⟩
      have hl4 : 4 < (HpL q cp vb vd vl ss m ls (ArT p ⟨bs, cp, b⟩ :: DdO g W N M false :: l)).length := by simp only [List.length_cons]; omega
      have HL4 := Lib.hid hl4
      clear hl4
      cases hz : usedZ m o' with
      | none =>
        have HV := Lib.hid (show usV m o' = .tuple #[.agg #[.int .i64 0, .int .i64 0, .bool false], .iface 183 (.int .i64 3)] from by unfold usV; rw [hz])
        have HZ := Lib.hid hz
        clear hz
        go_wp2_with fail
        have kc := al_Used (i := 4) (show St B w0 w2 ((HpL q cp vb vd vl ss m ls (ArT p ⟨bs, cp, b⟩ :: DdO g W N M false :: l)).set 4 (ArT p ⟨bs, cp, b⟩)) from T2.out) HL4.out HR.out o'
        rw [HV.out] at kc
        with_reducible refine kc.mono ?_
        clear kc
        rintro e w3 ⟨rfl, t3⟩
        have T3 := Lib.hid t3
        clear t3
        go_wp2_with (first | (refine bk_alloc T3.out rfl rfl ?_; intro g4 w4 h4; have T4 := Lib.hid h4; clear h4) | (refine bk_store T4.out 0 rfl rfl _ _ rfl rfl 0 0 false rfl ?_; intro w5 h5; have T5 := Lib.hid (show St B w0 w5 (HpL q cp vb vd vl ss m ls (BkO g4 0 0 false :: ArT p ⟨bs, cp, b⟩ :: DdO g W N M false :: l)) from hp_back (P := BkO g4 0 0 false) h5); clear h5 T4; go_wp2_with fail))
        have kc := rh_Used T5.out HM.out o'
        rw [HZ.out, show ixV none = -1 from rfl] at kc
        with_reducible refine kc.mono ?_
        clear kc
        rintro e w' ⟨rfl, rfl⟩
        go_wp2_with fail
        have kc := code_of w5 3 (by decide) (by decide)
        with_reducible refine kc.mono ?_
        clear kc
        rintro e w' ⟨rfl, rfl⟩
        go_wp2
        go_ret
        exact ⟨rfl, als_done (r := (m, ls)) (b := b) ⟨_, _, _, HS.out, (T5.out.sub (.cons_cons _ (.cons_cons _ (.cons_cons _ (.cons_cons _ (List.sublist_cons_self ..))))))⟩ HR.out HF.out⟩
      | some j =>
        obtain ⟨X, hj, hXo, hXu⟩ := usedZ_some hz
        have HV := Lib.hid (show usV m o' = .tuple #[.agg #[.int .i64 X.b.off, .int .i64 X.b.size, .bool true], .nilIface] from by unfold usV; simp only [hz, hj])
        have HZ := Lib.hid hz
        have HJ := Lib.hid hj; have HXU := Lib.hid hXu
        have d7 : decide ((j : Int) < 0) = false := decide_eq_false (by omega)
        clear hz hj hXo hXu
        go_wp2_with fail
        have kc := al_Used (i := 4) (show St B w0 w2 ((HpL q cp vb vd vl ss m ls (ArT p ⟨bs, cp, b⟩ :: DdO g W N M false :: l)).set 4 (ArT p ⟨bs, cp, b⟩)) from T2.out) HL4.out HR.out o'
        rw [HV.out] at kc
        with_reducible refine kc.mono ?_
        clear kc
        rintro e w3 ⟨rfl, t3⟩
        have T3 := Lib.hid t3
        clear t3
        go_wp2_with (first | (refine bk_alloc T3.out rfl rfl ?_; intro g4 w4 h4; have T4 := Lib.hid h4; clear h4) | (refine bk_store T4.out 0 rfl rfl _ _ rfl rfl X.b.off X.b.size true rfl ?_; intro w5 h5; have T5 := Lib.hid (show St B w0 w5 (HpL q cp vb vd vl ss m ls (BkO g4 X.b.off X.b.size true :: ArT p ⟨bs, cp, b⟩ :: DdO g W N M false :: l)) from hp_back (P := BkO g4 X.b.off X.b.size true) h5); clear h5 T4; go_wp2_with fail))
        have kc := rh_Used T5.out HM.out o'
        rw [HZ.out, show ixV (some j) = (j : Int) from rfl] at kc
        with_reducible refine kc.mono ?_
        clear kc
        rintro e w' ⟨rfl, rfl⟩
        go_wp2_with fail
        have kc := code_nil w5
        with_reducible refine kc.mono ?_
        clear kc
        rintro e w' ⟨rfl, rfl⟩
        have T6 := Lib.hid T5.out.drew
        have hjl : j < m.length := (List.getElem?_eq_some_iff.1 HJ.out).1
        have hj2 : m[j] = X := (List.getElem?_eq_some_iff.1 HJ.out).2
        obtain ⟨ab, cb, e9, hcc, hrm, hbl⟩ := hp_bl T6.out
        obtain ⟨bb, e10, b0, b1, b2⟩ := hbl j hjl
        subst e9
        subst e10
        rw [hj2] at b0 b1 b2
        rw [HXU.out] at b2
        have C1 := Lib.hid (hp_cells T6.out).2.1
        have B0 := Lib.hid b0; have B1 := Lib.hid b1; have B2 := Lib.hid b2
        have x0 := Lib.hid ((T6.out.row (i := 4) rfl).cell 0); have x1 := Lib.hid ((T6.out.row (i := 4) rfl).cell 1); have x2 := Lib.hid ((T6.out.row (i := 4) rfl).cell 2)
        clear b0 b1 b2 hbl hj2
        go_wp2_with fail
        refine flowe_begin (F := fun _ => False) hmixed 9 rfl (by repeat (first | with_reducible refine ps_then ?_ | with_reducible refine ps_block ?_ | with_reducible exact ps_body | refine ps_then ?_ | refine ps_block ?_ | exact ps_body)) (fun hps => ?_)
        simp only [List.replicate]
        have kk := (Keep.refl (fun _ => False) (w5)).drew
        refine flowe_take 0 (v := ?_) (a' := ?_) hps rfl (by kernel_rfl) rfl ?_ ?_ ?_
        rotate_left 2
        · intro w' hk; have c0 := mid_keep hk x0.out (fun h => h); have c1 := mid_keep hk x1.out (fun h => h); have c2 := mid_keep hk x2.out (fun h => h); go_simp; try rfl
        · simp only [Act.put, List.setIfInBounds_toArray, List.set_cons_succ, List.set_cons_zero]; try rfl
        refine flowe_take 1 (v := ?_) (a' := ?_) hps rfl (by kernel_rfl) rfl ?_ ?_ ?_
        rotate_left 2
        · intro w' hk; go_simp; try rfl
        · simp only [Act.put, List.setIfInBounds_toArray, List.set_cons_succ, List.set_cons_zero]; try rfl
        refine flowe_take 2 (v := ?_) (a' := ?_) hps rfl (by kernel_rfl) rfl ?_ ?_ ?_
        rotate_left 2
        · intro w' hk; go_simp; try rfl
        · simp only [Act.put, List.setIfInBounds_toArray, List.set_cons_succ, List.set_cons_zero]; try rfl
        refine flowe_take 3 (v := ?_) (a' := ?_) hps rfl (by kernel_rfl) rfl ?_ ?_ ?_
        rotate_left 2
        · intro w' hk; go_simp; try rfl
        · simp only [Act.put, List.setIfInBounds_toArray, List.set_cons_succ, List.set_cons_zero]; try rfl
        refine flowe_take 4 (v := ?_) (a' := ?_) hps rfl (by kernel_rfl) rfl ?_ ?_ ?_
        rotate_left 2
        · intro w' hk; have c0 := mid_keep hk C1.out (fun h => h); go_simp; try rfl
        · simp only [Act.put, List.setIfInBounds_toArray, List.set_cons_succ, List.set_cons_zero]; try rfl
        refine flowe_take 5 (v := ?_) (a' := ?_) hps rfl (by kernel_rfl) rfl ?_ ?_ ?_
        rotate_left 2
        · intro w' hk; go_simp; try rfl
        · simp only [Act.put, List.setIfInBounds_toArray, List.set_cons_succ, List.set_cons_zero]; try rfl
        refine flowe_take 6 (v := ?_) (a' := ?_) hps rfl (by kernel_rfl) rfl ?_ ?_ ?_
        rotate_left 2
        · intro w' hk; go_simp; try rfl
        · simp only [Act.put, List.setIfInBounds_toArray, List.set_cons_succ, List.set_cons_zero]; try rfl
        refine flowe_take 7 (v := ?_) (a' := ?_) hps rfl (by kernel_rfl) rfl ?_ ?_ ?_
        rotate_left 2
        · intro w' hk; have c0 := mid_keep hk B0.out (fun h => h); have c1 := mid_keep hk B1.out (fun h => h); have c2 := mid_keep hk B2.out (fun h => h); go_simp; try rfl
        · simp only [Act.put, List.setIfInBounds_toArray, List.set_cons_succ, List.set_cons_zero]; try rfl
        refine flowe_take 8 (v := ?_) (a' := ?_) hps rfl (by kernel_rfl) rfl ?_ ?_ ?_
        rotate_left 2
        · intro w' hk; go_simp; try rfl
        · simp only [Act.put, List.setIfInBounds_toArray, List.set_cons_succ, List.set_cons_zero]; try rfl
        refine flowe_done hps (by kernel_rfl) ?_
        clear kk
        go_wp2
        go_ret
        exact ⟨rfl, als_done (r := (m, ls)) (b := b) ⟨_, _, _, HS.out, (T6.out.sub (.cons_cons _ (.cons_cons _ (.cons_cons _ (.cons_cons _ (List.sublist_cons_self ..))))))⟩ HR.out HF.out⟩
    have e3 : ((P : Int) == 3) = false := by rw [beq_eq_false_iff_ne]; exact p3
    have e4 : ((P : Int) == 4) = false := by rw [beq_eq_false_iff_ne]; exact p4
    have e5 : ((P : Int) == 5) = false := by rw [beq_eq_false_iff_ne]; exact p5
    clear p3 p4 p5
    go_enter Try.func105, Try.ntmps105
    go_wp2_with fail
    have h1 := H.out.addRow 145 [.int .i64 W, .int .i64 N, .int .i64 M, .bool false]
    generalize w.alloc (Obj.cells #[Value.int IntKind.i64 W, Value.int IntKind.i64 N, Value.int IntKind.i64 M, Value.bool false] 145 (0, 0)) = w1 at h1 ⊢
    generalize w.heap.size = g at h1 ⊢
    have T1 := Lib.hid (dd_back h1)
    clear h1
    have k0 : w1.cell? ⟨g, 0, none⟩ = some (.int .i64 W) := (T1.out.row (i := 5) rfl).cell 0
    have k1 : w1.cell? ⟨g, 1, none⟩ = some (.int .i64 N) := (T1.out.row (i := 5) rfl).cell 1
    have k2 : w1.cell? ⟨g, 2, none⟩ = some (.int .i64 M) := (T1.out.row (i := 5) rfl).cell 2
    have k3 : w1.cell? ⟨g, 3, none⟩ = some (.bool false) := (T1.out.row (i := 5) rfl).cell 3
    go_wp2_with fail
    have kc := law12_Used T1.out HM.out N HN.out.1 HN.out.2
    with_reducible refine kc.mono ?_
    clear kc
    rintro e w2 ⟨⟨o', rfl⟩, t2⟩
    have T2 := Lib.hid t2
    clear t2
    have k0 : w2.cell? ⟨g, 0, none⟩ = some (.int .i64 W) := (T2.out.row (i := 5) rfl).cell 0
    have k1 : w2.cell? ⟨g, 1, none⟩ = some (.int .i64 N) := (T2.out.row (i := 5) rfl).cell 1
    have k2 : w2.cell? ⟨g, 2, none⟩ = some (.int .i64 M) := (T2.out.row (i := 5) rfl).cell 2
    have k3 : w2.cell? ⟨g, 3, none⟩ = some (.bool false) := (T2.out.row (i := 5) rfl).cell 3
    clear T1
    go_wp2_with fail
    have kc := KP.out w2
    with_reducible refine kc.mono ?_
    clear kc
    rintro e w' ⟨rfl, rfl⟩
    have hl4 : 4 < (HpL q cp vb vd vl ss m ls (ArT p ⟨bs, cp, b⟩ :: DdO g W N M false :: l)).length := by simp only [List.length_cons]; omega
    have HL4 := Lib.hid hl4
    clear hl4
    go_wp2_with fail
    have kc := law12_Size w2 N false HN.out.1 HN.out.2
    with_reducible refine kc.mono ?_
    clear kc
    rintro e w' ⟨⟨s', rfl, hz0, hz1⟩, rfl⟩
    have HZ0 := Lib.hid hz0
    have HZ1 := Lib.hid hz1
    clear hz0 hz1
    cases hz : isSize s' with
    | false =>
      have HZ := Lib.hid hz
      clear hz
      go_wp2_with fail
      have kc := al_Take_bad (p := p) T2.out s' HZ0.out HZ1.out HZ.out
      with_reducible refine kc.mono ?_
      clear kc
      rintro e w3 ⟨rfl, t3⟩
      have T3 := Lib.hid t3
      clear t3
      go_wp2_with fail
      have kc := code_of w3 1 (by decide) (by decide)
      with_reducible refine kc.mono ?_
      clear kc
      rintro e w' ⟨rfl, rfl⟩
      go_wp2_with fail
      have kc := ref_Class w3 s' HZ0.out HZ1.out
      rw [cls_no HZ.out] at kc
      with_reducible refine kc.mono ?_
      clear kc
      rintro e w' ⟨rfl, rfl⟩
      go_wp2
      go_ret
      exact ⟨rfl, als_done (r := (m, ls)) ⟨_, _, _, HS.out, T3.out⟩ HR.out HF.out⟩
    | true =>
      have hz2 := (isSize_iff _).1 hz
      obtain ⟨n, rfl⟩ : ∃ n : Nat, s' = n := ⟨s'.toNat, by omega⟩
      have HZ := Lib.hid hz
      have hcn := clsN_of hz
      have HCN := Lib.hid hcn
      have d7 : decide ((clsN n : Int) ≥ 0) = true := decide_eq_true (by omega)
      clear hz hz2 hcn
      cases hg : takeM m cp n ls with
      | none =>
        have HG := Lib.hid hg
        clear hg
        go_wp2_with fail
        have kc := al_Take (i := 4) (show St B w0 w2 ((HpL q cp vb vd vl ss m ls (ArT p ⟨bs, cp, b⟩ :: DdO g W N M false :: l)).set 4 (ArT p ⟨bs, cp, b⟩)) from T2.out) HL4.out HR.out n HZ.out
        rw [HG.out] at kc
        with_reducible refine kc.mono ?_
        clear kc
        rintro e w3 ⟨rfl, t3⟩
        have T3 := Lib.hid t3
        clear t3
        go_wp2_with fail
        have kc := code_of w3 5 (by decide) (by decide)
        with_reducible refine kc.mono ?_
        clear kc
        rintro e w' ⟨rfl, rfl⟩
        go_wp2_with fail
        have kc := ref_Class w3 (n : Int) HZ0.out HZ1.out
        rw [HCN.out.2] at kc
        with_reducible refine kc.mono ?_
        clear kc
        rintro e w' ⟨rfl, rfl⟩
        go_wp2_with fail
        have kc := rh_Take (m := m) (l := ArT p ⟨bs, cp, b⟩ :: DdO g W N M false :: l) T3.out HS.out HR.out HF.out n HZ.out cp rfl HCP.out.2.1
        rw [HG.out] at kc
        with_reducible refine kc.mono ?_
        clear kc
        rintro e w4 ⟨rfl, t4⟩
        have T4 := Lib.hid t4
        clear t4
        go_wp2
        go_ret
        exact ⟨rfl, als_done T4.out HR.out HF.out⟩
      | some r =>
        obtain ⟨o2, r⟩ := r
        have HG := Lib.hid hg
        clear hg
        go_wp2_with fail
        have kc := al_Take (i := 4) (show St B w0 w2 ((HpL q cp vb vd vl ss m ls (ArT p ⟨bs, cp, b⟩ :: DdO g W N M false :: l)).set 4 (ArT p ⟨bs, cp, b⟩)) from T2.out) HL4.out HR.out n HZ.out
        rw [HG.out] at kc
        with_reducible refine kc.mono ?_
        clear kc
        rintro e w3 ⟨rfl, b3', t3, hu3, hr3⟩
        have T3 := Lib.hid t3
        have HU3 := Lib.hid hu3
        have HR3 := Lib.hid hr3
        clear t3 hu3 hr3
        go_wp2_with fail
        have kc := code_nil w3
        with_reducible refine kc.mono ?_
        clear kc
        rintro e w' ⟨rfl, rfl⟩
        go_wp2_with fail
        have kc := ref_Class w3 (n : Int) HZ0.out HZ1.out
        rw [HCN.out.2] at kc
        with_reducible refine kc.mono ?_
        clear kc
        rintro e w' ⟨rfl, rfl⟩
        go_wp2_with fail
        have kc := rh_Take (m := m) (l := ArT p ⟨bs, cp, b3'⟩ :: DdO g W N M false :: l) T3.out HS.out HR.out HF.out n HZ.out cp rfl HCP.out.2.1
        rw [HG.out] at kc
        with_reducible refine kc.mono ?_
        clear kc
        rintro e w4 ⟨rfl, t4⟩
        have T4 := Lib.hid t4
        clear t4
        go_wp2
        go_ret
        exact ⟨rfl, als_done T4.out HR3.out (fine_takeM HF.out HG.out)⟩
end
end Go.Proofs.Ytenbpbnffnodhaa

/- Layer 9's statements: the bytes of an arena, of what is laid. -/
namespace Go.Own
open Go Go.RowKit
/-- What is laid. -/
structure Ly where
  what : Int
  at_ : Int
  v : Int
def Ly.cells (d : Ly) : List Value := [.int .i64 d.what, .int .i64 d.at_, .int .u64 d.v]
structure Ly.Ok (d : Ly) : Prop where
  what : -9223372036854775808 ≤ d.what ∧ d.what ≤ 9223372036854775807
  at_ : -9223372036854775808 ≤ d.at_ ∧ d.at_ ≤ 9223372036854775807
  v : 0 ≤ d.v ∧ d.v ≤ 18446744073709551615
/-- What lay below B reads as it did: a row of cells. -/
theorem St.argSl {w0 w : World} {l : List Ob} (h : St w0.heap.size w0 w l) {a : Option Addr} {n c z : Nat} {vs : List Value} (hs : Sl w0 a n c z vs) : Sl w a n c z vs where
  len := hs.len
  cap := hs.cap
  room := hs.room
  nilcap := hs.nilcap
  cells := fun i v hi => by
    obtain ⟨b, o, e, hc⟩ := hs.cells i v hi
    exact ⟨b, o, e, h.argCell hc⟩
end Go.Own
namespace Go.Proofs.Ytenbpbnffnodhaa
open Go Go.RowKit Go.Own
set_option linter.unusedVariables false
set_option maxRecDepth 100000
section
variable {B : Nat} {w0 w : World} {l : List Ob}
section
variable {ops : Array Oper} {rest : List Oper} {o : Oper} {a : Act} {Q : Exit → Act → World → Prop}
end
end
end Go.Proofs.Ytenbpbnffnodhaa
