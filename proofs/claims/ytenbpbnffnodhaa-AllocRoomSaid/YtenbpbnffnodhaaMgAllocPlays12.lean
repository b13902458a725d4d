/- Texts of the proof of 'AllocPlays', part 12: words on memory, contracts of functions, plain laws. No condition. -/
import Derived.Test.YtenbpbnffnodhaaMgAllocPlays7
import Derived.Test.YtenbpbnffnodhaaMgAllocPlays8
import Derived.Test.YtenbpbnffnodhaaMgAllocPlays9
import Derived.Test.YtenbpbnffnodhaaMgAllocPlays10
import Derived.Test.YtenbpbnffnodhaaMgAllocPlays11
set_option linter.unusedSimpArgs false
set_option linter.unusedVariables false
/- Blocks that are taken, given back, cut: the program's Take, Used, Give, Trim. -/
namespace Go.Proofs.Ytenbpbnffnodhaa
open Go Go.RowKit Go.Own
set_option linter.unusedVariables false
set_option maxRecDepth 100000
section
variable {B : Nat} {w0 w : World} {l : List Ob} {i p bs cp : Nat} {b : List UInt8}
theorem al_Take_bad (h : St B w0 w l) (s : Int) (s0 : -9223372036854775808 ≤ s) (s1 : s ≤ 9223372036854775807) (hs : isSize s = false) :
    Calls Try.prog 106 #[arP p, .int .i64 s] w fun e w' => e = .returned (.tuple #[.int .i64 0, .iface 183 (.int .i64 1)]) ∧ St B w0 w' l := by
  have kc0 := class_Class w s s0 s1
  have hc : cls s = -1 := by unfold cls; rw [hs]; rfl
  rw [hc] at kc0
  have KC := Lib.hid kc0; have H := Lib.hid h
  clear kc0 hc hs h
  go_enter Try.func106, Try.ntmps106
  go_wp2_with fail
  have kc := KC.out
  with_reducible refine kc.mono ?_
  clear kc
  rintro e w' ⟨rfl, rfl⟩
  go_wp2
  go_ret2
  exact ⟨rfl, H.out⟩
set_option maxHeartbeats 8000000 in
theorem al_Take (h : St B w0 w (l.set i (ArT p ⟨bs, cp, b⟩))) (hil : i < l.length) {m : List Bd} {ls : Ls} (hR : Right b (bsOf m) ls) (n : Nat) (hn : isSize (n : Int) = true) :
    Calls Try.prog 106 #[arP p, .int .i64 n] w (TakR B w0 l i p bs cp b (usedOf (bsOf m)) (takeM m cp n ls)) := by
  have hnz := (isSize_iff _).1 hn
  have hcs := cls_size hn
  obtain ⟨C, hC⟩ : ∃ C : Nat, cls n = C := ⟨(cls n).toNat, by omega⟩
  have kc0 := class_Class w (n : Int) (by omega) (by omega)
  rw [hC] at kc0
  have KC := Lib.hid kc0; have H := Lib.hid h; have HIL := Lib.hid hil; have HR := Lib.hid hR; have HN := Lib.hid hn
  have hF := findB_right hR hn
  have d0 : decide ((C : Int) < 0) = false := decide_eq_false (by omega)
  clear kc0 h hil hcs hC
  cases hf : findL (bsOf m) ls n with
  | none =>
    have ht : takeM m cp n ls = takeTail m cp n ls := by unfold takeM; rw [hf]
    rw [ht]
    rw [hf, Option.getD_none] at hF
    have hlt : ∀ x, m.getLast? = some x → x.b.used = false → x.b.size < n := fun x hx hu => findL_none hR hn hf (by
      have := List.mem_of_mem_getLast? hx
      exact List.mem_map.2 ⟨x, this, rfl⟩) hu
    have HF := Lib.hid hF; have HLT := Lib.hid hlt
    clear hF hlt hf ht hR hn
    go_enter Try.func106, Try.ntmps106
    go_wp2_with fail
    have kc := KC.out
    with_reducible refine kc.mono ?_
    clear kc
    rintro e w' ⟨rfl, rfl⟩
    go_wp2_with fail
    have kc := fit_Find H.out HIL.out n HN.out
    rw [HF.out, show fndV (some 0) = .tuple #[.int .i64 0, .nilIface] from rfl] at kc
    with_reducible refine kc.mono ?_
    clear kc
    rintro e w2 ⟨rfl, t2⟩
    have T2 := Lib.hid t2
    clear t2
    go_wp2_with fail
    have kc := al_tail T2.out HIL.out HR.out n HN.out HLT.out
    with_reducible refine kc.mono ?_
    clear kc
    intro e w3 t3
    cases hr : takeTail m cp n ls with
    | none =>
      rw [hr] at t3
      obtain ⟨rfl, t3⟩ := t3
      have T3 := Lib.hid t3; have HQ := Lib.hid hr
      clear t3 hr
      go_wp2
      go_ret2
      rw [HQ.out]
      exact ⟨rfl, T3.out⟩
    | some q =>
      rw [hr] at t3
      obtain ⟨o, q⟩ := q
      obtain ⟨rfl, t3⟩ := t3
      have T3 := Lib.hid t3; have HQ := Lib.hid hr
      clear t3 hr
      go_wp2
      go_ret2
      rw [HQ.out]
      exact ⟨rfl, T3.out⟩
  | some o =>
    obtain ⟨x0, hx0, hxo, hxu, hxn, ho0⟩ := findL_some hR hn hf
    obtain ⟨X, hX, rfl⟩ := List.mem_map.1 hx0
    obtain ⟨j, hj⟩ := List.getElem?_of_mem hX
    subst hxo
    have hat := hR.offs.atI hj rfl
    have ht : takeM m cp n ls = some (X.b.off, cutM (m.take j) X.b.off X.b.size X.d (m.drop (j + 1)) n (outL ls (clsN X.b.size) X.b.off)) := by
      unfold takeM cutAt
      rw [hf]
      simp only [hat, hj]
    rw [ht]
    have hspl := bsOf_split hj
    have hR2 := hR
    rw [hspl] at hR2
    have hbl : blkI b (X.b.off : Int) = some X.b := by rw [blkI_nat]; exact (hR.good.mem hx0).2.1
    obtain ⟨b1, t1, t2, t3, t4, _⟩ := hR2.take hxu
    rw [hf, Option.getD_some] at hF
    have d1 : ((X.b.off : Int) == 0) = false := by rw [beq_eq_false_iff_ne]; omega
    have hus : usedOf (bsOf m) = usedOf (bsOf (m.take j) ++ bsOf (m.drop (j + 1))) := by rw [hspl, usedOf_free hxu]
    have HF := Lib.hid hF; have HB := Lib.hid hbl; have HT := Lib.hid (takeI_of t1); have HH := Lib.hid t4; have HU := Lib.hid (And.intro hus (And.intro t3 hxn))
    clear hF hbl t1 t2 t3 t4 hus hR2 hspl ht hat hf hx0 hX hj hR hn hxn ho0
    go_enter Try.func106, Try.ntmps106
    go_wp2_with fail
    have kc := KC.out
    with_reducible refine kc.mono ?_
    clear kc
    rintro e w' ⟨rfl, rfl⟩
    go_wp2_with fail
    have kc := fit_Find H.out HIL.out n HN.out
    rw [HF.out, show fndV (some X.b.off) = .tuple #[.int .i64 X.b.off, .nilIface] from rfl] at kc
    with_reducible refine kc.mono ?_
    clear kc
    rintro e w2 ⟨rfl, t2⟩
    have T2 := Lib.hid t2
    clear t2
    go_wp2_with fail
    have kc := blk_Get T2.out (i := i) (at_set HIL.out _) (X.b.off : Int)
    rw [show ({ base := bs, cap := cp, b := b } : Ar).b = b from rfl, HB.out, show bkV (some X.b) = .agg #[.int .i64 X.b.off, .int .i64 X.b.size, .bool X.b.used] from rfl, hxu, show errO (some X.b) = .nilIface from rfl] at kc
    with_reducible refine kc.mono ?_
    clear kc
    rintro e w3 ⟨rfl, t3⟩
    have T3 := Lib.hid t3
    clear t3
    clear hxu
    go_wp2_with (first | (refine bk_alloc T3.out rfl rfl ?_; intro g4 w4 h4; have T4 := Lib.hid h4; clear h4) | (refine bk_store T4.out 0 rfl rfl _ _ rfl rfl X.b.off X.b.size false rfl ?_; intro w5 h5; have T5 := Lib.hid (show St B w0 w5 ((BkO g4 X.b.off X.b.size false :: l).set (i + 1) (ArT p ⟨bs, cp, b⟩)) from h5); clear h5 T4; go_wp2_with fail))
    have kc := ls_Take T5.out (by simp only [List.length_cons]; have := HIL.out; omega) (X.b.off : Int)
    rw [HT.out, show errP (some b1) = .nilIface from rfl, Option.getD_some] at kc
    with_reducible refine kc.mono ?_
    clear kc
    rintro e w6 ⟨rfl, t6⟩
    have T6 := Lib.hid t6
    clear t6
    go_wp2_with (refine bk_load T6.out 0 rfl rfl _ rfl rfl ?_)
    have kc := al_cut T6.out (by simp only [List.length_cons]; have := HIL.out; omega) X.d HH.out HN.out HU.out.2.2 (X.b.off : Int) (X.b.size : Int) (n : Int) false rfl rfl rfl
    with_reducible refine kc.mono ?_
    clear kc
    rintro e w7 ⟨rfl, t7⟩
    have T7 := Lib.hid t7
    clear t7
    go_wp2
    go_ret2
    obtain ⟨b4, r1, r2, r3, r4⟩ := T7.out.tail
    refine ⟨rfl, b4, r1, ?_, r4⟩
    rw [HU.out.1]
    exact HU.out.2.1.trans r3
/-- What Used tells. -/
def usV (m : List Bd) (o : Int) : Value := match usedZ m o with
  | some j => match m[j]? with
    | some x => .tuple #[.agg #[.int .i64 x.b.off, .int .i64 x.b.size, .bool true], .nilIface]
    | none => .tuple #[.agg #[.int .i64 0, .int .i64 0, .bool false], .iface 183 (.int .i64 3)]
  | none => .tuple #[.agg #[.int .i64 0, .int .i64 0, .bool false], .iface 183 (.int .i64 3)]
set_option maxHeartbeats 8000000 in
theorem al_Used (h : St B w0 w (l.set i (ArT p ⟨bs, cp, b⟩))) (hil : i < l.length) {m : List Bd} {ls : Ls} (hR : Right b (bsOf m) ls) (o : Int) :
    Calls Try.prog 199 #[arP p, .int .i64 o] w fun e w' => e = .returned (usV m o) ∧ St B w0 w' (l.set i (ArT p ⟨bs, cp, b⟩)) := by
  have hW := hR.walk
  have hoffs := hR.offs
  have hLn := walk_len hW hR.max
  have H := Lib.hid h; have HIL := Lib.hid hil; have HW := Lib.hid hW; have HO := Lib.hid hoffs
  obtain ⟨V, hV⟩ : ∃ V, V = usV m o := ⟨_, rfl⟩
  rw [← hV]
  have hm : (bsOf m).length = m.length := List.length_map ..
  have hyes : ∀ j, (hj : j < (bsOf m).length) → ((bsOf m)[j].off : Int) = o → (bsOf m)[j].used = true → V = .tuple #[.agg #[.int .i64 (bsOf m)[j].off, .int .i64 (bsOf m)[j].size, .bool true], .nilIface] := fun j hj h1 h2 => by
    have hj2 : j < m.length := by omega
    have he : (bsOf m)[j] = m[j].b := by simp [bsOf]
    rw [he] at h1 h2 ⊢
    have hg : m[j]? = some m[j] := List.getElem?_eq_getElem hj2
    rw [hV]; unfold usV
    rw [hoffs.usedZ hg h1 h2]
    simp only [hg]
  have hno : (∀ j, (hj : j < (bsOf m).length) → ¬ (((bsOf m)[j].off : Int) = o ∧ (bsOf m)[j].used = true)) → V = .tuple #[.agg #[.int .i64 0, .int .i64 0, .bool false], .iface 183 (.int .i64 3)] := fun hall => by
    rw [hV]; unfold usV
    rw [usedZ_none fun x hx hh => by
      obtain ⟨j, hj, rfl⟩ := List.mem_iff_getElem.1 hx
      refine hall j (by omega) ?_
      have he : (bsOf m)[j] = m[j].b := by simp [bsOf]
      rw [he]; exact hh]
  generalize bsOf m = L at *
  have HY := Lib.hid hyes; have HNo := Lib.hid hno
  clear h hil hW hoffs hV hm hyes hno hR
  go_enter Try.func199, Try.ntmps199
  go_wp2_with (refine bk_alloc H.out rfl rfl ?_; intro g1 w1 h1; have T1 := Lib.hid h1; clear h1)
  have kc := blk_Walk T1.out (i := i + 1) (at_set HIL.out _)
  rw [show ({ base := bs, cap := cp, b := b } : Ar).b = b from rfl, HW.out, show errW (some L) = .nilIface from rfl, Option.getD_some] at kc
  with_reducible refine kc.mono ?_
  clear kc
  rintro e w2 ⟨v2', rfl, t2⟩
  have T2 := Lib.hid t2
  clear t2
  obtain ⟨a2, c2, e2, _⟩ := bls_slice T2.out (i := 0) rfl
  subst e2
  go_wp2
  go_loopw [21] (fun vi wr => ∃ k : Nat, k ≤ L.length ∧ vi = .int .i64 k ∧ (∀ j, j < k → (hj : j < L.length) → ¬ ((L[j].off : Int) = o ∧ L[j].used = true)) ∧ St B w0 wr (BlsO (.slice a2 L.length c2) L :: BkO g1 0 0 false :: l.set i (ArT p ⟨bs, cp, b⟩))) (fun vi _ => L.length - (intOf vi).toNat)
  case atStart => exact ⟨0, Nat.zero_le _, rfl, fun j hj => by omega, T2.out⟩
  case round =>
    obtain ⟨k, hk, rfl, hall, hS⟩ := hrel
    clear T2 T1
    by_cases hlt : k < L.length
    · have d2 : decide ((k : Int) < (L.length : Int)) = true := decide_eq_true (by omega)
      obtain ⟨bb, bo, rfl, hr⟩ := bl_at (bls_sl hS (i := 0) rfl).2 k hlt
      have hy := HY.out k hlt
      have hnext : ¬ ((L[k].off : Int) = o ∧ L[k].used = true) → ∀ j, j < k + 1 → (hj : j < L.length) → ¬ ((L[j].off : Int) = o ∧ L[j].used = true) := fun hn j hj hj2 => by
        by_cases hjk : j = k
        · subst hjk; exact hn
        · exact hall j (by omega) hj2
      generalize L[k] = x at *
      have HS := Lib.hid hS; have HRR := Lib.hid hr; have HNX := Lib.hid hnext; have HYK := Lib.hid hy
      clear hS hr hnext hy hall
      by_cases hxo : (x.off : Int) = o
      · subst hxo
        cases hu : x.used with
        | true =>
          have HV := Lib.hid (HYK.out rfl hu); have HU := Lib.hid hu
          clear hu
          go_wp2_with (first | (refine bl_mid rfl _ rfl bb (bo + k * 3) rfl x HRR.out ?_) | (refine bk_alloc HS.out rfl rfl ?_; intro g4 w4 h4; have T4 := Lib.hid h4; clear h4) | (refine bk_store T4.out 0 rfl rfl _ _ rfl rfl x.off x.size x.used rfl ?_; intro w5 h5; have T5 := Lib.hid (show St B w0 w5 (BkO g4 x.off x.size x.used :: BlsO (.slice (some ⟨bb, bo, none⟩) L.length c2) L :: BkO g1 0 0 false :: l.set i (ArT p ⟨bs, cp, b⟩)) from h5); clear h5 T4; have k2 : w5.cell? ⟨g4, 2, none⟩ = some (.bool true) := (by rw [← HU.out]; exact (T5.out.row (i := 0) rfl).cell 2); have k0 : w5.cell? ⟨g4, 0, none⟩ = some (.int .i64 x.off) := (T5.out.row (i := 0) rfl).cell 0; go_wp2_with (first | (refine bk_load T5.out 0 rfl rfl _ rfl rfl ?_) | (refine bk_store T5.out 2 rfl rfl _ _ rfl rfl x.off x.size x.used rfl ?_; intro w6 h6; have T6 := Lib.hid (show St B w0 w6 (BkO g4 x.off x.size x.used :: BlsO (.slice (some ⟨bb, bo, none⟩) L.length c2) L :: BkO g1 x.off x.size x.used :: l.set i (ArT p ⟨bs, cp, b⟩)) from h6); clear h6 T5))))
          refine bodyPost_ret (results_row2 rfl _ _ g1 _ _ _ rfl (T6.out.row (i := 2) rfl) Try.underlying77 rfl size_bl) rfl ⟨by rw [HV.out, HU.out]; rfl, T6.out.tail.tail.tail⟩
        | false =>
          have HN2 := Lib.hid (HNX.out fun h => by rw [hu] at h; exact absurd h.2 (by decide)); have HU := Lib.hid hu
          clear hu
          go_wp2_with (first | (refine bl_mid rfl _ rfl bb (bo + k * 3) rfl x HRR.out ?_) | (refine bk_alloc HS.out rfl rfl ?_; intro g4 w4 h4; have T4 := Lib.hid h4; clear h4) | (refine bk_store T4.out 0 rfl rfl _ _ rfl rfl x.off x.size x.used rfl ?_; intro w5 h5; have T5 := Lib.hid (show St B w0 w5 (BkO g4 x.off x.size x.used :: BlsO (.slice (some ⟨bb, bo, none⟩) L.length c2) L :: BkO g1 0 0 false :: l.set i (ArT p ⟨bs, cp, b⟩)) from h5); clear h5 T4; have k2 : w5.cell? ⟨g4, 2, none⟩ = some (.bool false) := (by rw [← HU.out]; exact (T5.out.row (i := 0) rfl).cell 2); have k0 : w5.cell? ⟨g4, 0, none⟩ = some (.int .i64 x.off) := (T5.out.row (i := 0) rfl).cell 0; go_wp2_with fail))
          exact ⟨⟨k + 1, hlt, by go_num, HN2.out, T5.out.tail⟩, by simp [intOf]; omega⟩
      · have d3 : ((x.off : Int) == o) = false := by rw [beq_eq_false_iff_ne]; exact hxo
        have HN2 := Lib.hid (HNX.out fun h => hxo h.1)
        clear hxo
        go_wp2_with (first | (refine bl_mid rfl _ rfl bb (bo + k * 3) rfl x HRR.out ?_) | (refine bk_alloc HS.out rfl rfl ?_; intro g4 w4 h4; have T4 := Lib.hid h4; clear h4) | (refine bk_store T4.out 0 rfl rfl _ _ rfl rfl x.off x.size x.used rfl ?_; intro w5 h5; have T5 := Lib.hid (show St B w0 w5 (BkO g4 x.off x.size x.used :: BlsO (.slice (some ⟨bb, bo, none⟩) L.length c2) L :: BkO g1 0 0 false :: l.set i (ArT p ⟨bs, cp, b⟩)) from h5); clear h5 T4; have k2 : w5.cell? ⟨g4, 2, none⟩ = some (.bool x.used) := ((T5.out.row (i := 0) rfl).cell 2); have k0 : w5.cell? ⟨g4, 0, none⟩ = some (.int .i64 x.off) := (T5.out.row (i := 0) rfl).cell 0; go_wp2_with fail))
        exact ⟨⟨k + 1, hlt, by go_num, HN2.out, T5.out.tail⟩, by simp [intOf]; omega⟩
    · obtain rfl : k = L.length := by omega
      have d2 : decide ((L.length : Int) < (L.length : Int)) = false := decide_eq_false (by omega)
      have HV := Lib.hid (HNo.out fun j hj => hall j hj hj)
      have HS := Lib.hid hS
      clear hS hall
      go_wp2_with (refine bk_store HS.out 1 rfl rfl _ _ rfl rfl 0 0 false rfl ?_; intro w6 h6; have T6 := Lib.hid (show St B w0 w6 (BlsO (.slice a2 L.length c2) L :: BkO g1 0 0 false :: l.set i (ArT p ⟨bs, cp, b⟩)) from h6); clear h6 HS)
      refine bodyPost_ret (results_row2 rfl _ _ g1 _ _ _ rfl (T6.out.row (i := 1) rfl) Try.underlying77 rfl size_bl) rfl ⟨by rw [HV.out]; rfl, T6.out.tail.tail⟩
end
end Go.Proofs.Ytenbpbnffnodhaa

/- Blocks that are given back, and cut: the program's Give and Trim. -/
namespace Go.Own
/-- What is given back, what is cut: nothing: ErrForm. -/
def giveM (m : List Bd) (o : Int) (ls : Ls) : Option (List Bd × Ls) := (usedZ m o).map fun j => giveAt m j ls
def trimM (m : List Bd) (o : Int) (n : Nat) (ls : Ls) : Option (List Bd × Ls) := match usedZ m o with
  | some j => match m[j]? with
    | some x => if x.b.size < n then none else some (cutAt m j n ls)
    | none => none
  | none => none
end Go.Own
namespace Go.Proofs.Ytenbpbnffnodhaa
open Go Go.RowKit Go.Own
set_option linter.unusedVariables false
set_option maxRecDepth 100000
section
variable {B : Nat} {w0 w : World} {l : List Ob} {i p bs cp : Nat} {b : List UInt8}
/-- What a deed tells, and what has become of the arena. -/
def AcR (B : Nat) (w0 : World) (l : List Ob) (i p bs cp : Nat) (b : List UInt8) (us : List Blk) (r : Option (List Bd × Ls)) (e : Ending) (w' : World) : Prop := match r with
  | some q => e = .returned .nilIface ∧ AlR B w0 l i p bs cp b us q w'
  | none => e = .returned (.iface 183 (.int .i64 3)) ∧ St B w0 w' (l.set i (ArT p ⟨bs, cp, b⟩))
/-- The used blocks but one. -/
def othersOf (m : List Bd) (j : Nat) : List Blk := usedOf (bsOf (m.take j) ++ bsOf (m.drop (j + 1)))
def usOf (m : List Bd) (o : Int) : List Blk := match usedZ m o with | some j => othersOf m j | none => usedOf (bsOf m)
set_option maxHeartbeats 8000000 in
theorem al_Give (h : St B w0 w (l.set i (ArT p ⟨bs, cp, b⟩))) (hil : i < l.length) {m : List Bd} {ls : Ls} (hR : Right b (bsOf m) ls) (o : Int) :
    Calls Try.prog 195 #[arP p, .int .i64 o] w (AcR B w0 l i p bs cp b (usOf m o) (giveM m o ls)) := by
  have ku := al_Used h hil hR o
  have HIL := Lib.hid hil; have HR := Lib.hid hR
  unfold giveM usOf
  unfold usV at ku
  cases hz : usedZ m o with
  | none =>
    rw [hz] at ku
    simp only at ku
    have KU := Lib.hid ku
    clear ku hz h hil hR
    go_enter Try.func195, Try.ntmps195
    go_wp2_with fail
    have kc := KU.out
    with_reducible refine kc.mono ?_
    clear kc
    rintro e w1 ⟨rfl, t1⟩
    have T1 := Lib.hid t1
    clear t1
    go_wp2_with (first | (refine bk_alloc T1.out rfl rfl ?_; intro g2 w2 h2; have T2 := Lib.hid h2; clear h2) | (refine bk_store T2.out 0 rfl rfl _ _ rfl rfl 0 0 false rfl ?_; intro w3 h3; have T3 := Lib.hid (show St B w0 w3 (BkO g2 0 0 false :: l.set i (ArT p ⟨bs, cp, b⟩)) from h3); clear h3 T2; go_wp2_with fail))
    go_ret
    exact ⟨rfl, T3.out.tail⟩
  | some j =>
    obtain ⟨x, hj, hxo, hxu⟩ := usedZ_some hz
    rw [hz] at ku
    simp only [hj] at ku
    have hspl := bsOf_split hj
    have hR2 := hR
    rw [hspl] at hR2
    have hh := hR2.hole hxu
    have hg : giveAt m j ls = freeM (m.take j) x.b.off x.b.size (m.drop (j + 1)) ls := by unfold giveAt; simp only [hj]
    simp only [Option.map_some]
    rw [hg]
    have KU := Lib.hid ku; have HH := Lib.hid hh
    clear ku hz h hil hR hR2 hspl hh hg hj hxo hxu
    go_enter Try.func195, Try.ntmps195
    go_wp2_with fail
    have kc := KU.out
    with_reducible refine kc.mono ?_
    clear kc
    rintro e w1 ⟨rfl, t1⟩
    have T1 := Lib.hid t1
    clear t1
    go_wp2_with (first | (refine bk_alloc T1.out rfl rfl ?_; intro g2 w2 h2; have T2 := Lib.hid h2; clear h2) | (refine bk_store T2.out 0 rfl rfl _ _ rfl rfl x.b.off x.b.size true rfl ?_; intro w3 h3; have T3 := Lib.hid (show St B w0 w3 ((BkO g2 x.b.off x.b.size true :: l).set (i + 1) (ArT p ⟨bs, cp, b⟩)) from h3); clear h3 T2; go_wp2_with (refine bk_load T3.out 0 rfl rfl _ rfl rfl ?_)))
    have kc := al_free T3.out (by simp only [List.length_cons]; have := HIL.out; omega) HH.out (x.b.off : Int) (x.b.size : Int) true rfl rfl
    with_reducible refine kc.mono ?_
    clear kc
    rintro e w4 ⟨rfl, t4⟩
    have T4 := Lib.hid t4
    clear t4
    go_wp2
    go_ret
    exact ⟨rfl, T4.out.tail⟩
theorem al_Trim_bad (h : St B w0 w l) (o s : Int) (s0 : -9223372036854775808 ≤ s) (s1 : s ≤ 9223372036854775807) (hs : isSize s = false) :
    Calls Try.prog 197 #[arP p, .int .i64 o, .int .i64 s] w fun e w' => e = .returned (.iface 183 (.int .i64 1)) ∧ St B w0 w' l := by
  have kc0 := class_Class w s s0 s1
  have hc : cls s = -1 := by unfold cls; rw [hs]; rfl
  rw [hc] at kc0
  have KC := Lib.hid kc0; have H := Lib.hid h
  clear kc0 hc hs h
  go_enter Try.func197, Try.ntmps197
  go_wp2_with fail
  have kc := KC.out
  with_reducible refine kc.mono ?_
  clear kc
  rintro e w' ⟨rfl, rfl⟩
  go_wp2
  go_ret
  exact ⟨rfl, H.out⟩
set_option maxHeartbeats 8000000 in
theorem al_Trim (h : St B w0 w (l.set i (ArT p ⟨bs, cp, b⟩))) (hil : i < l.length) {m : List Bd} {ls : Ls} (hR : Right b (bsOf m) ls) (o : Int) (n : Nat) (hn : isSize (n : Int) = true) :
    Calls Try.prog 197 #[arP p, .int .i64 o, .int .i64 n] w (AcR B w0 l i p bs cp b (usOf m o) (trimM m o n ls)) := by
  have hcs := cls_size hn
  have hnz := (isSize_iff _).1 hn
  obtain ⟨C, hC⟩ : ∃ C : Nat, cls n = C := ⟨(cls n).toNat, by omega⟩
  have kc0 := class_Class w (n : Int) (by omega) (by omega)
  rw [hC] at kc0
  have KC := Lib.hid kc0; have HN := Lib.hid hn
  have d0 : decide ((C : Int) < 0) = false := decide_eq_false (by omega)
  have ku := al_Used h hil hR o
  have HIL := Lib.hid hil; have HR := Lib.hid hR
  clear kc0 hcs hC hn
  unfold trimM usOf
  unfold usV at ku
  cases hz : usedZ m o with
  | none =>
    rw [hz] at ku
    simp only at ku
    have KU := Lib.hid ku
    clear ku hz h hil hR
    go_enter Try.func197, Try.ntmps197
    go_wp2_with fail
    have kc := KC.out
    with_reducible refine kc.mono ?_
    clear kc
    rintro e w' ⟨rfl, rfl⟩
    go_wp2_with fail
    have kc := KU.out
    with_reducible refine kc.mono ?_
    clear kc
    rintro e w1 ⟨rfl, t1⟩
    have T1 := Lib.hid t1
    clear t1
    go_wp2_with (first | (refine bk_alloc T1.out rfl rfl ?_; intro g2 w2 h2; have T2 := Lib.hid h2; clear h2) | (refine bk_store T2.out 0 rfl rfl _ _ rfl rfl 0 0 false rfl ?_; intro w3 h3; have T3 := Lib.hid (show St B w0 w3 (BkO g2 0 0 false :: l.set i (ArT p ⟨bs, cp, b⟩)) from h3); clear h3 T2; go_wp2_with fail))
    go_ret
    exact ⟨rfl, T3.out.tail⟩
  | some j =>
    obtain ⟨x, hj, hxo, hxu⟩ := usedZ_some hz
    rw [hz] at ku
    simp only [hj] at ku ⊢
    have hspl := bsOf_split hj
    have hR2 := hR
    rw [hspl] at hR2
    have hh := hR2.hole hxu
    have hg : cutAt m j n ls = cutM (m.take j) x.b.off x.b.size x.d (m.drop (j + 1)) n ls := by unfold cutAt; simp only [hj]
    rw [hg]
    have KU := Lib.hid ku; have HH := Lib.hid hh
    clear ku hz h hil hR hR2 hspl hh hg hj hxo hxu
    by_cases hlt : x.b.size < n
    · rw [if_pos hlt]
      have d1 : decide ((x.b.size : Int) < (n : Int)) = true := decide_eq_true (by omega)
      go_enter Try.func197, Try.ntmps197
      go_wp2_with fail
      have kc := KC.out
      with_reducible refine kc.mono ?_
      clear kc
      rintro e w' ⟨rfl, rfl⟩
      go_wp2_with fail
      have kc := KU.out
      with_reducible refine kc.mono ?_
      clear kc
      rintro e w1 ⟨rfl, t1⟩
      have T1 := Lib.hid t1
      clear t1
      go_wp2_with (first | (refine bk_alloc T1.out rfl rfl ?_; intro g2 w2 h2; have T2 := Lib.hid h2; clear h2) | (refine bk_store T2.out 0 rfl rfl _ _ rfl rfl x.b.off x.b.size true rfl ?_; intro w3 h3; have T3 := Lib.hid (show St B w0 w3 (BkO g2 x.b.off x.b.size true :: l.set i (ArT p ⟨bs, cp, b⟩)) from h3); clear h3 T2; have k1 : w3.cell? ⟨g2, 1, none⟩ = some (.int .i64 x.b.size) := (T3.out.row (i := 0) rfl).cell 1; go_wp2_with fail))
      go_ret
      exact ⟨rfl, T3.out.tail⟩
    · rw [if_neg hlt]
      have d1 : decide ((x.b.size : Int) < (n : Int)) = false := decide_eq_false (by omega)
      have HLE := Lib.hid (show n ≤ x.b.size by omega)
      go_enter Try.func197, Try.ntmps197
      go_wp2_with fail
      have kc := KC.out
      with_reducible refine kc.mono ?_
      clear kc
      rintro e w' ⟨rfl, rfl⟩
      go_wp2_with fail
      have kc := KU.out
      with_reducible refine kc.mono ?_
      clear kc
      rintro e w1 ⟨rfl, t1⟩
      have T1 := Lib.hid t1
      clear t1
      go_wp2_with (first | (refine bk_alloc T1.out rfl rfl ?_; intro g2 w2 h2; have T2 := Lib.hid h2; clear h2) | (refine bk_store T2.out 0 rfl rfl _ _ rfl rfl x.b.off x.b.size true rfl ?_; intro w3 h3; have T3 := Lib.hid (show St B w0 w3 ((BkO g2 x.b.off x.b.size true :: l).set (i + 1) (ArT p ⟨bs, cp, b⟩)) from h3); clear h3 T2; have k1 : w3.cell? ⟨g2, 1, none⟩ = some (.int .i64 x.b.size) := (T3.out.row (i := 0) rfl).cell 1; go_wp2_with (refine bk_load T3.out 0 rfl rfl _ rfl rfl ?_)))
      have kc := al_cut T3.out (by simp only [List.length_cons]; have := HIL.out; omega) x.d HH.out HN.out HLE.out (x.b.off : Int) (x.b.size : Int) (n : Int) true rfl rfl rfl
      with_reducible refine kc.mono ?_
      clear kc
      rintro e w4 ⟨rfl, t4⟩
      have T4 := Lib.hid t4
      clear t4
      go_wp2
      go_ret
      exact ⟨rfl, T4.out.tail⟩
end
end Go.Proofs.Ytenbpbnffnodhaa

/- Layer 12's statements: the example. -/
namespace Go.Own
theorem right0 : Right (List.replicate 184 (0 : UInt8)) (bsOf []) (fun _ => []) := by
  refine ⟨by rw [List.length_replicate]; decide, by rw [List.length_replicate]; rfl, ?_, fun y hy => by cases hy⟩
  refine ⟨?_, fun c hc => ?_, fun c hc => ⟨0, rfl, ?_⟩, fun c hc o ho => (by cases ho), fun c hc => List.nodup_nil⟩
  · rw [numAt_zero (by decide)]; decide
  · rw [numAt_zero (by decide)]; unfold bitAt; simp
  · rw [numAt_zero (by unfold headO; omega)]
set_option maxRecDepth 100000
abbrev L0 : Ls := fun _ => []
abbrev L3 : Ls := inL L0 (clsN 32) 184
abbrev L4 : Ls := outL L3 (clsN 32) 184
abbrev bd1 (u : Bool) : Bd := ⟨⟨184, 32, u⟩, none0⟩
abbrev bd2 : Bd := ⟨⟨216, 32, true⟩, none0⟩
theorem tk1 : takeM [] 1024 32 L0 = some (184, [bd1 true], L0) := rfl
theorem tk2 : takeM [bd1 true] 1024 32 L0 = some (216, [bd1 true, bd2], L0) := rfl
theorem tk3 : giveM [bd1 true, bd2] 184 L0 = some ([bd1 false, bd2], L3) := rfl
theorem tk4 : takeM [bd1 false, bd2] 1024 32 L3 = some (184, [bd1 true, bd2], L4) := rfl
theorem tk5 : takeM [bd1 true, bd2] 1024 4096 L4 = none := rfl
end Go.Own
namespace Go.Proofs.Ytenbpbnffnodhaa
open Go Go.RowKit Go.Own
set_option linter.unusedVariables false
set_option maxRecDepth 100000
set_option maxHeartbeats 4000000 in
theorem up12 (w : World) : Calls Try.prog 103 #[] w fun e w' => e = .returned (.bool true) ∧ Below w.heap.size w w' := by
  have T0 := Lib.hid (St.start w)
  obtain ⟨g, W, hmk, t1⟩ := mk_st T0.out (184 : Int) 184 rfl (by decide)
  have hz : (List.replicate 184 (0 : UInt8)).length = 184 := List.length_replicate ..
  have hR := right0
  generalize List.replicate 184 (0 : UInt8) = z at *
  have HR := Lib.hid hR; have HZ := Lib.hid hz; have T1 := Lib.hid t1
  clear hR hz t1
  go_enter Try.func103, Try.ntmps103
  go_wp2_with fail
  have kc := ar_Arena T1.out 16 16 rfl 1024 1024 rfl (by decide) (by decide) (by decide) (by decide) (some ⟨g, 0, none⟩) 184 184 z (T1.out.bsV (i := 0) rfl) (by rw [HZ.out]; decide)
  with_reducible refine kc.mono ?_
  clear kc
  rintro e w2 ⟨q, rfl, t2⟩
  have T2 := Lib.hid t2
  clear t2
  have T3 := Lib.hid (show St w.heap.size w w2 (([ArT q ⟨16, 1024, z⟩] : List Ob).set 0 (ArT q ⟨16, 1024, z⟩)) from T2.out.sub (List.Sublist.cons_cons _ (List.sublist_cons_self ..)))
  clear T2
  go_wp2_with fail
  have kc := al_Take T3.out (Nat.zero_lt_one) HR.out 32 (by decide)
  rw [tk1, show ((32 : Nat) : Int) = 32 from rfl] at kc
  with_reducible refine kc.mono ?_
  clear kc
  rintro e w4 ⟨rfl, b4', t4, hu4, hr4⟩
  have T4 := Lib.hid t4
  have HU4 := Lib.hid hu4
  have HR4 := Lib.hid hr4
  clear t4 hu4 hr4
  go_wp2_with fail
  have kc := al_Take T4.out (Nat.zero_lt_one) HR4.out 32 (by decide)
  rw [tk2, show ((32 : Nat) : Int) = 32 from rfl] at kc
  with_reducible refine kc.mono ?_
  clear kc
  rintro e w5 ⟨rfl, b5', t5, hu5, hr5⟩
  have T5 := Lib.hid t5
  have HU5 := Lib.hid hu5
  have HR5 := Lib.hid hr5
  clear t5 hu5 hr5
  go_wp2_with fail
  have kc := al_Give T5.out (Nat.zero_lt_one) HR5.out 184
  rw [tk3] at kc
  with_reducible refine kc.mono ?_
  clear kc
  rintro e w6 ⟨rfl, b6', t6, hn6, hu6, hr6⟩
  have T6 := Lib.hid t6
  have HN6 := Lib.hid hn6
  have HU6 := Lib.hid hu6
  have HR6 := Lib.hid hr6
  clear t6 hn6 hu6 hr6
  go_wp2_with fail
  have kc := al_Take T6.out (Nat.zero_lt_one) HR6.out 32 (by decide)
  rw [tk4, show ((32 : Nat) : Int) = 32 from rfl] at kc
  with_reducible refine kc.mono ?_
  clear kc
  rintro e w7 ⟨rfl, b7', t7, hu7, hr7⟩
  have T7 := Lib.hid t7
  have HU7 := Lib.hid hu7
  have HR7 := Lib.hid hr7
  clear t7 hu7 hr7
  go_wp2_with fail
  have kc := al_Take T7.out (Nat.zero_lt_one) HR7.out 4096 (by decide)
  rw [tk5, show ((4096 : Nat) : Int) = 4096 from rfl] at kc
  with_reducible refine kc.mono ?_
  clear kc
  rintro e w8 ⟨rfl, t8⟩
  have T8 := Lib.hid t8
  clear t8
  have B8 := Lib.hid T8.out.end
  go_wp2_with fail
  have kc := code_of w8 5 (by decide) (by decide)
  with_reducible refine kc.mono ?_
  clear kc
  rintro e w' ⟨rfl, rfl⟩
  go_wp2
  go_ret
  exact ⟨rfl, B8.out⟩
end Go.Proofs.Ytenbpbnffnodhaa

/- Free blocks parted by used ones, put and taken. No program. -/
namespace Go.Own
/-- Each block, and a used one of 32 behind it. -/
def pairs (L : List Blk) : List Blk := L.flatMap fun x => [x, ⟨x.off + x.size, 32, true⟩]
theorem mem_pairs {L : List Blk} {x : Blk} (h : x ∈ L) : x ∈ pairs L ∧ (⟨x.off + x.size, 32, true⟩ : Blk) ∈ pairs L := by
  unfold pairs
  constructor <;> rw [List.mem_flatMap] <;> exact ⟨x, h, by simp⟩
theorem lists_nil {b : List UInt8} {bs : List Blk} (hz : ∀ t, t + 8 ≤ 184 → numAt b t = 0) : Lists b bs fun _ => [] := by
  refine ⟨by rw [hz 0 (by omega)]; decide, fun c hc => ?_, fun c hc => ?_, (fun c hc o ho => by cases ho), fun c hc => List.nodup_nil⟩
  · rw [hz 0 (by omega)]; unfold bitAt; simp
  · rw [hz (headO c) (by unfold headO; omega)]; exact ⟨0, rfl, rfl⟩
/-- What is in the lists, of these free blocks. -/
structure Marks (b : List UInt8) (L : List Blk) (ls : Nat → List Nat) (fl : List Bool) : Prop where
  tile : Tile b 184 (pairs L)
  len : 184 ≤ b.length
  max : b.length ≤ 16384
  lists : Lists b (pairs L) ls
  fln : fl.length = L.length
  free : ∀ x ∈ L, x.used = false
  mark : ∀ (j : Nat) (h : j < L.length), fl[j]? = some (decide (L[j].off ∈ ls (clsN L[j].size)))
theorem Marks.cls {b : List UInt8} {L : List Blk} {ls : Nat → List Nat} {fl : List Bool} (h : Marks b L ls fl) {x : Blk} (hx : x ∈ L) : clsN x.size < 22 ∧ cls x.size = clsN x.size :=
  clsN_lt (h.tile.mem (mem_pairs hx).1).2.1
theorem Marks.offs {b : List UInt8} {L : List Blk} {ls : Nat → List Nat} {fl : List Bool} (h : Marks b L ls fl) {x y : Blk} (hx : x ∈ L) (hy : y ∈ L) (he : x.off = y.off) : x = y := by
  have g1 := (h.tile.mem (mem_pairs hx).1).2.1; have g2 := (h.tile.mem (mem_pairs hy).1).2.1
  rw [he, g2] at g1
  simp only [Option.some.injEq] at g1
  exact g1.symm
/-- The lists' numbers in one's own list of lists. -/
theorem Marks.put {b : List UInt8} {L : List Blk} {ls : Nat → List Nat} {fl : List Bool} (h : Marks b L ls fl) (hd : L.Pairwise fun u v => u.off ≠ v.off) (k : Nat) (hk : k < L.length) (hf : fl[k]? = some false) :
    ∃ b', putB b L[k].off = some b' ∧ Marks b' L (inL ls (clsN L[k].size) L[k].off) (fl.set k true) := by
  have hx := List.getElem_mem hk
  have hc := h.cls hx
  have hno : L[k].off ∉ ls (clsN L[k].size) := by
    have := h.mark k hk
    rw [hf] at this
    simpa using this.symm
  obtain ⟨b', h1, h2, h3⟩ := putB_lists h.lists h.tile.good h.len h.max hc.1 (mem_pairs hx).1 (h.free _ hx) hc.2 hno
  refine ⟨b', h1, h.tile.touch h.len h2, by rw [h2.len]; exact h.len, by rw [h2.len]; exact h.max, h3, by rw [List.length_set]; exact h.fln, h.free, fun j hj => ?_⟩
  by_cases hjk : j = k
  · subst hjk
    rw [List.getElem?_set_self (by rw [h.fln]; exact hk)]
    unfold inL
    rw [if_pos rfl]
    simp
  · rw [List.getElem?_set_ne (fun e => hjk e.symm), h.mark j hj]
    have hne : L[j].off ≠ L[k].off := by
      rcases Nat.lt_or_ge j k with hlt | hge
      · exact List.pairwise_iff_getElem.1 hd j k hj hk hlt
      · exact fun e => List.pairwise_iff_getElem.1 hd k j hk hj (by omega) e.symm
    unfold inL
    congr 1
    rw [Bool.eq_iff_iff, decide_eq_true_iff, decide_eq_true_iff]
    split
    · rename_i e; rw [← e]; rw [List.mem_cons]; exact ⟨.inr, fun h => h.elim (fun e => absurd e hne) id⟩
    · exact Iff.rfl
theorem Marks.take {b : List UInt8} {L : List Blk} {ls : Nat → List Nat} {fl : List Bool} (h : Marks b L ls fl) (hd : L.Pairwise fun u v => u.off ≠ v.off) (k : Nat) (hk : k < L.length) (hf : fl[k]? = some true) :
    ∃ b', takeB b L[k].off = some b' ∧ Marks b' L (outL ls (clsN L[k].size) L[k].off) (fl.set k false) := by
  have hx := List.getElem_mem hk
  have hc := h.cls hx
  have hin : L[k].off ∈ ls (clsN L[k].size) := by
    have := h.mark k hk
    rw [hf] at this
    simpa using this.symm
  obtain ⟨b', h1, h2, h3⟩ := takeB_lists h.lists h.tile.good h.len hc.1 hin
  refine ⟨b', h1, h.tile.touch h.len h2, by rw [h2.len]; exact h.len, by rw [h2.len]; exact h.max, h3, by rw [List.length_set]; exact h.fln, h.free, fun j hj => ?_⟩
  by_cases hjk : j = k
  · subst hjk
    rw [List.getElem?_set_self (by rw [h.fln]; exact hk)]
    unfold outL
    rw [if_pos rfl]
    simp
  · rw [List.getElem?_set_ne (fun e => hjk e.symm), h.mark j hj]
    have hne : L[j].off ≠ L[k].off := by
      rcases Nat.lt_or_ge j k with hlt | hge
      · exact List.pairwise_iff_getElem.1 hd j k hj hk hlt
      · exact fun e => List.pairwise_iff_getElem.1 hd k j hk hj (by omega) e.symm
    unfold outL
    congr 1
    rw [Bool.eq_iff_iff, decide_eq_true_iff, decide_eq_true_iff]
    split
    · rename_i e; rw [← e, List.mem_filter]; simp [hne]
    · exact Iff.rfl
theorem Marks.nil {b : List UInt8} {L : List Blk} (ht : Tile b 184 (pairs L)) (hl : 184 ≤ b.length) (hm : b.length ≤ 16384) (hz : ∀ t, t + 8 ≤ 184 → numAt b t = 0) (hf : ∀ x ∈ L, x.used = false) : Marks b L (fun _ => []) (List.replicate L.length false) :=
  ⟨ht, hl, hm, lists_nil hz, List.length_replicate .., hf, fun j hj => by simp [hj]⟩
end Go.Own

/- The example of layer 9's statements. -/
namespace Go.Proofs.Ytenbpbnffnodhaa
open Go Go.RowKit Go.Own
set_option linter.unusedVariables false
set_option maxRecDepth 100000
end Go.Proofs.Ytenbpbnffnodhaa

/- Rows of numbers, lists of them, of one's own: rules for walks. -/
namespace Go.Own
open Go Go.RowKit
def ints (l : List Nat) : List Value := l.map fun o => .int .i64 (o : Nat)
def rowsOf (ls : Nat → List Nat) : List (List Value) := (List.range 22).map fun d => ints (ls d)
theorem rowsOf_length (ls : Nat → List Nat) : (rowsOf ls).length = 22 := by unfold rowsOf; simp
theorem rowsOf_at (ls : Nat → List Nat) {d : Nat} (hd : d < 22) : (rowsOf ls)[d]? = some (ints (ls d)) := by unfold rowsOf; simp [hd]
theorem rowsOf_set (ls : Nat → List Nat) {c : Nat} (hc : c < 22) (new : List Nat) : (rowsOf ls).set c (ints new) = rowsOf fun d => if d = c then new else ls d := by
  apply List.ext_getElem?
  intro j
  by_cases hj : j < 22
  · by_cases hjc : j = c
    · subst hjc
      rw [List.getElem?_set_self (by rw [rowsOf_length]; exact hj), rowsOf_at _ hj, if_pos rfl]
    · rw [List.getElem?_set_ne (fun e => hjc e.symm), rowsOf_at _ hj, rowsOf_at _ hj, if_neg hjc]
  · rw [List.getElem?_eq_none (by rw [List.length_set, rowsOf_length]; omega), List.getElem?_eq_none (by rw [rowsOf_length]; omega)]
end Go.Own
namespace Go.Proofs.Ytenbpbnffnodhaa
open Go Go.RowKit Go.Own
set_option linter.unusedVariables false
set_option maxRecDepth 100000
theorem info_ints : Info Try.prog 74 (.slice none 0 0) 1 24 := by unfold Info; kernel_rfl
section
variable {B : Nat} {w0 w : World} {l : List Ob}
theorem at3 {a b c d : Ob} {l : List Ob} : (a :: b :: c :: d :: l)[3]? = some d := rfl
theorem at4 {a b c d e : Ob} {l : List Ob} : (a :: b :: c :: d :: e :: l)[4]? = some e := rfl
theorem inL_rows (ls : Nat → List Nat) {c : Nat} (hc : c < 22) (o : Nat) : rowsOf (inL ls c o) = (rowsOf ls).set c (ints ([o] ++ ls c)) := by rw [rowsOf_set ls hc]; rfl
theorem outL_rows (ls : Nat → List Nat) {c : Nat} (hc : c < 22) (o : Nat) : rowsOf (outL ls c o) = (rowsOf ls).set c (ints ((ls c).filter (· ≠ o))) := by rw [rowsOf_set ls hc]; rfl
/-- 'make([][]int, n)'. -/
theorem mx_mk (h : St B w0 w l) (m : Int) (n : Nat) (hm : m = n) (hn : n ≤ 1000000) :
    ∃ g W, (Instr.makeSlice 118 (.int .i64 m) (.int .i64 m)).run Try.prog w = .ok (.slice (some ⟨g, 0, none⟩) n n) W ∧ St B w0 W (MxO 74 (.slice (some ⟨g, 0, none⟩) n n) (List.replicate n ⟨none, 0, 0⟩) (List.replicate n []) :: l) := by
  refine ⟨_, _, run_mk1 118 74 _ 24 Try.underlying118 info_ints rfl m n hm (by omega) (by omega) w, ?_⟩
  refine h.add (F := fun x => x = w.heap.size) ((Below.refl _ _).alloc (Nat.le_refl _) _) ⟨⟨?_, fun g hg => ?_, by simp, fun j s r hs hr => ?_⟩, fun x hx => by rw [hx]; simp⟩ fun x hx => by rw [hx]; exact Nat.le_refl _
  · rw [List.length_replicate, List.map_replicate]
    exact ⟨by simp, .inr ⟨w.heap.size, n, (List.replicate n (Value.slice none 0 0)).toArray, rfl, Nat.zero_le _, by show (w.heap.push _)[w.heap.size]? = _; exact Array.getElem?_push_size, Nat.le_refl _, Nat.le_trans hn (by decide), by simp, by simp [Sv.v]⟩⟩
  · simp only [Value.ownBlock, Option.some.injEq] at hg; exact hg.symm
  · have h1 := (List.getElem?_eq_some_iff.1 hs).2; have h2 := (List.getElem?_eq_some_iff.1 hr).2
    rw [List.getElem_replicate] at h1 h2
    subst h1; subst h2
    exact ⟨Sl.nil _ _, fun q hq => by cases hq⟩
theorem lit_one (h : St B w0 w l) (x : Int) (y : Nat) (hx : x = y) : St B w0 (w.alloc (.cells #[.int .i64 x] 3 (0, 0))) (IntsO (.slice (some ⟨w.heap.size, 0, none⟩) 1 1) [y] :: l) := by
  subst hx
  refine h.addOwn ((Below.refl _ _).alloc (Nat.le_refl _) _) ?_
  exact ⟨rfl, .inr ⟨w.heap.size, 1, #[.int .i64 (y : Nat)], rfl, Nat.le_refl _, by show (w.heap.push _)[w.heap.size]? = _; simp, Nat.le_refl _, by decide, rfl, rfl⟩⟩
/-- 'append(s, l...)', numbers. -/
theorem ints_app_at {o : Oper} {a : Act} {K : Act → World → Prop} {Q : Exit → Act → World → Prop} (h : St B w0 w l) (i : Nat) {v : Value} {L : List Nat} (hi : l[i]? = some (IntsO v L)) (s x : Operand)
    (ho : o.op = .call { callee := .builtin .append, args := #[s, x], argTypes := #[74, 74] }) (hs : a.eval s = v) (ad : Option Addr) (m c : Nat) (L2 : List Nat) (hx : a.eval x = .slice ad m c) (hb : Sl w ad m c 1 (ints L2))
    (hL : L.length + m ≤ 1000000) (hk : ∀ v' w', St B w0 w' (l.set i (IntsO v' (L ++ L2))) → K (a.put o.dst v') w') : o.wp Try.prog a w K Q := by
  have hm : m = L2.length := by have := hb.len; simp [ints] at this; omega
  refine app_at s x 74 ho 0 3 (.int .i64 0) 1 8 Try.underlying74 info_int rfl (by decide) v L.length (L.map fun o => .int .i64 (o : Nat)) hs (h.own hi) ad m c (ints L2) hx hb (ints_one _) (by omega) (by omega) (Nat.zero_le _) fun v' w' h1 h2 h3 => hk v' w' ?_
  have := h.ownTo hi w' v' _ _ h1 h2 h3
  unfold IntsO
  rw [List.length_append, List.map_append, ← hm]; exact this
end
end Go.Proofs.Ytenbpbnffnodhaa

/- The reference's heap: what lies in memory; Len, At, Used. -/
namespace Go.Own
open Go Go.RowKit
def ixV : Option Nat → Int
  | some i => i
  | none => -1
def atZ (m : List Bd) (o : Int) : Option Nat := if 0 ≤ o then atI m o.toNat else none
theorem atZ_hit {m : List Bd} {o : Int} {k : Nat} (hk : k < m.length) (hn : ∀ j, j < k → (hj : j < m.length) → ¬ (m[j].b.off : Int) = o) (hy : (m[k].b.off : Int) = o) : atZ m o = some k := by
  unfold atZ
  rw [if_pos (by omega)]
  unfold atI
  rw [List.findIdx?_eq_some_iff_getElem]
  refine ⟨hk, by rw [beq_iff_eq]; omega, fun j hj => ?_⟩
  have := hn j hj (by omega)
  rw [Bool.not_eq_true, beq_eq_false_iff_ne]; omega
theorem atZ_miss {m : List Bd} {o : Int} (hn : ∀ j, (hj : j < m.length) → ¬ (m[j].b.off : Int) = o) : atZ m o = none := by
  unfold atZ
  split
  · unfold atI
    rw [List.findIdx?_eq_none_iff]
    intro x hx
    obtain ⟨j, hj, rfl⟩ := List.mem_iff_getElem.1 hx
    have := hn j hj
    rw [beq_eq_false_iff_ne]; omega
  · rfl
theorem atZ_some {m : List Bd} {o : Int} {i : Nat} (h : atZ m o = some i) : ∃ x, m[i]? = some x ∧ (x.b.off : Int) = o := by
  unfold atZ at h
  split at h
  · obtain ⟨x, h1, h2⟩ := atI_some h
    exact ⟨x, h1, by omega⟩
  · cases h
theorem usedZ_at (m : List Bd) (o : Int) : usedZ m o = match atZ m o with
    | some i => match m[i]? with
      | some x => if x.b.used then some i else none
      | none => none
    | none => none := by
  unfold usedZ atZ
  split
  · rfl
  · rfl
end Go.Own
namespace Go.Proofs.Ytenbpbnffnodhaa
open Go Go.RowKit Go.Own
set_option linter.unusedVariables false
set_option maxRecDepth 100000
abbrev DsO (v : Value) (D : List Value) : Ob := OwO 31 1 v D.length D
abbrev HpX (q : Nat) (cap : Int) (vb vd vl : Value) (ss : List Sv) (L : List Blk) (D : List Value) (ls : Ls) (l : List Ob) : List Ob :=
  RowO q 249 [.int .i64 cap, vb, vd, vl] :: BlsO vb L :: DsO vd D :: MxO 74 vl ss (rowsOf ls) :: l
abbrev HpL (q : Nat) (cap : Int) (vb vd vl : Value) (ss : List Sv) (m : List Bd) (ls : Ls) (l : List Ob) : List Ob := HpX q cap vb vd vl ss (bsOf m) (m.map (·.d)) ls l
abbrev hpP (q : Nat) : Value := .pointer (some ⟨q, 0, none⟩)
section
variable {B : Nat} {w0 w : World} {l : List Ob} {q : Nat} {cap : Int} {vb vd vl : Value} {ss : List Sv} {m : List Bd} {ls : Ls}
theorem hp_cells {L : List Blk} {D : List Value} (h : St B w0 w (HpX q cap vb vd vl ss L D ls l)) : w.cell? ⟨q, 0, none⟩ = some (.int .i64 cap) ∧ w.cell? ⟨q, 1, none⟩ = some vb ∧ w.cell? ⟨q, 2, none⟩ = some vd ∧ w.cell? ⟨q, 3, none⟩ = some vl := by
  have hr := h.row (i := 0) rfl
  exact ⟨hr.cell 0, hr.cell 1, hr.cell 2, hr.cell 3⟩
theorem hp_bx {L : List Blk} {D : List Value} (h : St B w0 w (HpX q cap vb vd vl ss L D ls l)) : ∃ ab cb, vb = .slice ab L.length cb ∧ L.length ≤ cb ∧ cb ≤ 9223372036854775807 ∧
    ∀ i, (hi : i < L.length) → ∃ bb, ab = some ⟨bb, 0, none⟩ ∧ w.cell? ⟨bb, i * 3, none⟩ = some (.int .i64 L[i].off) ∧ w.cell? ⟨bb, i * 3 + 1, none⟩ = some (.int .i64 L[i].size) ∧ w.cell? ⟨bb, i * 3 + 2, none⟩ = some (.bool L[i].used) := by
  have ho := h.own (i := 1) rfl
  obtain ⟨a, c, e, _, hs⟩ := Sl.of_owned ho
  refine ⟨a, c, e, Sl.cap hs, Sl.room hs, fun i hi => ?_⟩
  obtain ⟨b, o, e1, hr⟩ := bl_at hs i hi
  obtain ⟨g, cp2, cur, e2, _⟩ := own_some ho (by have := ho.1; omega)
  rw [e] at e2
  cases e2
  cases e1
  have h2 := bl_cells hr
  rw [Nat.zero_add] at h2
  exact ⟨_, rfl, h2⟩
theorem hp_bl (h : St B w0 w (HpL q cap vb vd vl ss m ls l)) : ∃ ab cb, vb = .slice ab m.length cb ∧ m.length ≤ cb ∧ cb ≤ 9223372036854775807 ∧
    ∀ i, (hi : i < m.length) → ∃ bb, ab = some ⟨bb, 0, none⟩ ∧ w.cell? ⟨bb, i * 3, none⟩ = some (.int .i64 m[i].b.off) ∧ w.cell? ⟨bb, i * 3 + 1, none⟩ = some (.int .i64 m[i].b.size) ∧ w.cell? ⟨bb, i * 3 + 2, none⟩ = some (.bool m[i].b.used) := by
  obtain ⟨a, c, e, h1, h2, h3⟩ := hp_bx h
  have hl : (bsOf m).length = m.length := List.length_map ..
  rw [hl] at e h1
  refine ⟨a, c, e, h1, h2, fun i hi => ?_⟩
  obtain ⟨bb, e1, h4⟩ := h3 i (by omega)
  have he : (bsOf m)[i]'(by omega) = m[i].b := by simp [bsOf]
  rw [he] at h4
  exact ⟨bb, e1, h4⟩
theorem rh_Len (h : St B w0 w (HpL q cap vb vd vl ss m ls l)) (he : endOf 184 (bsOf m) ≤ 100000) :
    Calls Try.prog 206 #[hpP q] w fun e w' => e = .returned (.int .i64 (endOf 184 (bsOf m) : Nat)) ∧ w = w' := by
  obtain ⟨ab, cb, rfl, hcap, hroom, hbl⟩ := hp_bl h
  obtain ⟨c0, c1, c2, c3⟩ := hp_cells h
  have HB := Lib.hid hbl; have HE := Lib.hid he
  clear h hbl he c0 c2 c3
  have hbm : (bsOf m).length = m.length := List.length_map ..
  have HBM := Lib.hid hbm
  clear hbm
  go_enter Try.func206, Try.ntmps206
  go_wp2
  go_loopw [3, 4] (fun vn vi wr => ∃ k n : Nat, k ≤ m.length ∧ vi = .int .i64 k ∧ vn = .int .i64 n ∧ n = endOf 184 (bsOf (m.take k)) ∧ wr = w) (fun _ vi _ => m.length - (intOf vi).toNat)
  case atStart => exact ⟨0, 184, Nat.zero_le _, rfl, rfl, rfl, rfl⟩
  case round =>
    obtain ⟨k, n, hk, rfl, rfl, hn, rfl⟩ := hrel
    by_cases hlt : k < m.length
    · have d1 : decide ((k : Int) < (m.length : Int)) = true := decide_eq_true (by omega)
      obtain ⟨bb, rfl, b0, b1, b2⟩ := HB.out k hlt
      have hsn : endOf 184 (bsOf (m.take (k + 1))) = n + m[k].b.size := by
        rw [List.take_succ_eq_append_getElem hlt, bsOf_append, hn]; exact endOf_snoc _ _ _
      have hle : endOf 184 (bsOf (m.take (k + 1))) ≤ 100000 := by
        refine Nat.le_trans ?_ HE.out
        unfold bsOf
        rw [List.map_take]; exact endOf_take_le _ _ _
      generalize m[k] = x at *
      have HSN := Lib.hid hsn
      rw [hsn] at hle
      have u1 : IntKind.i64.wrap ((n : Int) + (x.b.size : Int)) = ((n + x.b.size : Nat) : Int) := by rw [IntWalk.i64_in _ (by omega)]; omega
      clear hsn hn b0 b2
      go_wp2
      exact ⟨⟨k + 1, n + x.b.size, hlt, by go_num, rfl, HSN.out.symm, trivial⟩, by simp [intOf]; omega⟩
    · obtain rfl : k = m.length := by omega
      have d1 : decide ((m.length : Int) < (m.length : Int)) = false := decide_eq_false (by omega)
      rw [List.take_length] at hn
      have HN := Lib.hid hn
      clear hn
      go_wp2
      go_ret
      exact ⟨by rw [HN.out]; rfl, rfl⟩
theorem rh_At (h : St B w0 w (HpL q cap vb vd vl ss m ls l)) (hm : m.length ≤ 2000) (o : Int) :
    Calls Try.prog 209 #[hpP q, .int .i64 o] w fun e w' => e = .returned (.int .i64 (ixV (atZ m o))) ∧ w = w' := by
  obtain ⟨ab, cb, rfl, hcap, hroom, hbl⟩ := hp_bl h
  obtain ⟨c0, c1, c2, c3⟩ := hp_cells h
  have HB := Lib.hid hbl
  clear h hbl c0 c2 c3
  go_enter Try.func209, Try.ntmps209
  go_wp2
  go_loopw [5] (fun vi wr => ∃ k : Nat, k ≤ m.length ∧ vi = .int .i64 k ∧ (∀ j, j < k → (hj : j < m.length) → ¬ (m[j].b.off : Int) = o) ∧ wr = w) (fun vi _ => m.length - (intOf vi).toNat)
  case atStart => exact ⟨0, Nat.zero_le _, rfl, fun j hj => by omega, rfl⟩
  case round =>
    obtain ⟨k, hk, rfl, hn, rfl⟩ := hrel
    by_cases hlt : k < m.length
    · have d1 : decide ((k : Int) < (m.length : Int)) = true := decide_eq_true (by omega)
      obtain ⟨bb, rfl, b0, b1, b2⟩ := HB.out k hlt
      have hhit := Lib.hid (atZ_hit hlt hn)
      have hnext : ¬ (m[k].b.off : Int) = o → ∀ j, j < k + 1 → (hj : j < m.length) → ¬ (m[j].b.off : Int) = o := fun h2 j hj hj2 => by
        by_cases hjk : j = k
        · subst hjk; exact h2
        · exact hn j (by omega) hj2
      have HNX := Lib.hid hnext
      generalize m[k] = x at *
      clear hn hnext b1 b2
      by_cases hx : (x.b.off : Int) = o
      · have d2 : ((x.b.off : Int) == o) = true := by rw [beq_iff_eq]; exact hx
        have HV := Lib.hid (hhit.out hx)
        clear hx
        go_wp2
        go_ret
        exact ⟨by rw [HV.out]; rfl, rfl⟩
      · have d2 : ((x.b.off : Int) == o) = false := by rw [beq_eq_false_iff_ne]; exact hx
        have HN2 := Lib.hid (HNX.out hx)
        clear hx
        go_wp2
        exact ⟨⟨k + 1, hlt, by go_num, HN2.out, trivial⟩, by simp [intOf]; omega⟩
    · obtain rfl : k = m.length := by omega
      have d1 : decide ((m.length : Int) < (m.length : Int)) = false := decide_eq_false (by omega)
      have HV := Lib.hid (atZ_miss fun j hj => hn j hj hj)
      clear hn
      go_wp2
      go_ret
      exact ⟨by rw [HV.out]; rfl, rfl⟩
theorem rh_Used (h : St B w0 w (HpL q cap vb vd vl ss m ls l)) (hm : m.length ≤ 2000) (o : Int) :
    Calls Try.prog 200 #[hpP q, .int .i64 o] w fun e w' => e = .returned (.int .i64 (ixV (usedZ m o))) ∧ w = w' := by
  have ka := rh_At h hm o
  obtain ⟨ab, cb, rfl, hcap, hroom, hbl⟩ := hp_bl h
  obtain ⟨c0, c1, c2, c3⟩ := hp_cells h
  have HB := Lib.hid hbl
  clear h hbl c0 c2 c3
  rw [usedZ_at]
  go_enter Try.func200, Try.ntmps200
  cases hz : atZ m o with
  | none =>
    rw [hz] at ka
    have KA := Lib.hid ka
    clear ka hz
    go_wp2_with fail
    have kc := KA.out
    with_reducible refine kc.mono ?_
    clear kc
    rintro e w' ⟨rfl, rfl⟩
    go_wp2
    go_ret
    exact ⟨rfl, rfl⟩
  | some i =>
    rw [hz] at ka
    obtain ⟨x, hx, _⟩ := atZ_some hz
    have hlt : i < m.length := (List.getElem?_eq_some_iff.1 hx).1
    have hx2 : m[i] = x := (List.getElem?_eq_some_iff.1 hx).2
    obtain ⟨bb, rfl, b0, b1, b2⟩ := HB.out i hlt
    rw [hx2] at b2
    simp only [hx]
    have KA := Lib.hid (show Calls Try.prog 209 #[hpP q, .int .i64 o] w fun e w' => e = .returned (.int .i64 (i : Int)) ∧ w = w' from ka)
    have d1 : decide ((i : Int) < 0) = false := decide_eq_false (by omega)
    clear ka hz hx hx2 b0 b1
    cases hu : x.b.used with
    | true =>
      rw [hu] at b2
      clear hu
      go_wp2_with fail
      have kc := KA.out
      with_reducible refine kc.mono ?_
      clear kc
      rintro e w' ⟨rfl, rfl⟩
      go_wp2
      go_ret
      exact ⟨rfl, rfl⟩
    | false =>
      rw [hu] at b2
      clear hu
      go_wp2_with fail
      have kc := KA.out
      with_reducible refine kc.mono ?_
      clear kc
      rintro e w' ⟨rfl, rfl⟩
      go_wp2
      go_ret
      exact ⟨rfl, rfl⟩
end
end Go.Proofs.Ytenbpbnffnodhaa

/- The reference's heap: rules for what is turned. -/
namespace Go.Own
open Go Go.RowKit
theorem flat_set : ∀ (L : List Blk) (i : Nat) (hi : i < L.length) (j : Nat) (u : Value) (y : Blk), j < 3 → blC y = (blC L[i]).set j u → (L.map blC).flatten.set (i * 3 + j) u = ((L.set i y).map blC).flatten
  | [], i, hi, _, _, _, _, _ => absurd hi (Nat.not_lt_zero _)
  | x :: r, 0, _, j, u, y, hj, h => by
    rw [List.set_cons_zero, List.map_cons, List.map_cons, List.flatten_cons, List.flatten_cons, List.set_append_left _ _ (by rw [blC_len]; omega), h]
    simp
  | x :: r, i + 1, hi, j, u, y, hj, h => by
    rw [List.set_cons_succ, List.map_cons, List.map_cons, List.flatten_cons, List.flatten_cons, List.set_append_right _ _ (by rw [blC_len]; omega), blC_len]
    rw [show (i + 1) * 3 + j - 3 = i * 3 + j by omega, flat_set r i (by simpa using hi) j u y hj (by simpa using h)]
end Go.Own
namespace Go.Proofs.Ytenbpbnffnodhaa
open Go Go.RowKit Go.Own
set_option linter.unusedVariables false
set_option maxRecDepth 100000
section
variable {B : Nat} {w0 w : World} {l : List Ob} {q : Nat} {cap : Int} {vb vd vl : Value} {ss : List Sv} {L : List Blk} {D : List Value} {ls : Ls}
variable {ops : Array Oper} {rest : List Oper} {o : Oper} {a : Act} {Q : Exit → Act → World → Prop} {K : Act → World → Prop}
/-- A field of a block is set. -/
theorem hp_setB_at (h : St B w0 w (HpX q cap vb vd vl ss L D ls l)) (i : Nat) (hi : i < L.length) (y : Blk) (j : Nat) (hj : j < 3) (u : Value) (hy : blC y = (blC L[i]).set j u) (bb : Nat) (n c : Nat) (hv : vb = .slice (some ⟨bb, 0, none⟩) n c)
    (t : TypeId) (x z : Operand) (ho : o.op = .store t x z) (hx : a.eval x = .pointer (some ⟨bb, i * 3 + j, none⟩)) (hz : a.eval z = u) (hu : u.oneCell' = true) (ht : (Try.prog.info? t).map (·.size) = some 1)
    (hk : ∀ w', St B w0 w' (HpX q cap vb vd vl ss (L.set i y) D ls l) → K (a.put o.dst undef) w') : o.wp Try.prog a w K Q := by
  have ho' := h.own (i := 1) rfl
  have hlen := ho'.1
  subst hv
  obtain ⟨g, cp2, cur, e2, _⟩ := own_some ho' (by omega)
  cases e2
  have hc := ho'.cellAt (i * 3 + j) (by omega)
  have hlt : i * 3 + j < (L.map blC).flatten.length := by omega
  rw [List.getElem?_eq_getElem hlt] at hc
  refine store_cell_at t x z ho _ hx u _ hz hu ht hc (ho'.frozenAt _) (hk _ ?_)
  have h1 := h.ownTo (i := 1) rfl _ _ _ _ (ho'.stored (i * 3 + j) u).1 ((Keep.refl (fun k => (Value.slice (some ⟨bb, 0, none⟩) L.length c).ownBlock = some k) w).setCell (p := ⟨bb, i * 3 + j, none⟩) (.inl rfl) _) (.inl rfl)
  rw [flat_set L i hi j u y hj hy] at h1
  have he : BlsO (Value.slice (some ⟨bb, 0, none⟩) L.length c) (L.set i y) = OwO 77 3 (Value.slice (some ⟨bb, 0, none⟩) L.length c) L.length ((L.set i y).map blC).flatten := by unfold BlsO; rw [List.length_set]
  show St B w0 _ (_ :: BlsO _ _ :: _)
  rw [he]
  exact h1
/-- What a block holds is set. -/
theorem hp_setD (h : St B w0 w (HpX q cap vb vd vl ss L D ls l)) (i : Nat) (hi : i < D.length) (u : Value) (bd : Nat) (n c : Nat) (hv : vd = .slice (some ⟨bd, 0, none⟩) n c)
    (hgd : Region.wanted o (yielded ops a.tmps) = true) (t : TypeId) (x z : Operand) (ho : o.op = .store t x z) (hx : a.eval x = .pointer (some ⟨bd, i, none⟩)) (hz : a.eval z = u) (hu : u.oneCell' = true) (ht : (Try.prog.info? t).map (·.size) = some 1)
    (hk : ∀ w', St B w0 w' (HpX q cap vb vd vl ss L (D.set i u) ls l) → wpList Try.prog ops Q rest (a.put o.dst undef) w') : wpList Try.prog ops Q (o :: rest) a w := by
  subst hv
  refine own_store h 2 rfl i hi hgd t x z ho hx u hz hu ht fun w' h' => hk w' ?_
  have he : DsO (Value.slice (some ⟨bd, 0, none⟩) n c) (D.set i u) = OwO 31 1 (Value.slice (some ⟨bd, 0, none⟩) n c) D.length (D.set i u) := by unfold DsO; rw [List.length_set]
  show St B w0 _ (_ :: _ :: DsO _ _ :: _)
  rw [he]
  exact h'
/-- New blocks: 'h.Blocks = v'. -/
theorem hp_newB_at {v : Value} {L' : List Blk} (h : St B w0 w (BlsO v L' :: HpX q cap vb vd vl ss L D ls l)) (x z : Operand) (t : TypeId) (ho : o.op = .store t x z) (hx : a.eval x = .pointer (some ⟨q, 1, none⟩)) (hz : a.eval z = v) (ht : (Try.prog.info? t).map (·.size) = some 1)
    (hk : ∀ w', St B w0 w' (HpX q cap v vd vl ss L' D ls l) → K (a.put o.dst undef) w') : o.wp Try.prog a w K Q := by
  have hr := h.row (i := 1) rfl
  obtain ⟨av, cv, ev, _⟩ := bls_slice h (i := 0) rfl
  refine store_cell_at t x z ho _ hx v _ hz (by rw [ev]; rfl) ht (hr.cell 1) (hr.frozen 1) (hk _ ?_)
  have h1 := h.setRow (i := 1) rfl 1 v
  exact (St.swap (h1.sub (.cons_cons _ (.cons_cons _ (List.sublist_cons_self ..)))))
theorem hp_newD_at {v : Value} {D' : List Value} (h : St B w0 w (DsO v D' :: HpX q cap vb vd vl ss L D ls l)) (x z : Operand) (t : TypeId) (ho : o.op = .store t x z) (hx : a.eval x = .pointer (some ⟨q, 2, none⟩)) (hz : a.eval z = v) (ht : (Try.prog.info? t).map (·.size) = some 1)
    (hk : ∀ w', St B w0 w' (HpX q cap vb v vl ss L D' ls l) → K (a.put o.dst undef) w') : o.wp Try.prog a w K Q := by
  have hr := h.row (i := 1) rfl
  obtain ⟨av, cv, ev, _⟩ := Sl.of_owned (h.own (i := 0) rfl)
  refine store_cell_at t x z ho _ hx v _ hz (by rw [ev]; rfl) ht (hr.cell 2) (hr.frozen 2) (hk _ ?_)
  have h1 := h.setRow (i := 1) rfl 2 v
  have h2 : St B w0 _ (_ :: _ :: _ :: _ :: _ :: l) := h1
  exact h2.perm (by
    refine List.Perm.trans (List.Perm.swap _ _ _) (.cons _ ?_)
    exact List.Perm.swap _ _ _) |>.sub (.cons_cons _ (.cons_cons _ (.cons_cons _ (List.sublist_cons_self ..))))
/-- The lists: one of them read. -/
theorem hp_ls (h : St B w0 w (HpX q cap vb vd vl ss L D ls l)) (hs : ss.length = 22) (c : Nat) (hc : c < 22) :
    ∃ gl cl ax cx, vl = .slice (some ⟨gl, 0, none⟩) 22 cl ∧ 22 ≤ cl ∧ cl ≤ 9223372036854775807 ∧ w.cell? ⟨gl, c, none⟩ = some (.slice ax (ls c).length cx) ∧ Sl w ax (ls c).length cx 1 (ints (ls c)) := by
  obtain ⟨gX, capX, rX, eX, hc1, hc2, hcell, _, hrow, hsl⟩ := h.mx (i := 3) rfl c (by omega)
  rw [rowsOf_at _ hc] at hrow
  simp only [Option.some.injEq] at hrow
  subst hrow
  have hnX : (ss[c]'(by omega)).n = (ls c).length := by have := hsl.len; simp [ints] at this; omega
  rw [hnX] at hcell hsl
  rw [hs] at eX hc1
  exact ⟨gX, capX, _, _, eX, hc1, hc2, hcell, hsl⟩
theorem hp_blk {bb n cb : Nat} (h : St B w0 w (HpX q cap (.slice (some ⟨bb, 0, none⟩) n cb) vd vl ss L D ls l)) (i : Nat) (hi : i < L.length) :
    w.cell? ⟨bb, i * 3, none⟩ = some (.int .i64 L[i].off) ∧ w.cell? ⟨bb, i * 3 + 1, none⟩ = some (.int .i64 L[i].size) ∧ w.cell? ⟨bb, i * 3 + 2, none⟩ = some (.bool L[i].used) := by
  obtain ⟨ab, cb', e, _, _, h2⟩ := hp_bx h
  obtain ⟨b2, e2, h3⟩ := h2 i hi
  cases e; cases e2; exact h3
/-- One of the lists' values. -/
def sv (ss : List Sv) (c : Nat) : Sv := ss.getD c ⟨none, 0, 0⟩
theorem hp_lst {gl n cl : Nat} {k : Nat} (h : St B w0 w l) (hk : l[k]? = some (MxO 74 (.slice (some ⟨gl, 0, none⟩) n cl) ss (rowsOf ls))) (hs : ss.length = 22) (c : Nat) (hc : c < 22) :
    w.cell? ⟨gl, c, none⟩ = some (.slice (sv ss c).a (ls c).length (sv ss c).c) ∧ Sl w (sv ss c).a (ls c).length (sv ss c).c 1 (ints (ls c)) := by
  obtain ⟨gX, capX, rX, eX, hc1, hc2, hcell, _, hrow, hsl⟩ := h.mx hk c (by omega)
  rw [rowsOf_at _ hc] at hrow
  simp only [Option.some.injEq] at hrow
  subst hrow
  have hnX : (ss[c]'(by omega)).n = (ls c).length := by have := hsl.len; simp [ints] at this; omega
  rw [hnX] at hcell hsl
  cases eX
  have he : sv ss c = ss[c]'(by omega) := by unfold sv; rw [List.getD_eq_getElem?_getD, List.getElem?_eq_getElem (by omega)]; rfl
  rw [he]
  exact ⟨hcell, hsl⟩
theorem clsN_of {s : Nat} (hs : isSize (s : Int) = true) : clsN s < 22 ∧ cls (s : Int) = clsN s := by have := cls_size hs; unfold clsN; omega
end
end Go.Proofs.Ytenbpbnffnodhaa
