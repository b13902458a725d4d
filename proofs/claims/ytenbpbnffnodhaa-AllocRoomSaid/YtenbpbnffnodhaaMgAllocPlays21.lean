/- Texts of the proof of 'AllocPlays', part 21: words on memory, contracts of functions, plain laws. No condition. -/
import Derived.Test.YtenbpbnffnodhaaMgAllocPlays8
import Derived.Test.YtenbpbnffnodhaaMgAllocPlays12
import Derived.Test.YtenbpbnffnodhaaMgAllocPlays20
set_option linter.unusedSimpArgs false
set_option linter.unusedVariables false
/- The reference's heap: Give, Trim, New. -/
namespace Go.Proofs.Ytenbpbnffnodhaa
open Go Go.RowKit Go.Own
set_option linter.unusedVariables false
set_option maxRecDepth 100000
section
variable {B : Nat} {w0 w : World} {l : List Ob} {q : Nat} {cap : Int} {vb vd vl : Value} {ss : List Sv} {m : List Bd} {ls : Ls} {b : List UInt8}
/-- What Give and Trim tell, and what has become of the heap. -/
def GvR (B : Nat) (w0 : World) (q : Nat) (cap : Int) (vl : Value) (m : List Bd) (ls : Ls) (r : Option (List Bd × Ls)) (l : List Ob) (e : Ending) (w' : World) : Prop := match r with
  | some r => e = .returned (.int .i64 0) ∧ HpR B w0 q cap vl r l w'
  | none => e = .returned (.int .i64 3) ∧ HpR B w0 q cap vl (m, ls) l w'
theorem mid_of {m : List Bd} {j : Nat} {X : Bd} (hj : m[j]? = some X) : ∃ mp mr, m = mp ++ X :: mr ∧ m.take j = mp ∧ m.drop (j + 1) = mr ∧ mp.length = j :=
  ⟨_, _, split_at hj, rfl, rfl, by rw [List.length_take]; have := (List.getElem?_eq_some_iff.1 hj).1; omega⟩
set_option maxHeartbeats 8000000 in
theorem rh_Give (h : St B w0 w (HpL q cap vb vd vl ss m ls l)) (hs : ss.length = 22) (hR : Right b (bsOf m) ls) (hF : Fine m) (o : Int) :
    Calls Try.prog 196 #[hpP q, .int .i64 o] w (GvR B w0 q cap vl m ls (giveM m o ls) l) := by
  have hm := right_count' hR
  have ku := rh_Used h (by omega) o
  unfold giveM
  cases hz : usedZ m o with
  | none =>
    rw [hz] at ku
    have KU := Lib.hid (show Calls Try.prog 200 #[hpP q, .int .i64 o] w fun e w' => e = .returned (.int .i64 (-1)) ∧ w = w' from ku)
    have H := Lib.hid h; have HS := Lib.hid hs
    clear ku hz h hs hR hm
    go_enter Try.func196, Try.ntmps196
    go_wp2_with fail
    have kc := KU.out
    with_reducible refine kc.mono ?_
    clear kc
    rintro e w' ⟨rfl, rfl⟩
    go_wp2
    go_ret
    exact ⟨rfl, _, _, ss, HS.out, H.out⟩
  | some j =>
    obtain ⟨X, hj, hXo, hXu⟩ := usedZ_some hz
    rw [hz] at ku
    have KU := Lib.hid (show Calls Try.prog 200 #[hpP q, .int .i64 o] w fun e w' => e = .returned (.int .i64 (j : Int)) ∧ w = w' from ku)
    obtain ⟨mp, mr, hsp, hmp, hmr, hjl⟩ := mid_of hj
    have hfine := fine_parts hF hj
    have hg : giveAt m j ls = freeM mp X.b.off X.b.size mr ls := by unfold giveAt; simp only [hj]; rw [hmp, hmr]
    simp only [Option.map_some]
    rw [hg]
    rw [hmp, hmr] at hfine
    clear hmp hmr ku hz hg
    subst hsp
    have h2 := hp_mid.1 h
    have hR2 := hR
    rw [bsOf_append, bsOf_cons] at hR2
    have HH := Lib.hid (hR2.hole hXu); have T0 := Lib.hid h2; have HS := Lib.hid hs; have HJ := Lib.hid hjl
    have HNF := Lib.hid (nf_app.2 ⟨hfine.1.2, hfine.2.1.2⟩ : NilFree (mp ++ mr))
    have HCNT := Lib.hid (show mp.length + mr.length ≤ 900 by simp only [List.length_append, List.length_cons] at hm; omega)
    have d1 : decide ((j : Int) < 0) = false := decide_eq_false (by omega)
    clear h h2 hs hR hR2 hm hj hfine hXo hXu hF hjl
    go_enter Try.func196, Try.ntmps196
    go_wp2_with fail
    have kc := KU.out
    with_reducible refine kc.mono ?_
    clear kc
    rintro e w' ⟨rfl, rfl⟩
    go_wp2_with fail
    have kc := rh_give (o := X.b.off) (s := X.b.size) (u := X.b.used) T0.out HS.out HH.out HNF.out (by have := HCNT.out; omega) (j : Int) (by rw [HJ.out])
    with_reducible refine kc.mono ?_
    clear kc
    rintro e w2 ⟨rfl, t2⟩
    have T2 := Lib.hid t2
    clear t2
    go_wp2
    go_ret
    exact ⟨rfl, T2.out⟩
set_option maxHeartbeats 8000000 in
theorem rh_Trim (h : St B w0 w (HpL q cap vb vd vl ss m ls l)) (hs : ss.length = 22) (hR : Right b (bsOf m) ls) (hF : Fine m) (o : Int) (n : Nat) (hn : isSize (n : Int) = true) :
    Calls Try.prog 198 #[hpP q, .int .i64 o, .int .i64 n] w (GvR B w0 q cap vl m ls (trimM m o n ls) l) := by
  have hm := right_count' hR
  have ku := rh_Used h (by omega) o
  unfold trimM
  cases hz : usedZ m o with
  | none =>
    rw [hz] at ku
    have KU := Lib.hid (show Calls Try.prog 200 #[hpP q, .int .i64 o] w fun e w' => e = .returned (.int .i64 (-1)) ∧ w = w' from ku)
    have H := Lib.hid h; have HS := Lib.hid hs
    clear ku hz h hs hR hm
    go_enter Try.func198, Try.ntmps198
    go_wp2_with fail
    have kc := KU.out
    with_reducible refine kc.mono ?_
    clear kc
    rintro e w' ⟨rfl, rfl⟩
    go_wp2
    go_ret
    exact ⟨rfl, _, _, ss, HS.out, H.out⟩
  | some j =>
    obtain ⟨X, hj, hXo, hXu⟩ := usedZ_some hz
    rw [hz] at ku
    have KU := Lib.hid (show Calls Try.prog 200 #[hpP q, .int .i64 o] w fun e w' => e = .returned (.int .i64 (j : Int)) ∧ w = w' from ku)
    obtain ⟨mp, mr, hsp, hmp, hmr, hjl⟩ := mid_of hj
    have hfine := fine_parts hF hj
    have hg : cutAt m j n ls = cutM mp X.b.off X.b.size X.d mr n ls := by unfold cutAt; simp only [hj]; rw [hmp, hmr]
    simp only [hj]
    rw [hg]
    rw [hmp, hmr] at hfine
    clear hmp hmr ku hz hg hj
    subst hsp
    have h2 := hp_mid.1 h
    have hR2 := hR
    rw [bsOf_append, bsOf_cons] at hR2
    have hbm : (bsOf mp).length = j := by rw [← hjl]; exact List.length_map ..
    obtain ⟨bb, cb, bd, cd, rfl, rfl⟩ := rm_some h2
    obtain ⟨N, hN⟩ : ∃ N, N = (bsOf mp ++ X.b :: bsOf mr).length := ⟨_, rfl⟩
    obtain ⟨M, hM⟩ : ∃ M, M = (mp.map (·.d) ++ X.d :: mr.map (·.d)).length := ⟨_, rfl⟩
    rw [← hN, ← hM] at h2
    have lt1 : j < N := by rw [hN, List.length_append, List.length_cons, hbm]; omega
    have c1 := (hp_cells h2).2.1
    have b1 := (rm_blk h2 hbm).2.1
    have HH := Lib.hid (hR2.hole hXu); have T0 := Lib.hid h2; have HS := Lib.hid hs; have HJ := Lib.hid hjl; have HN := Lib.hid hn
    have HNF := Lib.hid (nf_app.2 ⟨hfine.1.2, hfine.2.1.2⟩ : NilFree (mp ++ mr)); have HDX := Lib.hid hfine.2.2
    have HCNT := Lib.hid (show mp.length + mr.length ≤ 900 by simp only [List.length_append, List.length_cons] at hm; omega)
    have d1 : decide ((j : Int) < 0) = false := decide_eq_false (by omega)
    clear h h2 hs hR hR2 hm hfine hXo hXu hF hN hM hbm hjl hn
    by_cases hlt : X.b.size < n
    · rw [if_pos hlt]
      have d2 : decide ((X.b.size : Int) < (n : Int)) = true := decide_eq_true (by omega)
      have d3 : decide (X.b.size < n) = true := decide_eq_true hlt
      clear hlt
      go_enter Try.func198, Try.ntmps198
      go_wp2_with fail
      have kc := KU.out
      with_reducible refine kc.mono ?_
      clear kc
      rintro e w' ⟨rfl, rfl⟩
      go_wp2
      go_ret
      exact ⟨rfl, _, _, ss, HS.out, hp_mid.2 T0.out⟩
    · rw [if_neg hlt]
      have d2 : decide ((X.b.size : Int) < (n : Int)) = false := decide_eq_false (by omega)
      have d3 : decide (X.b.size < n) = false := decide_eq_false hlt
      have HLE := Lib.hid (show n ≤ X.b.size by omega)
      clear hlt
      go_enter Try.func198, Try.ntmps198
      go_wp2_with fail
      have kc := KU.out
      with_reducible refine kc.mono ?_
      clear kc
      rintro e w' ⟨rfl, rfl⟩
      go_wp2_with fail
      have kc := rh_cut (o := X.b.off) (s := X.b.size) (u := X.b.used) T0.out HS.out HH.out HN.out HLE.out HNF.out HDX.out (by have := HCNT.out; omega) (j : Int) (n : Int) (by rw [HJ.out]) rfl
      with_reducible refine kc.mono ?_
      clear kc
      rintro e w2 ⟨rfl, t2⟩
      have T2 := Lib.hid t2
      clear t2
      go_wp2
      go_ret
      exact ⟨rfl, T2.out⟩
theorem rh_New (h : St B w0 w l) (c : Int) : Calls Try.prog 104 #[.int .i64 c] w fun e w' => ∃ q vl ss, e = .returned (hpP q) ∧ ss.length = 22 ∧ St B w0 w' (HpL q c none0 none0 vl ss [] (fun _ => []) l) := by
  obtain ⟨g, W, hmk, t1⟩ := mx_mk h (22 : Int) 22 rfl (by decide)
  have T1 := Lib.hid t1
  clear t1 h
  go_enter Try.func104, Try.ntmps104
  go_wp2
  go_ret
  have t2 := T1.out.addOwn (e := 31) (z := 1) (v := none0) (n := 0) (cs := []) (Below.refl _ _) (World.ownsRow_nil _ _ _ _)
  have t3 := t2.addOwn (e := 77) (z := 3) (v := none0) (n := 0) (cs := []) (Below.refl _ _) (World.ownsRow_nil _ _ _ _)
  have t4 := t3.addRow 249 [.int .i64 c, none0, none0, .slice (some ⟨g, 0, none⟩) 22 22]
  exact ⟨_, _, _, rfl, List.length_replicate .., t4⟩
end
end Go.Proofs.Ytenbpbnffnodhaa

/- Layer 12's statements: sizes, used blocks, whether an arena and its model are the same. -/
namespace Go.Proofs.Ytenbpbnffnodhaa
open Go Go.RowKit Go.Own
set_option linter.unusedVariables false
set_option maxRecDepth 100000
section
variable {B : Nat} {w0 w : World} {l : List Ob} {q p bs cp : Nat} {cap : Int} {vb vd vl : Value} {ss : List Sv} {m : List Bd} {ls : Ls} {b : List UInt8}
theorem law12_Size (w : World) (n : Int) (raw : Bool) (h0 : -9223372036854775808 ≤ n) (h1 : n ≤ 9223372036854775807) :
    Calls Try.prog 109 #[.int .i64 n, .bool raw] w fun e w' => (∃ s, e = .returned (.int .i64 s) ∧ -9223372036854775808 ≤ s ∧ s ≤ 9223372036854775807) ∧ w = w' := by
  cases raw with
  | true =>
    have H := Lib.hid (And.intro h0 h1)
    clear h0 h1
    go_enter Try.func109, Try.ntmps109
    go_wp2
    go_ret
    exact ⟨⟨n, rfl, H.out.1, H.out.2⟩, rfl⟩
  | false =>
    have k0 : 0 ≤ n % 40 := Int.emod_nonneg _ (by decide)
    have k1 : n % 40 < 40 := Int.emod_lt_of_pos _ (by decide)
    have KP := Lib.hid (law_Pick w n 40 h0 h1 (by decide) (by decide))
    have u1 : IntKind.i64.wrap (16 * (n % 40)) = 16 * (n % 40) := IntWalk.i64_in _ (by omega)
    have u2 : IntKind.i64.wrap (32 + 16 * (n % 40)) = 32 + 16 * (n % 40) := IntWalk.i64_in _ (by omega)
    have HB := Lib.hid (show -9223372036854775808 ≤ 32 + 16 * (n % 40) ∧ 32 + 16 * (n % 40) ≤ 9223372036854775807 by omega)
    generalize n % 40 = r at *
    clear h0 h1 k0 k1
    go_enter Try.func109, Try.ntmps109
    go_wp2_with fail
    have kc := KP.out
    with_reducible refine kc.mono ?_
    clear kc
    rintro e w' ⟨rfl, rfl⟩
    go_wp2
    go_ret
    exact ⟨⟨_, rfl, HB.out.1, HB.out.2⟩, rfl⟩
set_option maxHeartbeats 8000000 in
theorem law12_Used (h : St B w0 w (HpL q cap vb vd vl ss m ls l)) (hm : m.length ≤ 2000) (n : Int) (h0 : -9223372036854775808 ≤ n) (h1 : n ≤ 9223372036854775807) :
    Calls Try.prog 108 #[hpP q, .int .i64 n] w fun e w' => (∃ o : Int, e = .returned (.int .i64 o)) ∧ St B w0 w' (HpL q cap vb vd vl ss m ls l) := by
  obtain ⟨ab, cb, rfl, hcap, hroom, hbl⟩ := hp_bl h
  obtain ⟨M, hM⟩ : ∃ M, M = m.length := ⟨_, rfl⟩
  have cells : ∀ w', St B w0 w' (HpL q cap (.slice ab m.length cb) vd vl ss m ls l) → w'.cell? ⟨q, 1, none⟩ = some (.slice ab m.length cb) ∧ ∀ i, (hi : i < m.length) → ∃ bb, ab = some ⟨bb, 0, none⟩ ∧ w'.cell? ⟨bb, i * 3, none⟩ = some (.int .i64 m[i].b.off) ∧ w'.cell? ⟨bb, i * 3 + 2, none⟩ = some (.bool m[i].b.used) := fun w' h' => by
    refine ⟨(hp_cells h').2.1, fun i hi => ?_⟩
    obtain ⟨ab2, cb2, e2, _, _, h3⟩ := hp_bl h'
    cases e2
    obtain ⟨bb, e, x0, _, x2⟩ := h3 i hi
    exact ⟨bb, e, x0, x2⟩
  have CO := Lib.hid cells; have T0 := Lib.hid h; have HMM := Lib.hid hm; have HN := Lib.hid (And.intro h0 h1)
  clear cells h hbl h0 h1
  go_enter Try.func108, Try.ntmps108
  go_wp2
  go_loopw [5, 6] (fun vr vk wr => ∃ (j : Nat) (R : List Nat), j ≤ m.length ∧ vk = .int .i64 j ∧ R.length ≤ j ∧ St B w0 wr (IntsO vr R :: HpL q cap (.slice ab m.length cb) vd vl ss m ls l)) (fun _ vj _ => m.length - (intOf vj).toNat)
  case atStart => exact ⟨0, [], Nat.zero_le _, rfl, Nat.le_refl _, T0.out.addOwn (Below.refl _ _) (World.ownsRow_nil _ _ _ _)⟩
  case round =>
    clear T0
    obtain ⟨j, R, hj, rfl, hRl, hS⟩ := hrel
    obtain ⟨c1, cb2⟩ := CO.out _ hS.tail
    by_cases hjl : j < m.length
    · have d1 : decide ((j : Int) < (m.length : Int)) = true := decide_eq_true (by omega)
      obtain ⟨bb, rfl, b0, b2⟩ := cb2 j hjl
      have hRl2 : R.length ≤ 1000000 := by omega
      generalize m[j] = x at *
      have HS := Lib.hid hS
      clear hS cb2
      cases hu : x.b.used with
      | true =>
        rw [hu] at b2
        clear hu
        go_wp2_with (at_builtin; go_must (refine ints_app HS.out 0 rfl rfl _ _ rfl rfl (x.b.off : Int) x.b.off rfl rfl hRl2 ?_; intro v7 w7 h7; have T7 := Lib.hid h7; clear h7))
        exact ⟨⟨j + 1, R ++ [x.b.off], by omega, by go_num, by rw [List.length_append, List.length_singleton]; omega, T7.out⟩, by simp [intOf]; omega⟩
      | false =>
        rw [hu] at b2
        clear hu
        go_wp2
        exact ⟨⟨j + 1, R, by omega, by go_num, by omega, HS.out⟩, by simp [intOf]; omega⟩
    · obtain rfl : j = m.length := by omega
      have d1 : decide ((m.length : Int) < (m.length : Int)) = false := decide_eq_false (by omega)
      have HS := Lib.hid hS
      obtain ⟨a4, c4, e4, hs4⟩ := ints_slice hS (i := 0) rfl
      subst e4
      clear hS cb2
      have hLb := Sl.cap hs4; have hLr := Sl.room hs4
      by_cases hz : R.length = 0
      · have d2 : ((R.length : Int) == 0) = true := by rw [beq_iff_eq]; omega
        clear hz hs4
        go_wp2
        go_ret
        exact ⟨⟨0, rfl⟩, HS.out.tail⟩
      · have d2 : ((R.length : Int) == 0) = false := by rw [beq_eq_false_iff_ne]; omega
        have k0 : 0 ≤ n % (R.length : Int) := Int.emod_nonneg _ (by omega)
        have k1 : n % (R.length : Int) < (R.length : Int) := Int.emod_lt_of_pos _ (by omega)
        have KP := Lib.hid (law_Pick wr n (R.length : Int) HN.out.1 HN.out.2 (by omega) (by have := HMM.out; omega))
        obtain ⟨i, hi⟩ : ∃ i : Nat, n % (R.length : Int) = i := ⟨(n % (R.length : Int)).toNat, by omega⟩
        rw [hi] at KP k1
        have hil : i < R.length := by omega
        obtain ⟨bb, bo, rfl, hcell⟩ := Sl.cells hs4 i (.int .i64 (R[i] : Nat)) (by simp [hil])
        generalize R[i] = y at *
        have hcell : wr.cell? ⟨bb, bo + i, none⟩ = some (.int .i64 (y : Nat)) := hcell
        clear hz hs4 k0 k1 hi
        go_wp2_with fail
        have kc := KP.out
        with_reducible refine kc.mono ?_
        clear kc
        rintro e w' ⟨rfl, rfl⟩
        go_wp2
        go_ret
        exact ⟨⟨_, rfl⟩, HS.out.tail⟩
set_option maxHeartbeats 8000000 in
theorem law12_Same (h : St B w0 w (HpL q cap vb vd vl ss m ls (ArT p ⟨bs, cp, b⟩ :: l))) (hs : ss.length = 22) (hR : Right b (bsOf m) ls) (hA : Apart (bsOf m)) (hcap : cap = cp) :
    Calls Try.prog 101 #[arP p, hpP q] w fun e w' => e = .returned (.int .i64 1) ∧ St B w0 w' (HpL q cap vb vd vl ss m ls (ArT p ⟨bs, cp, b⟩ :: l)) := by
  have hm := right_count' hR
  have hW := hR.walk
  have hmx := hR.max
  subst hcap
  obtain ⟨gl, cl, _, _, rfl, hcl1, hcl2, _, _⟩ := hp_ls h hs 0 (by decide)
  have hIR : IsRight b := ⟨bsOf m, ls, hR, hA⟩
  have hall : ∀ c, c < 22 → allB b c = some (ls c) := fun c hc => hR.lists.all hR.good hR.len hR.max hc
  have KW := Lib.hid (blk_Walk h (i := 4) rfl)
  have hms : ∀ w', St B w0 w' (HpL q cp vb vd (.slice (some ⟨gl, 0, none⟩) 22 cl) ss m ls (ArT p ⟨bs, cp, b⟩ :: l)) → (∀ c, c < 22 → w'.cell? ⟨gl, c, none⟩ = some (.slice (sv ss c).a (ls c).length (sv ss c).c) ∧ Sl w' (sv ss c).a (ls c).length (sv ss c).c 1 (ints (ls c))) ∧ w'.cell? ⟨q, 3, none⟩ = some (.slice (some ⟨gl, 0, none⟩) 22 cl) := fun w' h' => ⟨fun c hc => hp_lst h' (k := 3) rfl hs c hc, (hp_cells h').2.2.2⟩
  have HW := Lib.hid hW; have HIR := Lib.hid hIR; have HALL := Lib.hid hall; have HMS := Lib.hid hms; have HMM := Lib.hid hm
  clear hW hIR hall hR hA h hm hms
  go_enter Try.func101, Try.ntmps101
  go_wp2_with fail
  have kc := KW.out
  rw [HW.out, show errW (some (bsOf m)) = .nilIface from rfl, Option.getD_some] at kc
  with_reducible refine kc.mono ?_
  clear kc
  rintro e w2 ⟨v2', rfl, t2⟩
  have T2 := Lib.hid t2
  clear t2
  obtain ⟨a2, c2, e2, hs2⟩ := bls_slice T2.out (i := 0) rfl
  subst e2
  obtain ⟨a3, c3, e3, hs3⟩ := bls_slice T2.out (i := 2) rfl
  subst e3
  have BLK := fun (W : World) (h1 : Sl W a2 (bsOf m).length c2 3 ((bsOf m).map blC).flatten) (h2 : Sl W a3 (bsOf m).length c3 3 ((bsOf m).map blC).flatten) => (law_Blocks W a2 c2 (bsOf m) a3 c3 (bsOf m) h1 h2)
  simp only [if_true] at BLK
  have HBLK := Lib.hid BLK
  have s2 := Sl.cap hs2; have s3 := Sl.room hs2; have s4 := Sl.cap hs3; have s5 := Sl.room hs3
  have TX := Lib.hid T2.out.drew
  clear BLK hs2 hs3
  go_wp2_with fail
  refine flows_begin (S := fun w' => St B w0 w' (BlsO (.slice a2 (bsOf m).length c2) (bsOf m) :: HpL q cp (.slice a3 (bsOf m).length c3) vd (.slice (some ⟨gl, 0, none⟩) 22 cl) ss m ls (ArT p ⟨bs, cp, b⟩ :: l))) hmixed 25 rfl (by repeat (first | with_reducible refine ps_then ?_ | with_reducible refine ps_block ?_ | with_reducible exact ps_body | refine ps_then ?_ | refine ps_block ?_ | exact ps_body)) TX.out (fun hps => ?_)
  simp only [List.replicate]
  generalize w2.drew = wx at TX ⊢
  refine flows_take 0 (v := ?_) (a' := ?_) hps rfl (by kernel_rfl) rfl ?_ ?_ ?_
  rotate_left 2
  · intro w' hk; go_simp; try rfl
  · simp only [Act.put, List.setIfInBounds_toArray, List.set_cons_succ, List.set_cons_zero]; try rfl
  refine flows_take 1 (v := ?_) (a' := ?_) hps rfl (by kernel_rfl) rfl ?_ ?_ ?_
  rotate_left 2
  · intro w' hk; go_simp; try rfl
  · simp only [Act.put, List.setIfInBounds_toArray, List.set_cons_succ, List.set_cons_zero]; try rfl
  refine flows_take 2 (v := ?_) (a' := ?_) hps rfl (by kernel_rfl) rfl ?_ ?_ ?_
  rotate_left 2
  · intro w' hk; go_simp; try rfl
  · simp only [Act.put, List.setIfInBounds_toArray, List.set_cons_succ, List.set_cons_zero]; try rfl
  refine flows_take 3 (v := ?_) (a' := ?_) hps rfl (by kernel_rfl) rfl ?_ ?_ ?_
  rotate_left 2
  · intro w' hk; go_simp; try rfl
  · simp only [Act.put, List.setIfInBounds_toArray, List.set_cons_succ, List.set_cons_zero]; try rfl
  refine flows_take 4 (v := ?_) (a' := ?_) hps rfl (by kernel_rfl) rfl ?_ ?_ ?_
  rotate_left 2
  · intro w' hk; go_simp; try rfl
  · simp only [Act.put, List.setIfInBounds_toArray, List.set_cons_succ, List.set_cons_zero]; try rfl
  refine flows_take 5 (v := ?_) (a' := ?_) hps rfl (by kernel_rfl) rfl ?_ ?_ ?_
  rotate_left 2
  · intro w' hk; go_simp; try rfl
  · simp only [Act.put, List.setIfInBounds_toArray, List.set_cons_succ, List.set_cons_zero]; try rfl
  refine flows_take 6 (v := ?_) (a' := ?_) hps rfl (by kernel_rfl) rfl ?_ ?_ ?_
  rotate_left 2
  · intro w' hk; go_simp; try rfl
  · simp only [Act.put, List.setIfInBounds_toArray, List.set_cons_succ, List.set_cons_zero]; try rfl
  refine flows_take 7 (v := ?_) (a' := ?_) hps rfl (by kernel_rfl) rfl ?_ ?_ ?_
  rotate_left 2
  · intro w' hk; have c1 := (hp_cells hk.tail).2.1; go_simp; try rfl
  · simp only [Act.put, List.setIfInBounds_toArray, List.set_cons_succ, List.set_cons_zero]; try rfl
  refine flows_one 8 hps rfl (by kernel_rfl) rfl (wp_next (fun K hK => ?_))
  go_simp
  with_reducible refine (HBLK.out _ (bls_sl TX.out (i := 0) rfl).2 (bls_sl TX.out (i := 2) rfl).2).mono ?_
  rintro e w8 ⟨rfl, b8⟩
  have kp := TX.out.below b8
  have TY := Lib.hid kp
  clear b8 TX
  refine hK _ _ ⟨kp, ?_⟩
  clear kp hK
  refine flows_take 9 (v := ?_) (a' := ?_) hps rfl (by kernel_rfl) rfl ?_ ?_ ?_
  rotate_left 2
  · intro w' hk; go_simp; try rfl
  · simp only [Act.put, List.setIfInBounds_toArray, List.set_cons_succ, List.set_cons_zero]; try rfl
  refine flows_take 10 (v := ?_) (a' := ?_) hps rfl (by kernel_rfl) rfl ?_ ?_ ?_
  rotate_left 2
  · intro w' hk; go_simp; try rfl
  · simp only [Act.put, List.setIfInBounds_toArray, List.set_cons_succ, List.set_cons_zero]; try rfl
  refine flows_take 11 (v := ?_) (a' := ?_) hps rfl (by kernel_rfl) rfl ?_ ?_ ?_
  rotate_left 2
  · intro w' hk; go_simp; try rfl
  · simp only [Act.put, List.setIfInBounds_toArray, List.set_cons_succ, List.set_cons_zero]; try rfl
  refine flows_take 12 (v := ?_) (a' := ?_) hps rfl (by kernel_rfl) rfl ?_ ?_ ?_
  rotate_left 2
  · intro w' hk; go_simp; try rfl
  · simp only [Act.put, List.setIfInBounds_toArray, List.set_cons_succ, List.set_cons_zero]; try rfl
  refine flows_take 14 (v := ?_) (a' := ?_) hps rfl (by kernel_rfl) rfl ?_ ?_ ?_
  rotate_left 2
  · intro w' hk; go_simp; try rfl
  · simp only [Act.put, List.setIfInBounds_toArray, List.set_cons_succ, List.set_cons_zero]; try rfl
  refine flows_take 15 (v := ?_) (a' := ?_) hps rfl (by kernel_rfl) rfl ?_ ?_ ?_
  rotate_left 2
  · intro w' hk; go_simp; try rfl
  · simp only [Act.put, List.setIfInBounds_toArray, List.set_cons_succ, List.set_cons_zero]; try rfl
  refine flows_take 16 (v := ?_) (a' := ?_) hps rfl (by kernel_rfl) rfl ?_ ?_ ?_
  rotate_left 2
  · intro w' hk; go_simp; try rfl
  · simp only [Act.put, List.setIfInBounds_toArray, List.set_cons_succ, List.set_cons_zero]; try rfl
  refine flows_take 17 (v := ?_) (a' := ?_) hps rfl (by kernel_rfl) rfl ?_ ?_ ?_
  rotate_left 2
  · intro w' hk; have c0 := (hp_cells hk.tail).1; go_simp; try rfl
  · simp only [Act.put, List.setIfInBounds_toArray, List.set_cons_succ, List.set_cons_zero]; try rfl
  refine flows_one 13 hps rfl (by kernel_rfl) rfl (wp_next (fun K hK => ?_))
  go_simp
  with_reducible refine (ar_Cap TY.out (i := 5) rfl).mono ?_
  rintro e w9 ⟨rfl, rfl⟩
  have kp := TY.out
  refine hK _ _ ⟨kp, ?_⟩
  clear kp hK
  refine flows_take 18 (v := ?_) (a' := ?_) hps rfl (by kernel_rfl) rfl ?_ ?_ ?_
  rotate_left 2
  · intro w' hk; go_simp; try rfl
  · simp only [Act.put, List.setIfInBounds_toArray, List.set_cons_succ, List.set_cons_zero]; try rfl
  refine flows_take 19 (v := ?_) (a' := ?_) hps rfl (by kernel_rfl) rfl ?_ ?_ ?_
  rotate_left 2
  · intro w' hk; go_simp; try rfl
  · simp only [Act.put, List.setIfInBounds_toArray, List.set_cons_succ, List.set_cons_zero]; try rfl
  refine flows_take 20 (v := ?_) (a' := ?_) hps rfl (by kernel_rfl) rfl ?_ ?_ ?_
  rotate_left 2
  · intro w' hk; go_simp; try rfl
  · simp only [Act.put, List.setIfInBounds_toArray, List.set_cons_succ, List.set_cons_zero]; try rfl
  refine flows_take 21 (v := ?_) (a' := ?_) hps rfl (by kernel_rfl) rfl ?_ ?_ ?_
  rotate_left 2
  · intro w' hk; go_simp; try rfl
  · simp only [Act.put, List.setIfInBounds_toArray, List.set_cons_succ, List.set_cons_zero]; try rfl
  refine flows_one 22 hps rfl (by kernel_rfl) rfl (wp_next (fun K hK => ?_))
  go_simp
  with_reducible refine (chk_Check (i := 5) (show St B w0 _ ((BlsO (.slice a2 (bsOf m).length c2) (bsOf m) :: HpL q cp (.slice a3 (bsOf m).length c3) vd (.slice (some ⟨gl, 0, none⟩) 22 cl) ss m ls (ArT p ⟨bs, cp, b⟩ :: l)).set 5 (ArT p ⟨bs, cp, b⟩)) from TY.out) (by simp only [List.length_cons]; omega)).mono ?_
  rintro e w10 ⟨r10, rfl, b10, t10⟩
  obtain rfl := chkV_true b10 HIR.out
  rw [show chkV true = .nilIface from rfl]
  have kp : St B w0 w10 (BlsO (.slice a2 (bsOf m).length c2) (bsOf m) :: HpL q cp (.slice a3 (bsOf m).length c3) vd (.slice (some ⟨gl, 0, none⟩) 22 cl) ss m ls (ArT p ⟨bs, cp, b⟩ :: l)) := t10
  have TZ := Lib.hid kp
  clear b10 t10 TY
  refine hK _ _ ⟨kp, ?_⟩
  clear kp hK
  refine flows_take 23 (v := ?_) (a' := ?_) hps rfl (by kernel_rfl) rfl ?_ ?_ ?_
  rotate_left 2
  · intro w' hk; go_simp; try rfl
  · simp only [Act.put, List.setIfInBounds_toArray, List.set_cons_succ, List.set_cons_zero]; try rfl
  refine flows_take 24 (v := ?_) (a' := ?_) hps rfl (by kernel_rfl) rfl ?_ ?_ ?_
  rotate_left 2
  · intro w' hk; go_simp; try rfl
  · simp only [Act.put, List.setIfInBounds_toArray, List.set_cons_succ, List.set_cons_zero]; try rfl
  refine flows_done hps (by kernel_rfl) ?_
  go_wp2
  go_loopw [7] (fun vi wr => ∃ c : Nat, c ≤ 22 ∧ vi = .int .i64 c ∧ St B w0 wr (BlsO (.slice a2 (bsOf m).length c2) (bsOf m) :: HpL q cp (.slice a3 (bsOf m).length c3) vd (.slice (some ⟨gl, 0, none⟩) 22 cl) ss m ls (ArT p ⟨bs, cp, b⟩ :: l))) (fun vi _ => 22 - (intOf vi).toNat)
  case atStart => exact ⟨0, Nat.zero_le _, rfl, TZ.out⟩
  case round =>
    obtain ⟨c, hc, rfl, hS⟩ := hrel
    clear TZ
    by_cases hlt : c < 22
    · have d1 : decide ((c : Int) < 22) = true := decide_eq_true (by omega)
      have ka := ls_All (i := 5) (show St B w0 wr ((BlsO (.slice a2 (bsOf m).length c2) (bsOf m) :: HpL q cp (.slice a3 (bsOf m).length c3) vd (.slice (some ⟨gl, 0, none⟩) 22 cl) ss m ls (ArT p ⟨bs, cp, b⟩ :: l)).set 5 (ArT p ⟨bs, cp, b⟩)) from hS) (by simp only [List.length_cons]; omega) c hlt
      rw [HALL.out c hlt, show errA (some (ls c)) = .nilIface from rfl, Option.getD_some] at ka
      have KA := Lib.hid ka
      have HLT := Lib.hid hlt
      clear ka hS
      go_wp2_with fail
      have kc := KA.out
      with_reducible refine kc.mono ?_
      clear kc
      rintro e w4 ⟨v4', rfl, t4⟩
      have T4 := Lib.hid t4
      clear t4
      have T5 := Lib.hid (show St B w0 w4 (IntsO v4' (ls c) :: BlsO (.slice a2 (bsOf m).length c2) (bsOf m) :: HpL q cp (.slice a3 (bsOf m).length c3) vd (.slice (some ⟨gl, 0, none⟩) 22 cl) ss m ls (ArT p ⟨bs, cp, b⟩ :: l)) from T4.out)
      clear T4
      obtain ⟨a5, c5, e5, hs5⟩ := ints_slice T5.out (i := 0) rfl
      subst e5
      obtain ⟨hml, c3'⟩ := HMS.out _ T5.out.tail.tail
      obtain ⟨hcell, hsl⟩ := hml c HLT.out
      generalize (sv ss c).a = ax at *
      generalize (sv ss c).c = cx at *
      have ki := law_Ints w4 a5 c5 (ls c) ax cx (ls c) hs5 hsl
      rw [if_pos rfl] at ki
      have KI := Lib.hid ki
      clear ki hs5 hsl hml
      go_wp2_with fail
      have kc := KI.out
      with_reducible refine kc.mono ?_
      clear kc
      rintro e w6 ⟨rfl, b6⟩
      have B6 := Lib.hid b6
      clear b6
      go_wp2
      exact ⟨⟨c + 1, HLT.out, by go_num, (T5.out.below B6.out).tail⟩, by simp [intOf]; omega⟩
    · obtain rfl : c = 22 := by omega
      have HS := Lib.hid hS
      clear hS
      go_wp2
      go_ret
      exact ⟨rfl, HS.out.tail⟩
end
end Go.Proofs.Ytenbpbnffnodhaa
