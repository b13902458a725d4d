/- Texts of the proof of 'AllocPlays', part 20: words on memory, contracts of functions, plain laws. No condition. -/
import Derived.Test.YtenbpbnffnodhaaMgAllocPlays8
import Derived.Test.YtenbpbnffnodhaaMgAllocPlays12
import Derived.Test.YtenbpbnffnodhaaMgAllocPlays19
set_option linter.unusedSimpArgs false
set_option linter.unusedVariables false
/- The reference's heap: a block is cut. -/
namespace Go.Proofs.Ytenbpbnffnodhaa
open Go Go.RowKit Go.Own
set_option linter.unusedVariables false
set_option maxRecDepth 100000
section
variable {B : Nat} {w0 w : World} {l : List Ob} {q : Nat} {cap : Int} {vb vd vl : Value} {ss : List Sv} {b : List UInt8}
theorem hp_back {P : Ob} {L : List Blk} {D : List Value} {ls : Ls} (h : St B w0 w (P :: HpX q cap vb vd vl ss L D ls l)) : St B w0 w (HpX q cap vb vd vl ss L D ls (P :: l)) :=
  h.perm (List.perm_middle (l₁ := [_, _, _, _])).symm
theorem HpR.untop {P : Ob} {r : List Bd × Ls} {w' : World} (h : HpR B w0 q cap vl r (P :: l) w') : HpR B w0 q cap vl r l w' := by
  obtain ⟨vb, vd, ss, h1, h2⟩ := h
  exact ⟨vb, vd, ss, h1, h2.sub (.cons_cons _ (.cons_cons _ (.cons_cons _ (.cons_cons _ (List.sublist_cons_self ..)))))⟩
set_option maxHeartbeats 8000000 in
theorem rh_cut {mp mr : List Bd} {o s n : Nat} {u : Bool} {dx : Value} {ls : Ls} (h : St B w0 w (HpX q cap vb vd vl ss (bsOf mp ++ ⟨o, s, u⟩ :: bsOf mr) (mp.map (·.d) ++ dx :: mr.map (·.d)) ls l)) (hs : ss.length = 22)
    (hh : Hole b (bsOf mp) o s (bsOf mr) ls) (hn : isSize (n : Int) = true) (hns : n ≤ s) (hnf : NilFree (mp ++ mr)) (hdx : dx.oneCell' = true) (hcnt : mp.length + mr.length ≤ 990) (I N : Int) (hI : I = mp.length) (hN : N = n) :
    Calls Try.prog 205 #[hpP q, .int .i64 I, .int .i64 N] w fun e w' => e = .returned (.tuple #[]) ∧ HpR B w0 q cap vl (cutM mp o s dx mr n ls) l w' := by
  subst hI; subst hN
  obtain ⟨k, hk⟩ : ∃ k, k = mp.length := ⟨_, rfl⟩
  have hbm : (bsOf mp).length = k := by rw [hk]; exact List.length_map ..
  have hdm : (mp.map (·.d)).length = k := by rw [hk]; exact List.length_map ..
  rw [← hk]
  have hat := hh.at; have hsz := hh.size; have hmx := hh.max
  have hcl : (mp.map (·.d)).length = (bsOf mp).length := by rw [hdm, hbm]
  have done : ∀ w', St B w0 w' (HpX q cap vb vd vl ss (bsOf mp ++ ⟨o, s, true⟩ :: bsOf mr) (mp.map (·.d) ++ dx :: mr.map (·.d)) ls l) → s < n + 32 → HpR B w0 q cap vl (cutM mp o s dx mr n ls) l w' := fun w' h' hlt => by
    refine ⟨vb, vd, ss, hs, ?_⟩
    unfold cutM
    rw [if_pos hlt]
    show St B w0 w' (HpX q cap vb vd vl ss (bsOf (mp ++ ⟨⟨o, s, true⟩, dx⟩ :: mr)) ((mp ++ ⟨⟨o, s, true⟩, dx⟩ :: mr).map (·.d)) ls l)
    rw [bsOf_append, bsOf_cons, List.map_append, List.map_cons]
    exact h'
  obtain ⟨bb, cb, bd, cd, rfl, rfl⟩ := rm_some h
  obtain ⟨X, hX⟩ : ∃ X, X = (bsOf mp ++ ⟨o, s, u⟩ :: bsOf mr).length := ⟨_, rfl⟩
  obtain ⟨M, hM⟩ : ∃ M, M = (mp.map (·.d) ++ dx :: mr.map (·.d)).length := ⟨_, rfl⟩
  rw [← hX, ← hM] at h done
  have lt1 : k < X := by rw [hX, List.length_append, List.length_cons, hbm]; omega
  have c1 := (hp_cells h).2.1
  obtain ⟨b0, b1, b2⟩ := rm_blk h hbm
  have u1 : IntKind.i64.wrap ((s : Int) - (n : Int)) = ((s - n : Nat) : Int) := by rw [IntWalk.i64_in _ (by omega)]; omega
  have u2 : IntKind.i64.wrap ((o : Int) + (n : Int)) = ((o + n : Nat) : Int) := by rw [IntWalk.i64_in _ (by omega)]; omega
  have u3 : IntKind.i64.wrap ((k : Int) + 1) = ((k + 1 : Nat) : Int) := by rw [IntWalk.i64_in _ (by omega)]; omega
  have rng : w.rangeAt bb (k * 3) (blC ⟨o, s, u⟩) := by
    intro j v hj
    match j, hj with
    | 0, hj => cases hj; exact b0
    | 1, hj => cases hj; exact b1
    | 2, hj => cases hj; exact b2
  have T0 := Lib.hid h; have HH := Lib.hid hh; have HS := Lib.hid hs; have HNF := Lib.hid hnf; have HBM := Lib.hid hbm; have HDM := Lib.hid hdm; have HK := Lib.hid hk; have HRG := Lib.hid rng; have DN := Lib.hid done; have HIS := Lib.hid hn; have HDX := Lib.hid hdx
  clear h hh hs hnf hbm hdm hk hX hM b0 b1 b2 rng done hn hdx hat hmx hcl
  go_enter Try.func205, Try.ntmps205
  by_cases hlt : s < n + 32
  · have d1 : decide (((s - n : Nat) : Int) < 32) = true := decide_eq_true (by omega)
    go_wp2_with (first
      | (refine bl_mid rfl _ rfl bb (k * 3) rfl ⟨o, s, u⟩ HRG.out ?_)
      | (refine bk_alloc T0.out rfl rfl ?_; intro g w1 h1; have T1 := Lib.hid h1; clear h1 c1)
      | (refine bk_store T1.out 0 rfl rfl _ _ rfl rfl o s u rfl ?_; intro w2 h2; have T2 := Lib.hid (hp_back (show St B w0 w2 (BkO g o s u :: HpX q cap (.slice (some ⟨bb, 0, none⟩) X cb) (.slice (some ⟨bd, 0, none⟩) M cd) vl ss (bsOf mp ++ ⟨o, s, u⟩ :: bsOf mr) (mp.map (·.d) ++ dx :: mr.map (·.d)) ls l) from h2)); clear h2 T1; have c1 := (hp_cells T2.out).2.1)
      | (refine rm_setB (l := BkO g o s u :: l) T2.out HBM.out ⟨o, s, true⟩ 2 (by decide) (.bool true) rfl bb X cb rfl rfl 4 _ _ rfl rfl rfl rfl (by kernel_rfl) ?_; intro w3 h3; have T3 := Lib.hid h3; clear h3 T2; have c1 := (hp_cells T3.out).2.1; have q1 : w3.cell? ⟨g, 1, none⟩ = some (.int .i64 (s : Nat)) := (T3.out.row (i := 4) rfl).cell 1; have q0 : w3.cell? ⟨g, 0, none⟩ = some (.int .i64 (o : Nat)) := (T3.out.row (i := 4) rfl).cell 0; go_wp2_with fail))
    (try simp only [Exit.inBlock, Exit.then])
    refine bodyPost_ret (results_none rfl _ _ _) rfl ?_
    exact ⟨rfl, DN.out _ (T3.out.sub (.cons_cons _ (.cons_cons _ (.cons_cons _ (.cons_cons _ (List.sublist_cons_self ..)))))) hlt⟩
  · have d1 : decide (((s - n : Nat) : Int) < 32) = false := decide_eq_false (by omega)
    have hct : cutM mp o s dx mr n ls = freeM (mp ++ [⟨⟨o, n, true⟩, dx⟩]) (o + n) (s - n) mr ls := by unfold cutM; rw [if_neg hlt]
    rw [hct]
    have hcut : Hole (setB b ⟨o, n, true⟩) (bsOf (mp ++ [⟨⟨o, n, true⟩, dx⟩])) (o + n) (s - n) (bsOf mr) ls := by rw [bsOf_append]; exact (HH.out.cut HIS.out (by omega)).1
    have HC := Lib.hid hcut
    clear hct hcut
    go_wp2_with (first
      | (refine bl_mid rfl _ rfl bb (k * 3) rfl ⟨o, s, u⟩ HRG.out ?_)
      | (refine bk_alloc T0.out rfl rfl ?_; intro g w1 h1; have T1 := Lib.hid h1; clear h1 c1)
      | (refine bk_store T1.out 0 rfl rfl _ _ rfl rfl o s u rfl ?_; intro w2 h2; have T2 := Lib.hid (hp_back (show St B w0 w2 (BkO g o s u :: HpX q cap (.slice (some ⟨bb, 0, none⟩) X cb) (.slice (some ⟨bd, 0, none⟩) M cd) vl ss (bsOf mp ++ ⟨o, s, u⟩ :: bsOf mr) (mp.map (·.d) ++ dx :: mr.map (·.d)) ls l) from h2)); clear h2 T1; have c1 := (hp_cells T2.out).2.1)
      | (refine rm_setB (l := BkO g o s u :: l) T2.out HBM.out ⟨o, s, true⟩ 2 (by decide) (.bool true) rfl bb X cb rfl rfl 4 _ _ rfl rfl rfl rfl (by kernel_rfl) ?_; intro w3 h3; have T3 := Lib.hid h3; clear h3 T2; have c1 := (hp_cells T3.out).2.1; have q1 : w3.cell? ⟨g, 1, none⟩ = some (.int .i64 (s : Nat)) := (T3.out.row (i := 4) rfl).cell 1; have q0 : w3.cell? ⟨g, 0, none⟩ = some (.int .i64 (o : Nat)) := (T3.out.row (i := 4) rfl).cell 0; go_wp2_with (refine rm_setB (l := BkO g o s u :: l) T3.out HBM.out ⟨o, n, true⟩ 1 (by decide) (.int .i64 (n : Nat)) rfl bb X cb rfl rfl 3 _ _ rfl rfl rfl rfl (by kernel_rfl) ?_; intro w4 h4; have T4 := Lib.hid h4; clear h4 T3 c1 q0 q1; have q1 : w4.cell? ⟨g, 1, none⟩ = some (.int .i64 (s : Nat)) := (T4.out.row (i := 4) rfl).cell 1; have q0 : w4.cell? ⟨g, 0, none⟩ = some (.int .i64 (o : Nat)) := (T4.out.row (i := 4) rfl).cell 0; go_wp2_with fail)))
    have HT4 := Lib.hid (show St B w0 w4 (HpX q cap (.slice (some ⟨bb, 0, none⟩) X cb) (.slice (some ⟨bd, 0, none⟩) M cd) vl ss ((bsOf mp ++ [⟨o, n, true⟩]) ++ bsOf mr) ((mp.map (·.d) ++ [dx]) ++ mr.map (·.d)) ls (BkO g o s u :: l)) from by rw [List.append_assoc, List.append_assoc]; exact T4.out)
    have HNF2 := Lib.hid (show ∀ x ∈ mp ++ mr, x.d.oneCell' = true ∧ (x.b.used = false → x.d = none0) from HNF.out)
    have kc : Calls Try.prog 233 #[hpP q, .int .i64 ((k : Int) + 1), .agg #[.int .i64 ((o : Int) + (n : Int)), .int .i64 ((s - n : Nat) : Int), .bool true]] w4 _ := (rm_put (l := BkO g o s u :: l) (P := bsOf mp ++ [⟨o, n, true⟩]) (R := bsOf mr) (C := mp.map (·.d) ++ [dx]) (E := mr.map (·.d)) (x := ⟨o + n, s - n, true⟩) (n := k + 1) HT4.out (by rw [List.length_append, HBM.out, List.length_singleton]) (by rw [List.length_append, HDM.out, List.length_singleton]) (by unfold bsOf; rw [List.length_map, List.length_map]) (fun v hv => by
        simp only [List.mem_append, List.mem_map, List.mem_cons, List.not_mem_nil, or_false] at hv
        rcases hv with (⟨x, hx, rfl⟩ | rfl) | ⟨x, hx, rfl⟩
        · exact (HNF2.out x (List.mem_append_left _ hx)).1
        · exact HDX.out
        · exact (HNF2.out x (List.mem_append_right _ hx)).1) (by have := HBM.out; simp only [List.length_append, List.length_cons, List.length_nil] at *; unfold bsOf at *; simp only [List.length_map] at *; omega) ((k : Int) + 1) ((o : Int) + (n : Int)) ((s - n : Nat) : Int) (by omega) (by show (o : Int) + (n : Int) = ((o + n : Nat) : Int); omega) rfl)
    with_reducible refine kc.mono ?_
    clear kc
    rintro e w5 ⟨rfl, vb5, vd5, t5⟩
    have T5 := Lib.hid (show St B w0 w5 (HpX q cap vb5 vd5 vl ss (bsOf (mp ++ [⟨⟨o, n, true⟩, dx⟩]) ++ ⟨o + n, s - n, true⟩ :: bsOf mr) ((mp ++ [(⟨⟨o, n, true⟩, dx⟩ : Bd)]).map (·.d) ++ none0 :: mr.map (·.d)) ls (BkO g o s u :: l)) from by rw [bsOf_append, List.map_append]; exact t5)
    clear t5 T4 c1 q0 q1
    go_wp2_with fail
    have HNF3 := Lib.hid (show NilFree ((mp ++ [⟨⟨o, n, true⟩, dx⟩]) ++ mr) from fun x hx => by
        rcases List.mem_append.1 hx with h1 | h1
        · rcases List.mem_append.1 h1 with h2 | h2
          · exact HNF2.out x (List.mem_append_left _ h2)
          · rw [List.mem_singleton.1 h2]; exact ⟨HDX.out, fun h => by cases h⟩
        · exact HNF2.out x (List.mem_append_right _ h1))
    with_reducible refine (rh_give (mp := mp ++ [⟨⟨o, n, true⟩, dx⟩]) T5.out HS.out HC.out HNF3.out (by rw [List.length_append, List.length_singleton]; omega) ((k : Int) + 1) (by rw [List.length_append, List.length_singleton, HK.out]; omega)).mono ?_
    rintro e w6 ⟨rfl, t6⟩
    have T6 := Lib.hid t6
    clear t6 T5
    go_wp2_with fail
    go_end0
    exact ⟨rfl, T6.out.untop⟩
end
end Go.Proofs.Ytenbpbnffnodhaa

/- Layer 10: behind Rebuild the lists have just the free blocks; what Find tells. -/
namespace Go.Own
end Go.Own
namespace Go.Proofs.Ytenbpbnffnodhaa
open Go Go.RowKit Go.Own
set_option linter.unusedVariables false
set_option maxRecDepth 100000
end Go.Proofs.Ytenbpbnffnodhaa

/- What stays true of a heap's blocks, whatever is done; when there is room. No program. -/
namespace Go.Proofs.Ytenbpbnffnodhaa
open Go Go.RowKit Go.Own
set_option linter.unusedVariables false
set_option maxRecDepth 100000
theorem nf_app {a b : List Bd} : NilFree (a ++ b) ↔ NilFree a ∧ NilFree b := List.forall_mem_append
theorem nf_cons {x : Bd} {m : List Bd} : NilFree (x :: m) ↔ (x.d.oneCell' = true ∧ (x.b.used = false → x.d = none0)) ∧ NilFree m := List.forall_mem_cons
theorem nf_one {x : Bd} (h : x.d.oneCell' = true) (hu : x.b.used = true) : NilFree [x] := nf_cons.2 ⟨⟨h, fun h2 => by rw [hu] at h2; cases h2⟩, fun _ h => by cases h⟩
theorem nf_joinN {post : List Bd} {s : Nat} {ls : Ls} (h : NilFree post) : NilFree (joinN post s ls).1 := by
  cases post with
  | nil => exact h
  | cons y r =>
    unfold joinN; simp only
    split
    · exact h
    · exact (nf_cons.1 h).2
theorem nf_joinP {pre : List Bd} {o s : Nat} {ls : Ls} (h : NilFree pre) : NilFree (joinP pre o s ls).1 := by
  unfold joinP
  cases pre.getLast? with
  | none => exact h
  | some y =>
    simp only
    split
    · exact h
    · exact fun x hx => h x ((List.dropLast_sublist _).subset hx)
theorem nf_freeM {pre post : List Bd} {o s : Nat} {ls : Ls} (h1 : NilFree pre) (h2 : NilFree post) : NilFree (freeM pre o s post ls).1 :=
  nf_app.2 ⟨nf_joinP h1, nf_cons.2 ⟨⟨by simp [Value.oneCell'], fun _ => rfl⟩, nf_joinN h2⟩⟩
theorem nf_cutM {pre post : List Bd} {o s n : Nat} {d : Value} {ls : Ls} (h1 : NilFree pre) (h2 : NilFree post) (hd : d.oneCell' = true) : NilFree (cutM pre o s d post n ls).1 := by
  unfold cutM
  split
  · exact nf_app.2 ⟨h1, nf_cons.2 ⟨⟨hd, fun h => by cases h⟩, h2⟩⟩
  · exact nf_freeM (nf_app.2 ⟨h1, nf_one hd rfl⟩) h2
/-- What holds of the blocks between any two deeds. -/
def Fine (m : List Bd) : Prop := Apart (bsOf m) ∧ NilFree m
theorem fine_nil : Fine [] := ⟨trivial, fun _ h => by cases h⟩
theorem fine_parts {m : List Bd} {i : Nat} {x : Bd} (h : Fine m) (hx : m[i]? = some x) : Fine (m.take i) ∧ Fine (m.drop (i + 1)) ∧ x.d.oneCell' = true := by
  have h1 := h.1
  have h2 := h.2
  rw [bsOf_split hx] at h1
  rw [split_at hx] at h2
  have a1 := Apart.append.1 h1
  have a2 := nf_app.1 h2
  have a3 := nf_cons.1 a2.2
  exact ⟨⟨a1.1, a2.1⟩, ⟨a1.2.1.2, a3.2⟩, a3.1.1⟩
theorem fine_giveAt {m : List Bd} {i : Nat} {ls : Ls} (h : Fine m) : Fine (giveAt m i ls).1 := by
  unfold giveAt
  cases hx : m[i]? with
  | none => exact h
  | some x =>
    obtain ⟨h1, h2, _⟩ := fine_parts h hx
    exact ⟨freeM_apart h1.1 h2.1, nf_freeM h1.2 h2.2⟩
theorem fine_cutAt {m : List Bd} {i n : Nat} {ls : Ls} (h : Fine m) : Fine (cutAt m i n ls).1 := by
  unfold cutAt
  cases hx : m[i]? with
  | none => exact h
  | some x =>
    obtain ⟨h1, h2, h3⟩ := fine_parts h hx
    exact ⟨cutM_apart h1.1 h2.1, nf_cutM h1.2 h2.2 h3⟩
theorem fine_tailM {m m' : List Bd} {cap n o : Nat} {ls ls' : Ls} (h : Fine m) (ht : tailM m cap n ls = some (o, m', ls')) : Fine m' := by
  unfold tailM at ht
  split at ht
  · cases ht
    exact ⟨by rw [bsOf_append]; exact Apart.snoc.2 ⟨h.1, fun _ _ => .inr rfl⟩, nf_app.2 ⟨h.2, nf_one (by simp [Value.oneCell']) rfl⟩⟩
  · cases ht
theorem fine_takeTail {m m' : List Bd} {cap n o : Nat} {ls ls' : Ls} (h : Fine m) (ht : takeTail m cap n ls = some (o, m', ls')) : Fine m' := by
  unfold takeTail at ht
  cases hl : m.getLast? with
  | none => rw [hl] at ht; exact fine_tailM h ht
  | some x =>
    rw [hl] at ht
    simp only at ht
    split at ht
    · exact fine_tailM h ht
    · split at ht
      · cases ht
        have h1 := h.1
        have h2 := h.2
        rw [getLast_split hl] at h1 h2
        rw [bsOf_append] at h1
        have a1 := Apart.append.1 h1
        have a2 := nf_app.1 h2
        exact ⟨by rw [bsOf_append]; exact Apart.snoc.2 ⟨a1.1, fun _ _ => .inr rfl⟩, nf_app.2 ⟨a2.1, nf_one (nf_cons.1 a2.2).1.1 rfl⟩⟩
      · cases ht
theorem fine_takeM {m m' : List Bd} {cap n o : Nat} {ls ls' : Ls} (h : Fine m) (ht : takeM m cap n ls = some (o, m', ls')) : Fine m' := by
  unfold takeM at ht
  cases hf : findL (bsOf m) ls n with
  | none => rw [hf] at ht; exact fine_takeTail h ht
  | some a =>
    rw [hf] at ht
    simp only at ht
    cases ha : atI m a with
    | none => rw [ha] at ht; cases ht
    | some i =>
      rw [ha] at ht
      simp only at ht
      cases hx : m[i]? with
      | none => rw [hx] at ht; cases ht
      | some x =>
        rw [hx] at ht
        cases ht
        exact fine_cutAt h
theorem fine_giveM {m : List Bd} {o : Int} {ls : Ls} {q : List Bd × Ls} (h : Fine m) (ht : giveM m o ls = some q) : Fine q.1 := by
  unfold giveM at ht
  cases hz : usedZ m o with
  | none => rw [hz] at ht; cases ht
  | some j => rw [hz] at ht; cases ht; exact fine_giveAt h
theorem fine_trimM {m : List Bd} {o : Int} {n : Nat} {ls : Ls} {q : List Bd × Ls} (h : Fine m) (ht : trimM m o n ls = some q) : Fine q.1 := by
  unfold trimM at ht
  cases hz : usedZ m o with
  | none => rw [hz] at ht; cases ht
  | some j =>
    rw [hz] at ht
    simp only at ht
    cases hx : m[j]? with
    | none => rw [hx] at ht; cases ht
    | some x =>
      rw [hx] at ht
      simp only at ht
      split at ht
      · cases ht
      · cases ht; exact fine_cutAt h
theorem take_found {b : List UInt8} {m : List Bd} {ls : Ls} (h : Right b (bsOf m) ls) {n a : Nat} (hn : isSize (n : Int) = true) (hf : findL (bsOf m) ls n = some a) :
    ∃ j X, m[j]? = some X ∧ X.b.off = a ∧ X.b.used = false ∧ n ≤ X.b.size ∧ X.b ∈ bsOf m ∧ ∀ cap, takeM m cap n ls = some (a, cutM (m.take j) a X.b.size X.d (m.drop (j + 1)) n (outL ls (clsN X.b.size) a)) := by
  obtain ⟨x0, hx0, hxo, hxu, hxn, ho0⟩ := findL_some h hn hf
  obtain ⟨X, hX, rfl⟩ := List.mem_map.1 hx0
  obtain ⟨j, hj⟩ := List.getElem?_of_mem hX
  subst hxo
  have hat := h.offs.atI hj rfl
  refine ⟨j, X, hj, rfl, hxu, hxn, hx0, fun cap => ?_⟩
  unfold takeM cutAt
  rw [hf]
  simp only [hat, hj]
end Go.Proofs.Ytenbpbnffnodhaa

/- The reference's heap: which block is found. -/
namespace Go.Own
open Go Go.RowKit
/-- What is found from the k-th of list c on. -/
def foundF (bs : List Blk) (ls : Ls) (n c k : Nat) : Option Nat := match ((ls c).drop k).find? (fun o => decide (n ≤ sizeAt bs o)) with
  | some o => some o
  | none => findIn bs ls n (21 - c) (c + 1)
theorem foundF_first (bs : List Blk) (ls : Ls) (n : Nat) {c : Nat} (hc : c < 22) : findIn bs ls n (22 - c) c = foundF bs ls n c 0 := by
  rw [show 22 - c = (21 - c) + 1 by omega]
  rfl
theorem foundF_hit {bs : List Blk} {ls : Ls} {n c k : Nat} (hk : k < (ls c).length) (h : n ≤ sizeAt bs (ls c)[k]) : foundF bs ls n c k = some (ls c)[k] := by
  unfold foundF
  rw [List.drop_eq_getElem_cons hk, List.find?_cons, decide_eq_true h]
theorem foundF_miss {bs : List Blk} {ls : Ls} {n c k : Nat} (hk : k < (ls c).length) (h : ¬ n ≤ sizeAt bs (ls c)[k]) : foundF bs ls n c k = foundF bs ls n c (k + 1) := by
  unfold foundF
  rw [List.drop_eq_getElem_cons hk, List.find?_cons, decide_eq_false h]
theorem foundF_end {bs : List Blk} {ls : Ls} {n c : Nat} : foundF bs ls n c (ls c).length = findIn bs ls n (21 - c) (c + 1) := by
  unfold foundF
  rw [List.drop_length]; rfl
end Go.Own
namespace Go.Proofs.Ytenbpbnffnodhaa
open Go Go.RowKit Go.Own
set_option linter.unusedVariables false
set_option maxRecDepth 100000
section
variable {B : Nat} {w0 w : World} {l : List Ob} {q : Nat} {cap : Int} {vb vd vl : Value} {ss : List Sv} {m : List Bd} {ls : Ls} {b : List UInt8}
theorem tile_count {b : List UInt8} {e : Nat} : ∀ {L : List Blk} {o : Nat}, TileTo b e o L → o + 32 * L.length ≤ e
  | [], o, h => by have h : o = e := h; simp only [List.length_nil]; omega
  | x :: r, o, h => by have h1 := tile_count h.2; have h2 := (isSize_iff _).1 (blkAt_isSize h.1); simp only [List.length_cons]; omega
theorem right_count' (hR : Right b (bsOf m) ls) : m.length ≤ 600 := by
  have h1 := tile_count hR.tile
  have h2 := hR.max
  unfold bsOf at h1
  rw [List.length_map] at h1
  omega
/-- Of a block in a list: where it stands among the blocks. -/
theorem listed (hR : Right b (bsOf m) ls) {c k : Nat} (hc : c < 22) (hk : k < (ls c).length) : ∃ j X, m[j]? = some X ∧ X.b.off = (ls c)[k] ∧ sizeAt (bsOf m) (ls c)[k] = X.b.size ∧ atI m (ls c)[k] = some j := by
  obtain ⟨x, hx, ho, hu, _⟩ := hR.lists.mem c hc (ls c)[k] (List.getElem_mem hk)
  obtain ⟨X, hX, rfl⟩ := List.mem_map.1 hx
  obtain ⟨j, hj⟩ := List.getElem?_of_mem hX
  exact ⟨j, X, hj, ho, by rw [← ho]; exact sizeAt_mem hR.good hx, hR.offs.atI hj ho⟩
set_option maxHeartbeats 8000000 in
theorem rh_Find (h : St B w0 w (HpL q cap vb vd vl ss m ls l)) (hs : ss.length = 22) (hR : Right b (bsOf m) ls) (n : Nat) (hn : isSize (n : Int) = true) :
    Calls Try.prog 232 #[hpP q, .int .i64 n] w fun e w' => e = .returned (.int .i64 (ixV ((findL (bsOf m) ls n).bind (atI m)))) ∧ w = w' := by
  have hsz := (isSize_iff _).1 hn
  have hm := right_count' hR
  have kc0 := ref_Class w (n : Int) (by omega) (by omega)
  have hcs := clsN_of hn
  rw [hcs.2] at kc0
  have hC22 := hcs.1
  obtain ⟨R, hRR⟩ : ∃ R, findL (bsOf m) ls n = R := ⟨_, rfl⟩
  have hF : findIn (bsOf m) ls n (22 - clsN n) (clsN n) = R := hRR
  rw [hRR]
  generalize clsN n = C at *
  have hat := fun o : Int => rh_At h (by omega : m.length ≤ 2000) o
  obtain ⟨gl, cl, _, _, rfl, hcl1, hcl2, _, _⟩ := hp_ls h hs 0 (by decide)
  have hmx : ∀ c, c < 22 → w.cell? ⟨gl, c, none⟩ = some (.slice (sv ss c).a (ls c).length (sv ss c).c) ∧ Sl w (sv ss c).a (ls c).length (sv ss c).c 1 (ints (ls c)) := fun c hc => hp_lst h (k := 3) rfl hs c hc
  obtain ⟨ab, cb, rfl, hcap, hroom, hbl⟩ := hp_bl h
  obtain ⟨c0, c1, c2, c3⟩ := hp_cells h
  have KC := Lib.hid kc0; have HF := Lib.hid hF; have HAT := Lib.hid hat; have HMX := Lib.hid hmx; have HBL := Lib.hid hbl
  have HLS := Lib.hid (fun (c k : Nat) (hc : c < 22) (hk : k < (ls c).length) => listed hR hc hk)
  have HC := Lib.hid hC22
  clear kc0 hF hat hmx hbl h hs hR hn hRR hcs c0 c2
  go_enter Try.func232, Try.ntmps232
  go_wp2_with fail
  have kc := KC.out
  with_reducible refine kc.mono ?_
  clear kc
  rintro e w' ⟨rfl, rfl⟩
  go_wp2
  go_loopw [5] (fun vc wr => ∃ c : Nat, c ≤ 22 ∧ vc = .int .i64 c ∧ findIn (bsOf m) ls n (22 - c) c = R ∧ wr = w) (fun vc _ => 22 - (intOf vc).toNat)
  case atStart => exact ⟨C, by have := HC.out; omega, rfl, HF.out, rfl⟩
  case round =>
    obtain ⟨c, hc, rfl, hR, rfl⟩ := hrel
    by_cases hlt : c < 22
    · rw [foundF_first _ _ _ hlt] at hR
      obtain ⟨hlc, hsl⟩ := HMX.out c hlt
      have d2 : decide ((c : Int) < 22) = true := decide_eq_true (by omega)
      have hlcap := Sl.cap hsl; have hlrm := Sl.room hsl
      have HSL := Lib.hid hsl; have HR := Lib.hid hR; have HLT := Lib.hid hlt
      clear hsl hR HF KC HC
      generalize (sv ss c).a = ax at *
      generalize (sv ss c).c = cx at *
      go_wp2
      go_loopw [6] (fun vk wr2 => ∃ k : Nat, k ≤ (ls c).length ∧ vk = .int .i64 k ∧ foundF (bsOf m) ls n c k = R ∧ wr2 = wr) (fun vk _ => (ls c).length - (intOf vk).toNat)
      case atStart => exact ⟨0, Nat.zero_le _, rfl, HR.out, rfl⟩
      case round =>
        obtain ⟨k, hk, rfl, hR, rfl⟩ := hrel
        clear HR
        by_cases hkl : k < (ls c).length
        · obtain ⟨j, X, hj, ho, hz, ha⟩ := HLS.out c k HLT.out hkl
          obtain ⟨bb, bo, e6, hcell⟩ := Sl.cells HSL.out k (.int .i64 ((ls c)[k] : Nat)) (by simp [ints, hkl])
          subst e6
          have d3 : decide ((k : Int) < ((ls c).length : Int)) = true := decide_eq_true (by omega)
          have hjl : j < m.length := (List.getElem?_eq_some_iff.1 hj).1
          have hj2 : m[j] = X := (List.getElem?_eq_some_iff.1 hj).2
          obtain ⟨bb2, rfl, b0, b1, b2⟩ := HBL.out j hjl
          rw [hj2] at b1
          have ka := HAT.out ((ls c)[k] : Nat)
          have hhit := fun h : n ≤ X.b.size => (foundF_hit (bs := bsOf m) (ls := ls) hkl (by rw [hz]; exact h)).symm.trans hR
          have hmiss := fun h : ¬ n ≤ X.b.size => (foundF_miss (bs := bsOf m) (ls := ls) hkl (by rw [hz]; exact h)).symm.trans hR
          have hatz : atZ m ((ls c)[k] : Nat) = some j := by unfold atZ; rw [if_pos (by omega), Int.toNat_natCast]; exact ha
          rw [hatz] at ka
          have KA := Lib.hid (show Calls Try.prog 209 #[hpP q, .int .i64 ((ls c)[k] : Nat)] wr fun e w' => e = .returned (.int .i64 (j : Int)) ∧ wr = w' from ka)
          have HHIT := Lib.hid hhit; have HMISS := Lib.hid hmiss; have HA := Lib.hid ha
          have hcell : wr.cell? ⟨bb, bo + k, none⟩ = some (.int .i64 ((ls c)[k] : Nat)) := hcell
          clear ka hhit hmiss ha hatz hj hj2 ho hz hR b0 b2
          generalize (ls c)[k] = O at *
          by_cases hle : n ≤ X.b.size
          · have d4 : decide ((X.b.size : Int) ≥ (n : Int)) = true := decide_eq_true (by omega)
            have d4' : decide ((n : Int) ≤ (X.b.size : Int)) = true := decide_eq_true (by omega)
            have d4'' : decide (n ≤ X.b.size) = true := decide_eq_true hle
            have HV := Lib.hid (HHIT.out hle)
            clear hle
            go_wp2_with fail
            have kc := KA.out
            with_reducible refine kc.mono ?_
            clear kc
            rintro e w6 ⟨rfl, rfl⟩
            go_wp2
            go_ret
            refine ⟨?_, rfl⟩
            rw [← HV.out, Option.bind_some, HA.out]
            rfl
          · have d4 : decide ((X.b.size : Int) ≥ (n : Int)) = false := decide_eq_false (by omega)
            have d4' : decide ((n : Int) ≤ (X.b.size : Int)) = false := decide_eq_false (by omega)
            have d4'' : decide (n ≤ X.b.size) = false := decide_eq_false hle
            have HV := Lib.hid (HMISS.out hle)
            clear hle
            go_wp2_with fail
            have kc := KA.out
            with_reducible refine kc.mono ?_
            clear kc
            rintro e w6 ⟨rfl, rfl⟩
            go_wp2
            exact ⟨⟨k + 1, hkl, by go_num, HV.out, trivial⟩, by simp [intOf]; omega⟩
        · obtain rfl : k = (ls c).length := by omega
          rw [foundF_end] at hR
          have HR := Lib.hid (show findIn (bsOf m) ls n (22 - (c + 1)) (c + 1) = R from by rw [show 22 - (c + 1) = 21 - c by omega]; exact hR)
          have d3 : decide (((ls c).length : Int) < ((ls c).length : Int)) = false := decide_eq_false (by omega)
          clear hR
          go_wp2
          exact ⟨⟨c + 1, HLT.out, by go_num, HR.out, trivial⟩, by simp [intOf]; omega⟩
    · obtain rfl : c = 22 := by omega
      have HR := Lib.hid (show none = R from hR)
      clear hR HF KC
      go_wp2
      go_ret
      refine ⟨?_, rfl⟩
      rw [← HR.out]
      rfl
end
end Go.Proofs.Ytenbpbnffnodhaa

/- The reference's heap: a block is taken. -/
namespace Go.Proofs.Ytenbpbnffnodhaa
open Go Go.RowKit Go.Own
set_option linter.unusedVariables false
set_option maxRecDepth 100000
section
variable {B : Nat} {w0 w : World} {l : List Ob} {q : Nat} {cap : Int} {vb vd vl : Value} {ss : List Sv} {m : List Bd} {ls : Ls} {b : List UInt8}
/-- What Take tells, and what has become of the heap. -/
def TkR (B : Nat) (w0 : World) (q : Nat) (cap : Int) (vl : Value) (m : List Bd) (ls : Ls) (r : Option (Nat × List Bd × Ls)) (l : List Ob) (e : Ending) (w' : World) : Prop := match r with
  | some (o, r) => e = .returned (.tuple #[.int .i64 (o : Nat), .int .i64 0]) ∧ HpR B w0 q cap vl r l w'
  | none => e = .returned (.tuple #[.int .i64 0, .int .i64 5]) ∧ HpR B w0 q cap vl (m, ls) l w'
theorem hp_mid {mp mr : List Bd} {X : Bd} : St B w0 w (HpL q cap vb vd vl ss (mp ++ X :: mr) ls l) ↔ St B w0 w (HpX q cap vb vd vl ss (bsOf mp ++ X.b :: bsOf mr) (mp.map (·.d) ++ X.d :: mr.map (·.d)) ls l) := by
  show St B w0 w (HpX q cap vb vd vl ss (bsOf (mp ++ X :: mr)) ((mp ++ X :: mr).map (·.d)) ls l) ↔ _
  rw [bsOf_append, bsOf_cons, List.map_append, List.map_cons]
set_option maxHeartbeats 8000000 in
theorem rh_Take_found (h : St B w0 w (HpL q cap vb vd vl ss m ls l)) (hs : ss.length = 22) (hR : Right b (bsOf m) ls) (hF : Fine m) (n : Nat) (hn : isSize (n : Int) = true) (cp : Nat) {a : Nat} (hf : findL (bsOf m) ls n = some a) :
    Calls Try.prog 201 #[hpP q, .int .i64 n] w (TkR B w0 q cap vl m ls (takeM m cp n ls) l) := by
  have hm := right_count' hR
  have kf := rh_Find h hs hR n hn
  obtain ⟨j, X, hj, hXo, hXu, hXn, hXm, htk⟩ := take_found hR hn hf
  subst hXo
  rw [htk cp]
  have hat : atI m X.b.off = some j := hR.offs.atI hj rfl
  rw [hf, Option.bind_some, hat] at kf
  have KF := Lib.hid (show Calls Try.prog 232 #[hpP q, .int .i64 n] w fun e w' => e = .returned (.int .i64 (j : Int)) ∧ w = w' from kf)
  obtain ⟨mp, mr, hsp, hmp, hmr, hjl⟩ : ∃ mp mr, m = mp ++ X :: mr ∧ m.take j = mp ∧ m.drop (j + 1) = mr ∧ mp.length = j := ⟨_, _, split_at hj, rfl, rfl, by rw [List.length_take]; have := (List.getElem?_eq_some_iff.1 hj).1; omega⟩
  have hfine := fine_parts hF hj
  rw [hmp, hmr] at hfine ⊢
  have hXz := blkAt_isSize (hR.good.mem hXm).2.1
  have hll := hR.lists.short hR.good hR.max (clsN_of hXz).1
  clear hmp hmr kf hat htk hf
  subst hsp
  have h2 := hp_mid.1 h
  have hR2 := hR
  rw [bsOf_append, bsOf_cons] at hR2
  obtain ⟨b1, _, _, _, hh, _⟩ := hR2.take hXu
  have hbm : (bsOf mp).length = j := by rw [← hjl]; exact List.length_map ..
  have hnf : NilFree (mp ++ mr) := nf_app.2 ⟨hfine.1.2, hfine.2.1.2⟩
  have hdx := hfine.2.2
  have hcnt : mp.length + mr.length ≤ 900 := by simp only [List.length_append, List.length_cons] at hm; omega
  obtain ⟨bb, cb, bd, cd, rfl, rfl⟩ := rm_some h2
  obtain ⟨N, hN⟩ : ∃ N, N = (bsOf mp ++ X.b :: bsOf mr).length := ⟨_, rfl⟩
  obtain ⟨M, hM⟩ : ∃ M, M = (mp.map (·.d) ++ X.d :: mr.map (·.d)).length := ⟨_, rfl⟩
  rw [← hN, ← hM] at h2
  have lt1 : j < N := by rw [hN, List.length_append, List.length_cons, hbm]; omega
  have hN2 : (bsOf mp ++ X.b :: bsOf mr).length ≤ 2000 := by rw [List.length_append, List.length_cons, hbm]; unfold bsOf; rw [List.length_map]; omega
  have d1 : decide ((j : Int) ≥ 0) = true := decide_eq_true (by omega)
  have d2 : decide ((0 : Int) ≤ (j : Int)) = true := decide_eq_true (by omega)
  have T0 := Lib.hid h2; have HS := Lib.hid hs; have HH := Lib.hid hh; have HBM := Lib.hid hbm; have HNF := Lib.hid hnf; have HDX := Lib.hid hdx; have HCNT := Lib.hid hcnt; have HXN := Lib.hid hXn; have HXZ := Lib.hid hXz; have HLL := Lib.hid hll; have HN2 := Lib.hid hN2; have HN := Lib.hid hn; have HJ := Lib.hid hjl
  clear h h2 hs hh hbm hnf hdx hcnt hXn hXz hll hN hM hN2 hn hXu hXm hj hfine hR hR2 hF hm hjl
  go_enter Try.func201, Try.ntmps201
  go_wp2_with fail
  have kc := KF.out
  with_reducible refine kc.mono ?_
  clear kc
  rintro e w' ⟨rfl, rfl⟩
  go_wp2_with fail
  have kc := rm_out T0.out HS.out HBM.out HXZ.out (by have := HLL.out; omega) HN2.out (j : Int) rfl
  with_reducible refine kc.mono ?_
  clear kc
  rintro e w1 ⟨rfl, ss1', hs1, t1⟩
  have HS1 := Lib.hid hs1
  have T1 := Lib.hid t1
  clear hs1 t1
  have c1 := (hp_cells T1.out).2.1
  have b0 := (rm_blk T1.out HBM.out).1
  go_wp2_with fail
  have kc := rh_cut (o := X.b.off) (s := X.b.size) (u := X.b.used) T1.out HS1.out HH.out HN.out HXN.out HNF.out HDX.out (by have := HCNT.out; omega) (j : Int) (n : Int) (by rw [HJ.out]) rfl
  with_reducible refine kc.mono ?_
  clear kc
  rintro e w2 ⟨rfl, t2⟩
  have T2 := Lib.hid t2
  clear t2
  go_wp2
  go_ret2
  exact ⟨rfl, T2.out⟩
set_option maxHeartbeats 8000000 in
theorem rh_Take_none (h : St B w0 w (HpL q cap vb vd vl ss m ls l)) (hs : ss.length = 22) (hR : Right b (bsOf m) ls) (hF : Fine m) (n : Nat) (hn : isSize (n : Int) = true) (cp : Nat) (hcap : cap = cp) (hcp : cp ≤ 16384) (hf : findL (bsOf m) ls n = none) :
    Calls Try.prog 201 #[hpP q, .int .i64 n] w (TkR B w0 q cap vl m ls (takeM m cp n ls) l) := by
  have hm := right_count' hR
  have hEb := hR.endOf
  have hmax := hR.max
  have hsz := (isSize_iff _).1 hn
  have kf := rh_Find h hs hR n hn
  rw [hf] at kf
  have KF := Lib.hid (show Calls Try.prog 232 #[hpP q, .int .i64 n] w fun e w' => e = .returned (.int .i64 (-1)) ∧ w = w' from kf)
  have ht : takeM m cp n ls = takeTail m cp n ls := by unfold takeM; rw [hf]
  rw [ht]
  obtain ⟨E, hE⟩ : ∃ E, E = endOf 184 (bsOf m) := ⟨_, rfl⟩
  have hEle : E ≤ 16384 := by omega
  have kl : ∀ w' vb, St B w0 w' (HpL q cap vb vd vl ss m ls l) → Calls Try.prog 206 #[hpP q] w' fun e w'' => e = .returned (.int .i64 (E : Nat)) ∧ w' = w'' := fun w' vb h' => by rw [hE]; exact rh_Len h' (by omega)
  obtain ⟨ab, cb, rfl, hcc, hrm, hbl⟩ := hp_bl h
  obtain ⟨M, hM⟩ : ∃ M, M = m.length := ⟨_, rfl⟩
  rw [← hM] at h hcc
  have c1 := (hp_cells h).2.1
  have u1 : IntKind.i64.wrap ((E : Int) + (n : Int)) = (E : Int) + (n : Int) := IntWalk.i64_in _ (by omega)
  have u4 : IntKind.i64.wrap ((E : Int) + (n : Int) - 0) = (E : Int) + (n : Int) := by rw [IntWalk.i64_in _ (by omega)]; omega
  have hone : ∀ v ∈ m.map (·.d) ++ [], v.oneCell' = true := fun v hv => by
    rw [List.append_nil] at hv
    obtain ⟨x, hx, rfl⟩ := List.mem_map.1 hv
    exact (hF.2 x hx).1
  have T0 := Lib.hid h; have HS := Lib.hid hs; have HN := Lib.hid hn; have HE := Lib.hid hE; have HM := Lib.hid hM; have KL := Lib.hid kl; have HCAP := Lib.hid hcap; have HMM := Lib.hid hm; have HONE := Lib.hid hone; have HRI := Lib.hid hR
  clear kf ht h hs hn kl hcap hm hf hEb hmax hone hE hM
  cases hl : m.getLast? with
  | none =>
    obtain rfl : m = [] := by simpa using hl
    have e1 : IntKind.i64.wrap ((M : Int) - 1) = -1 := by have := HM.out; simp only [List.length_nil] at this; subst this; decide
    have d1 : decide ((-1 : Int) ≥ 0) = false := by decide
    have htt : takeTail [] cp n ls = tailM [] cp n ls := rfl
    rw [htt]
    clear htt hl hbl
    by_cases hroom : E + n ≤ cp
    · have d8 : decide (cap < (E : Int) + (n : Int)) = false := decide_eq_false (by have := HCAP.out; omega)
      have d8g : decide ((E : Int) + (n : Int) > cap) = false := d8
      have htm : tailM ([] : List Bd) cp n ls = some (E, ([] : List Bd) ++ [⟨⟨E, n, true⟩, none0⟩], ls) := by unfold tailM; rw [← HE.out, if_pos hroom]
      rw [htm]
      clear htm hroom hcp hsz
      go_enter Try.func201, Try.ntmps201
      go_wp2_with fail
      have kc := KF.out
      with_reducible refine kc.mono ?_
      clear kc
      rintro e w' ⟨rfl, rfl⟩
      go_wp2_with fail
      refine flows_begin (S := fun w' => St B w0 w' (HpL q cap (.slice ab M cb) vd vl ss ([] : List Bd) ls l)) hmixed 11 rfl (by repeat (first | with_reducible refine ps_then ?_ | with_reducible refine ps_block ?_ | with_reducible exact ps_body | refine ps_then ?_ | refine ps_block ?_ | exact ps_body)) T0.out.drew (fun hps => ?_)
      simp only [List.replicate]
      refine flows_take 0 (v := ?_) (a' := ?_) hps rfl (by kernel_rfl) rfl ?_ ?_ ?_
      rotate_left 2
      · intro w' hk; go_simp; try rfl
      · simp only [Act.put, List.setIfInBounds_toArray, List.set_cons_succ, List.set_cons_zero]; try rfl
      refine flows_take 2 (v := ?_) (a' := ?_) hps rfl (by kernel_rfl) rfl ?_ ?_ ?_
      rotate_left 2
      · intro w' hk; go_simp; try rfl
      · simp only [Act.put, List.setIfInBounds_toArray, List.set_cons_succ, List.set_cons_zero]; try rfl
      refine flows_take 4 (v := ?_) (a' := ?_) hps rfl (by kernel_rfl) rfl ?_ ?_ ?_
      rotate_left 2
      · intro w' hk; go_simp; try rfl
      · simp only [Act.put, List.setIfInBounds_toArray, List.set_cons_succ, List.set_cons_zero]; try rfl
      refine flows_take 6 (v := ?_) (a' := ?_) hps rfl (by kernel_rfl) rfl ?_ ?_ ?_
      rotate_left 2
      · intro w' hk; go_simp; try rfl
      · simp only [Act.put, List.setIfInBounds_toArray, List.set_cons_succ, List.set_cons_zero]; try rfl
      refine flows_take 7 (v := ?_) (a' := ?_) hps rfl (by kernel_rfl) rfl ?_ ?_ ?_
      rotate_left 2
      · intro w' hk; go_simp; try rfl
      · simp only [Act.put, List.setIfInBounds_toArray, List.set_cons_succ, List.set_cons_zero]; try rfl
      refine flows_take 8 (v := ?_) (a' := ?_) hps rfl (by kernel_rfl) rfl ?_ ?_ ?_
      rotate_left 2
      · intro w' hk; go_simp; try rfl
      · simp only [Act.put, List.setIfInBounds_toArray, List.set_cons_succ, List.set_cons_zero]; try rfl
      refine flows_take 9 (v := ?_) (a' := ?_) hps rfl (by kernel_rfl) rfl ?_ ?_ ?_
      rotate_left 2
      · intro w' hk; have c9 := (hp_cells hk).1; go_simp; try rfl
      · simp only [Act.put, List.setIfInBounds_toArray, List.set_cons_succ, List.set_cons_zero]; try rfl
      refine flows_one 1 hps rfl (by kernel_rfl) rfl (wp_next (fun K hK => ?_))
      go_simp
      with_reducible refine (KL.out _ _ T0.out.drew).mono ?_
      rintro e w' ⟨rfl, rfl⟩
      have kp := T0.out.drew
      refine hK _ _ ⟨kp, ?_⟩
      clear kp hK
      refine flows_take 3 (v := ?_) (a' := ?_) hps rfl (by kernel_rfl) rfl ?_ ?_ ?_
      rotate_left 2
      · intro w' hk; go_simp; try rfl
      · simp only [Act.put, List.setIfInBounds_toArray, List.set_cons_succ, List.set_cons_zero]; try rfl
      refine flows_take 5 (v := ?_) (a' := ?_) hps rfl (by kernel_rfl) rfl ?_ ?_ ?_
      rotate_left 2
      · intro w' hk; go_simp; try rfl
      · simp only [Act.put, List.setIfInBounds_toArray, List.set_cons_succ, List.set_cons_zero]; try rfl
      refine flows_take 10 (v := ?_) (a' := ?_) hps rfl (by kernel_rfl) rfl ?_ ?_ ?_
      rotate_left 2
      · intro w' hk; go_simp; try rfl
      · simp only [Act.put, List.setIfInBounds_toArray, List.set_cons_succ, List.set_cons_zero]; try rfl
      refine flows_done hps (by kernel_rfl) ?_
      have T1 := Lib.hid T0.out.drew
      generalize w.drew = w1 at T1 ⊢
      clear T0 c1
      have c1 := (hp_cells T1.out).2.1
      go_wp2_with fail
      have kc := KL.out _ _ T1.out
      with_reducible refine kc.mono ?_
      clear kc
      rintro e w2 ⟨rfl, rfl⟩
      go_wp2_with fail
      have HB1 := Lib.hid (show (bsOf ([] : List Bd)).length = M from by rw [HM.out]; exact List.length_map ..)
      have HB2 := Lib.hid (show ((([] : List Bd)).map (·.d)).length = M from by rw [HM.out]; exact List.length_map ..)
      with_reducible refine (rm_put (P := bsOf ([] : List Bd)) (R := []) (C := (([] : List Bd)).map (·.d)) (E := []) (x := ⟨E, n, true⟩) (n := M) (by rw [List.append_nil, List.append_nil]; exact T1.out) HB1.out HB2.out rfl HONE.out (by rw [List.append_nil, HB1.out]; have := HMM.out; have := HM.out; omega) (M : Int) (E : Int) (n : Int) rfl rfl rfl).mono ?_
      rintro e w3 ⟨rfl, vb3, vd3, t3⟩
      have T3 := Lib.hid t3
      clear t3
      go_wp2
      go_ret2
      refine ⟨rfl, vb3, vd3, ss, HS.out, ?_⟩
      show St B w0 w3 (HpX q cap vb3 vd3 vl ss (bsOf (([] : List Bd) ++ [⟨⟨E, n, true⟩, none0⟩])) ((([] : List Bd) ++ [(⟨⟨E, n, true⟩, none0⟩ : Bd)]).map (·.d)) ls l)
      rw [bsOf_append, List.map_append]
      exact T3.out
    · have d8 : decide (cap < (E : Int) + (n : Int)) = true := decide_eq_true (by have := HCAP.out; omega)
      have d8g : decide ((E : Int) + (n : Int) > cap) = true := d8
      have htm : tailM ([] : List Bd) cp n ls = none := by unfold tailM; rw [← HE.out, if_neg hroom]
      rw [htm]
      clear htm hroom hcp hsz
      go_enter Try.func201, Try.ntmps201
      go_wp2_with fail
      have kc := KF.out
      with_reducible refine kc.mono ?_
      clear kc
      rintro e w' ⟨rfl, rfl⟩
      go_wp2_with fail
      refine flows_begin (S := fun w' => St B w0 w' (HpL q cap (.slice ab M cb) vd vl ss ([] : List Bd) ls l)) hmixed 11 rfl (by repeat (first | with_reducible refine ps_then ?_ | with_reducible refine ps_block ?_ | with_reducible exact ps_body | refine ps_then ?_ | refine ps_block ?_ | exact ps_body)) T0.out.drew (fun hps => ?_)
      simp only [List.replicate]
      refine flows_take 0 (v := ?_) (a' := ?_) hps rfl (by kernel_rfl) rfl ?_ ?_ ?_
      rotate_left 2
      · intro w' hk; go_simp; try rfl
      · simp only [Act.put, List.setIfInBounds_toArray, List.set_cons_succ, List.set_cons_zero]; try rfl
      refine flows_take 2 (v := ?_) (a' := ?_) hps rfl (by kernel_rfl) rfl ?_ ?_ ?_
      rotate_left 2
      · intro w' hk; go_simp; try rfl
      · simp only [Act.put, List.setIfInBounds_toArray, List.set_cons_succ, List.set_cons_zero]; try rfl
      refine flows_take 4 (v := ?_) (a' := ?_) hps rfl (by kernel_rfl) rfl ?_ ?_ ?_
      rotate_left 2
      · intro w' hk; go_simp; try rfl
      · simp only [Act.put, List.setIfInBounds_toArray, List.set_cons_succ, List.set_cons_zero]; try rfl
      refine flows_take 6 (v := ?_) (a' := ?_) hps rfl (by kernel_rfl) rfl ?_ ?_ ?_
      rotate_left 2
      · intro w' hk; go_simp; try rfl
      · simp only [Act.put, List.setIfInBounds_toArray, List.set_cons_succ, List.set_cons_zero]; try rfl
      refine flows_take 7 (v := ?_) (a' := ?_) hps rfl (by kernel_rfl) rfl ?_ ?_ ?_
      rotate_left 2
      · intro w' hk; go_simp; try rfl
      · simp only [Act.put, List.setIfInBounds_toArray, List.set_cons_succ, List.set_cons_zero]; try rfl
      refine flows_take 8 (v := ?_) (a' := ?_) hps rfl (by kernel_rfl) rfl ?_ ?_ ?_
      rotate_left 2
      · intro w' hk; go_simp; try rfl
      · simp only [Act.put, List.setIfInBounds_toArray, List.set_cons_succ, List.set_cons_zero]; try rfl
      refine flows_take 9 (v := ?_) (a' := ?_) hps rfl (by kernel_rfl) rfl ?_ ?_ ?_
      rotate_left 2
      · intro w' hk; have c9 := (hp_cells hk).1; go_simp; try rfl
      · simp only [Act.put, List.setIfInBounds_toArray, List.set_cons_succ, List.set_cons_zero]; try rfl
      refine flows_one 1 hps rfl (by kernel_rfl) rfl (wp_next (fun K hK => ?_))
      go_simp
      with_reducible refine (KL.out _ _ T0.out.drew).mono ?_
      rintro e w' ⟨rfl, rfl⟩
      have kp := T0.out.drew
      refine hK _ _ ⟨kp, ?_⟩
      clear kp hK
      refine flows_take 3 (v := ?_) (a' := ?_) hps rfl (by kernel_rfl) rfl ?_ ?_ ?_
      rotate_left 2
      · intro w' hk; go_simp; try rfl
      · simp only [Act.put, List.setIfInBounds_toArray, List.set_cons_succ, List.set_cons_zero]; try rfl
      refine flows_take 5 (v := ?_) (a' := ?_) hps rfl (by kernel_rfl) rfl ?_ ?_ ?_
      rotate_left 2
      · intro w' hk; go_simp; try rfl
      · simp only [Act.put, List.setIfInBounds_toArray, List.set_cons_succ, List.set_cons_zero]; try rfl
      refine flows_take 10 (v := ?_) (a' := ?_) hps rfl (by kernel_rfl) rfl ?_ ?_ ?_
      rotate_left 2
      · intro w' hk; go_simp; try rfl
      · simp only [Act.put, List.setIfInBounds_toArray, List.set_cons_succ, List.set_cons_zero]; try rfl
      refine flows_done hps (by kernel_rfl) ?_
      have T1 := Lib.hid T0.out.drew
      generalize w.drew = w1 at T1 ⊢
      clear T0 c1
      have c1 := (hp_cells T1.out).2.1
      go_wp2
      go_ret2
      exact ⟨rfl, _, _, ss, HS.out, T1.out⟩
  | some x =>
    obtain ⟨p, rfl⟩ : ∃ p, m = p ++ [x] := ⟨_, getLast_split hl⟩
    obtain ⟨k, hk⟩ : ∃ k, k = p.length := ⟨_, rfl⟩
    have hMk : M = k + 1 := by have := HM.out; rw [List.length_append, List.length_singleton] at this; omega
    have e1 : IntKind.i64.wrap ((M : Int) - 1) = (k : Int) := by have := HMM.out; have := HM.out; rw [IntWalk.i64_in _ (by omega)]; omega
    have d1 : decide ((k : Int) ≥ 0) = true := decide_eq_true (by omega)
    have d1' : decide ((0 : Int) ≤ (k : Int)) = true := decide_eq_true (by omega)
    have lt1 : k < M := by omega
    obtain ⟨bb, rfl, b0, b1, b2⟩ := hbl k (by rw [← HM.out]; omega)
    have hg : (p ++ [x])[k]'(by rw [← HM.out]; omega) = x := get_mid hk.symm _
    rw [hg] at b0 b1 b2
    clear hg hbl hMk
    cases hu : x.b.used with
    | true =>
      rw [hu] at b2
      have htt : takeTail (p ++ [x]) cp n ls = tailM (p ++ [x]) cp n ls := by unfold takeTail; rw [hl]; simp only [hu, if_true]
      rw [htt]
      clear htt hl hu b0 b1 hk
      by_cases hroom : E + n ≤ cp
      · have d8 : decide (cap < (E : Int) + (n : Int)) = false := decide_eq_false (by have := HCAP.out; omega)
        have d8g : decide ((E : Int) + (n : Int) > cap) = false := d8
        have htm : tailM (p ++ [x]) cp n ls = some (E, (p ++ [x]) ++ [⟨⟨E, n, true⟩, none0⟩], ls) := by unfold tailM; rw [← HE.out, if_pos hroom]
        rw [htm]
        clear htm hroom hcp hsz
        go_enter Try.func201, Try.ntmps201
        go_wp2_with fail
        have kc := KF.out
        with_reducible refine kc.mono ?_
        clear kc
        rintro e w' ⟨rfl, rfl⟩
        go_wp2_with fail
        refine flows_begin (S := fun w' => St B w0 w' (HpL q cap (.slice (some ⟨bb, 0, none⟩) M cb) vd vl ss (p ++ [x]) ls l)) hmixed 11 rfl (by repeat (first | with_reducible refine ps_then ?_ | with_reducible refine ps_block ?_ | with_reducible exact ps_body | refine ps_then ?_ | refine ps_block ?_ | exact ps_body)) T0.out.drew (fun hps => ?_)
        simp only [List.replicate]
        refine flows_take 0 (v := ?_) (a' := ?_) hps rfl (by kernel_rfl) rfl ?_ ?_ ?_
        rotate_left 2
        · intro w' hk; go_simp; try rfl
        · simp only [Act.put, List.setIfInBounds_toArray, List.set_cons_succ, List.set_cons_zero]; try rfl
        refine flows_take 2 (v := ?_) (a' := ?_) hps rfl (by kernel_rfl) rfl ?_ ?_ ?_
        rotate_left 2
        · intro w' hk; go_simp; try rfl
        · simp only [Act.put, List.setIfInBounds_toArray, List.set_cons_succ, List.set_cons_zero]; try rfl
        refine flows_take 4 (v := ?_) (a' := ?_) hps rfl (by kernel_rfl) rfl ?_ ?_ ?_
        rotate_left 2
        · intro w' hk; go_simp; try rfl
        · simp only [Act.put, List.setIfInBounds_toArray, List.set_cons_succ, List.set_cons_zero]; try rfl
        refine flows_take 6 (v := ?_) (a' := ?_) hps rfl (by kernel_rfl) rfl ?_ ?_ ?_
        rotate_left 2
        · intro w' hk; go_simp; try rfl
        · simp only [Act.put, List.setIfInBounds_toArray, List.set_cons_succ, List.set_cons_zero]; try rfl
        refine flows_take 7 (v := ?_) (a' := ?_) hps rfl (by kernel_rfl) rfl ?_ ?_ ?_
        rotate_left 2
        · intro w' hk; go_simp; try rfl
        · simp only [Act.put, List.setIfInBounds_toArray, List.set_cons_succ, List.set_cons_zero]; try rfl
        refine flows_take 8 (v := ?_) (a' := ?_) hps rfl (by kernel_rfl) rfl ?_ ?_ ?_
        rotate_left 2
        · intro w' hk; go_simp; try rfl
        · simp only [Act.put, List.setIfInBounds_toArray, List.set_cons_succ, List.set_cons_zero]; try rfl
        refine flows_take 9 (v := ?_) (a' := ?_) hps rfl (by kernel_rfl) rfl ?_ ?_ ?_
        rotate_left 2
        · intro w' hk; have c9 := (hp_cells hk).1; go_simp; try rfl
        · simp only [Act.put, List.setIfInBounds_toArray, List.set_cons_succ, List.set_cons_zero]; try rfl
        refine flows_one 1 hps rfl (by kernel_rfl) rfl (wp_next (fun K hK => ?_))
        go_simp
        with_reducible refine (KL.out _ _ T0.out.drew).mono ?_
        rintro e w' ⟨rfl, rfl⟩
        have kp := T0.out.drew
        refine hK _ _ ⟨kp, ?_⟩
        clear kp hK
        refine flows_take 3 (v := ?_) (a' := ?_) hps rfl (by kernel_rfl) rfl ?_ ?_ ?_
        rotate_left 2
        · intro w' hk; go_simp; try rfl
        · simp only [Act.put, List.setIfInBounds_toArray, List.set_cons_succ, List.set_cons_zero]; try rfl
        refine flows_take 5 (v := ?_) (a' := ?_) hps rfl (by kernel_rfl) rfl ?_ ?_ ?_
        rotate_left 2
        · intro w' hk; go_simp; try rfl
        · simp only [Act.put, List.setIfInBounds_toArray, List.set_cons_succ, List.set_cons_zero]; try rfl
        refine flows_take 10 (v := ?_) (a' := ?_) hps rfl (by kernel_rfl) rfl ?_ ?_ ?_
        rotate_left 2
        · intro w' hk; go_simp; try rfl
        · simp only [Act.put, List.setIfInBounds_toArray, List.set_cons_succ, List.set_cons_zero]; try rfl
        refine flows_done hps (by kernel_rfl) ?_
        have T1 := Lib.hid T0.out.drew
        generalize w.drew = w1 at T1 ⊢
        clear T0 c1
        have c1 := (hp_cells T1.out).2.1
        go_wp2_with fail
        have kc := KL.out _ _ T1.out
        with_reducible refine kc.mono ?_
        clear kc
        rintro e w2 ⟨rfl, rfl⟩
        go_wp2_with fail
        have HB1 := Lib.hid (show (bsOf (p ++ [x])).length = M from by rw [HM.out]; exact List.length_map ..)
        have HB2 := Lib.hid (show (((p ++ [x])).map (·.d)).length = M from by rw [HM.out]; exact List.length_map ..)
        with_reducible refine (rm_put (P := bsOf (p ++ [x])) (R := []) (C := ((p ++ [x])).map (·.d)) (E := []) (x := ⟨E, n, true⟩) (n := M) (by rw [List.append_nil, List.append_nil]; exact T1.out) HB1.out HB2.out rfl HONE.out (by rw [List.append_nil, HB1.out]; have := HMM.out; have := HM.out; omega) (M : Int) (E : Int) (n : Int) rfl rfl rfl).mono ?_
        rintro e w3 ⟨rfl, vb3, vd3, t3⟩
        have T3 := Lib.hid t3
        clear t3
        go_wp2
        go_ret2
        refine ⟨rfl, vb3, vd3, ss, HS.out, ?_⟩
        show St B w0 w3 (HpX q cap vb3 vd3 vl ss (bsOf ((p ++ [x]) ++ [⟨⟨E, n, true⟩, none0⟩])) (((p ++ [x]) ++ [(⟨⟨E, n, true⟩, none0⟩ : Bd)]).map (·.d)) ls l)
        rw [bsOf_append, List.map_append]
        exact T3.out
      · have d8 : decide (cap < (E : Int) + (n : Int)) = true := decide_eq_true (by have := HCAP.out; omega)
        have d8g : decide ((E : Int) + (n : Int) > cap) = true := d8
        have htm : tailM (p ++ [x]) cp n ls = none := by unfold tailM; rw [← HE.out, if_neg hroom]
        rw [htm]
        clear htm hroom hcp hsz
        go_enter Try.func201, Try.ntmps201
        go_wp2_with fail
        have kc := KF.out
        with_reducible refine kc.mono ?_
        clear kc
        rintro e w' ⟨rfl, rfl⟩
        go_wp2_with fail
        refine flows_begin (S := fun w' => St B w0 w' (HpL q cap (.slice (some ⟨bb, 0, none⟩) M cb) vd vl ss (p ++ [x]) ls l)) hmixed 11 rfl (by repeat (first | with_reducible refine ps_then ?_ | with_reducible refine ps_block ?_ | with_reducible exact ps_body | refine ps_then ?_ | refine ps_block ?_ | exact ps_body)) T0.out.drew (fun hps => ?_)
        simp only [List.replicate]
        refine flows_take 0 (v := ?_) (a' := ?_) hps rfl (by kernel_rfl) rfl ?_ ?_ ?_
        rotate_left 2
        · intro w' hk; go_simp; try rfl
        · simp only [Act.put, List.setIfInBounds_toArray, List.set_cons_succ, List.set_cons_zero]; try rfl
        refine flows_take 2 (v := ?_) (a' := ?_) hps rfl (by kernel_rfl) rfl ?_ ?_ ?_
        rotate_left 2
        · intro w' hk; go_simp; try rfl
        · simp only [Act.put, List.setIfInBounds_toArray, List.set_cons_succ, List.set_cons_zero]; try rfl
        refine flows_take 4 (v := ?_) (a' := ?_) hps rfl (by kernel_rfl) rfl ?_ ?_ ?_
        rotate_left 2
        · intro w' hk; go_simp; try rfl
        · simp only [Act.put, List.setIfInBounds_toArray, List.set_cons_succ, List.set_cons_zero]; try rfl
        refine flows_take 6 (v := ?_) (a' := ?_) hps rfl (by kernel_rfl) rfl ?_ ?_ ?_
        rotate_left 2
        · intro w' hk; go_simp; try rfl
        · simp only [Act.put, List.setIfInBounds_toArray, List.set_cons_succ, List.set_cons_zero]; try rfl
        refine flows_take 7 (v := ?_) (a' := ?_) hps rfl (by kernel_rfl) rfl ?_ ?_ ?_
        rotate_left 2
        · intro w' hk; go_simp; try rfl
        · simp only [Act.put, List.setIfInBounds_toArray, List.set_cons_succ, List.set_cons_zero]; try rfl
        refine flows_take 8 (v := ?_) (a' := ?_) hps rfl (by kernel_rfl) rfl ?_ ?_ ?_
        rotate_left 2
        · intro w' hk; go_simp; try rfl
        · simp only [Act.put, List.setIfInBounds_toArray, List.set_cons_succ, List.set_cons_zero]; try rfl
        refine flows_take 9 (v := ?_) (a' := ?_) hps rfl (by kernel_rfl) rfl ?_ ?_ ?_
        rotate_left 2
        · intro w' hk; have c9 := (hp_cells hk).1; go_simp; try rfl
        · simp only [Act.put, List.setIfInBounds_toArray, List.set_cons_succ, List.set_cons_zero]; try rfl
        refine flows_one 1 hps rfl (by kernel_rfl) rfl (wp_next (fun K hK => ?_))
        go_simp
        with_reducible refine (KL.out _ _ T0.out.drew).mono ?_
        rintro e w' ⟨rfl, rfl⟩
        have kp := T0.out.drew
        refine hK _ _ ⟨kp, ?_⟩
        clear kp hK
        refine flows_take 3 (v := ?_) (a' := ?_) hps rfl (by kernel_rfl) rfl ?_ ?_ ?_
        rotate_left 2
        · intro w' hk; go_simp; try rfl
        · simp only [Act.put, List.setIfInBounds_toArray, List.set_cons_succ, List.set_cons_zero]; try rfl
        refine flows_take 5 (v := ?_) (a' := ?_) hps rfl (by kernel_rfl) rfl ?_ ?_ ?_
        rotate_left 2
        · intro w' hk; go_simp; try rfl
        · simp only [Act.put, List.setIfInBounds_toArray, List.set_cons_succ, List.set_cons_zero]; try rfl
        refine flows_take 10 (v := ?_) (a' := ?_) hps rfl (by kernel_rfl) rfl ?_ ?_ ?_
        rotate_left 2
        · intro w' hk; go_simp; try rfl
        · simp only [Act.put, List.setIfInBounds_toArray, List.set_cons_succ, List.set_cons_zero]; try rfl
        refine flows_done hps (by kernel_rfl) ?_
        have T1 := Lib.hid T0.out.drew
        generalize w.drew = w1 at T1 ⊢
        clear T0 c1
        have c1 := (hp_cells T1.out).2.1
        go_wp2
        go_ret2
        exact ⟨rfl, _, _, ss, HS.out, T1.out⟩
    | false =>
      rw [hu] at b2
      have HU := Lib.hid hu
      have hR3 := HRI.out
      rw [bsOf_append] at hR3
      have hxm : x.b ∈ bsOf (p ++ [x]) := by rw [bsOf_append]; exact List.mem_append_right _ (List.mem_singleton.2 rfl)
      have hXz := blkAt_isSize (HRI.out.good.mem hxm).2.1
      have hxe := (HRI.out.good.mem hxm).2.2
      have hxz2 := (isSize_iff _).1 hXz
      have hll := HRI.out.lists.short HRI.out.good HRI.out.max (clsN_of hXz).1
      have hle : x.b.size ≤ E := by rw [HE.out, HRI.out.endOf]; omega
      have u2 : IntKind.i64.wrap ((E : Int) + (n : Int) - (x.b.size : Int)) = (E : Int) + (n : Int) - (x.b.size : Int) := IntWalk.i64_in _ (by omega)
      have d5 : decide ((0 : Int) < (x.b.size : Int)) = true := decide_eq_true (by omega)
      have d6 : decide (0 < x.b.size) = true := decide_eq_true (by omega)
      have htt : takeTail (p ++ [x]) cp n ls = if E + n ≤ cp + x.b.size then some (x.b.off, p ++ [⟨⟨x.b.off, n, true⟩, x.d⟩], outL ls (clsN x.b.size) x.b.off) else none := by
        unfold takeTail; rw [hl]; simp only [hu, Bool.false_eq_true, if_false, List.dropLast_concat, HE.out]
      rw [htt]
      have HXZ := Lib.hid hXz; have HLL := Lib.hid hll; have HK := Lib.hid hk
      have HBM := Lib.hid (show (bsOf p).length = k by rw [hk]; exact List.length_map ..)
      by_cases hroom : E + n ≤ cp + x.b.size
      · have d8 : decide (cap < (E : Int) + (n : Int) - (x.b.size : Int)) = false := decide_eq_false (by have := HCAP.out; omega)
        have d8g : decide ((E : Int) + (n : Int) - (x.b.size : Int) > cap) = false := d8
        rw [if_pos hroom]
        clear htt hl hu hk hR3 hxm hXz hxe hxz2 hll hle hroom hcp hsz b0
        go_enter Try.func201, Try.ntmps201
        go_wp2_with fail
        have kc := KF.out
        with_reducible refine kc.mono ?_
        clear kc
        rintro e w' ⟨rfl, rfl⟩
        go_wp2_with fail
        refine flows_begin (S := fun w' => St B w0 w' (HpL q cap (.slice (some ⟨bb, 0, none⟩) M cb) vd vl ss (p ++ [x]) ls l)) hmixed 11 rfl (by repeat (first | with_reducible refine ps_then ?_ | with_reducible refine ps_block ?_ | with_reducible exact ps_body | refine ps_then ?_ | refine ps_block ?_ | exact ps_body)) T0.out.drew (fun hps => ?_)
        simp only [List.replicate]
        refine flows_take 0 (v := ?_) (a' := ?_) hps rfl (by kernel_rfl) rfl ?_ ?_ ?_
        rotate_left 2
        · intro w' hk; go_simp; try rfl
        · simp only [Act.put, List.setIfInBounds_toArray, List.set_cons_succ, List.set_cons_zero]; try rfl
        refine flows_take 2 (v := ?_) (a' := ?_) hps rfl (by kernel_rfl) rfl ?_ ?_ ?_
        rotate_left 2
        · intro w' hk; go_simp; try rfl
        · simp only [Act.put, List.setIfInBounds_toArray, List.set_cons_succ, List.set_cons_zero]; try rfl
        refine flows_take 4 (v := ?_) (a' := ?_) hps rfl (by kernel_rfl) rfl ?_ ?_ ?_
        rotate_left 2
        · intro w' hk; go_simp; try rfl
        · simp only [Act.put, List.setIfInBounds_toArray, List.set_cons_succ, List.set_cons_zero]; try rfl
        refine flows_take 6 (v := ?_) (a' := ?_) hps rfl (by kernel_rfl) rfl ?_ ?_ ?_
        rotate_left 2
        · intro w' hk; go_simp; try rfl
        · simp only [Act.put, List.setIfInBounds_toArray, List.set_cons_succ, List.set_cons_zero]; try rfl
        refine flows_take 7 (v := ?_) (a' := ?_) hps rfl (by kernel_rfl) rfl ?_ ?_ ?_
        rotate_left 2
        · intro w' hk; go_simp; try rfl
        · simp only [Act.put, List.setIfInBounds_toArray, List.set_cons_succ, List.set_cons_zero]; try rfl
        refine flows_take 8 (v := ?_) (a' := ?_) hps rfl (by kernel_rfl) rfl ?_ ?_ ?_
        rotate_left 2
        · intro w' hk; go_simp; try rfl
        · simp only [Act.put, List.setIfInBounds_toArray, List.set_cons_succ, List.set_cons_zero]; try rfl
        refine flows_take 9 (v := ?_) (a' := ?_) hps rfl (by kernel_rfl) rfl ?_ ?_ ?_
        rotate_left 2
        · intro w' hk; have c9 := (hp_cells hk).1; go_simp; try rfl
        · simp only [Act.put, List.setIfInBounds_toArray, List.set_cons_succ, List.set_cons_zero]; try rfl
        refine flows_one 1 hps rfl (by kernel_rfl) rfl (wp_next (fun K hK => ?_))
        go_simp
        with_reducible refine (KL.out _ _ T0.out.drew).mono ?_
        rintro e w' ⟨rfl, rfl⟩
        have kp := T0.out.drew
        refine hK _ _ ⟨kp, ?_⟩
        clear kp hK
        refine flows_take 3 (v := ?_) (a' := ?_) hps rfl (by kernel_rfl) rfl ?_ ?_ ?_
        rotate_left 2
        · intro w' hk; go_simp; try rfl
        · simp only [Act.put, List.setIfInBounds_toArray, List.set_cons_succ, List.set_cons_zero]; try rfl
        refine flows_take 5 (v := ?_) (a' := ?_) hps rfl (by kernel_rfl) rfl ?_ ?_ ?_
        rotate_left 2
        · intro w' hk; go_simp; try rfl
        · simp only [Act.put, List.setIfInBounds_toArray, List.set_cons_succ, List.set_cons_zero]; try rfl
        refine flows_take 10 (v := ?_) (a' := ?_) hps rfl (by kernel_rfl) rfl ?_ ?_ ?_
        rotate_left 2
        · intro w' hk; go_simp; try rfl
        · simp only [Act.put, List.setIfInBounds_toArray, List.set_cons_succ, List.set_cons_zero]; try rfl
        refine flows_done hps (by kernel_rfl) ?_
        have T1 := Lib.hid T0.out.drew
        generalize w.drew = w1 at T1 ⊢
        clear T0 c1
        have c1 := (hp_cells T1.out).2.1
        have T1m := Lib.hid (hp_mid.1 T1.out)
        go_wp2_with fail
        have HL2 := Lib.hid (show (bsOf p ++ x.b :: bsOf ([] : List Bd)).length ≤ 2000 from by have h1 := HMM.out; have h2 := HBM.out; rw [List.length_append, List.length_cons, h2]; simp only [List.length_append, List.length_singleton] at h1; show k + (0 + 1) ≤ 2000; have := HK.out; omega)
        with_reducible refine (rm_out T1m.out HS.out HBM.out HXZ.out (by have := HLL.out; omega) HL2.out (k : Int) rfl).mono ?_
        rintro e w2 ⟨rfl, ss2, hs2, t2⟩
        have T2 := Lib.hid t2; have HS2 := Lib.hid hs2
        clear t2 hs2 T1 T1m c1
        have c1 := (hp_cells T2.out).2.1
        go_wp2_with (first
          | (refine rm_setB T2.out HBM.out ⟨x.b.off, n, false⟩ 1 (by decide) (.int .i64 (n : Nat)) (by unfold blC; rw [HU.out]; rfl) bb M cb rfl rfl 3 _ _ rfl rfl rfl rfl (by kernel_rfl) ?_; intro w3 h3; have T3 := Lib.hid h3; clear h3 T2 c1; have c1 := (hp_cells T3.out).2.1)
          | (refine rm_setB T3.out HBM.out ⟨x.b.off, n, true⟩ 2 (by decide) (.bool true) rfl bb M cb rfl rfl 4 _ _ rfl rfl rfl rfl (by kernel_rfl) ?_; intro w4 h4; have T4 := Lib.hid h4; clear h4 T3 c1; have c1 := (hp_cells T4.out).2.1; have b0 := (rm_blk T4.out HBM.out).1; go_wp2_with fail))
        go_ret2
        exact ⟨rfl, _, _, ss2, HS2.out, (hp_mid (X := ⟨⟨x.b.off, n, true⟩, x.d⟩) (mr := [])).2 T4.out⟩
      · have d8 : decide (cap < (E : Int) + (n : Int) - (x.b.size : Int)) = true := decide_eq_true (by have := HCAP.out; omega)
        have d8g : decide ((E : Int) + (n : Int) - (x.b.size : Int) > cap) = true := d8
        rw [if_neg hroom]
        clear htt hl hu hk hR3 hxm hXz hxe hxz2 hll hle hroom hcp hsz b0
        go_enter Try.func201, Try.ntmps201
        go_wp2_with fail
        have kc := KF.out
        with_reducible refine kc.mono ?_
        clear kc
        rintro e w' ⟨rfl, rfl⟩
        go_wp2_with fail
        refine flows_begin (S := fun w' => St B w0 w' (HpL q cap (.slice (some ⟨bb, 0, none⟩) M cb) vd vl ss (p ++ [x]) ls l)) hmixed 11 rfl (by repeat (first | with_reducible refine ps_then ?_ | with_reducible refine ps_block ?_ | with_reducible exact ps_body | refine ps_then ?_ | refine ps_block ?_ | exact ps_body)) T0.out.drew (fun hps => ?_)
        simp only [List.replicate]
        refine flows_take 0 (v := ?_) (a' := ?_) hps rfl (by kernel_rfl) rfl ?_ ?_ ?_
        rotate_left 2
        · intro w' hk; go_simp; try rfl
        · simp only [Act.put, List.setIfInBounds_toArray, List.set_cons_succ, List.set_cons_zero]; try rfl
        refine flows_take 2 (v := ?_) (a' := ?_) hps rfl (by kernel_rfl) rfl ?_ ?_ ?_
        rotate_left 2
        · intro w' hk; go_simp; try rfl
        · simp only [Act.put, List.setIfInBounds_toArray, List.set_cons_succ, List.set_cons_zero]; try rfl
        refine flows_take 4 (v := ?_) (a' := ?_) hps rfl (by kernel_rfl) rfl ?_ ?_ ?_
        rotate_left 2
        · intro w' hk; go_simp; try rfl
        · simp only [Act.put, List.setIfInBounds_toArray, List.set_cons_succ, List.set_cons_zero]; try rfl
        refine flows_take 6 (v := ?_) (a' := ?_) hps rfl (by kernel_rfl) rfl ?_ ?_ ?_
        rotate_left 2
        · intro w' hk; go_simp; try rfl
        · simp only [Act.put, List.setIfInBounds_toArray, List.set_cons_succ, List.set_cons_zero]; try rfl
        refine flows_take 7 (v := ?_) (a' := ?_) hps rfl (by kernel_rfl) rfl ?_ ?_ ?_
        rotate_left 2
        · intro w' hk; go_simp; try rfl
        · simp only [Act.put, List.setIfInBounds_toArray, List.set_cons_succ, List.set_cons_zero]; try rfl
        refine flows_take 8 (v := ?_) (a' := ?_) hps rfl (by kernel_rfl) rfl ?_ ?_ ?_
        rotate_left 2
        · intro w' hk; go_simp; try rfl
        · simp only [Act.put, List.setIfInBounds_toArray, List.set_cons_succ, List.set_cons_zero]; try rfl
        refine flows_take 9 (v := ?_) (a' := ?_) hps rfl (by kernel_rfl) rfl ?_ ?_ ?_
        rotate_left 2
        · intro w' hk; have c9 := (hp_cells hk).1; go_simp; try rfl
        · simp only [Act.put, List.setIfInBounds_toArray, List.set_cons_succ, List.set_cons_zero]; try rfl
        refine flows_one 1 hps rfl (by kernel_rfl) rfl (wp_next (fun K hK => ?_))
        go_simp
        with_reducible refine (KL.out _ _ T0.out.drew).mono ?_
        rintro e w' ⟨rfl, rfl⟩
        have kp := T0.out.drew
        refine hK _ _ ⟨kp, ?_⟩
        clear kp hK
        refine flows_take 3 (v := ?_) (a' := ?_) hps rfl (by kernel_rfl) rfl ?_ ?_ ?_
        rotate_left 2
        · intro w' hk; go_simp; try rfl
        · simp only [Act.put, List.setIfInBounds_toArray, List.set_cons_succ, List.set_cons_zero]; try rfl
        refine flows_take 5 (v := ?_) (a' := ?_) hps rfl (by kernel_rfl) rfl ?_ ?_ ?_
        rotate_left 2
        · intro w' hk; go_simp; try rfl
        · simp only [Act.put, List.setIfInBounds_toArray, List.set_cons_succ, List.set_cons_zero]; try rfl
        refine flows_take 10 (v := ?_) (a' := ?_) hps rfl (by kernel_rfl) rfl ?_ ?_ ?_
        rotate_left 2
        · intro w' hk; go_simp; try rfl
        · simp only [Act.put, List.setIfInBounds_toArray, List.set_cons_succ, List.set_cons_zero]; try rfl
        refine flows_done hps (by kernel_rfl) ?_
        have T1 := Lib.hid T0.out.drew
        generalize w.drew = w1 at T1 ⊢
        clear T0 c1
        have c1 := (hp_cells T1.out).2.1
        go_wp2
        go_ret2
        exact ⟨rfl, _, _, ss, HS.out, T1.out⟩
theorem rh_Take (h : St B w0 w (HpL q cap vb vd vl ss m ls l)) (hs : ss.length = 22) (hR : Right b (bsOf m) ls) (hF : Fine m) (n : Nat) (hn : isSize (n : Int) = true) (cp : Nat) (hcap : cap = cp) (hcp : cp ≤ 16384) :
    Calls Try.prog 201 #[hpP q, .int .i64 n] w (TkR B w0 q cap vl m ls (takeM m cp n ls) l) := by
  cases hf : findL (bsOf m) ls n with
  | some a => exact rh_Take_found h hs hR hF n hn cp hf
  | none => exact rh_Take_none h hs hR hF n hn cp hcap hcp hf
end
end Go.Proofs.Ytenbpbnffnodhaa
