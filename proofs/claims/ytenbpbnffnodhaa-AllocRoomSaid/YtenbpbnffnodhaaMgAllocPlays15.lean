/- Texts of the proof of 'AllocPlays', part 15: words on memory, contracts of functions, plain laws. No condition. -/
import Derived.Test.YtenbpbnffnodhaaMgAllocPlays13
set_option linter.unusedSimpArgs false
set_option linter.unusedVariables false
/- The reference's heap: a block comes to stand among the others (the blocks' row nil). -/
namespace Go.Proofs.Ytenbpbnffnodhaa
open Go Go.RowKit Go.Own
set_option linter.unusedVariables false
set_option maxRecDepth 100000
section
variable {B : Nat} {w0 w : World} {l : List Ob} {q : Nat} {cap : Int} {vb vd vl : Value} {ss : List Sv} {L : List Blk} {D : List Value} {ls : Ls}
set_option maxHeartbeats 8000000 in
theorem rh_put_ns (h : St B w0 w (HpX q cap vb vd vl ss L D ls l)) (i : Nat) (hi : i ≤ L.length) (hD : D.length = L.length) (hone : ∀ u ∈ D, u.oneCell' = true) (hL : L.length ≤ 2000) (I O S : Int) (x : Blk) (hI : I = i) (hO : O = x.off) (hS : S = x.size) (hnb : isNil vb = true) (hnd : isNil vd = false) :
    Calls Try.prog 233 #[hpP q, .int .i64 I, .agg #[.int .i64 O, .int .i64 S, .bool x.used]] w fun e w' => e = .returned (.tuple #[]) ∧ ∃ vb' vd', St B w0 w' (HpX q cap vb' vd' vl ss (L.take i ++ x :: L.drop i) (D.take i ++ none0 :: D.drop i) ls l) := by
  subst hI
  obtain ⟨ab, cb, rfl, hcap, hroom, hbl⟩ := hp_bx h
  obtain ⟨ad, cd, rfl, _, hsd⟩ := Sl.of_owned (h.own (i := 2) rfl)
  have hcd := Sl.cap hsd; have hrd := Sl.room hsd
  have H := Lib.hid h; have HONE := Lib.hid hone; have HD := Lib.hid hD; have HO := Lib.hid hO; have HS := Lib.hid hS
  have g1 : i ≤ cb := by omega
  have g2 : 0 ≤ (i : Int) ∧ (i : Int) ≤ (L.length : Int) := by omega
  have g4 : (i : Int) ≤ (L.length : Int) := by omega
  have g5 : i ≤ cd := by omega
  have g6 : 0 ≤ (i : Int) ∧ (i : Int) ≤ (D.length : Int) := by omega
  have hlt : (L.take i).length = i := by rw [List.length_take]; omega
  have HLT := Lib.hid hlt
  clear h hbl hsd hone hlt hD hO hS
  rcases ab with _ | ⟨bb⟩
  · have hs := (bls_sl H.out (i := 1) rfl).2
    obtain rfl : cb = 0 := hs.nilcap rfl
    obtain rfl : L = [] := List.eq_nil_of_length_eq_zero (by omega)
    obtain rfl : D = [] := List.eq_nil_of_length_eq_zero (by have := HD.out; simpa using this)
    obtain rfl : i = 0 := by simpa using hi
    clear hs g1 g2 g4 g5 g6 HLT hi hL hcap hroom
    rcases ad with _ | ⟨bd⟩
    · have hs := ds_sl H.out (i := 2) rfl
      obtain rfl : cd = 0 := hs.nilcap rfl
      clear hs hcd hrd
      exact Bool.noConfusion hnd
    · obtain ⟨gd, _, _, e2, _⟩ := H.out.own (i := 2) rfl |>.2 |>.resolve_left (fun e => by cases e.1)
      cases e2
      clear hnb hnd
      go_enter Try.func233, Try.ntmps233
      go_wp2_with fail
      have h1 := H.out.addRow 77 [.int .i64 O, .int .i64 S, .bool x.used]
      generalize w.alloc (Obj.cells #[Value.int IntKind.i64 O, Value.int IntKind.i64 S, Value.bool x.used] 77 (0, 0)) = w1 at h1 ⊢
      generalize w.heap.size = g at h1 ⊢
      have TX := Lib.hid (show St B w0 w1 (BlsO (.slice none 0 0) [] :: BlsO (.slice none 0 0) [] :: BkO g O S x.used :: HpX q cap (.slice none 0 0) (.slice (some ⟨gd, 0, none⟩) 0 cd) vl ss ([] : List Blk) ([] : List Value) ls l) from (h1.addOwn (Below.refl _ _) (World.ownsRow_nil _ _ _ _)).addOwn (Below.refl _ _) (World.ownsRow_nil _ _ _ _))
      clear h1
      replace TX := Lib.hid TX.out.drew
      refine flowt_begin 21 (S := fun w' => w'.cell? ⟨q, 1, none⟩ = some (.slice none 0 0) ∧ Row w' g 77 [.int .i64 O, .int .i64 S, .bool x.used]) hmixed 22 rfl (by repeat (first | with_reducible refine ps_then ?_ | with_reducible refine ps_block ?_ | with_reducible exact ps_body | refine ps_then ?_ | refine ps_block ?_ | exact ps_body)) ⟨(hp_cells TX.out.tail.tail.tail).2.1, TX.out.row (i := 2) rfl⟩ (fun hps => ?_)
      simp only [List.replicate]
      generalize w1.drew = wx at TX ⊢
      refine flowt_take 0 (v := ?_) (a' := ?_) hps rfl (by kernel_rfl) rfl ?_ ?_ ?_
      rotate_left 2
      · intro w' hk; go_simp; try rfl
      · simp only [Act.put, List.setIfInBounds_toArray, List.set_cons_succ, List.set_cons_zero]; try rfl
      refine flowt_take 2 (v := ?_) (a' := ?_) hps rfl (by kernel_rfl) rfl ?_ ?_ ?_
      rotate_left 2
      · intro w' hk; go_simp; try rfl
      · simp only [Act.put, List.setIfInBounds_toArray, List.set_cons_succ, List.set_cons_zero]; try rfl
      refine flowt_take 3 (v := ?_) (a' := ?_) hps rfl (by kernel_rfl) rfl ?_ ?_ ?_
      rotate_left 2
      · intro w' hk; go_simp; try rfl
      · simp only [Act.put, List.setIfInBounds_toArray, List.set_cons_succ, List.set_cons_zero]; try rfl
      refine flowt_take 4 (v := ?_) (a' := ?_) hps rfl (by kernel_rfl) rfl ?_ ?_ ?_
      rotate_left 2
      · intro w' hk; go_simp; try rfl
      · simp only [Act.put, List.setIfInBounds_toArray, List.set_cons_succ, List.set_cons_zero]; try rfl
      refine flowt_read 5 (v := ?_) (a' := ?_) hps rfl (by kernel_rfl) rfl ?_ ?_ ?_
      rotate_left 2
      · intro w' hk; have c1 := hk.1; go_simp; try rfl
      · simp only [Act.put, List.setIfInBounds_toArray, List.set_cons_succ, List.set_cons_zero]; try rfl
      refine flowt_take 6 (v := ?_) (a' := ?_) hps rfl (by kernel_rfl) rfl ?_ ?_ ?_
      rotate_left 2
      · intro w' hk; go_simp; try rfl
      · simp only [Act.put, List.setIfInBounds_toArray, List.set_cons_succ, List.set_cons_zero]; try rfl
      refine flowt_take 7 (v := ?_) (a' := ?_) hps rfl (by kernel_rfl) rfl ?_ ?_ ?_
      rotate_left 2
      · intro w' hk; go_simp; try rfl
      · simp only [Act.put, List.setIfInBounds_toArray, List.set_cons_succ, List.set_cons_zero]; try rfl
      refine flowt_read 9 (v := ?_) (a' := ?_) hps rfl (by kernel_rfl) rfl ?_ ?_ ?_
      rotate_left 2
      · intro w' hk; have k0 : w'.cell? ⟨g, 0, none⟩ = some (.int .i64 O) := hk.2.cell 0; have k1 : w'.cell? ⟨g, 1, none⟩ = some (.int .i64 S) := hk.2.cell 1; have k2 : w'.cell? ⟨g, 2, none⟩ = some (.bool x.used) := hk.2.cell 2; go_simp; try rfl
      · simp only [Act.put, List.setIfInBounds_toArray, List.set_cons_succ, List.set_cons_zero]; try rfl
      refine flowt_take 12 (v := ?_) (a' := ?_) hps rfl (by kernel_rfl) rfl ?_ ?_ ?_
      rotate_left 2
      · intro w' hk; go_simp; try rfl
      · simp only [Act.put, List.setIfInBounds_toArray, List.set_cons_succ, List.set_cons_zero]; try rfl
      refine flowt_take 13 (v := ?_) (a' := ?_) hps rfl (by kernel_rfl) rfl ?_ ?_ ?_
      rotate_left 2
      · intro w' hk; go_simp; try rfl
      · simp only [Act.put, List.setIfInBounds_toArray, List.set_cons_succ, List.set_cons_zero]; try rfl
      refine flowt_take 14 (v := ?_) (a' := ?_) hps rfl (by kernel_rfl) rfl ?_ ?_ ?_
      rotate_left 2
      · intro w' hk; go_simp; try rfl
      · simp only [Act.put, List.setIfInBounds_toArray, List.set_cons_succ, List.set_cons_zero]; try rfl
      refine flowt_read 15 (v := ?_) (a' := ?_) hps rfl (by kernel_rfl) rfl ?_ ?_ ?_
      rotate_left 2
      · intro w' hk; have c1 := hk.1; go_simp; try rfl
      · simp only [Act.put, List.setIfInBounds_toArray, List.set_cons_succ, List.set_cons_zero]; try rfl
      refine flowt_take 16 (v := ?_) (a' := ?_) hps rfl (by kernel_rfl) rfl ?_ ?_ ?_
      rotate_left 2
      · intro w' hk; go_simp; try rfl
      · simp only [Act.put, List.setIfInBounds_toArray, List.set_cons_succ, List.set_cons_zero]; try rfl
      refine flowt_take 17 (v := ?_) (a' := ?_) hps rfl (by kernel_rfl) rfl ?_ ?_ ?_
      rotate_left 2
      · intro w' hk; go_simp; try rfl
      · simp only [Act.put, List.setIfInBounds_toArray, List.set_cons_succ, List.set_cons_zero]; try rfl
      refine flowt_any [1, 10] hps (by kernel_rfl) (by simp) (fun i hi => ?_)
      simp only [List.mem_cons, List.not_mem_nil, or_false] at hi
      rcases hi with rfl | rfl
      · refine ⟨_, rfl, rfl, wp_next (fun K hK => ?_)⟩
        refine bls0_at TX.out rfl ?_
        intro g7 w7 h7
        replace TX := Lib.hid (St.drop2 h7)
        clear h7
        have kp := And.intro (hp_cells TX.out.tail.tail.tail).2.1 (TX.out.row (i := 2) rfl)
        refine hK _ _ ⟨fun _ => kp, ?_⟩
        clear kp hK
        refine flowt_any [8, 10] hps (by kernel_rfl) (by simp) (fun i hi => ?_)
        simp only [List.mem_cons, List.not_mem_nil, or_false] at hi
        rcases hi with rfl | rfl
        · refine ⟨_, rfl, rfl, wp_next (fun K hK => ?_)⟩
          refine bls_app_at TX.out 0 rfl _ _ rfl rfl _ _ _ (([] : List Blk).take 0) rfl (by exact Sl.nil _ _) (by rw [List.length_nil]; omega) ?_
          intro vA wA hA
          replace TX := Lib.hid hA
          clear hA
          have kp := And.intro (hp_cells TX.out.tail.tail.tail).2.1 (TX.out.row (i := 2) rfl)
          refine hK _ _ ⟨fun _ => kp, ?_⟩
          clear kp hK
          refine flowt_one 10 hps rfl (by kernel_rfl) rfl (wp_next (fun K hK => ?_))
          refine litb_at TX.out x _ rfl O S rfl HO.out HS.out ?_
          intro g8 w8 h8
          replace TX := Lib.hid (St.drop3 (St.swap h8))
          clear h8
          have kp := And.intro (hp_cells TX.out.tail.tail.tail).2.1 (TX.out.row (i := 2) rfl)
          refine hK _ _ ⟨fun _ => kp, ?_⟩
          clear kp hK
          refine flowt_one 11 hps rfl (by kernel_rfl) rfl (wp_next (fun K hK => ?_))
          refine bls_app_at TX.out 0 rfl _ _ rfl rfl _ _ _ [x] rfl (bls_sl TX.out (i := 1) rfl).2 (by simp) ?_
          intro vA3 wA3 hA
          replace TX := Lib.hid hA
          clear hA
          have kp := And.intro (hp_cells TX.out.tail.tail.tail).2.1 (TX.out.row (i := 2) rfl)
          refine hK _ _ ⟨fun _ => kp, ?_⟩
          clear kp hK
          refine flowt_one 18 hps rfl (by kernel_rfl) rfl (wp_next (fun K hK => ?_))
          refine bls_app_at TX.out 0 rfl _ _ rfl rfl _ _ _ (([] : List Blk).drop 0) rfl (by exact Sl.nil _ _) (by simp) ?_
          intro vA2 wA2 hA
          replace TX := Lib.hid hA
          clear hA
          have kp := And.intro (hp_cells TX.out.tail.tail.tail).2.1 (TX.out.row (i := 2) rfl)
          refine hK _ _ ⟨fun _ => kp, ?_⟩
          clear kp hK
          refine flowt_take 19 (v := ?_) (a' := ?_) hps rfl (by kernel_rfl) rfl ?_ ?_ ?_
          rotate_left 2
          · intro w' hk; go_simp; try rfl
          · simp only [Act.put, List.setIfInBounds_toArray, List.set_cons_succ, List.set_cons_zero]; try rfl
          refine flowt_take 20 (v := ?_) (a' := ?_) hps rfl (by kernel_rfl) rfl ?_ ?_ ?_
          rotate_left 2
          · intro w' hk; go_simp; try rfl
          · simp only [Act.put, List.setIfInBounds_toArray, List.set_cons_succ, List.set_cons_zero]; try rfl
          refine flowt_one 21 hps rfl (by kernel_rfl) rfl (wp_next (fun K hK => ?_))
          refine hp_newB_at (TX.out.sub (.cons_cons _ (.cons _ (.cons _ (List.Sublist.refl _))))) _ _ 75 rfl rfl rfl (by kernel_rfl) ?_
          intro wB hB
          replace TX := Lib.hid hB
          clear hB
          refine hK _ _ ⟨fun h => absurd (show true = false from h) (by decide), ?_⟩
          clear hK
          refine flowt_done hps (by kernel_rfl) ?_
          skip
          skip
          rw [List.nil_append] at TX
          replace TX := Lib.hid (show St B w0 wB.drew (DsO (.slice none 0 0) [] :: DsO (.slice none 0 0) [] :: HpX q cap vA2 (.slice (some ⟨gd, 0, none⟩) 0 cd) vl ss (([] : List Blk).take 0 ++ [x] ++ ([] : List Blk).drop 0) ([] : List Value) ls l) from (TX.out.drew.addOwn (Below.refl _ _) (World.ownsRow_nil _ _ _ _)).addOwn (Below.refl _ _) (World.ownsRow_nil _ _ _ _))
          go_wp2
          refine flowt_begin 20 (S := fun w' => w'.cell? ⟨q, 2, none⟩ = some (.slice (some ⟨gd, 0, none⟩) 0 cd)) hmixed 21 rfl (by repeat (first | with_reducible refine ps_then ?_ | with_reducible refine ps_block ?_ | with_reducible exact ps_body | refine ps_then ?_ | refine ps_block ?_ | exact ps_body)) (hp_cells TX.out.tail.tail).2.2.1 (fun hps => ?_)
          simp only [List.replicate]
          generalize wB.drew = wy at TX ⊢
          refine flowt_take 0 (v := ?_) (a' := ?_) hps rfl (by kernel_rfl) rfl ?_ ?_ ?_
          rotate_left 2
          · intro w' hk; go_simp; try rfl
          · simp only [Act.put, List.setIfInBounds_toArray, List.set_cons_succ, List.set_cons_zero]; try rfl
          refine flowt_take 2 (v := ?_) (a' := ?_) hps rfl (by kernel_rfl) rfl ?_ ?_ ?_
          rotate_left 2
          · intro w' hk; go_simp; try rfl
          · simp only [Act.put, List.setIfInBounds_toArray, List.set_cons_succ, List.set_cons_zero]; try rfl
          refine flowt_take 3 (v := ?_) (a' := ?_) hps rfl (by kernel_rfl) rfl ?_ ?_ ?_
          rotate_left 2
          · intro w' hk; go_simp; try rfl
          · simp only [Act.put, List.setIfInBounds_toArray, List.set_cons_succ, List.set_cons_zero]; try rfl
          refine flowt_take 4 (v := ?_) (a' := ?_) hps rfl (by kernel_rfl) rfl ?_ ?_ ?_
          rotate_left 2
          · intro w' hk; go_simp; try rfl
          · simp only [Act.put, List.setIfInBounds_toArray, List.set_cons_succ, List.set_cons_zero]; try rfl
          refine flowt_read 5 (v := ?_) (a' := ?_) hps rfl (by kernel_rfl) rfl ?_ ?_ ?_
          rotate_left 2
          · intro w' hk; have c1 := hk; go_simp; try rfl
          · simp only [Act.put, List.setIfInBounds_toArray, List.set_cons_succ, List.set_cons_zero]; try rfl
          refine flowt_take 6 (v := ?_) (a' := ?_) hps rfl (by kernel_rfl) rfl ?_ ?_ ?_
          rotate_left 2
          · intro w' hk; go_simp; try rfl
          · simp only [Act.put, List.setIfInBounds_toArray, List.set_cons_succ, List.set_cons_zero]; try rfl
          refine flowt_take 7 (v := ?_) (a' := ?_) hps rfl (by kernel_rfl) rfl ?_ ?_ ?_
          rotate_left 2
          · intro w' hk; go_simp; try rfl
          · simp only [Act.put, List.setIfInBounds_toArray, List.set_cons_succ, List.set_cons_zero]; try rfl
          refine flowt_take 11 (v := ?_) (a' := ?_) hps rfl (by kernel_rfl) rfl ?_ ?_ ?_
          rotate_left 2
          · intro w' hk; go_simp; try rfl
          · simp only [Act.put, List.setIfInBounds_toArray, List.set_cons_succ, List.set_cons_zero]; try rfl
          refine flowt_take 12 (v := ?_) (a' := ?_) hps rfl (by kernel_rfl) rfl ?_ ?_ ?_
          rotate_left 2
          · intro w' hk; go_simp; try rfl
          · simp only [Act.put, List.setIfInBounds_toArray, List.set_cons_succ, List.set_cons_zero]; try rfl
          refine flowt_take 13 (v := ?_) (a' := ?_) hps rfl (by kernel_rfl) rfl ?_ ?_ ?_
          rotate_left 2
          · intro w' hk; go_simp; try rfl
          · simp only [Act.put, List.setIfInBounds_toArray, List.set_cons_succ, List.set_cons_zero]; try rfl
          refine flowt_read 14 (v := ?_) (a' := ?_) hps rfl (by kernel_rfl) rfl ?_ ?_ ?_
          rotate_left 2
          · intro w' hk; have c1 := hk; go_simp; try rfl
          · simp only [Act.put, List.setIfInBounds_toArray, List.set_cons_succ, List.set_cons_zero]; try rfl
          refine flowt_take 15 (v := ?_) (a' := ?_) hps rfl (by kernel_rfl) rfl ?_ ?_ ?_
          rotate_left 2
          · intro w' hk; go_simp; try rfl
          · simp only [Act.put, List.setIfInBounds_toArray, List.set_cons_succ, List.set_cons_zero]; try rfl
          refine flowt_take 16 (v := ?_) (a' := ?_) hps rfl (by kernel_rfl) rfl ?_ ?_ ?_
          rotate_left 2
          · intro w' hk; go_simp; try rfl
          · simp only [Act.put, List.setIfInBounds_toArray, List.set_cons_succ, List.set_cons_zero]; try rfl
          refine flowt_any [1, 9] hps (by kernel_rfl) (by simp) (fun i hi => ?_)
          simp only [List.mem_cons, List.not_mem_nil, or_false] at hi
          rcases hi with rfl | rfl
          · refine ⟨_, rfl, rfl, wp_next (fun K hK => ?_)⟩
            refine ds0_at TX.out rfl ?_
            intro g7 w7 h7
            replace TX := Lib.hid (St.drop2 h7)
            clear h7
            have kp := (hp_cells TX.out.tail.tail).2.2.1
            refine hK _ _ ⟨fun _ => kp, ?_⟩
            clear kp hK
            refine flowt_any [8, 9] hps (by kernel_rfl) (by simp) (fun i hi => ?_)
            simp only [List.mem_cons, List.not_mem_nil, or_false] at hi
            rcases hi with rfl | rfl
            · refine ⟨_, rfl, rfl, wp_next (fun K hK => ?_)⟩
              refine ds_app_at TX.out 0 rfl _ _ rfl rfl _ _ _ (([] : List Value).take 0) rfl (by have hx := ds_sl TX.out (i := 4) rfl; exact hx) (fun u hu => HONE.out u (List.mem_of_mem_take hu)) (by rw [List.length_nil]; omega) ?_
              intro vA wA hA
              replace TX := Lib.hid hA
              clear hA
              have kp := (hp_cells TX.out.tail.tail).2.2.1
              refine hK _ _ ⟨fun _ => kp, ?_⟩
              clear kp hK
              refine flowt_one 9 hps rfl (by kernel_rfl) rfl (wp_next (fun K hK => ?_))
              refine litd_at TX.out _ rfl rfl ?_
              intro g8 w8 h8
              replace TX := Lib.hid (St.drop3 (St.swap h8))
              clear h8
              have kp := (hp_cells TX.out.tail.tail).2.2.1
              refine hK _ _ ⟨fun _ => kp, ?_⟩
              clear kp hK
              refine flowt_one 10 hps rfl (by kernel_rfl) rfl (wp_next (fun K hK => ?_))
              refine ds_app_at TX.out 0 rfl _ _ rfl rfl _ _ _ [none0] rfl (ds_sl TX.out (i := 1) rfl) (fun u hu => by rw [List.mem_singleton.1 hu]; rfl) (by simp) ?_
              intro vA3 wA3 hA
              replace TX := Lib.hid hA
              clear hA
              have kp := (hp_cells TX.out.tail.tail).2.2.1
              refine hK _ _ ⟨fun _ => kp, ?_⟩
              clear kp hK
              refine flowt_one 17 hps rfl (by kernel_rfl) rfl (wp_next (fun K hK => ?_))
              refine ds_app_at TX.out 0 rfl _ _ rfl rfl _ _ _ (([] : List Value).drop 0) rfl (by have hx := ds_sl TX.out (i := 4) rfl; exact hx) (fun u hu => HONE.out u (List.mem_of_mem_drop hu)) (by simp) ?_
              intro vA4 wA4 hA
              replace TX := Lib.hid hA
              clear hA
              have kp := (hp_cells TX.out.tail.tail).2.2.1
              refine hK _ _ ⟨fun _ => kp, ?_⟩
              clear kp hK
              refine flowt_take 18 (v := ?_) (a' := ?_) hps rfl (by kernel_rfl) rfl ?_ ?_ ?_
              rotate_left 2
              · intro w' hk; go_simp; try rfl
              · simp only [Act.put, List.setIfInBounds_toArray, List.set_cons_succ, List.set_cons_zero]; try rfl
              refine flowt_take 19 (v := ?_) (a' := ?_) hps rfl (by kernel_rfl) rfl ?_ ?_ ?_
              rotate_left 2
              · intro w' hk; go_simp; try rfl
              · simp only [Act.put, List.setIfInBounds_toArray, List.set_cons_succ, List.set_cons_zero]; try rfl
              refine flowt_one 20 hps rfl (by kernel_rfl) rfl (wp_next (fun K hK => ?_))
              refine hp_newD_at (TX.out.sub (.cons_cons _ (.cons _ (List.Sublist.refl _)))) _ _ 44 rfl rfl rfl (by kernel_rfl) ?_
              intro wC hC
              replace TX := Lib.hid hC
              clear hC
              refine hK _ _ ⟨fun h => absurd (show true = false from h) (by decide), ?_⟩
              clear hK
              refine flowt_done hps (by kernel_rfl) ?_
              skip
              try generalize (if cd = 0 then (some ⟨gd, 0, none⟩ : Option Addr) else some ⟨gd, 0, none⟩) = aY
              rw [List.nil_append] at TX
              go_wp2
              go_end0
              exact ⟨rfl, _, _, by have := TX.out; simp only [List.append_assoc, List.singleton_append] at this; exact this⟩
            · refine ⟨_, rfl, rfl, wp_next (fun K hK => ?_)⟩
              refine litd_at TX.out _ rfl rfl ?_
              intro g8 w8 h8
              replace TX := Lib.hid (St.drop3 (St.swap h8))
              clear h8
              have kp := (hp_cells TX.out.tail.tail).2.2.1
              refine hK _ _ ⟨fun _ => kp, ?_⟩
              clear kp hK
              refine flowt_one 8 hps rfl (by kernel_rfl) rfl (wp_next (fun K hK => ?_))
              refine ds_app_at TX.out 0 rfl _ _ rfl rfl _ _ _ (([] : List Value).take 0) rfl (by have hx := ds_sl TX.out (i := 4) rfl; exact hx) (fun u hu => HONE.out u (List.mem_of_mem_take hu)) (by rw [List.length_nil]; omega) ?_
              intro vA wA hA
              replace TX := Lib.hid hA
              clear hA
              have kp := (hp_cells TX.out.tail.tail).2.2.1
              refine hK _ _ ⟨fun _ => kp, ?_⟩
              clear kp hK
              refine flowt_one 10 hps rfl (by kernel_rfl) rfl (wp_next (fun K hK => ?_))
              refine ds_app_at TX.out 0 rfl _ _ rfl rfl _ _ _ [none0] rfl (ds_sl TX.out (i := 1) rfl) (fun u hu => by rw [List.mem_singleton.1 hu]; rfl) (by simp) ?_
              intro vA3 wA3 hA
              replace TX := Lib.hid hA
              clear hA
              have kp := (hp_cells TX.out.tail.tail).2.2.1
              refine hK _ _ ⟨fun _ => kp, ?_⟩
              clear kp hK
              refine flowt_one 17 hps rfl (by kernel_rfl) rfl (wp_next (fun K hK => ?_))
              refine ds_app_at TX.out 0 rfl _ _ rfl rfl _ _ _ (([] : List Value).drop 0) rfl (by have hx := ds_sl TX.out (i := 4) rfl; exact hx) (fun u hu => HONE.out u (List.mem_of_mem_drop hu)) (by simp) ?_
              intro vA4 wA4 hA
              replace TX := Lib.hid hA
              clear hA
              have kp := (hp_cells TX.out.tail.tail).2.2.1
              refine hK _ _ ⟨fun _ => kp, ?_⟩
              clear kp hK
              refine flowt_take 18 (v := ?_) (a' := ?_) hps rfl (by kernel_rfl) rfl ?_ ?_ ?_
              rotate_left 2
              · intro w' hk; go_simp; try rfl
              · simp only [Act.put, List.setIfInBounds_toArray, List.set_cons_succ, List.set_cons_zero]; try rfl
              refine flowt_take 19 (v := ?_) (a' := ?_) hps rfl (by kernel_rfl) rfl ?_ ?_ ?_
              rotate_left 2
              · intro w' hk; go_simp; try rfl
              · simp only [Act.put, List.setIfInBounds_toArray, List.set_cons_succ, List.set_cons_zero]; try rfl
              refine flowt_one 20 hps rfl (by kernel_rfl) rfl (wp_next (fun K hK => ?_))
              refine hp_newD_at (TX.out.sub (.cons_cons _ (.cons _ (List.Sublist.refl _)))) _ _ 44 rfl rfl rfl (by kernel_rfl) ?_
              intro wC hC
              replace TX := Lib.hid hC
              clear hC
              refine hK _ _ ⟨fun h => absurd (show true = false from h) (by decide), ?_⟩
              clear hK
              refine flowt_done hps (by kernel_rfl) ?_
              skip
              try generalize (if cd = 0 then (some ⟨gd, 0, none⟩ : Option Addr) else some ⟨gd, 0, none⟩) = aY
              rw [List.nil_append] at TX
              go_wp2
              go_end0
              exact ⟨rfl, _, _, by have := TX.out; simp only [List.append_assoc, List.singleton_append] at this; exact this⟩
          · refine ⟨_, rfl, rfl, wp_next (fun K hK => ?_)⟩
            refine litd_at TX.out _ rfl rfl ?_
            intro g8 w8 h8
            replace TX := Lib.hid (St.drop3 (St.swap h8))
            clear h8
            have kp := (hp_cells TX.out.tail.tail).2.2.1
            refine hK _ _ ⟨fun _ => kp, ?_⟩
            clear kp hK
            refine flowt_one 1 hps rfl (by kernel_rfl) rfl (wp_next (fun K hK => ?_))
            refine ds0_at TX.out rfl ?_
            intro g7 w7 h7
            replace TX := Lib.hid (St.drop2 h7)
            clear h7
            have kp := (hp_cells TX.out.tail.tail).2.2.1
            refine hK _ _ ⟨fun _ => kp, ?_⟩
            clear kp hK
            refine flowt_one 8 hps rfl (by kernel_rfl) rfl (wp_next (fun K hK => ?_))
            refine ds_app_at TX.out 0 rfl _ _ rfl rfl _ _ _ (([] : List Value).take 0) rfl (by have hx := ds_sl TX.out (i := 4) rfl; exact hx) (fun u hu => HONE.out u (List.mem_of_mem_take hu)) (by rw [List.length_nil]; omega) ?_
            intro vA wA hA
            replace TX := Lib.hid hA
            clear hA
            have kp := (hp_cells TX.out.tail.tail).2.2.1
            refine hK _ _ ⟨fun _ => kp, ?_⟩
            clear kp hK
            refine flowt_one 10 hps rfl (by kernel_rfl) rfl (wp_next (fun K hK => ?_))
            refine ds_app_at TX.out 0 rfl _ _ rfl rfl _ _ _ [none0] rfl (ds_sl TX.out (i := 1) rfl) (fun u hu => by rw [List.mem_singleton.1 hu]; rfl) (by simp) ?_
            intro vA3 wA3 hA
            replace TX := Lib.hid hA
            clear hA
            have kp := (hp_cells TX.out.tail.tail).2.2.1
            refine hK _ _ ⟨fun _ => kp, ?_⟩
            clear kp hK
            refine flowt_one 17 hps rfl (by kernel_rfl) rfl (wp_next (fun K hK => ?_))
            refine ds_app_at TX.out 0 rfl _ _ rfl rfl _ _ _ (([] : List Value).drop 0) rfl (by have hx := ds_sl TX.out (i := 4) rfl; exact hx) (fun u hu => HONE.out u (List.mem_of_mem_drop hu)) (by simp) ?_
            intro vA4 wA4 hA
            replace TX := Lib.hid hA
            clear hA
            have kp := (hp_cells TX.out.tail.tail).2.2.1
            refine hK _ _ ⟨fun _ => kp, ?_⟩
            clear kp hK
            refine flowt_take 18 (v := ?_) (a' := ?_) hps rfl (by kernel_rfl) rfl ?_ ?_ ?_
            rotate_left 2
            · intro w' hk; go_simp; try rfl
            · simp only [Act.put, List.setIfInBounds_toArray, List.set_cons_succ, List.set_cons_zero]; try rfl
            refine flowt_take 19 (v := ?_) (a' := ?_) hps rfl (by kernel_rfl) rfl ?_ ?_ ?_
            rotate_left 2
            · intro w' hk; go_simp; try rfl
            · simp only [Act.put, List.setIfInBounds_toArray, List.set_cons_succ, List.set_cons_zero]; try rfl
            refine flowt_one 20 hps rfl (by kernel_rfl) rfl (wp_next (fun K hK => ?_))
            refine hp_newD_at (TX.out.sub (.cons_cons _ (.cons _ (List.Sublist.refl _)))) _ _ 44 rfl rfl rfl (by kernel_rfl) ?_
            intro wC hC
            replace TX := Lib.hid hC
            clear hC
            refine hK _ _ ⟨fun h => absurd (show true = false from h) (by decide), ?_⟩
            clear hK
            refine flowt_done hps (by kernel_rfl) ?_
            skip
            try generalize (if cd = 0 then (some ⟨gd, 0, none⟩ : Option Addr) else some ⟨gd, 0, none⟩) = aY
            rw [List.nil_append] at TX
            go_wp2
            go_end0
            exact ⟨rfl, _, _, by have := TX.out; simp only [List.append_assoc, List.singleton_append] at this; exact this⟩
        · refine ⟨_, rfl, rfl, wp_next (fun K hK => ?_)⟩
          refine litb_at TX.out x _ rfl O S rfl HO.out HS.out ?_
          intro g8 w8 h8
          replace TX := Lib.hid (St.drop3 (St.swap h8))
          clear h8
          have kp := And.intro (hp_cells TX.out.tail.tail.tail).2.1 (TX.out.row (i := 2) rfl)
          refine hK _ _ ⟨fun _ => kp, ?_⟩
          clear kp hK
          refine flowt_one 8 hps rfl (by kernel_rfl) rfl (wp_next (fun K hK => ?_))
          refine bls_app_at TX.out 0 rfl _ _ rfl rfl _ _ _ (([] : List Blk).take 0) rfl (by exact Sl.nil _ _) (by rw [List.length_nil]; omega) ?_
          intro vA wA hA
          replace TX := Lib.hid hA
          clear hA
          have kp := And.intro (hp_cells TX.out.tail.tail.tail).2.1 (TX.out.row (i := 2) rfl)
          refine hK _ _ ⟨fun _ => kp, ?_⟩
          clear kp hK
          refine flowt_one 11 hps rfl (by kernel_rfl) rfl (wp_next (fun K hK => ?_))
          refine bls_app_at TX.out 0 rfl _ _ rfl rfl _ _ _ [x] rfl (bls_sl TX.out (i := 1) rfl).2 (by simp) ?_
          intro vA3 wA3 hA
          replace TX := Lib.hid hA
          clear hA
          have kp := And.intro (hp_cells TX.out.tail.tail.tail).2.1 (TX.out.row (i := 2) rfl)
          refine hK _ _ ⟨fun _ => kp, ?_⟩
          clear kp hK
          refine flowt_one 18 hps rfl (by kernel_rfl) rfl (wp_next (fun K hK => ?_))
          refine bls_app_at TX.out 0 rfl _ _ rfl rfl _ _ _ (([] : List Blk).drop 0) rfl (by exact Sl.nil _ _) (by simp) ?_
          intro vA2 wA2 hA
          replace TX := Lib.hid hA
          clear hA
          have kp := And.intro (hp_cells TX.out.tail.tail.tail).2.1 (TX.out.row (i := 2) rfl)
          refine hK _ _ ⟨fun _ => kp, ?_⟩
          clear kp hK
          refine flowt_take 19 (v := ?_) (a' := ?_) hps rfl (by kernel_rfl) rfl ?_ ?_ ?_
          rotate_left 2
          · intro w' hk; go_simp; try rfl
          · simp only [Act.put, List.setIfInBounds_toArray, List.set_cons_succ, List.set_cons_zero]; try rfl
          refine flowt_take 20 (v := ?_) (a' := ?_) hps rfl (by kernel_rfl) rfl ?_ ?_ ?_
          rotate_left 2
          · intro w' hk; go_simp; try rfl
          · simp only [Act.put, List.setIfInBounds_toArray, List.set_cons_succ, List.set_cons_zero]; try rfl
          refine flowt_one 21 hps rfl (by kernel_rfl) rfl (wp_next (fun K hK => ?_))
          refine hp_newB_at (TX.out.sub (.cons_cons _ (.cons _ (.cons _ (List.Sublist.refl _))))) _ _ 75 rfl rfl rfl (by kernel_rfl) ?_
          intro wB hB
          replace TX := Lib.hid hB
          clear hB
          refine hK _ _ ⟨fun h => absurd (show true = false from h) (by decide), ?_⟩
          clear hK
          refine flowt_done hps (by kernel_rfl) ?_
          skip
          skip
          rw [List.nil_append] at TX
          replace TX := Lib.hid (show St B w0 wB.drew (DsO (.slice none 0 0) [] :: DsO (.slice none 0 0) [] :: HpX q cap vA2 (.slice (some ⟨gd, 0, none⟩) 0 cd) vl ss (([] : List Blk).take 0 ++ [x] ++ ([] : List Blk).drop 0) ([] : List Value) ls l) from (TX.out.drew.addOwn (Below.refl _ _) (World.ownsRow_nil _ _ _ _)).addOwn (Below.refl _ _) (World.ownsRow_nil _ _ _ _))
          go_wp2
          refine flowt_begin 20 (S := fun w' => w'.cell? ⟨q, 2, none⟩ = some (.slice (some ⟨gd, 0, none⟩) 0 cd)) hmixed 21 rfl (by repeat (first | with_reducible refine ps_then ?_ | with_reducible refine ps_block ?_ | with_reducible exact ps_body | refine ps_then ?_ | refine ps_block ?_ | exact ps_body)) (hp_cells TX.out.tail.tail).2.2.1 (fun hps => ?_)
          simp only [List.replicate]
          generalize wB.drew = wy at TX ⊢
          refine flowt_take 0 (v := ?_) (a' := ?_) hps rfl (by kernel_rfl) rfl ?_ ?_ ?_
          rotate_left 2
          · intro w' hk; go_simp; try rfl
          · simp only [Act.put, List.setIfInBounds_toArray, List.set_cons_succ, List.set_cons_zero]; try rfl
          refine flowt_take 2 (v := ?_) (a' := ?_) hps rfl (by kernel_rfl) rfl ?_ ?_ ?_
          rotate_left 2
          · intro w' hk; go_simp; try rfl
          · simp only [Act.put, List.setIfInBounds_toArray, List.set_cons_succ, List.set_cons_zero]; try rfl
          refine flowt_take 3 (v := ?_) (a' := ?_) hps rfl (by kernel_rfl) rfl ?_ ?_ ?_
          rotate_left 2
          · intro w' hk; go_simp; try rfl
          · simp only [Act.put, List.setIfInBounds_toArray, List.set_cons_succ, List.set_cons_zero]; try rfl
          refine flowt_take 4 (v := ?_) (a' := ?_) hps rfl (by kernel_rfl) rfl ?_ ?_ ?_
          rotate_left 2
          · intro w' hk; go_simp; try rfl
          · simp only [Act.put, List.setIfInBounds_toArray, List.set_cons_succ, List.set_cons_zero]; try rfl
          refine flowt_read 5 (v := ?_) (a' := ?_) hps rfl (by kernel_rfl) rfl ?_ ?_ ?_
          rotate_left 2
          · intro w' hk; have c1 := hk; go_simp; try rfl
          · simp only [Act.put, List.setIfInBounds_toArray, List.set_cons_succ, List.set_cons_zero]; try rfl
          refine flowt_take 6 (v := ?_) (a' := ?_) hps rfl (by kernel_rfl) rfl ?_ ?_ ?_
          rotate_left 2
          · intro w' hk; go_simp; try rfl
          · simp only [Act.put, List.setIfInBounds_toArray, List.set_cons_succ, List.set_cons_zero]; try rfl
          refine flowt_take 7 (v := ?_) (a' := ?_) hps rfl (by kernel_rfl) rfl ?_ ?_ ?_
          rotate_left 2
          · intro w' hk; go_simp; try rfl
          · simp only [Act.put, List.setIfInBounds_toArray, List.set_cons_succ, List.set_cons_zero]; try rfl
          refine flowt_take 11 (v := ?_) (a' := ?_) hps rfl (by kernel_rfl) rfl ?_ ?_ ?_
          rotate_left 2
          · intro w' hk; go_simp; try rfl
          · simp only [Act.put, List.setIfInBounds_toArray, List.set_cons_succ, List.set_cons_zero]; try rfl
          refine flowt_take 12 (v := ?_) (a' := ?_) hps rfl (by kernel_rfl) rfl ?_ ?_ ?_
          rotate_left 2
          · intro w' hk; go_simp; try rfl
          · simp only [Act.put, List.setIfInBounds_toArray, List.set_cons_succ, List.set_cons_zero]; try rfl
          refine flowt_take 13 (v := ?_) (a' := ?_) hps rfl (by kernel_rfl) rfl ?_ ?_ ?_
          rotate_left 2
          · intro w' hk; go_simp; try rfl
          · simp only [Act.put, List.setIfInBounds_toArray, List.set_cons_succ, List.set_cons_zero]; try rfl
          refine flowt_read 14 (v := ?_) (a' := ?_) hps rfl (by kernel_rfl) rfl ?_ ?_ ?_
          rotate_left 2
          · intro w' hk; have c1 := hk; go_simp; try rfl
          · simp only [Act.put, List.setIfInBounds_toArray, List.set_cons_succ, List.set_cons_zero]; try rfl
          refine flowt_take 15 (v := ?_) (a' := ?_) hps rfl (by kernel_rfl) rfl ?_ ?_ ?_
          rotate_left 2
          · intro w' hk; go_simp; try rfl
          · simp only [Act.put, List.setIfInBounds_toArray, List.set_cons_succ, List.set_cons_zero]; try rfl
          refine flowt_take 16 (v := ?_) (a' := ?_) hps rfl (by kernel_rfl) rfl ?_ ?_ ?_
          rotate_left 2
          · intro w' hk; go_simp; try rfl
          · simp only [Act.put, List.setIfInBounds_toArray, List.set_cons_succ, List.set_cons_zero]; try rfl
          refine flowt_any [1, 9] hps (by kernel_rfl) (by simp) (fun i hi => ?_)
          simp only [List.mem_cons, List.not_mem_nil, or_false] at hi
          rcases hi with rfl | rfl
          · refine ⟨_, rfl, rfl, wp_next (fun K hK => ?_)⟩
            refine ds0_at TX.out rfl ?_
            intro g7 w7 h7
            replace TX := Lib.hid (St.drop2 h7)
            clear h7
            have kp := (hp_cells TX.out.tail.tail).2.2.1
            refine hK _ _ ⟨fun _ => kp, ?_⟩
            clear kp hK
            refine flowt_any [8, 9] hps (by kernel_rfl) (by simp) (fun i hi => ?_)
            simp only [List.mem_cons, List.not_mem_nil, or_false] at hi
            rcases hi with rfl | rfl
            · refine ⟨_, rfl, rfl, wp_next (fun K hK => ?_)⟩
              refine ds_app_at TX.out 0 rfl _ _ rfl rfl _ _ _ (([] : List Value).take 0) rfl (by have hx := ds_sl TX.out (i := 4) rfl; exact hx) (fun u hu => HONE.out u (List.mem_of_mem_take hu)) (by rw [List.length_nil]; omega) ?_
              intro vA wA hA
              replace TX := Lib.hid hA
              clear hA
              have kp := (hp_cells TX.out.tail.tail).2.2.1
              refine hK _ _ ⟨fun _ => kp, ?_⟩
              clear kp hK
              refine flowt_one 9 hps rfl (by kernel_rfl) rfl (wp_next (fun K hK => ?_))
              refine litd_at TX.out _ rfl rfl ?_
              intro g8 w8 h8
              replace TX := Lib.hid (St.drop3 (St.swap h8))
              clear h8
              have kp := (hp_cells TX.out.tail.tail).2.2.1
              refine hK _ _ ⟨fun _ => kp, ?_⟩
              clear kp hK
              refine flowt_one 10 hps rfl (by kernel_rfl) rfl (wp_next (fun K hK => ?_))
              refine ds_app_at TX.out 0 rfl _ _ rfl rfl _ _ _ [none0] rfl (ds_sl TX.out (i := 1) rfl) (fun u hu => by rw [List.mem_singleton.1 hu]; rfl) (by simp) ?_
              intro vA3 wA3 hA
              replace TX := Lib.hid hA
              clear hA
              have kp := (hp_cells TX.out.tail.tail).2.2.1
              refine hK _ _ ⟨fun _ => kp, ?_⟩
              clear kp hK
              refine flowt_one 17 hps rfl (by kernel_rfl) rfl (wp_next (fun K hK => ?_))
              refine ds_app_at TX.out 0 rfl _ _ rfl rfl _ _ _ (([] : List Value).drop 0) rfl (by have hx := ds_sl TX.out (i := 4) rfl; exact hx) (fun u hu => HONE.out u (List.mem_of_mem_drop hu)) (by simp) ?_
              intro vA4 wA4 hA
              replace TX := Lib.hid hA
              clear hA
              have kp := (hp_cells TX.out.tail.tail).2.2.1
              refine hK _ _ ⟨fun _ => kp, ?_⟩
              clear kp hK
              refine flowt_take 18 (v := ?_) (a' := ?_) hps rfl (by kernel_rfl) rfl ?_ ?_ ?_
              rotate_left 2
              · intro w' hk; go_simp; try rfl
              · simp only [Act.put, List.setIfInBounds_toArray, List.set_cons_succ, List.set_cons_zero]; try rfl
              refine flowt_take 19 (v := ?_) (a' := ?_) hps rfl (by kernel_rfl) rfl ?_ ?_ ?_
              rotate_left 2
              · intro w' hk; go_simp; try rfl
              · simp only [Act.put, List.setIfInBounds_toArray, List.set_cons_succ, List.set_cons_zero]; try rfl
              refine flowt_one 20 hps rfl (by kernel_rfl) rfl (wp_next (fun K hK => ?_))
              refine hp_newD_at (TX.out.sub (.cons_cons _ (.cons _ (List.Sublist.refl _)))) _ _ 44 rfl rfl rfl (by kernel_rfl) ?_
              intro wC hC
              replace TX := Lib.hid hC
              clear hC
              refine hK _ _ ⟨fun h => absurd (show true = false from h) (by decide), ?_⟩
              clear hK
              refine flowt_done hps (by kernel_rfl) ?_
              skip
              try generalize (if cd = 0 then (some ⟨gd, 0, none⟩ : Option Addr) else some ⟨gd, 0, none⟩) = aY
              rw [List.nil_append] at TX
              go_wp2
              go_end0
              exact ⟨rfl, _, _, by have := TX.out; simp only [List.append_assoc, List.singleton_append] at this; exact this⟩
            · refine ⟨_, rfl, rfl, wp_next (fun K hK => ?_)⟩
              refine litd_at TX.out _ rfl rfl ?_
              intro g8 w8 h8
              replace TX := Lib.hid (St.drop3 (St.swap h8))
              clear h8
              have kp := (hp_cells TX.out.tail.tail).2.2.1
              refine hK _ _ ⟨fun _ => kp, ?_⟩
              clear kp hK
              refine flowt_one 8 hps rfl (by kernel_rfl) rfl (wp_next (fun K hK => ?_))
              refine ds_app_at TX.out 0 rfl _ _ rfl rfl _ _ _ (([] : List Value).take 0) rfl (by have hx := ds_sl TX.out (i := 4) rfl; exact hx) (fun u hu => HONE.out u (List.mem_of_mem_take hu)) (by rw [List.length_nil]; omega) ?_
              intro vA wA hA
              replace TX := Lib.hid hA
              clear hA
              have kp := (hp_cells TX.out.tail.tail).2.2.1
              refine hK _ _ ⟨fun _ => kp, ?_⟩
              clear kp hK
              refine flowt_one 10 hps rfl (by kernel_rfl) rfl (wp_next (fun K hK => ?_))
              refine ds_app_at TX.out 0 rfl _ _ rfl rfl _ _ _ [none0] rfl (ds_sl TX.out (i := 1) rfl) (fun u hu => by rw [List.mem_singleton.1 hu]; rfl) (by simp) ?_
              intro vA3 wA3 hA
              replace TX := Lib.hid hA
              clear hA
              have kp := (hp_cells TX.out.tail.tail).2.2.1
              refine hK _ _ ⟨fun _ => kp, ?_⟩
              clear kp hK
              refine flowt_one 17 hps rfl (by kernel_rfl) rfl (wp_next (fun K hK => ?_))
              refine ds_app_at TX.out 0 rfl _ _ rfl rfl _ _ _ (([] : List Value).drop 0) rfl (by have hx := ds_sl TX.out (i := 4) rfl; exact hx) (fun u hu => HONE.out u (List.mem_of_mem_drop hu)) (by simp) ?_
              intro vA4 wA4 hA
              replace TX := Lib.hid hA
              clear hA
              have kp := (hp_cells TX.out.tail.tail).2.2.1
              refine hK _ _ ⟨fun _ => kp, ?_⟩
              clear kp hK
              refine flowt_take 18 (v := ?_) (a' := ?_) hps rfl (by kernel_rfl) rfl ?_ ?_ ?_
              rotate_left 2
              · intro w' hk; go_simp; try rfl
              · simp only [Act.put, List.setIfInBounds_toArray, List.set_cons_succ, List.set_cons_zero]; try rfl
              refine flowt_take 19 (v := ?_) (a' := ?_) hps rfl (by kernel_rfl) rfl ?_ ?_ ?_
              rotate_left 2
              · intro w' hk; go_simp; try rfl
              · simp only [Act.put, List.setIfInBounds_toArray, List.set_cons_succ, List.set_cons_zero]; try rfl
              refine flowt_one 20 hps rfl (by kernel_rfl) rfl (wp_next (fun K hK => ?_))
              refine hp_newD_at (TX.out.sub (.cons_cons _ (.cons _ (List.Sublist.refl _)))) _ _ 44 rfl rfl rfl (by kernel_rfl) ?_
              intro wC hC
              replace TX := Lib.hid hC
              clear hC
              refine hK _ _ ⟨fun h => absurd (show true = false from h) (by decide), ?_⟩
              clear hK
              refine flowt_done hps (by kernel_rfl) ?_
              skip
              try generalize (if cd = 0 then (some ⟨gd, 0, none⟩ : Option Addr) else some ⟨gd, 0, none⟩) = aY
              rw [List.nil_append] at TX
              go_wp2
              go_end0
              exact ⟨rfl, _, _, by have := TX.out; simp only [List.append_assoc, List.singleton_append] at this; exact this⟩
          · refine ⟨_, rfl, rfl, wp_next (fun K hK => ?_)⟩
            refine litd_at TX.out _ rfl rfl ?_
            intro g8 w8 h8
            replace TX := Lib.hid (St.drop3 (St.swap h8))
            clear h8
            have kp := (hp_cells TX.out.tail.tail).2.2.1
            refine hK _ _ ⟨fun _ => kp, ?_⟩
            clear kp hK
            refine flowt_one 1 hps rfl (by kernel_rfl) rfl (wp_next (fun K hK => ?_))
            refine ds0_at TX.out rfl ?_
            intro g7 w7 h7
            replace TX := Lib.hid (St.drop2 h7)
            clear h7
            have kp := (hp_cells TX.out.tail.tail).2.2.1
            refine hK _ _ ⟨fun _ => kp, ?_⟩
            clear kp hK
            refine flowt_one 8 hps rfl (by kernel_rfl) rfl (wp_next (fun K hK => ?_))
            refine ds_app_at TX.out 0 rfl _ _ rfl rfl _ _ _ (([] : List Value).take 0) rfl (by have hx := ds_sl TX.out (i := 4) rfl; exact hx) (fun u hu => HONE.out u (List.mem_of_mem_take hu)) (by rw [List.length_nil]; omega) ?_
            intro vA wA hA
            replace TX := Lib.hid hA
            clear hA
            have kp := (hp_cells TX.out.tail.tail).2.2.1
            refine hK _ _ ⟨fun _ => kp, ?_⟩
            clear kp hK
            refine flowt_one 10 hps rfl (by kernel_rfl) rfl (wp_next (fun K hK => ?_))
            refine ds_app_at TX.out 0 rfl _ _ rfl rfl _ _ _ [none0] rfl (ds_sl TX.out (i := 1) rfl) (fun u hu => by rw [List.mem_singleton.1 hu]; rfl) (by simp) ?_
            intro vA3 wA3 hA
            replace TX := Lib.hid hA
            clear hA
            have kp := (hp_cells TX.out.tail.tail).2.2.1
            refine hK _ _ ⟨fun _ => kp, ?_⟩
            clear kp hK
            refine flowt_one 17 hps rfl (by kernel_rfl) rfl (wp_next (fun K hK => ?_))
            refine ds_app_at TX.out 0 rfl _ _ rfl rfl _ _ _ (([] : List Value).drop 0) rfl (by have hx := ds_sl TX.out (i := 4) rfl; exact hx) (fun u hu => HONE.out u (List.mem_of_mem_drop hu)) (by simp) ?_
            intro vA4 wA4 hA
            replace TX := Lib.hid hA
            clear hA
            have kp := (hp_cells TX.out.tail.tail).2.2.1
            refine hK _ _ ⟨fun _ => kp, ?_⟩
            clear kp hK
            refine flowt_take 18 (v := ?_) (a' := ?_) hps rfl (by kernel_rfl) rfl ?_ ?_ ?_
            rotate_left 2
            · intro w' hk; go_simp; try rfl
            · simp only [Act.put, List.setIfInBounds_toArray, List.set_cons_succ, List.set_cons_zero]; try rfl
            refine flowt_take 19 (v := ?_) (a' := ?_) hps rfl (by kernel_rfl) rfl ?_ ?_ ?_
            rotate_left 2
            · intro w' hk; go_simp; try rfl
            · simp only [Act.put, List.setIfInBounds_toArray, List.set_cons_succ, List.set_cons_zero]; try rfl
            refine flowt_one 20 hps rfl (by kernel_rfl) rfl (wp_next (fun K hK => ?_))
            refine hp_newD_at (TX.out.sub (.cons_cons _ (.cons _ (List.Sublist.refl _)))) _ _ 44 rfl rfl rfl (by kernel_rfl) ?_
            intro wC hC
            replace TX := Lib.hid hC
            clear hC
            refine hK _ _ ⟨fun h => absurd (show true = false from h) (by decide), ?_⟩
            clear hK
            refine flowt_done hps (by kernel_rfl) ?_
            skip
            try generalize (if cd = 0 then (some ⟨gd, 0, none⟩ : Option Addr) else some ⟨gd, 0, none⟩) = aY
            rw [List.nil_append] at TX
            go_wp2
            go_end0
            exact ⟨rfl, _, _, by have := TX.out; simp only [List.append_assoc, List.singleton_append] at this; exact this⟩
      · refine ⟨_, rfl, rfl, wp_next (fun K hK => ?_)⟩
        refine litb_at TX.out x _ rfl O S rfl HO.out HS.out ?_
        intro g8 w8 h8
        replace TX := Lib.hid (St.drop3 (St.swap h8))
        clear h8
        have kp := And.intro (hp_cells TX.out.tail.tail.tail).2.1 (TX.out.row (i := 2) rfl)
        refine hK _ _ ⟨fun _ => kp, ?_⟩
        clear kp hK
        refine flowt_one 1 hps rfl (by kernel_rfl) rfl (wp_next (fun K hK => ?_))
        refine bls0_at TX.out rfl ?_
        intro g7 w7 h7
        replace TX := Lib.hid (St.drop2 h7)
        clear h7
        have kp := And.intro (hp_cells TX.out.tail.tail.tail).2.1 (TX.out.row (i := 2) rfl)
        refine hK _ _ ⟨fun _ => kp, ?_⟩
        clear kp hK
        refine flowt_one 8 hps rfl (by kernel_rfl) rfl (wp_next (fun K hK => ?_))
        refine bls_app_at TX.out 0 rfl _ _ rfl rfl _ _ _ (([] : List Blk).take 0) rfl (by exact Sl.nil _ _) (by rw [List.length_nil]; omega) ?_
        intro vA wA hA
        replace TX := Lib.hid hA
        clear hA
        have kp := And.intro (hp_cells TX.out.tail.tail.tail).2.1 (TX.out.row (i := 2) rfl)
        refine hK _ _ ⟨fun _ => kp, ?_⟩
        clear kp hK
        refine flowt_one 11 hps rfl (by kernel_rfl) rfl (wp_next (fun K hK => ?_))
        refine bls_app_at TX.out 0 rfl _ _ rfl rfl _ _ _ [x] rfl (bls_sl TX.out (i := 1) rfl).2 (by simp) ?_
        intro vA3 wA3 hA
        replace TX := Lib.hid hA
        clear hA
        have kp := And.intro (hp_cells TX.out.tail.tail.tail).2.1 (TX.out.row (i := 2) rfl)
        refine hK _ _ ⟨fun _ => kp, ?_⟩
        clear kp hK
        refine flowt_one 18 hps rfl (by kernel_rfl) rfl (wp_next (fun K hK => ?_))
        refine bls_app_at TX.out 0 rfl _ _ rfl rfl _ _ _ (([] : List Blk).drop 0) rfl (by exact Sl.nil _ _) (by simp) ?_
        intro vA2 wA2 hA
        replace TX := Lib.hid hA
        clear hA
        have kp := And.intro (hp_cells TX.out.tail.tail.tail).2.1 (TX.out.row (i := 2) rfl)
        refine hK _ _ ⟨fun _ => kp, ?_⟩
        clear kp hK
        refine flowt_take 19 (v := ?_) (a' := ?_) hps rfl (by kernel_rfl) rfl ?_ ?_ ?_
        rotate_left 2
        · intro w' hk; go_simp; try rfl
        · simp only [Act.put, List.setIfInBounds_toArray, List.set_cons_succ, List.set_cons_zero]; try rfl
        refine flowt_take 20 (v := ?_) (a' := ?_) hps rfl (by kernel_rfl) rfl ?_ ?_ ?_
        rotate_left 2
        · intro w' hk; go_simp; try rfl
        · simp only [Act.put, List.setIfInBounds_toArray, List.set_cons_succ, List.set_cons_zero]; try rfl
        refine flowt_one 21 hps rfl (by kernel_rfl) rfl (wp_next (fun K hK => ?_))
        refine hp_newB_at (TX.out.sub (.cons_cons _ (.cons _ (.cons _ (List.Sublist.refl _))))) _ _ 75 rfl rfl rfl (by kernel_rfl) ?_
        intro wB hB
        replace TX := Lib.hid hB
        clear hB
        refine hK _ _ ⟨fun h => absurd (show true = false from h) (by decide), ?_⟩
        clear hK
        refine flowt_done hps (by kernel_rfl) ?_
        skip
        skip
        rw [List.nil_append] at TX
        replace TX := Lib.hid (show St B w0 wB.drew (DsO (.slice none 0 0) [] :: DsO (.slice none 0 0) [] :: HpX q cap vA2 (.slice (some ⟨gd, 0, none⟩) 0 cd) vl ss (([] : List Blk).take 0 ++ [x] ++ ([] : List Blk).drop 0) ([] : List Value) ls l) from (TX.out.drew.addOwn (Below.refl _ _) (World.ownsRow_nil _ _ _ _)).addOwn (Below.refl _ _) (World.ownsRow_nil _ _ _ _))
        go_wp2
        refine flowt_begin 20 (S := fun w' => w'.cell? ⟨q, 2, none⟩ = some (.slice (some ⟨gd, 0, none⟩) 0 cd)) hmixed 21 rfl (by repeat (first | with_reducible refine ps_then ?_ | with_reducible refine ps_block ?_ | with_reducible exact ps_body | refine ps_then ?_ | refine ps_block ?_ | exact ps_body)) (hp_cells TX.out.tail.tail).2.2.1 (fun hps => ?_)
        simp only [List.replicate]
        generalize wB.drew = wy at TX ⊢
        refine flowt_take 0 (v := ?_) (a' := ?_) hps rfl (by kernel_rfl) rfl ?_ ?_ ?_
        rotate_left 2
        · intro w' hk; go_simp; try rfl
        · simp only [Act.put, List.setIfInBounds_toArray, List.set_cons_succ, List.set_cons_zero]; try rfl
        refine flowt_take 2 (v := ?_) (a' := ?_) hps rfl (by kernel_rfl) rfl ?_ ?_ ?_
        rotate_left 2
        · intro w' hk; go_simp; try rfl
        · simp only [Act.put, List.setIfInBounds_toArray, List.set_cons_succ, List.set_cons_zero]; try rfl
        refine flowt_take 3 (v := ?_) (a' := ?_) hps rfl (by kernel_rfl) rfl ?_ ?_ ?_
        rotate_left 2
        · intro w' hk; go_simp; try rfl
        · simp only [Act.put, List.setIfInBounds_toArray, List.set_cons_succ, List.set_cons_zero]; try rfl
        refine flowt_take 4 (v := ?_) (a' := ?_) hps rfl (by kernel_rfl) rfl ?_ ?_ ?_
        rotate_left 2
        · intro w' hk; go_simp; try rfl
        · simp only [Act.put, List.setIfInBounds_toArray, List.set_cons_succ, List.set_cons_zero]; try rfl
        refine flowt_read 5 (v := ?_) (a' := ?_) hps rfl (by kernel_rfl) rfl ?_ ?_ ?_
        rotate_left 2
        · intro w' hk; have c1 := hk; go_simp; try rfl
        · simp only [Act.put, List.setIfInBounds_toArray, List.set_cons_succ, List.set_cons_zero]; try rfl
        refine flowt_take 6 (v := ?_) (a' := ?_) hps rfl (by kernel_rfl) rfl ?_ ?_ ?_
        rotate_left 2
        · intro w' hk; go_simp; try rfl
        · simp only [Act.put, List.setIfInBounds_toArray, List.set_cons_succ, List.set_cons_zero]; try rfl
        refine flowt_take 7 (v := ?_) (a' := ?_) hps rfl (by kernel_rfl) rfl ?_ ?_ ?_
        rotate_left 2
        · intro w' hk; go_simp; try rfl
        · simp only [Act.put, List.setIfInBounds_toArray, List.set_cons_succ, List.set_cons_zero]; try rfl
        refine flowt_take 11 (v := ?_) (a' := ?_) hps rfl (by kernel_rfl) rfl ?_ ?_ ?_
        rotate_left 2
        · intro w' hk; go_simp; try rfl
        · simp only [Act.put, List.setIfInBounds_toArray, List.set_cons_succ, List.set_cons_zero]; try rfl
        refine flowt_take 12 (v := ?_) (a' := ?_) hps rfl (by kernel_rfl) rfl ?_ ?_ ?_
        rotate_left 2
        · intro w' hk; go_simp; try rfl
        · simp only [Act.put, List.setIfInBounds_toArray, List.set_cons_succ, List.set_cons_zero]; try rfl
        refine flowt_take 13 (v := ?_) (a' := ?_) hps rfl (by kernel_rfl) rfl ?_ ?_ ?_
        rotate_left 2
        · intro w' hk; go_simp; try rfl
        · simp only [Act.put, List.setIfInBounds_toArray, List.set_cons_succ, List.set_cons_zero]; try rfl
        refine flowt_read 14 (v := ?_) (a' := ?_) hps rfl (by kernel_rfl) rfl ?_ ?_ ?_
        rotate_left 2
        · intro w' hk; have c1 := hk; go_simp; try rfl
        · simp only [Act.put, List.setIfInBounds_toArray, List.set_cons_succ, List.set_cons_zero]; try rfl
        refine flowt_take 15 (v := ?_) (a' := ?_) hps rfl (by kernel_rfl) rfl ?_ ?_ ?_
        rotate_left 2
        · intro w' hk; go_simp; try rfl
        · simp only [Act.put, List.setIfInBounds_toArray, List.set_cons_succ, List.set_cons_zero]; try rfl
        refine flowt_take 16 (v := ?_) (a' := ?_) hps rfl (by kernel_rfl) rfl ?_ ?_ ?_
        rotate_left 2
        · intro w' hk; go_simp; try rfl
        · simp only [Act.put, List.setIfInBounds_toArray, List.set_cons_succ, List.set_cons_zero]; try rfl
        refine flowt_any [1, 9] hps (by kernel_rfl) (by simp) (fun i hi => ?_)
        simp only [List.mem_cons, List.not_mem_nil, or_false] at hi
        rcases hi with rfl | rfl
        · refine ⟨_, rfl, rfl, wp_next (fun K hK => ?_)⟩
          refine ds0_at TX.out rfl ?_
          intro g7 w7 h7
          replace TX := Lib.hid (St.drop2 h7)
          clear h7
          have kp := (hp_cells TX.out.tail.tail).2.2.1
          refine hK _ _ ⟨fun _ => kp, ?_⟩
          clear kp hK
          refine flowt_any [8, 9] hps (by kernel_rfl) (by simp) (fun i hi => ?_)
          simp only [List.mem_cons, List.not_mem_nil, or_false] at hi
          rcases hi with rfl | rfl
          · refine ⟨_, rfl, rfl, wp_next (fun K hK => ?_)⟩
            refine ds_app_at TX.out 0 rfl _ _ rfl rfl _ _ _ (([] : List Value).take 0) rfl (by have hx := ds_sl TX.out (i := 4) rfl; exact hx) (fun u hu => HONE.out u (List.mem_of_mem_take hu)) (by rw [List.length_nil]; omega) ?_
            intro vA wA hA
            replace TX := Lib.hid hA
            clear hA
            have kp := (hp_cells TX.out.tail.tail).2.2.1
            refine hK _ _ ⟨fun _ => kp, ?_⟩
            clear kp hK
            refine flowt_one 9 hps rfl (by kernel_rfl) rfl (wp_next (fun K hK => ?_))
            refine litd_at TX.out _ rfl rfl ?_
            intro g8 w8 h8
            replace TX := Lib.hid (St.drop3 (St.swap h8))
            clear h8
            have kp := (hp_cells TX.out.tail.tail).2.2.1
            refine hK _ _ ⟨fun _ => kp, ?_⟩
            clear kp hK
            refine flowt_one 10 hps rfl (by kernel_rfl) rfl (wp_next (fun K hK => ?_))
            refine ds_app_at TX.out 0 rfl _ _ rfl rfl _ _ _ [none0] rfl (ds_sl TX.out (i := 1) rfl) (fun u hu => by rw [List.mem_singleton.1 hu]; rfl) (by simp) ?_
            intro vA3 wA3 hA
            replace TX := Lib.hid hA
            clear hA
            have kp := (hp_cells TX.out.tail.tail).2.2.1
            refine hK _ _ ⟨fun _ => kp, ?_⟩
            clear kp hK
            refine flowt_one 17 hps rfl (by kernel_rfl) rfl (wp_next (fun K hK => ?_))
            refine ds_app_at TX.out 0 rfl _ _ rfl rfl _ _ _ (([] : List Value).drop 0) rfl (by have hx := ds_sl TX.out (i := 4) rfl; exact hx) (fun u hu => HONE.out u (List.mem_of_mem_drop hu)) (by simp) ?_
            intro vA4 wA4 hA
            replace TX := Lib.hid hA
            clear hA
            have kp := (hp_cells TX.out.tail.tail).2.2.1
            refine hK _ _ ⟨fun _ => kp, ?_⟩
            clear kp hK
            refine flowt_take 18 (v := ?_) (a' := ?_) hps rfl (by kernel_rfl) rfl ?_ ?_ ?_
            rotate_left 2
            · intro w' hk; go_simp; try rfl
            · simp only [Act.put, List.setIfInBounds_toArray, List.set_cons_succ, List.set_cons_zero]; try rfl
            refine flowt_take 19 (v := ?_) (a' := ?_) hps rfl (by kernel_rfl) rfl ?_ ?_ ?_
            rotate_left 2
            · intro w' hk; go_simp; try rfl
            · simp only [Act.put, List.setIfInBounds_toArray, List.set_cons_succ, List.set_cons_zero]; try rfl
            refine flowt_one 20 hps rfl (by kernel_rfl) rfl (wp_next (fun K hK => ?_))
            refine hp_newD_at (TX.out.sub (.cons_cons _ (.cons _ (List.Sublist.refl _)))) _ _ 44 rfl rfl rfl (by kernel_rfl) ?_
            intro wC hC
            replace TX := Lib.hid hC
            clear hC
            refine hK _ _ ⟨fun h => absurd (show true = false from h) (by decide), ?_⟩
            clear hK
            refine flowt_done hps (by kernel_rfl) ?_
            skip
            try generalize (if cd = 0 then (some ⟨gd, 0, none⟩ : Option Addr) else some ⟨gd, 0, none⟩) = aY
            rw [List.nil_append] at TX
            go_wp2
            go_end0
            exact ⟨rfl, _, _, by have := TX.out; simp only [List.append_assoc, List.singleton_append] at this; exact this⟩
          · refine ⟨_, rfl, rfl, wp_next (fun K hK => ?_)⟩
            refine litd_at TX.out _ rfl rfl ?_
            intro g8 w8 h8
            replace TX := Lib.hid (St.drop3 (St.swap h8))
            clear h8
            have kp := (hp_cells TX.out.tail.tail).2.2.1
            refine hK _ _ ⟨fun _ => kp, ?_⟩
            clear kp hK
            refine flowt_one 8 hps rfl (by kernel_rfl) rfl (wp_next (fun K hK => ?_))
            refine ds_app_at TX.out 0 rfl _ _ rfl rfl _ _ _ (([] : List Value).take 0) rfl (by have hx := ds_sl TX.out (i := 4) rfl; exact hx) (fun u hu => HONE.out u (List.mem_of_mem_take hu)) (by rw [List.length_nil]; omega) ?_
            intro vA wA hA
            replace TX := Lib.hid hA
            clear hA
            have kp := (hp_cells TX.out.tail.tail).2.2.1
            refine hK _ _ ⟨fun _ => kp, ?_⟩
            clear kp hK
            refine flowt_one 10 hps rfl (by kernel_rfl) rfl (wp_next (fun K hK => ?_))
            refine ds_app_at TX.out 0 rfl _ _ rfl rfl _ _ _ [none0] rfl (ds_sl TX.out (i := 1) rfl) (fun u hu => by rw [List.mem_singleton.1 hu]; rfl) (by simp) ?_
            intro vA3 wA3 hA
            replace TX := Lib.hid hA
            clear hA
            have kp := (hp_cells TX.out.tail.tail).2.2.1
            refine hK _ _ ⟨fun _ => kp, ?_⟩
            clear kp hK
            refine flowt_one 17 hps rfl (by kernel_rfl) rfl (wp_next (fun K hK => ?_))
            refine ds_app_at TX.out 0 rfl _ _ rfl rfl _ _ _ (([] : List Value).drop 0) rfl (by have hx := ds_sl TX.out (i := 4) rfl; exact hx) (fun u hu => HONE.out u (List.mem_of_mem_drop hu)) (by simp) ?_
            intro vA4 wA4 hA
            replace TX := Lib.hid hA
            clear hA
            have kp := (hp_cells TX.out.tail.tail).2.2.1
            refine hK _ _ ⟨fun _ => kp, ?_⟩
            clear kp hK
            refine flowt_take 18 (v := ?_) (a' := ?_) hps rfl (by kernel_rfl) rfl ?_ ?_ ?_
            rotate_left 2
            · intro w' hk; go_simp; try rfl
            · simp only [Act.put, List.setIfInBounds_toArray, List.set_cons_succ, List.set_cons_zero]; try rfl
            refine flowt_take 19 (v := ?_) (a' := ?_) hps rfl (by kernel_rfl) rfl ?_ ?_ ?_
            rotate_left 2
            · intro w' hk; go_simp; try rfl
            · simp only [Act.put, List.setIfInBounds_toArray, List.set_cons_succ, List.set_cons_zero]; try rfl
            refine flowt_one 20 hps rfl (by kernel_rfl) rfl (wp_next (fun K hK => ?_))
            refine hp_newD_at (TX.out.sub (.cons_cons _ (.cons _ (List.Sublist.refl _)))) _ _ 44 rfl rfl rfl (by kernel_rfl) ?_
            intro wC hC
            replace TX := Lib.hid hC
            clear hC
            refine hK _ _ ⟨fun h => absurd (show true = false from h) (by decide), ?_⟩
            clear hK
            refine flowt_done hps (by kernel_rfl) ?_
            skip
            try generalize (if cd = 0 then (some ⟨gd, 0, none⟩ : Option Addr) else some ⟨gd, 0, none⟩) = aY
            rw [List.nil_append] at TX
            go_wp2
            go_end0
            exact ⟨rfl, _, _, by have := TX.out; simp only [List.append_assoc, List.singleton_append] at this; exact this⟩
        · refine ⟨_, rfl, rfl, wp_next (fun K hK => ?_)⟩
          refine litd_at TX.out _ rfl rfl ?_
          intro g8 w8 h8
          replace TX := Lib.hid (St.drop3 (St.swap h8))
          clear h8
          have kp := (hp_cells TX.out.tail.tail).2.2.1
          refine hK _ _ ⟨fun _ => kp, ?_⟩
          clear kp hK
          refine flowt_one 1 hps rfl (by kernel_rfl) rfl (wp_next (fun K hK => ?_))
          refine ds0_at TX.out rfl ?_
          intro g7 w7 h7
          replace TX := Lib.hid (St.drop2 h7)
          clear h7
          have kp := (hp_cells TX.out.tail.tail).2.2.1
          refine hK _ _ ⟨fun _ => kp, ?_⟩
          clear kp hK
          refine flowt_one 8 hps rfl (by kernel_rfl) rfl (wp_next (fun K hK => ?_))
          refine ds_app_at TX.out 0 rfl _ _ rfl rfl _ _ _ (([] : List Value).take 0) rfl (by have hx := ds_sl TX.out (i := 4) rfl; exact hx) (fun u hu => HONE.out u (List.mem_of_mem_take hu)) (by rw [List.length_nil]; omega) ?_
          intro vA wA hA
          replace TX := Lib.hid hA
          clear hA
          have kp := (hp_cells TX.out.tail.tail).2.2.1
          refine hK _ _ ⟨fun _ => kp, ?_⟩
          clear kp hK
          refine flowt_one 10 hps rfl (by kernel_rfl) rfl (wp_next (fun K hK => ?_))
          refine ds_app_at TX.out 0 rfl _ _ rfl rfl _ _ _ [none0] rfl (ds_sl TX.out (i := 1) rfl) (fun u hu => by rw [List.mem_singleton.1 hu]; rfl) (by simp) ?_
          intro vA3 wA3 hA
          replace TX := Lib.hid hA
          clear hA
          have kp := (hp_cells TX.out.tail.tail).2.2.1
          refine hK _ _ ⟨fun _ => kp, ?_⟩
          clear kp hK
          refine flowt_one 17 hps rfl (by kernel_rfl) rfl (wp_next (fun K hK => ?_))
          refine ds_app_at TX.out 0 rfl _ _ rfl rfl _ _ _ (([] : List Value).drop 0) rfl (by have hx := ds_sl TX.out (i := 4) rfl; exact hx) (fun u hu => HONE.out u (List.mem_of_mem_drop hu)) (by simp) ?_
          intro vA4 wA4 hA
          replace TX := Lib.hid hA
          clear hA
          have kp := (hp_cells TX.out.tail.tail).2.2.1
          refine hK _ _ ⟨fun _ => kp, ?_⟩
          clear kp hK
          refine flowt_take 18 (v := ?_) (a' := ?_) hps rfl (by kernel_rfl) rfl ?_ ?_ ?_
          rotate_left 2
          · intro w' hk; go_simp; try rfl
          · simp only [Act.put, List.setIfInBounds_toArray, List.set_cons_succ, List.set_cons_zero]; try rfl
          refine flowt_take 19 (v := ?_) (a' := ?_) hps rfl (by kernel_rfl) rfl ?_ ?_ ?_
          rotate_left 2
          · intro w' hk; go_simp; try rfl
          · simp only [Act.put, List.setIfInBounds_toArray, List.set_cons_succ, List.set_cons_zero]; try rfl
          refine flowt_one 20 hps rfl (by kernel_rfl) rfl (wp_next (fun K hK => ?_))
          refine hp_newD_at (TX.out.sub (.cons_cons _ (.cons _ (List.Sublist.refl _)))) _ _ 44 rfl rfl rfl (by kernel_rfl) ?_
          intro wC hC
          replace TX := Lib.hid hC
          clear hC
          refine hK _ _ ⟨fun h => absurd (show true = false from h) (by decide), ?_⟩
          clear hK
          refine flowt_done hps (by kernel_rfl) ?_
          skip
          try generalize (if cd = 0 then (some ⟨gd, 0, none⟩ : Option Addr) else some ⟨gd, 0, none⟩) = aY
          rw [List.nil_append] at TX
          go_wp2
          go_end0
          exact ⟨rfl, _, _, by have := TX.out; simp only [List.append_assoc, List.singleton_append] at this; exact this⟩
  obtain ⟨gb, _, _, e2, _⟩ := H.out.own (i := 1) rfl |>.2 |>.resolve_left (fun e => by cases e.1)
  cases e2
  rcases ad with _ | ⟨bd⟩
  · have hs := ds_sl H.out (i := 2) rfl
    obtain rfl : cd = 0 := hs.nilcap rfl
    obtain rfl : D = [] := List.eq_nil_of_length_eq_zero (by omega)
    obtain rfl : L = [] := List.eq_nil_of_length_eq_zero (by have := HD.out; simpa using this.symm)
    obtain rfl : i = 0 := by simpa using hi
    clear hs g1 g2 g4 g5 g6 HLT hi hL hcd hrd
    exact Bool.noConfusion hnb
  obtain ⟨gd, _, _, e2, _⟩ := H.out.own (i := 2) rfl |>.2 |>.resolve_left (fun e => by cases e.1)
  cases e2
  exact Bool.noConfusion hnb
end
end Go.Proofs.Ytenbpbnffnodhaa
