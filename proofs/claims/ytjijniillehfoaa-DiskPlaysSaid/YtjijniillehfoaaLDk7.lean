/- Whatever deeds a disk and the reference's are put to, the same comes of both. -/
import Derived.Test.YtjijniillehfoaaLDk6
import Derived.Test.YtjijniillehfoaaExtP
import Derived.Deep.MidRow
namespace Go.Own
theorem secs_cut : ∀ (n : Nat) (b : List UInt8), b.length = 512 * n → ∃ L : List (List UInt8), Secs L ∧ L.flatten = b ∧ L.length = n
  | 0, b, h => ⟨[], (fun _ h => by cases h), (List.eq_nil_of_length_eq_zero (by omega)).symm ▸ rfl, rfl⟩
  | n + 1, b, h => by
    obtain ⟨L, h1, h2, h3⟩ := secs_cut n (b.drop 512) (by rw [List.length_drop]; omega)
    refine ⟨b.take 512 :: L, fun s hs => ?_, by rw [List.flatten_cons, h2, List.take_append_drop], by rw [List.length_cons, h3]⟩
    rcases List.mem_cons.1 hs with rfl | hs
    · rw [List.length_take]; omega
    · exact h1 s hs
end Go.Own
namespace Go.Proofs.Ytjijniillehfoaa
open Go Go.RowKit Go.Own
set_option linter.unusedVariables false
set_option maxRecDepth 100000
theorem arg_cell4 {w0 w : World} {l : List Ob} (h : St w0.heap.size w0 w l) {b o : Nat} {v : Value} (hc : w0.cell? ⟨b, o, none⟩ = some v) : w.cell? ⟨b, o, none⟩ = some v := by
  have hb := World.block_lt_of_cell? w0 _ hc
  rw [cell_of_block (w := w0) (p := ⟨b, o, none⟩) (h.keep.block b hb (by show ¬ w0.heap.size ≤ b; simp only at hb; omega))]; exact hc
theorem bs_low {w : World} {a : Option Addr} {n c : Nat} {b : List UInt8} (h : Bs w a n c b) : ∀ q, a = some q → 0 < b.length → q.block < w.heap.size := by
  intro q hq h0
  obtain ⟨b', o, e, hc⟩ := h.at 0 h0
  rw [hq] at e; cases e
  exact World.block_lt_of_cell? w _ hc
theorem ts_low {w : World} {a : Option Addr} {n c : Nat} {b : List Bool} (h : Ts w a n c b) : ∀ q, a = some q → 0 < b.length → q.block < w.heap.size := by
  intro q hq h0
  obtain ⟨b', o, e, hc⟩ := Sl.cells h 0 (.bool b[0]) (by simp [h0])
  rw [hq] at e; cases e
  exact World.block_lt_of_cell? w _ hc
set_option maxHeartbeats 4000000 in
theorem diskPlays (w : World) (a : Option Addr) (n c : Nat) (b : List UInt8) (sec : Int) (a2 : Option Addr) (n2 c2 : Nat) (hb : Bs w a n c b) (hs : (Lit.int .i64 sec).wf = true) (hr : Rd w (.sl shDe4) [.slice a2 n2 c2]) :
    Calls Try.prog 4 #[.slice a n c, .int .i64 sec, .slice a2 n2 c2] w (lawOk w) := by
  obtain ⟨s0, s1⟩ := wfI64 hs
  obtain ⟨ds, sl, hn2, ok⟩ := rd_deeds4 hr
  subst hn2
  have hn := hb.len
  subst hn
  have p1 := Sl.cap hb; have r1 := Sl.room hb
  have p2 := sl.cap; have r2 := sl.room
  have HB := Lib.hid hb; have SL := Lib.hid sl; have OK := Lib.hid ok
  clear hs hr sl ok hb
  go_enter Try.func4, Try.ntmps4
  go_wp2_with fail
  refine (up04 w).mono ?_
  rintro e w1 ⟨rfl, bw1⟩
  have T1 := Lib.hid ((St.start w).below bw1)
  clear bw1
  by_cases hl1 : b.length > 70000
  · have B2 := Lib.hid T1.out.end
    go_wp2
    go_ret
    exact ⟨rfl, B2.out⟩
  by_cases hl2 : ds.length > 100
  · have B2 := Lib.hid T1.out.end
    go_wp2
    go_ret
    exact ⟨rfl, B2.out⟩
  by_cases hf : b.length % 512 = 0 ∧ 1024 ≤ b.length ∧ b.length ≤ 65536
  · obtain ⟨f1, f2, f3⟩ := hf
    obtain ⟨L, hL1, hL2, hL3⟩ := secs_cut (b.length / 512) b (by omega)
    have hLl : 2 ≤ L.length ∧ L.length ≤ 128 := by omega
    obtain ⟨hl3, hl4⟩ := hLl
    have e1 : ((b.length : Int) % 512 == 0) = true := by rw [beq_iff_eq]; omega
    have HL1 := Lib.hid hL1; have HL2 := Lib.hid hL2
    clear hL1 hL2 hL3 f1
    go_wp2_with fail
    have kc := dk_Of T1.out a _ c b (T1.out.bs HB.out (bs_low HB.out)) L HL1.out HL2.out hl3 hl4
    with_reducible refine kc.mono ?_
    clear kc
    rintro e w2 ⟨p, rfl, t2⟩
    have T2 := Lib.hid t2
    clear t2 T1
    by_cases hs : 2 ≤ sec ∧ sec ≤ 128
    · obtain ⟨g1, g2⟩ := hs
      obtain ⟨sn, rfl⟩ := Int.eq_ofNat_of_zero_le (show 0 ≤ sec by omega)
      go_wp2_with fail
      have kc := dk_New T2.out (sn : Int) sn rfl (by omega) (by omega)
      with_reducible refine kc.mono ?_
      clear kc
      rintro e w3 ⟨pf, rfl, t3⟩
      have T3 := Lib.hid t3
      clear t3 T2
      go_wp2_with fail
      have kc := dk_Sectors T3.out (i := 0) rfl
      with_reducible refine kc.mono ?_
      clear kc
      rintro e w' ⟨rfl, rfl⟩
      have hz : (zeroL sn).length = sn := zeroL_len sn
      rw [show (({ L := zeroL sn, wait := [], off := false, left := -1 } : Dk).L.length) = sn from hz]
      have T4 := Lib.hid T3.out.tail
      clear hz T3
      go_wp2_with fail
      have kc := rdk_New T4.out a _ c b (T4.out.bs HB.out (bs_low HB.out)) L HL1.out HL2.out hl3 hl4
      with_reducible refine kc.mono ?_
      clear kc
      rintro e w5 ⟨q, rfl, t5⟩
      have T5 := Lib.hid t5.swap
      clear t5 T4
      go_wp2
      go_loopw [12] (fun v wr => ∃ (k : Nat) (D : Dk), k ≤ ds.length ∧ v = .int .i64 k ∧ D.wait.length ≤ k ∧ St w.heap.size w wr (DkO p D :: RdO q D :: [])) (fun v _ => ds.length - (intOf v).toNat)
      case atStart => exact ⟨0, _, Nat.zero_le _, rfl, Nat.le_refl _, T5.out⟩
      case round =>
        obtain ⟨k, D, hk, rfl, hD, hS⟩ := hrel
        by_cases hlt : k < ds.length
        · obtain ⟨bb, oo, rfl, hcell⟩ := sl_at SL.out de4_len (by decide) k hlt
          have hok := OK.out ds[k] (List.getElem_mem hlt)
          generalize ds[k] = d at *
          have hran : wr.rangeAt bb (oo + k * 6) d.cells := fun j v hj => arg_cell4 hS (hcell j v hj)
          have HS := Lib.hid hS; have HO := Lib.hid hok; have HR := Lib.hid hran
          clear hS hok hcell hran T5
          go_wp2_with (refine wpList_load_mid rfl 33 (.tmp 79) rfl bb (oo + k * 6) rfl d.cells _ HR.out Try.underlying33 rfl (by kernel_rfl) ?_)
          refine (law04_Do wr p q D [] HS.out (by omega) d HO.out (bs_low HO.out.b) (ts_low HO.out.k)).mono ?_
          rintro e w6 ⟨rfl, D', hD', s6⟩
          have S6 := Lib.hid s6
          clear s6 HS HO HR
          go_wp2
          exact ⟨⟨k + 1, D', by omega, by go_num, by omega, S6.out⟩, by simp [intOf]; omega⟩
        · have HS := Lib.hid hS
          obtain ⟨Fd, hfd, _⟩ := dk_of hS.drew (i := 0) rfl
          obtain ⟨Fm, hfm, _⟩ := rd_of hS.drew (i := 1) rfl
          obtain ⟨aL, cL, _, _, hcl, _⟩ := rd_cells hS.drew (i := 1) rfl
          have HFD := Lib.hid hfd; have HFM := Lib.hid hfm
          have HCL := Lib.hid hcl
          have hq := World.block_lt_of_cell? _ _ hcl
          simp only at hq
          have HQ := Lib.hid hq
          clear hfd hfm hS T5 hcl hq
          go_wp2
          refine flowe_begin (F := fun _ => False) hmixed 21 rfl (by repeat (first | exact ps_body | refine ps_then ?_ | refine ps_block ?_)) (fun hps => ?_)
          simp only [List.replicate]
          have kk := (Keep.refl (fun _ => False) (wr)).drew
          refine flowe_take 0 (v := ?_) (a' := ?_) hps rfl (by kernel_rfl) rfl ?_ ?_ ?_
          rotate_left 2
          · intro w' hk; go_simp; try rfl
          · simp only [Act.put, List.setIfInBounds_toArray, List.set_cons_succ, List.set_cons_zero]; try rfl
          refine flowe_take 1 (v := ?_) (a' := ?_) hps rfl (by kernel_rfl) rfl ?_ ?_ ?_
          rotate_left 2
          · intro w' hk; go_simp; try rfl
          · simp only [Act.put, List.setIfInBounds_toArray, List.set_cons_succ, List.set_cons_zero]; try rfl
          refine flowe_take 2 (v := ?_) (a' := ?_) hps rfl (by kernel_rfl) rfl ?_ ?_ ?_
          rotate_left 2
          · intro w' hk; go_simp; try rfl
          · simp only [Act.put, List.setIfInBounds_toArray, List.set_cons_succ, List.set_cons_zero]; try rfl
          refine flowe_take 4 (v := ?_) (a' := ?_) hps rfl (by kernel_rfl) rfl ?_ ?_ ?_
          rotate_left 2
          · intro w' hk; go_simp; try rfl
          · simp only [Act.put, List.setIfInBounds_toArray, List.set_cons_succ, List.set_cons_zero]; try rfl
          refine flowe_take 5 (v := ?_) (a' := ?_) hps rfl (by kernel_rfl) rfl ?_ ?_ ?_
          rotate_left 2
          · intro w' hk; go_simp; try rfl
          · simp only [Act.put, List.setIfInBounds_toArray, List.set_cons_succ, List.set_cons_zero]; try rfl
          refine flowe_take 6 (v := ?_) (a' := ?_) hps rfl (by kernel_rfl) rfl ?_ ?_ ?_
          rotate_left 2
          · intro w' hk; go_simp; try rfl
          · simp only [Act.put, List.setIfInBounds_toArray, List.set_cons_succ, List.set_cons_zero]; try rfl
          refine flowe_take 7 (v := ?_) (a' := ?_) hps rfl (by kernel_rfl) rfl ?_ ?_ ?_
          rotate_left 2
          · intro w' hk; have hc : w'.cell? ⟨q, 0, none⟩ = some (.slice aL D.L.length cL) := (by rw [cell_of_block (w := wr.drew) (p := ⟨q, 0, none⟩) (hk.block q HQ.out (fun h => h))]; exact HCL.out); go_simp; try rfl
          · simp only [Act.put, List.setIfInBounds_toArray, List.set_cons_succ, List.set_cons_zero]; try rfl
          refine flowe_take 8 (v := ?_) (a' := ?_) hps rfl (by kernel_rfl) rfl ?_ ?_ ?_
          rotate_left 2
          · intro w' hk; go_simp; try rfl
          · simp only [Act.put, List.setIfInBounds_toArray, List.set_cons_succ, List.set_cons_zero]; try rfl
          refine flowe_one 3 hps rfl (by kernel_rfl) rfl (wp_next (fun K hK => ?_))
          go_simp
          have kc := disk_Sectors wr.drew p D Fd HFD.out
          with_reducible refine kc.mono ?_
          clear kc
          rintro e w' ⟨rfl, rfl⟩
          refine hK _ _ (flow_step kk ?_ ?_)
          · first | exact kp | exact Keep.refl _ _ | exact (Keep.refl _ _).alloc _
          clear kk hK; try clear kp
          intro kk
          refine flowe_take 9 (v := ?_) (a' := ?_) hps rfl (by kernel_rfl) rfl ?_ ?_ ?_
          rotate_left 2
          · intro w' hk; go_simp; try rfl
          · simp only [Act.put, List.setIfInBounds_toArray, List.set_cons_succ, List.set_cons_zero]; try rfl
          refine flowe_take 10 (v := ?_) (a' := ?_) hps rfl (by kernel_rfl) rfl ?_ ?_ ?_
          rotate_left 2
          · intro w' hk; go_simp; try rfl
          · simp only [Act.put, List.setIfInBounds_toArray, List.set_cons_succ, List.set_cons_zero]; try rfl
          refine flowe_take 11 (v := ?_) (a' := ?_) hps rfl (by kernel_rfl) rfl ?_ ?_ ?_
          rotate_left 2
          · intro w' hk; go_simp; try rfl
          · simp only [Act.put, List.setIfInBounds_toArray, List.set_cons_succ, List.set_cons_zero]; try rfl
          refine flowe_take 12 (v := ?_) (a' := ?_) hps rfl (by kernel_rfl) rfl ?_ ?_ ?_
          rotate_left 2
          · intro w' hk; go_simp; try rfl
          · simp only [Act.put, List.setIfInBounds_toArray, List.set_cons_succ, List.set_cons_zero]; try rfl
          refine flowe_take 15 (v := ?_) (a' := ?_) hps rfl (by kernel_rfl) rfl ?_ ?_ ?_
          rotate_left 2
          · intro w' hk; go_simp; try rfl
          · simp only [Act.put, List.setIfInBounds_toArray, List.set_cons_succ, List.set_cons_zero]; try rfl
          refine flowe_one 13 hps rfl (by kernel_rfl) rfl (wp_next (fun K hK => ?_))
          go_simp
          have kc := disk_Bytes wr.drew p D Fd HFD.out
          with_reducible refine kc.mono ?_
          clear kc
          rintro e w3 ⟨v3, rfl, o3, b3⟩
          obtain ⟨a3, c3, rfl, _, hb3⟩ := Sl.of_owned o3
          have hb3 : Bs w3 a3 D.L.flatten.length c3 D.L.flatten := hb3
          generalize D.L.flatten.length = n3 at *
          have HB3 := Lib.hid hb3
          have HR3 := Lib.hid (HFM.out.below b3)
          have kp := Keep.of_below (F := fun _ => False) b3
          clear o3 b3 hb3
          refine hK _ _ (flow_step kk ?_ ?_)
          · first | exact kp | exact Keep.refl _ _ | exact (Keep.refl _ _).alloc _
          clear kk hK; try clear kp
          intro kk
          refine flowe_take 14 (v := ?_) (a' := ?_) hps rfl (by kernel_rfl) rfl ?_ ?_ ?_
          rotate_left 2
          · intro w' hk; have hs := run_s w' (HB3.out.keep hk (fun _ _ h => h)); go_simp; try rfl
          · simp only [Act.put, List.setIfInBounds_toArray, List.set_cons_succ, List.set_cons_zero]; try rfl
          refine flowe_one 16 hps rfl (by kernel_rfl) rfl (wp_next (fun K hK => ?_))
          go_simp
          have kc := rd_Bytes w3 q D Fm HR3.out
          with_reducible refine kc.mono ?_
          clear kc
          rintro e w4 ⟨v4, rfl, o4, b4⟩
          obtain ⟨a4, c4, rfl, _, hb4⟩ := Sl.of_owned o4
          have hb4 : Bs w4 a4 D.L.flatten.length c4 D.L.flatten := hb4
          generalize D.L.flatten.length = n4 at *
          have HB4 := Lib.hid hb4
          have kp := Keep.of_below (F := fun _ => False) b4
          clear o4 b4 hb4
          refine hK _ _ (flow_step kk ?_ ?_)
          · first | exact kp | exact Keep.refl _ _ | exact (Keep.refl _ _).alloc _
          clear kk hK; try clear kp
          intro kk
          refine flowe_take 17 (v := ?_) (a' := ?_) hps rfl (by kernel_rfl) rfl ?_ ?_ ?_
          rotate_left 2
          · intro w' hk; have hs := run_s w' (HB4.out.keep hk (fun _ _ h => h)); go_simp; try rfl
          · simp only [Act.put, List.setIfInBounds_toArray, List.set_cons_succ, List.set_cons_zero]; try rfl
          refine flowe_take 18 (v := ?_) (a' := ?_) hps rfl (by kernel_rfl) rfl ?_ ?_ ?_
          rotate_left 2
          · intro w' hk; go_simp; try rfl
          · simp only [Act.put, List.setIfInBounds_toArray, List.set_cons_succ, List.set_cons_zero]; try rfl
          refine flowe_take 19 (v := ?_) (a' := ?_) hps rfl (by kernel_rfl) rfl ?_ ?_ ?_
          rotate_left 2
          · intro w' hk; go_simp; try rfl
          · simp only [Act.put, List.setIfInBounds_toArray, List.set_cons_succ, List.set_cons_zero]; try rfl
          refine flowe_take 20 (v := ?_) (a' := ?_) hps rfl (by kernel_rfl) rfl ?_ ?_ ?_
          rotate_left 2
          · intro w' hk; go_simp; try rfl
          · simp only [Act.put, List.setIfInBounds_toArray, List.set_cons_succ, List.set_cons_zero]; try rfl
          refine flowe_done hps (by kernel_rfl) ?_
          have BZ := Lib.hid (HS.out.below (kk.below (Nat.le_refl _) fun _ _ h => h)).end
          clear kk
          go_wp2
          go_ret
          exact ⟨rfl, BZ.out⟩
    · have g3 : sec < 2 ∨ 128 < sec := by omega
      go_wp2_with fail
      have kc := disk_New_none w2 sec g3
      with_reducible refine kc.mono ?_
      clear kc
      rintro e w' ⟨rfl, rfl⟩
      have e3 : (if 2 ≤ sec then decide (sec ≤ 128) else false) = false := by
        split
        · rw [decide_eq_false_iff_not]; omega
        · rfl
      by_cases g4 : sec < 2
      · clear hs g3 e3
        go_wp2_with fail
        have kc := rdk_New T2.out a _ c b (T2.out.bs HB.out (bs_low HB.out)) L HL1.out HL2.out hl3 hl4
        with_reducible refine kc.mono ?_
        clear kc
        rintro e w5 ⟨q, rfl, t5⟩
        have T5 := Lib.hid t5.swap
        clear t5 T2
        go_wp2
        go_loopw [12] (fun v wr => ∃ (k : Nat) (D : Dk), k ≤ ds.length ∧ v = .int .i64 k ∧ D.wait.length ≤ k ∧ St w.heap.size w wr (DkO p D :: RdO q D :: [])) (fun v _ => ds.length - (intOf v).toNat)
        case atStart => exact ⟨0, _, Nat.zero_le _, rfl, Nat.le_refl _, T5.out⟩
        case round =>
          obtain ⟨k, D, hk, rfl, hD, hS⟩ := hrel
          by_cases hlt : k < ds.length
          · obtain ⟨bb, oo, rfl, hcell⟩ := sl_at SL.out de4_len (by decide) k hlt
            have hok := OK.out ds[k] (List.getElem_mem hlt)
            generalize ds[k] = d at *
            have hran : wr.rangeAt bb (oo + k * 6) d.cells := fun j v hj => arg_cell4 hS (hcell j v hj)
            have HS := Lib.hid hS; have HO := Lib.hid hok; have HR := Lib.hid hran
            clear hS hok hcell hran T5
            go_wp2_with (refine wpList_load_mid rfl 33 (.tmp 79) rfl bb (oo + k * 6) rfl d.cells _ HR.out Try.underlying33 rfl (by kernel_rfl) ?_)
            refine (law04_Do wr p q D [] HS.out (by omega) d HO.out (bs_low HO.out.b) (ts_low HO.out.k)).mono ?_
            rintro e w6 ⟨rfl, D', hD', s6⟩
            have S6 := Lib.hid s6
            clear s6 HS HO HR
            go_wp2
            exact ⟨⟨k + 1, D', by omega, by go_num, by omega, S6.out⟩, by simp [intOf]; omega⟩
          · have HS := Lib.hid hS
            obtain ⟨Fd, hfd, _⟩ := dk_of hS.drew (i := 0) rfl
            obtain ⟨Fm, hfm, _⟩ := rd_of hS.drew (i := 1) rfl
            obtain ⟨aL, cL, _, _, hcl, _⟩ := rd_cells hS.drew (i := 1) rfl
            have HFD := Lib.hid hfd; have HFM := Lib.hid hfm
            have HCL := Lib.hid hcl
            have hq := World.block_lt_of_cell? _ _ hcl
            simp only at hq
            have HQ := Lib.hid hq
            clear hfd hfm hS T5 hcl hq
            go_wp2
            refine flowe_begin (F := fun _ => False) hmixed 21 rfl (by repeat (first | exact ps_body | refine ps_then ?_ | refine ps_block ?_)) (fun hps => ?_)
            simp only [List.replicate]
            have kk := (Keep.refl (fun _ => False) (wr)).drew
            refine flowe_take 0 (v := ?_) (a' := ?_) hps rfl (by kernel_rfl) rfl ?_ ?_ ?_
            rotate_left 2
            · intro w' hk; go_simp; try rfl
            · simp only [Act.put, List.setIfInBounds_toArray, List.set_cons_succ, List.set_cons_zero]; try rfl
            refine flowe_take 1 (v := ?_) (a' := ?_) hps rfl (by kernel_rfl) rfl ?_ ?_ ?_
            rotate_left 2
            · intro w' hk; go_simp; try rfl
            · simp only [Act.put, List.setIfInBounds_toArray, List.set_cons_succ, List.set_cons_zero]; try rfl
            refine flowe_take 2 (v := ?_) (a' := ?_) hps rfl (by kernel_rfl) rfl ?_ ?_ ?_
            rotate_left 2
            · intro w' hk; go_simp; try rfl
            · simp only [Act.put, List.setIfInBounds_toArray, List.set_cons_succ, List.set_cons_zero]; try rfl
            refine flowe_take 4 (v := ?_) (a' := ?_) hps rfl (by kernel_rfl) rfl ?_ ?_ ?_
            rotate_left 2
            · intro w' hk; go_simp; try rfl
            · simp only [Act.put, List.setIfInBounds_toArray, List.set_cons_succ, List.set_cons_zero]; try rfl
            refine flowe_take 5 (v := ?_) (a' := ?_) hps rfl (by kernel_rfl) rfl ?_ ?_ ?_
            rotate_left 2
            · intro w' hk; go_simp; try rfl
            · simp only [Act.put, List.setIfInBounds_toArray, List.set_cons_succ, List.set_cons_zero]; try rfl
            refine flowe_take 6 (v := ?_) (a' := ?_) hps rfl (by kernel_rfl) rfl ?_ ?_ ?_
            rotate_left 2
            · intro w' hk; go_simp; try rfl
            · simp only [Act.put, List.setIfInBounds_toArray, List.set_cons_succ, List.set_cons_zero]; try rfl
            refine flowe_take 7 (v := ?_) (a' := ?_) hps rfl (by kernel_rfl) rfl ?_ ?_ ?_
            rotate_left 2
            · intro w' hk; have hc : w'.cell? ⟨q, 0, none⟩ = some (.slice aL D.L.length cL) := (by rw [cell_of_block (w := wr.drew) (p := ⟨q, 0, none⟩) (hk.block q HQ.out (fun h => h))]; exact HCL.out); go_simp; try rfl
            · simp only [Act.put, List.setIfInBounds_toArray, List.set_cons_succ, List.set_cons_zero]; try rfl
            refine flowe_take 8 (v := ?_) (a' := ?_) hps rfl (by kernel_rfl) rfl ?_ ?_ ?_
            rotate_left 2
            · intro w' hk; go_simp; try rfl
            · simp only [Act.put, List.setIfInBounds_toArray, List.set_cons_succ, List.set_cons_zero]; try rfl
            refine flowe_one 3 hps rfl (by kernel_rfl) rfl (wp_next (fun K hK => ?_))
            go_simp
            have kc := disk_Sectors wr.drew p D Fd HFD.out
            with_reducible refine kc.mono ?_
            clear kc
            rintro e w' ⟨rfl, rfl⟩
            refine hK _ _ (flow_step kk ?_ ?_)
            · first | exact kp | exact Keep.refl _ _ | exact (Keep.refl _ _).alloc _
            clear kk hK; try clear kp
            intro kk
            refine flowe_take 9 (v := ?_) (a' := ?_) hps rfl (by kernel_rfl) rfl ?_ ?_ ?_
            rotate_left 2
            · intro w' hk; go_simp; try rfl
            · simp only [Act.put, List.setIfInBounds_toArray, List.set_cons_succ, List.set_cons_zero]; try rfl
            refine flowe_take 10 (v := ?_) (a' := ?_) hps rfl (by kernel_rfl) rfl ?_ ?_ ?_
            rotate_left 2
            · intro w' hk; go_simp; try rfl
            · simp only [Act.put, List.setIfInBounds_toArray, List.set_cons_succ, List.set_cons_zero]; try rfl
            refine flowe_take 11 (v := ?_) (a' := ?_) hps rfl (by kernel_rfl) rfl ?_ ?_ ?_
            rotate_left 2
            · intro w' hk; go_simp; try rfl
            · simp only [Act.put, List.setIfInBounds_toArray, List.set_cons_succ, List.set_cons_zero]; try rfl
            refine flowe_take 12 (v := ?_) (a' := ?_) hps rfl (by kernel_rfl) rfl ?_ ?_ ?_
            rotate_left 2
            · intro w' hk; go_simp; try rfl
            · simp only [Act.put, List.setIfInBounds_toArray, List.set_cons_succ, List.set_cons_zero]; try rfl
            refine flowe_take 15 (v := ?_) (a' := ?_) hps rfl (by kernel_rfl) rfl ?_ ?_ ?_
            rotate_left 2
            · intro w' hk; go_simp; try rfl
            · simp only [Act.put, List.setIfInBounds_toArray, List.set_cons_succ, List.set_cons_zero]; try rfl
            refine flowe_one 13 hps rfl (by kernel_rfl) rfl (wp_next (fun K hK => ?_))
            go_simp
            have kc := disk_Bytes wr.drew p D Fd HFD.out
            with_reducible refine kc.mono ?_
            clear kc
            rintro e w3 ⟨v3, rfl, o3, b3⟩
            obtain ⟨a3, c3, rfl, _, hb3⟩ := Sl.of_owned o3
            have hb3 : Bs w3 a3 D.L.flatten.length c3 D.L.flatten := hb3
            generalize D.L.flatten.length = n3 at *
            have HB3 := Lib.hid hb3
            have HR3 := Lib.hid (HFM.out.below b3)
            have kp := Keep.of_below (F := fun _ => False) b3
            clear o3 b3 hb3
            refine hK _ _ (flow_step kk ?_ ?_)
            · first | exact kp | exact Keep.refl _ _ | exact (Keep.refl _ _).alloc _
            clear kk hK; try clear kp
            intro kk
            refine flowe_take 14 (v := ?_) (a' := ?_) hps rfl (by kernel_rfl) rfl ?_ ?_ ?_
            rotate_left 2
            · intro w' hk; have hs := run_s w' (HB3.out.keep hk (fun _ _ h => h)); go_simp; try rfl
            · simp only [Act.put, List.setIfInBounds_toArray, List.set_cons_succ, List.set_cons_zero]; try rfl
            refine flowe_one 16 hps rfl (by kernel_rfl) rfl (wp_next (fun K hK => ?_))
            go_simp
            have kc := rd_Bytes w3 q D Fm HR3.out
            with_reducible refine kc.mono ?_
            clear kc
            rintro e w4 ⟨v4, rfl, o4, b4⟩
            obtain ⟨a4, c4, rfl, _, hb4⟩ := Sl.of_owned o4
            have hb4 : Bs w4 a4 D.L.flatten.length c4 D.L.flatten := hb4
            generalize D.L.flatten.length = n4 at *
            have HB4 := Lib.hid hb4
            have kp := Keep.of_below (F := fun _ => False) b4
            clear o4 b4 hb4
            refine hK _ _ (flow_step kk ?_ ?_)
            · first | exact kp | exact Keep.refl _ _ | exact (Keep.refl _ _).alloc _
            clear kk hK; try clear kp
            intro kk
            refine flowe_take 17 (v := ?_) (a' := ?_) hps rfl (by kernel_rfl) rfl ?_ ?_ ?_
            rotate_left 2
            · intro w' hk; have hs := run_s w' (HB4.out.keep hk (fun _ _ h => h)); go_simp; try rfl
            · simp only [Act.put, List.setIfInBounds_toArray, List.set_cons_succ, List.set_cons_zero]; try rfl
            refine flowe_take 18 (v := ?_) (a' := ?_) hps rfl (by kernel_rfl) rfl ?_ ?_ ?_
            rotate_left 2
            · intro w' hk; go_simp; try rfl
            · simp only [Act.put, List.setIfInBounds_toArray, List.set_cons_succ, List.set_cons_zero]; try rfl
            refine flowe_take 19 (v := ?_) (a' := ?_) hps rfl (by kernel_rfl) rfl ?_ ?_ ?_
            rotate_left 2
            · intro w' hk; go_simp; try rfl
            · simp only [Act.put, List.setIfInBounds_toArray, List.set_cons_succ, List.set_cons_zero]; try rfl
            refine flowe_take 20 (v := ?_) (a' := ?_) hps rfl (by kernel_rfl) rfl ?_ ?_ ?_
            rotate_left 2
            · intro w' hk; go_simp; try rfl
            · simp only [Act.put, List.setIfInBounds_toArray, List.set_cons_succ, List.set_cons_zero]; try rfl
            refine flowe_done hps (by kernel_rfl) ?_
            have BZ := Lib.hid (HS.out.below (kk.below (Nat.le_refl _) fun _ _ h => h)).end
            clear kk
            go_wp2
            go_ret
            exact ⟨rfl, BZ.out⟩
      · have g5 : 128 < sec := by omega
        clear hs g3 e3
        go_wp2_with fail
        have kc := rdk_New T2.out a _ c b (T2.out.bs HB.out (bs_low HB.out)) L HL1.out HL2.out hl3 hl4
        with_reducible refine kc.mono ?_
        clear kc
        rintro e w5 ⟨q, rfl, t5⟩
        have T5 := Lib.hid t5.swap
        clear t5 T2
        go_wp2
        go_loopw [12] (fun v wr => ∃ (k : Nat) (D : Dk), k ≤ ds.length ∧ v = .int .i64 k ∧ D.wait.length ≤ k ∧ St w.heap.size w wr (DkO p D :: RdO q D :: [])) (fun v _ => ds.length - (intOf v).toNat)
        case atStart => exact ⟨0, _, Nat.zero_le _, rfl, Nat.le_refl _, T5.out⟩
        case round =>
          obtain ⟨k, D, hk, rfl, hD, hS⟩ := hrel
          by_cases hlt : k < ds.length
          · obtain ⟨bb, oo, rfl, hcell⟩ := sl_at SL.out de4_len (by decide) k hlt
            have hok := OK.out ds[k] (List.getElem_mem hlt)
            generalize ds[k] = d at *
            have hran : wr.rangeAt bb (oo + k * 6) d.cells := fun j v hj => arg_cell4 hS (hcell j v hj)
            have HS := Lib.hid hS; have HO := Lib.hid hok; have HR := Lib.hid hran
            clear hS hok hcell hran T5
            go_wp2_with (refine wpList_load_mid rfl 33 (.tmp 79) rfl bb (oo + k * 6) rfl d.cells _ HR.out Try.underlying33 rfl (by kernel_rfl) ?_)
            refine (law04_Do wr p q D [] HS.out (by omega) d HO.out (bs_low HO.out.b) (ts_low HO.out.k)).mono ?_
            rintro e w6 ⟨rfl, D', hD', s6⟩
            have S6 := Lib.hid s6
            clear s6 HS HO HR
            go_wp2
            exact ⟨⟨k + 1, D', by omega, by go_num, by omega, S6.out⟩, by simp [intOf]; omega⟩
          · have HS := Lib.hid hS
            obtain ⟨Fd, hfd, _⟩ := dk_of hS.drew (i := 0) rfl
            obtain ⟨Fm, hfm, _⟩ := rd_of hS.drew (i := 1) rfl
            obtain ⟨aL, cL, _, _, hcl, _⟩ := rd_cells hS.drew (i := 1) rfl
            have HFD := Lib.hid hfd; have HFM := Lib.hid hfm
            have HCL := Lib.hid hcl
            have hq := World.block_lt_of_cell? _ _ hcl
            simp only at hq
            have HQ := Lib.hid hq
            clear hfd hfm hS T5 hcl hq
            go_wp2
            refine flowe_begin (F := fun _ => False) hmixed 21 rfl (by repeat (first | exact ps_body | refine ps_then ?_ | refine ps_block ?_)) (fun hps => ?_)
            simp only [List.replicate]
            have kk := (Keep.refl (fun _ => False) (wr)).drew
            refine flowe_take 0 (v := ?_) (a' := ?_) hps rfl (by kernel_rfl) rfl ?_ ?_ ?_
            rotate_left 2
            · intro w' hk; go_simp; try rfl
            · simp only [Act.put, List.setIfInBounds_toArray, List.set_cons_succ, List.set_cons_zero]; try rfl
            refine flowe_take 1 (v := ?_) (a' := ?_) hps rfl (by kernel_rfl) rfl ?_ ?_ ?_
            rotate_left 2
            · intro w' hk; go_simp; try rfl
            · simp only [Act.put, List.setIfInBounds_toArray, List.set_cons_succ, List.set_cons_zero]; try rfl
            refine flowe_take 2 (v := ?_) (a' := ?_) hps rfl (by kernel_rfl) rfl ?_ ?_ ?_
            rotate_left 2
            · intro w' hk; go_simp; try rfl
            · simp only [Act.put, List.setIfInBounds_toArray, List.set_cons_succ, List.set_cons_zero]; try rfl
            refine flowe_take 4 (v := ?_) (a' := ?_) hps rfl (by kernel_rfl) rfl ?_ ?_ ?_
            rotate_left 2
            · intro w' hk; go_simp; try rfl
            · simp only [Act.put, List.setIfInBounds_toArray, List.set_cons_succ, List.set_cons_zero]; try rfl
            refine flowe_take 5 (v := ?_) (a' := ?_) hps rfl (by kernel_rfl) rfl ?_ ?_ ?_
            rotate_left 2
            · intro w' hk; go_simp; try rfl
            · simp only [Act.put, List.setIfInBounds_toArray, List.set_cons_succ, List.set_cons_zero]; try rfl
            refine flowe_take 6 (v := ?_) (a' := ?_) hps rfl (by kernel_rfl) rfl ?_ ?_ ?_
            rotate_left 2
            · intro w' hk; go_simp; try rfl
            · simp only [Act.put, List.setIfInBounds_toArray, List.set_cons_succ, List.set_cons_zero]; try rfl
            refine flowe_take 7 (v := ?_) (a' := ?_) hps rfl (by kernel_rfl) rfl ?_ ?_ ?_
            rotate_left 2
            · intro w' hk; have hc : w'.cell? ⟨q, 0, none⟩ = some (.slice aL D.L.length cL) := (by rw [cell_of_block (w := wr.drew) (p := ⟨q, 0, none⟩) (hk.block q HQ.out (fun h => h))]; exact HCL.out); go_simp; try rfl
            · simp only [Act.put, List.setIfInBounds_toArray, List.set_cons_succ, List.set_cons_zero]; try rfl
            refine flowe_take 8 (v := ?_) (a' := ?_) hps rfl (by kernel_rfl) rfl ?_ ?_ ?_
            rotate_left 2
            · intro w' hk; go_simp; try rfl
            · simp only [Act.put, List.setIfInBounds_toArray, List.set_cons_succ, List.set_cons_zero]; try rfl
            refine flowe_one 3 hps rfl (by kernel_rfl) rfl (wp_next (fun K hK => ?_))
            go_simp
            have kc := disk_Sectors wr.drew p D Fd HFD.out
            with_reducible refine kc.mono ?_
            clear kc
            rintro e w' ⟨rfl, rfl⟩
            refine hK _ _ (flow_step kk ?_ ?_)
            · first | exact kp | exact Keep.refl _ _ | exact (Keep.refl _ _).alloc _
            clear kk hK; try clear kp
            intro kk
            refine flowe_take 9 (v := ?_) (a' := ?_) hps rfl (by kernel_rfl) rfl ?_ ?_ ?_
            rotate_left 2
            · intro w' hk; go_simp; try rfl
            · simp only [Act.put, List.setIfInBounds_toArray, List.set_cons_succ, List.set_cons_zero]; try rfl
            refine flowe_take 10 (v := ?_) (a' := ?_) hps rfl (by kernel_rfl) rfl ?_ ?_ ?_
            rotate_left 2
            · intro w' hk; go_simp; try rfl
            · simp only [Act.put, List.setIfInBounds_toArray, List.set_cons_succ, List.set_cons_zero]; try rfl
            refine flowe_take 11 (v := ?_) (a' := ?_) hps rfl (by kernel_rfl) rfl ?_ ?_ ?_
            rotate_left 2
            · intro w' hk; go_simp; try rfl
            · simp only [Act.put, List.setIfInBounds_toArray, List.set_cons_succ, List.set_cons_zero]; try rfl
            refine flowe_take 12 (v := ?_) (a' := ?_) hps rfl (by kernel_rfl) rfl ?_ ?_ ?_
            rotate_left 2
            · intro w' hk; go_simp; try rfl
            · simp only [Act.put, List.setIfInBounds_toArray, List.set_cons_succ, List.set_cons_zero]; try rfl
            refine flowe_take 15 (v := ?_) (a' := ?_) hps rfl (by kernel_rfl) rfl ?_ ?_ ?_
            rotate_left 2
            · intro w' hk; go_simp; try rfl
            · simp only [Act.put, List.setIfInBounds_toArray, List.set_cons_succ, List.set_cons_zero]; try rfl
            refine flowe_one 13 hps rfl (by kernel_rfl) rfl (wp_next (fun K hK => ?_))
            go_simp
            have kc := disk_Bytes wr.drew p D Fd HFD.out
            with_reducible refine kc.mono ?_
            clear kc
            rintro e w3 ⟨v3, rfl, o3, b3⟩
            obtain ⟨a3, c3, rfl, _, hb3⟩ := Sl.of_owned o3
            have hb3 : Bs w3 a3 D.L.flatten.length c3 D.L.flatten := hb3
            generalize D.L.flatten.length = n3 at *
            have HB3 := Lib.hid hb3
            have HR3 := Lib.hid (HFM.out.below b3)
            have kp := Keep.of_below (F := fun _ => False) b3
            clear o3 b3 hb3
            refine hK _ _ (flow_step kk ?_ ?_)
            · first | exact kp | exact Keep.refl _ _ | exact (Keep.refl _ _).alloc _
            clear kk hK; try clear kp
            intro kk
            refine flowe_take 14 (v := ?_) (a' := ?_) hps rfl (by kernel_rfl) rfl ?_ ?_ ?_
            rotate_left 2
            · intro w' hk; have hs := run_s w' (HB3.out.keep hk (fun _ _ h => h)); go_simp; try rfl
            · simp only [Act.put, List.setIfInBounds_toArray, List.set_cons_succ, List.set_cons_zero]; try rfl
            refine flowe_one 16 hps rfl (by kernel_rfl) rfl (wp_next (fun K hK => ?_))
            go_simp
            have kc := rd_Bytes w3 q D Fm HR3.out
            with_reducible refine kc.mono ?_
            clear kc
            rintro e w4 ⟨v4, rfl, o4, b4⟩
            obtain ⟨a4, c4, rfl, _, hb4⟩ := Sl.of_owned o4
            have hb4 : Bs w4 a4 D.L.flatten.length c4 D.L.flatten := hb4
            generalize D.L.flatten.length = n4 at *
            have HB4 := Lib.hid hb4
            have kp := Keep.of_below (F := fun _ => False) b4
            clear o4 b4 hb4
            refine hK _ _ (flow_step kk ?_ ?_)
            · first | exact kp | exact Keep.refl _ _ | exact (Keep.refl _ _).alloc _
            clear kk hK; try clear kp
            intro kk
            refine flowe_take 17 (v := ?_) (a' := ?_) hps rfl (by kernel_rfl) rfl ?_ ?_ ?_
            rotate_left 2
            · intro w' hk; have hs := run_s w' (HB4.out.keep hk (fun _ _ h => h)); go_simp; try rfl
            · simp only [Act.put, List.setIfInBounds_toArray, List.set_cons_succ, List.set_cons_zero]; try rfl
            refine flowe_take 18 (v := ?_) (a' := ?_) hps rfl (by kernel_rfl) rfl ?_ ?_ ?_
            rotate_left 2
            · intro w' hk; go_simp; try rfl
            · simp only [Act.put, List.setIfInBounds_toArray, List.set_cons_succ, List.set_cons_zero]; try rfl
            refine flowe_take 19 (v := ?_) (a' := ?_) hps rfl (by kernel_rfl) rfl ?_ ?_ ?_
            rotate_left 2
            · intro w' hk; go_simp; try rfl
            · simp only [Act.put, List.setIfInBounds_toArray, List.set_cons_succ, List.set_cons_zero]; try rfl
            refine flowe_take 20 (v := ?_) (a' := ?_) hps rfl (by kernel_rfl) rfl ?_ ?_ ?_
            rotate_left 2
            · intro w' hk; go_simp; try rfl
            · simp only [Act.put, List.setIfInBounds_toArray, List.set_cons_succ, List.set_cons_zero]; try rfl
            refine flowe_done hps (by kernel_rfl) ?_
            have BZ := Lib.hid (HS.out.below (kk.below (Nat.le_refl _) fun _ _ h => h)).end
            clear kk
            go_wp2
            go_ret
            exact ⟨rfl, BZ.out⟩
  · have HF := Lib.hid hf
    go_wp2_with fail
    have kc := disk_Of_none w1 a _ c b (T1.out.bs HB.out (bs_low HB.out)) HF.out
    with_reducible refine kc.mono ?_
    clear kc
    rintro e w' ⟨rfl, rfl⟩
    by_cases d1 : b.length % 512 = 0
    · have e1 : ((b.length : Int) % 512 == 0) = true := by rw [beq_iff_eq]; omega
      by_cases d2 : b.length < 1024
      · clear hf d1
        by_cases hs : 2 ≤ sec ∧ sec ≤ 128
        · obtain ⟨g1, g2⟩ := hs
          obtain ⟨sn, rfl⟩ := Int.eq_ofNat_of_zero_le (show 0 ≤ sec by omega)
          go_wp2_with fail
          have kc := dk_New T1.out (sn : Int) sn rfl (by omega) (by omega)
          with_reducible refine kc.mono ?_
          clear kc
          rintro e w3 ⟨pf, rfl, t3⟩
          have T3 := Lib.hid t3
          clear t3 T1
          go_wp2_with fail
          have kc := dk_Sectors T3.out (i := 0) rfl
          with_reducible refine kc.mono ?_
          clear kc
          rintro e w' ⟨rfl, rfl⟩
          have hz : (zeroL sn).length = sn := zeroL_len sn
          rw [show (({ L := zeroL sn, wait := [], off := false, left := -1 } : Dk).L.length) = sn from hz]
          have B2 := Lib.hid T3.out.end
          clear hz T3
          go_wp2
          go_ret
          exact ⟨rfl, B2.out⟩
        · have g3 : sec < 2 ∨ 128 < sec := by omega
          go_wp2_with fail
          have kc := disk_New_none w1 sec g3
          with_reducible refine kc.mono ?_
          clear kc
          rintro e w' ⟨rfl, rfl⟩
          have B2 := Lib.hid T1.out.end
          by_cases g4 : sec < 2
          · clear hs g3
            go_wp2
            go_ret
            exact ⟨rfl, B2.out⟩
          · have g5 : 128 < sec := by omega
            clear hs g3
            go_wp2
            go_ret
            exact ⟨rfl, B2.out⟩
      · have d3 : 65536 < b.length := by omega
        clear hf d1
        by_cases hs : 2 ≤ sec ∧ sec ≤ 128
        · obtain ⟨g1, g2⟩ := hs
          obtain ⟨sn, rfl⟩ := Int.eq_ofNat_of_zero_le (show 0 ≤ sec by omega)
          go_wp2_with fail
          have kc := dk_New T1.out (sn : Int) sn rfl (by omega) (by omega)
          with_reducible refine kc.mono ?_
          clear kc
          rintro e w3 ⟨pf, rfl, t3⟩
          have T3 := Lib.hid t3
          clear t3 T1
          go_wp2_with fail
          have kc := dk_Sectors T3.out (i := 0) rfl
          with_reducible refine kc.mono ?_
          clear kc
          rintro e w' ⟨rfl, rfl⟩
          have hz : (zeroL sn).length = sn := zeroL_len sn
          rw [show (({ L := zeroL sn, wait := [], off := false, left := -1 } : Dk).L.length) = sn from hz]
          have B2 := Lib.hid T3.out.end
          clear hz T3
          go_wp2
          go_ret
          exact ⟨rfl, B2.out⟩
        · have g3 : sec < 2 ∨ 128 < sec := by omega
          go_wp2_with fail
          have kc := disk_New_none w1 sec g3
          with_reducible refine kc.mono ?_
          clear kc
          rintro e w' ⟨rfl, rfl⟩
          have B2 := Lib.hid T1.out.end
          by_cases g4 : sec < 2
          · clear hs g3
            go_wp2
            go_ret
            exact ⟨rfl, B2.out⟩
          · have g5 : 128 < sec := by omega
            clear hs g3
            go_wp2
            go_ret
            exact ⟨rfl, B2.out⟩
    · have e1 : ((b.length : Int) % 512 == 0) = false := by rw [beq_eq_false_iff_ne]; omega
      clear hf d1
      by_cases hs : 2 ≤ sec ∧ sec ≤ 128
      · obtain ⟨g1, g2⟩ := hs
        obtain ⟨sn, rfl⟩ := Int.eq_ofNat_of_zero_le (show 0 ≤ sec by omega)
        go_wp2_with fail
        have kc := dk_New T1.out (sn : Int) sn rfl (by omega) (by omega)
        with_reducible refine kc.mono ?_
        clear kc
        rintro e w3 ⟨pf, rfl, t3⟩
        have T3 := Lib.hid t3
        clear t3 T1
        go_wp2_with fail
        have kc := dk_Sectors T3.out (i := 0) rfl
        with_reducible refine kc.mono ?_
        clear kc
        rintro e w' ⟨rfl, rfl⟩
        have hz : (zeroL sn).length = sn := zeroL_len sn
        rw [show (({ L := zeroL sn, wait := [], off := false, left := -1 } : Dk).L.length) = sn from hz]
        have B2 := Lib.hid T3.out.end
        clear hz T3
        go_wp2
        go_ret
        exact ⟨rfl, B2.out⟩
      · have g3 : sec < 2 ∨ 128 < sec := by omega
        go_wp2_with fail
        have kc := disk_New_none w1 sec g3
        with_reducible refine kc.mono ?_
        clear kc
        rintro e w' ⟨rfl, rfl⟩
        have B2 := Lib.hid T1.out.end
        by_cases g4 : sec < 2
        · clear hs g3
          go_wp2
          go_ret
          exact ⟨rfl, B2.out⟩
        · have g5 : 128 < sec := by omega
          clear hs g3
          go_wp2
          go_ret
          exact ⟨rfl, B2.out⟩
end Go.Proofs.Ytjijniillehfoaa
