/- Whatever deeds an arena and the reference's are put to, the same comes of both. -/
import Derived.Test.YtjijniillehfoaaLAr2
import Derived.Deep.MidRow
namespace Go.Proofs.Ytjijniillehfoaa
open Go Go.RowKit Go.Own
set_option linter.unusedVariables false
set_option maxRecDepth 100000
theorem de3_len (d : De3) : d.cells.length = 7 := rfl
theorem arg_cell {w0 w : World} {l : List Ob} (h : St w0.heap.size w0 w l) {b o : Nat} {v : Value} (hc : w0.cell? ⟨b, o, none⟩ = some v) : w.cell? ⟨b, o, none⟩ = some v := by
  have hb := World.block_lt_of_cell? w0 _ hc
  rw [cell_of_block (w := w0) (p := ⟨b, o, none⟩) (h.keep.block b hb (by show ¬ w0.heap.size ≤ b; simp only at hb; omega))]; exact hc
theorem bs_lt {w : World} {a : Option Addr} {n c : Nat} {b : List UInt8} (h : Bs w a n c b) : ∀ q, a = some q → 0 < b.length → q.block < w.heap.size := by
  intro q hq h0
  obtain ⟨b', o, e, hc⟩ := h.at 0 h0
  rw [hq] at e; cases e
  exact World.block_lt_of_cell? w _ hc
set_option maxHeartbeats 4000000 in
theorem arenaPlays (w : World) (base cap : Int) (a : Option Addr) (n c : Nat) (hb : (Lit.int .u64 base).wf = true) (hc : (Lit.int .i64 cap).wf = true) (hr : Rd w (.sl shDe3) [.slice a n c]) :
    Calls Try.prog 5 #[.int .u64 base, .int .i64 cap, .slice a n c] w (lawOk w) := by
  obtain ⟨b0, b1⟩ := wfU64 hb
  obtain ⟨c0, c1⟩ := wfI64 hc
  obtain ⟨ds, s1, hn1, ok1⟩ := rd_deeds3 hr
  subst hn1
  have p1 := s1.cap; have r1 := s1.room
  have S1 := Lib.hid s1; have OK := Lib.hid ok1
  clear hb hc hr s1 ok1
  go_enter Try.func5, Try.ntmps5
  go_wp2_with fail
  refine (up03 w).mono ?_
  rintro e w1 ⟨rfl, bw1⟩
  have T1 := Lib.hid ((St.start w).below bw1)
  clear bw1
  by_cases hmay : base % 16 = 0 ∧ base ≤ 4611686018427387904 ∧ 1024 ≤ cap ∧ cap ≤ 16384
  · have hd := decide_eq_true hmay
    have HMD := Lib.hid hd
    obtain ⟨m1, m2, m3, m4⟩ := hmay
    obtain ⟨bn, rfl⟩ := Int.eq_ofNat_of_zero_le b0
    obtain ⟨cn, rfl⟩ := Int.eq_ofNat_of_zero_le (show 0 ≤ cap by omega)
    have HM1 := Lib.hid m1
    clear hd m1
    go_wp2_with fail
    refine (ar_New T1.out bn bn rfl cn cn rfl (by have := HM1.out; omega) (by omega) (by omega) (by omega)).mono ?_
    rintro e w2 ⟨p, rfl, t2⟩
    have T2 := Lib.hid t2
    clear t2
    go_wp2_with fail
    refine (ref_MayArena w2 bn cn b0 b1).mono ?_
    rintro e w' ⟨rfl, rfl⟩
    rw [HMD.out]
    by_cases hl : ds.length > 60
    · have B2 := Lib.hid T2.out.end
      go_wp2
      go_ret
      exact ⟨rfl, B2.out⟩
    go_wp2_with fail
    have t3 : St w.heap.size w (w2.alloc (.cells [.int .u64 bn, .int .i64 cn, .slice none 0 0].toArray 56 (0, 0))) (ArT p ⟨bn, cn, []⟩ :: RaT w2.heap.size ⟨bn, cn, []⟩ :: []) := by
      refine (T2.out.add (F := fun x => x = w2.heap.size) (P := RaT w2.heap.size ⟨bn, cn, []⟩) ((Below.refl _ _).alloc (Nat.le_refl _) _) ⟨.slice none 0 0, ⟨Row.made _ _ _, World.ownsRow_nil _ _ _ _, by show bn ≤ _; omega, by show bn % 16 = 0; have := HM1.out; omega, by show cn ≤ _; omega, by show 1024 ≤ cn; omega, Nat.zero_le _⟩, fun k hk => ?_, fun k hk => by rw [hk]; simp⟩ fun x hx => by rw [hx]; exact Nat.le_refl _).swap
      rcases hk with rfl | hk
      · rfl
      · cases hk
    generalize w2.alloc (.cells [.int .u64 bn, .int .i64 cn, .slice none 0 0].toArray 56 (0, 0)) = w3 at *
    generalize w2.heap.size = q at *
    have T3 := Lib.hid t3
    clear t3 T2 T1
    go_loopw [11] (fun v wr => ∃ (k : Nat) (A : Ar), k ≤ ds.length ∧ v = .int .i64 k ∧ A.base = bn ∧ St w.heap.size w wr (ArT p A :: RaT q A :: [])) (fun v _ => ds.length - (intOf v).toNat)
    case atStart => exact ⟨0, _, Nat.zero_le _, rfl, rfl, T3.out⟩
    case round =>
      obtain ⟨k, A, hk, rfl, hAb, hS⟩ := hrel
      by_cases hlt : k < ds.length
      · obtain ⟨bb, oo, rfl, hcell⟩ := sl_at S1.out de3_len (by decide) k hlt
        have hok := OK.out ds[k] (List.getElem_mem hlt)
        generalize ds[k] = d at *
        have hx6 := arg_cell hS (hcell 6 _ rfl)
        have hran : wr.rangeAt bb (oo + k * 7) d.cells := fun j v hj => arg_cell hS (hcell j v hj)
        have hb6 := hok.b
        have hl6 := hb6.len
        have hc6 := Sl.cap hb6; have hr6 := Sl.room hb6
        have HS := Lib.hid hS; have HB6 := Lib.hid hb6; have HO := Lib.hid hok; have HAB := Lib.hid hAb; have HR := Lib.hid hran
        clear hS hb6 hok hAb hcell hran T3
        by_cases hbig : 20000 < d.bn
        · have B2 := Lib.hid HS.out.end
          clear hl6
          go_wp2
          go_ret
          exact ⟨rfl, B2.out⟩
        clear hl6
        go_wp2_with (refine wpList_load_mid rfl 58 (.tmp 60) rfl bb (oo + k * 7) rfl d.cells _ HR.out Try.underlying58 rfl (by kernel_rfl) ?_)
        refine (law03_do wr p q A [] HS.out d HO.out (bs_lt HB6.out)).mono ?_
        rintro e w5 ⟨rfl, A', hA', s5⟩
        have hA2 := hA'.trans HAB.out
        have S5 := Lib.hid s5; have HA2 := Lib.hid hA2
        obtain ⟨va, hva⟩ := s5.drew.ar (i := 0) rfl
        obtain ⟨vm, hvm⟩ := s5.drew.ar (i := 1) rfl
        obtain ⟨am, cm, rfl, hbm, _, _⟩ := hvm.form
        have HVA := Lib.hid hva; have HVM := Lib.hid hvm; have HBM := Lib.hid hbm
        clear s5 hA' hA2 hva hvm hbm HR HS HB6 HO HAB hx6
        go_wp2
        refine flowe_begin (F := fun _ => False) hmixed 34 rfl (by repeat (first | exact ps_body | refine ps_then ?_ | refine ps_block ?_)) (fun hps => ?_)
        simp only [List.replicate]
        have kk := (Keep.refl (fun _ => False) (w5)).drew
        refine flowe_take 0 (v := ?_) (a' := ?_) hps rfl (by kernel_rfl) rfl ?_ ?_ ?_
        rotate_left 2
        · intro w' hk; go_simp; try rfl
        · simp only [Act.put, List.setIfInBounds_toArray, List.set_cons_succ, List.set_cons_zero]; try rfl
        refine flowe_take 2 (v := ?_) (a' := ?_) hps rfl (by kernel_rfl) rfl ?_ ?_ ?_
        rotate_left 2
        · intro w' hk; go_simp; try rfl
        · simp only [Act.put, List.setIfInBounds_toArray, List.set_cons_succ, List.set_cons_zero]; try rfl
        refine flowe_take 3 (v := ?_) (a' := ?_) hps rfl (by kernel_rfl) rfl ?_ ?_ ?_
        rotate_left 2
        · intro w' hk; go_simp; try rfl
        · simp only [Act.put, List.setIfInBounds_toArray, List.set_cons_succ, List.set_cons_zero]; try rfl
        refine flowe_take 4 (v := ?_) (a' := ?_) hps rfl (by kernel_rfl) rfl ?_ ?_ ?_
        rotate_left 2
        · intro w' hk; go_simp; try rfl
        · simp only [Act.put, List.setIfInBounds_toArray, List.set_cons_succ, List.set_cons_zero]; try rfl
        refine flowe_take 5 (v := ?_) (a' := ?_) hps rfl (by kernel_rfl) rfl ?_ ?_ ?_
        rotate_left 2
        · intro w' hk; have hc := (HVM.out.row.keep hk (fun h => h)).cell 2; simp only [List.getElem?_cons_succ, List.getElem?_cons_zero] at hc; go_simp; try rfl
        · simp only [Act.put, List.setIfInBounds_toArray, List.set_cons_succ, List.set_cons_zero]; try rfl
        refine flowe_take 6 (v := ?_) (a' := ?_) hps rfl (by kernel_rfl) rfl ?_ ?_ ?_
        rotate_left 2
        · intro w' hk; go_simp; try rfl
        · simp only [Act.put, List.setIfInBounds_toArray, List.set_cons_succ, List.set_cons_zero]; try rfl
        refine flowe_one 1 hps rfl (by kernel_rfl) rfl (wp_next (fun K hK => ?_))
        go_simp
        refine (arena_Len _ p A' va HVA.out).mono ?_
        rintro e w' ⟨rfl, rfl⟩
        refine hK _ _ (flow_step kk ?_ ?_)
        · first | exact kp | exact Keep.refl _ _ | exact (Keep.refl _ _).alloc _
        clear kk hK; try clear kp
        intro kk
        refine flowe_take 7 (v := ?_) (a' := ?_) hps rfl (by kernel_rfl) rfl ?_ ?_ ?_
        rotate_left 2
        · intro w' hk; go_simp; try rfl
        · simp only [Act.put, List.setIfInBounds_toArray, List.set_cons_succ, List.set_cons_zero]; try rfl
        refine flowe_take 8 (v := ?_) (a' := ?_) hps rfl (by kernel_rfl) rfl ?_ ?_ ?_
        rotate_left 2
        · intro w' hk; go_simp; try rfl
        · simp only [Act.put, List.setIfInBounds_toArray, List.set_cons_succ, List.set_cons_zero]; try rfl
        refine flowe_take 9 (v := ?_) (a' := ?_) hps rfl (by kernel_rfl) rfl ?_ ?_ ?_
        rotate_left 2
        · intro w' hk; go_simp; try rfl
        · simp only [Act.put, List.setIfInBounds_toArray, List.set_cons_succ, List.set_cons_zero]; try rfl
        refine flowe_take 11 (v := ?_) (a' := ?_) hps rfl (by kernel_rfl) rfl ?_ ?_ ?_
        rotate_left 2
        · intro w' hk; go_simp; try rfl
        · simp only [Act.put, List.setIfInBounds_toArray, List.set_cons_succ, List.set_cons_zero]; try rfl
        refine flowe_take 12 (v := ?_) (a' := ?_) hps rfl (by kernel_rfl) rfl ?_ ?_ ?_
        rotate_left 2
        · intro w' hk; go_simp; try rfl
        · simp only [Act.put, List.setIfInBounds_toArray, List.set_cons_succ, List.set_cons_zero]; try rfl
        refine flowe_take 13 (v := ?_) (a' := ?_) hps rfl (by kernel_rfl) rfl ?_ ?_ ?_
        rotate_left 2
        · intro w' hk; go_simp; try rfl
        · simp only [Act.put, List.setIfInBounds_toArray, List.set_cons_succ, List.set_cons_zero]; try rfl
        refine flowe_take 14 (v := ?_) (a' := ?_) hps rfl (by kernel_rfl) rfl ?_ ?_ ?_
        rotate_left 2
        · intro w' hk; have hc := (HVM.out.row.keep hk (fun h => h)).cell 1; simp only [List.getElem?_cons_succ, List.getElem?_cons_zero] at hc; go_simp; try rfl
        · simp only [Act.put, List.setIfInBounds_toArray, List.set_cons_succ, List.set_cons_zero]; try rfl
        refine flowe_one 10 hps rfl (by kernel_rfl) rfl (wp_next (fun K hK => ?_))
        go_simp
        refine (arena_Cap _ p A' va HVA.out).mono ?_
        rintro e w' ⟨rfl, rfl⟩
        refine hK _ _ (flow_step kk ?_ ?_)
        · first | exact kp | exact Keep.refl _ _ | exact (Keep.refl _ _).alloc _
        clear kk hK; try clear kp
        intro kk
        refine flowe_take 15 (v := ?_) (a' := ?_) hps rfl (by kernel_rfl) rfl ?_ ?_ ?_
        rotate_left 2
        · intro w' hk; go_simp; try rfl
        · simp only [Act.put, List.setIfInBounds_toArray, List.set_cons_succ, List.set_cons_zero]; try rfl
        refine flowe_take 16 (v := ?_) (a' := ?_) hps rfl (by kernel_rfl) rfl ?_ ?_ ?_
        rotate_left 2
        · intro w' hk; go_simp; try rfl
        · simp only [Act.put, List.setIfInBounds_toArray, List.set_cons_succ, List.set_cons_zero]; try rfl
        refine flowe_take 17 (v := ?_) (a' := ?_) hps rfl (by kernel_rfl) rfl ?_ ?_ ?_
        rotate_left 2
        · intro w' hk; go_simp; try rfl
        · simp only [Act.put, List.setIfInBounds_toArray, List.set_cons_succ, List.set_cons_zero]; try rfl
        refine flowe_take 18 (v := ?_) (a' := ?_) hps rfl (by kernel_rfl) rfl ?_ ?_ ?_
        rotate_left 2
        · intro w' hk; go_simp; try rfl
        · simp only [Act.put, List.setIfInBounds_toArray, List.set_cons_succ, List.set_cons_zero]; try rfl
        refine flowe_take 20 (v := ?_) (a' := ?_) hps rfl (by kernel_rfl) rfl ?_ ?_ ?_
        rotate_left 2
        · intro w' hk; go_simp; try rfl
        · simp only [Act.put, List.setIfInBounds_toArray, List.set_cons_succ, List.set_cons_zero]; try rfl
        refine flowe_one 19 hps rfl (by kernel_rfl) rfl (wp_next (fun K hK => ?_))
        go_simp
        refine (arena_Base _ p A' va HVA.out).mono ?_
        rintro e w' ⟨rfl, rfl⟩
        rw [HA2.out]
        refine hK _ _ (flow_step kk ?_ ?_)
        · first | exact kp | exact Keep.refl _ _ | exact (Keep.refl _ _).alloc _
        clear kk hK; try clear kp
        intro kk
        refine flowe_take 21 (v := ?_) (a' := ?_) hps rfl (by kernel_rfl) rfl ?_ ?_ ?_
        rotate_left 2
        · intro w' hk; go_simp; try rfl
        · simp only [Act.put, List.setIfInBounds_toArray, List.set_cons_succ, List.set_cons_zero]; try rfl
        refine flowe_take 22 (v := ?_) (a' := ?_) hps rfl (by kernel_rfl) rfl ?_ ?_ ?_
        rotate_left 2
        · intro w' hk; go_simp; try rfl
        · simp only [Act.put, List.setIfInBounds_toArray, List.set_cons_succ, List.set_cons_zero]; try rfl
        refine flowe_take 23 (v := ?_) (a' := ?_) hps rfl (by kernel_rfl) rfl ?_ ?_ ?_
        rotate_left 2
        · intro w' hk; go_simp; try rfl
        · simp only [Act.put, List.setIfInBounds_toArray, List.set_cons_succ, List.set_cons_zero]; try rfl
        refine flowe_take 24 (v := ?_) (a' := ?_) hps rfl (by kernel_rfl) rfl ?_ ?_ ?_
        rotate_left 2
        · intro w' hk; go_simp; try rfl
        · simp only [Act.put, List.setIfInBounds_toArray, List.set_cons_succ, List.set_cons_zero]; try rfl
        refine flowe_take 27 (v := ?_) (a' := ?_) hps rfl (by kernel_rfl) rfl ?_ ?_ ?_
        rotate_left 2
        · intro w' hk; go_simp; try rfl
        · simp only [Act.put, List.setIfInBounds_toArray, List.set_cons_succ, List.set_cons_zero]; try rfl
        refine flowe_take 28 (v := ?_) (a' := ?_) hps rfl (by kernel_rfl) rfl ?_ ?_ ?_
        rotate_left 2
        · intro w' hk; go_simp; try rfl
        · simp only [Act.put, List.setIfInBounds_toArray, List.set_cons_succ, List.set_cons_zero]; try rfl
        refine flowe_take 29 (v := ?_) (a' := ?_) hps rfl (by kernel_rfl) rfl ?_ ?_ ?_
        rotate_left 2
        · intro w' hk; go_simp; try rfl
        · simp only [Act.put, List.setIfInBounds_toArray, List.set_cons_succ, List.set_cons_zero]; try rfl
        refine flowe_take 30 (v := ?_) (a' := ?_) hps rfl (by kernel_rfl) rfl ?_ ?_ ?_
        rotate_left 2
        · intro w' hk; have hc := (HVM.out.row.keep hk (fun h => h)).cell 2; simp only [List.getElem?_cons_succ, List.getElem?_cons_zero] at hc; go_simp; try rfl
        · simp only [Act.put, List.setIfInBounds_toArray, List.set_cons_succ, List.set_cons_zero]; try rfl
        refine flowe_take 31 (v := ?_) (a' := ?_) hps rfl (by kernel_rfl) rfl ?_ ?_ ?_
        rotate_left 2
        · intro w' hk; have hs := run_s w' (HBM.out.keep hk (fun _ _ h => h)); go_simp; try rfl
        · simp only [Act.put, List.setIfInBounds_toArray, List.set_cons_succ, List.set_cons_zero]; try rfl
        refine flowe_one 25 hps rfl (by kernel_rfl) rfl (wp_next (fun K hK => ?_))
        go_simp
        refine (law_Bytes _ p A' va HVA.out).mono ?_
        rintro e w7 ⟨v7, rfl, o7, b7⟩
        have kp := Keep.of_below (F := fun _ => False) b7
        obtain ⟨a7, c7, rfl, _, hb7⟩ := Sl.of_owned o7
        have HB7 := Lib.hid (show Bs w7 a7 A'.b.length c7 A'.b from hb7)
        clear o7 b7 hb7
        refine hK _ _ (flow_step kk ?_ ?_)
        · first | exact kp | exact Keep.refl _ _ | exact (Keep.refl _ _).alloc _
        clear kk hK; try clear kp
        intro kk
        refine flowe_take 26 (v := ?_) (a' := ?_) hps rfl (by kernel_rfl) rfl ?_ ?_ ?_
        rotate_left 2
        · intro w' hk; have hs := run_s w' (HB7.out.keep hk (fun _ _ h => h)); go_simp; try rfl
        · simp only [Act.put, List.setIfInBounds_toArray, List.set_cons_succ, List.set_cons_zero]; try rfl
        refine flowe_take 32 (v := ?_) (a' := ?_) hps rfl (by kernel_rfl) rfl ?_ ?_ ?_
        rotate_left 2
        · intro w' hk; go_simp; try rfl
        · simp only [Act.put, List.setIfInBounds_toArray, List.set_cons_succ, List.set_cons_zero]; try rfl
        refine flowe_take 33 (v := ?_) (a' := ?_) hps rfl (by kernel_rfl) rfl ?_ ?_ ?_
        rotate_left 2
        · intro w' hk; go_simp; try rfl
        · simp only [Act.put, List.setIfInBounds_toArray, List.set_cons_succ, List.set_cons_zero]; try rfl
        refine flowe_done hps (by kernel_rfl) ?_
        have SZ := Lib.hid (S5.out.below (kk.below (Nat.le_refl _) fun _ _ h => h))
        clear kk HB7 HBM HVM HVA
        go_wp2
        exact ⟨⟨k + 1, A', by omega, by go_num, HA2.out, SZ.out⟩, by simp [intOf]; omega⟩
      · have BZ := Lib.hid hS.end
        clear hS
        go_wp2
        go_ret
        exact ⟨rfl, BZ.out⟩
  · have hd := decide_eq_false hmay
    have HMD := Lib.hid hd; have HM := Lib.hid hmay
    clear hd hmay
    go_wp2_with fail
    refine (arena_New_bad w1 base cap b0 b1 HM.out).mono ?_
    rintro e w' ⟨rfl, rfl⟩
    go_wp2_with fail
    refine (ref_MayArena w1 base cap b0 b1).mono ?_
    rintro e w' ⟨rfl, rfl⟩
    rw [HMD.out]
    have B2 := Lib.hid T1.out.end
    go_wp2
    go_ret
    exact ⟨rfl, B2.out⟩
end Go.Proofs.Ytjijniillehfoaa
