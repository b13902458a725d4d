/- Texts of the proof of 'CheckBuilt', part 5: words on memory, contracts of functions, plain laws. No condition. -/
import Derived.Test.YtjijniillehfoaaMgCheckBuilt4
import Derived.DeepKeys4
import Derived.WideKeyElems
import Derived.Carry
import Derived.Maps.OwnSet
/- Layer 7: the program and the reference tell the same of blocks. -/
namespace Go.Own
open Go Go.RowKit
theorem Rd.blk {w : World} {cs : List Value} (h : Rd w (.cons (.int .i64) (.cons (.int .i64) (.cons .bool .nil))) cs) : ∃ (o s : Int) (u : Bool), cs = [.int .i64 o, .int .i64 s, .bool u] ∧ (Lit.int .i64 o).wf = true ∧ (Lit.int .i64 s).wf = true := by
  obtain ⟨x, y, rfl, _, ⟨o, rfl, h1⟩, x2, y2, rfl, _, ⟨s, rfl, h2⟩, x3, y3, rfl, _, ⟨u, rfl⟩, h3⟩ := h
  have h3 : y3 = [] := h3
  subst h3
  exact ⟨o, s, u, rfl, h1, h2⟩
end Go.Own
namespace Go.Proofs.Ytjijniillehfoaa
open Go Go.RowKit Go.Own
set_option linter.unusedVariables false
set_option maxRecDepth 100000
/-- A block's numbers, also of none. -/
def bO (x : Option Blk) : Int := match x with | none => 0 | some x => x.off
def bS (x : Option Blk) : Int := match x with | none => 0 | some x => x.size
def bU (x : Option Blk) : Bool := match x with | none => false | some x => x.used
theorem bkV_eq (x : Option Blk) : bkV x = .agg #[.int .i64 (bO x), .int .i64 (bS x), .bool (bU x)] := by cases x <;> rfl
theorem bs_lowB {w : World} {a : Option Addr} {n c : Nat} {b : List UInt8} (h : Bs w a n c b) : ∀ q, a = some q → 0 < b.length → q.block < w.heap.size := by
  intro q hq h0
  obtain ⟨b', o, e, hc⟩ := h.at 0 h0
  rw [hq] at e; cases e
  exact World.block_lt_of_cell? w _ hc
set_option maxHeartbeats 8000000 in
theorem blockTells (w : World) (bs : Int) (a : Option Addr) (n c : Nat) (b : List UInt8) (o : Int) (cs : Array Value) (hbs : (Lit.int .u64 bs).wf = true) (hb : Bs w a n c b) (ho : (Lit.int .i64 o).wf = true)
    (hr : Rd w (.cons (.int .i64) (.cons (.int .i64) (.cons .bool .nil))) cs.toList) :
    Calls Try.prog 9 #[.int .u64 bs, .slice a n c, .int .i64 o, .agg cs] w (lawOk w) := by
  obtain ⟨xo, xs, xu, hcs, hxo, hxs⟩ := hr.blk
  obtain rfl : cs = #[.int .i64 xo, .int .i64 xs, .bool xu] := by rw [← Array.toArray_toList (xs := cs), hcs]
  obtain ⟨o0, o1⟩ := wfI64 ho
  have hn := hb.len
  subst hn
  have p1 := Sl.cap hb; have r1 := Sl.room hb
  have HB := Lib.hid hb
  clear hr hcs hb
  go_enter Try.func9, Try.ntmps9
  go_wp2_with fail
  have h1 := (St.start w).addRow 77 [.int .i64 xo, .int .i64 xs, .bool xu]
  generalize w.alloc (Obj.cells #[Value.int IntKind.i64 xo, Value.int IntKind.i64 xs, Value.bool xu] 77 (0, 0)) = w1 at h1 ⊢
  obtain ⟨g, hg⟩ : ∃ g, g = w.heap.size := ⟨_, rfl⟩
  have h1 : St w.heap.size w w1 (BkO g xo xs xu :: []) := by rw [hg]; exact h1
  rw [← hg]
  have HG := Lib.hid hg
  have H1 := Lib.hid h1
  clear h1 hg
  refine (up07 w1).mono ?_
  rintro e w2 ⟨rfl, bw2⟩
  have T2 := Lib.hid (H1.out.below bw2)
  clear bw2 H1
  by_cases hl : b.length > 16384
  · have B2 := Lib.hid T2.out.end
    go_wp2
    go_ret
    exact ⟨rfl, B2.out⟩
  obtain ⟨b0, b1⟩ := wfU64 hbs
  go_wp2_with fail
  refine (law_Base w2 bs b0 b1).mono ?_
  rintro e w' ⟨rfl, rfl⟩
  obtain ⟨bn, hbn⟩ : ∃ bn : Nat, bs % 288230376151711744 * 16 = bn := ⟨(bs % 288230376151711744 * 16).toNat, by omega⟩
  have hb16 : bn % 16 = 0 := by omega
  have hb62 : bn ≤ 4611686018427387904 := by omega
  rw [hbn]
  clear hbn
  go_wp2_with fail
  have kc := ar_Arena T2.out (bn : Int) bn rfl 16384 16384 rfl hb16 hb62 (by decide) (by decide) a _ c b (T2.out.bs HB.out (bs_lowB HB.out)) (by omega)
  with_reducible refine kc.mono ?_
  clear kc
  rintro e w3 ⟨q, rfl, t3⟩
  have T3 := Lib.hid t3
  have HRD : Hid (∀ w' l, St w.heap.size w w' l → Bs w' a b.length c b) := Lib.hid fun w' l h => h.bs HB.out (bs_lowB HB.out)
  clear t3 T2
  obtain ⟨X, hX⟩ : ∃ X, X = blkI b o := ⟨_, rfl⟩
  obtain ⟨Y, hY⟩ : ∃ Y, Y = aheadI b o := ⟨_, rfl⟩
  obtain ⟨Z, hZ⟩ : ∃ Z, Z = walkB b := ⟨_, rfl⟩
  have HX := Lib.hid hX; have HY := Lib.hid hY; have HZ := Lib.hid hZ
  have hsm4 : b.length ≤ 16384 := by omega
  clear hX hY hZ
  go_wp2_with fail
  have kc := blk_Get T3.out (i := 0) rfl o
  rw [show ({ base := bn, cap := 16384, b := b } : Ar).b = b from rfl, ← HX.out, bkV_eq] at kc
  with_reducible refine kc.mono ?_
  clear kc
  rintro e w4 ⟨rfl, t4⟩
  have T4 := Lib.hid t4
  clear t4
  go_wp2_with (first | (refine bk_alloc T4.out rfl rfl ?_; intro g1 w4a h4; have T4a := Lib.hid h4; clear h4) | (refine bk_store T4a.out 0 rfl rfl _ _ rfl rfl (bO X) (bS X) (bU X) rfl ?_; intro w5 t5; have T5 := Lib.hid t5; clear t5 T4a T4))
  have kc := rb_Get T5.out a _ c b (fun w' h => HRD.out w' _ h) o
  rw [← HX.out, bkV_eq] at kc
  with_reducible refine kc.mono ?_
  clear kc
  rintro e w6 ⟨rfl, t6⟩
  have T6 := Lib.hid t6
  clear t6
  go_wp2_with (first | (refine bk_alloc T6.out rfl rfl ?_; intro g2 w6a h6; have T6a := Lib.hid h6; clear h6) | (refine bk_store T6a.out 0 rfl rfl _ _ rfl rfl (bO X) (bS X) (bU X) rfl ?_; intro w7 t7; have T7 := Lib.hid t7; clear t7 T6a T6))
  have kc := blk_Ahead T7.out (i := 2) rfl o
  rw [show ({ base := bn, cap := 16384, b := b } : Ar).b = b from rfl, ← HY.out, bkV_eq] at kc
  with_reducible refine kc.mono ?_
  clear kc
  rintro e w8 ⟨rfl, t8⟩
  have T8 := Lib.hid t8
  clear t8
  go_wp2_with (first | (refine bk_alloc T8.out rfl rfl ?_; intro g3 w8a h8; have T8a := Lib.hid h8; clear h8) | (refine bk_store T8a.out 0 rfl rfl _ _ rfl rfl (bO Y) (bS Y) (bU Y) rfl ?_; intro w9 t9; have T9 := Lib.hid t9; clear t9 T8a T8))
  have kc := rb_Ahead T9.out a _ c b (fun w' h => HRD.out w' _ h) (by omega) o
  rw [← HY.out, bkV_eq] at kc
  with_reducible refine kc.mono ?_
  clear kc
  rintro e wb ⟨rfl, tb⟩
  have TB := Lib.hid tb
  clear tb
  go_wp2_with (first | (refine bk_alloc TB.out rfl rfl ?_; intro g4 wba hb4; have TBa := Lib.hid hb4; clear hb4) | (refine bk_store TBa.out 0 rfl rfl _ _ rfl rfl (bO Y) (bS Y) (bU Y) rfl ?_; intro wc tc; have TC := Lib.hid tc; clear tc TBa TB))
  have kc := blk_Walk TC.out (i := 4) rfl
  rw [show ({ base := bn, cap := 16384, b := b } : Ar).b = b from rfl, ← HZ.out] at kc
  with_reducible refine kc.mono ?_
  clear kc
  rintro e wd ⟨v1, rfl, td⟩
  have TD := Lib.hid td
  clear td
  go_wp2_with fail
  have kc := rb_Walk TD.out a _ c b (fun w' h => HRD.out w' _ h) hsm4
  rw [← HZ.out] at kc
  with_reducible refine kc.mono ?_
  clear kc
  rintro e we ⟨v2, rfl, te⟩
  have TE := Lib.hid te
  clear te
  obtain ⟨a2, c2, e2, _, hs2⟩ := Sl.of_owned (TE.out.own (i := 0) rfl)
  obtain ⟨a1, c1, e1, _, hs1⟩ := Sl.of_owned (TE.out.own (i := 1) rfl)
  subst e2; subst e1
  have HS1 := Lib.hid hs1; have HS2 := Lib.hid hs2
  clear hs1 hs2 TD TC T9 T7 T5 T3
  generalize Z.getD [] = LZ at *
  obtain ⟨S, hS⟩ : ∃ S, S = setI b xo xs xu := ⟨_, rfl⟩
  have HSS := Lib.hid hS
  clear hS
  rcases X with _ | X <;> rcases Y with _ | Y <;> rcases Z with _ | Z
  · try rw [show errO none = .iface 183 (.int .i64 3) from rfl]
    try rw [show errO none = .iface 183 (.int .i64 3) from rfl]
    try rw [show errW none = .iface 183 (.int .i64 3) from rfl]
    go_wp2_with (first | (refine bk_loadg TE.out 2 rfl rfl _ rfl rfl ?_) | (refine bk_loadg TE.out 3 rfl rfl _ rfl rfl ?_) | (refine bk_loadg TE.out 4 rfl rfl _ rfl rfl ?_) | (refine bk_loadg TE.out 5 rfl rfl _ rfl rfl ?_))
    have kc := law_Blocks _ a1 c1 LZ a2 c2 LZ HS1.out HS2.out
    rw [if_pos rfl] at kc
    with_reducible refine kc.mono ?_
    clear kc
    rintro e wf ⟨rfl, bf⟩
    have BF := Lib.hid bf
    clear bf
    have TI := Lib.hid (TE.out.below BF.out)
    clear BF TE HS1 HS2
    go_wp2_with (first | (refine bk_load TI.out 7 rfl rfl _ rfl rfl ?_) | ((with_reducible refine (code_of _ 3 (by decide) (by decide)).mono ?_); rintro e w' ⟨rfl, rfl⟩))
    cases S with
    | none =>
      have kc := blk_Set TI.out (i := 6) rfl xo xs xu
      rw [show ({ base := bn, cap := 16384, b := b } : Ar).b = b from rfl, ← HSS.out, show errS none = .iface 183 (.int .i64 1) from rfl] at kc
      with_reducible refine kc.mono ?_
      clear kc
      rintro e wj ⟨rfl, tj⟩
      have TJ := Lib.hid tj
      clear tj
      go_wp2_with (refine bk_load TJ.out 7 rfl rfl _ rfl rfl ?_)
      have kc := rb_Set_no TJ.out a _ c b (HRD.out _ _ TJ.out) xo xs xu HSS.out.symm
      with_reducible refine kc.mono ?_
      clear kc
      rintro e wk ⟨rfl, tk⟩
      have TK := Lib.hid tk
      clear tk
      have HB3 := Lib.hid (HRD.out _ _ TK.out.drew)
      obtain ⟨va, hva⟩ := TK.out.drew.ar (i := 6) rfl
      have HVA := Lib.hid (show ArA _ q { base := bn, cap := 16384, b := b } va from hva)
      clear hva TI TJ
      go_wp2
      refine flowe_begin (F := fun _ => False) hmixed 26 rfl (by repeat (first | with_reducible refine ps_then ?_ | with_reducible refine ps_block ?_ | with_reducible exact ps_body | refine ps_then ?_ | refine ps_block ?_ | exact ps_body)) (fun hps => ?_)
      simp only [List.replicate]
      have kk := (Keep.refl (fun _ => False) (wk)).drew
      refine flowe_take 0 (v := ?_) (a' := ?_) hps rfl (by kernel_rfl) rfl ?_ ?_ ?_
      rotate_left 2
      · intro w' hk; go_simp; try rfl
      · simp only [Act.put, List.setIfInBounds_toArray, List.set_cons_succ, List.set_cons_zero]; try rfl
      refine flowe_take 1 (v := ?_) (a' := ?_) hps rfl (by kernel_rfl) rfl ?_ ?_ ?_
      rotate_left 2
      · intro w' hk; go_simp; try rfl
      · simp only [Act.put, List.setIfInBounds_toArray, List.set_cons_succ, List.set_cons_zero]; try rfl
      refine flowe_take 2 (v := ?_) (a' := ?_) hps rfl (by kernel_rfl) rfl ?_ ?_ ?_
      rotate_left 2
      · intro w' hk; go_simp; try rfl
      · simp only [Act.put, List.setIfInBounds_toArray, List.set_cons_succ, List.set_cons_zero]; try rfl
      refine flowe_take 5 (v := ?_) (a' := ?_) hps rfl (by kernel_rfl) rfl ?_ ?_ ?_
      rotate_left 2
      · intro w' hk; go_simp; try rfl
      · simp only [Act.put, List.setIfInBounds_toArray, List.set_cons_succ, List.set_cons_zero]; try rfl
      refine flowe_take 6 (v := ?_) (a' := ?_) hps rfl (by kernel_rfl) rfl ?_ ?_ ?_
      rotate_left 2
      · intro w' hk; have hs := run_s w' (HB3.out.keep hk (fun _ _ h => h)); go_simp; try rfl
      · simp only [Act.put, List.setIfInBounds_toArray, List.set_cons_succ, List.set_cons_zero]; try rfl
      refine flowe_one 3 hps rfl (by kernel_rfl) rfl (wp_next (fun K hK => ?_))
      go_simp
      with_reducible refine (law_Bytes _ q { base := bn, cap := 16384, b := b } va HVA.out).mono ?_
      rintro e w7 ⟨v7, rfl, o7, b7⟩
      have kp := Keep.of_below (F := fun _ => False) b7
      obtain ⟨a7, c7, rfl, _, hb7⟩ := Sl.of_owned o7
      have HB7 := Lib.hid (show Bs w7 a7 b.length c7 b from hb7)
      clear o7 b7 hb7
      refine hK _ _ (flow_step kk ?_ ?_)
      · first | exact kp | exact Keep.refl _ _ | exact (Keep.refl _ _).alloc _
      clear kk hK; try clear kp
      intro kk
      refine flowe_take 4 (v := ?_) (a' := ?_) hps rfl (by kernel_rfl) rfl ?_ ?_ ?_
      rotate_left 2
      · intro w' hk; have hs := run_s w' (HB7.out.keep hk (fun _ _ h => h)); go_simp; try rfl
      · simp only [Act.put, List.setIfInBounds_toArray, List.set_cons_succ, List.set_cons_zero]; try rfl
      refine flowe_take 7 (v := ?_) (a' := ?_) hps rfl (by kernel_rfl) rfl ?_ ?_ ?_
      rotate_left 2
      · intro w' hk; go_simp; try rfl
      · simp only [Act.put, List.setIfInBounds_toArray, List.set_cons_succ, List.set_cons_zero]; try rfl
      refine flowe_take 8 (v := ?_) (a' := ?_) hps rfl (by kernel_rfl) rfl ?_ ?_ ?_
      rotate_left 2
      · intro w' hk; go_simp; try rfl
      · simp only [Act.put, List.setIfInBounds_toArray, List.set_cons_succ, List.set_cons_zero]; try rfl
      refine flowe_take 9 (v := ?_) (a' := ?_) hps rfl (by kernel_rfl) rfl ?_ ?_ ?_
      rotate_left 2
      · intro w' hk; go_simp; try rfl
      · simp only [Act.put, List.setIfInBounds_toArray, List.set_cons_succ, List.set_cons_zero]; try rfl
      refine flowe_take 10 (v := ?_) (a' := ?_) hps rfl (by kernel_rfl) rfl ?_ ?_ ?_
      rotate_left 2
      · intro w' hk; go_simp; try rfl
      · simp only [Act.put, List.setIfInBounds_toArray, List.set_cons_succ, List.set_cons_zero]; try rfl
      refine flowe_take 11 (v := ?_) (a' := ?_) hps rfl (by kernel_rfl) rfl ?_ ?_ ?_
      rotate_left 2
      · intro w' hk; go_simp; try rfl
      · simp only [Act.put, List.setIfInBounds_toArray, List.set_cons_succ, List.set_cons_zero]; try rfl
      refine flowe_skip 12 (a' := ?_) hps rfl (by kernel_rfl) rfl ?_ ?_
      rotate_left 1
      · simp only [Act.put, List.setIfInBounds_toArray, List.set_cons_succ, List.set_cons_zero]; try rfl
      refine flowe_skip 13 (a' := ?_) hps rfl (by kernel_rfl) rfl ?_ ?_
      rotate_left 1
      · simp only [Act.put, List.setIfInBounds_toArray, List.set_cons_succ, List.set_cons_zero]; try rfl
      refine flowe_take 14 (v := ?_) (a' := ?_) hps rfl (by kernel_rfl) rfl ?_ ?_ ?_
      rotate_left 2
      · intro w' hk; go_simp; try rfl
      · simp only [Act.put, List.setIfInBounds_toArray, List.set_cons_succ, List.set_cons_zero]; try rfl
      refine flowe_take 15 (v := ?_) (a' := ?_) hps rfl (by kernel_rfl) rfl ?_ ?_ ?_
      rotate_left 2
      · intro w' hk; go_simp; try rfl
      · simp only [Act.put, List.setIfInBounds_toArray, List.set_cons_succ, List.set_cons_zero]; try rfl
      refine flowe_take 16 (v := ?_) (a' := ?_) hps rfl (by kernel_rfl) rfl ?_ ?_ ?_
      rotate_left 2
      · intro w' hk; go_simp; try rfl
      · simp only [Act.put, List.setIfInBounds_toArray, List.set_cons_succ, List.set_cons_zero]; try rfl
      refine flowe_take 17 (v := ?_) (a' := ?_) hps rfl (by kernel_rfl) rfl ?_ ?_ ?_
      rotate_left 2
      · intro w' hk; go_simp; try rfl
      · simp only [Act.put, List.setIfInBounds_toArray, List.set_cons_succ, List.set_cons_zero]; try rfl
      refine flowe_take 18 (v := ?_) (a' := ?_) hps rfl (by kernel_rfl) rfl ?_ ?_ ?_
      rotate_left 2
      · intro w' hk; go_simp; try rfl
      · simp only [Act.put, List.setIfInBounds_toArray, List.set_cons_succ, List.set_cons_zero]; try rfl
      refine flowe_take 19 (v := ?_) (a' := ?_) hps rfl (by kernel_rfl) rfl ?_ ?_ ?_
      rotate_left 2
      · intro w' hk; go_simp; try rfl
      · simp only [Act.put, List.setIfInBounds_toArray, List.set_cons_succ, List.set_cons_zero]; try rfl
      refine flowe_one 20 hps rfl (by kernel_rfl) rfl (wp_next (fun K hK => ?_))
      go_simp
      with_reducible refine (code_of _ 1 (by decide) (by decide)).mono ?_
      rintro e w' ⟨rfl, rfl⟩
      refine hK _ _ (flow_step kk ?_ ?_)
      · first | exact kp | exact Keep.refl _ _ | exact (Keep.refl _ _).alloc _
      clear kk hK; try clear kp
      intro kk
      refine flowe_take 21 (v := ?_) (a' := ?_) hps rfl (by kernel_rfl) rfl ?_ ?_ ?_
      rotate_left 2
      · intro w' hk; go_simp; try rfl
      · simp only [Act.put, List.setIfInBounds_toArray, List.set_cons_succ, List.set_cons_zero]; try rfl
      refine flowe_take 22 (v := ?_) (a' := ?_) hps rfl (by kernel_rfl) rfl ?_ ?_ ?_
      rotate_left 2
      · intro w' hk; go_simp; try rfl
      · simp only [Act.put, List.setIfInBounds_toArray, List.set_cons_succ, List.set_cons_zero]; try rfl
      refine flowe_take 23 (v := ?_) (a' := ?_) hps rfl (by kernel_rfl) rfl ?_ ?_ ?_
      rotate_left 2
      · intro w' hk; go_simp; try rfl
      · simp only [Act.put, List.setIfInBounds_toArray, List.set_cons_succ, List.set_cons_zero]; try rfl
      refine flowe_take 24 (v := ?_) (a' := ?_) hps rfl (by kernel_rfl) rfl ?_ ?_ ?_
      rotate_left 2
      · intro w' hk; go_simp; try rfl
      · simp only [Act.put, List.setIfInBounds_toArray, List.set_cons_succ, List.set_cons_zero]; try rfl
      refine flowe_take 25 (v := ?_) (a' := ?_) hps rfl (by kernel_rfl) rfl ?_ ?_ ?_
      rotate_left 2
      · intro w' hk; go_simp; try rfl
      · simp only [Act.put, List.setIfInBounds_toArray, List.set_cons_succ, List.set_cons_zero]; try rfl
      refine flowe_done hps (by kernel_rfl) ?_
      have BZ := Lib.hid (TK.out.below (kk.below (Nat.le_refl _) fun _ _ h => h)).end
      clear kk
      go_wp2
      go_ret
      exact ⟨rfl, BZ.out⟩
    | some S =>
      have kc := blk_Set TI.out (i := 6) rfl xo xs xu
      rw [show ({ base := bn, cap := 16384, b := b } : Ar).b = b from rfl, ← HSS.out, show errS (some S) = .nilIface from rfl] at kc
      with_reducible refine kc.mono ?_
      clear kc
      rintro e wj ⟨rfl, tj⟩
      have TJ := Lib.hid tj
      clear tj
      go_wp2_with (refine bk_load TJ.out 7 rfl rfl _ rfl rfl ?_)
      have kc := rb_Set_ok TJ.out a _ c b (HRD.out _ _ TJ.out) (by omega) xo xs xu S HSS.out.symm
      with_reducible refine kc.mono ?_
      clear kc
      rintro e wk ⟨v3, rfl, tk⟩
      have TK := Lib.hid tk
      clear tk
      obtain ⟨a3, c3, rfl, _⟩ := TK.out.bsOwn (i := 0) rfl
      have HB3 := Lib.hid (TK.out.drew.bsV (i := 0) rfl)
      obtain ⟨va, hva⟩ := TK.out.drew.ar (i := 7) rfl
      have HVA := Lib.hid (show ArA _ q { base := bn, cap := 16384, b := S } va from hva)
      clear hva TI TJ
      go_wp2
      refine flowe_begin (F := fun _ => False) hmixed 26 rfl (by repeat (first | with_reducible refine ps_then ?_ | with_reducible refine ps_block ?_ | with_reducible exact ps_body | refine ps_then ?_ | refine ps_block ?_ | exact ps_body)) (fun hps => ?_)
      simp only [List.replicate]
      have kk := (Keep.refl (fun _ => False) (wk)).drew
      refine flowe_take 0 (v := ?_) (a' := ?_) hps rfl (by kernel_rfl) rfl ?_ ?_ ?_
      rotate_left 2
      · intro w' hk; go_simp; try rfl
      · simp only [Act.put, List.setIfInBounds_toArray, List.set_cons_succ, List.set_cons_zero]; try rfl
      refine flowe_take 1 (v := ?_) (a' := ?_) hps rfl (by kernel_rfl) rfl ?_ ?_ ?_
      rotate_left 2
      · intro w' hk; go_simp; try rfl
      · simp only [Act.put, List.setIfInBounds_toArray, List.set_cons_succ, List.set_cons_zero]; try rfl
      refine flowe_take 2 (v := ?_) (a' := ?_) hps rfl (by kernel_rfl) rfl ?_ ?_ ?_
      rotate_left 2
      · intro w' hk; go_simp; try rfl
      · simp only [Act.put, List.setIfInBounds_toArray, List.set_cons_succ, List.set_cons_zero]; try rfl
      refine flowe_take 5 (v := ?_) (a' := ?_) hps rfl (by kernel_rfl) rfl ?_ ?_ ?_
      rotate_left 2
      · intro w' hk; go_simp; try rfl
      · simp only [Act.put, List.setIfInBounds_toArray, List.set_cons_succ, List.set_cons_zero]; try rfl
      refine flowe_take 6 (v := ?_) (a' := ?_) hps rfl (by kernel_rfl) rfl ?_ ?_ ?_
      rotate_left 2
      · intro w' hk; have hs := run_s w' (HB3.out.keep hk (fun _ _ h => h)); go_simp; try rfl
      · simp only [Act.put, List.setIfInBounds_toArray, List.set_cons_succ, List.set_cons_zero]; try rfl
      refine flowe_one 3 hps rfl (by kernel_rfl) rfl (wp_next (fun K hK => ?_))
      go_simp
      with_reducible refine (law_Bytes _ q { base := bn, cap := 16384, b := S } va HVA.out).mono ?_
      rintro e w7 ⟨v7, rfl, o7, b7⟩
      have kp := Keep.of_below (F := fun _ => False) b7
      obtain ⟨a7, c7, rfl, _, hb7⟩ := Sl.of_owned o7
      have HB7 := Lib.hid (show Bs w7 a7 S.length c7 S from hb7)
      clear o7 b7 hb7
      refine hK _ _ (flow_step kk ?_ ?_)
      · first | exact kp | exact Keep.refl _ _ | exact (Keep.refl _ _).alloc _
      clear kk hK; try clear kp
      intro kk
      refine flowe_take 4 (v := ?_) (a' := ?_) hps rfl (by kernel_rfl) rfl ?_ ?_ ?_
      rotate_left 2
      · intro w' hk; have hs := run_s w' (HB7.out.keep hk (fun _ _ h => h)); go_simp; try rfl
      · simp only [Act.put, List.setIfInBounds_toArray, List.set_cons_succ, List.set_cons_zero]; try rfl
      refine flowe_take 7 (v := ?_) (a' := ?_) hps rfl (by kernel_rfl) rfl ?_ ?_ ?_
      rotate_left 2
      · intro w' hk; go_simp; try rfl
      · simp only [Act.put, List.setIfInBounds_toArray, List.set_cons_succ, List.set_cons_zero]; try rfl
      refine flowe_take 8 (v := ?_) (a' := ?_) hps rfl (by kernel_rfl) rfl ?_ ?_ ?_
      rotate_left 2
      · intro w' hk; go_simp; try rfl
      · simp only [Act.put, List.setIfInBounds_toArray, List.set_cons_succ, List.set_cons_zero]; try rfl
      refine flowe_take 9 (v := ?_) (a' := ?_) hps rfl (by kernel_rfl) rfl ?_ ?_ ?_
      rotate_left 2
      · intro w' hk; go_simp; try rfl
      · simp only [Act.put, List.setIfInBounds_toArray, List.set_cons_succ, List.set_cons_zero]; try rfl
      refine flowe_take 10 (v := ?_) (a' := ?_) hps rfl (by kernel_rfl) rfl ?_ ?_ ?_
      rotate_left 2
      · intro w' hk; go_simp; try rfl
      · simp only [Act.put, List.setIfInBounds_toArray, List.set_cons_succ, List.set_cons_zero]; try rfl
      refine flowe_take 11 (v := ?_) (a' := ?_) hps rfl (by kernel_rfl) rfl ?_ ?_ ?_
      rotate_left 2
      · intro w' hk; go_simp; try rfl
      · simp only [Act.put, List.setIfInBounds_toArray, List.set_cons_succ, List.set_cons_zero]; try rfl
      refine flowe_take 12 (v := ?_) (a' := ?_) hps rfl (by kernel_rfl) rfl ?_ ?_ ?_
      rotate_left 2
      · intro w' hk; go_simp; try rfl
      · simp only [Act.put, List.setIfInBounds_toArray, List.set_cons_succ, List.set_cons_zero]; try rfl
      refine flowe_take 13 (v := ?_) (a' := ?_) hps rfl (by kernel_rfl) rfl ?_ ?_ ?_
      rotate_left 2
      · intro w' hk; go_simp; try rfl
      · simp only [Act.put, List.setIfInBounds_toArray, List.set_cons_succ, List.set_cons_zero]; try rfl
      refine flowe_take 14 (v := ?_) (a' := ?_) hps rfl (by kernel_rfl) rfl ?_ ?_ ?_
      rotate_left 2
      · intro w' hk; go_simp; try rfl
      · simp only [Act.put, List.setIfInBounds_toArray, List.set_cons_succ, List.set_cons_zero]; try rfl
      refine flowe_take 15 (v := ?_) (a' := ?_) hps rfl (by kernel_rfl) rfl ?_ ?_ ?_
      rotate_left 2
      · intro w' hk; go_simp; try rfl
      · simp only [Act.put, List.setIfInBounds_toArray, List.set_cons_succ, List.set_cons_zero]; try rfl
      refine flowe_skip 16 (a' := ?_) hps rfl (by kernel_rfl) rfl ?_ ?_
      rotate_left 1
      · simp only [Act.put, List.setIfInBounds_toArray, List.set_cons_succ, List.set_cons_zero]; try rfl
      refine flowe_skip 17 (a' := ?_) hps rfl (by kernel_rfl) rfl ?_ ?_
      rotate_left 1
      · simp only [Act.put, List.setIfInBounds_toArray, List.set_cons_succ, List.set_cons_zero]; try rfl
      refine flowe_skip 18 (a' := ?_) hps rfl (by kernel_rfl) rfl ?_ ?_
      rotate_left 1
      · simp only [Act.put, List.setIfInBounds_toArray, List.set_cons_succ, List.set_cons_zero]; try rfl
      refine flowe_skip 19 (a' := ?_) hps rfl (by kernel_rfl) rfl ?_ ?_
      rotate_left 1
      · simp only [Act.put, List.setIfInBounds_toArray, List.set_cons_succ, List.set_cons_zero]; try rfl
      refine flowe_skip 20 (a' := ?_) hps rfl (by kernel_rfl) rfl ?_ ?_
      rotate_left 1
      · simp only [Act.put, List.setIfInBounds_toArray, List.set_cons_succ, List.set_cons_zero]; try rfl
      refine flowe_skip 21 (a' := ?_) hps rfl (by kernel_rfl) rfl ?_ ?_
      rotate_left 1
      · simp only [Act.put, List.setIfInBounds_toArray, List.set_cons_succ, List.set_cons_zero]; try rfl
      refine flowe_skip 22 (a' := ?_) hps rfl (by kernel_rfl) rfl ?_ ?_
      rotate_left 1
      · simp only [Act.put, List.setIfInBounds_toArray, List.set_cons_succ, List.set_cons_zero]; try rfl
      refine flowe_take 23 (v := ?_) (a' := ?_) hps rfl (by kernel_rfl) rfl ?_ ?_ ?_
      rotate_left 2
      · intro w' hk; go_simp; try rfl
      · simp only [Act.put, List.setIfInBounds_toArray, List.set_cons_succ, List.set_cons_zero]; try rfl
      refine flowe_take 24 (v := ?_) (a' := ?_) hps rfl (by kernel_rfl) rfl ?_ ?_ ?_
      rotate_left 2
      · intro w' hk; go_simp; try rfl
      · simp only [Act.put, List.setIfInBounds_toArray, List.set_cons_succ, List.set_cons_zero]; try rfl
      refine flowe_take 25 (v := ?_) (a' := ?_) hps rfl (by kernel_rfl) rfl ?_ ?_ ?_
      rotate_left 2
      · intro w' hk; go_simp; try rfl
      · simp only [Act.put, List.setIfInBounds_toArray, List.set_cons_succ, List.set_cons_zero]; try rfl
      refine flowe_done hps (by kernel_rfl) ?_
      have BZ := Lib.hid (TK.out.below (kk.below (Nat.le_refl _) fun _ _ h => h)).end
      clear kk
      go_wp2
      go_ret
      exact ⟨rfl, BZ.out⟩
  · try rw [show errO none = .iface 183 (.int .i64 3) from rfl]
    try rw [show errO none = .iface 183 (.int .i64 3) from rfl]
    try rw [show errW (some Z) = .nilIface from rfl]
    go_wp2_with (first | (refine bk_loadg TE.out 2 rfl rfl _ rfl rfl ?_) | (refine bk_loadg TE.out 3 rfl rfl _ rfl rfl ?_) | (refine bk_loadg TE.out 4 rfl rfl _ rfl rfl ?_) | (refine bk_loadg TE.out 5 rfl rfl _ rfl rfl ?_))
    have kc := law_Blocks _ a1 c1 LZ a2 c2 LZ HS1.out HS2.out
    rw [if_pos rfl] at kc
    with_reducible refine kc.mono ?_
    clear kc
    rintro e wf ⟨rfl, bf⟩
    have BF := Lib.hid bf
    clear bf
    have TI := Lib.hid (TE.out.below BF.out)
    clear BF TE HS1 HS2
    go_wp2_with (first | (refine bk_load TI.out 7 rfl rfl _ rfl rfl ?_) | ((with_reducible refine (code_of _ 3 (by decide) (by decide)).mono ?_); rintro e w' ⟨rfl, rfl⟩))
    cases S with
    | none =>
      have kc := blk_Set TI.out (i := 6) rfl xo xs xu
      rw [show ({ base := bn, cap := 16384, b := b } : Ar).b = b from rfl, ← HSS.out, show errS none = .iface 183 (.int .i64 1) from rfl] at kc
      with_reducible refine kc.mono ?_
      clear kc
      rintro e wj ⟨rfl, tj⟩
      have TJ := Lib.hid tj
      clear tj
      go_wp2_with (refine bk_load TJ.out 7 rfl rfl _ rfl rfl ?_)
      have kc := rb_Set_no TJ.out a _ c b (HRD.out _ _ TJ.out) xo xs xu HSS.out.symm
      with_reducible refine kc.mono ?_
      clear kc
      rintro e wk ⟨rfl, tk⟩
      have TK := Lib.hid tk
      clear tk
      have HB3 := Lib.hid (HRD.out _ _ TK.out.drew)
      obtain ⟨va, hva⟩ := TK.out.drew.ar (i := 6) rfl
      have HVA := Lib.hid (show ArA _ q { base := bn, cap := 16384, b := b } va from hva)
      clear hva TI TJ
      go_wp2
      refine flowe_begin (F := fun _ => False) hmixed 26 rfl (by repeat (first | with_reducible refine ps_then ?_ | with_reducible refine ps_block ?_ | with_reducible exact ps_body | refine ps_then ?_ | refine ps_block ?_ | exact ps_body)) (fun hps => ?_)
      simp only [List.replicate]
      have kk := (Keep.refl (fun _ => False) (wk)).drew
      refine flowe_take 0 (v := ?_) (a' := ?_) hps rfl (by kernel_rfl) rfl ?_ ?_ ?_
      rotate_left 2
      · intro w' hk; go_simp; try rfl
      · simp only [Act.put, List.setIfInBounds_toArray, List.set_cons_succ, List.set_cons_zero]; try rfl
      refine flowe_take 1 (v := ?_) (a' := ?_) hps rfl (by kernel_rfl) rfl ?_ ?_ ?_
      rotate_left 2
      · intro w' hk; go_simp; try rfl
      · simp only [Act.put, List.setIfInBounds_toArray, List.set_cons_succ, List.set_cons_zero]; try rfl
      refine flowe_take 2 (v := ?_) (a' := ?_) hps rfl (by kernel_rfl) rfl ?_ ?_ ?_
      rotate_left 2
      · intro w' hk; go_simp; try rfl
      · simp only [Act.put, List.setIfInBounds_toArray, List.set_cons_succ, List.set_cons_zero]; try rfl
      refine flowe_take 5 (v := ?_) (a' := ?_) hps rfl (by kernel_rfl) rfl ?_ ?_ ?_
      rotate_left 2
      · intro w' hk; go_simp; try rfl
      · simp only [Act.put, List.setIfInBounds_toArray, List.set_cons_succ, List.set_cons_zero]; try rfl
      refine flowe_take 6 (v := ?_) (a' := ?_) hps rfl (by kernel_rfl) rfl ?_ ?_ ?_
      rotate_left 2
      · intro w' hk; have hs := run_s w' (HB3.out.keep hk (fun _ _ h => h)); go_simp; try rfl
      · simp only [Act.put, List.setIfInBounds_toArray, List.set_cons_succ, List.set_cons_zero]; try rfl
      refine flowe_one 3 hps rfl (by kernel_rfl) rfl (wp_next (fun K hK => ?_))
      go_simp
      with_reducible refine (law_Bytes _ q { base := bn, cap := 16384, b := b } va HVA.out).mono ?_
      rintro e w7 ⟨v7, rfl, o7, b7⟩
      have kp := Keep.of_below (F := fun _ => False) b7
      obtain ⟨a7, c7, rfl, _, hb7⟩ := Sl.of_owned o7
      have HB7 := Lib.hid (show Bs w7 a7 b.length c7 b from hb7)
      clear o7 b7 hb7
      refine hK _ _ (flow_step kk ?_ ?_)
      · first | exact kp | exact Keep.refl _ _ | exact (Keep.refl _ _).alloc _
      clear kk hK; try clear kp
      intro kk
      refine flowe_take 4 (v := ?_) (a' := ?_) hps rfl (by kernel_rfl) rfl ?_ ?_ ?_
      rotate_left 2
      · intro w' hk; have hs := run_s w' (HB7.out.keep hk (fun _ _ h => h)); go_simp; try rfl
      · simp only [Act.put, List.setIfInBounds_toArray, List.set_cons_succ, List.set_cons_zero]; try rfl
      refine flowe_take 7 (v := ?_) (a' := ?_) hps rfl (by kernel_rfl) rfl ?_ ?_ ?_
      rotate_left 2
      · intro w' hk; go_simp; try rfl
      · simp only [Act.put, List.setIfInBounds_toArray, List.set_cons_succ, List.set_cons_zero]; try rfl
      refine flowe_take 8 (v := ?_) (a' := ?_) hps rfl (by kernel_rfl) rfl ?_ ?_ ?_
      rotate_left 2
      · intro w' hk; go_simp; try rfl
      · simp only [Act.put, List.setIfInBounds_toArray, List.set_cons_succ, List.set_cons_zero]; try rfl
      refine flowe_take 9 (v := ?_) (a' := ?_) hps rfl (by kernel_rfl) rfl ?_ ?_ ?_
      rotate_left 2
      · intro w' hk; go_simp; try rfl
      · simp only [Act.put, List.setIfInBounds_toArray, List.set_cons_succ, List.set_cons_zero]; try rfl
      refine flowe_take 10 (v := ?_) (a' := ?_) hps rfl (by kernel_rfl) rfl ?_ ?_ ?_
      rotate_left 2
      · intro w' hk; go_simp; try rfl
      · simp only [Act.put, List.setIfInBounds_toArray, List.set_cons_succ, List.set_cons_zero]; try rfl
      refine flowe_take 11 (v := ?_) (a' := ?_) hps rfl (by kernel_rfl) rfl ?_ ?_ ?_
      rotate_left 2
      · intro w' hk; go_simp; try rfl
      · simp only [Act.put, List.setIfInBounds_toArray, List.set_cons_succ, List.set_cons_zero]; try rfl
      refine flowe_skip 12 (a' := ?_) hps rfl (by kernel_rfl) rfl ?_ ?_
      rotate_left 1
      · simp only [Act.put, List.setIfInBounds_toArray, List.set_cons_succ, List.set_cons_zero]; try rfl
      refine flowe_skip 13 (a' := ?_) hps rfl (by kernel_rfl) rfl ?_ ?_
      rotate_left 1
      · simp only [Act.put, List.setIfInBounds_toArray, List.set_cons_succ, List.set_cons_zero]; try rfl
      refine flowe_take 14 (v := ?_) (a' := ?_) hps rfl (by kernel_rfl) rfl ?_ ?_ ?_
      rotate_left 2
      · intro w' hk; go_simp; try rfl
      · simp only [Act.put, List.setIfInBounds_toArray, List.set_cons_succ, List.set_cons_zero]; try rfl
      refine flowe_take 15 (v := ?_) (a' := ?_) hps rfl (by kernel_rfl) rfl ?_ ?_ ?_
      rotate_left 2
      · intro w' hk; go_simp; try rfl
      · simp only [Act.put, List.setIfInBounds_toArray, List.set_cons_succ, List.set_cons_zero]; try rfl
      refine flowe_take 16 (v := ?_) (a' := ?_) hps rfl (by kernel_rfl) rfl ?_ ?_ ?_
      rotate_left 2
      · intro w' hk; go_simp; try rfl
      · simp only [Act.put, List.setIfInBounds_toArray, List.set_cons_succ, List.set_cons_zero]; try rfl
      refine flowe_take 17 (v := ?_) (a' := ?_) hps rfl (by kernel_rfl) rfl ?_ ?_ ?_
      rotate_left 2
      · intro w' hk; go_simp; try rfl
      · simp only [Act.put, List.setIfInBounds_toArray, List.set_cons_succ, List.set_cons_zero]; try rfl
      refine flowe_take 18 (v := ?_) (a' := ?_) hps rfl (by kernel_rfl) rfl ?_ ?_ ?_
      rotate_left 2
      · intro w' hk; go_simp; try rfl
      · simp only [Act.put, List.setIfInBounds_toArray, List.set_cons_succ, List.set_cons_zero]; try rfl
      refine flowe_take 19 (v := ?_) (a' := ?_) hps rfl (by kernel_rfl) rfl ?_ ?_ ?_
      rotate_left 2
      · intro w' hk; go_simp; try rfl
      · simp only [Act.put, List.setIfInBounds_toArray, List.set_cons_succ, List.set_cons_zero]; try rfl
      refine flowe_one 20 hps rfl (by kernel_rfl) rfl (wp_next (fun K hK => ?_))
      go_simp
      with_reducible refine (code_of _ 1 (by decide) (by decide)).mono ?_
      rintro e w' ⟨rfl, rfl⟩
      refine hK _ _ (flow_step kk ?_ ?_)
      · first | exact kp | exact Keep.refl _ _ | exact (Keep.refl _ _).alloc _
      clear kk hK; try clear kp
      intro kk
      refine flowe_take 21 (v := ?_) (a' := ?_) hps rfl (by kernel_rfl) rfl ?_ ?_ ?_
      rotate_left 2
      · intro w' hk; go_simp; try rfl
      · simp only [Act.put, List.setIfInBounds_toArray, List.set_cons_succ, List.set_cons_zero]; try rfl
      refine flowe_take 22 (v := ?_) (a' := ?_) hps rfl (by kernel_rfl) rfl ?_ ?_ ?_
      rotate_left 2
      · intro w' hk; go_simp; try rfl
      · simp only [Act.put, List.setIfInBounds_toArray, List.set_cons_succ, List.set_cons_zero]; try rfl
      refine flowe_take 23 (v := ?_) (a' := ?_) hps rfl (by kernel_rfl) rfl ?_ ?_ ?_
      rotate_left 2
      · intro w' hk; go_simp; try rfl
      · simp only [Act.put, List.setIfInBounds_toArray, List.set_cons_succ, List.set_cons_zero]; try rfl
      refine flowe_take 24 (v := ?_) (a' := ?_) hps rfl (by kernel_rfl) rfl ?_ ?_ ?_
      rotate_left 2
      · intro w' hk; go_simp; try rfl
      · simp only [Act.put, List.setIfInBounds_toArray, List.set_cons_succ, List.set_cons_zero]; try rfl
      refine flowe_take 25 (v := ?_) (a' := ?_) hps rfl (by kernel_rfl) rfl ?_ ?_ ?_
      rotate_left 2
      · intro w' hk; go_simp; try rfl
      · simp only [Act.put, List.setIfInBounds_toArray, List.set_cons_succ, List.set_cons_zero]; try rfl
      refine flowe_done hps (by kernel_rfl) ?_
      have BZ := Lib.hid (TK.out.below (kk.below (Nat.le_refl _) fun _ _ h => h)).end
      clear kk
      go_wp2
      go_ret
      exact ⟨rfl, BZ.out⟩
    | some S =>
      have kc := blk_Set TI.out (i := 6) rfl xo xs xu
      rw [show ({ base := bn, cap := 16384, b := b } : Ar).b = b from rfl, ← HSS.out, show errS (some S) = .nilIface from rfl] at kc
      with_reducible refine kc.mono ?_
      clear kc
      rintro e wj ⟨rfl, tj⟩
      have TJ := Lib.hid tj
      clear tj
      go_wp2_with (refine bk_load TJ.out 7 rfl rfl _ rfl rfl ?_)
      have kc := rb_Set_ok TJ.out a _ c b (HRD.out _ _ TJ.out) (by omega) xo xs xu S HSS.out.symm
      with_reducible refine kc.mono ?_
      clear kc
      rintro e wk ⟨v3, rfl, tk⟩
      have TK := Lib.hid tk
      clear tk
      obtain ⟨a3, c3, rfl, _⟩ := TK.out.bsOwn (i := 0) rfl
      have HB3 := Lib.hid (TK.out.drew.bsV (i := 0) rfl)
      obtain ⟨va, hva⟩ := TK.out.drew.ar (i := 7) rfl
      have HVA := Lib.hid (show ArA _ q { base := bn, cap := 16384, b := S } va from hva)
      clear hva TI TJ
      go_wp2
      refine flowe_begin (F := fun _ => False) hmixed 26 rfl (by repeat (first | with_reducible refine ps_then ?_ | with_reducible refine ps_block ?_ | with_reducible exact ps_body | refine ps_then ?_ | refine ps_block ?_ | exact ps_body)) (fun hps => ?_)
      simp only [List.replicate]
      have kk := (Keep.refl (fun _ => False) (wk)).drew
      refine flowe_take 0 (v := ?_) (a' := ?_) hps rfl (by kernel_rfl) rfl ?_ ?_ ?_
      rotate_left 2
      · intro w' hk; go_simp; try rfl
      · simp only [Act.put, List.setIfInBounds_toArray, List.set_cons_succ, List.set_cons_zero]; try rfl
      refine flowe_take 1 (v := ?_) (a' := ?_) hps rfl (by kernel_rfl) rfl ?_ ?_ ?_
      rotate_left 2
      · intro w' hk; go_simp; try rfl
      · simp only [Act.put, List.setIfInBounds_toArray, List.set_cons_succ, List.set_cons_zero]; try rfl
      refine flowe_take 2 (v := ?_) (a' := ?_) hps rfl (by kernel_rfl) rfl ?_ ?_ ?_
      rotate_left 2
      · intro w' hk; go_simp; try rfl
      · simp only [Act.put, List.setIfInBounds_toArray, List.set_cons_succ, List.set_cons_zero]; try rfl
      refine flowe_take 5 (v := ?_) (a' := ?_) hps rfl (by kernel_rfl) rfl ?_ ?_ ?_
      rotate_left 2
      · intro w' hk; go_simp; try rfl
      · simp only [Act.put, List.setIfInBounds_toArray, List.set_cons_succ, List.set_cons_zero]; try rfl
      refine flowe_take 6 (v := ?_) (a' := ?_) hps rfl (by kernel_rfl) rfl ?_ ?_ ?_
      rotate_left 2
      · intro w' hk; have hs := run_s w' (HB3.out.keep hk (fun _ _ h => h)); go_simp; try rfl
      · simp only [Act.put, List.setIfInBounds_toArray, List.set_cons_succ, List.set_cons_zero]; try rfl
      refine flowe_one 3 hps rfl (by kernel_rfl) rfl (wp_next (fun K hK => ?_))
      go_simp
      with_reducible refine (law_Bytes _ q { base := bn, cap := 16384, b := S } va HVA.out).mono ?_
      rintro e w7 ⟨v7, rfl, o7, b7⟩
      have kp := Keep.of_below (F := fun _ => False) b7
      obtain ⟨a7, c7, rfl, _, hb7⟩ := Sl.of_owned o7
      have HB7 := Lib.hid (show Bs w7 a7 S.length c7 S from hb7)
      clear o7 b7 hb7
      refine hK _ _ (flow_step kk ?_ ?_)
      · first | exact kp | exact Keep.refl _ _ | exact (Keep.refl _ _).alloc _
      clear kk hK; try clear kp
      intro kk
      refine flowe_take 4 (v := ?_) (a' := ?_) hps rfl (by kernel_rfl) rfl ?_ ?_ ?_
      rotate_left 2
      · intro w' hk; have hs := run_s w' (HB7.out.keep hk (fun _ _ h => h)); go_simp; try rfl
      · simp only [Act.put, List.setIfInBounds_toArray, List.set_cons_succ, List.set_cons_zero]; try rfl
      refine flowe_take 7 (v := ?_) (a' := ?_) hps rfl (by kernel_rfl) rfl ?_ ?_ ?_
      rotate_left 2
      · intro w' hk; go_simp; try rfl
      · simp only [Act.put, List.setIfInBounds_toArray, List.set_cons_succ, List.set_cons_zero]; try rfl
      refine flowe_take 8 (v := ?_) (a' := ?_) hps rfl (by kernel_rfl) rfl ?_ ?_ ?_
      rotate_left 2
      · intro w' hk; go_simp; try rfl
      · simp only [Act.put, List.setIfInBounds_toArray, List.set_cons_succ, List.set_cons_zero]; try rfl
      refine flowe_take 9 (v := ?_) (a' := ?_) hps rfl (by kernel_rfl) rfl ?_ ?_ ?_
      rotate_left 2
      · intro w' hk; go_simp; try rfl
      · simp only [Act.put, List.setIfInBounds_toArray, List.set_cons_succ, List.set_cons_zero]; try rfl
      refine flowe_take 10 (v := ?_) (a' := ?_) hps rfl (by kernel_rfl) rfl ?_ ?_ ?_
      rotate_left 2
      · intro w' hk; go_simp; try rfl
      · simp only [Act.put, List.setIfInBounds_toArray, List.set_cons_succ, List.set_cons_zero]; try rfl
      refine flowe_take 11 (v := ?_) (a' := ?_) hps rfl (by kernel_rfl) rfl ?_ ?_ ?_
      rotate_left 2
      · intro w' hk; go_simp; try rfl
      · simp only [Act.put, List.setIfInBounds_toArray, List.set_cons_succ, List.set_cons_zero]; try rfl
      refine flowe_take 12 (v := ?_) (a' := ?_) hps rfl (by kernel_rfl) rfl ?_ ?_ ?_
      rotate_left 2
      · intro w' hk; go_simp; try rfl
      · simp only [Act.put, List.setIfInBounds_toArray, List.set_cons_succ, List.set_cons_zero]; try rfl
      refine flowe_take 13 (v := ?_) (a' := ?_) hps rfl (by kernel_rfl) rfl ?_ ?_ ?_
      rotate_left 2
      · intro w' hk; go_simp; try rfl
      · simp only [Act.put, List.setIfInBounds_toArray, List.set_cons_succ, List.set_cons_zero]; try rfl
      refine flowe_take 14 (v := ?_) (a' := ?_) hps rfl (by kernel_rfl) rfl ?_ ?_ ?_
      rotate_left 2
      · intro w' hk; go_simp; try rfl
      · simp only [Act.put, List.setIfInBounds_toArray, List.set_cons_succ, List.set_cons_zero]; try rfl
      refine flowe_take 15 (v := ?_) (a' := ?_) hps rfl (by kernel_rfl) rfl ?_ ?_ ?_
      rotate_left 2
      · intro w' hk; go_simp; try rfl
      · simp only [Act.put, List.setIfInBounds_toArray, List.set_cons_succ, List.set_cons_zero]; try rfl
      refine flowe_skip 16 (a' := ?_) hps rfl (by kernel_rfl) rfl ?_ ?_
      rotate_left 1
      · simp only [Act.put, List.setIfInBounds_toArray, List.set_cons_succ, List.set_cons_zero]; try rfl
      refine flowe_skip 17 (a' := ?_) hps rfl (by kernel_rfl) rfl ?_ ?_
      rotate_left 1
      · simp only [Act.put, List.setIfInBounds_toArray, List.set_cons_succ, List.set_cons_zero]; try rfl
      refine flowe_skip 18 (a' := ?_) hps rfl (by kernel_rfl) rfl ?_ ?_
      rotate_left 1
      · simp only [Act.put, List.setIfInBounds_toArray, List.set_cons_succ, List.set_cons_zero]; try rfl
      refine flowe_skip 19 (a' := ?_) hps rfl (by kernel_rfl) rfl ?_ ?_
      rotate_left 1
      · simp only [Act.put, List.setIfInBounds_toArray, List.set_cons_succ, List.set_cons_zero]; try rfl
      refine flowe_skip 20 (a' := ?_) hps rfl (by kernel_rfl) rfl ?_ ?_
      rotate_left 1
      · simp only [Act.put, List.setIfInBounds_toArray, List.set_cons_succ, List.set_cons_zero]; try rfl
      refine flowe_skip 21 (a' := ?_) hps rfl (by kernel_rfl) rfl ?_ ?_
      rotate_left 1
      · simp only [Act.put, List.setIfInBounds_toArray, List.set_cons_succ, List.set_cons_zero]; try rfl
      refine flowe_skip 22 (a' := ?_) hps rfl (by kernel_rfl) rfl ?_ ?_
      rotate_left 1
      · simp only [Act.put, List.setIfInBounds_toArray, List.set_cons_succ, List.set_cons_zero]; try rfl
      refine flowe_take 23 (v := ?_) (a' := ?_) hps rfl (by kernel_rfl) rfl ?_ ?_ ?_
      rotate_left 2
      · intro w' hk; go_simp; try rfl
      · simp only [Act.put, List.setIfInBounds_toArray, List.set_cons_succ, List.set_cons_zero]; try rfl
      refine flowe_take 24 (v := ?_) (a' := ?_) hps rfl (by kernel_rfl) rfl ?_ ?_ ?_
      rotate_left 2
      · intro w' hk; go_simp; try rfl
      · simp only [Act.put, List.setIfInBounds_toArray, List.set_cons_succ, List.set_cons_zero]; try rfl
      refine flowe_take 25 (v := ?_) (a' := ?_) hps rfl (by kernel_rfl) rfl ?_ ?_ ?_
      rotate_left 2
      · intro w' hk; go_simp; try rfl
      · simp only [Act.put, List.setIfInBounds_toArray, List.set_cons_succ, List.set_cons_zero]; try rfl
      refine flowe_done hps (by kernel_rfl) ?_
      have BZ := Lib.hid (TK.out.below (kk.below (Nat.le_refl _) fun _ _ h => h)).end
      clear kk
      go_wp2
      go_ret
      exact ⟨rfl, BZ.out⟩
  · try rw [show errO none = .iface 183 (.int .i64 3) from rfl]
    try rw [show errO (some Y) = .nilIface from rfl]
    try rw [show errW none = .iface 183 (.int .i64 3) from rfl]
    go_wp2_with (first | (refine bk_loadg TE.out 2 rfl rfl _ rfl rfl ?_) | (refine bk_loadg TE.out 3 rfl rfl _ rfl rfl ?_) | (refine bk_loadg TE.out 4 rfl rfl _ rfl rfl ?_) | (refine bk_loadg TE.out 5 rfl rfl _ rfl rfl ?_))
    have kc := law_Blocks _ a1 c1 LZ a2 c2 LZ HS1.out HS2.out
    rw [if_pos rfl] at kc
    with_reducible refine kc.mono ?_
    clear kc
    rintro e wf ⟨rfl, bf⟩
    have BF := Lib.hid bf
    clear bf
    have TI := Lib.hid (TE.out.below BF.out)
    clear BF TE HS1 HS2
    go_wp2_with (first | (refine bk_load TI.out 7 rfl rfl _ rfl rfl ?_) | ((with_reducible refine (code_of _ 3 (by decide) (by decide)).mono ?_); rintro e w' ⟨rfl, rfl⟩))
    cases S with
    | none =>
      have kc := blk_Set TI.out (i := 6) rfl xo xs xu
      rw [show ({ base := bn, cap := 16384, b := b } : Ar).b = b from rfl, ← HSS.out, show errS none = .iface 183 (.int .i64 1) from rfl] at kc
      with_reducible refine kc.mono ?_
      clear kc
      rintro e wj ⟨rfl, tj⟩
      have TJ := Lib.hid tj
      clear tj
      go_wp2_with (refine bk_load TJ.out 7 rfl rfl _ rfl rfl ?_)
      have kc := rb_Set_no TJ.out a _ c b (HRD.out _ _ TJ.out) xo xs xu HSS.out.symm
      with_reducible refine kc.mono ?_
      clear kc
      rintro e wk ⟨rfl, tk⟩
      have TK := Lib.hid tk
      clear tk
      have HB3 := Lib.hid (HRD.out _ _ TK.out.drew)
      obtain ⟨va, hva⟩ := TK.out.drew.ar (i := 6) rfl
      have HVA := Lib.hid (show ArA _ q { base := bn, cap := 16384, b := b } va from hva)
      clear hva TI TJ
      go_wp2
      refine flowe_begin (F := fun _ => False) hmixed 26 rfl (by repeat (first | with_reducible refine ps_then ?_ | with_reducible refine ps_block ?_ | with_reducible exact ps_body | refine ps_then ?_ | refine ps_block ?_ | exact ps_body)) (fun hps => ?_)
      simp only [List.replicate]
      have kk := (Keep.refl (fun _ => False) (wk)).drew
      refine flowe_take 0 (v := ?_) (a' := ?_) hps rfl (by kernel_rfl) rfl ?_ ?_ ?_
      rotate_left 2
      · intro w' hk; go_simp; try rfl
      · simp only [Act.put, List.setIfInBounds_toArray, List.set_cons_succ, List.set_cons_zero]; try rfl
      refine flowe_take 1 (v := ?_) (a' := ?_) hps rfl (by kernel_rfl) rfl ?_ ?_ ?_
      rotate_left 2
      · intro w' hk; go_simp; try rfl
      · simp only [Act.put, List.setIfInBounds_toArray, List.set_cons_succ, List.set_cons_zero]; try rfl
      refine flowe_take 2 (v := ?_) (a' := ?_) hps rfl (by kernel_rfl) rfl ?_ ?_ ?_
      rotate_left 2
      · intro w' hk; go_simp; try rfl
      · simp only [Act.put, List.setIfInBounds_toArray, List.set_cons_succ, List.set_cons_zero]; try rfl
      refine flowe_take 5 (v := ?_) (a' := ?_) hps rfl (by kernel_rfl) rfl ?_ ?_ ?_
      rotate_left 2
      · intro w' hk; go_simp; try rfl
      · simp only [Act.put, List.setIfInBounds_toArray, List.set_cons_succ, List.set_cons_zero]; try rfl
      refine flowe_take 6 (v := ?_) (a' := ?_) hps rfl (by kernel_rfl) rfl ?_ ?_ ?_
      rotate_left 2
      · intro w' hk; have hs := run_s w' (HB3.out.keep hk (fun _ _ h => h)); go_simp; try rfl
      · simp only [Act.put, List.setIfInBounds_toArray, List.set_cons_succ, List.set_cons_zero]; try rfl
      refine flowe_one 3 hps rfl (by kernel_rfl) rfl (wp_next (fun K hK => ?_))
      go_simp
      with_reducible refine (law_Bytes _ q { base := bn, cap := 16384, b := b } va HVA.out).mono ?_
      rintro e w7 ⟨v7, rfl, o7, b7⟩
      have kp := Keep.of_below (F := fun _ => False) b7
      obtain ⟨a7, c7, rfl, _, hb7⟩ := Sl.of_owned o7
      have HB7 := Lib.hid (show Bs w7 a7 b.length c7 b from hb7)
      clear o7 b7 hb7
      refine hK _ _ (flow_step kk ?_ ?_)
      · first | exact kp | exact Keep.refl _ _ | exact (Keep.refl _ _).alloc _
      clear kk hK; try clear kp
      intro kk
      refine flowe_take 4 (v := ?_) (a' := ?_) hps rfl (by kernel_rfl) rfl ?_ ?_ ?_
      rotate_left 2
      · intro w' hk; have hs := run_s w' (HB7.out.keep hk (fun _ _ h => h)); go_simp; try rfl
      · simp only [Act.put, List.setIfInBounds_toArray, List.set_cons_succ, List.set_cons_zero]; try rfl
      refine flowe_take 7 (v := ?_) (a' := ?_) hps rfl (by kernel_rfl) rfl ?_ ?_ ?_
      rotate_left 2
      · intro w' hk; go_simp; try rfl
      · simp only [Act.put, List.setIfInBounds_toArray, List.set_cons_succ, List.set_cons_zero]; try rfl
      refine flowe_take 8 (v := ?_) (a' := ?_) hps rfl (by kernel_rfl) rfl ?_ ?_ ?_
      rotate_left 2
      · intro w' hk; go_simp; try rfl
      · simp only [Act.put, List.setIfInBounds_toArray, List.set_cons_succ, List.set_cons_zero]; try rfl
      refine flowe_take 9 (v := ?_) (a' := ?_) hps rfl (by kernel_rfl) rfl ?_ ?_ ?_
      rotate_left 2
      · intro w' hk; go_simp; try rfl
      · simp only [Act.put, List.setIfInBounds_toArray, List.set_cons_succ, List.set_cons_zero]; try rfl
      refine flowe_take 10 (v := ?_) (a' := ?_) hps rfl (by kernel_rfl) rfl ?_ ?_ ?_
      rotate_left 2
      · intro w' hk; go_simp; try rfl
      · simp only [Act.put, List.setIfInBounds_toArray, List.set_cons_succ, List.set_cons_zero]; try rfl
      refine flowe_take 11 (v := ?_) (a' := ?_) hps rfl (by kernel_rfl) rfl ?_ ?_ ?_
      rotate_left 2
      · intro w' hk; go_simp; try rfl
      · simp only [Act.put, List.setIfInBounds_toArray, List.set_cons_succ, List.set_cons_zero]; try rfl
      refine flowe_skip 12 (a' := ?_) hps rfl (by kernel_rfl) rfl ?_ ?_
      rotate_left 1
      · simp only [Act.put, List.setIfInBounds_toArray, List.set_cons_succ, List.set_cons_zero]; try rfl
      refine flowe_skip 13 (a' := ?_) hps rfl (by kernel_rfl) rfl ?_ ?_
      rotate_left 1
      · simp only [Act.put, List.setIfInBounds_toArray, List.set_cons_succ, List.set_cons_zero]; try rfl
      refine flowe_take 14 (v := ?_) (a' := ?_) hps rfl (by kernel_rfl) rfl ?_ ?_ ?_
      rotate_left 2
      · intro w' hk; go_simp; try rfl
      · simp only [Act.put, List.setIfInBounds_toArray, List.set_cons_succ, List.set_cons_zero]; try rfl
      refine flowe_take 15 (v := ?_) (a' := ?_) hps rfl (by kernel_rfl) rfl ?_ ?_ ?_
      rotate_left 2
      · intro w' hk; go_simp; try rfl
      · simp only [Act.put, List.setIfInBounds_toArray, List.set_cons_succ, List.set_cons_zero]; try rfl
      refine flowe_take 16 (v := ?_) (a' := ?_) hps rfl (by kernel_rfl) rfl ?_ ?_ ?_
      rotate_left 2
      · intro w' hk; go_simp; try rfl
      · simp only [Act.put, List.setIfInBounds_toArray, List.set_cons_succ, List.set_cons_zero]; try rfl
      refine flowe_take 17 (v := ?_) (a' := ?_) hps rfl (by kernel_rfl) rfl ?_ ?_ ?_
      rotate_left 2
      · intro w' hk; go_simp; try rfl
      · simp only [Act.put, List.setIfInBounds_toArray, List.set_cons_succ, List.set_cons_zero]; try rfl
      refine flowe_take 18 (v := ?_) (a' := ?_) hps rfl (by kernel_rfl) rfl ?_ ?_ ?_
      rotate_left 2
      · intro w' hk; go_simp; try rfl
      · simp only [Act.put, List.setIfInBounds_toArray, List.set_cons_succ, List.set_cons_zero]; try rfl
      refine flowe_take 19 (v := ?_) (a' := ?_) hps rfl (by kernel_rfl) rfl ?_ ?_ ?_
      rotate_left 2
      · intro w' hk; go_simp; try rfl
      · simp only [Act.put, List.setIfInBounds_toArray, List.set_cons_succ, List.set_cons_zero]; try rfl
      refine flowe_one 20 hps rfl (by kernel_rfl) rfl (wp_next (fun K hK => ?_))
      go_simp
      with_reducible refine (code_of _ 1 (by decide) (by decide)).mono ?_
      rintro e w' ⟨rfl, rfl⟩
      refine hK _ _ (flow_step kk ?_ ?_)
      · first | exact kp | exact Keep.refl _ _ | exact (Keep.refl _ _).alloc _
      clear kk hK; try clear kp
      intro kk
      refine flowe_take 21 (v := ?_) (a' := ?_) hps rfl (by kernel_rfl) rfl ?_ ?_ ?_
      rotate_left 2
      · intro w' hk; go_simp; try rfl
      · simp only [Act.put, List.setIfInBounds_toArray, List.set_cons_succ, List.set_cons_zero]; try rfl
      refine flowe_take 22 (v := ?_) (a' := ?_) hps rfl (by kernel_rfl) rfl ?_ ?_ ?_
      rotate_left 2
      · intro w' hk; go_simp; try rfl
      · simp only [Act.put, List.setIfInBounds_toArray, List.set_cons_succ, List.set_cons_zero]; try rfl
      refine flowe_take 23 (v := ?_) (a' := ?_) hps rfl (by kernel_rfl) rfl ?_ ?_ ?_
      rotate_left 2
      · intro w' hk; go_simp; try rfl
      · simp only [Act.put, List.setIfInBounds_toArray, List.set_cons_succ, List.set_cons_zero]; try rfl
      refine flowe_take 24 (v := ?_) (a' := ?_) hps rfl (by kernel_rfl) rfl ?_ ?_ ?_
      rotate_left 2
      · intro w' hk; go_simp; try rfl
      · simp only [Act.put, List.setIfInBounds_toArray, List.set_cons_succ, List.set_cons_zero]; try rfl
      refine flowe_take 25 (v := ?_) (a' := ?_) hps rfl (by kernel_rfl) rfl ?_ ?_ ?_
      rotate_left 2
      · intro w' hk; go_simp; try rfl
      · simp only [Act.put, List.setIfInBounds_toArray, List.set_cons_succ, List.set_cons_zero]; try rfl
      refine flowe_done hps (by kernel_rfl) ?_
      have BZ := Lib.hid (TK.out.below (kk.below (Nat.le_refl _) fun _ _ h => h)).end
      clear kk
      go_wp2
      go_ret
      exact ⟨rfl, BZ.out⟩
    | some S =>
      have kc := blk_Set TI.out (i := 6) rfl xo xs xu
      rw [show ({ base := bn, cap := 16384, b := b } : Ar).b = b from rfl, ← HSS.out, show errS (some S) = .nilIface from rfl] at kc
      with_reducible refine kc.mono ?_
      clear kc
      rintro e wj ⟨rfl, tj⟩
      have TJ := Lib.hid tj
      clear tj
      go_wp2_with (refine bk_load TJ.out 7 rfl rfl _ rfl rfl ?_)
      have kc := rb_Set_ok TJ.out a _ c b (HRD.out _ _ TJ.out) (by omega) xo xs xu S HSS.out.symm
      with_reducible refine kc.mono ?_
      clear kc
      rintro e wk ⟨v3, rfl, tk⟩
      have TK := Lib.hid tk
      clear tk
      obtain ⟨a3, c3, rfl, _⟩ := TK.out.bsOwn (i := 0) rfl
      have HB3 := Lib.hid (TK.out.drew.bsV (i := 0) rfl)
      obtain ⟨va, hva⟩ := TK.out.drew.ar (i := 7) rfl
      have HVA := Lib.hid (show ArA _ q { base := bn, cap := 16384, b := S } va from hva)
      clear hva TI TJ
      go_wp2
      refine flowe_begin (F := fun _ => False) hmixed 26 rfl (by repeat (first | with_reducible refine ps_then ?_ | with_reducible refine ps_block ?_ | with_reducible exact ps_body | refine ps_then ?_ | refine ps_block ?_ | exact ps_body)) (fun hps => ?_)
      simp only [List.replicate]
      have kk := (Keep.refl (fun _ => False) (wk)).drew
      refine flowe_take 0 (v := ?_) (a' := ?_) hps rfl (by kernel_rfl) rfl ?_ ?_ ?_
      rotate_left 2
      · intro w' hk; go_simp; try rfl
      · simp only [Act.put, List.setIfInBounds_toArray, List.set_cons_succ, List.set_cons_zero]; try rfl
      refine flowe_take 1 (v := ?_) (a' := ?_) hps rfl (by kernel_rfl) rfl ?_ ?_ ?_
      rotate_left 2
      · intro w' hk; go_simp; try rfl
      · simp only [Act.put, List.setIfInBounds_toArray, List.set_cons_succ, List.set_cons_zero]; try rfl
      refine flowe_take 2 (v := ?_) (a' := ?_) hps rfl (by kernel_rfl) rfl ?_ ?_ ?_
      rotate_left 2
      · intro w' hk; go_simp; try rfl
      · simp only [Act.put, List.setIfInBounds_toArray, List.set_cons_succ, List.set_cons_zero]; try rfl
      refine flowe_take 5 (v := ?_) (a' := ?_) hps rfl (by kernel_rfl) rfl ?_ ?_ ?_
      rotate_left 2
      · intro w' hk; go_simp; try rfl
      · simp only [Act.put, List.setIfInBounds_toArray, List.set_cons_succ, List.set_cons_zero]; try rfl
      refine flowe_take 6 (v := ?_) (a' := ?_) hps rfl (by kernel_rfl) rfl ?_ ?_ ?_
      rotate_left 2
      · intro w' hk; have hs := run_s w' (HB3.out.keep hk (fun _ _ h => h)); go_simp; try rfl
      · simp only [Act.put, List.setIfInBounds_toArray, List.set_cons_succ, List.set_cons_zero]; try rfl
      refine flowe_one 3 hps rfl (by kernel_rfl) rfl (wp_next (fun K hK => ?_))
      go_simp
      with_reducible refine (law_Bytes _ q { base := bn, cap := 16384, b := S } va HVA.out).mono ?_
      rintro e w7 ⟨v7, rfl, o7, b7⟩
      have kp := Keep.of_below (F := fun _ => False) b7
      obtain ⟨a7, c7, rfl, _, hb7⟩ := Sl.of_owned o7
      have HB7 := Lib.hid (show Bs w7 a7 S.length c7 S from hb7)
      clear o7 b7 hb7
      refine hK _ _ (flow_step kk ?_ ?_)
      · first | exact kp | exact Keep.refl _ _ | exact (Keep.refl _ _).alloc _
      clear kk hK; try clear kp
      intro kk
      refine flowe_take 4 (v := ?_) (a' := ?_) hps rfl (by kernel_rfl) rfl ?_ ?_ ?_
      rotate_left 2
      · intro w' hk; have hs := run_s w' (HB7.out.keep hk (fun _ _ h => h)); go_simp; try rfl
      · simp only [Act.put, List.setIfInBounds_toArray, List.set_cons_succ, List.set_cons_zero]; try rfl
      refine flowe_take 7 (v := ?_) (a' := ?_) hps rfl (by kernel_rfl) rfl ?_ ?_ ?_
      rotate_left 2
      · intro w' hk; go_simp; try rfl
      · simp only [Act.put, List.setIfInBounds_toArray, List.set_cons_succ, List.set_cons_zero]; try rfl
      refine flowe_take 8 (v := ?_) (a' := ?_) hps rfl (by kernel_rfl) rfl ?_ ?_ ?_
      rotate_left 2
      · intro w' hk; go_simp; try rfl
      · simp only [Act.put, List.setIfInBounds_toArray, List.set_cons_succ, List.set_cons_zero]; try rfl
      refine flowe_take 9 (v := ?_) (a' := ?_) hps rfl (by kernel_rfl) rfl ?_ ?_ ?_
      rotate_left 2
      · intro w' hk; go_simp; try rfl
      · simp only [Act.put, List.setIfInBounds_toArray, List.set_cons_succ, List.set_cons_zero]; try rfl
      refine flowe_take 10 (v := ?_) (a' := ?_) hps rfl (by kernel_rfl) rfl ?_ ?_ ?_
      rotate_left 2
      · intro w' hk; go_simp; try rfl
      · simp only [Act.put, List.setIfInBounds_toArray, List.set_cons_succ, List.set_cons_zero]; try rfl
      refine flowe_take 11 (v := ?_) (a' := ?_) hps rfl (by kernel_rfl) rfl ?_ ?_ ?_
      rotate_left 2
      · intro w' hk; go_simp; try rfl
      · simp only [Act.put, List.setIfInBounds_toArray, List.set_cons_succ, List.set_cons_zero]; try rfl
      refine flowe_take 12 (v := ?_) (a' := ?_) hps rfl (by kernel_rfl) rfl ?_ ?_ ?_
      rotate_left 2
      · intro w' hk; go_simp; try rfl
      · simp only [Act.put, List.setIfInBounds_toArray, List.set_cons_succ, List.set_cons_zero]; try rfl
      refine flowe_take 13 (v := ?_) (a' := ?_) hps rfl (by kernel_rfl) rfl ?_ ?_ ?_
      rotate_left 2
      · intro w' hk; go_simp; try rfl
      · simp only [Act.put, List.setIfInBounds_toArray, List.set_cons_succ, List.set_cons_zero]; try rfl
      refine flowe_take 14 (v := ?_) (a' := ?_) hps rfl (by kernel_rfl) rfl ?_ ?_ ?_
      rotate_left 2
      · intro w' hk; go_simp; try rfl
      · simp only [Act.put, List.setIfInBounds_toArray, List.set_cons_succ, List.set_cons_zero]; try rfl
      refine flowe_take 15 (v := ?_) (a' := ?_) hps rfl (by kernel_rfl) rfl ?_ ?_ ?_
      rotate_left 2
      · intro w' hk; go_simp; try rfl
      · simp only [Act.put, List.setIfInBounds_toArray, List.set_cons_succ, List.set_cons_zero]; try rfl
      refine flowe_skip 16 (a' := ?_) hps rfl (by kernel_rfl) rfl ?_ ?_
      rotate_left 1
      · simp only [Act.put, List.setIfInBounds_toArray, List.set_cons_succ, List.set_cons_zero]; try rfl
      refine flowe_skip 17 (a' := ?_) hps rfl (by kernel_rfl) rfl ?_ ?_
      rotate_left 1
      · simp only [Act.put, List.setIfInBounds_toArray, List.set_cons_succ, List.set_cons_zero]; try rfl
      refine flowe_skip 18 (a' := ?_) hps rfl (by kernel_rfl) rfl ?_ ?_
      rotate_left 1
      · simp only [Act.put, List.setIfInBounds_toArray, List.set_cons_succ, List.set_cons_zero]; try rfl
      refine flowe_skip 19 (a' := ?_) hps rfl (by kernel_rfl) rfl ?_ ?_
      rotate_left 1
      · simp only [Act.put, List.setIfInBounds_toArray, List.set_cons_succ, List.set_cons_zero]; try rfl
      refine flowe_skip 20 (a' := ?_) hps rfl (by kernel_rfl) rfl ?_ ?_
      rotate_left 1
      · simp only [Act.put, List.setIfInBounds_toArray, List.set_cons_succ, List.set_cons_zero]; try rfl
      refine flowe_skip 21 (a' := ?_) hps rfl (by kernel_rfl) rfl ?_ ?_
      rotate_left 1
      · simp only [Act.put, List.setIfInBounds_toArray, List.set_cons_succ, List.set_cons_zero]; try rfl
      refine flowe_skip 22 (a' := ?_) hps rfl (by kernel_rfl) rfl ?_ ?_
      rotate_left 1
      · simp only [Act.put, List.setIfInBounds_toArray, List.set_cons_succ, List.set_cons_zero]; try rfl
      refine flowe_take 23 (v := ?_) (a' := ?_) hps rfl (by kernel_rfl) rfl ?_ ?_ ?_
      rotate_left 2
      · intro w' hk; go_simp; try rfl
      · simp only [Act.put, List.setIfInBounds_toArray, List.set_cons_succ, List.set_cons_zero]; try rfl
      refine flowe_take 24 (v := ?_) (a' := ?_) hps rfl (by kernel_rfl) rfl ?_ ?_ ?_
      rotate_left 2
      · intro w' hk; go_simp; try rfl
      · simp only [Act.put, List.setIfInBounds_toArray, List.set_cons_succ, List.set_cons_zero]; try rfl
      refine flowe_take 25 (v := ?_) (a' := ?_) hps rfl (by kernel_rfl) rfl ?_ ?_ ?_
      rotate_left 2
      · intro w' hk; go_simp; try rfl
      · simp only [Act.put, List.setIfInBounds_toArray, List.set_cons_succ, List.set_cons_zero]; try rfl
      refine flowe_done hps (by kernel_rfl) ?_
      have BZ := Lib.hid (TK.out.below (kk.below (Nat.le_refl _) fun _ _ h => h)).end
      clear kk
      go_wp2
      go_ret
      exact ⟨rfl, BZ.out⟩
  · try rw [show errO none = .iface 183 (.int .i64 3) from rfl]
    try rw [show errO (some Y) = .nilIface from rfl]
    try rw [show errW (some Z) = .nilIface from rfl]
    go_wp2_with (first | (refine bk_loadg TE.out 2 rfl rfl _ rfl rfl ?_) | (refine bk_loadg TE.out 3 rfl rfl _ rfl rfl ?_) | (refine bk_loadg TE.out 4 rfl rfl _ rfl rfl ?_) | (refine bk_loadg TE.out 5 rfl rfl _ rfl rfl ?_))
    have kc := law_Blocks _ a1 c1 LZ a2 c2 LZ HS1.out HS2.out
    rw [if_pos rfl] at kc
    with_reducible refine kc.mono ?_
    clear kc
    rintro e wf ⟨rfl, bf⟩
    have BF := Lib.hid bf
    clear bf
    have TI := Lib.hid (TE.out.below BF.out)
    clear BF TE HS1 HS2
    go_wp2_with (first | (refine bk_load TI.out 7 rfl rfl _ rfl rfl ?_) | ((with_reducible refine (code_of _ 3 (by decide) (by decide)).mono ?_); rintro e w' ⟨rfl, rfl⟩))
    cases S with
    | none =>
      have kc := blk_Set TI.out (i := 6) rfl xo xs xu
      rw [show ({ base := bn, cap := 16384, b := b } : Ar).b = b from rfl, ← HSS.out, show errS none = .iface 183 (.int .i64 1) from rfl] at kc
      with_reducible refine kc.mono ?_
      clear kc
      rintro e wj ⟨rfl, tj⟩
      have TJ := Lib.hid tj
      clear tj
      go_wp2_with (refine bk_load TJ.out 7 rfl rfl _ rfl rfl ?_)
      have kc := rb_Set_no TJ.out a _ c b (HRD.out _ _ TJ.out) xo xs xu HSS.out.symm
      with_reducible refine kc.mono ?_
      clear kc
      rintro e wk ⟨rfl, tk⟩
      have TK := Lib.hid tk
      clear tk
      have HB3 := Lib.hid (HRD.out _ _ TK.out.drew)
      obtain ⟨va, hva⟩ := TK.out.drew.ar (i := 6) rfl
      have HVA := Lib.hid (show ArA _ q { base := bn, cap := 16384, b := b } va from hva)
      clear hva TI TJ
      go_wp2
      refine flowe_begin (F := fun _ => False) hmixed 26 rfl (by repeat (first | with_reducible refine ps_then ?_ | with_reducible refine ps_block ?_ | with_reducible exact ps_body | refine ps_then ?_ | refine ps_block ?_ | exact ps_body)) (fun hps => ?_)
      simp only [List.replicate]
      have kk := (Keep.refl (fun _ => False) (wk)).drew
      refine flowe_take 0 (v := ?_) (a' := ?_) hps rfl (by kernel_rfl) rfl ?_ ?_ ?_
      rotate_left 2
      · intro w' hk; go_simp; try rfl
      · simp only [Act.put, List.setIfInBounds_toArray, List.set_cons_succ, List.set_cons_zero]; try rfl
      refine flowe_take 1 (v := ?_) (a' := ?_) hps rfl (by kernel_rfl) rfl ?_ ?_ ?_
      rotate_left 2
      · intro w' hk; go_simp; try rfl
      · simp only [Act.put, List.setIfInBounds_toArray, List.set_cons_succ, List.set_cons_zero]; try rfl
      refine flowe_take 2 (v := ?_) (a' := ?_) hps rfl (by kernel_rfl) rfl ?_ ?_ ?_
      rotate_left 2
      · intro w' hk; go_simp; try rfl
      · simp only [Act.put, List.setIfInBounds_toArray, List.set_cons_succ, List.set_cons_zero]; try rfl
      refine flowe_take 5 (v := ?_) (a' := ?_) hps rfl (by kernel_rfl) rfl ?_ ?_ ?_
      rotate_left 2
      · intro w' hk; go_simp; try rfl
      · simp only [Act.put, List.setIfInBounds_toArray, List.set_cons_succ, List.set_cons_zero]; try rfl
      refine flowe_take 6 (v := ?_) (a' := ?_) hps rfl (by kernel_rfl) rfl ?_ ?_ ?_
      rotate_left 2
      · intro w' hk; have hs := run_s w' (HB3.out.keep hk (fun _ _ h => h)); go_simp; try rfl
      · simp only [Act.put, List.setIfInBounds_toArray, List.set_cons_succ, List.set_cons_zero]; try rfl
      refine flowe_one 3 hps rfl (by kernel_rfl) rfl (wp_next (fun K hK => ?_))
      go_simp
      with_reducible refine (law_Bytes _ q { base := bn, cap := 16384, b := b } va HVA.out).mono ?_
      rintro e w7 ⟨v7, rfl, o7, b7⟩
      have kp := Keep.of_below (F := fun _ => False) b7
      obtain ⟨a7, c7, rfl, _, hb7⟩ := Sl.of_owned o7
      have HB7 := Lib.hid (show Bs w7 a7 b.length c7 b from hb7)
      clear o7 b7 hb7
      refine hK _ _ (flow_step kk ?_ ?_)
      · first | exact kp | exact Keep.refl _ _ | exact (Keep.refl _ _).alloc _
      clear kk hK; try clear kp
      intro kk
      refine flowe_take 4 (v := ?_) (a' := ?_) hps rfl (by kernel_rfl) rfl ?_ ?_ ?_
      rotate_left 2
      · intro w' hk; have hs := run_s w' (HB7.out.keep hk (fun _ _ h => h)); go_simp; try rfl
      · simp only [Act.put, List.setIfInBounds_toArray, List.set_cons_succ, List.set_cons_zero]; try rfl
      refine flowe_take 7 (v := ?_) (a' := ?_) hps rfl (by kernel_rfl) rfl ?_ ?_ ?_
      rotate_left 2
      · intro w' hk; go_simp; try rfl
      · simp only [Act.put, List.setIfInBounds_toArray, List.set_cons_succ, List.set_cons_zero]; try rfl
      refine flowe_take 8 (v := ?_) (a' := ?_) hps rfl (by kernel_rfl) rfl ?_ ?_ ?_
      rotate_left 2
      · intro w' hk; go_simp; try rfl
      · simp only [Act.put, List.setIfInBounds_toArray, List.set_cons_succ, List.set_cons_zero]; try rfl
      refine flowe_take 9 (v := ?_) (a' := ?_) hps rfl (by kernel_rfl) rfl ?_ ?_ ?_
      rotate_left 2
      · intro w' hk; go_simp; try rfl
      · simp only [Act.put, List.setIfInBounds_toArray, List.set_cons_succ, List.set_cons_zero]; try rfl
      refine flowe_take 10 (v := ?_) (a' := ?_) hps rfl (by kernel_rfl) rfl ?_ ?_ ?_
      rotate_left 2
      · intro w' hk; go_simp; try rfl
      · simp only [Act.put, List.setIfInBounds_toArray, List.set_cons_succ, List.set_cons_zero]; try rfl
      refine flowe_take 11 (v := ?_) (a' := ?_) hps rfl (by kernel_rfl) rfl ?_ ?_ ?_
      rotate_left 2
      · intro w' hk; go_simp; try rfl
      · simp only [Act.put, List.setIfInBounds_toArray, List.set_cons_succ, List.set_cons_zero]; try rfl
      refine flowe_skip 12 (a' := ?_) hps rfl (by kernel_rfl) rfl ?_ ?_
      rotate_left 1
      · simp only [Act.put, List.setIfInBounds_toArray, List.set_cons_succ, List.set_cons_zero]; try rfl
      refine flowe_skip 13 (a' := ?_) hps rfl (by kernel_rfl) rfl ?_ ?_
      rotate_left 1
      · simp only [Act.put, List.setIfInBounds_toArray, List.set_cons_succ, List.set_cons_zero]; try rfl
      refine flowe_take 14 (v := ?_) (a' := ?_) hps rfl (by kernel_rfl) rfl ?_ ?_ ?_
      rotate_left 2
      · intro w' hk; go_simp; try rfl
      · simp only [Act.put, List.setIfInBounds_toArray, List.set_cons_succ, List.set_cons_zero]; try rfl
      refine flowe_take 15 (v := ?_) (a' := ?_) hps rfl (by kernel_rfl) rfl ?_ ?_ ?_
      rotate_left 2
      · intro w' hk; go_simp; try rfl
      · simp only [Act.put, List.setIfInBounds_toArray, List.set_cons_succ, List.set_cons_zero]; try rfl
      refine flowe_take 16 (v := ?_) (a' := ?_) hps rfl (by kernel_rfl) rfl ?_ ?_ ?_
      rotate_left 2
      · intro w' hk; go_simp; try rfl
      · simp only [Act.put, List.setIfInBounds_toArray, List.set_cons_succ, List.set_cons_zero]; try rfl
      refine flowe_take 17 (v := ?_) (a' := ?_) hps rfl (by kernel_rfl) rfl ?_ ?_ ?_
      rotate_left 2
      · intro w' hk; go_simp; try rfl
      · simp only [Act.put, List.setIfInBounds_toArray, List.set_cons_succ, List.set_cons_zero]; try rfl
      refine flowe_take 18 (v := ?_) (a' := ?_) hps rfl (by kernel_rfl) rfl ?_ ?_ ?_
      rotate_left 2
      · intro w' hk; go_simp; try rfl
      · simp only [Act.put, List.setIfInBounds_toArray, List.set_cons_succ, List.set_cons_zero]; try rfl
      refine flowe_take 19 (v := ?_) (a' := ?_) hps rfl (by kernel_rfl) rfl ?_ ?_ ?_
      rotate_left 2
      · intro w' hk; go_simp; try rfl
      · simp only [Act.put, List.setIfInBounds_toArray, List.set_cons_succ, List.set_cons_zero]; try rfl
      refine flowe_one 20 hps rfl (by kernel_rfl) rfl (wp_next (fun K hK => ?_))
      go_simp
      with_reducible refine (code_of _ 1 (by decide) (by decide)).mono ?_
      rintro e w' ⟨rfl, rfl⟩
      refine hK _ _ (flow_step kk ?_ ?_)
      · first | exact kp | exact Keep.refl _ _ | exact (Keep.refl _ _).alloc _
      clear kk hK; try clear kp
      intro kk
      refine flowe_take 21 (v := ?_) (a' := ?_) hps rfl (by kernel_rfl) rfl ?_ ?_ ?_
      rotate_left 2
      · intro w' hk; go_simp; try rfl
      · simp only [Act.put, List.setIfInBounds_toArray, List.set_cons_succ, List.set_cons_zero]; try rfl
      refine flowe_take 22 (v := ?_) (a' := ?_) hps rfl (by kernel_rfl) rfl ?_ ?_ ?_
      rotate_left 2
      · intro w' hk; go_simp; try rfl
      · simp only [Act.put, List.setIfInBounds_toArray, List.set_cons_succ, List.set_cons_zero]; try rfl
      refine flowe_take 23 (v := ?_) (a' := ?_) hps rfl (by kernel_rfl) rfl ?_ ?_ ?_
      rotate_left 2
      · intro w' hk; go_simp; try rfl
      · simp only [Act.put, List.setIfInBounds_toArray, List.set_cons_succ, List.set_cons_zero]; try rfl
      refine flowe_take 24 (v := ?_) (a' := ?_) hps rfl (by kernel_rfl) rfl ?_ ?_ ?_
      rotate_left 2
      · intro w' hk; go_simp; try rfl
      · simp only [Act.put, List.setIfInBounds_toArray, List.set_cons_succ, List.set_cons_zero]; try rfl
      refine flowe_take 25 (v := ?_) (a' := ?_) hps rfl (by kernel_rfl) rfl ?_ ?_ ?_
      rotate_left 2
      · intro w' hk; go_simp; try rfl
      · simp only [Act.put, List.setIfInBounds_toArray, List.set_cons_succ, List.set_cons_zero]; try rfl
      refine flowe_done hps (by kernel_rfl) ?_
      have BZ := Lib.hid (TK.out.below (kk.below (Nat.le_refl _) fun _ _ h => h)).end
      clear kk
      go_wp2
      go_ret
      exact ⟨rfl, BZ.out⟩
    | some S =>
      have kc := blk_Set TI.out (i := 6) rfl xo xs xu
      rw [show ({ base := bn, cap := 16384, b := b } : Ar).b = b from rfl, ← HSS.out, show errS (some S) = .nilIface from rfl] at kc
      with_reducible refine kc.mono ?_
      clear kc
      rintro e wj ⟨rfl, tj⟩
      have TJ := Lib.hid tj
      clear tj
      go_wp2_with (refine bk_load TJ.out 7 rfl rfl _ rfl rfl ?_)
      have kc := rb_Set_ok TJ.out a _ c b (HRD.out _ _ TJ.out) (by omega) xo xs xu S HSS.out.symm
      with_reducible refine kc.mono ?_
      clear kc
      rintro e wk ⟨v3, rfl, tk⟩
      have TK := Lib.hid tk
      clear tk
      obtain ⟨a3, c3, rfl, _⟩ := TK.out.bsOwn (i := 0) rfl
      have HB3 := Lib.hid (TK.out.drew.bsV (i := 0) rfl)
      obtain ⟨va, hva⟩ := TK.out.drew.ar (i := 7) rfl
      have HVA := Lib.hid (show ArA _ q { base := bn, cap := 16384, b := S } va from hva)
      clear hva TI TJ
      go_wp2
      refine flowe_begin (F := fun _ => False) hmixed 26 rfl (by repeat (first | with_reducible refine ps_then ?_ | with_reducible refine ps_block ?_ | with_reducible exact ps_body | refine ps_then ?_ | refine ps_block ?_ | exact ps_body)) (fun hps => ?_)
      simp only [List.replicate]
      have kk := (Keep.refl (fun _ => False) (wk)).drew
      refine flowe_take 0 (v := ?_) (a' := ?_) hps rfl (by kernel_rfl) rfl ?_ ?_ ?_
      rotate_left 2
      · intro w' hk; go_simp; try rfl
      · simp only [Act.put, List.setIfInBounds_toArray, List.set_cons_succ, List.set_cons_zero]; try rfl
      refine flowe_take 1 (v := ?_) (a' := ?_) hps rfl (by kernel_rfl) rfl ?_ ?_ ?_
      rotate_left 2
      · intro w' hk; go_simp; try rfl
      · simp only [Act.put, List.setIfInBounds_toArray, List.set_cons_succ, List.set_cons_zero]; try rfl
      refine flowe_take 2 (v := ?_) (a' := ?_) hps rfl (by kernel_rfl) rfl ?_ ?_ ?_
      rotate_left 2
      · intro w' hk; go_simp; try rfl
      · simp only [Act.put, List.setIfInBounds_toArray, List.set_cons_succ, List.set_cons_zero]; try rfl
      refine flowe_take 5 (v := ?_) (a' := ?_) hps rfl (by kernel_rfl) rfl ?_ ?_ ?_
      rotate_left 2
      · intro w' hk; go_simp; try rfl
      · simp only [Act.put, List.setIfInBounds_toArray, List.set_cons_succ, List.set_cons_zero]; try rfl
      refine flowe_take 6 (v := ?_) (a' := ?_) hps rfl (by kernel_rfl) rfl ?_ ?_ ?_
      rotate_left 2
      · intro w' hk; have hs := run_s w' (HB3.out.keep hk (fun _ _ h => h)); go_simp; try rfl
      · simp only [Act.put, List.setIfInBounds_toArray, List.set_cons_succ, List.set_cons_zero]; try rfl
      refine flowe_one 3 hps rfl (by kernel_rfl) rfl (wp_next (fun K hK => ?_))
      go_simp
      with_reducible refine (law_Bytes _ q { base := bn, cap := 16384, b := S } va HVA.out).mono ?_
      rintro e w7 ⟨v7, rfl, o7, b7⟩
      have kp := Keep.of_below (F := fun _ => False) b7
      obtain ⟨a7, c7, rfl, _, hb7⟩ := Sl.of_owned o7
      have HB7 := Lib.hid (show Bs w7 a7 S.length c7 S from hb7)
      clear o7 b7 hb7
      refine hK _ _ (flow_step kk ?_ ?_)
      · first | exact kp | exact Keep.refl _ _ | exact (Keep.refl _ _).alloc _
      clear kk hK; try clear kp
      intro kk
      refine flowe_take 4 (v := ?_) (a' := ?_) hps rfl (by kernel_rfl) rfl ?_ ?_ ?_
      rotate_left 2
      · intro w' hk; have hs := run_s w' (HB7.out.keep hk (fun _ _ h => h)); go_simp; try rfl
      · simp only [Act.put, List.setIfInBounds_toArray, List.set_cons_succ, List.set_cons_zero]; try rfl
      refine flowe_take 7 (v := ?_) (a' := ?_) hps rfl (by kernel_rfl) rfl ?_ ?_ ?_
      rotate_left 2
      · intro w' hk; go_simp; try rfl
      · simp only [Act.put, List.setIfInBounds_toArray, List.set_cons_succ, List.set_cons_zero]; try rfl
      refine flowe_take 8 (v := ?_) (a' := ?_) hps rfl (by kernel_rfl) rfl ?_ ?_ ?_
      rotate_left 2
      · intro w' hk; go_simp; try rfl
      · simp only [Act.put, List.setIfInBounds_toArray, List.set_cons_succ, List.set_cons_zero]; try rfl
      refine flowe_take 9 (v := ?_) (a' := ?_) hps rfl (by kernel_rfl) rfl ?_ ?_ ?_
      rotate_left 2
      · intro w' hk; go_simp; try rfl
      · simp only [Act.put, List.setIfInBounds_toArray, List.set_cons_succ, List.set_cons_zero]; try rfl
      refine flowe_take 10 (v := ?_) (a' := ?_) hps rfl (by kernel_rfl) rfl ?_ ?_ ?_
      rotate_left 2
      · intro w' hk; go_simp; try rfl
      · simp only [Act.put, List.setIfInBounds_toArray, List.set_cons_succ, List.set_cons_zero]; try rfl
      refine flowe_take 11 (v := ?_) (a' := ?_) hps rfl (by kernel_rfl) rfl ?_ ?_ ?_
      rotate_left 2
      · intro w' hk; go_simp; try rfl
      · simp only [Act.put, List.setIfInBounds_toArray, List.set_cons_succ, List.set_cons_zero]; try rfl
      refine flowe_take 12 (v := ?_) (a' := ?_) hps rfl (by kernel_rfl) rfl ?_ ?_ ?_
      rotate_left 2
      · intro w' hk; go_simp; try rfl
      · simp only [Act.put, List.setIfInBounds_toArray, List.set_cons_succ, List.set_cons_zero]; try rfl
      refine flowe_take 13 (v := ?_) (a' := ?_) hps rfl (by kernel_rfl) rfl ?_ ?_ ?_
      rotate_left 2
      · intro w' hk; go_simp; try rfl
      · simp only [Act.put, List.setIfInBounds_toArray, List.set_cons_succ, List.set_cons_zero]; try rfl
      refine flowe_take 14 (v := ?_) (a' := ?_) hps rfl (by kernel_rfl) rfl ?_ ?_ ?_
      rotate_left 2
      · intro w' hk; go_simp; try rfl
      · simp only [Act.put, List.setIfInBounds_toArray, List.set_cons_succ, List.set_cons_zero]; try rfl
      refine flowe_take 15 (v := ?_) (a' := ?_) hps rfl (by kernel_rfl) rfl ?_ ?_ ?_
      rotate_left 2
      · intro w' hk; go_simp; try rfl
      · simp only [Act.put, List.setIfInBounds_toArray, List.set_cons_succ, List.set_cons_zero]; try rfl
      refine flowe_skip 16 (a' := ?_) hps rfl (by kernel_rfl) rfl ?_ ?_
      rotate_left 1
      · simp only [Act.put, List.setIfInBounds_toArray, List.set_cons_succ, List.set_cons_zero]; try rfl
      refine flowe_skip 17 (a' := ?_) hps rfl (by kernel_rfl) rfl ?_ ?_
      rotate_left 1
      · simp only [Act.put, List.setIfInBounds_toArray, List.set_cons_succ, List.set_cons_zero]; try rfl
      refine flowe_skip 18 (a' := ?_) hps rfl (by kernel_rfl) rfl ?_ ?_
      rotate_left 1
      · simp only [Act.put, List.setIfInBounds_toArray, List.set_cons_succ, List.set_cons_zero]; try rfl
      refine flowe_skip 19 (a' := ?_) hps rfl (by kernel_rfl) rfl ?_ ?_
      rotate_left 1
      · simp only [Act.put, List.setIfInBounds_toArray, List.set_cons_succ, List.set_cons_zero]; try rfl
      refine flowe_skip 20 (a' := ?_) hps rfl (by kernel_rfl) rfl ?_ ?_
      rotate_left 1
      · simp only [Act.put, List.setIfInBounds_toArray, List.set_cons_succ, List.set_cons_zero]; try rfl
      refine flowe_skip 21 (a' := ?_) hps rfl (by kernel_rfl) rfl ?_ ?_
      rotate_left 1
      · simp only [Act.put, List.setIfInBounds_toArray, List.set_cons_succ, List.set_cons_zero]; try rfl
      refine flowe_skip 22 (a' := ?_) hps rfl (by kernel_rfl) rfl ?_ ?_
      rotate_left 1
      · simp only [Act.put, List.setIfInBounds_toArray, List.set_cons_succ, List.set_cons_zero]; try rfl
      refine flowe_take 23 (v := ?_) (a' := ?_) hps rfl (by kernel_rfl) rfl ?_ ?_ ?_
      rotate_left 2
      · intro w' hk; go_simp; try rfl
      · simp only [Act.put, List.setIfInBounds_toArray, List.set_cons_succ, List.set_cons_zero]; try rfl
      refine flowe_take 24 (v := ?_) (a' := ?_) hps rfl (by kernel_rfl) rfl ?_ ?_ ?_
      rotate_left 2
      · intro w' hk; go_simp; try rfl
      · simp only [Act.put, List.setIfInBounds_toArray, List.set_cons_succ, List.set_cons_zero]; try rfl
      refine flowe_take 25 (v := ?_) (a' := ?_) hps rfl (by kernel_rfl) rfl ?_ ?_ ?_
      rotate_left 2
      · intro w' hk; go_simp; try rfl
      · simp only [Act.put, List.setIfInBounds_toArray, List.set_cons_succ, List.set_cons_zero]; try rfl
      refine flowe_done hps (by kernel_rfl) ?_
      have BZ := Lib.hid (TK.out.below (kk.below (Nat.le_refl _) fun _ _ h => h)).end
      clear kk
      go_wp2
      go_ret
      exact ⟨rfl, BZ.out⟩
  · try rw [show errO (some X) = .nilIface from rfl]
    try rw [show errO none = .iface 183 (.int .i64 3) from rfl]
    try rw [show errW none = .iface 183 (.int .i64 3) from rfl]
    go_wp2_with (first | (refine bk_loadg TE.out 2 rfl rfl _ rfl rfl ?_) | (refine bk_loadg TE.out 3 rfl rfl _ rfl rfl ?_) | (refine bk_loadg TE.out 4 rfl rfl _ rfl rfl ?_) | (refine bk_loadg TE.out 5 rfl rfl _ rfl rfl ?_))
    have kc := law_Blocks _ a1 c1 LZ a2 c2 LZ HS1.out HS2.out
    rw [if_pos rfl] at kc
    with_reducible refine kc.mono ?_
    clear kc
    rintro e wf ⟨rfl, bf⟩
    have BF := Lib.hid bf
    clear bf
    have TI := Lib.hid (TE.out.below BF.out)
    clear BF TE HS1 HS2
    go_wp2_with (first | (refine bk_load TI.out 7 rfl rfl _ rfl rfl ?_) | ((with_reducible refine (code_of _ 3 (by decide) (by decide)).mono ?_); rintro e w' ⟨rfl, rfl⟩))
    cases S with
    | none =>
      have kc := blk_Set TI.out (i := 6) rfl xo xs xu
      rw [show ({ base := bn, cap := 16384, b := b } : Ar).b = b from rfl, ← HSS.out, show errS none = .iface 183 (.int .i64 1) from rfl] at kc
      with_reducible refine kc.mono ?_
      clear kc
      rintro e wj ⟨rfl, tj⟩
      have TJ := Lib.hid tj
      clear tj
      go_wp2_with (refine bk_load TJ.out 7 rfl rfl _ rfl rfl ?_)
      have kc := rb_Set_no TJ.out a _ c b (HRD.out _ _ TJ.out) xo xs xu HSS.out.symm
      with_reducible refine kc.mono ?_
      clear kc
      rintro e wk ⟨rfl, tk⟩
      have TK := Lib.hid tk
      clear tk
      have HB3 := Lib.hid (HRD.out _ _ TK.out.drew)
      obtain ⟨va, hva⟩ := TK.out.drew.ar (i := 6) rfl
      have HVA := Lib.hid (show ArA _ q { base := bn, cap := 16384, b := b } va from hva)
      clear hva TI TJ
      go_wp2
      refine flowe_begin (F := fun _ => False) hmixed 26 rfl (by repeat (first | with_reducible refine ps_then ?_ | with_reducible refine ps_block ?_ | with_reducible exact ps_body | refine ps_then ?_ | refine ps_block ?_ | exact ps_body)) (fun hps => ?_)
      simp only [List.replicate]
      have kk := (Keep.refl (fun _ => False) (wk)).drew
      refine flowe_take 0 (v := ?_) (a' := ?_) hps rfl (by kernel_rfl) rfl ?_ ?_ ?_
      rotate_left 2
      · intro w' hk; go_simp; try rfl
      · simp only [Act.put, List.setIfInBounds_toArray, List.set_cons_succ, List.set_cons_zero]; try rfl
      refine flowe_take 1 (v := ?_) (a' := ?_) hps rfl (by kernel_rfl) rfl ?_ ?_ ?_
      rotate_left 2
      · intro w' hk; go_simp; try rfl
      · simp only [Act.put, List.setIfInBounds_toArray, List.set_cons_succ, List.set_cons_zero]; try rfl
      refine flowe_take 2 (v := ?_) (a' := ?_) hps rfl (by kernel_rfl) rfl ?_ ?_ ?_
      rotate_left 2
      · intro w' hk; go_simp; try rfl
      · simp only [Act.put, List.setIfInBounds_toArray, List.set_cons_succ, List.set_cons_zero]; try rfl
      refine flowe_take 5 (v := ?_) (a' := ?_) hps rfl (by kernel_rfl) rfl ?_ ?_ ?_
      rotate_left 2
      · intro w' hk; go_simp; try rfl
      · simp only [Act.put, List.setIfInBounds_toArray, List.set_cons_succ, List.set_cons_zero]; try rfl
      refine flowe_take 6 (v := ?_) (a' := ?_) hps rfl (by kernel_rfl) rfl ?_ ?_ ?_
      rotate_left 2
      · intro w' hk; have hs := run_s w' (HB3.out.keep hk (fun _ _ h => h)); go_simp; try rfl
      · simp only [Act.put, List.setIfInBounds_toArray, List.set_cons_succ, List.set_cons_zero]; try rfl
      refine flowe_one 3 hps rfl (by kernel_rfl) rfl (wp_next (fun K hK => ?_))
      go_simp
      with_reducible refine (law_Bytes _ q { base := bn, cap := 16384, b := b } va HVA.out).mono ?_
      rintro e w7 ⟨v7, rfl, o7, b7⟩
      have kp := Keep.of_below (F := fun _ => False) b7
      obtain ⟨a7, c7, rfl, _, hb7⟩ := Sl.of_owned o7
      have HB7 := Lib.hid (show Bs w7 a7 b.length c7 b from hb7)
      clear o7 b7 hb7
      refine hK _ _ (flow_step kk ?_ ?_)
      · first | exact kp | exact Keep.refl _ _ | exact (Keep.refl _ _).alloc _
      clear kk hK; try clear kp
      intro kk
      refine flowe_take 4 (v := ?_) (a' := ?_) hps rfl (by kernel_rfl) rfl ?_ ?_ ?_
      rotate_left 2
      · intro w' hk; have hs := run_s w' (HB7.out.keep hk (fun _ _ h => h)); go_simp; try rfl
      · simp only [Act.put, List.setIfInBounds_toArray, List.set_cons_succ, List.set_cons_zero]; try rfl
      refine flowe_take 7 (v := ?_) (a' := ?_) hps rfl (by kernel_rfl) rfl ?_ ?_ ?_
      rotate_left 2
      · intro w' hk; go_simp; try rfl
      · simp only [Act.put, List.setIfInBounds_toArray, List.set_cons_succ, List.set_cons_zero]; try rfl
      refine flowe_take 8 (v := ?_) (a' := ?_) hps rfl (by kernel_rfl) rfl ?_ ?_ ?_
      rotate_left 2
      · intro w' hk; go_simp; try rfl
      · simp only [Act.put, List.setIfInBounds_toArray, List.set_cons_succ, List.set_cons_zero]; try rfl
      refine flowe_take 9 (v := ?_) (a' := ?_) hps rfl (by kernel_rfl) rfl ?_ ?_ ?_
      rotate_left 2
      · intro w' hk; go_simp; try rfl
      · simp only [Act.put, List.setIfInBounds_toArray, List.set_cons_succ, List.set_cons_zero]; try rfl
      refine flowe_take 10 (v := ?_) (a' := ?_) hps rfl (by kernel_rfl) rfl ?_ ?_ ?_
      rotate_left 2
      · intro w' hk; go_simp; try rfl
      · simp only [Act.put, List.setIfInBounds_toArray, List.set_cons_succ, List.set_cons_zero]; try rfl
      refine flowe_take 11 (v := ?_) (a' := ?_) hps rfl (by kernel_rfl) rfl ?_ ?_ ?_
      rotate_left 2
      · intro w' hk; go_simp; try rfl
      · simp only [Act.put, List.setIfInBounds_toArray, List.set_cons_succ, List.set_cons_zero]; try rfl
      refine flowe_skip 12 (a' := ?_) hps rfl (by kernel_rfl) rfl ?_ ?_
      rotate_left 1
      · simp only [Act.put, List.setIfInBounds_toArray, List.set_cons_succ, List.set_cons_zero]; try rfl
      refine flowe_skip 13 (a' := ?_) hps rfl (by kernel_rfl) rfl ?_ ?_
      rotate_left 1
      · simp only [Act.put, List.setIfInBounds_toArray, List.set_cons_succ, List.set_cons_zero]; try rfl
      refine flowe_take 14 (v := ?_) (a' := ?_) hps rfl (by kernel_rfl) rfl ?_ ?_ ?_
      rotate_left 2
      · intro w' hk; go_simp; try rfl
      · simp only [Act.put, List.setIfInBounds_toArray, List.set_cons_succ, List.set_cons_zero]; try rfl
      refine flowe_take 15 (v := ?_) (a' := ?_) hps rfl (by kernel_rfl) rfl ?_ ?_ ?_
      rotate_left 2
      · intro w' hk; go_simp; try rfl
      · simp only [Act.put, List.setIfInBounds_toArray, List.set_cons_succ, List.set_cons_zero]; try rfl
      refine flowe_take 16 (v := ?_) (a' := ?_) hps rfl (by kernel_rfl) rfl ?_ ?_ ?_
      rotate_left 2
      · intro w' hk; go_simp; try rfl
      · simp only [Act.put, List.setIfInBounds_toArray, List.set_cons_succ, List.set_cons_zero]; try rfl
      refine flowe_take 17 (v := ?_) (a' := ?_) hps rfl (by kernel_rfl) rfl ?_ ?_ ?_
      rotate_left 2
      · intro w' hk; go_simp; try rfl
      · simp only [Act.put, List.setIfInBounds_toArray, List.set_cons_succ, List.set_cons_zero]; try rfl
      refine flowe_take 18 (v := ?_) (a' := ?_) hps rfl (by kernel_rfl) rfl ?_ ?_ ?_
      rotate_left 2
      · intro w' hk; go_simp; try rfl
      · simp only [Act.put, List.setIfInBounds_toArray, List.set_cons_succ, List.set_cons_zero]; try rfl
      refine flowe_take 19 (v := ?_) (a' := ?_) hps rfl (by kernel_rfl) rfl ?_ ?_ ?_
      rotate_left 2
      · intro w' hk; go_simp; try rfl
      · simp only [Act.put, List.setIfInBounds_toArray, List.set_cons_succ, List.set_cons_zero]; try rfl
      refine flowe_one 20 hps rfl (by kernel_rfl) rfl (wp_next (fun K hK => ?_))
      go_simp
      with_reducible refine (code_of _ 1 (by decide) (by decide)).mono ?_
      rintro e w' ⟨rfl, rfl⟩
      refine hK _ _ (flow_step kk ?_ ?_)
      · first | exact kp | exact Keep.refl _ _ | exact (Keep.refl _ _).alloc _
      clear kk hK; try clear kp
      intro kk
      refine flowe_take 21 (v := ?_) (a' := ?_) hps rfl (by kernel_rfl) rfl ?_ ?_ ?_
      rotate_left 2
      · intro w' hk; go_simp; try rfl
      · simp only [Act.put, List.setIfInBounds_toArray, List.set_cons_succ, List.set_cons_zero]; try rfl
      refine flowe_take 22 (v := ?_) (a' := ?_) hps rfl (by kernel_rfl) rfl ?_ ?_ ?_
      rotate_left 2
      · intro w' hk; go_simp; try rfl
      · simp only [Act.put, List.setIfInBounds_toArray, List.set_cons_succ, List.set_cons_zero]; try rfl
      refine flowe_take 23 (v := ?_) (a' := ?_) hps rfl (by kernel_rfl) rfl ?_ ?_ ?_
      rotate_left 2
      · intro w' hk; go_simp; try rfl
      · simp only [Act.put, List.setIfInBounds_toArray, List.set_cons_succ, List.set_cons_zero]; try rfl
      refine flowe_take 24 (v := ?_) (a' := ?_) hps rfl (by kernel_rfl) rfl ?_ ?_ ?_
      rotate_left 2
      · intro w' hk; go_simp; try rfl
      · simp only [Act.put, List.setIfInBounds_toArray, List.set_cons_succ, List.set_cons_zero]; try rfl
      refine flowe_take 25 (v := ?_) (a' := ?_) hps rfl (by kernel_rfl) rfl ?_ ?_ ?_
      rotate_left 2
      · intro w' hk; go_simp; try rfl
      · simp only [Act.put, List.setIfInBounds_toArray, List.set_cons_succ, List.set_cons_zero]; try rfl
      refine flowe_done hps (by kernel_rfl) ?_
      have BZ := Lib.hid (TK.out.below (kk.below (Nat.le_refl _) fun _ _ h => h)).end
      clear kk
      go_wp2
      go_ret
      exact ⟨rfl, BZ.out⟩
    | some S =>
      have kc := blk_Set TI.out (i := 6) rfl xo xs xu
      rw [show ({ base := bn, cap := 16384, b := b } : Ar).b = b from rfl, ← HSS.out, show errS (some S) = .nilIface from rfl] at kc
      with_reducible refine kc.mono ?_
      clear kc
      rintro e wj ⟨rfl, tj⟩
      have TJ := Lib.hid tj
      clear tj
      go_wp2_with (refine bk_load TJ.out 7 rfl rfl _ rfl rfl ?_)
      have kc := rb_Set_ok TJ.out a _ c b (HRD.out _ _ TJ.out) (by omega) xo xs xu S HSS.out.symm
      with_reducible refine kc.mono ?_
      clear kc
      rintro e wk ⟨v3, rfl, tk⟩
      have TK := Lib.hid tk
      clear tk
      obtain ⟨a3, c3, rfl, _⟩ := TK.out.bsOwn (i := 0) rfl
      have HB3 := Lib.hid (TK.out.drew.bsV (i := 0) rfl)
      obtain ⟨va, hva⟩ := TK.out.drew.ar (i := 7) rfl
      have HVA := Lib.hid (show ArA _ q { base := bn, cap := 16384, b := S } va from hva)
      clear hva TI TJ
      go_wp2
      refine flowe_begin (F := fun _ => False) hmixed 26 rfl (by repeat (first | with_reducible refine ps_then ?_ | with_reducible refine ps_block ?_ | with_reducible exact ps_body | refine ps_then ?_ | refine ps_block ?_ | exact ps_body)) (fun hps => ?_)
      simp only [List.replicate]
      have kk := (Keep.refl (fun _ => False) (wk)).drew
      refine flowe_take 0 (v := ?_) (a' := ?_) hps rfl (by kernel_rfl) rfl ?_ ?_ ?_
      rotate_left 2
      · intro w' hk; go_simp; try rfl
      · simp only [Act.put, List.setIfInBounds_toArray, List.set_cons_succ, List.set_cons_zero]; try rfl
      refine flowe_take 1 (v := ?_) (a' := ?_) hps rfl (by kernel_rfl) rfl ?_ ?_ ?_
      rotate_left 2
      · intro w' hk; go_simp; try rfl
      · simp only [Act.put, List.setIfInBounds_toArray, List.set_cons_succ, List.set_cons_zero]; try rfl
      refine flowe_take 2 (v := ?_) (a' := ?_) hps rfl (by kernel_rfl) rfl ?_ ?_ ?_
      rotate_left 2
      · intro w' hk; go_simp; try rfl
      · simp only [Act.put, List.setIfInBounds_toArray, List.set_cons_succ, List.set_cons_zero]; try rfl
      refine flowe_take 5 (v := ?_) (a' := ?_) hps rfl (by kernel_rfl) rfl ?_ ?_ ?_
      rotate_left 2
      · intro w' hk; go_simp; try rfl
      · simp only [Act.put, List.setIfInBounds_toArray, List.set_cons_succ, List.set_cons_zero]; try rfl
      refine flowe_take 6 (v := ?_) (a' := ?_) hps rfl (by kernel_rfl) rfl ?_ ?_ ?_
      rotate_left 2
      · intro w' hk; have hs := run_s w' (HB3.out.keep hk (fun _ _ h => h)); go_simp; try rfl
      · simp only [Act.put, List.setIfInBounds_toArray, List.set_cons_succ, List.set_cons_zero]; try rfl
      refine flowe_one 3 hps rfl (by kernel_rfl) rfl (wp_next (fun K hK => ?_))
      go_simp
      with_reducible refine (law_Bytes _ q { base := bn, cap := 16384, b := S } va HVA.out).mono ?_
      rintro e w7 ⟨v7, rfl, o7, b7⟩
      have kp := Keep.of_below (F := fun _ => False) b7
      obtain ⟨a7, c7, rfl, _, hb7⟩ := Sl.of_owned o7
      have HB7 := Lib.hid (show Bs w7 a7 S.length c7 S from hb7)
      clear o7 b7 hb7
      refine hK _ _ (flow_step kk ?_ ?_)
      · first | exact kp | exact Keep.refl _ _ | exact (Keep.refl _ _).alloc _
      clear kk hK; try clear kp
      intro kk
      refine flowe_take 4 (v := ?_) (a' := ?_) hps rfl (by kernel_rfl) rfl ?_ ?_ ?_
      rotate_left 2
      · intro w' hk; have hs := run_s w' (HB7.out.keep hk (fun _ _ h => h)); go_simp; try rfl
      · simp only [Act.put, List.setIfInBounds_toArray, List.set_cons_succ, List.set_cons_zero]; try rfl
      refine flowe_take 7 (v := ?_) (a' := ?_) hps rfl (by kernel_rfl) rfl ?_ ?_ ?_
      rotate_left 2
      · intro w' hk; go_simp; try rfl
      · simp only [Act.put, List.setIfInBounds_toArray, List.set_cons_succ, List.set_cons_zero]; try rfl
      refine flowe_take 8 (v := ?_) (a' := ?_) hps rfl (by kernel_rfl) rfl ?_ ?_ ?_
      rotate_left 2
      · intro w' hk; go_simp; try rfl
      · simp only [Act.put, List.setIfInBounds_toArray, List.set_cons_succ, List.set_cons_zero]; try rfl
      refine flowe_take 9 (v := ?_) (a' := ?_) hps rfl (by kernel_rfl) rfl ?_ ?_ ?_
      rotate_left 2
      · intro w' hk; go_simp; try rfl
      · simp only [Act.put, List.setIfInBounds_toArray, List.set_cons_succ, List.set_cons_zero]; try rfl
      refine flowe_take 10 (v := ?_) (a' := ?_) hps rfl (by kernel_rfl) rfl ?_ ?_ ?_
      rotate_left 2
      · intro w' hk; go_simp; try rfl
      · simp only [Act.put, List.setIfInBounds_toArray, List.set_cons_succ, List.set_cons_zero]; try rfl
      refine flowe_take 11 (v := ?_) (a' := ?_) hps rfl (by kernel_rfl) rfl ?_ ?_ ?_
      rotate_left 2
      · intro w' hk; go_simp; try rfl
      · simp only [Act.put, List.setIfInBounds_toArray, List.set_cons_succ, List.set_cons_zero]; try rfl
      refine flowe_take 12 (v := ?_) (a' := ?_) hps rfl (by kernel_rfl) rfl ?_ ?_ ?_
      rotate_left 2
      · intro w' hk; go_simp; try rfl
      · simp only [Act.put, List.setIfInBounds_toArray, List.set_cons_succ, List.set_cons_zero]; try rfl
      refine flowe_take 13 (v := ?_) (a' := ?_) hps rfl (by kernel_rfl) rfl ?_ ?_ ?_
      rotate_left 2
      · intro w' hk; go_simp; try rfl
      · simp only [Act.put, List.setIfInBounds_toArray, List.set_cons_succ, List.set_cons_zero]; try rfl
      refine flowe_take 14 (v := ?_) (a' := ?_) hps rfl (by kernel_rfl) rfl ?_ ?_ ?_
      rotate_left 2
      · intro w' hk; go_simp; try rfl
      · simp only [Act.put, List.setIfInBounds_toArray, List.set_cons_succ, List.set_cons_zero]; try rfl
      refine flowe_take 15 (v := ?_) (a' := ?_) hps rfl (by kernel_rfl) rfl ?_ ?_ ?_
      rotate_left 2
      · intro w' hk; go_simp; try rfl
      · simp only [Act.put, List.setIfInBounds_toArray, List.set_cons_succ, List.set_cons_zero]; try rfl
      refine flowe_skip 16 (a' := ?_) hps rfl (by kernel_rfl) rfl ?_ ?_
      rotate_left 1
      · simp only [Act.put, List.setIfInBounds_toArray, List.set_cons_succ, List.set_cons_zero]; try rfl
      refine flowe_skip 17 (a' := ?_) hps rfl (by kernel_rfl) rfl ?_ ?_
      rotate_left 1
      · simp only [Act.put, List.setIfInBounds_toArray, List.set_cons_succ, List.set_cons_zero]; try rfl
      refine flowe_skip 18 (a' := ?_) hps rfl (by kernel_rfl) rfl ?_ ?_
      rotate_left 1
      · simp only [Act.put, List.setIfInBounds_toArray, List.set_cons_succ, List.set_cons_zero]; try rfl
      refine flowe_skip 19 (a' := ?_) hps rfl (by kernel_rfl) rfl ?_ ?_
      rotate_left 1
      · simp only [Act.put, List.setIfInBounds_toArray, List.set_cons_succ, List.set_cons_zero]; try rfl
      refine flowe_skip 20 (a' := ?_) hps rfl (by kernel_rfl) rfl ?_ ?_
      rotate_left 1
      · simp only [Act.put, List.setIfInBounds_toArray, List.set_cons_succ, List.set_cons_zero]; try rfl
      refine flowe_skip 21 (a' := ?_) hps rfl (by kernel_rfl) rfl ?_ ?_
      rotate_left 1
      · simp only [Act.put, List.setIfInBounds_toArray, List.set_cons_succ, List.set_cons_zero]; try rfl
      refine flowe_skip 22 (a' := ?_) hps rfl (by kernel_rfl) rfl ?_ ?_
      rotate_left 1
      · simp only [Act.put, List.setIfInBounds_toArray, List.set_cons_succ, List.set_cons_zero]; try rfl
      refine flowe_take 23 (v := ?_) (a' := ?_) hps rfl (by kernel_rfl) rfl ?_ ?_ ?_
      rotate_left 2
      · intro w' hk; go_simp; try rfl
      · simp only [Act.put, List.setIfInBounds_toArray, List.set_cons_succ, List.set_cons_zero]; try rfl
      refine flowe_take 24 (v := ?_) (a' := ?_) hps rfl (by kernel_rfl) rfl ?_ ?_ ?_
      rotate_left 2
      · intro w' hk; go_simp; try rfl
      · simp only [Act.put, List.setIfInBounds_toArray, List.set_cons_succ, List.set_cons_zero]; try rfl
      refine flowe_take 25 (v := ?_) (a' := ?_) hps rfl (by kernel_rfl) rfl ?_ ?_ ?_
      rotate_left 2
      · intro w' hk; go_simp; try rfl
      · simp only [Act.put, List.setIfInBounds_toArray, List.set_cons_succ, List.set_cons_zero]; try rfl
      refine flowe_done hps (by kernel_rfl) ?_
      have BZ := Lib.hid (TK.out.below (kk.below (Nat.le_refl _) fun _ _ h => h)).end
      clear kk
      go_wp2
      go_ret
      exact ⟨rfl, BZ.out⟩
  · try rw [show errO (some X) = .nilIface from rfl]
    try rw [show errO none = .iface 183 (.int .i64 3) from rfl]
    try rw [show errW (some Z) = .nilIface from rfl]
    go_wp2_with (first | (refine bk_loadg TE.out 2 rfl rfl _ rfl rfl ?_) | (refine bk_loadg TE.out 3 rfl rfl _ rfl rfl ?_) | (refine bk_loadg TE.out 4 rfl rfl _ rfl rfl ?_) | (refine bk_loadg TE.out 5 rfl rfl _ rfl rfl ?_))
    have kc := law_Blocks _ a1 c1 LZ a2 c2 LZ HS1.out HS2.out
    rw [if_pos rfl] at kc
    with_reducible refine kc.mono ?_
    clear kc
    rintro e wf ⟨rfl, bf⟩
    have BF := Lib.hid bf
    clear bf
    have TI := Lib.hid (TE.out.below BF.out)
    clear BF TE HS1 HS2
    go_wp2_with (first | (refine bk_load TI.out 7 rfl rfl _ rfl rfl ?_) | ((with_reducible refine (code_of _ 3 (by decide) (by decide)).mono ?_); rintro e w' ⟨rfl, rfl⟩))
    cases S with
    | none =>
      have kc := blk_Set TI.out (i := 6) rfl xo xs xu
      rw [show ({ base := bn, cap := 16384, b := b } : Ar).b = b from rfl, ← HSS.out, show errS none = .iface 183 (.int .i64 1) from rfl] at kc
      with_reducible refine kc.mono ?_
      clear kc
      rintro e wj ⟨rfl, tj⟩
      have TJ := Lib.hid tj
      clear tj
      go_wp2_with (refine bk_load TJ.out 7 rfl rfl _ rfl rfl ?_)
      have kc := rb_Set_no TJ.out a _ c b (HRD.out _ _ TJ.out) xo xs xu HSS.out.symm
      with_reducible refine kc.mono ?_
      clear kc
      rintro e wk ⟨rfl, tk⟩
      have TK := Lib.hid tk
      clear tk
      have HB3 := Lib.hid (HRD.out _ _ TK.out.drew)
      obtain ⟨va, hva⟩ := TK.out.drew.ar (i := 6) rfl
      have HVA := Lib.hid (show ArA _ q { base := bn, cap := 16384, b := b } va from hva)
      clear hva TI TJ
      go_wp2
      refine flowe_begin (F := fun _ => False) hmixed 26 rfl (by repeat (first | with_reducible refine ps_then ?_ | with_reducible refine ps_block ?_ | with_reducible exact ps_body | refine ps_then ?_ | refine ps_block ?_ | exact ps_body)) (fun hps => ?_)
      simp only [List.replicate]
      have kk := (Keep.refl (fun _ => False) (wk)).drew
      refine flowe_take 0 (v := ?_) (a' := ?_) hps rfl (by kernel_rfl) rfl ?_ ?_ ?_
      rotate_left 2
      · intro w' hk; go_simp; try rfl
      · simp only [Act.put, List.setIfInBounds_toArray, List.set_cons_succ, List.set_cons_zero]; try rfl
      refine flowe_take 1 (v := ?_) (a' := ?_) hps rfl (by kernel_rfl) rfl ?_ ?_ ?_
      rotate_left 2
      · intro w' hk; go_simp; try rfl
      · simp only [Act.put, List.setIfInBounds_toArray, List.set_cons_succ, List.set_cons_zero]; try rfl
      refine flowe_take 2 (v := ?_) (a' := ?_) hps rfl (by kernel_rfl) rfl ?_ ?_ ?_
      rotate_left 2
      · intro w' hk; go_simp; try rfl
      · simp only [Act.put, List.setIfInBounds_toArray, List.set_cons_succ, List.set_cons_zero]; try rfl
      refine flowe_take 5 (v := ?_) (a' := ?_) hps rfl (by kernel_rfl) rfl ?_ ?_ ?_
      rotate_left 2
      · intro w' hk; go_simp; try rfl
      · simp only [Act.put, List.setIfInBounds_toArray, List.set_cons_succ, List.set_cons_zero]; try rfl
      refine flowe_take 6 (v := ?_) (a' := ?_) hps rfl (by kernel_rfl) rfl ?_ ?_ ?_
      rotate_left 2
      · intro w' hk; have hs := run_s w' (HB3.out.keep hk (fun _ _ h => h)); go_simp; try rfl
      · simp only [Act.put, List.setIfInBounds_toArray, List.set_cons_succ, List.set_cons_zero]; try rfl
      refine flowe_one 3 hps rfl (by kernel_rfl) rfl (wp_next (fun K hK => ?_))
      go_simp
      with_reducible refine (law_Bytes _ q { base := bn, cap := 16384, b := b } va HVA.out).mono ?_
      rintro e w7 ⟨v7, rfl, o7, b7⟩
      have kp := Keep.of_below (F := fun _ => False) b7
      obtain ⟨a7, c7, rfl, _, hb7⟩ := Sl.of_owned o7
      have HB7 := Lib.hid (show Bs w7 a7 b.length c7 b from hb7)
      clear o7 b7 hb7
      refine hK _ _ (flow_step kk ?_ ?_)
      · first | exact kp | exact Keep.refl _ _ | exact (Keep.refl _ _).alloc _
      clear kk hK; try clear kp
      intro kk
      refine flowe_take 4 (v := ?_) (a' := ?_) hps rfl (by kernel_rfl) rfl ?_ ?_ ?_
      rotate_left 2
      · intro w' hk; have hs := run_s w' (HB7.out.keep hk (fun _ _ h => h)); go_simp; try rfl
      · simp only [Act.put, List.setIfInBounds_toArray, List.set_cons_succ, List.set_cons_zero]; try rfl
      refine flowe_take 7 (v := ?_) (a' := ?_) hps rfl (by kernel_rfl) rfl ?_ ?_ ?_
      rotate_left 2
      · intro w' hk; go_simp; try rfl
      · simp only [Act.put, List.setIfInBounds_toArray, List.set_cons_succ, List.set_cons_zero]; try rfl
      refine flowe_take 8 (v := ?_) (a' := ?_) hps rfl (by kernel_rfl) rfl ?_ ?_ ?_
      rotate_left 2
      · intro w' hk; go_simp; try rfl
      · simp only [Act.put, List.setIfInBounds_toArray, List.set_cons_succ, List.set_cons_zero]; try rfl
      refine flowe_take 9 (v := ?_) (a' := ?_) hps rfl (by kernel_rfl) rfl ?_ ?_ ?_
      rotate_left 2
      · intro w' hk; go_simp; try rfl
      · simp only [Act.put, List.setIfInBounds_toArray, List.set_cons_succ, List.set_cons_zero]; try rfl
      refine flowe_take 10 (v := ?_) (a' := ?_) hps rfl (by kernel_rfl) rfl ?_ ?_ ?_
      rotate_left 2
      · intro w' hk; go_simp; try rfl
      · simp only [Act.put, List.setIfInBounds_toArray, List.set_cons_succ, List.set_cons_zero]; try rfl
      refine flowe_take 11 (v := ?_) (a' := ?_) hps rfl (by kernel_rfl) rfl ?_ ?_ ?_
      rotate_left 2
      · intro w' hk; go_simp; try rfl
      · simp only [Act.put, List.setIfInBounds_toArray, List.set_cons_succ, List.set_cons_zero]; try rfl
      refine flowe_skip 12 (a' := ?_) hps rfl (by kernel_rfl) rfl ?_ ?_
      rotate_left 1
      · simp only [Act.put, List.setIfInBounds_toArray, List.set_cons_succ, List.set_cons_zero]; try rfl
      refine flowe_skip 13 (a' := ?_) hps rfl (by kernel_rfl) rfl ?_ ?_
      rotate_left 1
      · simp only [Act.put, List.setIfInBounds_toArray, List.set_cons_succ, List.set_cons_zero]; try rfl
      refine flowe_take 14 (v := ?_) (a' := ?_) hps rfl (by kernel_rfl) rfl ?_ ?_ ?_
      rotate_left 2
      · intro w' hk; go_simp; try rfl
      · simp only [Act.put, List.setIfInBounds_toArray, List.set_cons_succ, List.set_cons_zero]; try rfl
      refine flowe_take 15 (v := ?_) (a' := ?_) hps rfl (by kernel_rfl) rfl ?_ ?_ ?_
      rotate_left 2
      · intro w' hk; go_simp; try rfl
      · simp only [Act.put, List.setIfInBounds_toArray, List.set_cons_succ, List.set_cons_zero]; try rfl
      refine flowe_take 16 (v := ?_) (a' := ?_) hps rfl (by kernel_rfl) rfl ?_ ?_ ?_
      rotate_left 2
      · intro w' hk; go_simp; try rfl
      · simp only [Act.put, List.setIfInBounds_toArray, List.set_cons_succ, List.set_cons_zero]; try rfl
      refine flowe_take 17 (v := ?_) (a' := ?_) hps rfl (by kernel_rfl) rfl ?_ ?_ ?_
      rotate_left 2
      · intro w' hk; go_simp; try rfl
      · simp only [Act.put, List.setIfInBounds_toArray, List.set_cons_succ, List.set_cons_zero]; try rfl
      refine flowe_take 18 (v := ?_) (a' := ?_) hps rfl (by kernel_rfl) rfl ?_ ?_ ?_
      rotate_left 2
      · intro w' hk; go_simp; try rfl
      · simp only [Act.put, List.setIfInBounds_toArray, List.set_cons_succ, List.set_cons_zero]; try rfl
      refine flowe_take 19 (v := ?_) (a' := ?_) hps rfl (by kernel_rfl) rfl ?_ ?_ ?_
      rotate_left 2
      · intro w' hk; go_simp; try rfl
      · simp only [Act.put, List.setIfInBounds_toArray, List.set_cons_succ, List.set_cons_zero]; try rfl
      refine flowe_one 20 hps rfl (by kernel_rfl) rfl (wp_next (fun K hK => ?_))
      go_simp
      with_reducible refine (code_of _ 1 (by decide) (by decide)).mono ?_
      rintro e w' ⟨rfl, rfl⟩
      refine hK _ _ (flow_step kk ?_ ?_)
      · first | exact kp | exact Keep.refl _ _ | exact (Keep.refl _ _).alloc _
      clear kk hK; try clear kp
      intro kk
      refine flowe_take 21 (v := ?_) (a' := ?_) hps rfl (by kernel_rfl) rfl ?_ ?_ ?_
      rotate_left 2
      · intro w' hk; go_simp; try rfl
      · simp only [Act.put, List.setIfInBounds_toArray, List.set_cons_succ, List.set_cons_zero]; try rfl
      refine flowe_take 22 (v := ?_) (a' := ?_) hps rfl (by kernel_rfl) rfl ?_ ?_ ?_
      rotate_left 2
      · intro w' hk; go_simp; try rfl
      · simp only [Act.put, List.setIfInBounds_toArray, List.set_cons_succ, List.set_cons_zero]; try rfl
      refine flowe_take 23 (v := ?_) (a' := ?_) hps rfl (by kernel_rfl) rfl ?_ ?_ ?_
      rotate_left 2
      · intro w' hk; go_simp; try rfl
      · simp only [Act.put, List.setIfInBounds_toArray, List.set_cons_succ, List.set_cons_zero]; try rfl
      refine flowe_take 24 (v := ?_) (a' := ?_) hps rfl (by kernel_rfl) rfl ?_ ?_ ?_
      rotate_left 2
      · intro w' hk; go_simp; try rfl
      · simp only [Act.put, List.setIfInBounds_toArray, List.set_cons_succ, List.set_cons_zero]; try rfl
      refine flowe_take 25 (v := ?_) (a' := ?_) hps rfl (by kernel_rfl) rfl ?_ ?_ ?_
      rotate_left 2
      · intro w' hk; go_simp; try rfl
      · simp only [Act.put, List.setIfInBounds_toArray, List.set_cons_succ, List.set_cons_zero]; try rfl
      refine flowe_done hps (by kernel_rfl) ?_
      have BZ := Lib.hid (TK.out.below (kk.below (Nat.le_refl _) fun _ _ h => h)).end
      clear kk
      go_wp2
      go_ret
      exact ⟨rfl, BZ.out⟩
    | some S =>
      have kc := blk_Set TI.out (i := 6) rfl xo xs xu
      rw [show ({ base := bn, cap := 16384, b := b } : Ar).b = b from rfl, ← HSS.out, show errS (some S) = .nilIface from rfl] at kc
      with_reducible refine kc.mono ?_
      clear kc
      rintro e wj ⟨rfl, tj⟩
      have TJ := Lib.hid tj
      clear tj
      go_wp2_with (refine bk_load TJ.out 7 rfl rfl _ rfl rfl ?_)
      have kc := rb_Set_ok TJ.out a _ c b (HRD.out _ _ TJ.out) (by omega) xo xs xu S HSS.out.symm
      with_reducible refine kc.mono ?_
      clear kc
      rintro e wk ⟨v3, rfl, tk⟩
      have TK := Lib.hid tk
      clear tk
      obtain ⟨a3, c3, rfl, _⟩ := TK.out.bsOwn (i := 0) rfl
      have HB3 := Lib.hid (TK.out.drew.bsV (i := 0) rfl)
      obtain ⟨va, hva⟩ := TK.out.drew.ar (i := 7) rfl
      have HVA := Lib.hid (show ArA _ q { base := bn, cap := 16384, b := S } va from hva)
      clear hva TI TJ
      go_wp2
      refine flowe_begin (F := fun _ => False) hmixed 26 rfl (by repeat (first | with_reducible refine ps_then ?_ | with_reducible refine ps_block ?_ | with_reducible exact ps_body | refine ps_then ?_ | refine ps_block ?_ | exact ps_body)) (fun hps => ?_)
      simp only [List.replicate]
      have kk := (Keep.refl (fun _ => False) (wk)).drew
      refine flowe_take 0 (v := ?_) (a' := ?_) hps rfl (by kernel_rfl) rfl ?_ ?_ ?_
      rotate_left 2
      · intro w' hk; go_simp; try rfl
      · simp only [Act.put, List.setIfInBounds_toArray, List.set_cons_succ, List.set_cons_zero]; try rfl
      refine flowe_take 1 (v := ?_) (a' := ?_) hps rfl (by kernel_rfl) rfl ?_ ?_ ?_
      rotate_left 2
      · intro w' hk; go_simp; try rfl
      · simp only [Act.put, List.setIfInBounds_toArray, List.set_cons_succ, List.set_cons_zero]; try rfl
      refine flowe_take 2 (v := ?_) (a' := ?_) hps rfl (by kernel_rfl) rfl ?_ ?_ ?_
      rotate_left 2
      · intro w' hk; go_simp; try rfl
      · simp only [Act.put, List.setIfInBounds_toArray, List.set_cons_succ, List.set_cons_zero]; try rfl
      refine flowe_take 5 (v := ?_) (a' := ?_) hps rfl (by kernel_rfl) rfl ?_ ?_ ?_
      rotate_left 2
      · intro w' hk; go_simp; try rfl
      · simp only [Act.put, List.setIfInBounds_toArray, List.set_cons_succ, List.set_cons_zero]; try rfl
      refine flowe_take 6 (v := ?_) (a' := ?_) hps rfl (by kernel_rfl) rfl ?_ ?_ ?_
      rotate_left 2
      · intro w' hk; have hs := run_s w' (HB3.out.keep hk (fun _ _ h => h)); go_simp; try rfl
      · simp only [Act.put, List.setIfInBounds_toArray, List.set_cons_succ, List.set_cons_zero]; try rfl
      refine flowe_one 3 hps rfl (by kernel_rfl) rfl (wp_next (fun K hK => ?_))
      go_simp
      with_reducible refine (law_Bytes _ q { base := bn, cap := 16384, b := S } va HVA.out).mono ?_
      rintro e w7 ⟨v7, rfl, o7, b7⟩
      have kp := Keep.of_below (F := fun _ => False) b7
      obtain ⟨a7, c7, rfl, _, hb7⟩ := Sl.of_owned o7
      have HB7 := Lib.hid (show Bs w7 a7 S.length c7 S from hb7)
      clear o7 b7 hb7
      refine hK _ _ (flow_step kk ?_ ?_)
      · first | exact kp | exact Keep.refl _ _ | exact (Keep.refl _ _).alloc _
      clear kk hK; try clear kp
      intro kk
      refine flowe_take 4 (v := ?_) (a' := ?_) hps rfl (by kernel_rfl) rfl ?_ ?_ ?_
      rotate_left 2
      · intro w' hk; have hs := run_s w' (HB7.out.keep hk (fun _ _ h => h)); go_simp; try rfl
      · simp only [Act.put, List.setIfInBounds_toArray, List.set_cons_succ, List.set_cons_zero]; try rfl
      refine flowe_take 7 (v := ?_) (a' := ?_) hps rfl (by kernel_rfl) rfl ?_ ?_ ?_
      rotate_left 2
      · intro w' hk; go_simp; try rfl
      · simp only [Act.put, List.setIfInBounds_toArray, List.set_cons_succ, List.set_cons_zero]; try rfl
      refine flowe_take 8 (v := ?_) (a' := ?_) hps rfl (by kernel_rfl) rfl ?_ ?_ ?_
      rotate_left 2
      · intro w' hk; go_simp; try rfl
      · simp only [Act.put, List.setIfInBounds_toArray, List.set_cons_succ, List.set_cons_zero]; try rfl
      refine flowe_take 9 (v := ?_) (a' := ?_) hps rfl (by kernel_rfl) rfl ?_ ?_ ?_
      rotate_left 2
      · intro w' hk; go_simp; try rfl
      · simp only [Act.put, List.setIfInBounds_toArray, List.set_cons_succ, List.set_cons_zero]; try rfl
      refine flowe_take 10 (v := ?_) (a' := ?_) hps rfl (by kernel_rfl) rfl ?_ ?_ ?_
      rotate_left 2
      · intro w' hk; go_simp; try rfl
      · simp only [Act.put, List.setIfInBounds_toArray, List.set_cons_succ, List.set_cons_zero]; try rfl
      refine flowe_take 11 (v := ?_) (a' := ?_) hps rfl (by kernel_rfl) rfl ?_ ?_ ?_
      rotate_left 2
      · intro w' hk; go_simp; try rfl
      · simp only [Act.put, List.setIfInBounds_toArray, List.set_cons_succ, List.set_cons_zero]; try rfl
      refine flowe_take 12 (v := ?_) (a' := ?_) hps rfl (by kernel_rfl) rfl ?_ ?_ ?_
      rotate_left 2
      · intro w' hk; go_simp; try rfl
      · simp only [Act.put, List.setIfInBounds_toArray, List.set_cons_succ, List.set_cons_zero]; try rfl
      refine flowe_take 13 (v := ?_) (a' := ?_) hps rfl (by kernel_rfl) rfl ?_ ?_ ?_
      rotate_left 2
      · intro w' hk; go_simp; try rfl
      · simp only [Act.put, List.setIfInBounds_toArray, List.set_cons_succ, List.set_cons_zero]; try rfl
      refine flowe_take 14 (v := ?_) (a' := ?_) hps rfl (by kernel_rfl) rfl ?_ ?_ ?_
      rotate_left 2
      · intro w' hk; go_simp; try rfl
      · simp only [Act.put, List.setIfInBounds_toArray, List.set_cons_succ, List.set_cons_zero]; try rfl
      refine flowe_take 15 (v := ?_) (a' := ?_) hps rfl (by kernel_rfl) rfl ?_ ?_ ?_
      rotate_left 2
      · intro w' hk; go_simp; try rfl
      · simp only [Act.put, List.setIfInBounds_toArray, List.set_cons_succ, List.set_cons_zero]; try rfl
      refine flowe_skip 16 (a' := ?_) hps rfl (by kernel_rfl) rfl ?_ ?_
      rotate_left 1
      · simp only [Act.put, List.setIfInBounds_toArray, List.set_cons_succ, List.set_cons_zero]; try rfl
      refine flowe_skip 17 (a' := ?_) hps rfl (by kernel_rfl) rfl ?_ ?_
      rotate_left 1
      · simp only [Act.put, List.setIfInBounds_toArray, List.set_cons_succ, List.set_cons_zero]; try rfl
      refine flowe_skip 18 (a' := ?_) hps rfl (by kernel_rfl) rfl ?_ ?_
      rotate_left 1
      · simp only [Act.put, List.setIfInBounds_toArray, List.set_cons_succ, List.set_cons_zero]; try rfl
      refine flowe_skip 19 (a' := ?_) hps rfl (by kernel_rfl) rfl ?_ ?_
      rotate_left 1
      · simp only [Act.put, List.setIfInBounds_toArray, List.set_cons_succ, List.set_cons_zero]; try rfl
      refine flowe_skip 20 (a' := ?_) hps rfl (by kernel_rfl) rfl ?_ ?_
      rotate_left 1
      · simp only [Act.put, List.setIfInBounds_toArray, List.set_cons_succ, List.set_cons_zero]; try rfl
      refine flowe_skip 21 (a' := ?_) hps rfl (by kernel_rfl) rfl ?_ ?_
      rotate_left 1
      · simp only [Act.put, List.setIfInBounds_toArray, List.set_cons_succ, List.set_cons_zero]; try rfl
      refine flowe_skip 22 (a' := ?_) hps rfl (by kernel_rfl) rfl ?_ ?_
      rotate_left 1
      · simp only [Act.put, List.setIfInBounds_toArray, List.set_cons_succ, List.set_cons_zero]; try rfl
      refine flowe_take 23 (v := ?_) (a' := ?_) hps rfl (by kernel_rfl) rfl ?_ ?_ ?_
      rotate_left 2
      · intro w' hk; go_simp; try rfl
      · simp only [Act.put, List.setIfInBounds_toArray, List.set_cons_succ, List.set_cons_zero]; try rfl
      refine flowe_take 24 (v := ?_) (a' := ?_) hps rfl (by kernel_rfl) rfl ?_ ?_ ?_
      rotate_left 2
      · intro w' hk; go_simp; try rfl
      · simp only [Act.put, List.setIfInBounds_toArray, List.set_cons_succ, List.set_cons_zero]; try rfl
      refine flowe_take 25 (v := ?_) (a' := ?_) hps rfl (by kernel_rfl) rfl ?_ ?_ ?_
      rotate_left 2
      · intro w' hk; go_simp; try rfl
      · simp only [Act.put, List.setIfInBounds_toArray, List.set_cons_succ, List.set_cons_zero]; try rfl
      refine flowe_done hps (by kernel_rfl) ?_
      have BZ := Lib.hid (TK.out.below (kk.below (Nat.le_refl _) fun _ _ h => h)).end
      clear kk
      go_wp2
      go_ret
      exact ⟨rfl, BZ.out⟩
  · try rw [show errO (some X) = .nilIface from rfl]
    try rw [show errO (some Y) = .nilIface from rfl]
    try rw [show errW none = .iface 183 (.int .i64 3) from rfl]
    go_wp2_with (first | (refine bk_loadg TE.out 2 rfl rfl _ rfl rfl ?_) | (refine bk_loadg TE.out 3 rfl rfl _ rfl rfl ?_) | (refine bk_loadg TE.out 4 rfl rfl _ rfl rfl ?_) | (refine bk_loadg TE.out 5 rfl rfl _ rfl rfl ?_))
    have kc := law_Blocks _ a1 c1 LZ a2 c2 LZ HS1.out HS2.out
    rw [if_pos rfl] at kc
    with_reducible refine kc.mono ?_
    clear kc
    rintro e wf ⟨rfl, bf⟩
    have BF := Lib.hid bf
    clear bf
    have TI := Lib.hid (TE.out.below BF.out)
    clear BF TE HS1 HS2
    go_wp2_with (first | (refine bk_load TI.out 7 rfl rfl _ rfl rfl ?_) | ((with_reducible refine (code_of _ 3 (by decide) (by decide)).mono ?_); rintro e w' ⟨rfl, rfl⟩))
    cases S with
    | none =>
      have kc := blk_Set TI.out (i := 6) rfl xo xs xu
      rw [show ({ base := bn, cap := 16384, b := b } : Ar).b = b from rfl, ← HSS.out, show errS none = .iface 183 (.int .i64 1) from rfl] at kc
      with_reducible refine kc.mono ?_
      clear kc
      rintro e wj ⟨rfl, tj⟩
      have TJ := Lib.hid tj
      clear tj
      go_wp2_with (refine bk_load TJ.out 7 rfl rfl _ rfl rfl ?_)
      have kc := rb_Set_no TJ.out a _ c b (HRD.out _ _ TJ.out) xo xs xu HSS.out.symm
      with_reducible refine kc.mono ?_
      clear kc
      rintro e wk ⟨rfl, tk⟩
      have TK := Lib.hid tk
      clear tk
      have HB3 := Lib.hid (HRD.out _ _ TK.out.drew)
      obtain ⟨va, hva⟩ := TK.out.drew.ar (i := 6) rfl
      have HVA := Lib.hid (show ArA _ q { base := bn, cap := 16384, b := b } va from hva)
      clear hva TI TJ
      go_wp2
      refine flowe_begin (F := fun _ => False) hmixed 26 rfl (by repeat (first | with_reducible refine ps_then ?_ | with_reducible refine ps_block ?_ | with_reducible exact ps_body | refine ps_then ?_ | refine ps_block ?_ | exact ps_body)) (fun hps => ?_)
      simp only [List.replicate]
      have kk := (Keep.refl (fun _ => False) (wk)).drew
      refine flowe_take 0 (v := ?_) (a' := ?_) hps rfl (by kernel_rfl) rfl ?_ ?_ ?_
      rotate_left 2
      · intro w' hk; go_simp; try rfl
      · simp only [Act.put, List.setIfInBounds_toArray, List.set_cons_succ, List.set_cons_zero]; try rfl
      refine flowe_take 1 (v := ?_) (a' := ?_) hps rfl (by kernel_rfl) rfl ?_ ?_ ?_
      rotate_left 2
      · intro w' hk; go_simp; try rfl
      · simp only [Act.put, List.setIfInBounds_toArray, List.set_cons_succ, List.set_cons_zero]; try rfl
      refine flowe_take 2 (v := ?_) (a' := ?_) hps rfl (by kernel_rfl) rfl ?_ ?_ ?_
      rotate_left 2
      · intro w' hk; go_simp; try rfl
      · simp only [Act.put, List.setIfInBounds_toArray, List.set_cons_succ, List.set_cons_zero]; try rfl
      refine flowe_take 5 (v := ?_) (a' := ?_) hps rfl (by kernel_rfl) rfl ?_ ?_ ?_
      rotate_left 2
      · intro w' hk; go_simp; try rfl
      · simp only [Act.put, List.setIfInBounds_toArray, List.set_cons_succ, List.set_cons_zero]; try rfl
      refine flowe_take 6 (v := ?_) (a' := ?_) hps rfl (by kernel_rfl) rfl ?_ ?_ ?_
      rotate_left 2
      · intro w' hk; have hs := run_s w' (HB3.out.keep hk (fun _ _ h => h)); go_simp; try rfl
      · simp only [Act.put, List.setIfInBounds_toArray, List.set_cons_succ, List.set_cons_zero]; try rfl
      refine flowe_one 3 hps rfl (by kernel_rfl) rfl (wp_next (fun K hK => ?_))
      go_simp
      with_reducible refine (law_Bytes _ q { base := bn, cap := 16384, b := b } va HVA.out).mono ?_
      rintro e w7 ⟨v7, rfl, o7, b7⟩
      have kp := Keep.of_below (F := fun _ => False) b7
      obtain ⟨a7, c7, rfl, _, hb7⟩ := Sl.of_owned o7
      have HB7 := Lib.hid (show Bs w7 a7 b.length c7 b from hb7)
      clear o7 b7 hb7
      refine hK _ _ (flow_step kk ?_ ?_)
      · first | exact kp | exact Keep.refl _ _ | exact (Keep.refl _ _).alloc _
      clear kk hK; try clear kp
      intro kk
      refine flowe_take 4 (v := ?_) (a' := ?_) hps rfl (by kernel_rfl) rfl ?_ ?_ ?_
      rotate_left 2
      · intro w' hk; have hs := run_s w' (HB7.out.keep hk (fun _ _ h => h)); go_simp; try rfl
      · simp only [Act.put, List.setIfInBounds_toArray, List.set_cons_succ, List.set_cons_zero]; try rfl
      refine flowe_take 7 (v := ?_) (a' := ?_) hps rfl (by kernel_rfl) rfl ?_ ?_ ?_
      rotate_left 2
      · intro w' hk; go_simp; try rfl
      · simp only [Act.put, List.setIfInBounds_toArray, List.set_cons_succ, List.set_cons_zero]; try rfl
      refine flowe_take 8 (v := ?_) (a' := ?_) hps rfl (by kernel_rfl) rfl ?_ ?_ ?_
      rotate_left 2
      · intro w' hk; go_simp; try rfl
      · simp only [Act.put, List.setIfInBounds_toArray, List.set_cons_succ, List.set_cons_zero]; try rfl
      refine flowe_take 9 (v := ?_) (a' := ?_) hps rfl (by kernel_rfl) rfl ?_ ?_ ?_
      rotate_left 2
      · intro w' hk; go_simp; try rfl
      · simp only [Act.put, List.setIfInBounds_toArray, List.set_cons_succ, List.set_cons_zero]; try rfl
      refine flowe_take 10 (v := ?_) (a' := ?_) hps rfl (by kernel_rfl) rfl ?_ ?_ ?_
      rotate_left 2
      · intro w' hk; go_simp; try rfl
      · simp only [Act.put, List.setIfInBounds_toArray, List.set_cons_succ, List.set_cons_zero]; try rfl
      refine flowe_take 11 (v := ?_) (a' := ?_) hps rfl (by kernel_rfl) rfl ?_ ?_ ?_
      rotate_left 2
      · intro w' hk; go_simp; try rfl
      · simp only [Act.put, List.setIfInBounds_toArray, List.set_cons_succ, List.set_cons_zero]; try rfl
      refine flowe_skip 12 (a' := ?_) hps rfl (by kernel_rfl) rfl ?_ ?_
      rotate_left 1
      · simp only [Act.put, List.setIfInBounds_toArray, List.set_cons_succ, List.set_cons_zero]; try rfl
      refine flowe_skip 13 (a' := ?_) hps rfl (by kernel_rfl) rfl ?_ ?_
      rotate_left 1
      · simp only [Act.put, List.setIfInBounds_toArray, List.set_cons_succ, List.set_cons_zero]; try rfl
      refine flowe_take 14 (v := ?_) (a' := ?_) hps rfl (by kernel_rfl) rfl ?_ ?_ ?_
      rotate_left 2
      · intro w' hk; go_simp; try rfl
      · simp only [Act.put, List.setIfInBounds_toArray, List.set_cons_succ, List.set_cons_zero]; try rfl
      refine flowe_take 15 (v := ?_) (a' := ?_) hps rfl (by kernel_rfl) rfl ?_ ?_ ?_
      rotate_left 2
      · intro w' hk; go_simp; try rfl
      · simp only [Act.put, List.setIfInBounds_toArray, List.set_cons_succ, List.set_cons_zero]; try rfl
      refine flowe_take 16 (v := ?_) (a' := ?_) hps rfl (by kernel_rfl) rfl ?_ ?_ ?_
      rotate_left 2
      · intro w' hk; go_simp; try rfl
      · simp only [Act.put, List.setIfInBounds_toArray, List.set_cons_succ, List.set_cons_zero]; try rfl
      refine flowe_take 17 (v := ?_) (a' := ?_) hps rfl (by kernel_rfl) rfl ?_ ?_ ?_
      rotate_left 2
      · intro w' hk; go_simp; try rfl
      · simp only [Act.put, List.setIfInBounds_toArray, List.set_cons_succ, List.set_cons_zero]; try rfl
      refine flowe_take 18 (v := ?_) (a' := ?_) hps rfl (by kernel_rfl) rfl ?_ ?_ ?_
      rotate_left 2
      · intro w' hk; go_simp; try rfl
      · simp only [Act.put, List.setIfInBounds_toArray, List.set_cons_succ, List.set_cons_zero]; try rfl
      refine flowe_take 19 (v := ?_) (a' := ?_) hps rfl (by kernel_rfl) rfl ?_ ?_ ?_
      rotate_left 2
      · intro w' hk; go_simp; try rfl
      · simp only [Act.put, List.setIfInBounds_toArray, List.set_cons_succ, List.set_cons_zero]; try rfl
      refine flowe_one 20 hps rfl (by kernel_rfl) rfl (wp_next (fun K hK => ?_))
      go_simp
      with_reducible refine (code_of _ 1 (by decide) (by decide)).mono ?_
      rintro e w' ⟨rfl, rfl⟩
      refine hK _ _ (flow_step kk ?_ ?_)
      · first | exact kp | exact Keep.refl _ _ | exact (Keep.refl _ _).alloc _
      clear kk hK; try clear kp
      intro kk
      refine flowe_take 21 (v := ?_) (a' := ?_) hps rfl (by kernel_rfl) rfl ?_ ?_ ?_
      rotate_left 2
      · intro w' hk; go_simp; try rfl
      · simp only [Act.put, List.setIfInBounds_toArray, List.set_cons_succ, List.set_cons_zero]; try rfl
      refine flowe_take 22 (v := ?_) (a' := ?_) hps rfl (by kernel_rfl) rfl ?_ ?_ ?_
      rotate_left 2
      · intro w' hk; go_simp; try rfl
      · simp only [Act.put, List.setIfInBounds_toArray, List.set_cons_succ, List.set_cons_zero]; try rfl
      refine flowe_take 23 (v := ?_) (a' := ?_) hps rfl (by kernel_rfl) rfl ?_ ?_ ?_
      rotate_left 2
      · intro w' hk; go_simp; try rfl
      · simp only [Act.put, List.setIfInBounds_toArray, List.set_cons_succ, List.set_cons_zero]; try rfl
      refine flowe_take 24 (v := ?_) (a' := ?_) hps rfl (by kernel_rfl) rfl ?_ ?_ ?_
      rotate_left 2
      · intro w' hk; go_simp; try rfl
      · simp only [Act.put, List.setIfInBounds_toArray, List.set_cons_succ, List.set_cons_zero]; try rfl
      refine flowe_take 25 (v := ?_) (a' := ?_) hps rfl (by kernel_rfl) rfl ?_ ?_ ?_
      rotate_left 2
      · intro w' hk; go_simp; try rfl
      · simp only [Act.put, List.setIfInBounds_toArray, List.set_cons_succ, List.set_cons_zero]; try rfl
      refine flowe_done hps (by kernel_rfl) ?_
      have BZ := Lib.hid (TK.out.below (kk.below (Nat.le_refl _) fun _ _ h => h)).end
      clear kk
      go_wp2
      go_ret
      exact ⟨rfl, BZ.out⟩
    | some S =>
      have kc := blk_Set TI.out (i := 6) rfl xo xs xu
      rw [show ({ base := bn, cap := 16384, b := b } : Ar).b = b from rfl, ← HSS.out, show errS (some S) = .nilIface from rfl] at kc
      with_reducible refine kc.mono ?_
      clear kc
      rintro e wj ⟨rfl, tj⟩
      have TJ := Lib.hid tj
      clear tj
      go_wp2_with (refine bk_load TJ.out 7 rfl rfl _ rfl rfl ?_)
      have kc := rb_Set_ok TJ.out a _ c b (HRD.out _ _ TJ.out) (by omega) xo xs xu S HSS.out.symm
      with_reducible refine kc.mono ?_
      clear kc
      rintro e wk ⟨v3, rfl, tk⟩
      have TK := Lib.hid tk
      clear tk
      obtain ⟨a3, c3, rfl, _⟩ := TK.out.bsOwn (i := 0) rfl
      have HB3 := Lib.hid (TK.out.drew.bsV (i := 0) rfl)
      obtain ⟨va, hva⟩ := TK.out.drew.ar (i := 7) rfl
      have HVA := Lib.hid (show ArA _ q { base := bn, cap := 16384, b := S } va from hva)
      clear hva TI TJ
      go_wp2
      refine flowe_begin (F := fun _ => False) hmixed 26 rfl (by repeat (first | with_reducible refine ps_then ?_ | with_reducible refine ps_block ?_ | with_reducible exact ps_body | refine ps_then ?_ | refine ps_block ?_ | exact ps_body)) (fun hps => ?_)
      simp only [List.replicate]
      have kk := (Keep.refl (fun _ => False) (wk)).drew
      refine flowe_take 0 (v := ?_) (a' := ?_) hps rfl (by kernel_rfl) rfl ?_ ?_ ?_
      rotate_left 2
      · intro w' hk; go_simp; try rfl
      · simp only [Act.put, List.setIfInBounds_toArray, List.set_cons_succ, List.set_cons_zero]; try rfl
      refine flowe_take 1 (v := ?_) (a' := ?_) hps rfl (by kernel_rfl) rfl ?_ ?_ ?_
      rotate_left 2
      · intro w' hk; go_simp; try rfl
      · simp only [Act.put, List.setIfInBounds_toArray, List.set_cons_succ, List.set_cons_zero]; try rfl
      refine flowe_take 2 (v := ?_) (a' := ?_) hps rfl (by kernel_rfl) rfl ?_ ?_ ?_
      rotate_left 2
      · intro w' hk; go_simp; try rfl
      · simp only [Act.put, List.setIfInBounds_toArray, List.set_cons_succ, List.set_cons_zero]; try rfl
      refine flowe_take 5 (v := ?_) (a' := ?_) hps rfl (by kernel_rfl) rfl ?_ ?_ ?_
      rotate_left 2
      · intro w' hk; go_simp; try rfl
      · simp only [Act.put, List.setIfInBounds_toArray, List.set_cons_succ, List.set_cons_zero]; try rfl
      refine flowe_take 6 (v := ?_) (a' := ?_) hps rfl (by kernel_rfl) rfl ?_ ?_ ?_
      rotate_left 2
      · intro w' hk; have hs := run_s w' (HB3.out.keep hk (fun _ _ h => h)); go_simp; try rfl
      · simp only [Act.put, List.setIfInBounds_toArray, List.set_cons_succ, List.set_cons_zero]; try rfl
      refine flowe_one 3 hps rfl (by kernel_rfl) rfl (wp_next (fun K hK => ?_))
      go_simp
      with_reducible refine (law_Bytes _ q { base := bn, cap := 16384, b := S } va HVA.out).mono ?_
      rintro e w7 ⟨v7, rfl, o7, b7⟩
      have kp := Keep.of_below (F := fun _ => False) b7
      obtain ⟨a7, c7, rfl, _, hb7⟩ := Sl.of_owned o7
      have HB7 := Lib.hid (show Bs w7 a7 S.length c7 S from hb7)
      clear o7 b7 hb7
      refine hK _ _ (flow_step kk ?_ ?_)
      · first | exact kp | exact Keep.refl _ _ | exact (Keep.refl _ _).alloc _
      clear kk hK; try clear kp
      intro kk
      refine flowe_take 4 (v := ?_) (a' := ?_) hps rfl (by kernel_rfl) rfl ?_ ?_ ?_
      rotate_left 2
      · intro w' hk; have hs := run_s w' (HB7.out.keep hk (fun _ _ h => h)); go_simp; try rfl
      · simp only [Act.put, List.setIfInBounds_toArray, List.set_cons_succ, List.set_cons_zero]; try rfl
      refine flowe_take 7 (v := ?_) (a' := ?_) hps rfl (by kernel_rfl) rfl ?_ ?_ ?_
      rotate_left 2
      · intro w' hk; go_simp; try rfl
      · simp only [Act.put, List.setIfInBounds_toArray, List.set_cons_succ, List.set_cons_zero]; try rfl
      refine flowe_take 8 (v := ?_) (a' := ?_) hps rfl (by kernel_rfl) rfl ?_ ?_ ?_
      rotate_left 2
      · intro w' hk; go_simp; try rfl
      · simp only [Act.put, List.setIfInBounds_toArray, List.set_cons_succ, List.set_cons_zero]; try rfl
      refine flowe_take 9 (v := ?_) (a' := ?_) hps rfl (by kernel_rfl) rfl ?_ ?_ ?_
      rotate_left 2
      · intro w' hk; go_simp; try rfl
      · simp only [Act.put, List.setIfInBounds_toArray, List.set_cons_succ, List.set_cons_zero]; try rfl
      refine flowe_take 10 (v := ?_) (a' := ?_) hps rfl (by kernel_rfl) rfl ?_ ?_ ?_
      rotate_left 2
      · intro w' hk; go_simp; try rfl
      · simp only [Act.put, List.setIfInBounds_toArray, List.set_cons_succ, List.set_cons_zero]; try rfl
      refine flowe_take 11 (v := ?_) (a' := ?_) hps rfl (by kernel_rfl) rfl ?_ ?_ ?_
      rotate_left 2
      · intro w' hk; go_simp; try rfl
      · simp only [Act.put, List.setIfInBounds_toArray, List.set_cons_succ, List.set_cons_zero]; try rfl
      refine flowe_take 12 (v := ?_) (a' := ?_) hps rfl (by kernel_rfl) rfl ?_ ?_ ?_
      rotate_left 2
      · intro w' hk; go_simp; try rfl
      · simp only [Act.put, List.setIfInBounds_toArray, List.set_cons_succ, List.set_cons_zero]; try rfl
      refine flowe_take 13 (v := ?_) (a' := ?_) hps rfl (by kernel_rfl) rfl ?_ ?_ ?_
      rotate_left 2
      · intro w' hk; go_simp; try rfl
      · simp only [Act.put, List.setIfInBounds_toArray, List.set_cons_succ, List.set_cons_zero]; try rfl
      refine flowe_take 14 (v := ?_) (a' := ?_) hps rfl (by kernel_rfl) rfl ?_ ?_ ?_
      rotate_left 2
      · intro w' hk; go_simp; try rfl
      · simp only [Act.put, List.setIfInBounds_toArray, List.set_cons_succ, List.set_cons_zero]; try rfl
      refine flowe_take 15 (v := ?_) (a' := ?_) hps rfl (by kernel_rfl) rfl ?_ ?_ ?_
      rotate_left 2
      · intro w' hk; go_simp; try rfl
      · simp only [Act.put, List.setIfInBounds_toArray, List.set_cons_succ, List.set_cons_zero]; try rfl
      refine flowe_skip 16 (a' := ?_) hps rfl (by kernel_rfl) rfl ?_ ?_
      rotate_left 1
      · simp only [Act.put, List.setIfInBounds_toArray, List.set_cons_succ, List.set_cons_zero]; try rfl
      refine flowe_skip 17 (a' := ?_) hps rfl (by kernel_rfl) rfl ?_ ?_
      rotate_left 1
      · simp only [Act.put, List.setIfInBounds_toArray, List.set_cons_succ, List.set_cons_zero]; try rfl
      refine flowe_skip 18 (a' := ?_) hps rfl (by kernel_rfl) rfl ?_ ?_
      rotate_left 1
      · simp only [Act.put, List.setIfInBounds_toArray, List.set_cons_succ, List.set_cons_zero]; try rfl
      refine flowe_skip 19 (a' := ?_) hps rfl (by kernel_rfl) rfl ?_ ?_
      rotate_left 1
      · simp only [Act.put, List.setIfInBounds_toArray, List.set_cons_succ, List.set_cons_zero]; try rfl
      refine flowe_skip 20 (a' := ?_) hps rfl (by kernel_rfl) rfl ?_ ?_
      rotate_left 1
      · simp only [Act.put, List.setIfInBounds_toArray, List.set_cons_succ, List.set_cons_zero]; try rfl
      refine flowe_skip 21 (a' := ?_) hps rfl (by kernel_rfl) rfl ?_ ?_
      rotate_left 1
      · simp only [Act.put, List.setIfInBounds_toArray, List.set_cons_succ, List.set_cons_zero]; try rfl
      refine flowe_skip 22 (a' := ?_) hps rfl (by kernel_rfl) rfl ?_ ?_
      rotate_left 1
      · simp only [Act.put, List.setIfInBounds_toArray, List.set_cons_succ, List.set_cons_zero]; try rfl
      refine flowe_take 23 (v := ?_) (a' := ?_) hps rfl (by kernel_rfl) rfl ?_ ?_ ?_
      rotate_left 2
      · intro w' hk; go_simp; try rfl
      · simp only [Act.put, List.setIfInBounds_toArray, List.set_cons_succ, List.set_cons_zero]; try rfl
      refine flowe_take 24 (v := ?_) (a' := ?_) hps rfl (by kernel_rfl) rfl ?_ ?_ ?_
      rotate_left 2
      · intro w' hk; go_simp; try rfl
      · simp only [Act.put, List.setIfInBounds_toArray, List.set_cons_succ, List.set_cons_zero]; try rfl
      refine flowe_take 25 (v := ?_) (a' := ?_) hps rfl (by kernel_rfl) rfl ?_ ?_ ?_
      rotate_left 2
      · intro w' hk; go_simp; try rfl
      · simp only [Act.put, List.setIfInBounds_toArray, List.set_cons_succ, List.set_cons_zero]; try rfl
      refine flowe_done hps (by kernel_rfl) ?_
      have BZ := Lib.hid (TK.out.below (kk.below (Nat.le_refl _) fun _ _ h => h)).end
      clear kk
      go_wp2
      go_ret
      exact ⟨rfl, BZ.out⟩
  · try rw [show errO (some X) = .nilIface from rfl]
    try rw [show errO (some Y) = .nilIface from rfl]
    try rw [show errW (some Z) = .nilIface from rfl]
    go_wp2_with (first | (refine bk_loadg TE.out 2 rfl rfl _ rfl rfl ?_) | (refine bk_loadg TE.out 3 rfl rfl _ rfl rfl ?_) | (refine bk_loadg TE.out 4 rfl rfl _ rfl rfl ?_) | (refine bk_loadg TE.out 5 rfl rfl _ rfl rfl ?_))
    have kc := law_Blocks _ a1 c1 LZ a2 c2 LZ HS1.out HS2.out
    rw [if_pos rfl] at kc
    with_reducible refine kc.mono ?_
    clear kc
    rintro e wf ⟨rfl, bf⟩
    have BF := Lib.hid bf
    clear bf
    have TI := Lib.hid (TE.out.below BF.out)
    clear BF TE HS1 HS2
    go_wp2_with (first | (refine bk_load TI.out 7 rfl rfl _ rfl rfl ?_) | ((with_reducible refine (code_of _ 3 (by decide) (by decide)).mono ?_); rintro e w' ⟨rfl, rfl⟩))
    cases S with
    | none =>
      have kc := blk_Set TI.out (i := 6) rfl xo xs xu
      rw [show ({ base := bn, cap := 16384, b := b } : Ar).b = b from rfl, ← HSS.out, show errS none = .iface 183 (.int .i64 1) from rfl] at kc
      with_reducible refine kc.mono ?_
      clear kc
      rintro e wj ⟨rfl, tj⟩
      have TJ := Lib.hid tj
      clear tj
      go_wp2_with (refine bk_load TJ.out 7 rfl rfl _ rfl rfl ?_)
      have kc := rb_Set_no TJ.out a _ c b (HRD.out _ _ TJ.out) xo xs xu HSS.out.symm
      with_reducible refine kc.mono ?_
      clear kc
      rintro e wk ⟨rfl, tk⟩
      have TK := Lib.hid tk
      clear tk
      have HB3 := Lib.hid (HRD.out _ _ TK.out.drew)
      obtain ⟨va, hva⟩ := TK.out.drew.ar (i := 6) rfl
      have HVA := Lib.hid (show ArA _ q { base := bn, cap := 16384, b := b } va from hva)
      clear hva TI TJ
      go_wp2
      refine flowe_begin (F := fun _ => False) hmixed 26 rfl (by repeat (first | with_reducible refine ps_then ?_ | with_reducible refine ps_block ?_ | with_reducible exact ps_body | refine ps_then ?_ | refine ps_block ?_ | exact ps_body)) (fun hps => ?_)
      simp only [List.replicate]
      have kk := (Keep.refl (fun _ => False) (wk)).drew
      refine flowe_take 0 (v := ?_) (a' := ?_) hps rfl (by kernel_rfl) rfl ?_ ?_ ?_
      rotate_left 2
      · intro w' hk; go_simp; try rfl
      · simp only [Act.put, List.setIfInBounds_toArray, List.set_cons_succ, List.set_cons_zero]; try rfl
      refine flowe_take 1 (v := ?_) (a' := ?_) hps rfl (by kernel_rfl) rfl ?_ ?_ ?_
      rotate_left 2
      · intro w' hk; go_simp; try rfl
      · simp only [Act.put, List.setIfInBounds_toArray, List.set_cons_succ, List.set_cons_zero]; try rfl
      refine flowe_take 2 (v := ?_) (a' := ?_) hps rfl (by kernel_rfl) rfl ?_ ?_ ?_
      rotate_left 2
      · intro w' hk; go_simp; try rfl
      · simp only [Act.put, List.setIfInBounds_toArray, List.set_cons_succ, List.set_cons_zero]; try rfl
      refine flowe_take 5 (v := ?_) (a' := ?_) hps rfl (by kernel_rfl) rfl ?_ ?_ ?_
      rotate_left 2
      · intro w' hk; go_simp; try rfl
      · simp only [Act.put, List.setIfInBounds_toArray, List.set_cons_succ, List.set_cons_zero]; try rfl
      refine flowe_take 6 (v := ?_) (a' := ?_) hps rfl (by kernel_rfl) rfl ?_ ?_ ?_
      rotate_left 2
      · intro w' hk; have hs := run_s w' (HB3.out.keep hk (fun _ _ h => h)); go_simp; try rfl
      · simp only [Act.put, List.setIfInBounds_toArray, List.set_cons_succ, List.set_cons_zero]; try rfl
      refine flowe_one 3 hps rfl (by kernel_rfl) rfl (wp_next (fun K hK => ?_))
      go_simp
      with_reducible refine (law_Bytes _ q { base := bn, cap := 16384, b := b } va HVA.out).mono ?_
      rintro e w7 ⟨v7, rfl, o7, b7⟩
      have kp := Keep.of_below (F := fun _ => False) b7
      obtain ⟨a7, c7, rfl, _, hb7⟩ := Sl.of_owned o7
      have HB7 := Lib.hid (show Bs w7 a7 b.length c7 b from hb7)
      clear o7 b7 hb7
      refine hK _ _ (flow_step kk ?_ ?_)
      · first | exact kp | exact Keep.refl _ _ | exact (Keep.refl _ _).alloc _
      clear kk hK; try clear kp
      intro kk
      refine flowe_take 4 (v := ?_) (a' := ?_) hps rfl (by kernel_rfl) rfl ?_ ?_ ?_
      rotate_left 2
      · intro w' hk; have hs := run_s w' (HB7.out.keep hk (fun _ _ h => h)); go_simp; try rfl
      · simp only [Act.put, List.setIfInBounds_toArray, List.set_cons_succ, List.set_cons_zero]; try rfl
      refine flowe_take 7 (v := ?_) (a' := ?_) hps rfl (by kernel_rfl) rfl ?_ ?_ ?_
      rotate_left 2
      · intro w' hk; go_simp; try rfl
      · simp only [Act.put, List.setIfInBounds_toArray, List.set_cons_succ, List.set_cons_zero]; try rfl
      refine flowe_take 8 (v := ?_) (a' := ?_) hps rfl (by kernel_rfl) rfl ?_ ?_ ?_
      rotate_left 2
      · intro w' hk; go_simp; try rfl
      · simp only [Act.put, List.setIfInBounds_toArray, List.set_cons_succ, List.set_cons_zero]; try rfl
      refine flowe_take 9 (v := ?_) (a' := ?_) hps rfl (by kernel_rfl) rfl ?_ ?_ ?_
      rotate_left 2
      · intro w' hk; go_simp; try rfl
      · simp only [Act.put, List.setIfInBounds_toArray, List.set_cons_succ, List.set_cons_zero]; try rfl
      refine flowe_take 10 (v := ?_) (a' := ?_) hps rfl (by kernel_rfl) rfl ?_ ?_ ?_
      rotate_left 2
      · intro w' hk; go_simp; try rfl
      · simp only [Act.put, List.setIfInBounds_toArray, List.set_cons_succ, List.set_cons_zero]; try rfl
      refine flowe_take 11 (v := ?_) (a' := ?_) hps rfl (by kernel_rfl) rfl ?_ ?_ ?_
      rotate_left 2
      · intro w' hk; go_simp; try rfl
      · simp only [Act.put, List.setIfInBounds_toArray, List.set_cons_succ, List.set_cons_zero]; try rfl
      refine flowe_skip 12 (a' := ?_) hps rfl (by kernel_rfl) rfl ?_ ?_
      rotate_left 1
      · simp only [Act.put, List.setIfInBounds_toArray, List.set_cons_succ, List.set_cons_zero]; try rfl
      refine flowe_skip 13 (a' := ?_) hps rfl (by kernel_rfl) rfl ?_ ?_
      rotate_left 1
      · simp only [Act.put, List.setIfInBounds_toArray, List.set_cons_succ, List.set_cons_zero]; try rfl
      refine flowe_take 14 (v := ?_) (a' := ?_) hps rfl (by kernel_rfl) rfl ?_ ?_ ?_
      rotate_left 2
      · intro w' hk; go_simp; try rfl
      · simp only [Act.put, List.setIfInBounds_toArray, List.set_cons_succ, List.set_cons_zero]; try rfl
      refine flowe_take 15 (v := ?_) (a' := ?_) hps rfl (by kernel_rfl) rfl ?_ ?_ ?_
      rotate_left 2
      · intro w' hk; go_simp; try rfl
      · simp only [Act.put, List.setIfInBounds_toArray, List.set_cons_succ, List.set_cons_zero]; try rfl
      refine flowe_take 16 (v := ?_) (a' := ?_) hps rfl (by kernel_rfl) rfl ?_ ?_ ?_
      rotate_left 2
      · intro w' hk; go_simp; try rfl
      · simp only [Act.put, List.setIfInBounds_toArray, List.set_cons_succ, List.set_cons_zero]; try rfl
      refine flowe_take 17 (v := ?_) (a' := ?_) hps rfl (by kernel_rfl) rfl ?_ ?_ ?_
      rotate_left 2
      · intro w' hk; go_simp; try rfl
      · simp only [Act.put, List.setIfInBounds_toArray, List.set_cons_succ, List.set_cons_zero]; try rfl
      refine flowe_take 18 (v := ?_) (a' := ?_) hps rfl (by kernel_rfl) rfl ?_ ?_ ?_
      rotate_left 2
      · intro w' hk; go_simp; try rfl
      · simp only [Act.put, List.setIfInBounds_toArray, List.set_cons_succ, List.set_cons_zero]; try rfl
      refine flowe_take 19 (v := ?_) (a' := ?_) hps rfl (by kernel_rfl) rfl ?_ ?_ ?_
      rotate_left 2
      · intro w' hk; go_simp; try rfl
      · simp only [Act.put, List.setIfInBounds_toArray, List.set_cons_succ, List.set_cons_zero]; try rfl
      refine flowe_one 20 hps rfl (by kernel_rfl) rfl (wp_next (fun K hK => ?_))
      go_simp
      with_reducible refine (code_of _ 1 (by decide) (by decide)).mono ?_
      rintro e w' ⟨rfl, rfl⟩
      refine hK _ _ (flow_step kk ?_ ?_)
      · first | exact kp | exact Keep.refl _ _ | exact (Keep.refl _ _).alloc _
      clear kk hK; try clear kp
      intro kk
      refine flowe_take 21 (v := ?_) (a' := ?_) hps rfl (by kernel_rfl) rfl ?_ ?_ ?_
      rotate_left 2
      · intro w' hk; go_simp; try rfl
      · simp only [Act.put, List.setIfInBounds_toArray, List.set_cons_succ, List.set_cons_zero]; try rfl
      refine flowe_take 22 (v := ?_) (a' := ?_) hps rfl (by kernel_rfl) rfl ?_ ?_ ?_
      rotate_left 2
      · intro w' hk; go_simp; try rfl
      · simp only [Act.put, List.setIfInBounds_toArray, List.set_cons_succ, List.set_cons_zero]; try rfl
      refine flowe_take 23 (v := ?_) (a' := ?_) hps rfl (by kernel_rfl) rfl ?_ ?_ ?_
      rotate_left 2
      · intro w' hk; go_simp; try rfl
      · simp only [Act.put, List.setIfInBounds_toArray, List.set_cons_succ, List.set_cons_zero]; try rfl
      refine flowe_take 24 (v := ?_) (a' := ?_) hps rfl (by kernel_rfl) rfl ?_ ?_ ?_
      rotate_left 2
      · intro w' hk; go_simp; try rfl
      · simp only [Act.put, List.setIfInBounds_toArray, List.set_cons_succ, List.set_cons_zero]; try rfl
      refine flowe_take 25 (v := ?_) (a' := ?_) hps rfl (by kernel_rfl) rfl ?_ ?_ ?_
      rotate_left 2
      · intro w' hk; go_simp; try rfl
      · simp only [Act.put, List.setIfInBounds_toArray, List.set_cons_succ, List.set_cons_zero]; try rfl
      refine flowe_done hps (by kernel_rfl) ?_
      have BZ := Lib.hid (TK.out.below (kk.below (Nat.le_refl _) fun _ _ h => h)).end
      clear kk
      go_wp2
      go_ret
      exact ⟨rfl, BZ.out⟩
    | some S =>
      have kc := blk_Set TI.out (i := 6) rfl xo xs xu
      rw [show ({ base := bn, cap := 16384, b := b } : Ar).b = b from rfl, ← HSS.out, show errS (some S) = .nilIface from rfl] at kc
      with_reducible refine kc.mono ?_
      clear kc
      rintro e wj ⟨rfl, tj⟩
      have TJ := Lib.hid tj
      clear tj
      go_wp2_with (refine bk_load TJ.out 7 rfl rfl _ rfl rfl ?_)
      have kc := rb_Set_ok TJ.out a _ c b (HRD.out _ _ TJ.out) (by omega) xo xs xu S HSS.out.symm
      with_reducible refine kc.mono ?_
      clear kc
      rintro e wk ⟨v3, rfl, tk⟩
      have TK := Lib.hid tk
      clear tk
      obtain ⟨a3, c3, rfl, _⟩ := TK.out.bsOwn (i := 0) rfl
      have HB3 := Lib.hid (TK.out.drew.bsV (i := 0) rfl)
      obtain ⟨va, hva⟩ := TK.out.drew.ar (i := 7) rfl
      have HVA := Lib.hid (show ArA _ q { base := bn, cap := 16384, b := S } va from hva)
      clear hva TI TJ
      go_wp2
      refine flowe_begin (F := fun _ => False) hmixed 26 rfl (by repeat (first | with_reducible refine ps_then ?_ | with_reducible refine ps_block ?_ | with_reducible exact ps_body | refine ps_then ?_ | refine ps_block ?_ | exact ps_body)) (fun hps => ?_)
      simp only [List.replicate]
      have kk := (Keep.refl (fun _ => False) (wk)).drew
      refine flowe_take 0 (v := ?_) (a' := ?_) hps rfl (by kernel_rfl) rfl ?_ ?_ ?_
      rotate_left 2
      · intro w' hk; go_simp; try rfl
      · simp only [Act.put, List.setIfInBounds_toArray, List.set_cons_succ, List.set_cons_zero]; try rfl
      refine flowe_take 1 (v := ?_) (a' := ?_) hps rfl (by kernel_rfl) rfl ?_ ?_ ?_
      rotate_left 2
      · intro w' hk; go_simp; try rfl
      · simp only [Act.put, List.setIfInBounds_toArray, List.set_cons_succ, List.set_cons_zero]; try rfl
      refine flowe_take 2 (v := ?_) (a' := ?_) hps rfl (by kernel_rfl) rfl ?_ ?_ ?_
      rotate_left 2
      · intro w' hk; go_simp; try rfl
      · simp only [Act.put, List.setIfInBounds_toArray, List.set_cons_succ, List.set_cons_zero]; try rfl
      refine flowe_take 5 (v := ?_) (a' := ?_) hps rfl (by kernel_rfl) rfl ?_ ?_ ?_
      rotate_left 2
      · intro w' hk; go_simp; try rfl
      · simp only [Act.put, List.setIfInBounds_toArray, List.set_cons_succ, List.set_cons_zero]; try rfl
      refine flowe_take 6 (v := ?_) (a' := ?_) hps rfl (by kernel_rfl) rfl ?_ ?_ ?_
      rotate_left 2
      · intro w' hk; have hs := run_s w' (HB3.out.keep hk (fun _ _ h => h)); go_simp; try rfl
      · simp only [Act.put, List.setIfInBounds_toArray, List.set_cons_succ, List.set_cons_zero]; try rfl
      refine flowe_one 3 hps rfl (by kernel_rfl) rfl (wp_next (fun K hK => ?_))
      go_simp
      with_reducible refine (law_Bytes _ q { base := bn, cap := 16384, b := S } va HVA.out).mono ?_
      rintro e w7 ⟨v7, rfl, o7, b7⟩
      have kp := Keep.of_below (F := fun _ => False) b7
      obtain ⟨a7, c7, rfl, _, hb7⟩ := Sl.of_owned o7
      have HB7 := Lib.hid (show Bs w7 a7 S.length c7 S from hb7)
      clear o7 b7 hb7
      refine hK _ _ (flow_step kk ?_ ?_)
      · first | exact kp | exact Keep.refl _ _ | exact (Keep.refl _ _).alloc _
      clear kk hK; try clear kp
      intro kk
      refine flowe_take 4 (v := ?_) (a' := ?_) hps rfl (by kernel_rfl) rfl ?_ ?_ ?_
      rotate_left 2
      · intro w' hk; have hs := run_s w' (HB7.out.keep hk (fun _ _ h => h)); go_simp; try rfl
      · simp only [Act.put, List.setIfInBounds_toArray, List.set_cons_succ, List.set_cons_zero]; try rfl
      refine flowe_take 7 (v := ?_) (a' := ?_) hps rfl (by kernel_rfl) rfl ?_ ?_ ?_
      rotate_left 2
      · intro w' hk; go_simp; try rfl
      · simp only [Act.put, List.setIfInBounds_toArray, List.set_cons_succ, List.set_cons_zero]; try rfl
      refine flowe_take 8 (v := ?_) (a' := ?_) hps rfl (by kernel_rfl) rfl ?_ ?_ ?_
      rotate_left 2
      · intro w' hk; go_simp; try rfl
      · simp only [Act.put, List.setIfInBounds_toArray, List.set_cons_succ, List.set_cons_zero]; try rfl
      refine flowe_take 9 (v := ?_) (a' := ?_) hps rfl (by kernel_rfl) rfl ?_ ?_ ?_
      rotate_left 2
      · intro w' hk; go_simp; try rfl
      · simp only [Act.put, List.setIfInBounds_toArray, List.set_cons_succ, List.set_cons_zero]; try rfl
      refine flowe_take 10 (v := ?_) (a' := ?_) hps rfl (by kernel_rfl) rfl ?_ ?_ ?_
      rotate_left 2
      · intro w' hk; go_simp; try rfl
      · simp only [Act.put, List.setIfInBounds_toArray, List.set_cons_succ, List.set_cons_zero]; try rfl
      refine flowe_take 11 (v := ?_) (a' := ?_) hps rfl (by kernel_rfl) rfl ?_ ?_ ?_
      rotate_left 2
      · intro w' hk; go_simp; try rfl
      · simp only [Act.put, List.setIfInBounds_toArray, List.set_cons_succ, List.set_cons_zero]; try rfl
      refine flowe_take 12 (v := ?_) (a' := ?_) hps rfl (by kernel_rfl) rfl ?_ ?_ ?_
      rotate_left 2
      · intro w' hk; go_simp; try rfl
      · simp only [Act.put, List.setIfInBounds_toArray, List.set_cons_succ, List.set_cons_zero]; try rfl
      refine flowe_take 13 (v := ?_) (a' := ?_) hps rfl (by kernel_rfl) rfl ?_ ?_ ?_
      rotate_left 2
      · intro w' hk; go_simp; try rfl
      · simp only [Act.put, List.setIfInBounds_toArray, List.set_cons_succ, List.set_cons_zero]; try rfl
      refine flowe_take 14 (v := ?_) (a' := ?_) hps rfl (by kernel_rfl) rfl ?_ ?_ ?_
      rotate_left 2
      · intro w' hk; go_simp; try rfl
      · simp only [Act.put, List.setIfInBounds_toArray, List.set_cons_succ, List.set_cons_zero]; try rfl
      refine flowe_take 15 (v := ?_) (a' := ?_) hps rfl (by kernel_rfl) rfl ?_ ?_ ?_
      rotate_left 2
      · intro w' hk; go_simp; try rfl
      · simp only [Act.put, List.setIfInBounds_toArray, List.set_cons_succ, List.set_cons_zero]; try rfl
      refine flowe_skip 16 (a' := ?_) hps rfl (by kernel_rfl) rfl ?_ ?_
      rotate_left 1
      · simp only [Act.put, List.setIfInBounds_toArray, List.set_cons_succ, List.set_cons_zero]; try rfl
      refine flowe_skip 17 (a' := ?_) hps rfl (by kernel_rfl) rfl ?_ ?_
      rotate_left 1
      · simp only [Act.put, List.setIfInBounds_toArray, List.set_cons_succ, List.set_cons_zero]; try rfl
      refine flowe_skip 18 (a' := ?_) hps rfl (by kernel_rfl) rfl ?_ ?_
      rotate_left 1
      · simp only [Act.put, List.setIfInBounds_toArray, List.set_cons_succ, List.set_cons_zero]; try rfl
      refine flowe_skip 19 (a' := ?_) hps rfl (by kernel_rfl) rfl ?_ ?_
      rotate_left 1
      · simp only [Act.put, List.setIfInBounds_toArray, List.set_cons_succ, List.set_cons_zero]; try rfl
      refine flowe_skip 20 (a' := ?_) hps rfl (by kernel_rfl) rfl ?_ ?_
      rotate_left 1
      · simp only [Act.put, List.setIfInBounds_toArray, List.set_cons_succ, List.set_cons_zero]; try rfl
      refine flowe_skip 21 (a' := ?_) hps rfl (by kernel_rfl) rfl ?_ ?_
      rotate_left 1
      · simp only [Act.put, List.setIfInBounds_toArray, List.set_cons_succ, List.set_cons_zero]; try rfl
      refine flowe_skip 22 (a' := ?_) hps rfl (by kernel_rfl) rfl ?_ ?_
      rotate_left 1
      · simp only [Act.put, List.setIfInBounds_toArray, List.set_cons_succ, List.set_cons_zero]; try rfl
      refine flowe_take 23 (v := ?_) (a' := ?_) hps rfl (by kernel_rfl) rfl ?_ ?_ ?_
      rotate_left 2
      · intro w' hk; go_simp; try rfl
      · simp only [Act.put, List.setIfInBounds_toArray, List.set_cons_succ, List.set_cons_zero]; try rfl
      refine flowe_take 24 (v := ?_) (a' := ?_) hps rfl (by kernel_rfl) rfl ?_ ?_ ?_
      rotate_left 2
      · intro w' hk; go_simp; try rfl
      · simp only [Act.put, List.setIfInBounds_toArray, List.set_cons_succ, List.set_cons_zero]; try rfl
      refine flowe_take 25 (v := ?_) (a' := ?_) hps rfl (by kernel_rfl) rfl ?_ ?_ ?_
      rotate_left 2
      · intro w' hk; go_simp; try rfl
      · simp only [Act.put, List.setIfInBounds_toArray, List.set_cons_succ, List.set_cons_zero]; try rfl
      refine flowe_done hps (by kernel_rfl) ?_
      have BZ := Lib.hid (TK.out.below (kk.below (Nat.le_refl _) fun _ _ h => h)).end
      clear kk
      go_wp2
      go_ret
      exact ⟨rfl, BZ.out⟩
end Go.Proofs.Ytjijniillehfoaa

/- Layer 10: what Find and Rebuild tell, of an arena of any bytes. -/
namespace Go.Own
theorem rebuildB_length {b : List UInt8} (hm : b.length ≤ 16384) : ((rebuildB b).getD b).length = b.length := by
  cases hw : walkB b with
  | none => unfold rebuildB; rw [hw]; rfl
  | some L =>
    obtain ⟨h1, h2⟩ := (walkB_tile b L).1 hw
    obtain ⟨b', e, hl, _⟩ := rebuild_right h2 h1 hm
    rw [e]; exact hl
end Go.Own
namespace Go.Proofs.Ytjijniillehfoaa
open Go Go.RowKit Go.Own
set_option linter.unusedVariables false
set_option maxRecDepth 100000
set_option maxHeartbeats 16000000 in
theorem fitTells (w : World) (n : Int) (la : Option Addr) (ln lc : Nat) (size : Int) (hn : (Lit.int .i64 n).wf = true) (hl : Rd w (.sl shLy) [.slice la ln lc]) (hsz : (Lit.int .i64 size).wf = true) :
    Calls Try.prog 16 #[.int .i64 n, .slice la ln lc, .int .i64 size] w (lawOk w) := by
  obtain ⟨ds, hds, hdl, hok⟩ := rd_lys hl
  obtain ⟨n0, n1⟩ := wfI64 hn
  obtain ⟨z0, z1⟩ := wfI64 hsz
  have p1 := Sl.cap hds; have r1 := Sl.room hds
  have HD := Lib.hid (And.intro hds (And.intro hdl hok))
  clear hds hdl hok hl hn hsz
  go_enter Try.func16, Try.ntmps16
  go_wp2_with fail
  refine (up10 w).mono ?_
  rintro e w1 ⟨rfl, bw1⟩
  have T1 := Lib.hid ((St.start w).below bw1)
  clear bw1
  by_cases hc : n < 0 ∨ 2000 < n ∨ 60 < ln
  · have B2 := Lib.hid T1.out.end
    rcases hc with h1 | h1 | h1
    · have d1 : decide (n < 0) = true := decide_eq_true h1
      go_wp2
      go_ret
      exact ⟨rfl, B2.out⟩
    · have d1 : decide (n < 0) = false := decide_eq_false (by omega)
      have d2 : decide (n > 2000) = true := decide_eq_true h1
      go_wp2
      go_ret
      exact ⟨rfl, B2.out⟩
    · have d3 : decide ((ln : Int) > 60) = true := decide_eq_true (by omega)
      by_cases h2 : n < 0
      · have d1 : decide (n < 0) = true := decide_eq_true h2
        go_wp2
        go_ret
        exact ⟨rfl, B2.out⟩
      · have d1 : decide (n < 0) = false := decide_eq_false (by omega)
        by_cases h3 : 2000 < n
        · have d2 : decide (n > 2000) = true := decide_eq_true h3
          go_wp2
          go_ret
          exact ⟨rfl, B2.out⟩
        · have d2 : decide (n > 2000) = false := decide_eq_false (by omega)
          go_wp2
          go_ret
          exact ⟨rfl, B2.out⟩
  have d1 : decide (n < 0) = false := decide_eq_false (by omega)
  have d2 : decide (n > 2000) = false := decide_eq_false (by omega)
  have d3 : decide ((ln : Int) > 60) = false := decide_eq_false (by omega)
  obtain ⟨N, hN⟩ := Int.eq_ofNat_of_zero_le (show 0 ≤ n by omega)
  subst hN
  have hN2 : N ≤ 2000 := by omega
  go_wp2_with fail
  have kc := law_LBytes T1.out (N : Int) N rfl hN2 la ln lc ds HD.out.1 HD.out.2.1 HD.out.2.2 (by omega)
  with_reducible refine kc.mono ?_
  clear kc
  rintro e w2 ⟨v2', b', rfl, hb2', t2⟩
  have T2 := Lib.hid t2
  clear t2
  obtain ⟨a2, c2, rfl, h2⟩ := T2.out
  rw [hb2'] at h2
  rw [hb2']
  have H2 := Lib.hid h2; have HB2 := Lib.hid hb2'
  clear h2 d1 d2 d3 hc T1 T2 hb2'
  go_wp2_with fail
  have kc := ar_Arena H2.out 32 32 rfl 16384 16384 rfl (by decide) (by decide) (by decide) (by decide) a2 _ c2 b' (H2.out.as (i := 0) rfl) (by have := HB2.out; omega)
  with_reducible refine kc.mono ?_
  clear kc
  rintro e w3 ⟨q, rfl, t3⟩
  have T3 := Lib.hid t3
  clear t3
  go_wp2
  go_loopw [8, 10] (fun vb vi wr => ∃ (k : Nat) (b : List UInt8) (a : Option Addr) (c : Nat), k ≤ 2 ∧ vi = .int .i64 k ∧ b.length = N ∧ vb = .slice a N c ∧ St w.heap.size w wr [AsO a N c b, ArT q ⟨32, 16384, b⟩]) (fun _ vi _ => 2 - (intOf vi).toNat)
  case atStart =>
    exact ⟨0, b', a2, c2, by omega, rfl, HB2.out, rfl, T3.out.swap⟩
  case round =>
    obtain ⟨k, b, a, c, hk, rfl, hb, rfl, hS⟩ := hrel
    clear T3 H2
    by_cases hlt : k < 2
    · have d2 : decide ((k : Int) < 2) = true := decide_eq_true (by omega)
      have hbm : b.length ≤ 16384 := by omega
      have HS := Lib.hid (show St w.heap.size w wr (([AsO a N c b, ArT q ⟨32, 16384, b⟩] : List Ob).set 1 (ArT q ⟨32, 16384, b⟩)) from hS)
      have HB := Lib.hid hb; have HBM := Lib.hid hbm
      clear hS hb hbm
      have hRL := rebuildB_length HBM.out
      have HRL := Lib.hid hRL
      have KR := fun (w' : World) (h' : St w.heap.size w w' (([AsO a N c b, ArT q ⟨32, 16384, b⟩] : List Ob).set 1 (ArT q ⟨32, 16384, b⟩))) => fit_Rebuild h' (Nat.lt_succ_self 1)
      have HKR := Lib.hid KR
      clear KR hRL
      cases hsz : isSize size with
      | false =>
        have hcl : cls size = -1 := by unfold cls; rw [hsz]; rfl
        have KC := Lib.hid fun w => ref_Class w size z0 z1
        rw [hcl] at KC
        go_wp2_with fail
        have kc := fit_Find_bad (p := q) HS.out size z0 z1 hsz
        with_reducible refine kc.mono ?_
        clear kc
        rintro e w5 ⟨rfl, t5⟩
        have T5 := Lib.hid t5
        clear t5
        go_wp2_with fail
        have kc := KC.out w5
        with_reducible refine kc.mono ?_
        clear kc
        rintro e w' ⟨rfl, rfl⟩
        clear hsz hcl
        go_wp2_with fail
        have kc := code_of w5 1 (by decide) (by decide)
        with_reducible refine kc.mono ?_
        clear kc
        rintro e w' ⟨rfl, rfl⟩
        go_wp2_with fail
        have kc := HKR.out _ T5.out
        with_reducible refine kc.mono ?_
        clear kc
        rintro e w7 ⟨rfl, t7⟩
        have T7 := Lib.hid t7
        clear t7
        go_wp2_with fail
        have kc := rl_Rebuild T7.out (i := 0) rfl HBM.out
        with_reducible refine kc.mono ?_
        clear kc
        rintro e w8 ⟨v8', rfl, t8⟩
        have T8 := Lib.hid t8
        clear t8
        obtain ⟨a8, c8, rfl, h8⟩ := T8.out
        rw [HRL.out, HB.out] at h8
        have H8 := Lib.hid (show St w.heap.size w w8 (AsO a8 N c8 ((rebuildB b).getD b) :: AsO a N c b :: [ArT q ⟨32, 16384, (rebuildB b).getD b⟩]) from h8)
        clear h8 T8
        have fin : ∀ w', St w.heap.size w w' (AsO a8 N c8 ((rebuildB b).getD b) :: AsO a N c b :: [ArT q ⟨32, 16384, (rebuildB b).getD b⟩]) → ∃ (k_1 : Nat) (b_1 : List UInt8) (a_1 : Option Addr) (c_1 : Nat), k_1 ≤ 2 ∧ Value.int .i64 ((k + 1 : Nat) : Int) = .int .i64 k_1 ∧ b_1.length = N ∧ Value.slice a8 N c8 = .slice a_1 N c_1 ∧ St w.heap.size w w' [AsO a_1 N c_1 b_1, ArT q ⟨32, 16384, b_1⟩] :=
          fun w' h => ⟨k + 1, _, a8, c8, by omega, rfl, by rw [HRL.out, HB.out], rfl, h.drop2⟩
        have FIN := Lib.hid fin
        have HYL := Lib.hid (show ((rebuildB b).getD b).length = N by rw [HRL.out, HB.out])
        clear fin
        rw [HYL.out]
        obtain ⟨y, hy⟩ : ∃ y, y = (rebuildB b).getD b := ⟨_, rfl⟩
        rw [← hy] at H8 FIN HYL
        clear hy
        obtain ⟨va, hva⟩ := H8.out.drew.ar (i := 2) rfl
        have HVA := Lib.hid (show ArA _ q { base := 32, cap := 16384, b := y } va from hva)
        have HB3 := Lib.hid (H8.out.drew.as (i := 0) rfl)
        clear hva
        cases hR : rebuildB b with
        | none =>
          rw [show errP none = .iface 183 (.int .i64 3) from rfl, show (none : Option (List UInt8)).isSome = false from rfl]
          clear hR
          go_wp2
          refine flowe_begin (F := fun _ => False) hmixed 21 rfl (by repeat (first | with_reducible refine ps_then ?_ | with_reducible refine ps_block ?_ | with_reducible exact ps_body | refine ps_then ?_ | refine ps_block ?_ | exact ps_body)) (fun hps => ?_)
          simp only [List.replicate]
          have kk := (Keep.refl (fun _ => False) (w8)).drew
          refine flowe_take 0 (v := ?_) (a' := ?_) hps rfl (by kernel_rfl) rfl ?_ ?_ ?_
          rotate_left 2
          · intro w' hk; go_simp; try rfl
          · simp only [Act.put, List.setIfInBounds_toArray, List.set_cons_succ, List.set_cons_zero]; try rfl
          refine flowe_take 1 (v := ?_) (a' := ?_) hps rfl (by kernel_rfl) rfl ?_ ?_ ?_
          rotate_left 2
          · intro w' hk; go_simp; try rfl
          · simp only [Act.put, List.setIfInBounds_toArray, List.set_cons_succ, List.set_cons_zero]; try rfl
          refine flowe_take 2 (v := ?_) (a' := ?_) hps rfl (by kernel_rfl) rfl ?_ ?_ ?_
          rotate_left 2
          · intro w' hk; go_simp; try rfl
          · simp only [Act.put, List.setIfInBounds_toArray, List.set_cons_succ, List.set_cons_zero]; try rfl
          refine flowe_take 3 (v := ?_) (a' := ?_) hps rfl (by kernel_rfl) rfl ?_ ?_ ?_
          rotate_left 2
          · intro w' hk; go_simp; try rfl
          · simp only [Act.put, List.setIfInBounds_toArray, List.set_cons_succ, List.set_cons_zero]; try rfl
          refine flowe_take 4 (v := ?_) (a' := ?_) hps rfl (by kernel_rfl) rfl ?_ ?_ ?_
          rotate_left 2
          · intro w' hk; go_simp; try rfl
          · simp only [Act.put, List.setIfInBounds_toArray, List.set_cons_succ, List.set_cons_zero]; try rfl
          refine flowe_take 5 (v := ?_) (a' := ?_) hps rfl (by kernel_rfl) rfl ?_ ?_ ?_
          rotate_left 2
          · intro w' hk; go_simp; try rfl
          · simp only [Act.put, List.setIfInBounds_toArray, List.set_cons_succ, List.set_cons_zero]; try rfl
          refine flowe_take 6 (v := ?_) (a' := ?_) hps rfl (by kernel_rfl) rfl ?_ ?_ ?_
          rotate_left 2
          · intro w' hk; go_simp; try rfl
          · simp only [Act.put, List.setIfInBounds_toArray, List.set_cons_succ, List.set_cons_zero]; try rfl
          refine flowe_take 7 (v := ?_) (a' := ?_) hps rfl (by kernel_rfl) rfl ?_ ?_ ?_
          rotate_left 2
          · intro w' hk; go_simp; try rfl
          · simp only [Act.put, List.setIfInBounds_toArray, List.set_cons_succ, List.set_cons_zero]; try rfl
          refine flowe_take 8 (v := ?_) (a' := ?_) hps rfl (by kernel_rfl) rfl ?_ ?_ ?_
          rotate_left 2
          · intro w' hk; go_simp; try rfl
          · simp only [Act.put, List.setIfInBounds_toArray, List.set_cons_succ, List.set_cons_zero]; try rfl
          refine flowe_one 9 hps rfl (by kernel_rfl) rfl (wp_next (fun K hK => ?_))
          go_simp
          with_reducible refine (code_of _ 3 (by decide) (by decide)).mono ?_
          rintro e w' ⟨rfl, rfl⟩
          refine hK _ _ (flow_step kk ?_ ?_)
          · first | exact kp | exact Keep.refl _ _ | exact (Keep.refl _ _).alloc _
          clear kk hK; try clear kp
          intro kk
          refine flowe_take 10 (v := ?_) (a' := ?_) hps rfl (by kernel_rfl) rfl ?_ ?_ ?_
          rotate_left 2
          · intro w' hk; go_simp; try rfl
          · simp only [Act.put, List.setIfInBounds_toArray, List.set_cons_succ, List.set_cons_zero]; try rfl
          refine flowe_take 11 (v := ?_) (a' := ?_) hps rfl (by kernel_rfl) rfl ?_ ?_ ?_
          rotate_left 2
          · intro w' hk; go_simp; try rfl
          · simp only [Act.put, List.setIfInBounds_toArray, List.set_cons_succ, List.set_cons_zero]; try rfl
          refine flowe_take 12 (v := ?_) (a' := ?_) hps rfl (by kernel_rfl) rfl ?_ ?_ ?_
          rotate_left 2
          · intro w' hk; go_simp; try rfl
          · simp only [Act.put, List.setIfInBounds_toArray, List.set_cons_succ, List.set_cons_zero]; try rfl
          refine flowe_take 13 (v := ?_) (a' := ?_) hps rfl (by kernel_rfl) rfl ?_ ?_ ?_
          rotate_left 2
          · intro w' hk; go_simp; try rfl
          · simp only [Act.put, List.setIfInBounds_toArray, List.set_cons_succ, List.set_cons_zero]; try rfl
          refine flowe_take 14 (v := ?_) (a' := ?_) hps rfl (by kernel_rfl) rfl ?_ ?_ ?_
          rotate_left 2
          · intro w' hk; go_simp; try rfl
          · simp only [Act.put, List.setIfInBounds_toArray, List.set_cons_succ, List.set_cons_zero]; try rfl
          refine flowe_take 17 (v := ?_) (a' := ?_) hps rfl (by kernel_rfl) rfl ?_ ?_ ?_
          rotate_left 2
          · intro w' hk; go_simp; try rfl
          · simp only [Act.put, List.setIfInBounds_toArray, List.set_cons_succ, List.set_cons_zero]; try rfl
          refine flowe_take 18 (v := ?_) (a' := ?_) hps rfl (by kernel_rfl) rfl ?_ ?_ ?_
          rotate_left 2
          · intro w' hk; have hs := run_s w' (HB3.out.keep hk (fun _ _ h => h)); go_simp; try rfl
          · simp only [Act.put, List.setIfInBounds_toArray, List.set_cons_succ, List.set_cons_zero]; try rfl
          refine flowe_one 15 hps rfl (by kernel_rfl) rfl (wp_next (fun K hK => ?_))
          go_simp
          with_reducible refine (law_Bytes _ q { base := 32, cap := 16384, b := y } va HVA.out).mono ?_
          rintro e w9 ⟨v9, rfl, o9, b9⟩
          have kp := Keep.of_below (F := fun _ => False) b9
          obtain ⟨a9, c9, rfl, _, hb9⟩ := Sl.of_owned o9
          have HB9 := Lib.hid (show Bs w9 a9 y.length c9 y from hb9)
          clear o9 b9 hb9
          refine hK _ _ (flow_step kk ?_ ?_)
          · first | exact kp | exact Keep.refl _ _ | exact (Keep.refl _ _).alloc _
          clear kk hK; try clear kp
          intro kk
          refine flowe_take 16 (v := ?_) (a' := ?_) hps rfl (by kernel_rfl) rfl ?_ ?_ ?_
          rotate_left 2
          · intro w' hk; have hs := run_s w' (HB9.out.keep hk (fun _ _ h => h)); go_simp; try rfl
          · simp only [Act.put, List.setIfInBounds_toArray, List.set_cons_succ, List.set_cons_zero]; try rfl
          refine flowe_take 19 (v := ?_) (a' := ?_) hps rfl (by kernel_rfl) rfl ?_ ?_ ?_
          rotate_left 2
          · intro w' hk; go_simp; try rfl
          · simp only [Act.put, List.setIfInBounds_toArray, List.set_cons_succ, List.set_cons_zero]; try rfl
          refine flowe_take 20 (v := ?_) (a' := ?_) hps rfl (by kernel_rfl) rfl ?_ ?_ ?_
          rotate_left 2
          · intro w' hk; go_simp; try rfl
          · simp only [Act.put, List.setIfInBounds_toArray, List.set_cons_succ, List.set_cons_zero]; try rfl
          refine flowe_done hps (by kernel_rfl) ?_
          have H9 := Lib.hid (H8.out.below (kk.below (Nat.le_refl _) fun _ _ h => h))
          clear kk
          go_wp2
          exact ⟨FIN.out _ H9.out, by simp [intOf]; omega⟩
        | some y2 =>
          rw [show errP (some y2) = .nilIface from rfl, show (some y2).isSome = true from rfl]
          clear hR
          go_wp2
          refine flowe_begin (F := fun _ => False) hmixed 21 rfl (by repeat (first | with_reducible refine ps_then ?_ | with_reducible refine ps_block ?_ | with_reducible exact ps_body | refine ps_then ?_ | refine ps_block ?_ | exact ps_body)) (fun hps => ?_)
          simp only [List.replicate]
          have kk := (Keep.refl (fun _ => False) (w8)).drew
          refine flowe_take 0 (v := ?_) (a' := ?_) hps rfl (by kernel_rfl) rfl ?_ ?_ ?_
          rotate_left 2
          · intro w' hk; go_simp; try rfl
          · simp only [Act.put, List.setIfInBounds_toArray, List.set_cons_succ, List.set_cons_zero]; try rfl
          refine flowe_take 1 (v := ?_) (a' := ?_) hps rfl (by kernel_rfl) rfl ?_ ?_ ?_
          rotate_left 2
          · intro w' hk; go_simp; try rfl
          · simp only [Act.put, List.setIfInBounds_toArray, List.set_cons_succ, List.set_cons_zero]; try rfl
          refine flowe_take 2 (v := ?_) (a' := ?_) hps rfl (by kernel_rfl) rfl ?_ ?_ ?_
          rotate_left 2
          · intro w' hk; go_simp; try rfl
          · simp only [Act.put, List.setIfInBounds_toArray, List.set_cons_succ, List.set_cons_zero]; try rfl
          refine flowe_take 3 (v := ?_) (a' := ?_) hps rfl (by kernel_rfl) rfl ?_ ?_ ?_
          rotate_left 2
          · intro w' hk; go_simp; try rfl
          · simp only [Act.put, List.setIfInBounds_toArray, List.set_cons_succ, List.set_cons_zero]; try rfl
          refine flowe_take 4 (v := ?_) (a' := ?_) hps rfl (by kernel_rfl) rfl ?_ ?_ ?_
          rotate_left 2
          · intro w' hk; go_simp; try rfl
          · simp only [Act.put, List.setIfInBounds_toArray, List.set_cons_succ, List.set_cons_zero]; try rfl
          refine flowe_take 5 (v := ?_) (a' := ?_) hps rfl (by kernel_rfl) rfl ?_ ?_ ?_
          rotate_left 2
          · intro w' hk; go_simp; try rfl
          · simp only [Act.put, List.setIfInBounds_toArray, List.set_cons_succ, List.set_cons_zero]; try rfl
          refine flowe_take 6 (v := ?_) (a' := ?_) hps rfl (by kernel_rfl) rfl ?_ ?_ ?_
          rotate_left 2
          · intro w' hk; go_simp; try rfl
          · simp only [Act.put, List.setIfInBounds_toArray, List.set_cons_succ, List.set_cons_zero]; try rfl
          refine flowe_take 7 (v := ?_) (a' := ?_) hps rfl (by kernel_rfl) rfl ?_ ?_ ?_
          rotate_left 2
          · intro w' hk; go_simp; try rfl
          · simp only [Act.put, List.setIfInBounds_toArray, List.set_cons_succ, List.set_cons_zero]; try rfl
          refine flowe_skip 8 (a' := ?_) hps rfl (by kernel_rfl) rfl ?_ ?_
          rotate_left 1
          · simp only [Act.put, List.setIfInBounds_toArray, List.set_cons_succ, List.set_cons_zero]; try rfl
          refine flowe_skip 9 (a' := ?_) hps rfl (by kernel_rfl) rfl ?_ ?_
          rotate_left 1
          · simp only [Act.put, List.setIfInBounds_toArray, List.set_cons_succ, List.set_cons_zero]; try rfl
          refine flowe_skip 10 (a' := ?_) hps rfl (by kernel_rfl) rfl ?_ ?_
          rotate_left 1
          · simp only [Act.put, List.setIfInBounds_toArray, List.set_cons_succ, List.set_cons_zero]; try rfl
          refine flowe_take 11 (v := ?_) (a' := ?_) hps rfl (by kernel_rfl) rfl ?_ ?_ ?_
          rotate_left 2
          · intro w' hk; go_simp; try rfl
          · simp only [Act.put, List.setIfInBounds_toArray, List.set_cons_succ, List.set_cons_zero]; try rfl
          refine flowe_take 12 (v := ?_) (a' := ?_) hps rfl (by kernel_rfl) rfl ?_ ?_ ?_
          rotate_left 2
          · intro w' hk; go_simp; try rfl
          · simp only [Act.put, List.setIfInBounds_toArray, List.set_cons_succ, List.set_cons_zero]; try rfl
          refine flowe_take 13 (v := ?_) (a' := ?_) hps rfl (by kernel_rfl) rfl ?_ ?_ ?_
          rotate_left 2
          · intro w' hk; go_simp; try rfl
          · simp only [Act.put, List.setIfInBounds_toArray, List.set_cons_succ, List.set_cons_zero]; try rfl
          refine flowe_take 14 (v := ?_) (a' := ?_) hps rfl (by kernel_rfl) rfl ?_ ?_ ?_
          rotate_left 2
          · intro w' hk; go_simp; try rfl
          · simp only [Act.put, List.setIfInBounds_toArray, List.set_cons_succ, List.set_cons_zero]; try rfl
          refine flowe_take 17 (v := ?_) (a' := ?_) hps rfl (by kernel_rfl) rfl ?_ ?_ ?_
          rotate_left 2
          · intro w' hk; go_simp; try rfl
          · simp only [Act.put, List.setIfInBounds_toArray, List.set_cons_succ, List.set_cons_zero]; try rfl
          refine flowe_take 18 (v := ?_) (a' := ?_) hps rfl (by kernel_rfl) rfl ?_ ?_ ?_
          rotate_left 2
          · intro w' hk; have hs := run_s w' (HB3.out.keep hk (fun _ _ h => h)); go_simp; try rfl
          · simp only [Act.put, List.setIfInBounds_toArray, List.set_cons_succ, List.set_cons_zero]; try rfl
          refine flowe_one 15 hps rfl (by kernel_rfl) rfl (wp_next (fun K hK => ?_))
          go_simp
          with_reducible refine (law_Bytes _ q { base := 32, cap := 16384, b := y } va HVA.out).mono ?_
          rintro e w9 ⟨v9, rfl, o9, b9⟩
          have kp := Keep.of_below (F := fun _ => False) b9
          obtain ⟨a9, c9, rfl, _, hb9⟩ := Sl.of_owned o9
          have HB9 := Lib.hid (show Bs w9 a9 y.length c9 y from hb9)
          clear o9 b9 hb9
          refine hK _ _ (flow_step kk ?_ ?_)
          · first | exact kp | exact Keep.refl _ _ | exact (Keep.refl _ _).alloc _
          clear kk hK; try clear kp
          intro kk
          refine flowe_take 16 (v := ?_) (a' := ?_) hps rfl (by kernel_rfl) rfl ?_ ?_ ?_
          rotate_left 2
          · intro w' hk; have hs := run_s w' (HB9.out.keep hk (fun _ _ h => h)); go_simp; try rfl
          · simp only [Act.put, List.setIfInBounds_toArray, List.set_cons_succ, List.set_cons_zero]; try rfl
          refine flowe_take 19 (v := ?_) (a' := ?_) hps rfl (by kernel_rfl) rfl ?_ ?_ ?_
          rotate_left 2
          · intro w' hk; go_simp; try rfl
          · simp only [Act.put, List.setIfInBounds_toArray, List.set_cons_succ, List.set_cons_zero]; try rfl
          refine flowe_take 20 (v := ?_) (a' := ?_) hps rfl (by kernel_rfl) rfl ?_ ?_ ?_
          rotate_left 2
          · intro w' hk; go_simp; try rfl
          · simp only [Act.put, List.setIfInBounds_toArray, List.set_cons_succ, List.set_cons_zero]; try rfl
          refine flowe_done hps (by kernel_rfl) ?_
          have H9 := Lib.hid (H8.out.below (kk.below (Nat.le_refl _) fun _ _ h => h))
          clear kk
          go_wp2
          exact ⟨FIN.out _ H9.out, by simp [intOf]; omega⟩
      | true =>
        have hz := (isSize_iff _).1 hsz
        obtain ⟨S, hS⟩ := Int.eq_ofNat_of_zero_le (show 0 ≤ size by omega)
        subst hS
        have hcs := cls_size hsz
        have KC : Hid (∀ w, _) := Lib.hid fun w => ref_Class w (S : Int) (by omega) (by omega)
        obtain ⟨C, hC⟩ : ∃ C : Nat, cls S = C := ⟨(cls S).toNat, by omega⟩
        rw [hC] at KC
        have hCn : decide ((C : Int) < 0) = false := decide_eq_false (by omega)
        have HSZ := Lib.hid hsz
        clear hsz hcs hC hz
        cases hF : findB b S with
        | none =>
          go_wp2_with fail
          have kc := fit_Find HS.out (Nat.lt_succ_self 1) S HSZ.out
          rw [hF, show fndV none = .tuple #[.int .i64 0, .iface 183 (.int .i64 3)] from rfl] at kc
          with_reducible refine kc.mono ?_
          clear kc
          rintro e w5 ⟨rfl, t5⟩
          have T5 := Lib.hid t5
          clear t5
          go_wp2_with fail
          have kc := KC.out w5
          with_reducible refine kc.mono ?_
          clear kc
          rintro e w' ⟨rfl, rfl⟩
          go_wp2_with fail
          have kc := rl_Find T5.out (i := 0) rfl HBM.out S HSZ.out
          rw [hF, show fnrV none = .tuple #[.int .i64 0, .bool false] from rfl] at kc
          with_reducible refine kc.mono ?_
          clear kc
          rintro e w6 ⟨rfl, t6⟩
          have T6 := Lib.hid t6
          clear t6
          clear hF
          go_wp2_with fail
          have kc := code_of w6 3 (by decide) (by decide)
          with_reducible refine kc.mono ?_
          clear kc
          rintro e w' ⟨rfl, rfl⟩
          go_wp2_with fail
          have kc := HKR.out _ T6.out
          with_reducible refine kc.mono ?_
          clear kc
          rintro e w7 ⟨rfl, t7⟩
          have T7 := Lib.hid t7
          clear t7
          go_wp2_with fail
          have kc := rl_Rebuild T7.out (i := 0) rfl HBM.out
          with_reducible refine kc.mono ?_
          clear kc
          rintro e w8 ⟨v8', rfl, t8⟩
          have T8 := Lib.hid t8
          clear t8
          obtain ⟨a8, c8, rfl, h8⟩ := T8.out
          rw [HRL.out, HB.out] at h8
          have H8 := Lib.hid (show St w.heap.size w w8 (AsO a8 N c8 ((rebuildB b).getD b) :: AsO a N c b :: [ArT q ⟨32, 16384, (rebuildB b).getD b⟩]) from h8)
          clear h8 T8
          have fin : ∀ w', St w.heap.size w w' (AsO a8 N c8 ((rebuildB b).getD b) :: AsO a N c b :: [ArT q ⟨32, 16384, (rebuildB b).getD b⟩]) → ∃ (k_1 : Nat) (b_1 : List UInt8) (a_1 : Option Addr) (c_1 : Nat), k_1 ≤ 2 ∧ Value.int .i64 ((k + 1 : Nat) : Int) = .int .i64 k_1 ∧ b_1.length = N ∧ Value.slice a8 N c8 = .slice a_1 N c_1 ∧ St w.heap.size w w' [AsO a_1 N c_1 b_1, ArT q ⟨32, 16384, b_1⟩] :=
            fun w' h => ⟨k + 1, _, a8, c8, by omega, rfl, by rw [HRL.out, HB.out], rfl, h.drop2⟩
          have FIN := Lib.hid fin
          have HYL := Lib.hid (show ((rebuildB b).getD b).length = N by rw [HRL.out, HB.out])
          clear fin
          rw [HYL.out]
          obtain ⟨y, hy⟩ : ∃ y, y = (rebuildB b).getD b := ⟨_, rfl⟩
          rw [← hy] at H8 FIN HYL
          clear hy
          obtain ⟨va, hva⟩ := H8.out.drew.ar (i := 2) rfl
          have HVA := Lib.hid (show ArA _ q { base := 32, cap := 16384, b := y } va from hva)
          have HB3 := Lib.hid (H8.out.drew.as (i := 0) rfl)
          clear hva
          cases hR : rebuildB b with
          | none =>
            rw [show errP none = .iface 183 (.int .i64 3) from rfl, show (none : Option (List UInt8)).isSome = false from rfl]
            clear hR
            go_wp2
            refine flowe_begin (F := fun _ => False) hmixed 21 rfl (by repeat (first | with_reducible refine ps_then ?_ | with_reducible refine ps_block ?_ | with_reducible exact ps_body | refine ps_then ?_ | refine ps_block ?_ | exact ps_body)) (fun hps => ?_)
            simp only [List.replicate]
            have kk := (Keep.refl (fun _ => False) (w8)).drew
            refine flowe_take 0 (v := ?_) (a' := ?_) hps rfl (by kernel_rfl) rfl ?_ ?_ ?_
            rotate_left 2
            · intro w' hk; go_simp; try rfl
            · simp only [Act.put, List.setIfInBounds_toArray, List.set_cons_succ, List.set_cons_zero]; try rfl
            refine flowe_take 1 (v := ?_) (a' := ?_) hps rfl (by kernel_rfl) rfl ?_ ?_ ?_
            rotate_left 2
            · intro w' hk; go_simp; try rfl
            · simp only [Act.put, List.setIfInBounds_toArray, List.set_cons_succ, List.set_cons_zero]; try rfl
            refine flowe_take 2 (v := ?_) (a' := ?_) hps rfl (by kernel_rfl) rfl ?_ ?_ ?_
            rotate_left 2
            · intro w' hk; go_simp; try rfl
            · simp only [Act.put, List.setIfInBounds_toArray, List.set_cons_succ, List.set_cons_zero]; try rfl
            refine flowe_take 3 (v := ?_) (a' := ?_) hps rfl (by kernel_rfl) rfl ?_ ?_ ?_
            rotate_left 2
            · intro w' hk; go_simp; try rfl
            · simp only [Act.put, List.setIfInBounds_toArray, List.set_cons_succ, List.set_cons_zero]; try rfl
            refine flowe_take 4 (v := ?_) (a' := ?_) hps rfl (by kernel_rfl) rfl ?_ ?_ ?_
            rotate_left 2
            · intro w' hk; go_simp; try rfl
            · simp only [Act.put, List.setIfInBounds_toArray, List.set_cons_succ, List.set_cons_zero]; try rfl
            refine flowe_take 5 (v := ?_) (a' := ?_) hps rfl (by kernel_rfl) rfl ?_ ?_ ?_
            rotate_left 2
            · intro w' hk; go_simp; try rfl
            · simp only [Act.put, List.setIfInBounds_toArray, List.set_cons_succ, List.set_cons_zero]; try rfl
            refine flowe_take 6 (v := ?_) (a' := ?_) hps rfl (by kernel_rfl) rfl ?_ ?_ ?_
            rotate_left 2
            · intro w' hk; go_simp; try rfl
            · simp only [Act.put, List.setIfInBounds_toArray, List.set_cons_succ, List.set_cons_zero]; try rfl
            refine flowe_take 7 (v := ?_) (a' := ?_) hps rfl (by kernel_rfl) rfl ?_ ?_ ?_
            rotate_left 2
            · intro w' hk; go_simp; try rfl
            · simp only [Act.put, List.setIfInBounds_toArray, List.set_cons_succ, List.set_cons_zero]; try rfl
            refine flowe_take 8 (v := ?_) (a' := ?_) hps rfl (by kernel_rfl) rfl ?_ ?_ ?_
            rotate_left 2
            · intro w' hk; go_simp; try rfl
            · simp only [Act.put, List.setIfInBounds_toArray, List.set_cons_succ, List.set_cons_zero]; try rfl
            refine flowe_one 9 hps rfl (by kernel_rfl) rfl (wp_next (fun K hK => ?_))
            go_simp
            with_reducible refine (code_of _ 3 (by decide) (by decide)).mono ?_
            rintro e w' ⟨rfl, rfl⟩
            refine hK _ _ (flow_step kk ?_ ?_)
            · first | exact kp | exact Keep.refl _ _ | exact (Keep.refl _ _).alloc _
            clear kk hK; try clear kp
            intro kk
            refine flowe_take 10 (v := ?_) (a' := ?_) hps rfl (by kernel_rfl) rfl ?_ ?_ ?_
            rotate_left 2
            · intro w' hk; go_simp; try rfl
            · simp only [Act.put, List.setIfInBounds_toArray, List.set_cons_succ, List.set_cons_zero]; try rfl
            refine flowe_take 11 (v := ?_) (a' := ?_) hps rfl (by kernel_rfl) rfl ?_ ?_ ?_
            rotate_left 2
            · intro w' hk; go_simp; try rfl
            · simp only [Act.put, List.setIfInBounds_toArray, List.set_cons_succ, List.set_cons_zero]; try rfl
            refine flowe_take 12 (v := ?_) (a' := ?_) hps rfl (by kernel_rfl) rfl ?_ ?_ ?_
            rotate_left 2
            · intro w' hk; go_simp; try rfl
            · simp only [Act.put, List.setIfInBounds_toArray, List.set_cons_succ, List.set_cons_zero]; try rfl
            refine flowe_take 13 (v := ?_) (a' := ?_) hps rfl (by kernel_rfl) rfl ?_ ?_ ?_
            rotate_left 2
            · intro w' hk; go_simp; try rfl
            · simp only [Act.put, List.setIfInBounds_toArray, List.set_cons_succ, List.set_cons_zero]; try rfl
            refine flowe_take 14 (v := ?_) (a' := ?_) hps rfl (by kernel_rfl) rfl ?_ ?_ ?_
            rotate_left 2
            · intro w' hk; go_simp; try rfl
            · simp only [Act.put, List.setIfInBounds_toArray, List.set_cons_succ, List.set_cons_zero]; try rfl
            refine flowe_take 17 (v := ?_) (a' := ?_) hps rfl (by kernel_rfl) rfl ?_ ?_ ?_
            rotate_left 2
            · intro w' hk; go_simp; try rfl
            · simp only [Act.put, List.setIfInBounds_toArray, List.set_cons_succ, List.set_cons_zero]; try rfl
            refine flowe_take 18 (v := ?_) (a' := ?_) hps rfl (by kernel_rfl) rfl ?_ ?_ ?_
            rotate_left 2
            · intro w' hk; have hs := run_s w' (HB3.out.keep hk (fun _ _ h => h)); go_simp; try rfl
            · simp only [Act.put, List.setIfInBounds_toArray, List.set_cons_succ, List.set_cons_zero]; try rfl
            refine flowe_one 15 hps rfl (by kernel_rfl) rfl (wp_next (fun K hK => ?_))
            go_simp
            with_reducible refine (law_Bytes _ q { base := 32, cap := 16384, b := y } va HVA.out).mono ?_
            rintro e w9 ⟨v9, rfl, o9, b9⟩
            have kp := Keep.of_below (F := fun _ => False) b9
            obtain ⟨a9, c9, rfl, _, hb9⟩ := Sl.of_owned o9
            have HB9 := Lib.hid (show Bs w9 a9 y.length c9 y from hb9)
            clear o9 b9 hb9
            refine hK _ _ (flow_step kk ?_ ?_)
            · first | exact kp | exact Keep.refl _ _ | exact (Keep.refl _ _).alloc _
            clear kk hK; try clear kp
            intro kk
            refine flowe_take 16 (v := ?_) (a' := ?_) hps rfl (by kernel_rfl) rfl ?_ ?_ ?_
            rotate_left 2
            · intro w' hk; have hs := run_s w' (HB9.out.keep hk (fun _ _ h => h)); go_simp; try rfl
            · simp only [Act.put, List.setIfInBounds_toArray, List.set_cons_succ, List.set_cons_zero]; try rfl
            refine flowe_take 19 (v := ?_) (a' := ?_) hps rfl (by kernel_rfl) rfl ?_ ?_ ?_
            rotate_left 2
            · intro w' hk; go_simp; try rfl
            · simp only [Act.put, List.setIfInBounds_toArray, List.set_cons_succ, List.set_cons_zero]; try rfl
            refine flowe_take 20 (v := ?_) (a' := ?_) hps rfl (by kernel_rfl) rfl ?_ ?_ ?_
            rotate_left 2
            · intro w' hk; go_simp; try rfl
            · simp only [Act.put, List.setIfInBounds_toArray, List.set_cons_succ, List.set_cons_zero]; try rfl
            refine flowe_done hps (by kernel_rfl) ?_
            have H9 := Lib.hid (H8.out.below (kk.below (Nat.le_refl _) fun _ _ h => h))
            clear kk
            go_wp2
            exact ⟨FIN.out _ H9.out, by simp [intOf]; omega⟩
          | some y2 =>
            rw [show errP (some y2) = .nilIface from rfl, show (some y2).isSome = true from rfl]
            clear hR
            go_wp2
            refine flowe_begin (F := fun _ => False) hmixed 21 rfl (by repeat (first | with_reducible refine ps_then ?_ | with_reducible refine ps_block ?_ | with_reducible exact ps_body | refine ps_then ?_ | refine ps_block ?_ | exact ps_body)) (fun hps => ?_)
            simp only [List.replicate]
            have kk := (Keep.refl (fun _ => False) (w8)).drew
            refine flowe_take 0 (v := ?_) (a' := ?_) hps rfl (by kernel_rfl) rfl ?_ ?_ ?_
            rotate_left 2
            · intro w' hk; go_simp; try rfl
            · simp only [Act.put, List.setIfInBounds_toArray, List.set_cons_succ, List.set_cons_zero]; try rfl
            refine flowe_take 1 (v := ?_) (a' := ?_) hps rfl (by kernel_rfl) rfl ?_ ?_ ?_
            rotate_left 2
            · intro w' hk; go_simp; try rfl
            · simp only [Act.put, List.setIfInBounds_toArray, List.set_cons_succ, List.set_cons_zero]; try rfl
            refine flowe_take 2 (v := ?_) (a' := ?_) hps rfl (by kernel_rfl) rfl ?_ ?_ ?_
            rotate_left 2
            · intro w' hk; go_simp; try rfl
            · simp only [Act.put, List.setIfInBounds_toArray, List.set_cons_succ, List.set_cons_zero]; try rfl
            refine flowe_take 3 (v := ?_) (a' := ?_) hps rfl (by kernel_rfl) rfl ?_ ?_ ?_
            rotate_left 2
            · intro w' hk; go_simp; try rfl
            · simp only [Act.put, List.setIfInBounds_toArray, List.set_cons_succ, List.set_cons_zero]; try rfl
            refine flowe_take 4 (v := ?_) (a' := ?_) hps rfl (by kernel_rfl) rfl ?_ ?_ ?_
            rotate_left 2
            · intro w' hk; go_simp; try rfl
            · simp only [Act.put, List.setIfInBounds_toArray, List.set_cons_succ, List.set_cons_zero]; try rfl
            refine flowe_take 5 (v := ?_) (a' := ?_) hps rfl (by kernel_rfl) rfl ?_ ?_ ?_
            rotate_left 2
            · intro w' hk; go_simp; try rfl
            · simp only [Act.put, List.setIfInBounds_toArray, List.set_cons_succ, List.set_cons_zero]; try rfl
            refine flowe_take 6 (v := ?_) (a' := ?_) hps rfl (by kernel_rfl) rfl ?_ ?_ ?_
            rotate_left 2
            · intro w' hk; go_simp; try rfl
            · simp only [Act.put, List.setIfInBounds_toArray, List.set_cons_succ, List.set_cons_zero]; try rfl
            refine flowe_take 7 (v := ?_) (a' := ?_) hps rfl (by kernel_rfl) rfl ?_ ?_ ?_
            rotate_left 2
            · intro w' hk; go_simp; try rfl
            · simp only [Act.put, List.setIfInBounds_toArray, List.set_cons_succ, List.set_cons_zero]; try rfl
            refine flowe_skip 8 (a' := ?_) hps rfl (by kernel_rfl) rfl ?_ ?_
            rotate_left 1
            · simp only [Act.put, List.setIfInBounds_toArray, List.set_cons_succ, List.set_cons_zero]; try rfl
            refine flowe_skip 9 (a' := ?_) hps rfl (by kernel_rfl) rfl ?_ ?_
            rotate_left 1
            · simp only [Act.put, List.setIfInBounds_toArray, List.set_cons_succ, List.set_cons_zero]; try rfl
            refine flowe_skip 10 (a' := ?_) hps rfl (by kernel_rfl) rfl ?_ ?_
            rotate_left 1
            · simp only [Act.put, List.setIfInBounds_toArray, List.set_cons_succ, List.set_cons_zero]; try rfl
            refine flowe_take 11 (v := ?_) (a' := ?_) hps rfl (by kernel_rfl) rfl ?_ ?_ ?_
            rotate_left 2
            · intro w' hk; go_simp; try rfl
            · simp only [Act.put, List.setIfInBounds_toArray, List.set_cons_succ, List.set_cons_zero]; try rfl
            refine flowe_take 12 (v := ?_) (a' := ?_) hps rfl (by kernel_rfl) rfl ?_ ?_ ?_
            rotate_left 2
            · intro w' hk; go_simp; try rfl
            · simp only [Act.put, List.setIfInBounds_toArray, List.set_cons_succ, List.set_cons_zero]; try rfl
            refine flowe_take 13 (v := ?_) (a' := ?_) hps rfl (by kernel_rfl) rfl ?_ ?_ ?_
            rotate_left 2
            · intro w' hk; go_simp; try rfl
            · simp only [Act.put, List.setIfInBounds_toArray, List.set_cons_succ, List.set_cons_zero]; try rfl
            refine flowe_take 14 (v := ?_) (a' := ?_) hps rfl (by kernel_rfl) rfl ?_ ?_ ?_
            rotate_left 2
            · intro w' hk; go_simp; try rfl
            · simp only [Act.put, List.setIfInBounds_toArray, List.set_cons_succ, List.set_cons_zero]; try rfl
            refine flowe_take 17 (v := ?_) (a' := ?_) hps rfl (by kernel_rfl) rfl ?_ ?_ ?_
            rotate_left 2
            · intro w' hk; go_simp; try rfl
            · simp only [Act.put, List.setIfInBounds_toArray, List.set_cons_succ, List.set_cons_zero]; try rfl
            refine flowe_take 18 (v := ?_) (a' := ?_) hps rfl (by kernel_rfl) rfl ?_ ?_ ?_
            rotate_left 2
            · intro w' hk; have hs := run_s w' (HB3.out.keep hk (fun _ _ h => h)); go_simp; try rfl
            · simp only [Act.put, List.setIfInBounds_toArray, List.set_cons_succ, List.set_cons_zero]; try rfl
            refine flowe_one 15 hps rfl (by kernel_rfl) rfl (wp_next (fun K hK => ?_))
            go_simp
            with_reducible refine (law_Bytes _ q { base := 32, cap := 16384, b := y } va HVA.out).mono ?_
            rintro e w9 ⟨v9, rfl, o9, b9⟩
            have kp := Keep.of_below (F := fun _ => False) b9
            obtain ⟨a9, c9, rfl, _, hb9⟩ := Sl.of_owned o9
            have HB9 := Lib.hid (show Bs w9 a9 y.length c9 y from hb9)
            clear o9 b9 hb9
            refine hK _ _ (flow_step kk ?_ ?_)
            · first | exact kp | exact Keep.refl _ _ | exact (Keep.refl _ _).alloc _
            clear kk hK; try clear kp
            intro kk
            refine flowe_take 16 (v := ?_) (a' := ?_) hps rfl (by kernel_rfl) rfl ?_ ?_ ?_
            rotate_left 2
            · intro w' hk; have hs := run_s w' (HB9.out.keep hk (fun _ _ h => h)); go_simp; try rfl
            · simp only [Act.put, List.setIfInBounds_toArray, List.set_cons_succ, List.set_cons_zero]; try rfl
            refine flowe_take 19 (v := ?_) (a' := ?_) hps rfl (by kernel_rfl) rfl ?_ ?_ ?_
            rotate_left 2
            · intro w' hk; go_simp; try rfl
            · simp only [Act.put, List.setIfInBounds_toArray, List.set_cons_succ, List.set_cons_zero]; try rfl
            refine flowe_take 20 (v := ?_) (a' := ?_) hps rfl (by kernel_rfl) rfl ?_ ?_ ?_
            rotate_left 2
            · intro w' hk; go_simp; try rfl
            · simp only [Act.put, List.setIfInBounds_toArray, List.set_cons_succ, List.set_cons_zero]; try rfl
            refine flowe_done hps (by kernel_rfl) ?_
            have H9 := Lib.hid (H8.out.below (kk.below (Nat.le_refl _) fun _ _ h => h))
            clear kk
            go_wp2
            exact ⟨FIN.out _ H9.out, by simp [intOf]; omega⟩
        | some o =>
          go_wp2_with fail
          have kc := fit_Find HS.out (Nat.lt_succ_self 1) S HSZ.out
          rw [hF, show fndV (some o) = .tuple #[.int .i64 (o : Nat), .nilIface] from rfl] at kc
          with_reducible refine kc.mono ?_
          clear kc
          rintro e w5 ⟨rfl, t5⟩
          have T5 := Lib.hid t5
          clear t5
          go_wp2_with fail
          have kc := KC.out w5
          with_reducible refine kc.mono ?_
          clear kc
          rintro e w' ⟨rfl, rfl⟩
          go_wp2_with fail
          have kc := rl_Find T5.out (i := 0) rfl HBM.out S HSZ.out
          rw [hF, show fnrV (some o) = .tuple #[.int .i64 (o : Nat), .bool true] from rfl] at kc
          with_reducible refine kc.mono ?_
          clear kc
          rintro e w6 ⟨rfl, t6⟩
          have T6 := Lib.hid t6
          clear t6
          clear hF
          go_wp2_with fail
          have kc := HKR.out _ T6.out
          with_reducible refine kc.mono ?_
          clear kc
          rintro e w7 ⟨rfl, t7⟩
          have T7 := Lib.hid t7
          clear t7
          go_wp2_with fail
          have kc := rl_Rebuild T7.out (i := 0) rfl HBM.out
          with_reducible refine kc.mono ?_
          clear kc
          rintro e w8 ⟨v8', rfl, t8⟩
          have T8 := Lib.hid t8
          clear t8
          obtain ⟨a8, c8, rfl, h8⟩ := T8.out
          rw [HRL.out, HB.out] at h8
          have H8 := Lib.hid (show St w.heap.size w w8 (AsO a8 N c8 ((rebuildB b).getD b) :: AsO a N c b :: [ArT q ⟨32, 16384, (rebuildB b).getD b⟩]) from h8)
          clear h8 T8
          have fin : ∀ w', St w.heap.size w w' (AsO a8 N c8 ((rebuildB b).getD b) :: AsO a N c b :: [ArT q ⟨32, 16384, (rebuildB b).getD b⟩]) → ∃ (k_1 : Nat) (b_1 : List UInt8) (a_1 : Option Addr) (c_1 : Nat), k_1 ≤ 2 ∧ Value.int .i64 ((k + 1 : Nat) : Int) = .int .i64 k_1 ∧ b_1.length = N ∧ Value.slice a8 N c8 = .slice a_1 N c_1 ∧ St w.heap.size w w' [AsO a_1 N c_1 b_1, ArT q ⟨32, 16384, b_1⟩] :=
            fun w' h => ⟨k + 1, _, a8, c8, by omega, rfl, by rw [HRL.out, HB.out], rfl, h.drop2⟩
          have FIN := Lib.hid fin
          have HYL := Lib.hid (show ((rebuildB b).getD b).length = N by rw [HRL.out, HB.out])
          clear fin
          rw [HYL.out]
          obtain ⟨y, hy⟩ : ∃ y, y = (rebuildB b).getD b := ⟨_, rfl⟩
          rw [← hy] at H8 FIN HYL
          clear hy
          obtain ⟨va, hva⟩ := H8.out.drew.ar (i := 2) rfl
          have HVA := Lib.hid (show ArA _ q { base := 32, cap := 16384, b := y } va from hva)
          have HB3 := Lib.hid (H8.out.drew.as (i := 0) rfl)
          clear hva
          cases hR : rebuildB b with
          | none =>
            rw [show errP none = .iface 183 (.int .i64 3) from rfl, show (none : Option (List UInt8)).isSome = false from rfl]
            clear hR
            go_wp2
            refine flowe_begin (F := fun _ => False) hmixed 21 rfl (by repeat (first | with_reducible refine ps_then ?_ | with_reducible refine ps_block ?_ | with_reducible exact ps_body | refine ps_then ?_ | refine ps_block ?_ | exact ps_body)) (fun hps => ?_)
            simp only [List.replicate]
            have kk := (Keep.refl (fun _ => False) (w8)).drew
            refine flowe_take 0 (v := ?_) (a' := ?_) hps rfl (by kernel_rfl) rfl ?_ ?_ ?_
            rotate_left 2
            · intro w' hk; go_simp; try rfl
            · simp only [Act.put, List.setIfInBounds_toArray, List.set_cons_succ, List.set_cons_zero]; try rfl
            refine flowe_take 1 (v := ?_) (a' := ?_) hps rfl (by kernel_rfl) rfl ?_ ?_ ?_
            rotate_left 2
            · intro w' hk; go_simp; try rfl
            · simp only [Act.put, List.setIfInBounds_toArray, List.set_cons_succ, List.set_cons_zero]; try rfl
            refine flowe_take 2 (v := ?_) (a' := ?_) hps rfl (by kernel_rfl) rfl ?_ ?_ ?_
            rotate_left 2
            · intro w' hk; go_simp; try rfl
            · simp only [Act.put, List.setIfInBounds_toArray, List.set_cons_succ, List.set_cons_zero]; try rfl
            refine flowe_take 3 (v := ?_) (a' := ?_) hps rfl (by kernel_rfl) rfl ?_ ?_ ?_
            rotate_left 2
            · intro w' hk; go_simp; try rfl
            · simp only [Act.put, List.setIfInBounds_toArray, List.set_cons_succ, List.set_cons_zero]; try rfl
            refine flowe_take 4 (v := ?_) (a' := ?_) hps rfl (by kernel_rfl) rfl ?_ ?_ ?_
            rotate_left 2
            · intro w' hk; go_simp; try rfl
            · simp only [Act.put, List.setIfInBounds_toArray, List.set_cons_succ, List.set_cons_zero]; try rfl
            refine flowe_take 5 (v := ?_) (a' := ?_) hps rfl (by kernel_rfl) rfl ?_ ?_ ?_
            rotate_left 2
            · intro w' hk; go_simp; try rfl
            · simp only [Act.put, List.setIfInBounds_toArray, List.set_cons_succ, List.set_cons_zero]; try rfl
            refine flowe_take 6 (v := ?_) (a' := ?_) hps rfl (by kernel_rfl) rfl ?_ ?_ ?_
            rotate_left 2
            · intro w' hk; go_simp; try rfl
            · simp only [Act.put, List.setIfInBounds_toArray, List.set_cons_succ, List.set_cons_zero]; try rfl
            refine flowe_take 7 (v := ?_) (a' := ?_) hps rfl (by kernel_rfl) rfl ?_ ?_ ?_
            rotate_left 2
            · intro w' hk; go_simp; try rfl
            · simp only [Act.put, List.setIfInBounds_toArray, List.set_cons_succ, List.set_cons_zero]; try rfl
            refine flowe_take 8 (v := ?_) (a' := ?_) hps rfl (by kernel_rfl) rfl ?_ ?_ ?_
            rotate_left 2
            · intro w' hk; go_simp; try rfl
            · simp only [Act.put, List.setIfInBounds_toArray, List.set_cons_succ, List.set_cons_zero]; try rfl
            refine flowe_one 9 hps rfl (by kernel_rfl) rfl (wp_next (fun K hK => ?_))
            go_simp
            with_reducible refine (code_of _ 3 (by decide) (by decide)).mono ?_
            rintro e w' ⟨rfl, rfl⟩
            refine hK _ _ (flow_step kk ?_ ?_)
            · first | exact kp | exact Keep.refl _ _ | exact (Keep.refl _ _).alloc _
            clear kk hK; try clear kp
            intro kk
            refine flowe_take 10 (v := ?_) (a' := ?_) hps rfl (by kernel_rfl) rfl ?_ ?_ ?_
            rotate_left 2
            · intro w' hk; go_simp; try rfl
            · simp only [Act.put, List.setIfInBounds_toArray, List.set_cons_succ, List.set_cons_zero]; try rfl
            refine flowe_take 11 (v := ?_) (a' := ?_) hps rfl (by kernel_rfl) rfl ?_ ?_ ?_
            rotate_left 2
            · intro w' hk; go_simp; try rfl
            · simp only [Act.put, List.setIfInBounds_toArray, List.set_cons_succ, List.set_cons_zero]; try rfl
            refine flowe_take 12 (v := ?_) (a' := ?_) hps rfl (by kernel_rfl) rfl ?_ ?_ ?_
            rotate_left 2
            · intro w' hk; go_simp; try rfl
            · simp only [Act.put, List.setIfInBounds_toArray, List.set_cons_succ, List.set_cons_zero]; try rfl
            refine flowe_take 13 (v := ?_) (a' := ?_) hps rfl (by kernel_rfl) rfl ?_ ?_ ?_
            rotate_left 2
            · intro w' hk; go_simp; try rfl
            · simp only [Act.put, List.setIfInBounds_toArray, List.set_cons_succ, List.set_cons_zero]; try rfl
            refine flowe_take 14 (v := ?_) (a' := ?_) hps rfl (by kernel_rfl) rfl ?_ ?_ ?_
            rotate_left 2
            · intro w' hk; go_simp; try rfl
            · simp only [Act.put, List.setIfInBounds_toArray, List.set_cons_succ, List.set_cons_zero]; try rfl
            refine flowe_take 17 (v := ?_) (a' := ?_) hps rfl (by kernel_rfl) rfl ?_ ?_ ?_
            rotate_left 2
            · intro w' hk; go_simp; try rfl
            · simp only [Act.put, List.setIfInBounds_toArray, List.set_cons_succ, List.set_cons_zero]; try rfl
            refine flowe_take 18 (v := ?_) (a' := ?_) hps rfl (by kernel_rfl) rfl ?_ ?_ ?_
            rotate_left 2
            · intro w' hk; have hs := run_s w' (HB3.out.keep hk (fun _ _ h => h)); go_simp; try rfl
            · simp only [Act.put, List.setIfInBounds_toArray, List.set_cons_succ, List.set_cons_zero]; try rfl
            refine flowe_one 15 hps rfl (by kernel_rfl) rfl (wp_next (fun K hK => ?_))
            go_simp
            with_reducible refine (law_Bytes _ q { base := 32, cap := 16384, b := y } va HVA.out).mono ?_
            rintro e w9 ⟨v9, rfl, o9, b9⟩
            have kp := Keep.of_below (F := fun _ => False) b9
            obtain ⟨a9, c9, rfl, _, hb9⟩ := Sl.of_owned o9
            have HB9 := Lib.hid (show Bs w9 a9 y.length c9 y from hb9)
            clear o9 b9 hb9
            refine hK _ _ (flow_step kk ?_ ?_)
            · first | exact kp | exact Keep.refl _ _ | exact (Keep.refl _ _).alloc _
            clear kk hK; try clear kp
            intro kk
            refine flowe_take 16 (v := ?_) (a' := ?_) hps rfl (by kernel_rfl) rfl ?_ ?_ ?_
            rotate_left 2
            · intro w' hk; have hs := run_s w' (HB9.out.keep hk (fun _ _ h => h)); go_simp; try rfl
            · simp only [Act.put, List.setIfInBounds_toArray, List.set_cons_succ, List.set_cons_zero]; try rfl
            refine flowe_take 19 (v := ?_) (a' := ?_) hps rfl (by kernel_rfl) rfl ?_ ?_ ?_
            rotate_left 2
            · intro w' hk; go_simp; try rfl
            · simp only [Act.put, List.setIfInBounds_toArray, List.set_cons_succ, List.set_cons_zero]; try rfl
            refine flowe_take 20 (v := ?_) (a' := ?_) hps rfl (by kernel_rfl) rfl ?_ ?_ ?_
            rotate_left 2
            · intro w' hk; go_simp; try rfl
            · simp only [Act.put, List.setIfInBounds_toArray, List.set_cons_succ, List.set_cons_zero]; try rfl
            refine flowe_done hps (by kernel_rfl) ?_
            have H9 := Lib.hid (H8.out.below (kk.below (Nat.le_refl _) fun _ _ h => h))
            clear kk
            go_wp2
            exact ⟨FIN.out _ H9.out, by simp [intOf]; omega⟩
          | some y2 =>
            rw [show errP (some y2) = .nilIface from rfl, show (some y2).isSome = true from rfl]
            clear hR
            go_wp2
            refine flowe_begin (F := fun _ => False) hmixed 21 rfl (by repeat (first | with_reducible refine ps_then ?_ | with_reducible refine ps_block ?_ | with_reducible exact ps_body | refine ps_then ?_ | refine ps_block ?_ | exact ps_body)) (fun hps => ?_)
            simp only [List.replicate]
            have kk := (Keep.refl (fun _ => False) (w8)).drew
            refine flowe_take 0 (v := ?_) (a' := ?_) hps rfl (by kernel_rfl) rfl ?_ ?_ ?_
            rotate_left 2
            · intro w' hk; go_simp; try rfl
            · simp only [Act.put, List.setIfInBounds_toArray, List.set_cons_succ, List.set_cons_zero]; try rfl
            refine flowe_take 1 (v := ?_) (a' := ?_) hps rfl (by kernel_rfl) rfl ?_ ?_ ?_
            rotate_left 2
            · intro w' hk; go_simp; try rfl
            · simp only [Act.put, List.setIfInBounds_toArray, List.set_cons_succ, List.set_cons_zero]; try rfl
            refine flowe_take 2 (v := ?_) (a' := ?_) hps rfl (by kernel_rfl) rfl ?_ ?_ ?_
            rotate_left 2
            · intro w' hk; go_simp; try rfl
            · simp only [Act.put, List.setIfInBounds_toArray, List.set_cons_succ, List.set_cons_zero]; try rfl
            refine flowe_take 3 (v := ?_) (a' := ?_) hps rfl (by kernel_rfl) rfl ?_ ?_ ?_
            rotate_left 2
            · intro w' hk; go_simp; try rfl
            · simp only [Act.put, List.setIfInBounds_toArray, List.set_cons_succ, List.set_cons_zero]; try rfl
            refine flowe_take 4 (v := ?_) (a' := ?_) hps rfl (by kernel_rfl) rfl ?_ ?_ ?_
            rotate_left 2
            · intro w' hk; go_simp; try rfl
            · simp only [Act.put, List.setIfInBounds_toArray, List.set_cons_succ, List.set_cons_zero]; try rfl
            refine flowe_take 5 (v := ?_) (a' := ?_) hps rfl (by kernel_rfl) rfl ?_ ?_ ?_
            rotate_left 2
            · intro w' hk; go_simp; try rfl
            · simp only [Act.put, List.setIfInBounds_toArray, List.set_cons_succ, List.set_cons_zero]; try rfl
            refine flowe_take 6 (v := ?_) (a' := ?_) hps rfl (by kernel_rfl) rfl ?_ ?_ ?_
            rotate_left 2
            · intro w' hk; go_simp; try rfl
            · simp only [Act.put, List.setIfInBounds_toArray, List.set_cons_succ, List.set_cons_zero]; try rfl
            refine flowe_take 7 (v := ?_) (a' := ?_) hps rfl (by kernel_rfl) rfl ?_ ?_ ?_
            rotate_left 2
            · intro w' hk; go_simp; try rfl
            · simp only [Act.put, List.setIfInBounds_toArray, List.set_cons_succ, List.set_cons_zero]; try rfl
            refine flowe_skip 8 (a' := ?_) hps rfl (by kernel_rfl) rfl ?_ ?_
            rotate_left 1
            · simp only [Act.put, List.setIfInBounds_toArray, List.set_cons_succ, List.set_cons_zero]; try rfl
            refine flowe_skip 9 (a' := ?_) hps rfl (by kernel_rfl) rfl ?_ ?_
            rotate_left 1
            · simp only [Act.put, List.setIfInBounds_toArray, List.set_cons_succ, List.set_cons_zero]; try rfl
            refine flowe_skip 10 (a' := ?_) hps rfl (by kernel_rfl) rfl ?_ ?_
            rotate_left 1
            · simp only [Act.put, List.setIfInBounds_toArray, List.set_cons_succ, List.set_cons_zero]; try rfl
            refine flowe_take 11 (v := ?_) (a' := ?_) hps rfl (by kernel_rfl) rfl ?_ ?_ ?_
            rotate_left 2
            · intro w' hk; go_simp; try rfl
            · simp only [Act.put, List.setIfInBounds_toArray, List.set_cons_succ, List.set_cons_zero]; try rfl
            refine flowe_take 12 (v := ?_) (a' := ?_) hps rfl (by kernel_rfl) rfl ?_ ?_ ?_
            rotate_left 2
            · intro w' hk; go_simp; try rfl
            · simp only [Act.put, List.setIfInBounds_toArray, List.set_cons_succ, List.set_cons_zero]; try rfl
            refine flowe_take 13 (v := ?_) (a' := ?_) hps rfl (by kernel_rfl) rfl ?_ ?_ ?_
            rotate_left 2
            · intro w' hk; go_simp; try rfl
            · simp only [Act.put, List.setIfInBounds_toArray, List.set_cons_succ, List.set_cons_zero]; try rfl
            refine flowe_take 14 (v := ?_) (a' := ?_) hps rfl (by kernel_rfl) rfl ?_ ?_ ?_
            rotate_left 2
            · intro w' hk; go_simp; try rfl
            · simp only [Act.put, List.setIfInBounds_toArray, List.set_cons_succ, List.set_cons_zero]; try rfl
            refine flowe_take 17 (v := ?_) (a' := ?_) hps rfl (by kernel_rfl) rfl ?_ ?_ ?_
            rotate_left 2
            · intro w' hk; go_simp; try rfl
            · simp only [Act.put, List.setIfInBounds_toArray, List.set_cons_succ, List.set_cons_zero]; try rfl
            refine flowe_take 18 (v := ?_) (a' := ?_) hps rfl (by kernel_rfl) rfl ?_ ?_ ?_
            rotate_left 2
            · intro w' hk; have hs := run_s w' (HB3.out.keep hk (fun _ _ h => h)); go_simp; try rfl
            · simp only [Act.put, List.setIfInBounds_toArray, List.set_cons_succ, List.set_cons_zero]; try rfl
            refine flowe_one 15 hps rfl (by kernel_rfl) rfl (wp_next (fun K hK => ?_))
            go_simp
            with_reducible refine (law_Bytes _ q { base := 32, cap := 16384, b := y } va HVA.out).mono ?_
            rintro e w9 ⟨v9, rfl, o9, b9⟩
            have kp := Keep.of_below (F := fun _ => False) b9
            obtain ⟨a9, c9, rfl, _, hb9⟩ := Sl.of_owned o9
            have HB9 := Lib.hid (show Bs w9 a9 y.length c9 y from hb9)
            clear o9 b9 hb9
            refine hK _ _ (flow_step kk ?_ ?_)
            · first | exact kp | exact Keep.refl _ _ | exact (Keep.refl _ _).alloc _
            clear kk hK; try clear kp
            intro kk
            refine flowe_take 16 (v := ?_) (a' := ?_) hps rfl (by kernel_rfl) rfl ?_ ?_ ?_
            rotate_left 2
            · intro w' hk; have hs := run_s w' (HB9.out.keep hk (fun _ _ h => h)); go_simp; try rfl
            · simp only [Act.put, List.setIfInBounds_toArray, List.set_cons_succ, List.set_cons_zero]; try rfl
            refine flowe_take 19 (v := ?_) (a' := ?_) hps rfl (by kernel_rfl) rfl ?_ ?_ ?_
            rotate_left 2
            · intro w' hk; go_simp; try rfl
            · simp only [Act.put, List.setIfInBounds_toArray, List.set_cons_succ, List.set_cons_zero]; try rfl
            refine flowe_take 20 (v := ?_) (a' := ?_) hps rfl (by kernel_rfl) rfl ?_ ?_ ?_
            rotate_left 2
            · intro w' hk; go_simp; try rfl
            · simp only [Act.put, List.setIfInBounds_toArray, List.set_cons_succ, List.set_cons_zero]; try rfl
            refine flowe_done hps (by kernel_rfl) ?_
            have H9 := Lib.hid (H8.out.below (kk.below (Nat.le_refl _) fun _ _ h => h))
            clear kk
            go_wp2
            exact ⟨FIN.out _ H9.out, by simp [intOf]; omega⟩
    · obtain rfl : k = 2 := by omega
      have d2 : decide (((2 : Nat) : Int) < 2) = false := by decide
      have B9 := Lib.hid hS.end
      clear hS
      go_wp2
      go_ret
      exact ⟨rfl, B9.out⟩
end Go.Proofs.Ytjijniillehfoaa

/- A map whose keys are places (two numbers), each told true: rules for walks. -/
namespace Go.Own
open Go Go.WideMaps
theorem key_gen (P : Program) (k t : TypeId) (fs : Array Field) (hu : P.underlying k = some (.struct fs)) (ht : P.underlying t = some (.int .i64)) (hk : P.keyType k = true) (hc : P.cellsOf k = 2) (hct : P.cellsOf t = 1) (hsz : ∃ n, P.types.size = n + 1)
    (f1 f2 : Field) (hfs : fs = #[f1, f2]) (ht1 : f1.type = t) (ht2 : f2.type = t) (ho1 : f1.offset = 0) (ho2 : f2.offset = 1) (hname : #[f1, f2].all (·.name != "_") = true) (a b : Int) (wa : (Lit.int .i64 a).wf = true) (wb : (Lit.int .i64 b).wf = true) :
    ∃ kl, keyOf P k (.agg #[.int .i64 a, .int .i64 b]) = some kl := by
  obtain ⟨n, hn⟩ := hsz
  subst hfs
  refine ⟨.string (keyBytes [.int .i64 a, .int .i64 b]), ?_⟩
  unfold keyOf
  rw [hu]
  have e1 : ∀ x : Int, (Lit.int .i64 x).wf = true → P.keyLits (n + 1) t [.int .i64 x] = some [.int .i64 x] := fun x hx => by
    unfold Program.keyLits; rw [ht]; simp [hx]
  have e2 : P.keyLits (n + 2) k [.int .i64 a, .int .i64 b] = some [.int .i64 a, .int .i64 b] := by
    unfold Program.keyLits
    rw [hu]
    simp only [hc, List.length_cons, List.length_nil, hname, ht1, ht2, ho1, ho2, hct, List.drop_zero, List.take_succ_cons, List.take_zero, List.drop_succ_cons, List.mapM_cons, List.mapM_nil, e1 a wa, e1 b wb, and_self, if_true]
    rfl
  simp only [hk, Value.formed, hu, hc, hn, Value.cells, e2]
  rfl
end Go.Own
namespace Go.Proofs.Ytjijniillehfoaa
open Go Go.RowKit Go.Own Go.WideMaps
open Go.ChangeMaps (setBlock heap_setBlock_same heap_setBlock_other)
set_option linter.unusedVariables false
set_option maxRecDepth 100000
abbrev plT : TypeId := 237
abbrev mpT : TypeId := 232
theorem pl_row : (plT : TypeId) < Try.prog.types.size := of_decide_eq_true (by kernel_rfl)
theorem pl_wide : (match Try.prog.underlying plT with | some (.array _ _) | some (.struct _) => true | _ => false) = true := by kernel_rfl
theorem pl_law : KeyLaw Try.prog plT := deep_law_laid Facts.laidOut (m := 2) (by omega) pl_row (by kernel_rfl) pl_wide
def keyV (q : Nat × Nat) : Value := .agg #[.int .i64 (q.1 : Nat), .int .i64 (q.2 : Nat)]
theorem keyV_inj {p q : Nat × Nat} (h : keyV p = keyV q) : p = q := by
  unfold keyV at h
  simp only [Value.agg.injEq, Array.mk.injEq, List.cons.injEq, Value.int.injEq, true_and, and_true] at h
  exact Prod.ext (by omega) (by omega)
theorem pl_cells : Try.prog.cellsOf plT = 2 := by kernel_rfl
theorem int_cells : Try.prog.cellsOf 3 = 1 := by kernel_rfl
theorem pl_keyT : Try.prog.keyType plT = true := by kernel_rfl
theorem pl_sz : ∃ n, Try.prog.types.size = n + 1 := ⟨Try.prog.types.size - 1, (Nat.sub_add_cancel (Nat.lt_of_le_of_lt (Nat.zero_le _) pl_row)).symm⟩
theorem key_of (q : Nat × Nat) (h1 : q.1 ≤ 65536) (h2 : q.2 ≤ 65536) : ∃ kl, keyOf Try.prog plT (keyV q) = some kl := by
  have w1 : (Lit.int .i64 (q.1 : Nat)).wf = true := by simp [Lit.wf, IntKind.min, IntKind.max, IntKind.bits, IntKind.signed]; omega
  have w2 : (Lit.int .i64 (q.2 : Nat)).wf = true := by simp [Lit.wf, IntKind.min, IntKind.max, IntKind.bits, IntKind.signed]; omega
  exact key_gen Try.prog plT 3 _ Try.underlying237 Try.underlying3 pl_keyT pl_cells int_cells pl_sz _ _ rfl rfl rfl rfl rfl (by kernel_rfl) _ _ w1 w2
/-- Block b is a map with these keys, each with the value true. -/
def MpAt (w : World) (b : Nat) (ks : List (Nat × Nat)) : Prop := ∃ es clock, w.heap[b]? = some (.map es clock) ∧ es.toList.map (fun e => (e.key, e.val)) = ks.map (fun q => (keyV q, Value.bool true)) ∧ ∀ q ∈ ks, q.1 ≤ 65536 ∧ q.2 ≤ 65536
section
variable {w : World} {b : Nat} {ks : List (Nat × Nat)} {q : Nat × Nat}
theorem MpAt.lt (h : MpAt w b ks) : b < w.heap.size := by obtain ⟨es, c, hb, _⟩ := h; exact (Array.getElem?_eq_some_iff.1 hb).1
theorem MpAt.keep {F : Nat → Prop} {w' : World} (h : MpAt w b ks) (k : Keep F w w') (hf : ¬ F b) : MpAt w' b ks := by
  have hl := h.lt
  obtain ⟨es, c, hb, h2, h3⟩ := h
  exact ⟨es, c, (k.block b hl hf).trans hb, h2, h3⟩
theorem mp_keys {es : Array MapEntry} (h2 : es.toList.map (fun e => (e.key, e.val)) = ks.map (fun q => (keyV q, Value.bool true))) (h3 : ∀ q ∈ ks, q.1 ≤ 65536 ∧ q.2 ≤ 65536) : ∀ e ∈ es.toList, ∃ l, keyOf Try.prog plT e.key = some l := fun e he => by
  have : (e.key, e.val) ∈ ks.map (fun q => (keyV q, Value.bool true)) := by rw [← h2]; exact List.mem_map.2 ⟨e, he, rfl⟩
  obtain ⟨p, hp, e1⟩ := List.mem_map.1 this
  have e2 : keyV p = e.key := congrArg Prod.fst e1
  rw [← e2]
  exact key_of p (h3 p hp).1 (h3 p hp).2
theorem mp_find (w : World) {es : Array MapEntry} (h2 : es.toList.map (fun e => (e.key, e.val)) = ks.map (fun q => (keyV q, Value.bool true))) (h3 : ∀ q ∈ ks, q.1 ≤ 65536 ∧ q.2 ≤ 65536) (hq : q.1 ≤ 65536 ∧ q.2 ≤ 65536) :
    ((Instr.findKey plT (keyV q) es.toList).run Try.prog w = .ok none w ∧ q ∉ ks) ∨ ∃ j, (Instr.findKey plT (keyV q) es.toList).run Try.prog w = .ok (some (j, .bool true)) w ∧ ks[j]? = some q := by
  obtain ⟨kl, hkl⟩ := key_of q hq.1 hq.2
  rcases pl_law.find w hkl es.toList (mp_keys h2 h3) with ⟨f1, f2⟩ | ⟨j, e0, f1, f2, f3⟩
  · refine .inl ⟨f1, fun hm => ?_⟩
    have : (keyV q, Value.bool true) ∈ es.toList.map (fun e => (e.key, e.val)) := by rw [h2]; exact List.mem_map.2 ⟨q, hm, rfl⟩
    obtain ⟨e, he, e1⟩ := List.mem_map.1 this
    exact f2 e he (congrArg Prod.fst e1)
  · have hj : (es.toList.map (fun e => (e.key, e.val)))[j]? = some (e0.key, e0.val) := by rw [List.getElem?_map, f2]; rfl
    rw [h2, List.getElem?_map] at hj
    cases hkj : ks[j]? with
    | none => rw [hkj] at hj; cases hj
    | some p =>
      rw [hkj] at hj
      simp only [Option.map_some, Option.some.injEq, Prod.mk.injEq] at hj
      obtain ⟨hk, hv⟩ := hj
      rw [← hv] at f1
      rw [f3] at hk
      exact .inr ⟨j, f1, by rw [keyV_inj hk] at hkj; exact hkj⟩
theorem mp_zero (w : World) : (zeroValue 4).run Try.prog w = .ok (.bool false) w := by kernel_rfl
theorem mp_lookup (h : MpAt w b ks) (hq : q.1 ≤ 65536 ∧ q.2 ≤ 65536) : (Instr.lookup mpT (.map (some b)) (keyV q) false).run Try.prog w = .ok (.bool (decide (q ∈ ks))) w := by
  obtain ⟨es, c, hb, h2, h3⟩ := h
  obtain ⟨kl, hkl⟩ := key_of q hq.1 hq.2
  rcases mp_find w h2 h3 hq with ⟨f1, f2⟩ | ⟨j, f1, f2⟩
  · rw [decide_eq_false f2]
    simp [Instr.lookup, run_underlying Try.underlying232, MapKept.run_getObj_map hb, pl_law.check w _ hkl, f1, mp_zero, Result.andThen]
  · rw [decide_eq_true (List.mem_of_getElem? f2)]
    simp [Instr.lookup, run_underlying Try.underlying232, MapKept.run_getObj_map hb, pl_law.check w _ hkl, f1, Result.andThen]
theorem setBlock_keep {es es' : Array MapEntry} {c c' : Nat} (hb : w.heap[b]? = some (.map es c)) : Keep (· = b) w (setBlock w b (.map es' c')) :=
  ⟨rfl, rfl, rfl, by simp [setBlock], fun k _ hk => heap_setBlock_other hb _ hk⟩
theorem mp_update (h : MpAt w b ks) (hq : q.1 ≤ 65536 ∧ q.2 ≤ 65536) (hn : q ∉ ks) : ∃ w', (Instr.mapUpdate mpT (.map (some b)) (keyV q) (.bool true)).run Try.prog w = .ok () w' ∧ MpAt w' b (ks ++ [q]) ∧ Keep (· = b) w w' := by
  obtain ⟨es, c, hb, h2, h3⟩ := h
  obtain ⟨kl, hkl⟩ := key_of q hq.1 hq.2
  rcases mp_find w h2 h3 hq with ⟨f1, f2⟩ | ⟨j, f1, f2⟩
  · refine ⟨setBlock w b (.map (es.push ⟨keyV q, .bool true, c⟩) (c + 1)), ?_, ⟨es.push ⟨keyV q, .bool true, c⟩, c + 1, heap_setBlock_same hb _, ?_, fun p hp => ?_⟩, setBlock_keep hb⟩
    · simp [Instr.mapUpdate, run_underlying Try.underlying232, MapKept.run_getObj_map hb, pl_law.check w false hkl, f1, MapKept.run_setObj_map _ hb, Result.andThen, setBlock]
    · rw [Array.toList_push, List.map_append, List.map_append, h2]; rfl
    · rcases List.mem_append.1 hp with hp | hp
      · exact h3 p hp
      · rw [List.mem_singleton.1 hp]; exact hq
  · exact absurd (List.mem_of_getElem? f2) hn
theorem map_erase_filter {ks : List (Nat × Nat)} {j : Nat} (hn : ks.Nodup) (hj : ks[j]? = some q) : ks.eraseIdx j = ks.filter (· ≠ q) := by
  induction ks generalizing j with
  | nil => simp at hj
  | cons p r ih =>
    obtain ⟨h1, h2⟩ := List.nodup_cons.1 hn
    cases j with
    | zero =>
      simp only [List.getElem?_cons_zero, Option.some.injEq] at hj
      subst hj
      rw [List.eraseIdx_cons_zero, List.filter_cons_of_neg (by simp)]
      exact (List.filter_eq_self.2 fun x hx => by simp; rintro rfl; exact h1 hx).symm
    | succ j =>
      rw [List.getElem?_cons_succ] at hj
      have hpq : p ≠ q := fun e => h1 (e ▸ List.mem_of_getElem? hj)
      rw [List.eraseIdx_cons_succ, List.filter_cons_of_pos (by simpa using hpq), ih h2 hj]
theorem mp_delete (h : MpAt w b ks) (hq : q.1 ≤ 65536 ∧ q.2 ≤ 65536) (hn : ks.Nodup) (hm : q ∈ ks) (ty : TypeId) : ∃ w', (Builtin.delete_ #[mpT, plT] ty #[.map (some b), keyV q]).run Try.prog w = .ok (.tuple #[]) w' ∧ MpAt w' b (ks.filter (· ≠ q)) ∧ Keep (· = b) w w' := by
  obtain ⟨es, c, hb, h2, h3⟩ := h
  obtain ⟨kl, hkl⟩ := key_of q hq.1 hq.2
  rcases mp_find w h2 h3 hq with ⟨f1, f2⟩ | ⟨j, f1, f2⟩
  · exact absurd hm f2
  · have hjl : j < es.size := by
      have := congrArg List.length h2
      have h4 := (List.getElem?_eq_some_iff.1 f2).1
      simp at this; omega
    have hsub : (es.eraseIdxIfInBounds j).toList = es.toList.eraseIdx j := by
      unfold Array.eraseIdxIfInBounds
      rw [dif_pos hjl]; simp
    refine ⟨setBlock w b (.map (es.eraseIdxIfInBounds j) c), ?_, ⟨es.eraseIdxIfInBounds j, c, heap_setBlock_same hb _, ?_, fun p hp => h3 p ((List.mem_filter.1 hp).1)⟩, setBlock_keep hb⟩
    · simp [Builtin.delete_, run_underlying Try.underlying232, MapKept.run_getObj_map hb, pl_law.check w _ hkl, f1, MapKept.run_setObj_map _ hb, Result.andThen, setBlock]
    · rw [hsub, ← map_erase_filter hn f2, ChangeMaps.map_eraseIdx, h2, ChangeMaps.map_eraseIdx]
theorem mp_len (h : MpAt w b ks) (ty : TypeId) : (Builtin.len_ #[mpT] ty #[.map (some b)]).run Try.prog w = .ok (.int .i64 (ks.length : Nat)) w := by
  obtain ⟨es, c, hb, h2, h3⟩ := h
  have : es.size = ks.length := by have := congrArg List.length h2; simpa using this
  simp [Builtin.len_, run_underlying Try.underlying232, MapKept.run_getObj_map hb, goInt, Result.andThen, this]
end
/-- A map of places. -/
def MpO (b : Nat) (ks : List (Nat × Nat)) : Ob where
  m := true
  p := fun w F => MpAt w b ks ∧ F b ∧ ∀ k, F k → k < w.heap.size
  lt := fun h => h.2.2
  kept := fun {w w' F G} h k hd => ⟨h.1.keep k (hd b h.2.1), h.2.1, fun x hx => Nat.lt_of_lt_of_le (h.2.2 x hx) k.size⟩
section
variable {B : Nat} {w0 w : World} {l : List Ob} {i b : Nat} {ks : List (Nat × Nat)} {q : Nat × Nat}
theorem _root_.Go.Own.St.mp (h : St B w0 w l) (hi : l[i]? = some (MpO b ks)) : MpAt w b ks := by
  obtain ⟨F, h1, _⟩ := h.at hi
  exact h1.1
theorem _root_.Go.Own.St.mpTo (h : St B w0 w l) (hi : l[i]? = some (MpO b ks)) (w' : World) (ks' : List (Nat × Nat)) (hp : MpAt w' b ks') (k : Keep (· = b) w w') : St B w0 w' (l.set i (MpO b ks')) := by
  obtain ⟨F, ⟨h1, h2, h3⟩, _, _, h4⟩ := h.at hi
  exact h4 w' (fun x => x = b) _ rfl (k.mono fun x _ hx => by rw [hx]; exact h2) ⟨hp, rfl, fun x hx => by rw [hx]; exact hp.lt⟩ fun x hx => .inl (by rw [hx]; exact h2)
/-- 'map[place]bool{}'. -/
theorem mp_make (h : St B w0 w l) : St B w0 (w.alloc (.map #[] 0)) (MpO w.heap.size [] :: l) :=
  h.add (F := fun x => x = w.heap.size) ((Below.refl _ _).alloc (Nat.le_refl _) _) ⟨⟨#[], 0, heap_alloc_new w _, rfl, fun q hq => by cases hq⟩, rfl, fun x hx => by rw [hx]; simp⟩ fun x hx => by rw [hx]; exact Nat.le_refl _
section
variable {ops : Array Oper} {rest : List Oper} {o : Oper} {a : Act} {Q : Exit → Act → World → Prop} {K : Act → World → Prop}
theorem mp_update_at (h : St B w0 w l) (i : Nat) (hi : l[i]? = some (MpO b ks)) (m x v : Operand) (ho : o.op = .mapUpdate mpT m x v) (hm : a.eval m = .map (some b)) (hx : a.eval x = keyV q) (hv : a.eval v = .bool true)
    (hq : q.1 ≤ 65536 ∧ q.2 ≤ 65536) (hn : q ∉ ks) (hk : ∀ w', St B w0 w' (l.set i (MpO b (ks ++ [q]))) → K (a.put o.dst undef) w') : o.wp Try.prog a w K Q := by
  obtain ⟨w', hrun, h1, h2⟩ := mp_update (h.mp hi) hq hn
  unfold Oper.wp
  simp [execOp, ho, hm, hx, hv, hrun, Result.andThen]
  exact hk _ (h.mpTo hi w' _ h1 h2)
theorem mp_lookup_st (h : St B w0 w l) (i : Nat) (hi : l[i]? = some (MpO b ks)) (hgd : o.guard = none) (m x : Operand) (ho : o.op = .lookup mpT m x false) (hm : a.eval m = .map (some b)) (hx : a.eval x = keyV q)
    (hq : q.1 ≤ 65536 ∧ q.2 ≤ 65536) (hk : wpList Try.prog ops Q rest (a.put o.dst (.bool (decide (q ∈ ks)))) w) : wpList Try.prog ops Q (o :: rest) a w := by
  refine wpList_plain hgd fun K hK => ?_
  have hrun := mp_lookup (h.mp hi) hq
  unfold Oper.wp
  simp [execOp, ho, hm, hx, hrun, Result.andThen]
  exact hK _ _ hk
theorem mp_delete_st (h : St B w0 w l) (i : Nat) (hi : l[i]? = some (MpO b ks)) (hgd : o.guard = none) (m x : Operand) (ho : o.op = Op.call { callee := Callee.builtin Builtin.delete, args := #[m, x], argTypes := #[mpT, plT] }) (hm : a.eval m = .map (some b)) (hx : a.eval x = keyV q)
    (hq : q.1 ≤ 65536 ∧ q.2 ≤ 65536) (hnd : ks.Nodup) (hmem : q ∈ ks) (hk : ∀ w', St B w0 w' (l.set i (MpO b (ks.filter (· ≠ q)))) → wpList Try.prog ops Q rest (a.put o.dst (.tuple #[])) w') : wpList Try.prog ops Q (o :: rest) a w := by
  refine wpList_plain hgd fun K hK => ?_
  obtain ⟨w', hrun, h1, h2⟩ := mp_delete (h.mp hi) hq hnd hmem o.type
  unfold Oper.wp
  simp [execOp, ho, resolve, invoke, builtin, hm, hx, hrun, Result.andThen]
  exact hK _ _ (hk _ (h.mpTo hi w' _ h1 h2))
theorem mp_len_st (h : St B w0 w l) (i : Nat) (hi : l[i]? = some (MpO b ks)) (hgd : o.guard = none) (m : Operand) (ho : o.op = Op.call { callee := Callee.builtin Builtin.len, args := #[m], argTypes := #[mpT] }) (hm : a.eval m = .map (some b))
    (hk : wpList Try.prog ops Q rest (a.put o.dst (.int .i64 (ks.length : Nat))) w) : wpList Try.prog ops Q (o :: rest) a w := by
  refine wpList_plain hgd fun K hK => ?_
  have hrun := mp_len (h.mp hi) o.type
  unfold Oper.wp
  simp [execOp, ho, resolve, invoke, builtin, hm, hrun, Result.andThen]
  exact hK _ _ hk
end
end
end Go.Proofs.Ytjijniillehfoaa
