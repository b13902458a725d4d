/- Texts of the proof of 'AllocPlays', part 23: words on memory, contracts of functions, plain laws. No condition. -/
import Derived.Test.YtenbpbnffnodhaaMgAllocPlays1
import Derived.Test.YtenbpbnffnodhaaMgAllocPlays22
import Derived.ProofKit
import Derived.OpenShut
set_option linter.unusedSimpArgs false
set_option linter.unusedVariables false
/- Layer 12: what any deeds come to. -/
namespace Go.Own
open Go Go.RowKit
/-- A deed. -/
structure Dd where
  what : Int
  n : Int
  m : Int
  raw : Bool
def Dd.cells (d : Dd) : List Value := [.int .i64 d.what, .int .i64 d.n, .int .i64 d.m, .bool d.raw]
structure Dd.Ok (d : Dd) : Prop where
  what : -9223372036854775808 ≤ d.what ∧ d.what ≤ 9223372036854775807
  n : -9223372036854775808 ≤ d.n ∧ d.n ≤ 9223372036854775807
  m : -9223372036854775808 ≤ d.m ∧ d.m ≤ 9223372036854775807
abbrev shDd : Sh := .cons (.int .i64) (.cons (.int .i64) (.cons (.int .i64) (.cons .bool .nil)))
theorem rd_dds {w : World} {a : Option Addr} {n c : Nat} (h : Rd w (.sl shDd) [.slice a n c]) : ∃ ds : List Dd, Sl w a n c 4 (ds.map Dd.cells).flatten ∧ ds.length = n ∧ ∀ d ∈ ds, d.Ok := by
  obtain ⟨a', n', c', rows, he, hn, hr, hs⟩ := h
  cases he
  obtain ⟨ds, rfl, hd⟩ := exists_map (f := Dd.cells) (p := fun d => d.Ok) rows fun r hr' => by
    obtain ⟨_, x0, y0, rfl, _, ⟨v0, rfl, w0⟩, x1, y1, rfl, _, ⟨v1, rfl, w1⟩, x2, y2, rfl, _, ⟨v2, rfl, w2⟩, x3, y3, rfl, _, ⟨v3, rfl⟩, rfl⟩ := hr r hr'
    have w0 := wfI64 w0; have w1 := wfI64 w1; have w2 := wfI64 w2
    exact ⟨⟨v0, v1, v2, v3⟩, rfl, ⟨w0, w1, w2⟩⟩
  exact ⟨ds, hs, by simpa using hn, hd⟩
end Go.Own
namespace Go.Proofs.Ytenbpbnffnodhaa
open Go Go.RowKit Go.Own
set_option linter.unusedVariables false
set_option maxRecDepth 100000
theorem size_dd : (Try.prog.info? 145).map (·.size) = some 4 := by kernel_rfl
theorem dd_mid {w : World} {ops : Array Oper} {rest : List Oper} {o : Oper} {a : Act} {Q : Exit → Act → World → Prop} (hgd : Region.wanted o (yielded ops a.tmps) = true) (x : Operand) (ho : o.op = .load 145 x) (b o' : Nat) (hx : a.eval x = .pointer (some ⟨b, o', none⟩)) (y : Dd) (hr : w.rangeAt b o' y.cells)
    (hk : wpList Try.prog ops Q rest (a.put o.dst (.agg #[.int .i64 y.what, .int .i64 y.n, .int .i64 y.m, .bool y.raw])) w) : wpList Try.prog ops Q (o :: rest) a w :=
  at_wanted hgd fun _ hK => wp_load_mid 145 x ho b o' hx y.cells _ hr Try.underlying145 rfl size_dd (hK _ _ hk)
theorem base_ok {n : Int} (h0 : 0 ≤ n) (h1 : n ≤ 18446744073709551615) : ∃ bn : Nat, n % 288230376151711744 * 16 = bn ∧ bn % 16 = 0 ∧ bn ≤ 4611686018427387904 := by
  have k0 : 0 ≤ n % 288230376151711744 := Int.emod_nonneg _ (by decide)
  have k1 : n % 288230376151711744 < 288230376151711744 := Int.emod_lt_of_pos _ (by decide)
  exact ⟨(n % 288230376151711744 * 16).toNat, by omega, by omega, by omega⟩
set_option maxHeartbeats 16000000 in
theorem allocPlays (w : World) (base cap : Int) (la : Option Addr) (ln lc : Nat) (hb : (Lit.int .u64 base).wf = true) (hc : (Lit.int .i64 cap).wf = true) (hl : Rd w (.sl shDd) [.slice la ln lc]) :
    Calls Try.prog 20 #[.int .u64 base, .int .i64 cap, .slice la ln lc] w (lawOk w) := by
  obtain ⟨b0, b1⟩ := wfU64 hb
  obtain ⟨c0, c1⟩ := wfI64 hc
  obtain ⟨ds, s1, hn1, ok1⟩ := rd_dds hl
  subst hn1
  have p1 := s1.cap; have r1 := s1.room
  obtain ⟨bn, hbn, bn16, bnle⟩ := base_ok b0 b1
  have KB := Lib.hid (fun w => law_Base w base b0 b1)
  rw [hbn] at KB
  have S1 := Lib.hid s1; have OK := Lib.hid ok1; have HBN := Lib.hid (And.intro bn16 bnle)
  clear hb hc hl s1 ok1 hbn bn16 bnle b0 b1
  go_enter Try.func20, Try.ntmps20
  go_wp2_with fail
  refine (up12 w).mono ?_
  rintro e w1 ⟨rfl, bw1⟩
  have TX := Lib.hid ((St.start w).below bw1).drew
  clear bw1
  have hz : (List.replicate 184 (0 : UInt8)).length = 184 := List.length_replicate ..
  have hR := right0
  by_cases hmay : 1024 ≤ cap ∧ cap ≤ 16384
  · obtain ⟨cn, rfl⟩ := Int.eq_ofNat_of_zero_le (show 0 ≤ cap by omega)
    have e1 : decide ((cn : Int) ≥ 1024) = true := decide_eq_true (by omega)
    have e2 : decide ((cn : Int) ≤ 16384) = true := decide_eq_true (by omega)
    have HMAY := Lib.hid (show 1024 ≤ cn ∧ cn ≤ 16384 by omega)
    clear hmay c0 c1
    go_wp2_with fail
    refine flows_begin (S := fun _ => True) hmixed 6 rfl (by repeat (first | with_reducible refine ps_then ?_ | with_reducible refine ps_block ?_ | with_reducible exact ps_body | refine ps_then ?_ | refine ps_block ?_ | exact ps_body)) trivial (fun hps => ?_)
    simp only [List.replicate]
    generalize w1.drew = wx at TX ⊢
    refine flows_take 0 (v := ?_) (a' := ?_) hps rfl (by kernel_rfl) rfl ?_ ?_ ?_
    rotate_left 2
    · intro w' hk; go_simp; try rfl
    · simp only [Act.put, List.setIfInBounds_toArray, List.set_cons_succ, List.set_cons_zero]; try rfl
    refine flows_take 2 (v := ?_) (a' := ?_) hps rfl (by kernel_rfl) rfl ?_ ?_ ?_
    rotate_left 2
    · intro w' hk; go_simp; try rfl
    · simp only [Act.put, List.setIfInBounds_toArray, List.set_cons_succ, List.set_cons_zero]; try rfl
    refine flows_any [1, 3] hps (by kernel_rfl) (by simp) (fun i hi => ?_)
    simp only [List.mem_cons, List.not_mem_nil, or_false] at hi
    rcases hi with rfl | rfl
    · refine ⟨_, rfl, rfl, wp_next (fun K hK => ?_)⟩
      go_simp
      with_reducible refine (KB.out _).mono ?_
      rintro e w' ⟨rfl, rfl⟩
      have kp := trivial
      refine hK _ _ ⟨kp, ?_⟩
      clear kp hK
      refine flows_one 3 hps rfl (by kernel_rfl) rfl (wp_next (fun K hK => ?_))
      obtain ⟨g, W, hmk, t2⟩ := mk_st TX.out (184 : Int) 184 rfl (by decide)
      have TY := Lib.hid t2
      clear t2
      go_simp
      clear hmk
      have kp := trivial
      refine hK _ _ ⟨kp, ?_⟩
      clear kp hK
      refine flows_one 4 hps rfl (by kernel_rfl) rfl (wp_next (fun K hK => ?_))
      go_simp
      with_reducible refine (ar_Arena TY.out bn bn rfl cn cn rfl HBN.out.1 HBN.out.2 HMAY.out.1 HMAY.out.2 (some ⟨g, 0, none⟩) 184 184 (List.replicate 184 0) (TY.out.bsV (i := 0) rfl) (by rw [hz]; have := HMAY.out; omega)).mono ?_
      rintro e w2 ⟨p, rfl, t3⟩
      have T3 := Lib.hid (show St w.heap.size w w2 [ArT p ⟨bn, cn, List.replicate 184 0⟩] from t3.sub (List.Sublist.cons_cons _ (List.sublist_cons_self ..)))
      clear t3 TY
      have kp := trivial
      refine hK _ _ ⟨kp, ?_⟩
      clear kp hK
      refine flows_take 5 (v := ?_) (a' := ?_) hps rfl (by kernel_rfl) rfl ?_ ?_ ?_
      rotate_left 2
      · intro w' hk; go_simp; try rfl
      · simp only [Act.put, List.setIfInBounds_toArray, List.set_cons_succ, List.set_cons_zero]; try rfl
      refine flows_done hps (by kernel_rfl) ?_
      
      generalize List.replicate 184 (0 : UInt8) = z at *
      have HR := Lib.hid hR
      clear hR hz TX
      by_cases hbig : 100 < ds.length
      · have d1 : decide ((ds.length : Int) > 100) = true := decide_eq_true (by omega)
        have d2 : decide ((100 : Int) < (ds.length : Int)) = true := decide_eq_true (by omega)
        have d3 : decide (100 < ds.length) = true := decide_eq_true hbig
        have B3 := Lib.hid T3.out.end
        clear hbig
        go_wp2
        go_ret
        exact ⟨rfl, B3.out⟩
      have d1 : decide ((ds.length : Int) > 100) = false := decide_eq_false (by omega)
      have d2 : decide ((100 : Int) < (ds.length : Int)) = false := decide_eq_false (by omega)
      have d3 : decide (100 < ds.length) = false := decide_eq_false hbig
      clear hbig
      go_wp2_with fail
      have kc := rh_New T3.out (cn : Int)
      with_reducible refine kc.mono ?_
      clear kc
      rintro e w4 ⟨q, vl', ss', rfl, hs4, t4⟩
      have HS4 := Lib.hid hs4
      have T4 := Lib.hid t4
      clear hs4 t4
      go_wp2
      go_loopw [10] (fun v wr => ∃ (k : Nat) (m : List Bd) (ls : Ls) (b : List UInt8), k ≤ ds.length ∧ v = .int .i64 k ∧ AlS w.heap.size w wr q p bn cn [] m ls b) (fun v _ => ds.length - (intOf v).toNat)
      case atStart => exact ⟨0, [], _, _, Nat.zero_le _, rfl, _, _, _, _, HS4.out, HR.out, fine_nil, T4.out⟩
      case round =>
        obtain ⟨k, m, ls, b, hk, rfl, hA⟩ := hrel
        clear T4 T3 HS4 d1 d2 d3
        by_cases hlt : k < ds.length
        · have d4 : decide ((k : Int) < (ds.length : Int)) = true := decide_eq_true (by omega)
          have hSt : ∃ l, St w.heap.size w wr l := by obtain ⟨_, _, _, _, _, _, _, h⟩ := hA; exact ⟨_, h⟩
          obtain ⟨_, hS⟩ := hSt
          obtain ⟨bb, bo, rfl, hr⟩ := sl_at (hS.argSl S1.out) (fun d => rfl) (by decide) k hlt
          have hd := OK.out ds[k] (List.getElem_mem hlt)
          generalize ds[k] = d at *
          have HRG := Lib.hid hr; have HD := Lib.hid hd; have HA := Lib.hid hA
          clear hr hS hd hA
          go_wp2_with (refine dd_mid rfl _ rfl bb (bo + k * 4) rfl d HRG.out ?_)
          go_wp2_with fail
          have kc := law12_Do HA.out d.what d.n d.m d.raw HD.out.what HD.out.n HD.out.m
          with_reducible refine kc.mono ?_
          clear kc
          rintro e w5 ⟨rfl, m5', ls5', b5', vb5', vd5', vl5', ss5', hs5, hr5, hf5, t5⟩
          have HS5 := Lib.hid hs5
          have HR5 := Lib.hid hr5
          have HF5 := Lib.hid hf5
          have T5 := Lib.hid t5
          clear hs5 hr5 hf5 t5
          go_wp2_with fail
          have kc := law12_Same T5.out HS5.out HR5.out HF5.out.1 rfl
          with_reducible refine kc.mono ?_
          clear kc
          rintro e w6 ⟨rfl, t6⟩
          have T6 := Lib.hid t6
          clear t6
          go_wp2
          exact ⟨⟨k + 1, _, _, _, hlt, by go_num, _, _, _, _, HS5.out, HR5.out, HF5.out, T6.out⟩, by simp [intOf]; omega⟩
        · obtain rfl : k = ds.length := by omega
          have d4 : decide ((ds.length : Int) < (ds.length : Int)) = false := decide_eq_false (by omega)
          obtain ⟨_, _, _, _, _, _, _, h⟩ := hA
          have BZ := Lib.hid h.end
          clear h
          go_wp2
          go_ret
          exact ⟨rfl, BZ.out⟩
    · refine ⟨_, rfl, rfl, wp_next (fun K hK => ?_)⟩
      obtain ⟨g, W, hmk, t2⟩ := mk_st TX.out (184 : Int) 184 rfl (by decide)
      have TY := Lib.hid t2
      clear t2
      go_simp
      clear hmk
      have kp := trivial
      refine hK _ _ ⟨kp, ?_⟩
      clear kp hK
      refine flows_one 1 hps rfl (by kernel_rfl) rfl (wp_next (fun K hK => ?_))
      go_simp
      with_reducible refine (KB.out _).mono ?_
      rintro e w' ⟨rfl, rfl⟩
      have kp := trivial
      refine hK _ _ ⟨kp, ?_⟩
      clear kp hK
      refine flows_one 4 hps rfl (by kernel_rfl) rfl (wp_next (fun K hK => ?_))
      go_simp
      with_reducible refine (ar_Arena TY.out bn bn rfl cn cn rfl HBN.out.1 HBN.out.2 HMAY.out.1 HMAY.out.2 (some ⟨g, 0, none⟩) 184 184 (List.replicate 184 0) (TY.out.bsV (i := 0) rfl) (by rw [hz]; have := HMAY.out; omega)).mono ?_
      rintro e w2 ⟨p, rfl, t3⟩
      have T3 := Lib.hid (show St w.heap.size w w2 [ArT p ⟨bn, cn, List.replicate 184 0⟩] from t3.sub (List.Sublist.cons_cons _ (List.sublist_cons_self ..)))
      clear t3 TY
      have kp := trivial
      refine hK _ _ ⟨kp, ?_⟩
      clear kp hK
      refine flows_take 5 (v := ?_) (a' := ?_) hps rfl (by kernel_rfl) rfl ?_ ?_ ?_
      rotate_left 2
      · intro w' hk; go_simp; try rfl
      · simp only [Act.put, List.setIfInBounds_toArray, List.set_cons_succ, List.set_cons_zero]; try rfl
      refine flows_done hps (by kernel_rfl) ?_
      
      generalize List.replicate 184 (0 : UInt8) = z at *
      have HR := Lib.hid hR
      clear hR hz TX
      by_cases hbig : 100 < ds.length
      · have d1 : decide ((ds.length : Int) > 100) = true := decide_eq_true (by omega)
        have d2 : decide ((100 : Int) < (ds.length : Int)) = true := decide_eq_true (by omega)
        have d3 : decide (100 < ds.length) = true := decide_eq_true hbig
        have B3 := Lib.hid T3.out.end
        clear hbig
        go_wp2
        go_ret
        exact ⟨rfl, B3.out⟩
      have d1 : decide ((ds.length : Int) > 100) = false := decide_eq_false (by omega)
      have d2 : decide ((100 : Int) < (ds.length : Int)) = false := decide_eq_false (by omega)
      have d3 : decide (100 < ds.length) = false := decide_eq_false hbig
      clear hbig
      go_wp2_with fail
      have kc := rh_New T3.out (cn : Int)
      with_reducible refine kc.mono ?_
      clear kc
      rintro e w4 ⟨q, vl', ss', rfl, hs4, t4⟩
      have HS4 := Lib.hid hs4
      have T4 := Lib.hid t4
      clear hs4 t4
      go_wp2
      go_loopw [10] (fun v wr => ∃ (k : Nat) (m : List Bd) (ls : Ls) (b : List UInt8), k ≤ ds.length ∧ v = .int .i64 k ∧ AlS w.heap.size w wr q p bn cn [] m ls b) (fun v _ => ds.length - (intOf v).toNat)
      case atStart => exact ⟨0, [], _, _, Nat.zero_le _, rfl, _, _, _, _, HS4.out, HR.out, fine_nil, T4.out⟩
      case round =>
        obtain ⟨k, m, ls, b, hk, rfl, hA⟩ := hrel
        clear T4 T3 HS4 d1 d2 d3
        by_cases hlt : k < ds.length
        · have d4 : decide ((k : Int) < (ds.length : Int)) = true := decide_eq_true (by omega)
          have hSt : ∃ l, St w.heap.size w wr l := by obtain ⟨_, _, _, _, _, _, _, h⟩ := hA; exact ⟨_, h⟩
          obtain ⟨_, hS⟩ := hSt
          obtain ⟨bb, bo, rfl, hr⟩ := sl_at (hS.argSl S1.out) (fun d => rfl) (by decide) k hlt
          have hd := OK.out ds[k] (List.getElem_mem hlt)
          generalize ds[k] = d at *
          have HRG := Lib.hid hr; have HD := Lib.hid hd; have HA := Lib.hid hA
          clear hr hS hd hA
          go_wp2_with (refine dd_mid rfl _ rfl bb (bo + k * 4) rfl d HRG.out ?_)
          go_wp2_with fail
          have kc := law12_Do HA.out d.what d.n d.m d.raw HD.out.what HD.out.n HD.out.m
          with_reducible refine kc.mono ?_
          clear kc
          rintro e w5 ⟨rfl, m5', ls5', b5', vb5', vd5', vl5', ss5', hs5, hr5, hf5, t5⟩
          have HS5 := Lib.hid hs5
          have HR5 := Lib.hid hr5
          have HF5 := Lib.hid hf5
          have T5 := Lib.hid t5
          clear hs5 hr5 hf5 t5
          go_wp2_with fail
          have kc := law12_Same T5.out HS5.out HR5.out HF5.out.1 rfl
          with_reducible refine kc.mono ?_
          clear kc
          rintro e w6 ⟨rfl, t6⟩
          have T6 := Lib.hid t6
          clear t6
          go_wp2
          exact ⟨⟨k + 1, _, _, _, hlt, by go_num, _, _, _, _, HS5.out, HR5.out, HF5.out, T6.out⟩, by simp [intOf]; omega⟩
        · obtain rfl : k = ds.length := by omega
          have d4 : decide ((ds.length : Int) < (ds.length : Int)) = false := decide_eq_false (by omega)
          obtain ⟨_, _, _, _, _, _, _, h⟩ := hA
          have BZ := Lib.hid h.end
          clear h
          go_wp2
          go_ret
          exact ⟨rfl, BZ.out⟩
  · have HNO := Lib.hid (show ¬ ((bn : Int) % 16 = 0 ∧ (bn : Int) ≤ 4611686018427387904 ∧ 1024 ≤ cap ∧ cap ≤ 16384) from fun h => hmay h.2.2)
    by_cases e0 : 1024 ≤ cap
    · have e1 : decide (cap ≥ 1024) = true := decide_eq_true e0
      have e2 : decide (cap ≤ 16384) = false := decide_eq_false (fun h => hmay ⟨e0, h⟩)
      clear e0 hmay c0 c1 hR
      go_wp2_with fail
      refine flows_begin (S := fun _ => True) hmixed 6 rfl (by repeat (first | with_reducible refine ps_then ?_ | with_reducible refine ps_block ?_ | with_reducible exact ps_body | refine ps_then ?_ | refine ps_block ?_ | exact ps_body)) trivial (fun hps => ?_)
      simp only [List.replicate]
      generalize w1.drew = wx at TX ⊢
      refine flows_take 0 (v := ?_) (a' := ?_) hps rfl (by kernel_rfl) rfl ?_ ?_ ?_
      rotate_left 2
      · intro w' hk; go_simp; try rfl
      · simp only [Act.put, List.setIfInBounds_toArray, List.set_cons_succ, List.set_cons_zero]; try rfl
      refine flows_take 2 (v := ?_) (a' := ?_) hps rfl (by kernel_rfl) rfl ?_ ?_ ?_
      rotate_left 2
      · intro w' hk; go_simp; try rfl
      · simp only [Act.put, List.setIfInBounds_toArray, List.set_cons_succ, List.set_cons_zero]; try rfl
      refine flows_any [1, 3] hps (by kernel_rfl) (by simp) (fun i hi => ?_)
      simp only [List.mem_cons, List.not_mem_nil, or_false] at hi
      rcases hi with rfl | rfl
      · refine ⟨_, rfl, rfl, wp_next (fun K hK => ?_)⟩
        go_simp
        with_reducible refine (KB.out _).mono ?_
        rintro e w' ⟨rfl, rfl⟩
        have kp := trivial
        refine hK _ _ ⟨kp, ?_⟩
        clear kp hK
        refine flows_one 3 hps rfl (by kernel_rfl) rfl (wp_next (fun K hK => ?_))
        obtain ⟨g, W, hmk, t2⟩ := mk_st TX.out (184 : Int) 184 rfl (by decide)
        have TY := Lib.hid t2
        clear t2
        go_simp
        clear hmk
        have kp := trivial
        refine hK _ _ ⟨kp, ?_⟩
        clear kp hK
        refine flows_one 4 hps rfl (by kernel_rfl) rfl (wp_next (fun K hK => ?_))
        go_simp
        with_reducible refine (law_Arena_none _ (bn : Int) cap (by omega) (by have := HBN.out; omega) (some ⟨g, 0, none⟩) 184 184 HNO.out).mono ?_
        rintro e w' ⟨rfl, rfl⟩
        have kp := trivial
        refine hK _ _ ⟨kp, ?_⟩
        clear kp hK
        refine flows_take 5 (v := ?_) (a' := ?_) hps rfl (by kernel_rfl) rfl ?_ ?_ ?_
        rotate_left 2
        · intro w' hk; go_simp; try rfl
        · simp only [Act.put, List.setIfInBounds_toArray, List.set_cons_succ, List.set_cons_zero]; try rfl
        refine flows_done hps (by kernel_rfl) ?_
        
        have B3 := Lib.hid TY.out.end
        clear TY TX hz
        go_wp2
        go_ret
        exact ⟨rfl, B3.out⟩
      · refine ⟨_, rfl, rfl, wp_next (fun K hK => ?_)⟩
        obtain ⟨g, W, hmk, t2⟩ := mk_st TX.out (184 : Int) 184 rfl (by decide)
        have TY := Lib.hid t2
        clear t2
        go_simp
        clear hmk
        have kp := trivial
        refine hK _ _ ⟨kp, ?_⟩
        clear kp hK
        refine flows_one 1 hps rfl (by kernel_rfl) rfl (wp_next (fun K hK => ?_))
        go_simp
        with_reducible refine (KB.out _).mono ?_
        rintro e w' ⟨rfl, rfl⟩
        have kp := trivial
        refine hK _ _ ⟨kp, ?_⟩
        clear kp hK
        refine flows_one 4 hps rfl (by kernel_rfl) rfl (wp_next (fun K hK => ?_))
        go_simp
        with_reducible refine (law_Arena_none _ (bn : Int) cap (by omega) (by have := HBN.out; omega) (some ⟨g, 0, none⟩) 184 184 HNO.out).mono ?_
        rintro e w' ⟨rfl, rfl⟩
        have kp := trivial
        refine hK _ _ ⟨kp, ?_⟩
        clear kp hK
        refine flows_take 5 (v := ?_) (a' := ?_) hps rfl (by kernel_rfl) rfl ?_ ?_ ?_
        rotate_left 2
        · intro w' hk; go_simp; try rfl
        · simp only [Act.put, List.setIfInBounds_toArray, List.set_cons_succ, List.set_cons_zero]; try rfl
        refine flows_done hps (by kernel_rfl) ?_
        
        have B3 := Lib.hid TY.out.end
        clear TY TX hz
        go_wp2
        go_ret
        exact ⟨rfl, B3.out⟩
    · have e1 : decide (cap ≥ 1024) = false := decide_eq_false e0
      clear e0 hmay c0 c1 hR
      go_wp2_with fail
      refine flows_begin (S := fun _ => True) hmixed 6 rfl (by repeat (first | with_reducible refine ps_then ?_ | with_reducible refine ps_block ?_ | with_reducible exact ps_body | refine ps_then ?_ | refine ps_block ?_ | exact ps_body)) trivial (fun hps => ?_)
      simp only [List.replicate]
      generalize w1.drew = wx at TX ⊢
      refine flows_take 0 (v := ?_) (a' := ?_) hps rfl (by kernel_rfl) rfl ?_ ?_ ?_
      rotate_left 2
      · intro w' hk; go_simp; try rfl
      · simp only [Act.put, List.setIfInBounds_toArray, List.set_cons_succ, List.set_cons_zero]; try rfl
      refine flows_take 2 (v := ?_) (a' := ?_) hps rfl (by kernel_rfl) rfl ?_ ?_ ?_
      rotate_left 2
      · intro w' hk; go_simp; try rfl
      · simp only [Act.put, List.setIfInBounds_toArray, List.set_cons_succ, List.set_cons_zero]; try rfl
      refine flows_any [1, 3] hps (by kernel_rfl) (by simp) (fun i hi => ?_)
      simp only [List.mem_cons, List.not_mem_nil, or_false] at hi
      rcases hi with rfl | rfl
      · refine ⟨_, rfl, rfl, wp_next (fun K hK => ?_)⟩
        go_simp
        with_reducible refine (KB.out _).mono ?_
        rintro e w' ⟨rfl, rfl⟩
        have kp := trivial
        refine hK _ _ ⟨kp, ?_⟩
        clear kp hK
        refine flows_one 3 hps rfl (by kernel_rfl) rfl (wp_next (fun K hK => ?_))
        obtain ⟨g, W, hmk, t2⟩ := mk_st TX.out (184 : Int) 184 rfl (by decide)
        have TY := Lib.hid t2
        clear t2
        go_simp
        clear hmk
        have kp := trivial
        refine hK _ _ ⟨kp, ?_⟩
        clear kp hK
        refine flows_one 4 hps rfl (by kernel_rfl) rfl (wp_next (fun K hK => ?_))
        go_simp
        with_reducible refine (law_Arena_none _ (bn : Int) cap (by omega) (by have := HBN.out; omega) (some ⟨g, 0, none⟩) 184 184 HNO.out).mono ?_
        rintro e w' ⟨rfl, rfl⟩
        have kp := trivial
        refine hK _ _ ⟨kp, ?_⟩
        clear kp hK
        refine flows_take 5 (v := ?_) (a' := ?_) hps rfl (by kernel_rfl) rfl ?_ ?_ ?_
        rotate_left 2
        · intro w' hk; go_simp; try rfl
        · simp only [Act.put, List.setIfInBounds_toArray, List.set_cons_succ, List.set_cons_zero]; try rfl
        refine flows_done hps (by kernel_rfl) ?_
        
        have B3 := Lib.hid TY.out.end
        clear TY TX hz
        go_wp2
        go_ret
        exact ⟨rfl, B3.out⟩
      · refine ⟨_, rfl, rfl, wp_next (fun K hK => ?_)⟩
        obtain ⟨g, W, hmk, t2⟩ := mk_st TX.out (184 : Int) 184 rfl (by decide)
        have TY := Lib.hid t2
        clear t2
        go_simp
        clear hmk
        have kp := trivial
        refine hK _ _ ⟨kp, ?_⟩
        clear kp hK
        refine flows_one 1 hps rfl (by kernel_rfl) rfl (wp_next (fun K hK => ?_))
        go_simp
        with_reducible refine (KB.out _).mono ?_
        rintro e w' ⟨rfl, rfl⟩
        have kp := trivial
        refine hK _ _ ⟨kp, ?_⟩
        clear kp hK
        refine flows_one 4 hps rfl (by kernel_rfl) rfl (wp_next (fun K hK => ?_))
        go_simp
        with_reducible refine (law_Arena_none _ (bn : Int) cap (by omega) (by have := HBN.out; omega) (some ⟨g, 0, none⟩) 184 184 HNO.out).mono ?_
        rintro e w' ⟨rfl, rfl⟩
        have kp := trivial
        refine hK _ _ ⟨kp, ?_⟩
        clear kp hK
        refine flows_take 5 (v := ?_) (a' := ?_) hps rfl (by kernel_rfl) rfl ?_ ?_ ?_
        rotate_left 2
        · intro w' hk; go_simp; try rfl
        · simp only [Act.put, List.setIfInBounds_toArray, List.set_cons_succ, List.set_cons_zero]; try rfl
        refine flows_done hps (by kernel_rfl) ?_
        
        have B3 := Lib.hid TY.out.end
        clear TY TX hz
        go_wp2
        go_ret
        exact ⟨rfl, B3.out⟩
end Go.Proofs.Ytenbpbnffnodhaa

/- What comes in, opened: a slice of bytes as a list; whatever else as a value that reads. -/
namespace Go.Own
open Go Go.RowKit Go.ChangeShapes Go.WideShapes
end Go.Own
