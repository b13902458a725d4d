/- Texts of the proof of 'CheckBuilt', part 4: words on memory, contracts of functions, plain laws. No condition. -/
import Derived.Test.YtjijniillehfoaaMgCheckBuilt3
/- Layer 9's statements: the bytes of an arena, of what is laid. -/
namespace Go.Own
open Go Go.RowKit
/-- What is laid. -/
structure Ly where
  what : Int
  at_ : Int
  v : Int
def Ly.cells (d : Ly) : List Value := [.int .i64 d.what, .int .i64 d.at_, .int .u64 d.v]
structure Ly.Ok (d : Ly) : Prop where
  what : -9223372036854775808 ≤ d.what ∧ d.what ≤ 9223372036854775807
  at_ : -9223372036854775808 ≤ d.at_ ∧ d.at_ ≤ 9223372036854775807
  v : 0 ≤ d.v ∧ d.v ≤ 18446744073709551615
abbrev shLy : Sh := .cons (.int .i64) (.cons (.int .i64) (.cons (.int .u64) .nil))
theorem rd_lys {w : World} {a : Option Addr} {n c : Nat} (h : Rd w (.sl shLy) [.slice a n c]) : ∃ ds : List Ly, Sl w a n c 3 (ds.map Ly.cells).flatten ∧ ds.length = n ∧ ∀ d ∈ ds, d.Ok := by
  obtain ⟨a', n', c', rows, he, hn, hr, hs⟩ := h
  cases he
  obtain ⟨ds, rfl, hd⟩ := exists_map (f := Ly.cells) (p := fun d => d.Ok) rows fun r hr' => by
    obtain ⟨_, x0, y0, rfl, _, ⟨v0, rfl, w0⟩, x1, y1, rfl, _, ⟨v1, rfl, w1⟩, x2, y2, rfl, _, ⟨v2, rfl, w2⟩, rfl⟩ := hr r hr'
    have w0 := wfI64 w0; have w1 := wfI64 w1; have w2 := wfU64 w2
    exact ⟨⟨v0, v1, v2⟩, rfl, ⟨w0, w1, w2⟩⟩
  exact ⟨ds, hs, by simpa using hn, hd⟩
/-- What lay below B reads as it did: a row of cells. -/
theorem St.argSl {w0 w : World} {l : List Ob} (h : St w0.heap.size w0 w l) {a : Option Addr} {n c z : Nat} {vs : List Value} (hs : Sl w0 a n c z vs) : Sl w a n c z vs where
  len := hs.len
  cap := hs.cap
  room := hs.room
  nilcap := hs.nilcap
  cells := fun i v hi => by
    obtain ⟨b, o, e, hc⟩ := hs.cells i v hi
    exact ⟨b, o, e, h.argCell hc⟩
end Go.Own
namespace Go.Proofs.Ytjijniillehfoaa
open Go Go.RowKit Go.Own
set_option linter.unusedVariables false
set_option maxRecDepth 100000
abbrev LyO (g : Nat) (d : Ly) : Ob := RowO g 227 d.cells
theorem info_ly : Info Try.prog 227 (.agg #[.int .i64 0, .int .i64 0, .int .u64 0]) 3 24 := by unfold Info; kernel_rfl
theorem size_ly : (Try.prog.info? 227).map (·.size) = some 3 := by kernel_rfl
section
variable {B : Nat} {w0 w : World} {l : List Ob}
section
variable {ops : Array Oper} {rest : List Oper} {o : Oper} {a : Act} {Q : Exit → Act → World → Prop}
theorem ly_alloc (h : St B w0 w l) (hgd : o.guard = none) (ho : o.op = .alloc 227)
    (hk : ∀ g w', St B w0 w' (LyO g ⟨0, 0, 0⟩ :: l) → wpList Try.prog ops Q rest (a.put o.dst (.pointer (some ⟨g, 0, none⟩))) w') : wpList Try.prog ops Q (o :: rest) a w :=
  alloc_st h hgd _ ho _ _ _ info_ly (Ly.cells ⟨0, 0, 0⟩) rfl hk
theorem ly_store (h : St B w0 w l) (i : Nat) {g : Nat} {d0 : Ly} (hi : l[i]? = some (LyO g d0)) (hgd : o.guard = none) (x y : Operand) (ho : o.op = .store 227 x y)
    (hx : a.eval x = .pointer (some ⟨g, 0, none⟩)) (d : Ly) (hy : a.eval y = .agg d.cells.toArray)
    (hk : ∀ w', St B w0 w' (l.set i (LyO g d)) → wpList Try.prog ops Q rest (a.put o.dst undef) w') : wpList Try.prog ops Q (o :: rest) a w :=
  store_st h i hi hgd _ x y ho hx d.cells hy size_ly rfl (by simp [Ly.cells, Value.oneCell']) hk
theorem ly_mid (hgd : Region.wanted o (yielded ops a.tmps) = true) (x : Operand) (ho : o.op = .load 227 x) (b o' : Nat) (hx : a.eval x = .pointer (some ⟨b, o', none⟩)) (y : Ly) (hr : w.rangeAt b o' y.cells)
    (hk : wpList Try.prog ops Q rest (a.put o.dst (.agg #[.int .i64 y.what, .int .i64 y.at_, .int .u64 y.v])) w) : wpList Try.prog ops Q (o :: rest) a w :=
  at_wanted hgd fun _ hK => wp_load_mid 227 x ho b o' hx y.cells _ hr Try.underlying227 rfl size_ly (hK _ _ hk)
end
/-- 'Set', of bytes that are only read. -/
theorem rl_Set (h : St B w0 w l) {i n cp : Nat} {a : Option Addr} {b : List UInt8} (hi : l[i]? = some (AsO a n cp b)) (hsm : b.length ≤ 16384) (o s : Int) (u : Bool) :
    Calls Try.prog 69 #[.slice a n cp, .agg #[.int .i64 o, .int .i64 s, .bool u]] w fun e w' => ∃ y v r, e = .returned (.tuple #[v, .bool r]) ∧ y.length = b.length ∧ AsV B w0 l y v w' := by
  have hb := h.as hi
  have hn := hb.len
  subst hn
  cases hs : setI b o s u with
  | none =>
    refine (rb_Set_no h a _ cp b hb o s u hs).mono ?_
    rintro e w' ⟨rfl, t⟩
    exact ⟨b, _, _, rfl, rfl, a, cp, rfl, t.again hi⟩
  | some y =>
    refine (rb_Set_ok h a _ cp b hb (by omega) o s u y hs).mono ?_
    rintro e w' ⟨v, rfl, t⟩
    have hl : y.length = b.length := by
      unfold setI at hs
      split at hs
      · rename_i hh
        cases hs
        have h1 := (isSize_iff _).1 hh.1
        have h2 := couldB_iff.1 hh.2
        exact setB_length b _ (by simp only; omega) (by simp only; omega)
      · cases hs
    obtain ⟨a', c', rfl, t2⟩ := t.ownAs
    exact ⟨y, _, _, rfl, hl, a', c', rfl, t2⟩
end
set_option maxHeartbeats 16000000 in
theorem law_LBytes {w0 w : World} {l : List Ob} (h : St w0.heap.size w0 w l) (n : Int) (N : Nat) (hn : n = N) (hN : N ≤ 2000) (la : Option Addr) (ln lc : Nat) (ds : List Ly) (hs : Sl w0 la ln lc 3 (ds.map Ly.cells).flatten) (hl : ds.length = ln) (hok : ∀ d ∈ ds, d.Ok) (hln : ln ≤ 100) :
    Calls Try.prog 81 #[.int .i64 n, .slice la ln lc] w fun e w' => ∃ v b, e = .returned v ∧ b.length = N ∧ AsV w0.heap.size w0 l b v w' := by
  subst hn; subst hl
  obtain ⟨g, W, hmk, t1⟩ := mk_st h (N : Int) N rfl (by omega)
  have hlc := hs.cap; have hlr := hs.room
  have hz : (List.replicate N (0 : UInt8)).length = N := List.length_replicate ..
  generalize List.replicate N (0 : UInt8) = z at *
  obtain ⟨a1, c1, e1, t2⟩ := t1.ownAs
  rw [hz] at e1 t2
  cases e1
  have T2 := Lib.hid t2; have HS := Lib.hid hs; have HOK := Lib.hid hok; have HZ := Lib.hid hz
  clear h hs hok t1 t2 hz
  go_enter Try.func81, Try.ntmps81
  go_wp2
  go_loopw [5, 6] (fun vb vi wr => ∃ (k : Nat) (b : List UInt8), k ≤ ds.length ∧ vi = .int .i64 k ∧ b.length = N ∧ AsV w0.heap.size w0 l b vb wr) (fun _ vi _ => ds.length - (intOf vi).toNat)
  case atStart => exact ⟨0, z, Nat.zero_le _, rfl, HZ.out, some ⟨g, 0, none⟩, N, by rw [HZ.out], by rw [HZ.out]; exact T2.out⟩
  case round =>
    obtain ⟨k, b, hk, rfl, hb, a2, c2, rfl, hS⟩ := hrel
    clear T2
    rw [hb] at hS ⊢
    by_cases hlt : k < ds.length
    · have d2 : decide ((k : Int) < (ds.length : Int)) = true := decide_eq_true (by omega)
      obtain ⟨bb, bo, rfl, hr⟩ := sl_at (hS.argSl HS.out) (fun d => rfl) (by decide) k hlt
      have hd := HOK.out ds[k] (List.getElem_mem hlt)
      generalize ds[k] = d at *
      obtain ⟨⟨w1, w2⟩, ⟨a3, a4⟩, ⟨v1, v2⟩⟩ := hd
      have HR := Lib.hid hr; have HS1 := Lib.hid hS; have HB := Lib.hid hb
      clear hr hS hb
      have hmx : ∃ M : Nat, max (N : Int) 1 = M ∧ 0 < M ∧ M ≤ 2000 := ⟨max N 1, by omega, by omega, by omega⟩
      obtain ⟨M, hM, hM0, hM2⟩ := hmx
      have q0 := Int.emod_nonneg d.at_ (show (M : Int) ≠ 0 by omega)
      have q1 := Int.emod_lt_of_pos d.at_ (show (0 : Int) < M by omega)
      have KP : Hid (∀ w, _) := Lib.hid fun w => law_Pick w d.at_ (M : Int) a3 a4 (by omega) (by omega)
      obtain ⟨q, hq⟩ := Int.eq_ofNat_of_zero_le q0
      rw [hq] at KP q1
      clear hq q0
      have u1 : IntKind.i64.wrap ((q : Int) + 8) = (q : Int) + 8 := IntWalk.i64_in _ (by omega)
      go_wp2_with (first | (refine ly_mid rfl _ rfl bb (bo + k * 3) rfl d HR.out ?_) | (refine ly_alloc HS1.out rfl rfl ?_; intro g4 w4 h4; have T4 := Lib.hid h4; clear h4) | (refine ly_store T4.out 0 rfl rfl _ _ rfl rfl d rfl ?_; intro w5 h5; have T5 := Lib.hid h5; clear h5 T4; have k0 : w5.cell? ⟨g4, 0, none⟩ = some (.int .i64 d.what) := (T5.out.row (i := 0) rfl).cell 0; have k1 : w5.cell? ⟨g4, 1, none⟩ = some (.int .i64 d.at_) := (T5.out.row (i := 0) rfl).cell 1; have k2 : w5.cell? ⟨g4, 2, none⟩ = some (.int .u64 d.v) := (T5.out.row (i := 0) rfl).cell 2))
      have kc := KP.out w5
      with_reducible refine kc.mono ?_
      clear kc
      rintro e w' ⟨rfl, rfl⟩
      have hT0 : -1 ≤ d.what.tmod 2 ∧ d.what.tmod 2 ≤ 1 := by
        have e : ((2 : Int).natAbs : Int) = 2 := rfl
        rw [Int.tmod_eq_emod]
        split
        · omega
        · rw [e]; omega
      obtain ⟨T, hT⟩ : ∃ T, d.what.tmod 2 = T := ⟨_, rfl⟩
      rw [hT] at hT0
      have u2 : IntKind.i64.wrap T = T := IntWalk.i64_in _ (by omega)
      have fin : ∀ (y : List UInt8) (v : Value) (w' : World) (l2 : List Ob), y.length = N → AsV w0.heap.size w0 (l2 ++ l) y v w' → ∃ (k_1 : Nat) (b : List UInt8), k_1 ≤ ds.length ∧ Value.int .i64 ((k + 1 : Nat) : Int) = .int .i64 k_1 ∧ b.length = N ∧ AsV w0.heap.size w0 l b v w' :=
        fun y v w' l2 h1 ⟨a', c', e', h2⟩ => ⟨k + 1, y, hlt, rfl, h1, a', c', e', h2.sub (List.Sublist.cons_cons _ (List.sublist_append_right ..))⟩
      have FIN := Lib.hid fin
      clear fin hT0
      by_cases hTz : T = 0
      · subst hTz
        by_cases hle : q + 8 ≤ N
        · have d3 : decide ((q : Int) + 8 ≤ (N : Int)) = true := decide_eq_true (by omega)
          go_wp2_with fail
          have kc := rl_Lay T5.out (i := 1) rfl (by rw [HB.out]; omega) (q : Int) q rfl (by rw [HB.out]; omega) d.v d.v.toNat (by omega) (by omega)
          rw [HB.out] at kc
          with_reducible refine kc.mono ?_
          clear kc
          rintro e w6 ⟨a6, c6, rfl, t6⟩
          have T6 := Lib.hid t6
          clear t6
          have k0 : w6.cell? ⟨g4, 0, none⟩ = some (.int .i64 d.what) := (T6.out.row (i := 1) rfl).cell 0
          go_wp2
          exact ⟨FIN.out (layAt b q d.v.toNat) _ _ [LyO g4 d, AsO a2 N c2 b] (by rw [layAt_length _ _ _ (by rw [HB.out]; omega), HB.out]) ⟨a6, c6, by rw [layAt_length _ _ _ (by rw [HB.out]; omega), HB.out], by rw [layAt_length _ _ _ (by rw [HB.out]; omega), HB.out]; exact T6.out⟩, by simp [intOf]; omega⟩
        · have d3 : decide ((q : Int) + 8 ≤ (N : Int)) = false := decide_eq_false (by omega)
          go_wp2
          exact ⟨FIN.out b _ _ [LyO g4 d] HB.out ⟨a2, c2, by rw [HB.out], by rw [HB.out]; exact (show St w0.heap.size w0 w5 (LyO g4 d :: AsO a2 N c2 b :: l) from T5.out).swap⟩, by simp [intOf]; omega⟩
      · have d3 : (T == 0) = false := by rw [beq_eq_false_iff_ne]; exact hTz
        have t3 : d.v.tmod 20000 = d.v % 20000 := Int.tmod_eq_emod_of_nonneg v1
        obtain ⟨Sz, hSz⟩ : ∃ Sz, d.v % 20000 = Sz := ⟨_, rfl⟩
        have hSz2 : 0 ≤ Sz ∧ Sz < 20000 := by omega
        rw [hSz] at t3
        have u3 : IntKind.u64.wrap Sz = Sz := IntWalk.u64_in _ (by omega)
        have u4 : IntKind.i64.wrap Sz = Sz := IntWalk.i64_in _ (by omega)
        have KP4 : Hid (∀ w, _) := Lib.hid fun w => law_Pick w d.what 4 w1 w2 (by decide) (by decide)
        obtain ⟨U, hU⟩ : ∃ U, (d.what % 4 == 3) = U := ⟨_, rfl⟩
        go_wp2
        clear k0 k1 k2
        refine flows_begin (S := fun w' => St w0.heap.size w0 w' (LyO g4 d :: AsO a2 N c2 b :: l)) hmixed 16 rfl (by repeat (first | with_reducible refine ps_then ?_ | with_reducible refine ps_block ?_ | with_reducible exact ps_body | refine ps_then ?_ | refine ps_block ?_ | exact ps_body)) T5.out.drew (fun hps => ?_)
        simp only [List.replicate]
        refine flows_take 0 (v := ?_) (a' := ?_) hps rfl (by kernel_rfl) rfl ?_ ?_ ?_
        rotate_left 2
        · intro w' hk; go_simp; try rfl
        · simp only [Act.put, List.setIfInBounds_toArray, List.set_cons_succ, List.set_cons_zero]; try rfl
        refine flows_take 1 (v := ?_) (a' := ?_) hps rfl (by kernel_rfl) rfl ?_ ?_ ?_
        rotate_left 2
        · intro w' hk; go_simp; try rfl
        · simp only [Act.put, List.setIfInBounds_toArray, List.set_cons_succ, List.set_cons_zero]; try rfl
        refine flows_take 2 (v := ?_) (a' := ?_) hps rfl (by kernel_rfl) rfl ?_ ?_ ?_
        rotate_left 2
        · intro w' hk; go_simp; try rfl
        · simp only [Act.put, List.setIfInBounds_toArray, List.set_cons_succ, List.set_cons_zero]; try rfl
        refine flows_take 3 (v := ?_) (a' := ?_) hps rfl (by kernel_rfl) rfl ?_ ?_ ?_
        rotate_left 2
        · intro w' hk; have c0 := (hk.row (i := 0) rfl).cell 2; simp only [Ly.cells, List.getElem?_cons_succ, List.getElem?_cons_zero] at c0; go_simp; try rfl
        · simp only [Act.put, List.setIfInBounds_toArray, List.set_cons_succ, List.set_cons_zero]; try rfl
        refine flows_take 4 (v := ?_) (a' := ?_) hps rfl (by kernel_rfl) rfl ?_ ?_ ?_
        rotate_left 2
        · intro w' hk; go_simp; try rfl
        · simp only [Act.put, List.setIfInBounds_toArray, List.set_cons_succ, List.set_cons_zero]; try rfl
        refine flows_take 5 (v := ?_) (a' := ?_) hps rfl (by kernel_rfl) rfl ?_ ?_ ?_
        rotate_left 2
        · intro w' hk; go_simp; try rfl
        · simp only [Act.put, List.setIfInBounds_toArray, List.set_cons_succ, List.set_cons_zero]; try rfl
        refine flows_take 6 (v := ?_) (a' := ?_) hps rfl (by kernel_rfl) rfl ?_ ?_ ?_
        rotate_left 2
        · intro w' hk; go_simp; try rfl
        · simp only [Act.put, List.setIfInBounds_toArray, List.set_cons_succ, List.set_cons_zero]; try rfl
        refine flows_take 7 (v := ?_) (a' := ?_) hps rfl (by kernel_rfl) rfl ?_ ?_ ?_
        rotate_left 2
        · intro w' hk; have c0 := (hk.row (i := 0) rfl).cell 0; simp only [Ly.cells, List.getElem?_cons_succ, List.getElem?_cons_zero] at c0; go_simp; try rfl
        · simp only [Act.put, List.setIfInBounds_toArray, List.set_cons_succ, List.set_cons_zero]; try rfl
        refine flows_one 8 hps rfl (by kernel_rfl) rfl (wp_next (fun K hK => ?_))
        go_simp
        with_reducible refine (KP4.out _).mono ?_
        rintro e w' ⟨rfl, rfl⟩
        have kp := T5.out.drew
        refine hK _ _ ⟨kp, ?_⟩
        clear kp hK
        refine flows_take 9 (v := ?_) (a' := ?_) hps rfl (by kernel_rfl) rfl ?_ ?_ ?_
        rotate_left 2
        · intro w' hk; go_simp; try rfl
        · simp only [Act.put, List.setIfInBounds_toArray, List.set_cons_succ, List.set_cons_zero]; try rfl
        refine flows_take 10 (v := ?_) (a' := ?_) hps rfl (by kernel_rfl) rfl ?_ ?_ ?_
        rotate_left 2
        · intro w' hk; go_simp; try rfl
        · simp only [Act.put, List.setIfInBounds_toArray, List.set_cons_succ, List.set_cons_zero]; try rfl
        refine flows_one 11 hps rfl (by kernel_rfl) rfl (wp_next (fun K hK => ?_))
        go_simp
        with_reducible refine (rl_Set T5.out.drew (i := 1) rfl (by rw [HB.out]; omega) (q : Int) Sz U).mono ?_
        rintro e w6 ⟨y6, v6, r6, rfl, y7, t6⟩
        rw [HB.out] at y7
        obtain ⟨a8, c8, rfl, h8⟩ := t6
        have T6 := Lib.hid h8; have Y7 := Lib.hid y7
        have kp := h8.tail
        clear y7 h8
        refine hK _ _ ⟨kp, ?_⟩
        clear kp hK
        refine flows_take 12 (v := ?_) (a' := ?_) hps rfl (by kernel_rfl) rfl ?_ ?_ ?_
        rotate_left 2
        · intro w' hk; go_simp; try rfl
        · simp only [Act.put, List.setIfInBounds_toArray, List.set_cons_succ, List.set_cons_zero]; try rfl
        refine flows_take 13 (v := ?_) (a' := ?_) hps rfl (by kernel_rfl) rfl ?_ ?_ ?_
        rotate_left 2
        · intro w' hk; go_simp; try rfl
        · simp only [Act.put, List.setIfInBounds_toArray, List.set_cons_succ, List.set_cons_zero]; try rfl
        refine flows_take 14 (v := ?_) (a' := ?_) hps rfl (by kernel_rfl) rfl ?_ ?_ ?_
        rotate_left 2
        · intro w' hk; go_simp; try rfl
        · simp only [Act.put, List.setIfInBounds_toArray, List.set_cons_succ, List.set_cons_zero]; try rfl
        refine flows_take 15 (v := ?_) (a' := ?_) hps rfl (by kernel_rfl) rfl ?_ ?_ ?_
        rotate_left 2
        · intro w' hk; go_simp; try rfl
        · simp only [Act.put, List.setIfInBounds_toArray, List.set_cons_succ, List.set_cons_zero]; try rfl
        refine flows_done hps (by kernel_rfl) ?_
        go_wp2
        exact ⟨FIN.out y6 _ _ [LyO g4 d, AsO a2 N c2 b] Y7.out ⟨a8, c8, rfl, T6.out⟩, by simp [intOf]; omega⟩
    · obtain rfl : k = ds.length := by omega
      have d2 : decide ((ds.length : Int) < (ds.length : Int)) = false := decide_eq_false (by omega)
      have HS1 := Lib.hid hS; have HB := Lib.hid hb
      clear hS hb
      go_wp2
      go_ret
      exact ⟨.slice a2 N c2, b, rfl, HB.out, a2, c2, by rw [HB.out], by rw [HB.out]; exact HS1.out⟩
end Go.Proofs.Ytjijniillehfoaa

/- Whether an arena's bytes are right, in plain words. No program. -/
namespace Go.Own
/-- No two free blocks stand next to each other. -/
def Apart : List Blk → Prop
  | [] => True
  | x :: r => (∀ y, r.head? = some y → x.used = true ∨ y.used = true) ∧ Apart r
theorem Apart.append : ∀ {l1 l2 : List Blk}, Apart (l1 ++ l2) ↔ Apart l1 ∧ Apart l2 ∧ ∀ x y, l1.getLast? = some x → l2.head? = some y → x.used = true ∨ y.used = true
  | [], l2 => by simp [Apart]
  | [x], l2 => by
    simp only [List.cons_append, List.nil_append, Apart, List.getLast?_singleton, Option.some.injEq, List.head?_nil]
    constructor
    · intro h; exact ⟨⟨fun _ h => by simp at h, trivial⟩, h.2, fun a y e hy => e ▸ h.1 y hy⟩
    · intro h; exact ⟨fun y hy => h.2.2 x y rfl hy, h.2.1⟩
  | x :: z :: l1, l2 => by
    have ih := Apart.append (l1 := z :: l1) (l2 := l2)
    simp only [List.cons_append] at ih ⊢
    rw [Apart, ih, Apart, List.getLast?_cons_cons]
    simp only [List.head?_cons]
    constructor
    · rintro ⟨h1, h2, h3, h4⟩; exact ⟨⟨h1, h2⟩, h3, h4⟩
    · rintro ⟨⟨h1, h2⟩, h3, h4⟩; exact ⟨h1, h2, h3, h4⟩
theorem Apart.snoc {l : List Blk} {x : Blk} : Apart (l ++ [x]) ↔ Apart l ∧ ∀ y, l.getLast? = some y → y.used = true ∨ x.used = true := by
  rw [Apart.append]
  simp only [Apart, List.head?_nil, List.head?_cons, Option.some.injEq]
  constructor
  · rintro ⟨h1, _, h3⟩; exact ⟨h1, fun y hy => h3 y x hy rfl⟩
  · rintro ⟨h1, h3⟩; exact ⟨h1, ⟨fun _ h => (by cases h), trivial⟩, fun y z hy hz => hz ▸ h3 y hy⟩
theorem Apart.take {l : List Blk} (h : Apart l) (k : Nat) : Apart (l.take k) := by
  rw [← List.take_append_drop k l] at h
  exact (Apart.append.1 h).1
theorem take_last {α : Type} {l : List α} {k : Nat} (hk : k < l.length) : (l.take (k + 1)).getLast? = some l[k] := by
  rw [List.take_succ_eq_append_getElem hk, List.getLast?_concat]
/-- The next one: no free one behind a free one. -/
theorem Apart.step {l : List Blk} {k : Nat} (hk : k < l.length) (h : Apart (l.take k)) (hn : ∀ j, k = j + 1 → ∀ hj : j < l.length, l[j].used = true ∨ l[k].used = true) : Apart (l.take (k + 1)) := by
  rw [List.take_succ_eq_append_getElem hk]
  refine Apart.snoc.2 ⟨h, fun y hy => ?_⟩
  cases k with
  | zero => simp at hy
  | succ j =>
    rw [take_last (by omega)] at hy
    cases hy
    exact hn j rfl (by omega)
theorem Apart.not {l : List Blk} {k : Nat} (hk : k + 1 < l.length) (h1 : l[k].used = false) (h2 : l[k + 1].used = false) : ¬ Apart l := by
  intro h
  have h := h.take (k + 2)
  rw [List.take_succ_eq_append_getElem hk] at h
  have := (Apart.snoc.1 h).2 _ (take_last (by omega))
  rw [h1, h2] at this
  simp at this
/-- An arena that Check finds right. -/
def IsRight (b : List UInt8) : Prop := ∃ bs ls, Right b bs ls ∧ Apart bs
theorem Right.walk {b : List UInt8} {bs : List Blk} {ls : Nat → List Nat} (h : Right b bs ls) : walkB b = some bs := (walkB_tile b bs).2 ⟨h.len, tile_to.2 h.tile⟩
theorem Right.all {b : List UInt8} {bs : List Blk} {ls : Nat → List Nat} (h : Right b bs ls) {c : Nat} (hc : c < 22) : allB b c = some (ls c) := h.lists.all h.good h.len h.max hc
theorem memberB_some {b : List UInt8} {o c : Nat} (h : memberB b o c = true) : ∃ x, blkAt b o = some x ∧ x.off = o ∧ x.used = false ∧ cls x.size = c := by
  unfold memberB at h
  cases hb : blkAt b o with
  | none => rw [hb] at h; cases h
  | some x =>
    rw [hb] at h
    simp only [Bool.and_eq_true, Bool.not_eq_true', decide_eq_true_eq] at h
    exact ⟨x, rfl, (blkAt_some hb).1, h.1, h.2⟩
theorem allFrom_inv {b : List UInt8} {c : Nat} : ∀ (f at_ last : Nat) (l : List Nat), allFrom b c f at_ last = some l → (∃ z, Seg b last at_ l z 0) ∧ (∀ o ∈ l, o ≠ 0 ∧ memberB b o c = true) ∧ l.length ≤ f
  | 0, at_, last, l, h => by
    unfold allFrom at h
    split at h
    · rename_i h0; cases h; exact ⟨⟨last, rfl, h0.symm⟩, fun o ho => (by cases ho), Nat.le_refl _⟩
    · cases h
  | f + 1, at_, last, l, h => by
    unfold allFrom at h
    split at h
    · rename_i h0; cases h; exact ⟨⟨last, rfl, h0.symm⟩, fun o ho => (by cases ho), Nat.zero_le _⟩
    · rename_i h0
      split at h
      · cases h
      · rename_i h1
        simp only [not_or, Bool.not_eq_false, Decidable.not_not] at h1
        cases hr : allFrom b c f (numAt b (at_ + 8)) at_ with
        | none => rw [hr] at h; cases h
        | some r =>
          rw [hr] at h
          cases h
          obtain ⟨⟨z, i1⟩, i2, i3⟩ := allFrom_inv f _ _ r hr
          exact ⟨⟨z, rfl, h1.2, i1⟩, fun o ho => by
            rcases List.mem_cons.1 ho with rfl | ho
            · exact ⟨h0, h1.1⟩
            · exact i2 o ho, by simpa using i3⟩
theorem allB_inv {b : List UInt8} {c : Nat} {l : List Nat} (h : allB b c = some l) : 184 ≤ b.length ∧ bitAt (numAt b 0) c = decide (l ≠ []) ∧ (∃ z, Seg b 0 (numAt b (headO c)) l z 0) ∧ ∀ o ∈ l, o ≠ 0 ∧ memberB b o c = true := by
  unfold allB at h
  split at h
  · cases h
  · split at h
    · cases h
    · rename_i h1 h2
      obtain ⟨⟨z, i1⟩, i2, _⟩ := allFrom_inv _ _ _ _ h
      refine ⟨by omega, ?_, ⟨z, i1⟩, i2⟩
      have h2 : bitAt (numAt b 0) c = decide (numAt b (headO c) ≠ 0) := by
        cases hq : bitAt (numAt b 0) c <;> cases hr : decide (numAt b (headO c) ≠ 0) <;> simp_all
      rw [h2]
      cases l with
      | nil => have := i1.2; simp [← this]
      | cons o r => have := i1.1; have h0 := (i2 o (List.mem_cons_self ..)).1; simp [this, h0]
/-- What Check looks at makes an arena right. -/
theorem right_mk {b : List UInt8} {bs : List Blk} {ls : Nat → List Nat} (hm : b.length ≤ 16384) (hw : walkB b = some bs) (h0 : numAt b 0 < 4194304) (ha : ∀ c, c < 22 → allB b c = some (ls c))
    (hin : ∀ c, c < 22 → ∀ o ∈ ls c, ∃ x ∈ bs, x.off = o ∧ x.used = false) (hnd : ∀ c, c < 22 → (ls c).Nodup) (hc : ∀ y ∈ bs, y.used = false → y.off ∈ ls (clsN y.size)) : Right b bs ls := by
  obtain ⟨hlen, ht⟩ := (walkB_tile b bs).1 hw
  refine ⟨hm, tile_to.1 ht, ⟨h0, fun c hc => (allB_inv (ha c hc)).2.1, fun c hc => (allB_inv (ha c hc)).2.2.1, fun c hc o ho => ?_, hnd⟩, hc⟩
  obtain ⟨x, hx, rfl, hu⟩ := hin c hc o ho
  obtain ⟨y, hy, _, _, hcl⟩ := memberB_some ((allB_inv (ha c hc)).2.2.2 _ ho).2
  have := (ht.mem hx).2.1
  rw [hy] at this
  cases this
  exact ⟨x, hx, rfl, hu, hcl⟩
theorem walk_len {b : List UInt8} {L : List Blk} (h : walkB b = some L) (hm : b.length ≤ 16384) : L.length ≤ 16384 := by
  obtain ⟨hlen, ht⟩ := (walkB_tile b L).1 h
  have := nodup_len b.length (L.map (·.off)) (List.Pairwise.map _ (fun _ _ h => h) ht.offs) fun x hx => by
    obtain ⟨y, hy, rfl⟩ := List.mem_map.1 hx
    have := ht.mem hy; have := blkAt_some this.2.1; omega
  rw [List.length_map] at this; omega
theorem isTag_head {w : Nat} (h : w = 0 ∨ w % 16 = 8) : isTag w = false := by
  cases ht : isTag w with
  | false => rfl
  | true =>
    exfalso
    unfold isTag at ht
    rw [isSize_iff] at ht
    omega
/-! ### The program's way: the free blocks, by place and class, struck out one by one -/
def freeOf (bs : List Blk) : List Blk := bs.filter fun x => !x.used
theorem mem_freeOf {bs : List Blk} {x : Blk} : x ∈ freeOf bs ↔ x ∈ bs ∧ x.used = false := by unfold freeOf; rw [List.mem_filter]; simp
def keyOf' (x : Blk) : Nat × Nat := (x.off, clsN x.size)
/-- What is left of the free blocks once the classes below c are done, and of class c those of l. -/
def leftK (bs : List Blk) (ls : Nat → List Nat) (c : Nat) (l : List Nat) : List (Nat × Nat) := ((freeOf bs).map keyOf').filter fun q => !(decide (q.2 < c) && decide (q.1 ∈ ls q.2)) && !(decide (q.2 = c) && decide (q.1 ∈ l))
theorem mem_leftK {bs : List Blk} {ls : Nat → List Nat} {c : Nat} {l : List Nat} {q : Nat × Nat} : q ∈ leftK bs ls c l ↔ (∃ x ∈ bs, x.used = false ∧ keyOf' x = q) ∧ ¬ (q.2 < c ∧ q.1 ∈ ls q.2) ∧ ¬ (q.2 = c ∧ q.1 ∈ l) := by
  unfold leftK
  rw [List.mem_filter, List.mem_map]
  simp only [mem_freeOf, Bool.and_eq_true, Bool.not_eq_true', Bool.and_eq_false_imp, decide_eq_true_eq, decide_eq_false_iff_not, not_and, and_assoc]
theorem leftK_start {bs : List Blk} {ls : Nat → List Nat} : leftK bs ls 0 [] = (freeOf bs).map keyOf' := by
  unfold leftK
  rw [List.filter_eq_self]
  intro q _
  simp
theorem leftK_next {bs : List Blk} {ls : Nat → List Nat} {c : Nat} : leftK bs ls c (ls c) = leftK bs ls (c + 1) [] := by
  unfold leftK
  congr 1
  funext q
  by_cases h : q.2 = c
  · subst h; simp
  · have : decide (q.2 < c + 1) = decide (q.2 < c) := by
      by_cases h2 : q.2 < c
      · rw [decide_eq_true h2, decide_eq_true (by omega)]
      · rw [decide_eq_false h2, decide_eq_false (by omega)]
    rw [this]; simp [h]
theorem leftK_congr {bs : List Blk} {ls ls' : Nat → List Nat} {c : Nat} {l : List Nat} (h : ∀ d, d < c → ls d = ls' d) : leftK bs ls c l = leftK bs ls' c l := by
  unfold leftK
  congr 1
  funext q
  by_cases hq : q.2 < c
  · rw [h q.2 hq]
  · rw [decide_eq_false hq]; rfl
theorem leftK_nodup {b : List UInt8} {bs : List Blk} {ls : Nat → List Nat} {c : Nat} {l : List Nat} (ht : Tile b 184 bs) : (leftK bs ls c l).Nodup := by
  unfold leftK freeOf
  refine List.Pairwise.filter _ (List.Pairwise.map keyOf' (fun x y h => ?_) (List.Pairwise.filter _ ht.offs))
  intro e
  exact h (congrArg Prod.fst e)
theorem leftK_erase {b : List UInt8} {bs : List Blk} {ls : Nat → List Nat} {c o : Nat} {l : List Nat} (ht : Tile b 184 bs) : (leftK bs ls c l).filter (· ≠ (o, c)) = leftK bs ls c (l ++ [o]) := by
  unfold leftK
  rw [List.filter_filter]
  congr 1
  funext q
  obtain ⟨p, d⟩ := q
  by_cases h1 : d = c
  · subst h1
    by_cases h2 : p = o
    · subst h2; simp
    · simp [h2]
  · simp [h1]
/-- An arena that is right leaves nothing; each one of its lists is struck out. -/
theorem Right.left {b : List UInt8} {bs : List Blk} {ls : Nat → List Nat} (h : Right b bs ls) {c : Nat} (hc : c < 22) {k : Nat} (hk : k < (ls c).length) : ((ls c)[k], c) ∈ leftK bs ls c ((ls c).take k) := by
  obtain ⟨x, hx, h1, h2, h3⟩ := h.lists.mem c hc _ (List.getElem_mem hk)
  refine mem_leftK.2 ⟨⟨x, hx, h2, by unfold keyOf'; rw [h1]; unfold clsN; rw [h3]; rfl⟩, fun h => Nat.lt_irrefl _ h.1, fun h4 => ?_⟩
  obtain ⟨j, hj, he⟩ := List.mem_iff_getElem.1 h4.2
  rw [List.length_take] at hj
  rw [List.getElem_take] at he
  exact (List.pairwise_iff_getElem.1 (h.lists.nodup c hc)) j k (by omega) hk (by omega) he
theorem Right.leftNil {b : List UInt8} {bs : List Blk} {ls : Nat → List Nat} (h : Right b bs ls) : leftK bs ls 22 [] = [] := by
  rw [List.eq_nil_iff_forall_not_mem]
  intro q hq
  obtain ⟨⟨x, hx, h1, rfl⟩, h3, _⟩ := mem_leftK.1 hq
  exact h3 ⟨(clsN_lt (h.good.mem hx).2.1).1, h.cover x hx h1⟩
/-- The lists that were struck out, and nothing left: the arena is right. -/
theorem right_struck {b : List UInt8} {bs : List Blk} {ls : Nat → List Nat} (hm : b.length ≤ 16384) (hw : walkB b = some bs) (h0 : numAt b 0 < 4194304) (ha : ∀ c, c < 22 → allB b c = some (ls c))
    (hin : ∀ c, c < 22 → ∀ k, (hk : k < (ls c).length) → ((ls c)[k], c) ∈ leftK bs ls c ((ls c).take k)) (hn : leftK bs ls 22 [] = []) : Right b bs ls := by
  obtain ⟨hlen, ht⟩ := (walkB_tile b bs).1 hw
  refine right_mk hm hw h0 ha (fun c hc o ho => ?_) (fun c hc => ?_) fun y hy hu => ?_
  · obtain ⟨k, hk, rfl⟩ := List.mem_iff_getElem.1 ho
    obtain ⟨⟨x, hx, h1, h2⟩, _⟩ := mem_leftK.1 (hin c hc k hk)
    exact ⟨x, hx, congrArg Prod.fst h2, h1⟩
  · refine List.pairwise_iff_getElem.2 fun i j hi hj hij e => ?_
    have := (mem_leftK.1 (hin c hc j hj)).2.2
    refine this ⟨rfl, ?_⟩
    rw [← e]
    exact List.mem_iff_getElem.2 ⟨i, by rw [List.length_take]; omega, by rw [List.getElem_take]⟩
  · have hcy := clsN_lt (ht.mem hy).2.1
    exact Classical.byContradiction fun hne => (List.eq_nil_iff_forall_not_mem.1 hn (keyOf' y)) (mem_leftK.2 ⟨⟨y, hy, hu, rfl⟩, fun h1 => hne h1.2, fun h => by cases h.2⟩)
/-! ### The reference's way: how many -/
theorem nodup_cover : ∀ (A B : List Nat), A.Nodup → B.Nodup → (∀ x ∈ A, x ∈ B) → A.length ≤ B.length ∧ (A.length = B.length → ∀ x ∈ B, x ∈ A)
  | [], B, _, _, _ => ⟨Nat.zero_le _, fun h x hx => by
    have : B = [] := List.eq_nil_of_length_eq_zero h.symm
    rw [this] at hx; cases hx⟩
  | a :: A, B, hA, hB, hs => by
    obtain ⟨h1, h2⟩ := List.nodup_cons.1 hA
    have ha := hs a (List.mem_cons_self ..)
    have hl := List.length_erase_of_mem ha
    have hp : 0 < B.length := List.length_pos_of_mem ha
    obtain ⟨i1, i2⟩ := nodup_cover A (B.erase a) h2 (hB.erase a) fun x hx => (List.mem_erase_of_ne (fun e => h1 (by rw [e] at hx; exact hx))).2 (hs x (List.mem_cons_of_mem _ hx))
    refine ⟨by rw [List.length_cons]; omega, fun e x hx => ?_⟩
    rw [List.length_cons] at e
    by_cases hxa : x = a
    · rw [hxa]; exact List.mem_cons_self ..
    · exact List.mem_cons_of_mem _ (i2 (by omega) x ((List.mem_erase_of_ne hxa).2 hx))
/-- The lists of the classes below c, one behind the other. -/
def flatL (ls : Nat → List Nat) : Nat → List Nat
  | 0 => []
  | c + 1 => flatL ls c ++ ls c
theorem mem_flatL {ls : Nat → List Nat} {o : Nat} : ∀ {c : Nat}, o ∈ flatL ls c ↔ ∃ d, d < c ∧ o ∈ ls d
  | 0 => by simp [flatL]
  | c + 1 => by
    rw [flatL, List.mem_append, mem_flatL]
    constructor
    · rintro (⟨d, h1, h2⟩ | h)
      · exact ⟨d, by omega, h2⟩
      · exact ⟨c, by omega, h⟩
    · rintro ⟨d, h1, h2⟩
      by_cases h : d = c
      · subst h; exact .inr h2
      · exact .inl ⟨d, by omega, h2⟩
theorem flatL_nodup {ls : Nat → List Nat} : ∀ {c : Nat}, (∀ d, d < c → (ls d).Nodup) → (∀ d e o, d < c → e < c → o ∈ ls d → o ∈ ls e → d = e) → (flatL ls c).Nodup
  | 0, _, _ => List.nodup_nil
  | c + 1, h1, h2 => by
    rw [flatL, List.nodup_append]
    refine ⟨flatL_nodup (fun d hd => h1 d (by omega)) fun d e o hd he => h2 d e o (by omega) (by omega), h1 c (by omega), fun x hx y hy e => ?_⟩
    subst e
    obtain ⟨d, hd, hd2⟩ := mem_flatL.1 hx
    have := h2 d c x (by omega) (by omega) hd2 hy
    omega
/-- Lists whose blocks are free ones, each once, as many as there are: the arena is right. -/
theorem right_count {b : List UInt8} {bs : List Blk} {ls : Nat → List Nat} (hm : b.length ≤ 16384) (hw : walkB b = some bs) (h0 : numAt b 0 < 4194304) (ha : ∀ c, c < 22 → allB b c = some (ls c))
    (hin : ∀ c, c < 22 → ∀ o ∈ ls c, ∃ x ∈ bs, x.off = o ∧ x.used = false) (hnd : ∀ c, c < 22 → (ls c).Nodup) : (flatL ls 22).length = (freeOf bs).length ↔ Right b bs ls := by
  obtain ⟨hlen, ht⟩ := (walkB_tile b bs).1 hw
  have hsep : ∀ d e o, d < 22 → e < 22 → o ∈ ls d → o ∈ ls e → d = e := fun d e o hd he h1 h2 => by
    obtain ⟨x, hx, _, _, k1⟩ := memberB_some ((allB_inv (ha d hd)).2.2.2 _ h1).2
    obtain ⟨y, hy, _, _, k2⟩ := memberB_some ((allB_inv (ha e he)).2.2.2 _ h2).2
    rw [hx] at hy
    cases hy
    omega
  have hfn := flatL_nodup (c := 22) hnd hsep
  have hbn : ((freeOf bs).map (·.off)).Nodup := by
    unfold freeOf
    exact List.Pairwise.map _ (fun _ _ h => h) (List.Pairwise.filter _ ht.offs)
  obtain ⟨hle, hcov⟩ := nodup_cover (flatL ls 22) ((freeOf bs).map (·.off)) hfn hbn fun o ho => by
    obtain ⟨c, hc, ho⟩ := mem_flatL.1 ho
    obtain ⟨x, hx, h1, h2⟩ := hin c hc o ho
    exact List.mem_map.2 ⟨x, mem_freeOf.2 ⟨hx, h2⟩, h1⟩
  rw [List.length_map] at hle hcov
  constructor
  · intro he
    refine right_mk hm hw h0 ha hin hnd fun y hy hu => ?_
    obtain ⟨c, hc, hy2⟩ := mem_flatL.1 (hcov he y.off (List.mem_map.2 ⟨y, mem_freeOf.2 ⟨hy, hu⟩, rfl⟩))
    obtain ⟨x, hx, _, _, hcl⟩ := memberB_some ((allB_inv (ha c hc)).2.2.2 _ hy2).2
    have := (ht.mem hy).2.1
    rw [hx] at this
    cases this
    have : clsN y.size = c := by unfold clsN; rw [hcl]; rfl
    rw [this]; exact hy2
  · intro hR
    obtain ⟨h2, _⟩ := nodup_cover ((freeOf bs).map (·.off)) (flatL ls 22) hbn hfn fun o ho => by
      obtain ⟨x, hx, rfl⟩ := List.mem_map.1 ho
      obtain ⟨hx, hu⟩ := mem_freeOf.1 hx
      exact mem_flatL.2 ⟨_, (clsN_lt (hR.good.mem hx).2.1).1, hR.cover x hx hu⟩
    rw [List.length_map] at h2
    omega
end Go.Own

/- Lists of free blocks of bytes: the reference's Find and Rebuild. -/
namespace Go.Proofs.Ytjijniillehfoaa
open Go Go.RowKit Go.Own
set_option linter.unusedVariables false
set_option maxRecDepth 100000
section
variable {B : Nat} {w0 w : World} {l : List Ob} {i n cp : Nat} {a : Option Addr} {b : List UInt8}
theorem firstFit_mem {b : List UInt8} {S o : Nat} : ∀ {L : List Nat}, firstFit b S L = some o → o ∈ L
  | [], h => by cases h
  | q :: L, h => by
    rw [firstFit_cons] at h
    split at h
    · split at h
      · cases h; exact List.mem_cons_self ..
      · exact List.mem_cons_of_mem _ (firstFit_mem h)
    · exact List.mem_cons_of_mem _ (firstFit_mem h)
/-- What the reference's Find tells. -/
def fnrV (x : Option Nat) : Value := match x with | none => .tuple #[.int .i64 0, .bool false] | some o => .tuple #[.int .i64 (o : Nat), .bool true]
set_option maxHeartbeats 8000000 in
theorem rl_Find (h : St B w0 w l) (hi : l[i]? = some (AsO a n cp b)) (hsm : b.length ≤ 16384) (S : Nat) (hs : isSize (S : Int) = true) :
    Calls Try.prog 95 #[.slice a n cp, .int .i64 S] w fun e w' => e = .returned (fnrV (findB b S)) ∧ St B w0 w' l := by
  have hsz := (isSize_iff _).1 hs
  have kc0 := ref_Class w (S : Int) (by omega) (by omega)
  have hcs := cls_size hs
  obtain ⟨C, hC⟩ : ∃ C : Nat, cls S = C := ⟨(cls S).toNat, by omega⟩
  have hF : findB b S = findFrom b S (22 - C) C := by unfold findB; rw [hC, Int.toNat_natCast]
  rw [hC] at kc0 hcs
  obtain ⟨R, hR⟩ : ∃ R, findB b S = R := ⟨_, rfl⟩
  rw [hR] at hF ⊢
  have KC := Lib.hid kc0
  have H := Lib.hid h; have HF := Lib.hid hF; have HI := Lib.hid hi; have HSM := Lib.hid hsm
  have hC22 : C ≤ 22 := by omega
  clear kc0 hs h hF hC hR hcs hi
  go_enter Try.func95, Try.ntmps95
  go_wp2_with fail
  have kc := KC.out
  with_reducible refine kc.mono ?_
  clear kc
  rintro e w' ⟨rfl, rfl⟩
  go_wp2
  go_loopw [6] (fun vc wr => ∃ f c : Nat, vc = .int .i64 c ∧ c + f = 22 ∧ R = findFrom b S f c ∧ St B w0 wr l) (fun vc _ => 22 - (intOf vc).toNat)
  case atStart => exact ⟨22 - C, C, rfl, by omega, HF.out, H.out⟩
  case round =>
    obtain ⟨f, c, rfl, hcf, hR, hS⟩ := hrel
    cases f with
    | zero =>
      obtain rfl : c = 22 := by omega
      have HR := Lib.hid (show R = some 0 from hR); have HS := Lib.hid hS
      clear hR hS
      go_wp2
      go_ret2
      exact ⟨by rw [HR.out]; rfl, HS.out⟩
    | succ f =>
      have hc : c < 22 := by omega
      rw [findFrom_succ] at hR
      have ka := rl_All hS HI.out hsm c hc
      have d2 : decide ((c : Int) < 22) = true := decide_eq_true (by omega)
      cases hA : allB b c with
      | none =>
        rw [hA] at hR
        rw [hA, show (none : Option (List Nat)).isSome = false from rfl] at ka
        have HR := Lib.hid (show R = none from hR); have KA := Lib.hid ka
        clear hR hS ka hA
        go_wp2_with fail
        have kc := KA.out
        with_reducible refine kc.mono ?_
        clear kc
        rintro e w4 ⟨v4', rfl, t4⟩
        have T4 := Lib.hid t4
        clear t4
        go_wp2
        go_ret2
        exact ⟨by rw [HR.out]; rfl, T4.out.tail⟩
      | some L =>
        rw [hA] at hR
        rw [hA, show (some L).isSome = true from rfl, Option.getD_some] at ka
        simp only at hR
        have hmem : ∀ o ∈ L, ∃ x, blkAt b o = some x := fun o ho => by
          obtain ⟨x, hx, _⟩ := memberB_some ((allB_inv hA).2.2.2 o ho).2
          exact ⟨x, hx⟩
        have HR := Lib.hid hR; have KA := Lib.hid ka; have HMEM := Lib.hid hmem
        clear hR hS ka hA hmem
        go_wp2_with fail
        have kc := KA.out
        with_reducible refine kc.mono ?_
        clear kc
        rintro e w4 ⟨v4', rfl, t4⟩
        have T4 := Lib.hid t4
        clear t4
        obtain ⟨a4, c4, e4, hs4⟩ := ints_slice T4.out (i := 0) rfl
        subst e4
        have hLb := Sl.cap hs4; have hLr := Sl.room hs4
        clear hs4
        go_wp2
        go_loopw [9] (fun vk wr => ∃ k : Nat, k ≤ L.length ∧ vk = .int .i64 k ∧ (R = match firstFit b S (L.drop k) with | some o => some o | none => findFrom b S f (c + 1)) ∧ St B w0 wr (IntsO (.slice a4 L.length c4) L :: l)) (fun vk _ => L.length - (intOf vk).toNat)
        case atStart => exact ⟨0, Nat.zero_le _, rfl, HR.out, T4.out⟩
        case round =>
          obtain ⟨k, hk, rfl, hR, hS⟩ := hrel
          clear T4 HR
          by_cases hlt : k < L.length
          · obtain ⟨a5, c5, e5, hs5⟩ := ints_slice hS (i := 0) rfl
            obtain ⟨bb, bo, e6, hcell⟩ := Sl.cells hs5 k (.int .i64 (L[k] : Nat)) (by simp [hlt])
            cases e5
            subst e6
            have d3 : decide ((k : Int) < (L.length : Int)) = true := decide_eq_true (by omega)
            rw [List.drop_eq_getElem_cons hlt, firstFit_cons] at hR
            have hcell : wr.cell? ⟨bb, bo + k, none⟩ = some (.int .i64 (L[k] : Nat)) := hcell
            obtain ⟨x, hx⟩ := HMEM.out L[k] (List.getElem_mem hlt)
            have hget : ∀ w', St B w0 w' (IntsO (.slice (some ⟨bb, bo, none⟩) L.length c4) L :: l) → w'.cell? ⟨bb, bo + k, none⟩ = some (.int .i64 (L[k] : Nat)) := fun w' h' => by
              obtain ⟨a6, c6, e6, hs6⟩ := ints_slice h' (i := 0) rfl
              obtain ⟨bb2, bo2, e7, hcell2⟩ := Sl.cells hs6 k (.int .i64 (L[k] : Nat)) (by simp [hlt])
              cases e6; cases e7; exact hcell2
            generalize L[k] = O at *
            have HGET := Lib.hid hget
            have kg := rb_Get hS a n cp b (fun w' h' => h'.as (i := i + 1) HI.out) (O : Int)
            rw [blkI_nat] at kg
            rw [hx] at hR
            simp only at hR
            rw [hx, show bkV (some x) = .agg #[.int .i64 x.off, .int .i64 x.size, .bool x.used] from rfl, show (some x).isSome = true from rfl] at kg
            have KG := Lib.hid kg
            clear hs5 hS kg hx hget
            by_cases hle : S ≤ x.size
            · have d4 : decide ((x.size : Int) ≥ (S : Int)) = true := decide_eq_true (by omega)
              rw [if_pos hle] at hR
              have HR := Lib.hid (show R = some O from hR)
              clear hR
              go_wp2_with fail
              have kc := KG.out
              with_reducible refine kc.mono ?_
              clear kc
              rintro e w6 ⟨rfl, t6⟩
              have T6 := Lib.hid t6
              clear t6
              clear hcell
              go_wp2_with (first | (refine bk_alloc T6.out rfl rfl ?_; intro g7 w7 h7; have T7 := Lib.hid h7; clear h7) | (refine bk_store T7.out 0 rfl rfl _ _ rfl rfl x.off x.size x.used rfl ?_; intro w8 h8; have T8 := Lib.hid h8; clear h8 T7; have k1 : w8.cell? ⟨g7, 1, none⟩ = some (.int .i64 x.size) := (T8.out.row (i := 0) rfl).cell 1; have hcell := HGET.out w8 T8.out.tail))
              go_ret2
              exact ⟨by rw [HR.out]; rfl, T8.out.tail.tail⟩
            · have d4 : decide ((x.size : Int) ≥ (S : Int)) = false := decide_eq_false (by omega)
              rw [if_neg hle] at hR
              have HR := Lib.hid hR
              clear hR
              go_wp2_with fail
              have kc := KG.out
              with_reducible refine kc.mono ?_
              clear kc
              rintro e w6 ⟨rfl, t6⟩
              have T6 := Lib.hid t6
              clear t6
              clear hcell
              go_wp2_with (first | (refine bk_alloc T6.out rfl rfl ?_; intro g7 w7 h7; have T7 := Lib.hid h7; clear h7) | (refine bk_store T7.out 0 rfl rfl _ _ rfl rfl x.off x.size x.used rfl ?_; intro w8 h8; have T8 := Lib.hid h8; clear h8 T7; have k1 : w8.cell? ⟨g7, 1, none⟩ = some (.int .i64 x.size) := (T8.out.row (i := 0) rfl).cell 1))
              exact ⟨⟨k + 1, hlt, by go_num, HR.out, T8.out.tail⟩, by simp [intOf]; omega⟩
          · obtain rfl : k = L.length := by omega
            rw [List.drop_length] at hR
            have HR := Lib.hid (show R = findFrom b S f (c + 1) from hR); have HS := Lib.hid hS
            have d3 : decide ((L.length : Int) < (L.length : Int)) = false := decide_eq_false (by omega)
            clear hR hS
            go_wp2
            exact ⟨⟨f, c + 1, by go_num, by omega, HR.out, HS.out.tail⟩, by simp [intOf]; omega⟩
set_option maxHeartbeats 8000000 in
theorem rl_Rebuild (h : St B w0 w l) (hi : l[i]? = some (AsO a n cp b)) (hsm : b.length ≤ 16384) :
    Calls Try.prog 85 #[.slice a n cp] w fun e w' => ∃ v, e = .returned (.tuple #[v, .bool (rebuildB b).isSome]) ∧ AsV B w0 l ((rebuildB b).getD b) v w' := by
  have hb0 := h.as hi
  have hn := hb0.len
  subst hn
  have kw := rb_Walk h a _ cp b (fun w' h' => h'.as hi) hsm
  have H := Lib.hid h; have HI := Lib.hid hi
  clear h
  cases hW : walkB b with
  | none =>
    have hr : rebuildB b = none := by unfold rebuildB; rw [hW]; rfl
    rw [hW] at kw
    rw [hr]
    have KW := Lib.hid kw
    clear kw hr hW hb0 hi
    go_enter Try.func85, Try.ntmps85
    go_wp2_with fail
    have kc := KW.out
    with_reducible refine kc.mono ?_
    clear kc
    rintro e w3 ⟨v3', rfl, t3⟩
    have T3 := Lib.hid t3
    clear t3
    go_wp2
    go_ret2
    exact ⟨_, rfl, a, cp, rfl, T3.out.tail.again HI.out⟩
  | some L =>
    have hr : rebuildB b = some (putAll (clearB b) L) := by unfold rebuildB; rw [hW]; rfl
    rw [hW, Option.getD_some] at kw
    rw [hr, Option.getD_some]
    have KW := Lib.hid kw
    have hLl := walk_len hW hsm
    obtain ⟨hlen, htile⟩ := (walkB_tile b L).1 hW
    have hpre := putAll_pre htile hlen hsm
    have HP := Lib.hid hpre
    have hc0 : (clearB b).length = b.length := clearB_length hlen
    obtain ⟨a9, c9, hsl, hsb⟩ := piece_fromA (P := Try.prog) (t := 31) (e := 5) Try.underlying31 (by kernel_rfl) hb0 .i64 184 184 rfl hlen
    have HSB := Lib.hid hsb
    have hdl : (b.drop 184).length = b.length - 184 := List.length_drop ..
    have hcl : List.replicate 184 (0 : UInt8) ++ b.drop 184 = clearB b := rfl
    have hzl : (List.replicate 184 (0 : UInt8)).length = 184 := List.length_replicate ..
    have hmk := fun (w1 : World) (l1 : List Ob) (h1 : St B w0 w1 l1) => mk_st h1 (184 : Int) 184 rfl (by decide)
    generalize List.replicate 184 (0 : UInt8) = z184 at *
    generalize hrest : b.drop 184 = rest at *
    have HMK := Lib.hid hmk; have HCL := Lib.hid hcl; have HZL := Lib.hid hzl; have HDL := Lib.hid hdl; have HSM := Lib.hid hsm
    have HC0 := Lib.hid hc0
    have HPL : Hid (∀ k, k ≤ L.length → (putAll (clearB b) (L.take k)).length = b.length) := Lib.hid fun k hk => by rw [(hpre k hk).1.len]
    clear kw hr hW htile hpre hsb hcl hzl hdl hmk hrest hb0 hi hc0
    go_enter Try.func85, Try.ntmps85
    go_wp2_with fail
    have kc := KW.out
    with_reducible refine kc.mono ?_
    clear kc
    rintro e w3 ⟨v3', rfl, t3⟩
    have T3 := Lib.hid t3
    clear t3
    obtain ⟨a3, c3, e3, _⟩ := bls_slice T3.out (i := 0) rfl
    subst e3
    go_wp2
    obtain ⟨g4, w4, hmk, h4⟩ := HMK.out _ _ T3.out.drew
    have H4 := Lib.hid h4
    clear h4
    refine flows_begin (S := fun _ => True) hmixed 5 rfl (by repeat (first | with_reducible refine ps_then ?_ | with_reducible refine ps_block ?_ | with_reducible exact ps_body | refine ps_then ?_ | refine ps_block ?_ | exact ps_body)) trivial (fun hps => ?_)
    simp only [List.replicate]
    refine flows_take 1 (v := ?_) (a' := ?_) hps rfl (by kernel_rfl) rfl ?_ ?_ ?_
    rotate_left 2
    · intro w' hk; go_simp; try rfl
    · simp only [Act.put, List.setIfInBounds_toArray, List.set_cons_succ, List.set_cons_zero]; try rfl
    refine flows_take 2 (v := ?_) (a' := ?_) hps rfl (by kernel_rfl) rfl ?_ ?_ ?_
    rotate_left 2
    · intro w' hk; go_simp; try rfl
    · simp only [Act.put, List.setIfInBounds_toArray, List.set_cons_succ, List.set_cons_zero]; try rfl
    refine flows_one 0 hps rfl (by kernel_rfl) rfl (wp_next (fun K hK => ?_))
    go_simp
    have kp := trivial
    refine hK _ _ ⟨kp, ?_⟩
    clear kp hK
    refine flows_one 3 hps rfl (by kernel_rfl) rfl (wp_next (fun K hK => ?_))
    refine app_st_at (.tmp 16) (.tmp 18) rfl H4.out 0 rfl rfl _ _ _ rest rfl (HSB.out w4 (H4.out.as (i := i + 2) HI.out)) (by rw [HZL.out]; have := HSM.out; omega) ?_
    intro v5 w5 h5
    rw [HCL.out] at h5
    have H5 := Lib.hid h5
    clear h5
    have kp := trivial
    refine hK _ _ ⟨kp, ?_⟩
    clear kp hK
    refine flows_take 4 (v := ?_) (a' := ?_) hps rfl (by kernel_rfl) rfl ?_ ?_ ?_
    rotate_left 2
    · intro w' hk; go_simp; try rfl
    · simp only [Act.put, List.setIfInBounds_toArray, List.set_cons_succ, List.set_cons_zero]; try rfl
    refine flows_done hps (by kernel_rfl) ?_
    obtain ⟨a5, c5, rfl, h6⟩ := H5.out.ownAs
    have H6 := Lib.hid h6
    clear h6 H5 H4
    go_wp2
    go_loopw [6, 7] (fun vo vi wr => ∃ k : Nat, k ≤ L.length ∧ vi = .int .i64 k ∧ AsV B w0 (BlsO (.slice a3 L.length c3) L :: l) (putAll (clearB b) (L.take k)) vo wr) (fun _ vi _ => L.length - (intOf vi).toNat)
    case atStart => exact ⟨0, Nat.zero_le _, rfl, a5, c5, rfl, H6.out⟩
    case round =>
      obtain ⟨k, hk, rfl, a7, c7, rfl, hS⟩ := hrel
      clear H6 T3
      by_cases hlt : k < L.length
      · obtain ⟨bb, bo, rfl, hr⟩ := bl_at (bls_sl hS (i := 1) rfl).2 k hlt
        have hpl := HPL.out k hk
        obtain ⟨_, _, hput⟩ := HP.out k hk
        have hput := hput hlt
        have hsn : putAll (clearB b) (L.take (k + 1)) = if L[k].used then putAll (clearB b) (L.take k) else (putB (putAll (clearB b) (L.take k)) L[k].off).getD (putAll (clearB b) (L.take k)) := by
          rw [List.take_succ_eq_append_getElem hlt, putAll_snoc]
        generalize L[k] = x at *
        generalize hy : putAll (clearB b) (L.take k) = y at *
        obtain ⟨r0, r1, r2⟩ := bl_cells hr
        have HS := Lib.hid hS; have HPU := Lib.hid hput; have HSN := Lib.hid hsn; have HYL := Lib.hid hpl
        clear hS hr hput hsn hpl hy
        cases hu : x.used with
        | true =>
          have hn : putAll (clearB b) (L.take (k + 1)) = y := by rw [HSN.out, hu]; rfl
          have HN := Lib.hid hn
          rw [hu] at r2
          clear hn
          go_wp2
          refine ⟨⟨k + 1, hlt, by go_num, a7, c7, ?_⟩, by simp [intOf]; omega⟩
          rw [HN.out]; exact ⟨rfl, HS.out⟩
        | false =>
          obtain ⟨b', hb1, hb2⟩ := HPU.out hu
          have hP : putI y (x.off : Int) = some b' := by unfold putI; rw [if_pos (Int.natCast_nonneg _), Int.toNat_natCast]; exact hb1
          have HPI := Lib.hid hP; have HN := Lib.hid hb2
          rw [hu] at r2
          clear hb1 hb2 hP
          go_wp2_with fail
          have kc := rl_Put HS.out (i := 0) rfl (by rw [HYL.out]; exact HSM.out) (x.off : Int)
          rw [HPI.out, Option.getD_some] at kc
          with_reducible refine kc.mono ?_
          clear kc
          rintro e w8 ⟨v8', rfl, t8⟩
          have T8 := Lib.hid t8
          clear t8
          obtain ⟨a8, c8, rfl, h9⟩ := T8.out
          have H9 := Lib.hid h9.drop2
          clear h9
          go_wp2
          refine ⟨⟨k + 1, hlt, by go_num, ?_⟩, by simp [intOf]; omega⟩
          rw [HN.out]; exact ⟨a8, c8, rfl, H9.out⟩
      · obtain rfl : k = L.length := by omega
        rw [List.take_length] at hS ⊢
        have HS := Lib.hid hS
        clear hS
        go_wp2
        go_ret2
        exact ⟨_, rfl, a7, c7, rfl, HS.out.drop2⟩
end
end Go.Proofs.Ytjijniillehfoaa

/- Is an arena right: the reference's Check. -/
namespace Go.Own
open Go Go.RowKit
def foundC (L : List Blk) (o : Nat) : Bool := L.any fun x => decide (x.off = o) && !x.used
theorem foundC_snoc (L : List Blk) (x : Blk) (o : Nat) : foundC (L ++ [x]) o = (foundC L o || (decide (x.off = o) && !x.used)) := by unfold foundC; rw [List.any_append]; simp
theorem foundC_iff {L : List Blk} {o : Nat} : foundC L o = true ↔ ∃ x ∈ L, x.off = o ∧ x.used = false := by
  unfold foundC; rw [List.any_eq_true]; simp
theorem freeOf_snoc (L : List Blk) (x : Blk) : (freeOf (L ++ [x])).length = (freeOf L).length + (if x.used then 0 else 1) := by
  unfold freeOf
  rw [List.filter_append, List.length_append]
  cases hu : x.used <;> simp [hu]
theorem freeOf_le (L : List Blk) : (freeOf L).length ≤ L.length := List.length_filter_le _ _
theorem flatL_length (ls : Nat → List Nat) (c : Nat) : (flatL ls (c + 1)).length = (flatL ls c).length + (ls c).length := by rw [flatL, List.length_append]
theorem nodup_of_count {A : List Nat} (h : ∀ j, (hj : j < A.length) → A.count A[j] = 1) : A.Nodup := by
  rw [List.nodup_iff_count]
  intro a
  by_cases ha : a ∈ A
  · obtain ⟨j, hj, rfl⟩ := List.mem_iff_getElem.1 ha
    rw [h j hj]; exact Nat.le_refl _
  · rw [List.count_eq_zero_of_not_mem ha]; exact Nat.zero_le _
end Go.Own
namespace Go.Proofs.Ytjijniillehfoaa
open Go Go.RowKit Go.Own
set_option linter.unusedVariables false
set_option maxRecDepth 100000
section
variable {B : Nat} {w0 w : World} {l : List Ob} {i n cp : Nat} {a : Option Addr} {b : List UInt8}
theorem ints_at (h : St B w0 w l) {i : Nat} {a : Option Addr} {c : Nat} {n : Nat} {L : List Nat} (hi : l[i]? = some (IntsO (.slice a n c) L)) (k : Nat) (hk : k < L.length) : ∃ b o, a = some ⟨b, o, none⟩ ∧ w.cell? ⟨b, o + k, none⟩ = some (.int .i64 (L[k] : Nat)) := by
  obtain ⟨a5, c5, e5, hs5⟩ := ints_slice h hi
  cases e5
  exact Sl.cells hs5 k (.int .i64 (L[k] : Nat)) (by simp [hk])
theorem rl_in (h : St B w0 w l) {a : Option Addr} {c : Nat} {L : List Nat} (hi : l[i]? = some (IntsO (.slice a L.length c) L)) (x : Nat) (hL : L.length ≤ 1000000) :
    Calls Try.prog 184 #[.slice a L.length c, .int .i64 x] w fun e w' => e = .returned (.int .i64 (L.count x : Nat)) ∧ w = w' := by
  have H := Lib.hid h; have HI := Lib.hid hi
  clear h hi
  go_enter Try.func184, Try.ntmps184
  go_wp2
  go_loopw [5, 6] (fun vk vi wr => ∃ k q : Nat, k ≤ L.length ∧ q ≤ k ∧ vi = .int .i64 k ∧ vk = .int .i64 q ∧ q = (L.take k).count x ∧ wr = w) (fun _ vi _ => L.length - (intOf vi).toNat)
  case atStart => exact ⟨0, 0, Nat.zero_le _, Nat.le_refl _, rfl, rfl, by simp, rfl⟩
  case round =>
    obtain ⟨k, q, hk, hqk, rfl, rfl, hq, rfl⟩ := hrel
    by_cases hlt : k < L.length
    · have d1 : decide ((k : Int) < (L.length : Int)) = true := decide_eq_true (by omega)
      obtain ⟨b1, o1, rfl, r1⟩ := ints_at H.out HI.out k hlt
      have hsn : (L.take (k + 1)).count x = (L.take k).count x + if L[k] == x then 1 else 0 := by
        rw [List.take_succ_eq_append_getElem hlt, List.count_append, List.count_singleton]
      rw [← hq] at hsn
      have u1 : IntKind.i64.wrap ((q : Int) + 1) = (q : Int) + 1 := IntWalk.i64_in _ (by omega)
      generalize L[k] = y at *
      have HSN := Lib.hid hsn
      clear hsn hq
      by_cases hy : y = x
      · have d2 : ((y : Int) == (x : Int)) = true := by rw [beq_iff_eq]; omega
        go_wp2
        exact ⟨⟨k + 1, q + 1, hlt, by omega, by go_num, rfl, by rw [HSN.out, if_pos (by rw [beq_iff_eq]; exact hy)], trivial⟩, by simp [intOf]; omega⟩
      · have d2 : ((y : Int) == (x : Int)) = false := by rw [beq_eq_false_iff_ne]; omega
        go_wp2
        exact ⟨⟨k + 1, q, hlt, by omega, by go_num, rfl, by rw [HSN.out, if_neg (by rw [beq_iff_eq]; exact hy), Nat.add_zero], trivial⟩, by simp [intOf]; omega⟩
    · obtain rfl : k = L.length := by omega
      rw [List.take_length] at hq
      have d1 : decide ((L.length : Int) < (L.length : Int)) = false := decide_eq_false (by omega)
      have HQ := Lib.hid hq
      clear hq
      go_wp2
      go_ret
      exact ⟨by rw [← HQ.out]; rfl, rfl⟩
/-- What Check tells. -/
def ChkR (b : List UInt8) (r : Bool) : Prop := r = true ↔ IsRight b
theorem chk_no {b : List UInt8} (h : ¬ IsRight b) : ChkR b false := ⟨fun e => (by cases e), fun e => absurd e h⟩
theorem chk_yes {b : List UInt8} (h : IsRight b) : ChkR b true := ⟨fun _ => h, fun _ => rfl⟩
set_option maxHeartbeats 16000000 in
theorem rl_Check (h : St B w0 w l) (hi : l[i]? = some (AsO a n cp b)) (hsm : b.length ≤ 16384) :
    Calls Try.prog 84 #[.slice a n cp] w fun e w' => ∃ r, e = .returned (.bool r) ∧ ChkR b r ∧ St B w0 w' l := by
  have hb0 := h.as hi
  have hn := hb0.len
  subst hn
  have kw := rb_Walk h a _ cp b (fun w' h' => h'.as hi) hsm
  have H := Lib.hid h; have HI := Lib.hid hi; have HSM := Lib.hid hsm
  clear h hb0 hi
  cases hW : walkB b with
  | none =>
    have hr : ¬ IsRight b := fun ⟨bs, ls, hR, _⟩ => by rw [hR.walk] at hW; cases hW
    have HR := Lib.hid (chk_no hr)
    rw [hW] at kw
    have KW := Lib.hid kw
    clear kw hr hW
    go_enter Try.func84, Try.ntmps84
    go_wp2_with fail
    have kc := KW.out
    with_reducible refine kc.mono ?_
    clear kc
    rintro e w3 ⟨v3', rfl, t3⟩
    have T3 := Lib.hid t3
    clear t3
    go_wp2
    go_ret
    exact ⟨_, rfl, HR.out, T3.out.tail⟩
  | some L =>
    rw [hW, Option.getD_some, show (some L).isSome = true from rfl] at kw
    have hLs := walk_len hW hsm
    have KW := Lib.hid kw; have HW := Lib.hid hW
    have h184 : 184 ≤ b.length := ((walkB_tile b L).1 hW).1
    have hV := numAt_lt b 0
    have kn := fun w' (hb : Bs w' a b.length cp b) => rl_num w' a _ cp b hb 0 0 rfl (by omega)
    obtain ⟨V, hVe⟩ : ∃ V, V = numAt b 0 := ⟨_, rfl⟩
    rw [← hVe] at hV kn
    have KN := Lib.hid kn; have HVE := Lib.hid hVe
    clear kw hW kn hVe h184
    go_enter Try.func84, Try.ntmps84
    go_wp2_with fail
    have kc := KW.out
    with_reducible refine kc.mono ?_
    clear kc
    rintro e w3 ⟨v3', rfl, t3⟩
    have T3 := Lib.hid t3
    clear t3
    obtain ⟨a3, c3, e3, _⟩ := bls_slice T3.out (i := 0) rfl
    subst e3
    go_wp2_with fail
    have kc := KN.out w3 (T3.out.as (i := i + 1) HI.out)
    with_reducible refine kc.mono ?_
    clear kc
    rintro e w' ⟨rfl, rfl⟩
    by_cases hV2 : 4194304 ≤ V
    · have d1 : decide ((V : Int) ≥ 4194304) = true := decide_eq_true (by omega)
      have hr : ¬ IsRight b := fun ⟨bs, ls, hR, _⟩ => by have := hR.lists.w0; rw [← HVE.out] at this; omega
      have HR := Lib.hid (chk_no hr)
      clear hr
      go_wp2
      go_ret
      exact ⟨_, rfl, HR.out, T3.out.tail⟩
    have d1 : decide ((V : Int) ≥ 4194304) = false := decide_eq_false (by omega)
    go_wp2
    clear d1
    go_loopw [5, 6] (fun vf vi wr => ∃ k : Nat, k ≤ L.length ∧ vi = .int .i64 k ∧ vf = .int .i64 ((freeOf (L.take k)).length : Nat) ∧ Apart (L.take k) ∧ St B w0 wr (BlsO (.slice a3 L.length c3) L :: l)) (fun _ vi _ => L.length - (intOf vi).toNat)
    case atStart => exact ⟨0, Nat.zero_le _, rfl, rfl, trivial, T3.out⟩
    case round =>
      obtain ⟨k, hk, rfl, rfl, hAp, hS⟩ := hrel
      clear T3
      have hfl : (freeOf (L.take k)).length ≤ k := Nat.le_trans (freeOf_le _) (List.length_take_le ..)
      by_cases hlt : k < L.length
      · have d2 : decide ((k : Int) < (L.length : Int)) = true := decide_eq_true (by omega)
        obtain ⟨bb, bo, rfl, hr⟩ := bl_at (bls_sl hS (i := 0) rfl).2 k hlt
        have hprev : ∀ j, k = j + 1 → ∃ hj : j < L.length, wr.cell? ⟨bb, bo + j * 3 + 2, none⟩ = some (.bool L[j].used) := fun j hj => by
          have hj2 : j < L.length := by omega
          obtain ⟨bb2, bo2, e2, hr2⟩ := bl_at (bls_sl hS (i := 0) rfl).2 j hj2
          cases e2
          exact ⟨hj2, (bl_cells hr2).2.2⟩
        have hstep := fun hn => Apart.step hlt hAp hn
        have hnot : ∀ j, (hj : k = j + 1) → (hj2 : j < L.length) → L[j].used = false → L[k].used = false → ¬ Apart L := fun j hj hj2 h1 h2 => by
          subst hj; exact Apart.not hlt h1 h2
        have hsn := freeOf_snoc (L.take k) L[k]
        rw [← List.take_succ_eq_append_getElem hlt] at hsn
        generalize L[k] = x at *
        obtain ⟨r0, r1, r2⟩ := bl_cells hr
        obtain ⟨Q, hQ⟩ : ∃ Q, Q = (freeOf (L.take k)).length := ⟨_, rfl⟩
        rw [← hQ] at hsn hfl ⊢
        have HS := Lib.hid hS; have HST := Lib.hid hstep; have HSN := Lib.hid hsn
        clear hS hr hstep hsn hQ r0 r1 hAp
        have u1 : IntKind.i64.wrap ((Q : Int) + 1) = (Q : Int) + 1 := IntWalk.i64_in _ (by omega)
        cases hu : x.used with
        | true =>
          rw [hu] at r2
          have hst : Apart (L.take (k + 1)) := HST.out fun _ _ _ => .inr hu
          have hsn : (freeOf (L.take (k + 1))).length = Q := by rw [HSN.out, hu]; rfl
          have HA := Lib.hid hst; have HQ := Lib.hid hsn
          clear hst hsn hprev hnot
          cases k with
          | zero =>
            go_wp2
            exact ⟨⟨0 + 1, hlt, by go_num, by rw [HQ.out], HA.out, HS.out⟩, by simp [intOf]; omega⟩
          | succ j =>
            go_wp2
            exact ⟨⟨j + 1 + 1, hlt, by go_num, by rw [HQ.out], HA.out, HS.out⟩, by simp [intOf]; omega⟩
        | false =>
          rw [hu] at r2
          have hsn : (freeOf (L.take (k + 1))).length = Q + 1 := by rw [HSN.out, hu]; rfl
          have HQ := Lib.hid hsn
          clear hsn
          cases k with
          | zero =>
            have d3 : decide (((0 : Nat) : Int) > 0) = false := by decide
            have hst : Apart (L.take (0 + 1)) := HST.out fun j hj _ => by omega
            have HA := Lib.hid hst
            clear hst hprev hnot
            go_wp2
            exact ⟨⟨0 + 1, hlt, by go_num, by rw [HQ.out]; go_num, HA.out, HS.out⟩, by simp [intOf]; omega⟩
          | succ j =>
            have d3 : decide (((j + 1 : Nat) : Int) > 0) = true := decide_eq_true (by omega)
            have u2 : IntKind.i64.wrap (((j + 1 : Nat) : Int) - 1) = (j : Int) := by rw [IntWalk.i64_in _ (by omega)]; omega
            obtain ⟨hj, r3⟩ := hprev j rfl
            have hnot := hnot j rfl hj
            have hst := fun (hh : L[j].used = true) => HST.out (fun j' hj' hj2 => by cases hj'; exact .inl hh)
            generalize L[j] = y at *
            have HST2 := Lib.hid hst
            clear hprev hst
            cases hy : y.used with
            | true =>
              have HA := Lib.hid (HST2.out hy)
              rw [hy] at r3
              clear hnot
              go_wp2
              exact ⟨⟨j + 1 + 1, hlt, by go_num, by rw [HQ.out]; go_num, HA.out, HS.out⟩, by simp [intOf]; omega⟩
            | false =>
              have hr : ¬ IsRight b := fun ⟨bs, ls, hR, hap⟩ => by
                have e := hR.walk
                rw [HW.out] at e
                cases e
                exact hnot hy hu hap
              have HR := Lib.hid (chk_no hr)
              rw [hy] at r3
              clear hnot hr
              go_wp2
              go_ret
              exact ⟨_, rfl, HR.out, HS.out.tail⟩
      · obtain rfl : k = L.length := by omega
        rw [List.take_length] at hAp hfl ⊢
        have d2 : decide ((L.length : Int) < (L.length : Int)) = false := decide_eq_false (by omega)
        have HAP := Lib.hid hAp; have HS := Lib.hid hS
        obtain ⟨Q, hQ⟩ : ∃ Q, Q = (freeOf L).length := ⟨_, rfl⟩
        rw [← hQ] at hfl ⊢
        have HQ := Lib.hid hQ
        clear hAp hS hQ
        go_wp2
        clear d2
        rename ∀ (a : Act) (w : World), _ → _ => hkeep
        revert hkeep
        repeat (rename ∀ (a : Act) (w : World), _ → _ => hgx; clear hgx)
        repeat (rename Exit → Act → World → Prop => hgx; clear hgx)
        intro hkeep
        go_loopw [5, 7] (fun vf vc wr => ∃ (c f : Nat) (ls : Nat → List Nat), c ≤ 22 ∧ vc = .int .i64 c ∧ vf = .int .i64 ((Q : Int) - f) ∧ f ≤ 1024 * c ∧ f = (flatL ls c).length ∧ (∀ d, d < c → allB b d = some (ls d)) ∧ (∀ d, d < c → ∀ o ∈ ls d, ∃ x ∈ L, x.off = o ∧ x.used = false) ∧ (∀ d, d < c → (ls d).Nodup) ∧ St B w0 wr (BlsO (.slice a3 L.length c3) L :: l)) (fun _ vc _ => 22 - (intOf vc).toNat)
        case atStart => exact ⟨0, 0, fun _ => [], Nat.zero_le _, rfl, by simp, Nat.zero_le _, rfl, fun d hd => by omega, fun d hd => by omega, fun d hd => by omega, HS.out⟩
        case round =>
          obtain ⟨c, f, ls, hc, rfl, rfl, hf, hfe, hall, hin, hnd, hS⟩ := hrel
          clear HS
          have HJ := Lib.hid (And.intro hfe (And.intro hall (And.intro hin hnd)))
          clear hfe hall hin hnd
          by_cases hlt : c < 22
          · have d2 : decide ((c : Int) < 22) = true := decide_eq_true (by omega)
            have ka := rl_All hS (i := i + 1) HI.out HSM.out c hlt
            cases hA : allB b c with
            | none =>
              have hr : ¬ IsRight b := fun ⟨bs, ls, hR, hap⟩ => by
                have e := hR.all hlt
                rw [hA] at e; cases e
              have HR := Lib.hid (chk_no hr)
              rw [hA, show (none : Option (List Nat)).isSome = false from rfl] at ka
              have KA := Lib.hid ka
              clear hS ka hA hr
              go_wp2_with fail
              have kc := KA.out
              with_reducible refine kc.mono ?_
              clear kc
              rintro e w4 ⟨v4', rfl, t4⟩
              have T4 := Lib.hid t4
              clear t4
              go_wp2
              go_ret
              exact ⟨_, rfl, HR.out, T4.out.tail.tail⟩
            | some A =>
              have hAl : A.length ≤ 1024 := by
                have := hA
                unfold allB at this
                split at this
                · cases this
                · split at this
                  · cases this
                  · exact (allFrom_inv _ _ _ _ this).2.2
              rw [hA, show (some A).isSome = true from rfl, Option.getD_some] at ka
              have KA := Lib.hid ka; have HA := Lib.hid hA
              clear hS ka hA
              go_wp2_with fail
              have kc := KA.out
              with_reducible refine kc.mono ?_
              clear kc
              rintro e w4 ⟨v4', rfl, t4⟩
              have T4 := Lib.hid t4
              clear t4
              obtain ⟨a4, c4, e4, hs4⟩ := ints_slice T4.out (i := 0) rfl
              subst e4
              have u1 : IntKind.i64.wrap ((Q : Int) - f - (A.length : Int)) = (Q : Int) - (f : Int) - (A.length : Int) := IntWalk.i64_in _ (by omega)
              clear hs4
              go_wp2
              clear u1 d2
              go_loopw [10] (fun vk wr => ∃ k : Nat, k ≤ A.length ∧ vk = .int .i64 k ∧ (∀ j, j < k → (hj : j < A.length) → foundC L A[j] = true ∧ A.count A[j] = 1) ∧ St B w0 wr (IntsO (.slice a4 A.length c4) A :: BlsO (.slice a3 L.length c3) L :: l)) (fun vk _ => A.length - (intOf vk).toNat)
              case atStart => exact ⟨0, Nat.zero_le _, rfl, fun j hj => by omega, T4.out⟩
              case round =>
                obtain ⟨k, hk, rfl, hok, hS⟩ := hrel
                clear T4
                have HOK := Lib.hid hok
                clear hok
                by_cases hltk : k < A.length
                · have d2 : decide ((k : Int) < (A.length : Int)) = true := decide_eq_true (by omega)
                  have hAk : ∃ O, A[k] = O := ⟨_, rfl⟩
                  obtain ⟨O, hO⟩ := hAk
                  have HO := Lib.hid hO
                  have HS := Lib.hid hS
                  clear hS hO
                  go_wp2
                  clear d2
                  go_loopw [11, 12] (fun vf vj wr => ∃ j : Nat, j ≤ L.length ∧ vj = .int .i64 j ∧ vf = .bool (foundC (L.take j) O) ∧ St B w0 wr (IntsO (.slice a4 A.length c4) A :: BlsO (.slice a3 L.length c3) L :: l)) (fun _ vj _ => L.length - (intOf vj).toNat)
                  case atStart => exact ⟨0, Nat.zero_le _, rfl, rfl, HS.out⟩
                  case round =>
                    obtain ⟨j, hj, rfl, rfl, hS⟩ := hrel
                    clear HS
                    by_cases hltj : j < L.length
                    · have d2 : decide ((j : Int) < (L.length : Int)) = true := decide_eq_true (by omega)
                      obtain ⟨b1, o1, rfl, r1⟩ := bl_at (bls_sl hS (i := 1) rfl).2 j hltj
                      obtain ⟨b2, o2, rfl, c2⟩ := ints_at hS (i := 0) rfl k hltk
                      rw [HO.out] at c2
                      have hsn := foundC_snoc (L.take j) L[j] O
                      rw [← List.take_succ_eq_append_getElem hltj] at hsn
                      generalize L[j] = x at *
                      obtain ⟨r0, _, r2⟩ := bl_cells r1
                      have kd := (Keep.refl (fun _ => False) wr).drew
                      have X0 := Lib.hid (mid_keep kd r0 (fun h => h)); have X2 := Lib.hid (mid_keep kd r2 (fun h => h)); have Y0 := Lib.hid (mid_keep kd c2 (fun h => h))
                      have HS := Lib.hid hS; have HSN := Lib.hid hsn
                      clear r0 r1 r2 c2 kd hS hsn
                      cases hfo : foundC (L.take j) O with
                      | true =>
                        have HN := Lib.hid (show foundC (L.take (j + 1)) O = true by rw [HSN.out, hfo]; rfl)
                        clear hfo
                        go_wp2
                        refine flowe_begin (F := fun _ => False) hmixed 22 rfl (by repeat (first | with_reducible refine ps_then ?_ | with_reducible refine ps_block ?_ | with_reducible exact ps_body | refine ps_then ?_ | refine ps_block ?_ | exact ps_body)) (fun hps => ?_)
                        simp only [List.replicate]
                        have kk := (Keep.refl (fun _ => False) (wr)).drew
                        refine flowe_take 0 (v := ?_) (a' := ?_) hps rfl (by kernel_rfl) rfl ?_ ?_ ?_
                        rotate_left 2
                        · intro w' hk; go_simp; try rfl
                        · simp only [Act.put, List.setIfInBounds_toArray, List.set_cons_succ, List.set_cons_zero]; try rfl
                        refine flowe_take 1 (v := ?_) (a' := ?_) hps rfl (by kernel_rfl) rfl ?_ ?_ ?_
                        rotate_left 2
                        · intro w' hk; go_simp; try rfl
                        · simp only [Act.put, List.setIfInBounds_toArray, List.set_cons_succ, List.set_cons_zero]; try rfl
                        refine flowe_skip 2 (a' := ?_) hps rfl (by kernel_rfl) rfl ?_ ?_
                        rotate_left 1
                        · simp only [Act.put, List.setIfInBounds_toArray, List.set_cons_succ, List.set_cons_zero]; try rfl
                        refine flowe_skip 3 (a' := ?_) hps rfl (by kernel_rfl) rfl ?_ ?_
                        rotate_left 1
                        · simp only [Act.put, List.setIfInBounds_toArray, List.set_cons_succ, List.set_cons_zero]; try rfl
                        refine flowe_skip 4 (a' := ?_) hps rfl (by kernel_rfl) rfl ?_ ?_
                        rotate_left 1
                        · simp only [Act.put, List.setIfInBounds_toArray, List.set_cons_succ, List.set_cons_zero]; try rfl
                        refine flowe_skip 5 (a' := ?_) hps rfl (by kernel_rfl) rfl ?_ ?_
                        rotate_left 1
                        · simp only [Act.put, List.setIfInBounds_toArray, List.set_cons_succ, List.set_cons_zero]; try rfl
                        refine flowe_skip 6 (a' := ?_) hps rfl (by kernel_rfl) rfl ?_ ?_
                        rotate_left 1
                        · simp only [Act.put, List.setIfInBounds_toArray, List.set_cons_succ, List.set_cons_zero]; try rfl
                        refine flowe_skip 7 (a' := ?_) hps rfl (by kernel_rfl) rfl ?_ ?_
                        rotate_left 1
                        · simp only [Act.put, List.setIfInBounds_toArray, List.set_cons_succ, List.set_cons_zero]; try rfl
                        refine flowe_skip 8 (a' := ?_) hps rfl (by kernel_rfl) rfl ?_ ?_
                        rotate_left 1
                        · simp only [Act.put, List.setIfInBounds_toArray, List.set_cons_succ, List.set_cons_zero]; try rfl
                        refine flowe_skip 9 (a' := ?_) hps rfl (by kernel_rfl) rfl ?_ ?_
                        rotate_left 1
                        · simp only [Act.put, List.setIfInBounds_toArray, List.set_cons_succ, List.set_cons_zero]; try rfl
                        refine flowe_skip 10 (a' := ?_) hps rfl (by kernel_rfl) rfl ?_ ?_
                        rotate_left 1
                        · simp only [Act.put, List.setIfInBounds_toArray, List.set_cons_succ, List.set_cons_zero]; try rfl
                        refine flowe_skip 11 (a' := ?_) hps rfl (by kernel_rfl) rfl ?_ ?_
                        rotate_left 1
                        · simp only [Act.put, List.setIfInBounds_toArray, List.set_cons_succ, List.set_cons_zero]; try rfl
                        refine flowe_skip 12 (a' := ?_) hps rfl (by kernel_rfl) rfl ?_ ?_
                        rotate_left 1
                        · simp only [Act.put, List.setIfInBounds_toArray, List.set_cons_succ, List.set_cons_zero]; try rfl
                        refine flowe_skip 13 (a' := ?_) hps rfl (by kernel_rfl) rfl ?_ ?_
                        rotate_left 1
                        · simp only [Act.put, List.setIfInBounds_toArray, List.set_cons_succ, List.set_cons_zero]; try rfl
                        refine flowe_skip 14 (a' := ?_) hps rfl (by kernel_rfl) rfl ?_ ?_
                        rotate_left 1
                        · simp only [Act.put, List.setIfInBounds_toArray, List.set_cons_succ, List.set_cons_zero]; try rfl
                        refine flowe_skip 15 (a' := ?_) hps rfl (by kernel_rfl) rfl ?_ ?_
                        rotate_left 1
                        · simp only [Act.put, List.setIfInBounds_toArray, List.set_cons_succ, List.set_cons_zero]; try rfl
                        refine flowe_skip 16 (a' := ?_) hps rfl (by kernel_rfl) rfl ?_ ?_
                        rotate_left 1
                        · simp only [Act.put, List.setIfInBounds_toArray, List.set_cons_succ, List.set_cons_zero]; try rfl
                        refine flowe_skip 17 (a' := ?_) hps rfl (by kernel_rfl) rfl ?_ ?_
                        rotate_left 1
                        · simp only [Act.put, List.setIfInBounds_toArray, List.set_cons_succ, List.set_cons_zero]; try rfl
                        refine flowe_skip 18 (a' := ?_) hps rfl (by kernel_rfl) rfl ?_ ?_
                        rotate_left 1
                        · simp only [Act.put, List.setIfInBounds_toArray, List.set_cons_succ, List.set_cons_zero]; try rfl
                        refine flowe_skip 19 (a' := ?_) hps rfl (by kernel_rfl) rfl ?_ ?_
                        rotate_left 1
                        · simp only [Act.put, List.setIfInBounds_toArray, List.set_cons_succ, List.set_cons_zero]; try rfl
                        refine flowe_take 20 (v := ?_) (a' := ?_) hps rfl (by kernel_rfl) rfl ?_ ?_ ?_
                        rotate_left 2
                        · intro w' hk; go_simp; try rfl
                        · simp only [Act.put, List.setIfInBounds_toArray, List.set_cons_succ, List.set_cons_zero]; try rfl
                        refine flowe_take 21 (v := ?_) (a' := ?_) hps rfl (by kernel_rfl) rfl ?_ ?_ ?_
                        rotate_left 2
                        · intro w' hk; go_simp; try rfl
                        · simp only [Act.put, List.setIfInBounds_toArray, List.set_cons_succ, List.set_cons_zero]; try rfl
                        refine flowe_done hps (by kernel_rfl) ?_
                        have HS2 := Lib.hid (HS.out.below (kk.below (Nat.le_refl _) fun _ _ h => h))
                        clear kk
                        go_wp2
                        exact ⟨⟨j + 1, hltj, by go_num, by rw [HN.out], HS2.out⟩, by simp [intOf]; omega⟩
                      | false =>
                        by_cases hxo : x.off = O
                        · have d3 : ((x.off : Int) == (O : Int)) = true := by rw [beq_iff_eq]; omega
                          have HN := Lib.hid (show foundC (L.take (j + 1)) O = !x.used by rw [HSN.out, hfo, decide_eq_true hxo]; simp)
                          clear hfo hxo
                          generalize x.used = xu at *
                          go_wp2
                          refine flowe_begin (F := fun _ => False) hmixed 22 rfl (by repeat (first | with_reducible refine ps_then ?_ | with_reducible refine ps_block ?_ | with_reducible exact ps_body | refine ps_then ?_ | refine ps_block ?_ | exact ps_body)) (fun hps => ?_)
                          simp only [List.replicate]
                          have kk := (Keep.refl (fun _ => False) (wr)).drew
                          refine flowe_take 0 (v := ?_) (a' := ?_) hps rfl (by kernel_rfl) rfl ?_ ?_ ?_
                          rotate_left 2
                          · intro w' hk; go_simp; try rfl
                          · simp only [Act.put, List.setIfInBounds_toArray, List.set_cons_succ, List.set_cons_zero]; try rfl
                          refine flowe_take 1 (v := ?_) (a' := ?_) hps rfl (by kernel_rfl) rfl ?_ ?_ ?_
                          rotate_left 2
                          · intro w' hk; go_simp; try rfl
                          · simp only [Act.put, List.setIfInBounds_toArray, List.set_cons_succ, List.set_cons_zero]; try rfl
                          refine flowe_take 2 (v := ?_) (a' := ?_) hps rfl (by kernel_rfl) rfl ?_ ?_ ?_
                          rotate_left 2
                          · intro w' hk; go_simp; try rfl
                          · simp only [Act.put, List.setIfInBounds_toArray, List.set_cons_succ, List.set_cons_zero]; try rfl
                          refine flowe_take 3 (v := ?_) (a' := ?_) hps rfl (by kernel_rfl) rfl ?_ ?_ ?_
                          rotate_left 2
                          · intro w' hk; go_simp; try rfl
                          · simp only [Act.put, List.setIfInBounds_toArray, List.set_cons_succ, List.set_cons_zero]; try rfl
                          refine flowe_take 4 (v := ?_) (a' := ?_) hps rfl (by kernel_rfl) rfl ?_ ?_ ?_
                          rotate_left 2
                          · intro w' hk; go_simp; try rfl
                          · simp only [Act.put, List.setIfInBounds_toArray, List.set_cons_succ, List.set_cons_zero]; try rfl
                          refine flowe_take 5 (v := ?_) (a' := ?_) hps rfl (by kernel_rfl) rfl ?_ ?_ ?_
                          rotate_left 2
                          · intro w' hk; go_simp; try rfl
                          · simp only [Act.put, List.setIfInBounds_toArray, List.set_cons_succ, List.set_cons_zero]; try rfl
                          refine flowe_take 6 (v := ?_) (a' := ?_) hps rfl (by kernel_rfl) rfl ?_ ?_ ?_
                          rotate_left 2
                          · intro w' hk; have c0 := mid_keep hk X0.out (fun h => h); go_simp; try rfl
                          · simp only [Act.put, List.setIfInBounds_toArray, List.set_cons_succ, List.set_cons_zero]; try rfl
                          refine flowe_take 7 (v := ?_) (a' := ?_) hps rfl (by kernel_rfl) rfl ?_ ?_ ?_
                          rotate_left 2
                          · intro w' hk; go_simp; try rfl
                          · simp only [Act.put, List.setIfInBounds_toArray, List.set_cons_succ, List.set_cons_zero]; try rfl
                          refine flowe_take 8 (v := ?_) (a' := ?_) hps rfl (by kernel_rfl) rfl ?_ ?_ ?_
                          rotate_left 2
                          · intro w' hk; go_simp; try rfl
                          · simp only [Act.put, List.setIfInBounds_toArray, List.set_cons_succ, List.set_cons_zero]; try rfl
                          refine flowe_take 9 (v := ?_) (a' := ?_) hps rfl (by kernel_rfl) rfl ?_ ?_ ?_
                          rotate_left 2
                          · intro w' hk; go_simp; try rfl
                          · simp only [Act.put, List.setIfInBounds_toArray, List.set_cons_succ, List.set_cons_zero]; try rfl
                          refine flowe_take 10 (v := ?_) (a' := ?_) hps rfl (by kernel_rfl) rfl ?_ ?_ ?_
                          rotate_left 2
                          · intro w' hk; have c0 := mid_keep hk Y0.out (fun h => h); go_simp; try rfl
                          · simp only [Act.put, List.setIfInBounds_toArray, List.set_cons_succ, List.set_cons_zero]; try rfl
                          refine flowe_take 11 (v := ?_) (a' := ?_) hps rfl (by kernel_rfl) rfl ?_ ?_ ?_
                          rotate_left 2
                          · intro w' hk; go_simp; try rfl
                          · simp only [Act.put, List.setIfInBounds_toArray, List.set_cons_succ, List.set_cons_zero]; try rfl
                          refine flowe_take 12 (v := ?_) (a' := ?_) hps rfl (by kernel_rfl) rfl ?_ ?_ ?_
                          rotate_left 2
                          · intro w' hk; go_simp; try rfl
                          · simp only [Act.put, List.setIfInBounds_toArray, List.set_cons_succ, List.set_cons_zero]; try rfl
                          refine flowe_take 13 (v := ?_) (a' := ?_) hps rfl (by kernel_rfl) rfl ?_ ?_ ?_
                          rotate_left 2
                          · intro w' hk; go_simp; try rfl
                          · simp only [Act.put, List.setIfInBounds_toArray, List.set_cons_succ, List.set_cons_zero]; try rfl
                          refine flowe_take 14 (v := ?_) (a' := ?_) hps rfl (by kernel_rfl) rfl ?_ ?_ ?_
                          rotate_left 2
                          · intro w' hk; go_simp; try rfl
                          · simp only [Act.put, List.setIfInBounds_toArray, List.set_cons_succ, List.set_cons_zero]; try rfl
                          refine flowe_take 15 (v := ?_) (a' := ?_) hps rfl (by kernel_rfl) rfl ?_ ?_ ?_
                          rotate_left 2
                          · intro w' hk; go_simp; try rfl
                          · simp only [Act.put, List.setIfInBounds_toArray, List.set_cons_succ, List.set_cons_zero]; try rfl
                          refine flowe_take 16 (v := ?_) (a' := ?_) hps rfl (by kernel_rfl) rfl ?_ ?_ ?_
                          rotate_left 2
                          · intro w' hk; go_simp; try rfl
                          · simp only [Act.put, List.setIfInBounds_toArray, List.set_cons_succ, List.set_cons_zero]; try rfl
                          refine flowe_take 17 (v := ?_) (a' := ?_) hps rfl (by kernel_rfl) rfl ?_ ?_ ?_
                          rotate_left 2
                          · intro w' hk; have c0 := mid_keep hk X2.out (fun h => h); go_simp; try rfl
                          · simp only [Act.put, List.setIfInBounds_toArray, List.set_cons_succ, List.set_cons_zero]; try rfl
                          refine flowe_take 18 (v := ?_) (a' := ?_) hps rfl (by kernel_rfl) rfl ?_ ?_ ?_
                          rotate_left 2
                          · intro w' hk; go_simp; try rfl
                          · simp only [Act.put, List.setIfInBounds_toArray, List.set_cons_succ, List.set_cons_zero]; try rfl
                          refine flowe_take 19 (v := ?_) (a' := ?_) hps rfl (by kernel_rfl) rfl ?_ ?_ ?_
                          rotate_left 2
                          · intro w' hk; go_simp; try rfl
                          · simp only [Act.put, List.setIfInBounds_toArray, List.set_cons_succ, List.set_cons_zero]; try rfl
                          refine flowe_take 20 (v := ?_) (a' := ?_) hps rfl (by kernel_rfl) rfl ?_ ?_ ?_
                          rotate_left 2
                          · intro w' hk; go_simp; try rfl
                          · simp only [Act.put, List.setIfInBounds_toArray, List.set_cons_succ, List.set_cons_zero]; try rfl
                          refine flowe_take 21 (v := ?_) (a' := ?_) hps rfl (by kernel_rfl) rfl ?_ ?_ ?_
                          rotate_left 2
                          · intro w' hk; go_simp; try rfl
                          · simp only [Act.put, List.setIfInBounds_toArray, List.set_cons_succ, List.set_cons_zero]; try rfl
                          refine flowe_done hps (by kernel_rfl) ?_
                          have HS2 := Lib.hid (HS.out.below (kk.below (Nat.le_refl _) fun _ _ h => h))
                          clear kk
                          go_wp2
                          exact ⟨⟨j + 1, hltj, by go_num, by rw [HN.out], HS2.out⟩, by simp [intOf]; omega⟩
                        · have d3 : ((x.off : Int) == (O : Int)) = false := by rw [beq_eq_false_iff_ne]; omega
                          have HN := Lib.hid (show foundC (L.take (j + 1)) O = false by rw [HSN.out, hfo, decide_eq_false hxo]; rfl)
                          clear hfo hxo
                          go_wp2
                          refine flowe_begin (F := fun _ => False) hmixed 22 rfl (by repeat (first | with_reducible refine ps_then ?_ | with_reducible refine ps_block ?_ | with_reducible exact ps_body | refine ps_then ?_ | refine ps_block ?_ | exact ps_body)) (fun hps => ?_)
                          simp only [List.replicate]
                          have kk := (Keep.refl (fun _ => False) (wr)).drew
                          refine flowe_take 0 (v := ?_) (a' := ?_) hps rfl (by kernel_rfl) rfl ?_ ?_ ?_
                          rotate_left 2
                          · intro w' hk; go_simp; try rfl
                          · simp only [Act.put, List.setIfInBounds_toArray, List.set_cons_succ, List.set_cons_zero]; try rfl
                          refine flowe_take 1 (v := ?_) (a' := ?_) hps rfl (by kernel_rfl) rfl ?_ ?_ ?_
                          rotate_left 2
                          · intro w' hk; go_simp; try rfl
                          · simp only [Act.put, List.setIfInBounds_toArray, List.set_cons_succ, List.set_cons_zero]; try rfl
                          refine flowe_take 2 (v := ?_) (a' := ?_) hps rfl (by kernel_rfl) rfl ?_ ?_ ?_
                          rotate_left 2
                          · intro w' hk; go_simp; try rfl
                          · simp only [Act.put, List.setIfInBounds_toArray, List.set_cons_succ, List.set_cons_zero]; try rfl
                          refine flowe_take 3 (v := ?_) (a' := ?_) hps rfl (by kernel_rfl) rfl ?_ ?_ ?_
                          rotate_left 2
                          · intro w' hk; go_simp; try rfl
                          · simp only [Act.put, List.setIfInBounds_toArray, List.set_cons_succ, List.set_cons_zero]; try rfl
                          refine flowe_take 4 (v := ?_) (a' := ?_) hps rfl (by kernel_rfl) rfl ?_ ?_ ?_
                          rotate_left 2
                          · intro w' hk; go_simp; try rfl
                          · simp only [Act.put, List.setIfInBounds_toArray, List.set_cons_succ, List.set_cons_zero]; try rfl
                          refine flowe_take 5 (v := ?_) (a' := ?_) hps rfl (by kernel_rfl) rfl ?_ ?_ ?_
                          rotate_left 2
                          · intro w' hk; go_simp; try rfl
                          · simp only [Act.put, List.setIfInBounds_toArray, List.set_cons_succ, List.set_cons_zero]; try rfl
                          refine flowe_take 6 (v := ?_) (a' := ?_) hps rfl (by kernel_rfl) rfl ?_ ?_ ?_
                          rotate_left 2
                          · intro w' hk; have c0 := mid_keep hk X0.out (fun h => h); go_simp; try rfl
                          · simp only [Act.put, List.setIfInBounds_toArray, List.set_cons_succ, List.set_cons_zero]; try rfl
                          refine flowe_take 7 (v := ?_) (a' := ?_) hps rfl (by kernel_rfl) rfl ?_ ?_ ?_
                          rotate_left 2
                          · intro w' hk; go_simp; try rfl
                          · simp only [Act.put, List.setIfInBounds_toArray, List.set_cons_succ, List.set_cons_zero]; try rfl
                          refine flowe_take 8 (v := ?_) (a' := ?_) hps rfl (by kernel_rfl) rfl ?_ ?_ ?_
                          rotate_left 2
                          · intro w' hk; go_simp; try rfl
                          · simp only [Act.put, List.setIfInBounds_toArray, List.set_cons_succ, List.set_cons_zero]; try rfl
                          refine flowe_take 9 (v := ?_) (a' := ?_) hps rfl (by kernel_rfl) rfl ?_ ?_ ?_
                          rotate_left 2
                          · intro w' hk; go_simp; try rfl
                          · simp only [Act.put, List.setIfInBounds_toArray, List.set_cons_succ, List.set_cons_zero]; try rfl
                          refine flowe_take 10 (v := ?_) (a' := ?_) hps rfl (by kernel_rfl) rfl ?_ ?_ ?_
                          rotate_left 2
                          · intro w' hk; have c0 := mid_keep hk Y0.out (fun h => h); go_simp; try rfl
                          · simp only [Act.put, List.setIfInBounds_toArray, List.set_cons_succ, List.set_cons_zero]; try rfl
                          refine flowe_take 11 (v := ?_) (a' := ?_) hps rfl (by kernel_rfl) rfl ?_ ?_ ?_
                          rotate_left 2
                          · intro w' hk; go_simp; try rfl
                          · simp only [Act.put, List.setIfInBounds_toArray, List.set_cons_succ, List.set_cons_zero]; try rfl
                          refine flowe_take 12 (v := ?_) (a' := ?_) hps rfl (by kernel_rfl) rfl ?_ ?_ ?_
                          rotate_left 2
                          · intro w' hk; go_simp; try rfl
                          · simp only [Act.put, List.setIfInBounds_toArray, List.set_cons_succ, List.set_cons_zero]; try rfl
                          refine flowe_skip 13 (a' := ?_) hps rfl (by kernel_rfl) rfl ?_ ?_
                          rotate_left 1
                          · simp only [Act.put, List.setIfInBounds_toArray, List.set_cons_succ, List.set_cons_zero]; try rfl
                          refine flowe_skip 14 (a' := ?_) hps rfl (by kernel_rfl) rfl ?_ ?_
                          rotate_left 1
                          · simp only [Act.put, List.setIfInBounds_toArray, List.set_cons_succ, List.set_cons_zero]; try rfl
                          refine flowe_skip 15 (a' := ?_) hps rfl (by kernel_rfl) rfl ?_ ?_
                          rotate_left 1
                          · simp only [Act.put, List.setIfInBounds_toArray, List.set_cons_succ, List.set_cons_zero]; try rfl
                          refine flowe_skip 16 (a' := ?_) hps rfl (by kernel_rfl) rfl ?_ ?_
                          rotate_left 1
                          · simp only [Act.put, List.setIfInBounds_toArray, List.set_cons_succ, List.set_cons_zero]; try rfl
                          refine flowe_skip 17 (a' := ?_) hps rfl (by kernel_rfl) rfl ?_ ?_
                          rotate_left 1
                          · simp only [Act.put, List.setIfInBounds_toArray, List.set_cons_succ, List.set_cons_zero]; try rfl
                          refine flowe_skip 18 (a' := ?_) hps rfl (by kernel_rfl) rfl ?_ ?_
                          rotate_left 1
                          · simp only [Act.put, List.setIfInBounds_toArray, List.set_cons_succ, List.set_cons_zero]; try rfl
                          refine flowe_take 19 (v := ?_) (a' := ?_) hps rfl (by kernel_rfl) rfl ?_ ?_ ?_
                          rotate_left 2
                          · intro w' hk; go_simp; try rfl
                          · simp only [Act.put, List.setIfInBounds_toArray, List.set_cons_succ, List.set_cons_zero]; try rfl
                          refine flowe_take 20 (v := ?_) (a' := ?_) hps rfl (by kernel_rfl) rfl ?_ ?_ ?_
                          rotate_left 2
                          · intro w' hk; go_simp; try rfl
                          · simp only [Act.put, List.setIfInBounds_toArray, List.set_cons_succ, List.set_cons_zero]; try rfl
                          refine flowe_take 21 (v := ?_) (a' := ?_) hps rfl (by kernel_rfl) rfl ?_ ?_ ?_
                          rotate_left 2
                          · intro w' hk; go_simp; try rfl
                          · simp only [Act.put, List.setIfInBounds_toArray, List.set_cons_succ, List.set_cons_zero]; try rfl
                          refine flowe_done hps (by kernel_rfl) ?_
                          have HS2 := Lib.hid (HS.out.below (kk.below (Nat.le_refl _) fun _ _ h => h))
                          clear kk
                          go_wp2
                          exact ⟨⟨j + 1, hltj, by go_num, by rw [HN.out], HS2.out⟩, by simp [intOf]; omega⟩
                    · obtain rfl : j = L.length := by omega
                      rw [List.take_length]
                      have d2 : decide ((L.length : Int) < (L.length : Int)) = false := decide_eq_false (by omega)
                      have hbad : foundC L O = false ∨ A.count O ≠ 1 → ¬ IsRight b := fun hor ⟨bs, ls', hR, hap⟩ => by
                        have e1 := hR.walk
                        rw [HW.out] at e1
                        cases e1
                        have e2 := hR.all hlt
                        rw [HA.out] at e2
                        cases e2
                        have hm : O ∈ ls' c := by rw [← HO.out]; exact List.getElem_mem hltk
                        rcases hor with hor | hor
                        · obtain ⟨x, hx, h1, h2, _⟩ := hR.lists.mem c hlt O hm
                          rw [foundC_iff.2 ⟨x, hx, h1, h2⟩] at hor
                          cases hor
                        · rw [(hR.lists.nodup c hlt).count, if_pos hm] at hor
                          exact hor rfl
                      have HBAD := Lib.hid hbad
                      obtain ⟨b2, o2, rfl, c2⟩ := ints_at hS (i := 0) rfl k hltk
                      rw [HO.out] at c2
                      have kin := rl_in hS (i := 0) rfl O (by omega)
                      have HS := Lib.hid hS
                      clear hS hbad
                      obtain ⟨N, hN⟩ : ∃ N, N = A.count O := ⟨_, rfl⟩
                      rw [← hN] at kin
                      have KIN := Lib.hid kin; have HN := Lib.hid hN
                      clear kin hN
                      cases hfo : foundC L O with
                      | false =>
                        have HR := Lib.hid (chk_no (HBAD.out (.inl hfo)))
                        go_wp2
                        go_ret
                        exact ⟨_, rfl, HR.out, HS.out.tail.tail⟩
                      | true =>
                        by_cases hN1 : N = 1
                        · have d3 : ((N : Int) != 1) = false := by rw [hN1]; rfl
                          have HFO := Lib.hid hfo
                          have HN2 := Lib.hid (show A.count O = 1 by rw [← HN.out]; exact hN1)
                          clear hfo hN1
                          go_wp2_with fail
                          have kc := KIN.out
                          with_reducible refine kc.mono ?_
                          clear kc
                          rintro e w' ⟨rfl, rfl⟩
                          go_wp2
                          refine ⟨⟨k + 1, hltk, by go_num, ?_, HS.out⟩, by simp [intOf]; omega⟩
                          intro j hj hj2
                          by_cases hjk : j = k
                          · subst hjk; rw [HO.out]; exact ⟨HFO.out, HN2.out⟩
                          · exact HOK.out j (by omega) hj2
                        · have d3 : ((N : Int) != 1) = true := by rw [bne_iff_ne]; omega
                          have HR := Lib.hid (chk_no (HBAD.out (.inr (by rw [← HN.out]; exact hN1))))
                          clear hfo hN1
                          go_wp2_with fail
                          have kc := KIN.out
                          with_reducible refine kc.mono ?_
                          clear kc
                          rintro e w' ⟨rfl, rfl⟩
                          go_wp2
                          go_ret
                          exact ⟨_, rfl, HR.out, HS.out.tail.tail⟩
                · obtain rfl : k = A.length := by omega
                  have d2 : decide ((A.length : Int) < (A.length : Int)) = false := decide_eq_false (by omega)
                  have HS := Lib.hid hS
                  clear hS
                  go_wp2
                  refine ⟨⟨c + 1, f + A.length, fun d => if d = c then A else ls d, hlt, by go_num, by rw [show ((Q : Int) - (f : Int) - (A.length : Int)) = (Q : Int) - ((f + A.length : Nat) : Int) by omega], by omega, ?_, ?_, ?_, ?_, HS.out.tail⟩, by simp [intOf]; omega⟩
                  · rw [flatL_length, if_pos rfl]
                    have hcg : ∀ m, m ≤ c → flatL (fun d => if d = c then A else ls d) m = flatL ls m := by
                      intro m
                      induction m with
                      | zero => intro _; rfl
                      | succ m ih => intro hm; rw [flatL, flatL, ih (by omega), if_neg (by omega)]
                    rw [hcg c (Nat.le_refl _), ← HJ.out.1]
                  · intro d hd
                    dsimp only
                    by_cases hdc : d = c
                    · subst hdc; rw [if_pos rfl]; exact HA.out
                    · rw [if_neg hdc]; exact HJ.out.2.1 d (by omega)
                  · intro d hd o ho
                    dsimp only at ho
                    by_cases hdc : d = c
                    · subst hdc
                      rw [if_pos rfl] at ho
                      obtain ⟨j, hj, rfl⟩ := List.mem_iff_getElem.1 ho
                      exact foundC_iff.1 (HOK.out j hj hj).1
                    · rw [if_neg hdc] at ho; exact HJ.out.2.2.1 d (by omega) o ho
                  · intro d hd
                    dsimp only
                    by_cases hdc : d = c
                    · subst hdc; rw [if_pos rfl]; exact nodup_of_count fun j hj => (HOK.out j hj hj).2
                    · rw [if_neg hdc]; exact HJ.out.2.2.2 d (by omega)
          · obtain rfl : c = 22 := by omega
            have HS := Lib.hid hS
            have hRc := right_count HSM.out HW.out (by rw [← HVE.out]; omega) HJ.out.2.1 HJ.out.2.2.1 HJ.out.2.2.2
            rw [← HJ.out.1, ← HQ.out] at hRc
            have HRC := Lib.hid hRc
            clear hS hRc
            by_cases hfQ : f = Q
            · have d3 : ((Q : Int) - (f : Int) == 0) = true := by rw [beq_iff_eq]; omega
              have HR := Lib.hid (chk_yes ⟨L, ls, HRC.out.1 hfQ, HAP.out⟩)
              clear hfQ
              go_wp2
              go_ret
              exact ⟨_, rfl, HR.out, HS.out.tail⟩
            · have d3 : ((Q : Int) - (f : Int) == 0) = false := by rw [beq_eq_false_iff_ne]; omega
              have hr : ¬ IsRight b := fun ⟨bs, ls', hR, hap⟩ => by
                have e1 := hR.walk
                rw [HW.out] at e1
                cases e1
                refine hfQ (HRC.out.2 ⟨hR.max, hR.tile, ?_, fun y hy hu => ?_⟩)
                · have he : ∀ d, d < 22 → ls d = ls' d := fun d hd => by
                    have e := HJ.out.2.1 d hd
                    rw [hR.all hd] at e
                    exact (Option.some.inj e).symm
                  exact ⟨hR.lists.w0, fun d hd => by rw [he d hd]; exact hR.lists.bit d hd, fun d hd => by rw [he d hd]; exact hR.lists.seg d hd, fun d hd => by rw [he d hd]; exact hR.lists.mem d hd, fun d hd => by rw [he d hd]; exact hR.lists.nodup d hd⟩
                · have hd := (clsN_lt (hR.good.mem hy).2.1).1
                  have e := HJ.out.2.1 _ hd
                  rw [hR.all hd] at e
                  rw [← Option.some.inj e]
                  exact hR.cover y hy hu
              have HR := Lib.hid (chk_no hr)
              clear hfQ hr
              go_wp2
              go_ret
              exact ⟨_, rfl, HR.out, HS.out.tail⟩
end
end Go.Proofs.Ytjijniillehfoaa

/- The example of layer 7's statements. -/
namespace Go.Own
theorem walkB_one {b : List UInt8} {x : Blk} (h : blkAt b 184 = some x) (hl : b.length = 184 + x.size) : walkB b = some [x] := by
  obtain ⟨x1, x2, x3, x4, x5, x6, x7, _⟩ := blkAt_some h
  unfold walkB
  rw [if_neg (by omega)]
  obtain ⟨f, hf⟩ : ∃ f, b.length = f + 1 := ⟨b.length - 1, by omega⟩
  rw [hf, walkFrom_step (by omega), h]
  simp only
  rw [walkFrom_end (by omega)]
  rfl
end Go.Own
namespace Go.Proofs.Ytjijniillehfoaa
open Go Go.RowKit Go.Own
set_option linter.unusedVariables false
set_option maxRecDepth 100000
set_option maxHeartbeats 4000000 in
theorem up07 (w : World) : Calls Try.prog 58 #[] w fun e w' => e = .returned (.bool true) ∧ Below w.heap.size w w' := by
  have T0 := Lib.hid (St.start w)
  obtain ⟨g, W, hmk, t1⟩ := mk_st T0.out (248 : Int) 248 rfl (by decide)
  have hz : (List.replicate 248 (0 : UInt8)).length = 248 := List.length_replicate ..
  generalize List.replicate 248 (0 : UInt8) = z at *
  obtain ⟨x, hx⟩ : ∃ x : Blk, x = ⟨184, 64, true⟩ := ⟨_, rfl⟩
  obtain ⟨y, hy⟩ : ∃ y, y = setB z x := ⟨_, rfl⟩
  have hyl : y.length = 248 := by rw [hy, setB_length z x (by rw [hx]; decide) (by rw [hx, hz]; decide), hz]
  have h1 : setI z 184 64 true = some y := by
    unfold setI
    rw [if_pos ⟨by decide, couldB_iff.2 (by rw [hz]; decide)⟩, hy, hx]; rfl
  have h2 : blkAt y 184 = some x := by
    rw [hy, hx]; exact blkAt_setB (by decide) (by decide) (by decide) (by rw [hz]; decide)
  have h3 : blkI y 184 = some x := h2
  have h4 : walkB y = some [x] := walkB_one h2 (by rw [hyl, hx]; rfl)
  have h5 : aheadI y 248 = some x := by
    have := aheadB_of h2
    rw [hx] at this ⊢
    exact this
  have h6 : setI y 184 80 false = none := by
    unfold setI
    rw [if_neg (fun h => by have := couldB_iff.1 h.2; omega)]
  have H1 := Lib.hid h1; have H3 := Lib.hid h3; have H4 := Lib.hid h4; have H5 := Lib.hid h5; have H6 := Lib.hid h6; have HX := Lib.hid hx; have HZ := Lib.hid hz; have T1 := Lib.hid t1
  clear h1 h2 h3 h4 h5 h6 hx hy hz hyl t1
  go_enter Try.func58, Try.ntmps58
  go_wp2_with fail
  have kc := ar_Arena T1.out 16 16 rfl 1024 1024 rfl (by decide) (by decide) (by decide) (by decide) (some ⟨g, 0, none⟩) 248 248 z (T1.out.bsV (i := 0) rfl) (by rw [HZ.out]; decide)
  with_reducible refine kc.mono ?_
  clear kc
  rintro e w2 ⟨q, rfl, t2⟩
  have T2 := Lib.hid (show St w.heap.size w w2 (ArT q ⟨16, 1024, z⟩ :: []) from t2.sub (List.Sublist.cons_cons _ (List.sublist_cons_self ..)))
  clear t2
  go_wp2_with fail
  have kc := blk_Set T2.out (i := 0) rfl 184 64 true
  rw [H1.out, show errS (some y) = .nilIface from rfl] at kc
  with_reducible refine kc.mono ?_
  clear kc
  rintro e w3 ⟨rfl, t3⟩
  have T3 := Lib.hid (show St w.heap.size w w3 (ArT q ⟨16, 1024, y⟩ :: []) from t3)
  clear t3
  go_wp2_with fail
  have kc := blk_Get T3.out (i := 0) rfl 184
  rw [show ({ base := 16, cap := 1024, b := y } : Ar).b = y from rfl, H3.out, HX.out, show bkV (some ⟨184, 64, true⟩) = .agg #[.int .i64 184, .int .i64 64, .bool true] from rfl, show errO (some ⟨184, 64, true⟩) = .nilIface from rfl] at kc
  with_reducible refine kc.mono ?_
  clear kc
  rintro e w4 ⟨rfl, t4⟩
  have T4 := Lib.hid t4
  clear t4
  go_wp2_with (first | (refine bk_alloc T4.out rfl rfl ?_; intro g5 w5 h5; have T5 := Lib.hid h5; clear h5) | (refine bk_store T5.out 0 rfl rfl _ _ rfl rfl 184 64 true rfl ?_; intro w6 h6; have T6 := Lib.hid h6; clear h6 T5))
  have kc := blk_Walk T6.out (i := 1) rfl
  rw [show ({ base := 16, cap := 1024, b := y } : Ar).b = y from rfl, H4.out, show errW (some [x]) = .nilIface from rfl] at kc
  with_reducible refine kc.mono ?_
  clear kc
  rintro e w7 ⟨v7, rfl, t7⟩
  have t7 : St w.heap.size w w7 (BlsO v7 [x] :: BkO g5 184 64 true :: ArT q ⟨16, 1024, y⟩ :: []) := t7
  obtain ⟨a7, c7, e7, _⟩ := Sl.of_owned (t7.own (i := 0) rfl)
  subst e7
  have T7 := Lib.hid t7.tail
  clear t7
  go_wp2_with fail
  have kc := blk_Ahead T7.out (i := 1) rfl 248
  rw [show ({ base := 16, cap := 1024, b := y } : Ar).b = y from rfl, H5.out, HX.out, show bkV (some ⟨184, 64, true⟩) = .agg #[.int .i64 184, .int .i64 64, .bool true] from rfl, show errO (some ⟨184, 64, true⟩) = .nilIface from rfl] at kc
  with_reducible refine kc.mono ?_
  clear kc
  rintro e w8 ⟨rfl, t8⟩
  have T8 := Lib.hid t8
  clear t8
  go_wp2_with (first | (refine bk_alloc T8.out rfl rfl ?_; intro g9 w9 h9; have T9 := Lib.hid h9; clear h9) | (refine bk_store T9.out 0 rfl rfl _ _ rfl rfl 184 64 true rfl ?_; intro wa ha; have TA := Lib.hid ha; clear ha T9; have k00 : wa.cell? ⟨g9, 0, none⟩ = some (.int .i64 184) := (TA.out.row (i := 0) rfl).cell 0; have k01 : wa.cell? ⟨g9, 1, none⟩ = some (.int .i64 64) := (TA.out.row (i := 0) rfl).cell 1; have k02 : wa.cell? ⟨g9, 2, none⟩ = some (.bool true) := (TA.out.row (i := 0) rfl).cell 2; have k10 : wa.cell? ⟨g5, 0, none⟩ = some (.int .i64 184) := (TA.out.row (i := 1) rfl).cell 0; have k11 : wa.cell? ⟨g5, 1, none⟩ = some (.int .i64 64) := (TA.out.row (i := 1) rfl).cell 1; have k12 : wa.cell? ⟨g5, 2, none⟩ = some (.bool true) := (TA.out.row (i := 1) rfl).cell 2))
  have kc := blk_Set TA.out (i := 2) rfl 184 80 false
  rw [show ({ base := 16, cap := 1024, b := y } : Ar).b = y from rfl, H6.out, show errS none = .iface 183 (.int .i64 1) from rfl] at kc
  with_reducible refine kc.mono ?_
  clear kc
  rintro e wb ⟨rfl, tb⟩
  have BB := Lib.hid tb.end
  clear tb
  go_wp2_with fail
  have kc := code_of wb 1 (by decide) (by decide)
  with_reducible refine kc.mono ?_
  clear kc
  rintro e w' ⟨rfl, rfl⟩
  go_wp2
  go_ret
  exact ⟨rfl, BB.out⟩
end Go.Proofs.Ytjijniillehfoaa
