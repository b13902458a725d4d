/- Texts of the proof of 'AllocPlays', part 11: words on memory, contracts of functions, plain laws. No condition. -/
import Derived.Test.YtenbpbnffnodhaaMgAllocPlays8
import Derived.Test.YtenbpbnffnodhaaMgAllocPlays10
set_option linter.unusedSimpArgs false
set_option linter.unusedVariables false
/- Blocks that are taken: the program's cut, last, tail. -/
namespace Go.Own
open Go Go.RowKit
theorem Hole.close' {b : List UInt8} {pre post : List Blk} {o s : Nat} {ls : Ls} (h : Hole b pre o s post ls) : (setB b ⟨o, s, true⟩).length = b.length ∧ SameU (usedOf (pre ++ post)) b (setB b ⟨o, s, true⟩) ∧ Right (setB b ⟨o, s, true⟩) (pre ++ ⟨o, s, true⟩ :: post) ls :=
  ⟨(h.set true).1.len, (h.set true).2.2.2, h.close⟩
theorem results_row1 {P : Program} {fn : Func} {p : Tmp} {ty : TypeId} (h : fn.results = #[.cell p ty]) (tmps : Array Value) (w : World) (g : Nat) (t : TypeId) (cs : List Value) (d : TypeDesc)
    (hp : tmps.getD p undef = .pointer (some ⟨g, 0, none⟩)) (hg : Row w g t cs)
    (hu : P.underlying ty = some d) (hd : (match d with | .struct _ | .array _ _ => true | _ => false) = true) (hi : (P.info? ty).map (·.size) = some cs.length) :
    (results fn tmps).run P w = .ok (.agg cs.toArray) w := by
  have hp' : tmps[p]?.getD undef = .pointer (some ⟨g, 0, none⟩) := by simpa using hp
  simp [results, h, hp', asAddr, run_loadVar_row w g t ty cs.toArray (0, 0) d hg hu hd (by simpa using hi)]
theorem usedOf_mono {l1 l2 : List Blk} {y z : Blk} (h : z ∈ usedOf (l1 ++ l2)) : z ∈ usedOf (l1 ++ y :: l2) := by
  rw [mem_usedOf] at h ⊢
  refine ⟨?_, h.2⟩
  rcases List.mem_append.1 h.1 with h | h
  · exact List.mem_append_left _ h
  · exact List.mem_append_right _ (List.mem_cons_of_mem _ h)
end Go.Own
namespace Go.Proofs.Ytenbpbnffnodhaa
open Go Go.RowKit Go.Own
set_option linter.unusedVariables false
set_option maxRecDepth 100000
section
variable {B : Nat} {w0 w : World} {l : List Ob} {i p bs cp : Nat} {b : List UInt8}
theorem AlR.tail {us : List Blk} {q : List Bd × Ls} {P : Ob} {w' : World} (h : AlR B w0 (P :: l) (i + 1) p bs cp b us q w') : AlR B w0 l i p bs cp b us q w' := by
  obtain ⟨b', h1, h2, h3, h4⟩ := h
  exact ⟨b', (show St B w0 w' (P :: l.set i (ArT p ⟨bs, cp, b'⟩)) from h1).tail, h2, h3, h4⟩
set_option maxHeartbeats 8000000 in
theorem al_cut (h : St B w0 w (l.set i (ArT p ⟨bs, cp, b⟩))) (hil : i < l.length) {pre post : List Bd} {o s n : Nat} {ls : Ls} (d : Value) (hh : Hole b (bsOf pre) o s (bsOf post) ls) (hn : isSize (n : Int) = true) (hns : n ≤ s) (O S N : Int) (u : Bool) (hO : O = o) (hS : S = s) (hN : N = n) :
    Calls Try.prog 203 #[arP p, .agg #[.int .i64 O, .int .i64 S, .bool u], .int .i64 N] w fun e w' => e = .returned .nilIface ∧ AlR B w0 l i p bs cp b (usedOf (bsOf pre ++ bsOf post)) (cutM pre o s d post n ls) w' := by
  subst hO; subst hS; subst hN
  have hat := hh.at; have hsz := hh.size; have hmx := hh.max
  have hnz := (isSize_iff _).1 hn
  have H := Lib.hid h; have HIL := Lib.hid hil; have HH := Lib.hid hh
  have u1 : IntKind.i64.wrap ((s : Int) - (n : Int)) = (s : Int) - (n : Int) := IntWalk.i64_in _ (by omega)
  clear h hil hh
  by_cases hr : s < n + 32
  · have d1 : decide ((s : Int) - (n : Int) < 32) = true := decide_eq_true (by omega)
    have hc : cutM pre o s d post n ls = (pre ++ ⟨⟨o, s, true⟩, d⟩ :: post, ls) := by unfold cutM; rw [if_pos hr]
    rw [hc]
    have HS := Lib.hid (HH.out.setI true (o : Int) (s : Int) rfl rfl)
    clear hc hr hat hsz hmx hnz
    go_enter Try.func203, Try.ntmps203
    go_wp2_with fail
    have h1 := H.out.addRow 77 [.int .i64 o, .int .i64 s, .bool u]
    generalize w.alloc (Obj.cells #[Value.int IntKind.i64 o, Value.int IntKind.i64 s, Value.bool u] 77 (0, 0)) = w1 at h1 ⊢
    generalize w.heap.size = g at h1 ⊢
    have T1 := Lib.hid (show St B w0 w1 (BkO g o s u :: l.set i (ArT p ⟨bs, cp, b⟩)) from h1)
    clear h1
    have x0 : w1.cell? ⟨g, 0, none⟩ = some (.int .i64 (o : Int)) := (T1.out.row (i := 0) rfl).cell 0
    have x1 : w1.cell? ⟨g, 1, none⟩ = some (.int .i64 (s : Int)) := (T1.out.row (i := 0) rfl).cell 1
    go_wp2_with fail
    have kc := blk_Set T1.out (i := i + 1) (at_set HIL.out _) (o : Int) (s : Int) true
    rw [show ({ base := bs, cap := cp, b := b } : Ar).b = b from rfl, HS.out, show errS (some _) = .nilIface from rfl, Option.getD_some] at kc
    with_reducible refine kc.mono ?_
    clear kc
    rintro e w2 ⟨rfl, t2⟩
    have T2 := Lib.hid t2
    clear t2
    go_wp2
    go_ret
    obtain ⟨q1, q2, q3⟩ := HH.out.close'
    refine ⟨rfl, setB b ⟨o, s, true⟩, ?_, q1, q2, by rw [bsOf_append, bsOf_cons]; exact q3⟩
    have := T2.out
    simp only [List.set_cons_succ, List.set_set] at this
    exact this.tail
  · have d1 : decide ((s : Int) - (n : Int) < 32) = false := decide_eq_false (by omega)
    have hc : cutM pre o s d post n ls = freeM (pre ++ [⟨⟨o, n, true⟩, d⟩]) (o + n) (s - n) post ls := by unfold cutM; rw [if_neg hr]
    rw [hc]
    have hs1 : setI b (o : Int) (n : Int) true = some (setB b ⟨o, n, true⟩) := by
      unfold setI
      rw [if_pos ⟨hn, couldB_iff.2 (by omega)⟩]
      simp only [Int.toNat_natCast]
    have hcut := HH.out.cut hn (by omega)
    have HS := Lib.hid hs1; have HC := Lib.hid hcut
    have u2 : IntKind.i64.wrap ((o : Int) + (n : Int)) = (o : Int) + (n : Int) := IntWalk.i64_in _ (by omega)
    have HE := Lib.hid (show (s : Int) - (n : Int) = ((s - n : Nat) : Int) by omega)
    clear hc hr hat hsz hmx hnz hs1 hcut
    go_enter Try.func203, Try.ntmps203
    go_wp2_with fail
    have h1 := H.out.addRow 77 [.int .i64 o, .int .i64 s, .bool u]
    generalize w.alloc (Obj.cells #[Value.int IntKind.i64 o, Value.int IntKind.i64 s, Value.bool u] 77 (0, 0)) = w1 at h1 ⊢
    generalize w.heap.size = g at h1 ⊢
    have T1 := Lib.hid (show St B w0 w1 (BkO g o s u :: l.set i (ArT p ⟨bs, cp, b⟩)) from h1)
    clear h1
    have x0 : w1.cell? ⟨g, 0, none⟩ = some (.int .i64 (o : Int)) := (T1.out.row (i := 0) rfl).cell 0
    have x1 : w1.cell? ⟨g, 1, none⟩ = some (.int .i64 (s : Int)) := (T1.out.row (i := 0) rfl).cell 1
    go_wp2_with fail
    have kc := blk_Set T1.out (i := i + 1) (at_set HIL.out _) (o : Int) (n : Int) true
    rw [show ({ base := bs, cap := cp, b := b } : Ar).b = b from rfl, HS.out, show errS (some _) = .nilIface from rfl, Option.getD_some] at kc
    with_reducible refine kc.mono ?_
    clear kc
    rintro e w2 ⟨rfl, t2⟩
    have T2 := Lib.hid t2
    clear t2
    have T3 := Lib.hid (show St B w0 w2 ((BkO g o s u :: l).set (i + 1) (ArT p ⟨bs, cp, setB b ⟨o, n, true⟩⟩)) from by have := T2.out; simp only [List.set_cons_succ, List.set_set] at this ⊢; exact this)
    have x2 : w2.cell? ⟨g, 0, none⟩ = some (.int .i64 (o : Int)) := (T3.out.row (i := 0) rfl).cell 0
    clear T2
    have hh3 : Hole (setB b ⟨o, n, true⟩) (bsOf (pre ++ [⟨⟨o, n, true⟩, d⟩])) (o + n) (s - n) (bsOf post) ls := by rw [bsOf_append]; exact HC.out.1
    have HH3 := Lib.hid hh3
    clear hh3
    go_wp2_with fail
    have kc := al_free T3.out (by simp only [List.length_cons]; have := HIL.out; omega) HH3.out ((o : Int) + (n : Int)) ((s : Int) - (n : Int)) false (by omega) HE.out
    with_reducible refine kc.mono ?_
    clear kc
    rintro e w4 ⟨rfl, t4⟩
    have T4 := Lib.hid t4
    clear t4
    go_wp2
    go_ret
    obtain ⟨b4, r1, r2, r3, r4⟩ := T4.out.tail
    refine ⟨rfl, b4, r1, r2.trans HC.out.2.2, HC.out.2.1.trans (r3.mono fun y hy => ?_), r4⟩
    rw [bsOf_append, List.append_assoc]
    exact usedOf_mono hy
/-- The last block, if it is free. -/
def lastM (m : List Bd) (n : Nat) : Int × Int × Bool := match m.getLast? with
  | some x => if x.b.used then (n, 0, false) else (x.b.off, x.b.size, false)
  | none => (n, 0, false)
set_option maxHeartbeats 8000000 in
theorem al_last (h : St B w0 w (l.set i (ArT p ⟨bs, cp, b⟩))) (hil : i < l.length) {m : List Bd} {ls : Ls} (hR : Right b (bsOf m) ls) :
    Calls Try.prog 234 #[arP p] w fun e w' => e = .returned (.agg #[.int .i64 (lastM m b.length).1, .int .i64 (lastM m b.length).2.1, .bool (lastM m b.length).2.2]) ∧ St B w0 w' (l.set i (ArT p ⟨bs, cp, b⟩)) := by
  have hA : aheadI b (b.length : Int) = (m.getLast?).map (·.b) := by
    unfold aheadI; rw [if_pos (Int.natCast_nonneg _), Int.toNat_natCast, hR.aheadEnd, bsOf_getLast]
  have H := Lib.hid h; have HIL := Lib.hid hil; have KL := Lib.hid (ar_Len h (at_set hil _))
  clear h hil hR
  cases hm : m.getLast? with
  | none =>
    rw [hm] at hA
    have HA := Lib.hid (show aheadI b (b.length : Int) = none from hA)
    have hl : lastM m b.length = ((b.length : Int), 0, false) := by unfold lastM; rw [hm]
    rw [hl]
    clear hA hm hl
    go_enter Try.func234, Try.ntmps234
    go_wp2_with (refine bk_alloc H.out rfl rfl ?_; intro g1 w1 h1; have T1 := Lib.hid h1; clear h1)
    have kc := ar_Len T1.out (i := i + 1) (at_set HIL.out _)
    with_reducible refine kc.mono ?_
    clear kc
    rintro e w' ⟨rfl, rfl⟩
    go_wp2_with fail
    have kc := blk_Ahead T1.out (i := i + 1) (at_set HIL.out _) (b.length : Int)
    rw [show ({ base := bs, cap := cp, b := b } : Ar).b = b from rfl, HA.out, show bkV none = .agg #[.int .i64 0, .int .i64 0, .bool false] from rfl, show errO none = .iface 183 (.int .i64 3) from rfl] at kc
    with_reducible refine kc.mono ?_
    clear kc
    rintro e w2 ⟨rfl, t2⟩
    have T2 := Lib.hid t2
    clear t2
    go_wp2_with (first | (refine bk_alloc T2.out rfl rfl ?_; intro g3 w3 h3; have T3 := Lib.hid h3; clear h3) | (refine bk_store T3.out 0 rfl rfl _ _ rfl rfl 0 0 false rfl ?_; intro w4 h4; have T4 := Lib.hid (show St B w0 w4 (BkO g3 0 0 false :: BkO g1 0 0 false :: l.set i (ArT p ⟨bs, cp, b⟩)) from h4); clear h4 T3; go_wp2_with fail))
    have kc := ar_Len T4.out (i := i + 2) (at_set HIL.out _)
    with_reducible refine kc.mono ?_
    clear kc
    rintro e w' ⟨rfl, rfl⟩
    go_wp2_with (refine bk_store T4.out 1 rfl rfl _ _ rfl rfl (b.length : Int) 0 false rfl ?_; intro w5 h5; have T5 := Lib.hid (show St B w0 w5 (BkO g3 0 0 false :: BkO g1 b.length 0 false :: l.set i (ArT p ⟨bs, cp, b⟩)) from h5); clear h5 T4)
    refine bodyPost_ret (results_row1 rfl _ _ g1 _ _ _ rfl (T5.out.row (i := 1) rfl) Try.underlying77 rfl size_bl) rfl ⟨rfl, T5.out.tail.tail⟩
  | some x =>
    rw [hm] at hA
    have HA := Lib.hid (show aheadI b (b.length : Int) = some x.b from hA)
    clear hA
    cases hu : x.b.used with
    | true =>
      have hl : lastM m b.length = ((b.length : Int), 0, false) := by unfold lastM; rw [hm]; simp only [hu, if_true]
      rw [hl]
      clear hl hm
      go_enter Try.func234, Try.ntmps234
      go_wp2_with (refine bk_alloc H.out rfl rfl ?_; intro g1 w1 h1; have T1 := Lib.hid h1; clear h1)
      have kc := ar_Len T1.out (i := i + 1) (at_set HIL.out _)
      with_reducible refine kc.mono ?_
      clear kc
      rintro e w' ⟨rfl, rfl⟩
      go_wp2_with fail
      have kc := blk_Ahead T1.out (i := i + 1) (at_set HIL.out _) (b.length : Int)
      rw [show ({ base := bs, cap := cp, b := b } : Ar).b = b from rfl, HA.out, show bkV (some x.b) = .agg #[.int .i64 x.b.off, .int .i64 x.b.size, .bool x.b.used] from rfl, hu, show errO (some x.b) = .nilIface from rfl] at kc
      with_reducible refine kc.mono ?_
      clear kc
      rintro e w2 ⟨rfl, t2⟩
      have T2 := Lib.hid t2
      clear t2
      clear hu
      go_wp2_with (first | (refine bk_alloc T2.out rfl rfl ?_; intro g3 w3 h3; have T3 := Lib.hid h3; clear h3) | (refine bk_store T3.out 0 rfl rfl _ _ rfl rfl x.b.off x.b.size true rfl ?_; intro w4 h4; have T4 := Lib.hid (show St B w0 w4 (BkO g3 x.b.off x.b.size true :: BkO g1 0 0 false :: l.set i (ArT p ⟨bs, cp, b⟩)) from h4); clear h4 T3; have k2 : w4.cell? ⟨g3, 2, none⟩ = some (.bool true) := (T4.out.row (i := 0) rfl).cell 2; go_wp2_with fail))
      have kc := ar_Len T4.out (i := i + 2) (at_set HIL.out _)
      with_reducible refine kc.mono ?_
      clear kc
      rintro e w' ⟨rfl, rfl⟩
      go_wp2_with (refine bk_store T4.out 1 rfl rfl _ _ rfl rfl (b.length : Int) 0 false rfl ?_; intro w5 h5; have T5 := Lib.hid (show St B w0 w5 (BkO g3 x.b.off x.b.size true :: BkO g1 b.length 0 false :: l.set i (ArT p ⟨bs, cp, b⟩)) from h5); clear h5 T4)
      refine bodyPost_ret (results_row1 rfl _ _ g1 _ _ _ rfl (T5.out.row (i := 1) rfl) Try.underlying77 rfl size_bl) rfl ⟨rfl, T5.out.tail.tail⟩
    | false =>
      have hl : lastM m b.length = ((x.b.off : Int), (x.b.size : Int), false) := by unfold lastM; rw [hm]; simp only [hu, Bool.false_eq_true, if_false]
      rw [hl]
      clear hl hm
      go_enter Try.func234, Try.ntmps234
      go_wp2_with (refine bk_alloc H.out rfl rfl ?_; intro g1 w1 h1; have T1 := Lib.hid h1; clear h1)
      have kc := ar_Len T1.out (i := i + 1) (at_set HIL.out _)
      with_reducible refine kc.mono ?_
      clear kc
      rintro e w' ⟨rfl, rfl⟩
      go_wp2_with fail
      have kc := blk_Ahead T1.out (i := i + 1) (at_set HIL.out _) (b.length : Int)
      rw [show ({ base := bs, cap := cp, b := b } : Ar).b = b from rfl, HA.out, show bkV (some x.b) = .agg #[.int .i64 x.b.off, .int .i64 x.b.size, .bool x.b.used] from rfl, hu, show errO (some x.b) = .nilIface from rfl] at kc
      with_reducible refine kc.mono ?_
      clear kc
      rintro e w2 ⟨rfl, t2⟩
      have T2 := Lib.hid t2
      clear t2
      clear hu
      go_wp2_with (first | (refine bk_alloc T2.out rfl rfl ?_; intro g3 w3 h3; have T3 := Lib.hid h3; clear h3) | (refine bk_store T3.out 0 rfl rfl _ _ rfl rfl x.b.off x.b.size false rfl ?_; intro w4 h4; have T4 := Lib.hid (show St B w0 w4 (BkO g3 x.b.off x.b.size false :: BkO g1 0 0 false :: l.set i (ArT p ⟨bs, cp, b⟩)) from h4); clear h4 T3; have k2 : w4.cell? ⟨g3, 2, none⟩ = some (.bool false) := (T4.out.row (i := 0) rfl).cell 2; go_wp2_with (first | (refine bk_load T4.out 0 rfl rfl _ rfl rfl ?_) | (refine bk_store T4.out 1 rfl rfl _ _ rfl rfl x.b.off x.b.size false rfl ?_; intro w5 h5; have T5 := Lib.hid (show St B w0 w5 (BkO g3 x.b.off x.b.size false :: BkO g1 x.b.off x.b.size false :: l.set i (ArT p ⟨bs, cp, b⟩)) from h5); clear h5 T4))))
      refine bodyPost_ret (results_row1 rfl _ _ g1 _ _ _ rfl (T5.out.row (i := 1) rfl) Try.underlying77 rfl size_bl) rfl ⟨rfl, T5.out.tail.tail⟩
end
end Go.Proofs.Ytenbpbnffnodhaa

/- Blocks that are taken: the program's tail. -/
namespace Go.Own
open Go Go.RowKit
theorem tile_endOf {b : List UInt8} {e : Nat} : ∀ {l : List Blk} {o : Nat}, TileTo b e o l → endOf o l = e
  | [], o, h => h
  | x :: l, o, h => tile_endOf (l := l) h.2
theorem Right.endOf {b : List UInt8} {bs : List Blk} {ls : Ls} (h : Right b bs ls) : endOf 184 bs = b.length := tile_endOf h.tile
theorem getLast_split {α : Type} {m : List α} {x : α} (h : m.getLast? = some x) : m = m.dropLast ++ [x] := by
  have hne : m ≠ [] := fun e => by rw [e] at h; cases h
  have h2 := List.getLast?_eq_some_getLast hne
  rw [h] at h2
  cases h2
  exact (List.dropLast_concat_getLast hne).symm
end Go.Own
namespace Go.Proofs.Ytenbpbnffnodhaa
open Go Go.RowKit Go.Own
set_option linter.unusedVariables false
set_option maxRecDepth 100000
section
variable {B : Nat} {w0 w : World} {l : List Ob} {i p bs cp : Nat} {b : List UInt8}
theorem ar_caps (h : St B w0 w (l.set i (ArT p ⟨bs, cp, b⟩))) (hil : i < l.length) : b.length ≤ cp ∧ cp ≤ 16384 ∧ 1024 ≤ cp := by
  obtain ⟨v, ha⟩ := h.ar (at_set hil _)
  exact ⟨ha.hlen, ha.hcap, ha.hmin⟩
/-- What taking tells, and what has become of the arena. -/
def TakR (B : Nat) (w0 : World) (l : List Ob) (i p bs cp : Nat) (b : List UInt8) (us : List Blk) (r : Option (Nat × List Bd × Ls)) (e : Ending) (w' : World) : Prop := match r with
  | some (o, q) => e = .returned (.tuple #[.int .i64 (o : Nat), .nilIface]) ∧ ∃ b', St B w0 w' (l.set i (ArT p ⟨bs, cp, b'⟩)) ∧ SameU us b b' ∧ Right b' (bsOf q.1) q.2
  | none => e = .returned (.tuple #[.int .i64 0, .iface 183 (.int .i64 5)]) ∧ St B w0 w' (l.set i (ArT p ⟨bs, cp, b⟩))
/-- The end: bytes come to the arena, a block is laid. -/
theorem tail_fin {m : List Bd} {ls ls' : Ls} {b1 : List UInt8} {pre : List Bd} {o s n k : Nat} {us : List Blk} (d : Value)
    (hh : Hole (b1 ++ List.replicate k 0) (bsOf pre) o n [] ls') (hu : SameU us b (b1 ++ List.replicate k 0)) (hus : ∀ y ∈ us, y ∈ usedOf (bsOf pre)) :
    setI (b1 ++ List.replicate k 0) (o : Int) (n : Int) true = some (setB (b1 ++ List.replicate k 0) ⟨o, n, true⟩) ∧ SameU us b (setB (b1 ++ List.replicate k 0) ⟨o, n, true⟩) ∧ Right (setB (b1 ++ List.replicate k 0) ⟨o, n, true⟩) (bsOf (pre ++ [⟨⟨o, n, true⟩, d⟩])) ls' := by
  obtain ⟨h1, h2, h3⟩ := hh.close'
  rw [List.append_nil] at h2
  exact ⟨hh.setI true _ _ rfl rfl, hu.trans (h2.mono hus), by rw [bsOf_append]; exact h3⟩
set_option maxHeartbeats 8000000 in
theorem al_tail (h : St B w0 w (l.set i (ArT p ⟨bs, cp, b⟩))) (hil : i < l.length) {m : List Bd} {ls : Ls} (hR : Right b (bsOf m) ls) (n : Nat) (hn : isSize (n : Int) = true) (hlt : ∀ x, m.getLast? = some x → x.b.used = false → x.b.size < n) :
    Calls Try.prog 202 #[arP p, .int .i64 n] w (TakR B w0 l i p bs cp b (usedOf (bsOf m)) (takeTail m cp n ls)) := by
  obtain ⟨hc1, hc2, hc3⟩ := ar_caps h hil
  have hnz := (isSize_iff _).1 hn
  have hE := hR.endOf
  have H := Lib.hid h; have HIL := Lib.hid hil; have HR := Lib.hid hR
  have hlen := hR.len; have hmod := hR.tile.mod (by decide)
  cases hm : m.getLast? with
  | none =>
    have hl : lastM m b.length = ((b.length : Int), 0, false) := by unfold lastM; rw [hm]; skip
    have ht : takeTail m cp n ls = tailM m cp n ls := by unfold takeTail; rw [hm]; skip
    rw [ht]
    unfold tailM
    have HL := Lib.hid hl
    have u1 : IntKind.i64.wrap ((n : Int) - 0) = (n : Int) := by rw [Int.sub_zero]; exact IntWalk.i64_in _ (by omega)
    have u2 : IntKind.i64.wrap ((cp : Int) - (b.length : Int)) = (cp : Int) - (b.length : Int) := IntWalk.i64_in _ (by omega)
    have u3 : IntKind.i64.wrap (n : Int) = (n : Int) := IntWalk.i64_in _ (by omega)
    rw [hE]
    by_cases hr : b.length + n ≤ cp
    · rw [if_pos hr]
      obtain ⟨g1, g2⟩ := hR.grow (z := List.replicate n 0) (by rw [List.length_replicate]; omega) (by rw [List.length_replicate]; omega) (by rw [List.length_replicate]; omega)
      rw [List.length_replicate] at g1
      have hfin := tail_fin (b := b) (us := usedOf (bsOf m)) (s := n) (ls := ls) (m := m) none0 g1 g2 fun y hy => hy
      have d1 : decide ((n : Int) > (cp : Int) - (b.length : Int)) = false := decide_eq_false (by omega)
      have hgr : ({ base := bs, cap := cp, b := b } : Ar).grow (n : Int) = (0, { base := bs, cap := cp, b := b ++ List.replicate n 0 }) := by
        unfold Ar.grow; rw [if_neg (by omega), if_neg (by simp only; omega), Int.toNat_natCast]
      have HF := Lib.hid hfin; have HG := Lib.hid hgr
      generalize List.replicate n (0 : UInt8) = zs at *
      clear hl ht g1 g2 hfin hgr hm hc1 hc2 hc3 hE hlen hmod
      go_enter Try.func202, Try.ntmps202
      go_wp2_with fail
      have kc := al_last H.out HIL.out HR.out
      rw [HL.out] at kc
      with_reducible refine kc.mono ?_
      clear kc
      rintro e w1 ⟨rfl, t1⟩
      have T1 := Lib.hid t1
      clear t1
      go_wp2_with (first | (refine bk_alloc T1.out rfl rfl ?_; intro g2 w2 h2; have T2 := Lib.hid h2; clear h2) | (refine bk_store T2.out 0 rfl rfl _ _ rfl rfl (b.length : Int) (0 : Int) false rfl ?_; intro w3 h3; have T3 := Lib.hid (show St B w0 w3 (BkO g2 (b.length : Int) (0 : Int) false :: l.set i (ArT p ⟨bs, cp, b⟩)) from h3); clear h3 T2; go_wp2_with fail))
      have KC := Lib.hid (ar_Cap T3.out.drew (i := i + 1) (at_set HIL.out _)); have KL := Lib.hid (ar_Len T3.out.drew (i := i + 1) (at_set HIL.out _))
      refine flows_begin (S := fun w' => St B w0 w' (BkO g2 (b.length : Int) (0 : Int) false :: l.set i (ArT p ⟨bs, cp, b⟩))) hmixed 10 rfl (by repeat (first | with_reducible refine ps_then ?_ | with_reducible refine ps_block ?_ | with_reducible exact ps_body | refine ps_then ?_ | refine ps_block ?_ | exact ps_body)) T3.out.drew (fun hps => ?_)
      simp only [List.replicate]
      refine flows_take 0 (v := ?_) (a' := ?_) hps rfl (by kernel_rfl) rfl ?_ ?_ ?_
      rotate_left 2
      · intro w' hk; go_simp; try rfl
      · simp only [Act.put, List.setIfInBounds_toArray, List.set_cons_succ, List.set_cons_zero]; try rfl
      refine flows_take 1 (v := ?_) (a' := ?_) hps rfl (by kernel_rfl) rfl ?_ ?_ ?_
      rotate_left 2
      · intro w' hk; go_simp; try rfl
      · simp only [Act.put, List.setIfInBounds_toArray, List.set_cons_succ, List.set_cons_zero]; try rfl
      refine flows_take 2 (v := ?_) (a' := ?_) hps rfl (by kernel_rfl) rfl ?_ ?_ ?_
      rotate_left 2
      · intro w' hk; have c0 := (hk.row (i := 0) rfl).cell 1; simp only [List.getElem?_cons_succ, List.getElem?_cons_zero] at c0; go_simp; try rfl
      · simp only [Act.put, List.setIfInBounds_toArray, List.set_cons_succ, List.set_cons_zero]; try rfl
      refine flows_take 3 (v := ?_) (a' := ?_) hps rfl (by kernel_rfl) rfl ?_ ?_ ?_
      rotate_left 2
      · intro w' hk; go_simp; try rfl
      · simp only [Act.put, List.setIfInBounds_toArray, List.set_cons_succ, List.set_cons_zero]; try rfl
      refine flows_take 4 (v := ?_) (a' := ?_) hps rfl (by kernel_rfl) rfl ?_ ?_ ?_
      rotate_left 2
      · intro w' hk; go_simp; try rfl
      · simp only [Act.put, List.setIfInBounds_toArray, List.set_cons_succ, List.set_cons_zero]; try rfl
      refine flows_take 6 (v := ?_) (a' := ?_) hps rfl (by kernel_rfl) rfl ?_ ?_ ?_
      rotate_left 2
      · intro w' hk; go_simp; try rfl
      · simp only [Act.put, List.setIfInBounds_toArray, List.set_cons_succ, List.set_cons_zero]; try rfl
      refine flows_one 5 hps rfl (by kernel_rfl) rfl (wp_next (fun K hK => ?_))
      go_simp
      with_reducible refine KC.out.mono ?_
      rintro e w' ⟨rfl, rfl⟩
      have kp := T3.out.drew
      refine hK _ _ ⟨kp, ?_⟩
      clear kp hK
      refine flows_one 7 hps rfl (by kernel_rfl) rfl (wp_next (fun K hK => ?_))
      go_simp
      with_reducible refine KL.out.mono ?_
      rintro e w' ⟨rfl, rfl⟩
      have kp := T3.out.drew
      refine hK _ _ ⟨kp, ?_⟩
      clear kp hK
      refine flows_take 8 (v := ?_) (a' := ?_) hps rfl (by kernel_rfl) rfl ?_ ?_ ?_
      rotate_left 2
      · intro w' hk; go_simp; try rfl
      · simp only [Act.put, List.setIfInBounds_toArray, List.set_cons_succ, List.set_cons_zero]; try rfl
      refine flows_take 9 (v := ?_) (a' := ?_) hps rfl (by kernel_rfl) rfl ?_ ?_ ?_
      rotate_left 2
      · intro w' hk; go_simp; try rfl
      · simp only [Act.put, List.setIfInBounds_toArray, List.set_cons_succ, List.set_cons_zero]; try rfl
      refine flows_done hps (by kernel_rfl) ?_
      have TD := Lib.hid T3.out.drew
      have x0 : w3.drew.cell? ⟨g2, 0, none⟩ = some (.int .i64 (b.length : Int)) := (TD.out.row (i := 0) rfl).cell 0
      have x1 : w3.drew.cell? ⟨g2, 1, none⟩ = some (.int .i64 (0 : Int)) := (TD.out.row (i := 0) rfl).cell 1
      clear KC KL T3
      go_wp2_with fail
      have kc := ar_Grow TD.out (i := i + 1) (at_set HIL.out _) (n : Int)
      rw [HG.out, errV_0] at kc
      with_reducible refine kc.mono ?_
      clear kc
      rintro e w5 ⟨rfl, t5⟩
      have T5 := Lib.hid t5
      clear t5
      have T6 := Lib.hid (show St B w0 w5 (BkO g2 (b.length : Int) 0 false :: l.set i (ArT p ⟨bs, cp, b ++ zs⟩)) from by have := T5.out; simp only [List.set_cons_succ, List.set_set] at this; exact this)
      clear T5
      go_wp2
      have T6d := Lib.hid T6.out.drew
      refine flows_begin (S := fun w' => ∃ b', St B w0 w' (BkO g2 (b.length : Int) 0 false :: l.set i (ArT p ⟨bs, cp, b'⟩))) hmixed 10 rfl (by repeat (first | with_reducible refine ps_then ?_ | with_reducible refine ps_block ?_ | with_reducible exact ps_body | refine ps_then ?_ | refine ps_block ?_ | exact ps_body)) ⟨_, T6.out.drew⟩ (fun hps => ?_)
      simp only [List.replicate]
      refine flows_take 0 (v := ?_) (a' := ?_) hps rfl (by kernel_rfl) rfl ?_ ?_ ?_
      rotate_left 2
      · intro w' hk; go_simp; try rfl
      · simp only [Act.put, List.setIfInBounds_toArray, List.set_cons_succ, List.set_cons_zero]; try rfl
      refine flows_take 1 (v := ?_) (a' := ?_) hps rfl (by kernel_rfl) rfl ?_ ?_ ?_
      rotate_left 2
      · intro w' hk; obtain ⟨_, hq⟩ := hk; have c0 := (hq.row (i := 0) rfl).cell 0; simp only [List.getElem?_cons_succ, List.getElem?_cons_zero] at c0; go_simp; try rfl
      · simp only [Act.put, List.setIfInBounds_toArray, List.set_cons_succ, List.set_cons_zero]; try rfl
      refine flows_take 2 (v := ?_) (a' := ?_) hps rfl (by kernel_rfl) rfl ?_ ?_ ?_
      rotate_left 2
      · intro w' hk; go_simp; try rfl
      · simp only [Act.put, List.setIfInBounds_toArray, List.set_cons_succ, List.set_cons_zero]; try rfl
      refine flows_take 3 (v := ?_) (a' := ?_) hps rfl (by kernel_rfl) rfl ?_ ?_ ?_
      rotate_left 2
      · intro w' hk; go_simp; try rfl
      · simp only [Act.put, List.setIfInBounds_toArray, List.set_cons_succ, List.set_cons_zero]; try rfl
      refine flows_take 4 (v := ?_) (a' := ?_) hps rfl (by kernel_rfl) rfl ?_ ?_ ?_
      rotate_left 2
      · intro w' hk; obtain ⟨_, hq⟩ := hk; have c0 := (hq.row (i := 0) rfl).cell 0; simp only [List.getElem?_cons_succ, List.getElem?_cons_zero] at c0; go_simp; try rfl
      · simp only [Act.put, List.setIfInBounds_toArray, List.set_cons_succ, List.set_cons_zero]; try rfl
      refine flows_take 5 (v := ?_) (a' := ?_) hps rfl (by kernel_rfl) rfl ?_ ?_ ?_
      rotate_left 2
      · intro w' hk; go_simp; try rfl
      · simp only [Act.put, List.setIfInBounds_toArray, List.set_cons_succ, List.set_cons_zero]; try rfl
      refine flows_take 6 (v := ?_) (a' := ?_) hps rfl (by kernel_rfl) rfl ?_ ?_ ?_
      rotate_left 2
      · intro w' hk; go_simp; try rfl
      · simp only [Act.put, List.setIfInBounds_toArray, List.set_cons_succ, List.set_cons_zero]; try rfl
      refine flows_one 7 hps rfl (by kernel_rfl) rfl (wp_next (fun K hK => ?_))
      go_simp
      have kc := blk_Set T6d.out (i := i + 1) (at_set HIL.out _) (b.length : Int) (n : Int) true
      rw [show ({ base := bs, cap := cp, b := b ++ zs } : Ar).b = b ++ zs from rfl, HF.out.1, show errS (some _) = .nilIface from rfl, Option.getD_some] at kc
      with_reducible refine kc.mono ?_
      clear kc
      rintro e w8 ⟨rfl, t8⟩
      simp only [List.set_cons_succ, List.set_set] at t8
      have T8 := Lib.hid t8
      have kp : ∃ b', St B w0 w8 (BkO g2 (b.length : Int) 0 false :: l.set i (ArT p ⟨bs, cp, b'⟩)) := ⟨_, t8⟩
      clear t8
      refine hK _ _ ⟨kp, ?_⟩
      clear kp hK
      refine flows_take 8 (v := ?_) (a' := ?_) hps rfl (by kernel_rfl) rfl ?_ ?_ ?_
      rotate_left 2
      · intro w' hk; go_simp; try rfl
      · simp only [Act.put, List.setIfInBounds_toArray, List.set_cons_succ, List.set_cons_zero]; try rfl
      refine flows_take 9 (v := ?_) (a' := ?_) hps rfl (by kernel_rfl) rfl ?_ ?_ ?_
      rotate_left 2
      · intro w' hk; go_simp; try rfl
      · simp only [Act.put, List.setIfInBounds_toArray, List.set_cons_succ, List.set_cons_zero]; try rfl
      refine flows_done hps (by kernel_rfl) ?_
      go_wp2
      go_ret2
      exact ⟨rfl, _, T8.out.tail, HF.out.2.1, HF.out.2.2⟩
    · rw [if_neg hr]
      have d1 : decide ((n : Int) > (cp : Int) - (b.length : Int)) = true := decide_eq_true (by omega)
      clear hl ht hm hE hlen hmod
      go_enter Try.func202, Try.ntmps202
      go_wp2_with fail
      have kc := al_last H.out HIL.out HR.out
      rw [HL.out] at kc
      with_reducible refine kc.mono ?_
      clear kc
      rintro e w1 ⟨rfl, t1⟩
      have T1 := Lib.hid t1
      clear t1
      go_wp2_with (first | (refine bk_alloc T1.out rfl rfl ?_; intro g2 w2 h2; have T2 := Lib.hid h2; clear h2) | (refine bk_store T2.out 0 rfl rfl _ _ rfl rfl (b.length : Int) (0 : Int) false rfl ?_; intro w3 h3; have T3 := Lib.hid (show St B w0 w3 (BkO g2 (b.length : Int) (0 : Int) false :: l.set i (ArT p ⟨bs, cp, b⟩)) from h3); clear h3 T2; go_wp2_with fail))
      have KC := Lib.hid (ar_Cap T3.out.drew (i := i + 1) (at_set HIL.out _)); have KL := Lib.hid (ar_Len T3.out.drew (i := i + 1) (at_set HIL.out _))
      refine flows_begin (S := fun w' => St B w0 w' (BkO g2 (b.length : Int) (0 : Int) false :: l.set i (ArT p ⟨bs, cp, b⟩))) hmixed 10 rfl (by repeat (first | with_reducible refine ps_then ?_ | with_reducible refine ps_block ?_ | with_reducible exact ps_body | refine ps_then ?_ | refine ps_block ?_ | exact ps_body)) T3.out.drew (fun hps => ?_)
      simp only [List.replicate]
      refine flows_take 0 (v := ?_) (a' := ?_) hps rfl (by kernel_rfl) rfl ?_ ?_ ?_
      rotate_left 2
      · intro w' hk; go_simp; try rfl
      · simp only [Act.put, List.setIfInBounds_toArray, List.set_cons_succ, List.set_cons_zero]; try rfl
      refine flows_take 1 (v := ?_) (a' := ?_) hps rfl (by kernel_rfl) rfl ?_ ?_ ?_
      rotate_left 2
      · intro w' hk; go_simp; try rfl
      · simp only [Act.put, List.setIfInBounds_toArray, List.set_cons_succ, List.set_cons_zero]; try rfl
      refine flows_take 2 (v := ?_) (a' := ?_) hps rfl (by kernel_rfl) rfl ?_ ?_ ?_
      rotate_left 2
      · intro w' hk; have c0 := (hk.row (i := 0) rfl).cell 1; simp only [List.getElem?_cons_succ, List.getElem?_cons_zero] at c0; go_simp; try rfl
      · simp only [Act.put, List.setIfInBounds_toArray, List.set_cons_succ, List.set_cons_zero]; try rfl
      refine flows_take 3 (v := ?_) (a' := ?_) hps rfl (by kernel_rfl) rfl ?_ ?_ ?_
      rotate_left 2
      · intro w' hk; go_simp; try rfl
      · simp only [Act.put, List.setIfInBounds_toArray, List.set_cons_succ, List.set_cons_zero]; try rfl
      refine flows_take 4 (v := ?_) (a' := ?_) hps rfl (by kernel_rfl) rfl ?_ ?_ ?_
      rotate_left 2
      · intro w' hk; go_simp; try rfl
      · simp only [Act.put, List.setIfInBounds_toArray, List.set_cons_succ, List.set_cons_zero]; try rfl
      refine flows_take 6 (v := ?_) (a' := ?_) hps rfl (by kernel_rfl) rfl ?_ ?_ ?_
      rotate_left 2
      · intro w' hk; go_simp; try rfl
      · simp only [Act.put, List.setIfInBounds_toArray, List.set_cons_succ, List.set_cons_zero]; try rfl
      refine flows_one 5 hps rfl (by kernel_rfl) rfl (wp_next (fun K hK => ?_))
      go_simp
      with_reducible refine KC.out.mono ?_
      rintro e w' ⟨rfl, rfl⟩
      have kp := T3.out.drew
      refine hK _ _ ⟨kp, ?_⟩
      clear kp hK
      refine flows_one 7 hps rfl (by kernel_rfl) rfl (wp_next (fun K hK => ?_))
      go_simp
      with_reducible refine KL.out.mono ?_
      rintro e w' ⟨rfl, rfl⟩
      have kp := T3.out.drew
      refine hK _ _ ⟨kp, ?_⟩
      clear kp hK
      refine flows_take 8 (v := ?_) (a' := ?_) hps rfl (by kernel_rfl) rfl ?_ ?_ ?_
      rotate_left 2
      · intro w' hk; go_simp; try rfl
      · simp only [Act.put, List.setIfInBounds_toArray, List.set_cons_succ, List.set_cons_zero]; try rfl
      refine flows_take 9 (v := ?_) (a' := ?_) hps rfl (by kernel_rfl) rfl ?_ ?_ ?_
      rotate_left 2
      · intro w' hk; go_simp; try rfl
      · simp only [Act.put, List.setIfInBounds_toArray, List.set_cons_succ, List.set_cons_zero]; try rfl
      refine flows_done hps (by kernel_rfl) ?_
      have TD := Lib.hid T3.out.drew
      have x0 : w3.drew.cell? ⟨g2, 0, none⟩ = some (.int .i64 (b.length : Int)) := (TD.out.row (i := 0) rfl).cell 0
      have x1 : w3.drew.cell? ⟨g2, 1, none⟩ = some (.int .i64 (0 : Int)) := (TD.out.row (i := 0) rfl).cell 1
      clear KC KL T3
      clear x0 x1
      go_wp2
      go_ret2
      exact ⟨rfl, TD.out.tail⟩
  | some x =>
    cases hu : x.b.used with
    | true =>
      have hl : lastM m b.length = ((b.length : Int), 0, false) := by unfold lastM; rw [hm]; simp only [hu, if_true]
      have ht : takeTail m cp n ls = tailM m cp n ls := by unfold takeTail; rw [hm]; simp only [hu, if_true]
      rw [ht]
      unfold tailM
      have HL := Lib.hid hl
      have u1 : IntKind.i64.wrap ((n : Int) - 0) = (n : Int) := by rw [Int.sub_zero]; exact IntWalk.i64_in _ (by omega)
      have u2 : IntKind.i64.wrap ((cp : Int) - (b.length : Int)) = (cp : Int) - (b.length : Int) := IntWalk.i64_in _ (by omega)
      have u3 : IntKind.i64.wrap (n : Int) = (n : Int) := IntWalk.i64_in _ (by omega)
      rw [hE]
      by_cases hr : b.length + n ≤ cp
      · rw [if_pos hr]
        obtain ⟨g1, g2⟩ := hR.grow (z := List.replicate n 0) (by rw [List.length_replicate]; omega) (by rw [List.length_replicate]; omega) (by rw [List.length_replicate]; omega)
        rw [List.length_replicate] at g1
        have hfin := tail_fin (b := b) (us := usedOf (bsOf m)) (s := n) (ls := ls) (m := m) none0 g1 g2 fun y hy => hy
        have d1 : decide ((n : Int) > (cp : Int) - (b.length : Int)) = false := decide_eq_false (by omega)
        have hgr : ({ base := bs, cap := cp, b := b } : Ar).grow (n : Int) = (0, { base := bs, cap := cp, b := b ++ List.replicate n 0 }) := by
          unfold Ar.grow; rw [if_neg (by omega), if_neg (by simp only; omega), Int.toNat_natCast]
        have HF := Lib.hid hfin; have HG := Lib.hid hgr
        generalize List.replicate n (0 : UInt8) = zs at *
        clear hl ht g1 g2 hfin hgr hm hc1 hc2 hc3 hE hlen hmod
        go_enter Try.func202, Try.ntmps202
        go_wp2_with fail
        have kc := al_last H.out HIL.out HR.out
        rw [HL.out] at kc
        with_reducible refine kc.mono ?_
        clear kc
        rintro e w1 ⟨rfl, t1⟩
        have T1 := Lib.hid t1
        clear t1
        go_wp2_with (first | (refine bk_alloc T1.out rfl rfl ?_; intro g2 w2 h2; have T2 := Lib.hid h2; clear h2) | (refine bk_store T2.out 0 rfl rfl _ _ rfl rfl (b.length : Int) (0 : Int) false rfl ?_; intro w3 h3; have T3 := Lib.hid (show St B w0 w3 (BkO g2 (b.length : Int) (0 : Int) false :: l.set i (ArT p ⟨bs, cp, b⟩)) from h3); clear h3 T2; go_wp2_with fail))
        have KC := Lib.hid (ar_Cap T3.out.drew (i := i + 1) (at_set HIL.out _)); have KL := Lib.hid (ar_Len T3.out.drew (i := i + 1) (at_set HIL.out _))
        refine flows_begin (S := fun w' => St B w0 w' (BkO g2 (b.length : Int) (0 : Int) false :: l.set i (ArT p ⟨bs, cp, b⟩))) hmixed 10 rfl (by repeat (first | with_reducible refine ps_then ?_ | with_reducible refine ps_block ?_ | with_reducible exact ps_body | refine ps_then ?_ | refine ps_block ?_ | exact ps_body)) T3.out.drew (fun hps => ?_)
        simp only [List.replicate]
        refine flows_take 0 (v := ?_) (a' := ?_) hps rfl (by kernel_rfl) rfl ?_ ?_ ?_
        rotate_left 2
        · intro w' hk; go_simp; try rfl
        · simp only [Act.put, List.setIfInBounds_toArray, List.set_cons_succ, List.set_cons_zero]; try rfl
        refine flows_take 1 (v := ?_) (a' := ?_) hps rfl (by kernel_rfl) rfl ?_ ?_ ?_
        rotate_left 2
        · intro w' hk; go_simp; try rfl
        · simp only [Act.put, List.setIfInBounds_toArray, List.set_cons_succ, List.set_cons_zero]; try rfl
        refine flows_take 2 (v := ?_) (a' := ?_) hps rfl (by kernel_rfl) rfl ?_ ?_ ?_
        rotate_left 2
        · intro w' hk; have c0 := (hk.row (i := 0) rfl).cell 1; simp only [List.getElem?_cons_succ, List.getElem?_cons_zero] at c0; go_simp; try rfl
        · simp only [Act.put, List.setIfInBounds_toArray, List.set_cons_succ, List.set_cons_zero]; try rfl
        refine flows_take 3 (v := ?_) (a' := ?_) hps rfl (by kernel_rfl) rfl ?_ ?_ ?_
        rotate_left 2
        · intro w' hk; go_simp; try rfl
        · simp only [Act.put, List.setIfInBounds_toArray, List.set_cons_succ, List.set_cons_zero]; try rfl
        refine flows_take 4 (v := ?_) (a' := ?_) hps rfl (by kernel_rfl) rfl ?_ ?_ ?_
        rotate_left 2
        · intro w' hk; go_simp; try rfl
        · simp only [Act.put, List.setIfInBounds_toArray, List.set_cons_succ, List.set_cons_zero]; try rfl
        refine flows_take 6 (v := ?_) (a' := ?_) hps rfl (by kernel_rfl) rfl ?_ ?_ ?_
        rotate_left 2
        · intro w' hk; go_simp; try rfl
        · simp only [Act.put, List.setIfInBounds_toArray, List.set_cons_succ, List.set_cons_zero]; try rfl
        refine flows_one 5 hps rfl (by kernel_rfl) rfl (wp_next (fun K hK => ?_))
        go_simp
        with_reducible refine KC.out.mono ?_
        rintro e w' ⟨rfl, rfl⟩
        have kp := T3.out.drew
        refine hK _ _ ⟨kp, ?_⟩
        clear kp hK
        refine flows_one 7 hps rfl (by kernel_rfl) rfl (wp_next (fun K hK => ?_))
        go_simp
        with_reducible refine KL.out.mono ?_
        rintro e w' ⟨rfl, rfl⟩
        have kp := T3.out.drew
        refine hK _ _ ⟨kp, ?_⟩
        clear kp hK
        refine flows_take 8 (v := ?_) (a' := ?_) hps rfl (by kernel_rfl) rfl ?_ ?_ ?_
        rotate_left 2
        · intro w' hk; go_simp; try rfl
        · simp only [Act.put, List.setIfInBounds_toArray, List.set_cons_succ, List.set_cons_zero]; try rfl
        refine flows_take 9 (v := ?_) (a' := ?_) hps rfl (by kernel_rfl) rfl ?_ ?_ ?_
        rotate_left 2
        · intro w' hk; go_simp; try rfl
        · simp only [Act.put, List.setIfInBounds_toArray, List.set_cons_succ, List.set_cons_zero]; try rfl
        refine flows_done hps (by kernel_rfl) ?_
        have TD := Lib.hid T3.out.drew
        have x0 : w3.drew.cell? ⟨g2, 0, none⟩ = some (.int .i64 (b.length : Int)) := (TD.out.row (i := 0) rfl).cell 0
        have x1 : w3.drew.cell? ⟨g2, 1, none⟩ = some (.int .i64 (0 : Int)) := (TD.out.row (i := 0) rfl).cell 1
        clear KC KL T3
        go_wp2_with fail
        have kc := ar_Grow TD.out (i := i + 1) (at_set HIL.out _) (n : Int)
        rw [HG.out, errV_0] at kc
        with_reducible refine kc.mono ?_
        clear kc
        rintro e w5 ⟨rfl, t5⟩
        have T5 := Lib.hid t5
        clear t5
        have T6 := Lib.hid (show St B w0 w5 (BkO g2 (b.length : Int) 0 false :: l.set i (ArT p ⟨bs, cp, b ++ zs⟩)) from by have := T5.out; simp only [List.set_cons_succ, List.set_set] at this; exact this)
        clear T5
        go_wp2
        have T6d := Lib.hid T6.out.drew
        refine flows_begin (S := fun w' => ∃ b', St B w0 w' (BkO g2 (b.length : Int) 0 false :: l.set i (ArT p ⟨bs, cp, b'⟩))) hmixed 10 rfl (by repeat (first | with_reducible refine ps_then ?_ | with_reducible refine ps_block ?_ | with_reducible exact ps_body | refine ps_then ?_ | refine ps_block ?_ | exact ps_body)) ⟨_, T6.out.drew⟩ (fun hps => ?_)
        simp only [List.replicate]
        refine flows_take 0 (v := ?_) (a' := ?_) hps rfl (by kernel_rfl) rfl ?_ ?_ ?_
        rotate_left 2
        · intro w' hk; go_simp; try rfl
        · simp only [Act.put, List.setIfInBounds_toArray, List.set_cons_succ, List.set_cons_zero]; try rfl
        refine flows_take 1 (v := ?_) (a' := ?_) hps rfl (by kernel_rfl) rfl ?_ ?_ ?_
        rotate_left 2
        · intro w' hk; obtain ⟨_, hq⟩ := hk; have c0 := (hq.row (i := 0) rfl).cell 0; simp only [List.getElem?_cons_succ, List.getElem?_cons_zero] at c0; go_simp; try rfl
        · simp only [Act.put, List.setIfInBounds_toArray, List.set_cons_succ, List.set_cons_zero]; try rfl
        refine flows_take 2 (v := ?_) (a' := ?_) hps rfl (by kernel_rfl) rfl ?_ ?_ ?_
        rotate_left 2
        · intro w' hk; go_simp; try rfl
        · simp only [Act.put, List.setIfInBounds_toArray, List.set_cons_succ, List.set_cons_zero]; try rfl
        refine flows_take 3 (v := ?_) (a' := ?_) hps rfl (by kernel_rfl) rfl ?_ ?_ ?_
        rotate_left 2
        · intro w' hk; go_simp; try rfl
        · simp only [Act.put, List.setIfInBounds_toArray, List.set_cons_succ, List.set_cons_zero]; try rfl
        refine flows_take 4 (v := ?_) (a' := ?_) hps rfl (by kernel_rfl) rfl ?_ ?_ ?_
        rotate_left 2
        · intro w' hk; obtain ⟨_, hq⟩ := hk; have c0 := (hq.row (i := 0) rfl).cell 0; simp only [List.getElem?_cons_succ, List.getElem?_cons_zero] at c0; go_simp; try rfl
        · simp only [Act.put, List.setIfInBounds_toArray, List.set_cons_succ, List.set_cons_zero]; try rfl
        refine flows_take 5 (v := ?_) (a' := ?_) hps rfl (by kernel_rfl) rfl ?_ ?_ ?_
        rotate_left 2
        · intro w' hk; go_simp; try rfl
        · simp only [Act.put, List.setIfInBounds_toArray, List.set_cons_succ, List.set_cons_zero]; try rfl
        refine flows_take 6 (v := ?_) (a' := ?_) hps rfl (by kernel_rfl) rfl ?_ ?_ ?_
        rotate_left 2
        · intro w' hk; go_simp; try rfl
        · simp only [Act.put, List.setIfInBounds_toArray, List.set_cons_succ, List.set_cons_zero]; try rfl
        refine flows_one 7 hps rfl (by kernel_rfl) rfl (wp_next (fun K hK => ?_))
        go_simp
        have kc := blk_Set T6d.out (i := i + 1) (at_set HIL.out _) (b.length : Int) (n : Int) true
        rw [show ({ base := bs, cap := cp, b := b ++ zs } : Ar).b = b ++ zs from rfl, HF.out.1, show errS (some _) = .nilIface from rfl, Option.getD_some] at kc
        with_reducible refine kc.mono ?_
        clear kc
        rintro e w8 ⟨rfl, t8⟩
        simp only [List.set_cons_succ, List.set_set] at t8
        have T8 := Lib.hid t8
        have kp : ∃ b', St B w0 w8 (BkO g2 (b.length : Int) 0 false :: l.set i (ArT p ⟨bs, cp, b'⟩)) := ⟨_, t8⟩
        clear t8
        refine hK _ _ ⟨kp, ?_⟩
        clear kp hK
        refine flows_take 8 (v := ?_) (a' := ?_) hps rfl (by kernel_rfl) rfl ?_ ?_ ?_
        rotate_left 2
        · intro w' hk; go_simp; try rfl
        · simp only [Act.put, List.setIfInBounds_toArray, List.set_cons_succ, List.set_cons_zero]; try rfl
        refine flows_take 9 (v := ?_) (a' := ?_) hps rfl (by kernel_rfl) rfl ?_ ?_ ?_
        rotate_left 2
        · intro w' hk; go_simp; try rfl
        · simp only [Act.put, List.setIfInBounds_toArray, List.set_cons_succ, List.set_cons_zero]; try rfl
        refine flows_done hps (by kernel_rfl) ?_
        go_wp2
        go_ret2
        exact ⟨rfl, _, T8.out.tail, HF.out.2.1, HF.out.2.2⟩
      · rw [if_neg hr]
        have d1 : decide ((n : Int) > (cp : Int) - (b.length : Int)) = true := decide_eq_true (by omega)
        clear hl ht hm hE hlen hmod
        go_enter Try.func202, Try.ntmps202
        go_wp2_with fail
        have kc := al_last H.out HIL.out HR.out
        rw [HL.out] at kc
        with_reducible refine kc.mono ?_
        clear kc
        rintro e w1 ⟨rfl, t1⟩
        have T1 := Lib.hid t1
        clear t1
        go_wp2_with (first | (refine bk_alloc T1.out rfl rfl ?_; intro g2 w2 h2; have T2 := Lib.hid h2; clear h2) | (refine bk_store T2.out 0 rfl rfl _ _ rfl rfl (b.length : Int) (0 : Int) false rfl ?_; intro w3 h3; have T3 := Lib.hid (show St B w0 w3 (BkO g2 (b.length : Int) (0 : Int) false :: l.set i (ArT p ⟨bs, cp, b⟩)) from h3); clear h3 T2; go_wp2_with fail))
        have KC := Lib.hid (ar_Cap T3.out.drew (i := i + 1) (at_set HIL.out _)); have KL := Lib.hid (ar_Len T3.out.drew (i := i + 1) (at_set HIL.out _))
        refine flows_begin (S := fun w' => St B w0 w' (BkO g2 (b.length : Int) (0 : Int) false :: l.set i (ArT p ⟨bs, cp, b⟩))) hmixed 10 rfl (by repeat (first | with_reducible refine ps_then ?_ | with_reducible refine ps_block ?_ | with_reducible exact ps_body | refine ps_then ?_ | refine ps_block ?_ | exact ps_body)) T3.out.drew (fun hps => ?_)
        simp only [List.replicate]
        refine flows_take 0 (v := ?_) (a' := ?_) hps rfl (by kernel_rfl) rfl ?_ ?_ ?_
        rotate_left 2
        · intro w' hk; go_simp; try rfl
        · simp only [Act.put, List.setIfInBounds_toArray, List.set_cons_succ, List.set_cons_zero]; try rfl
        refine flows_take 1 (v := ?_) (a' := ?_) hps rfl (by kernel_rfl) rfl ?_ ?_ ?_
        rotate_left 2
        · intro w' hk; go_simp; try rfl
        · simp only [Act.put, List.setIfInBounds_toArray, List.set_cons_succ, List.set_cons_zero]; try rfl
        refine flows_take 2 (v := ?_) (a' := ?_) hps rfl (by kernel_rfl) rfl ?_ ?_ ?_
        rotate_left 2
        · intro w' hk; have c0 := (hk.row (i := 0) rfl).cell 1; simp only [List.getElem?_cons_succ, List.getElem?_cons_zero] at c0; go_simp; try rfl
        · simp only [Act.put, List.setIfInBounds_toArray, List.set_cons_succ, List.set_cons_zero]; try rfl
        refine flows_take 3 (v := ?_) (a' := ?_) hps rfl (by kernel_rfl) rfl ?_ ?_ ?_
        rotate_left 2
        · intro w' hk; go_simp; try rfl
        · simp only [Act.put, List.setIfInBounds_toArray, List.set_cons_succ, List.set_cons_zero]; try rfl
        refine flows_take 4 (v := ?_) (a' := ?_) hps rfl (by kernel_rfl) rfl ?_ ?_ ?_
        rotate_left 2
        · intro w' hk; go_simp; try rfl
        · simp only [Act.put, List.setIfInBounds_toArray, List.set_cons_succ, List.set_cons_zero]; try rfl
        refine flows_take 6 (v := ?_) (a' := ?_) hps rfl (by kernel_rfl) rfl ?_ ?_ ?_
        rotate_left 2
        · intro w' hk; go_simp; try rfl
        · simp only [Act.put, List.setIfInBounds_toArray, List.set_cons_succ, List.set_cons_zero]; try rfl
        refine flows_one 5 hps rfl (by kernel_rfl) rfl (wp_next (fun K hK => ?_))
        go_simp
        with_reducible refine KC.out.mono ?_
        rintro e w' ⟨rfl, rfl⟩
        have kp := T3.out.drew
        refine hK _ _ ⟨kp, ?_⟩
        clear kp hK
        refine flows_one 7 hps rfl (by kernel_rfl) rfl (wp_next (fun K hK => ?_))
        go_simp
        with_reducible refine KL.out.mono ?_
        rintro e w' ⟨rfl, rfl⟩
        have kp := T3.out.drew
        refine hK _ _ ⟨kp, ?_⟩
        clear kp hK
        refine flows_take 8 (v := ?_) (a' := ?_) hps rfl (by kernel_rfl) rfl ?_ ?_ ?_
        rotate_left 2
        · intro w' hk; go_simp; try rfl
        · simp only [Act.put, List.setIfInBounds_toArray, List.set_cons_succ, List.set_cons_zero]; try rfl
        refine flows_take 9 (v := ?_) (a' := ?_) hps rfl (by kernel_rfl) rfl ?_ ?_ ?_
        rotate_left 2
        · intro w' hk; go_simp; try rfl
        · simp only [Act.put, List.setIfInBounds_toArray, List.set_cons_succ, List.set_cons_zero]; try rfl
        refine flows_done hps (by kernel_rfl) ?_
        have TD := Lib.hid T3.out.drew
        have x0 : w3.drew.cell? ⟨g2, 0, none⟩ = some (.int .i64 (b.length : Int)) := (TD.out.row (i := 0) rfl).cell 0
        have x1 : w3.drew.cell? ⟨g2, 1, none⟩ = some (.int .i64 (0 : Int)) := (TD.out.row (i := 0) rfl).cell 1
        clear KC KL T3
        clear x0 x1
        go_wp2
        go_ret2
        exact ⟨rfl, TD.out.tail⟩
    | false =>
      have hl : lastM m b.length = ((x.b.off : Int), (x.b.size : Int), false) := by unfold lastM; rw [hm]; simp only [hu, Bool.false_eq_true, if_false]
      have ht : takeTail m cp n ls = if b.length + n ≤ cp + x.b.size then some (x.b.off, m.dropLast ++ [⟨⟨x.b.off, n, true⟩, x.d⟩], outL ls (clsN x.b.size) x.b.off) else none := by unfold takeTail; rw [hm, hE]; simp only [hu, Bool.false_eq_true, if_false]
      rw [ht]
      have hxn := hlt x hm hu
      have hsp := getLast_split hm
      have hbs : bsOf m = bsOf m.dropLast ++ x.b :: [] := by have := congrArg bsOf hsp; rw [bsOf_append] at this; exact this
      have hR2 := hR
      rw [hbs] at hR2
      have hxs := blkAt_some (hR2.good.mem (List.mem_append_right _ (List.mem_cons_self ..))).2.1
      obtain ⟨b1, t1, t2, t3, t4, _⟩ := hR2.take hu
      have u1 : IntKind.i64.wrap ((n : Int) - (x.b.size : Int)) = (n : Int) - (x.b.size : Int) := IntWalk.i64_in _ (by omega)
      have u2 : IntKind.i64.wrap ((cp : Int) - (b.length : Int)) = (cp : Int) - (b.length : Int) := IntWalk.i64_in _ (by omega)
      have hx0 : decide ((x.b.size : Int) > 0) = true := decide_eq_true (by omega)
      have hx00 : decide (0 < x.b.size) = true := decide_eq_true (by omega)
      have HL := Lib.hid hl
      by_cases hr : b.length + n ≤ cp + x.b.size
      · rw [if_pos hr]
        have hnk : (n : Int) - (x.b.size : Int) = ((n - x.b.size : Nat) : Int) := by omega
        obtain ⟨g1, g2⟩ := t4.grow (z := List.replicate (n - x.b.size) 0) (by rw [List.length_replicate]; omega) (by rw [List.length_replicate, t2]; omega)
        rw [List.length_replicate, show x.b.size + (n - x.b.size) = n by omega] at g1
        have hus : usedOf (bsOf m) = usedOf (bsOf m.dropLast) := by rw [hbs, usedOf_free hu, List.append_nil]
        have hfin := tail_fin (b := b) (us := usedOf (bsOf m)) (s := n) (ls := ls) (m := m) x.d g1 ((by rw [hus]; rw [List.append_nil] at t3; exact t3 : SameU (usedOf (bsOf m)) b b1).trans (by rw [hus]; exact g2)) fun y hy => by rw [← hus]; exact hy
        have d1 : decide ((n : Int) - (x.b.size : Int) > (cp : Int) - (b.length : Int)) = false := decide_eq_false (by omega)
        have hgr : ({ base := bs, cap := cp, b := b1 } : Ar).grow ((n : Int) - (x.b.size : Int)) = (0, { base := bs, cap := cp, b := b1 ++ List.replicate (n - x.b.size) 0 }) := by
          unfold Ar.grow; rw [if_neg (by omega), if_neg (by simp only; rw [t2]; omega), hnk, Int.toNat_natCast]
        have HF := Lib.hid hfin; have HG := Lib.hid hgr; have HT := Lib.hid (takeI_of t1)
        generalize List.replicate (n - x.b.size) (0 : UInt8) = zs at *
        clear hl ht g1 g2 hfin hgr hm hc1 hc2 hc3 hE hlen hmod hsp hbs hR2 hxs t1 t2 t3 t4 hus hnk hxn hu hlt
        go_enter Try.func202, Try.ntmps202
        go_wp2_with fail
        have kc := al_last H.out HIL.out HR.out
        rw [HL.out] at kc
        with_reducible refine kc.mono ?_
        clear kc
        rintro e w1 ⟨rfl, t1⟩
        have T1 := Lib.hid t1
        clear t1
        go_wp2_with (first | (refine bk_alloc T1.out rfl rfl ?_; intro g2 w2 h2; have T2 := Lib.hid h2; clear h2) | (refine bk_store T2.out 0 rfl rfl _ _ rfl rfl (x.b.off : Int) (x.b.size : Int) false rfl ?_; intro w3 h3; have T3 := Lib.hid (show St B w0 w3 (BkO g2 (x.b.off : Int) (x.b.size : Int) false :: l.set i (ArT p ⟨bs, cp, b⟩)) from h3); clear h3 T2; go_wp2_with fail))
        have KC := Lib.hid (ar_Cap T3.out.drew (i := i + 1) (at_set HIL.out _)); have KL := Lib.hid (ar_Len T3.out.drew (i := i + 1) (at_set HIL.out _))
        refine flows_begin (S := fun w' => St B w0 w' (BkO g2 (x.b.off : Int) (x.b.size : Int) false :: l.set i (ArT p ⟨bs, cp, b⟩))) hmixed 10 rfl (by repeat (first | with_reducible refine ps_then ?_ | with_reducible refine ps_block ?_ | with_reducible exact ps_body | refine ps_then ?_ | refine ps_block ?_ | exact ps_body)) T3.out.drew (fun hps => ?_)
        simp only [List.replicate]
        refine flows_take 0 (v := ?_) (a' := ?_) hps rfl (by kernel_rfl) rfl ?_ ?_ ?_
        rotate_left 2
        · intro w' hk; go_simp; try rfl
        · simp only [Act.put, List.setIfInBounds_toArray, List.set_cons_succ, List.set_cons_zero]; try rfl
        refine flows_take 1 (v := ?_) (a' := ?_) hps rfl (by kernel_rfl) rfl ?_ ?_ ?_
        rotate_left 2
        · intro w' hk; go_simp; try rfl
        · simp only [Act.put, List.setIfInBounds_toArray, List.set_cons_succ, List.set_cons_zero]; try rfl
        refine flows_take 2 (v := ?_) (a' := ?_) hps rfl (by kernel_rfl) rfl ?_ ?_ ?_
        rotate_left 2
        · intro w' hk; have c0 := (hk.row (i := 0) rfl).cell 1; simp only [List.getElem?_cons_succ, List.getElem?_cons_zero] at c0; go_simp; try rfl
        · simp only [Act.put, List.setIfInBounds_toArray, List.set_cons_succ, List.set_cons_zero]; try rfl
        refine flows_take 3 (v := ?_) (a' := ?_) hps rfl (by kernel_rfl) rfl ?_ ?_ ?_
        rotate_left 2
        · intro w' hk; go_simp; try rfl
        · simp only [Act.put, List.setIfInBounds_toArray, List.set_cons_succ, List.set_cons_zero]; try rfl
        refine flows_take 4 (v := ?_) (a' := ?_) hps rfl (by kernel_rfl) rfl ?_ ?_ ?_
        rotate_left 2
        · intro w' hk; go_simp; try rfl
        · simp only [Act.put, List.setIfInBounds_toArray, List.set_cons_succ, List.set_cons_zero]; try rfl
        refine flows_take 6 (v := ?_) (a' := ?_) hps rfl (by kernel_rfl) rfl ?_ ?_ ?_
        rotate_left 2
        · intro w' hk; go_simp; try rfl
        · simp only [Act.put, List.setIfInBounds_toArray, List.set_cons_succ, List.set_cons_zero]; try rfl
        refine flows_one 5 hps rfl (by kernel_rfl) rfl (wp_next (fun K hK => ?_))
        go_simp
        with_reducible refine KC.out.mono ?_
        rintro e w' ⟨rfl, rfl⟩
        have kp := T3.out.drew
        refine hK _ _ ⟨kp, ?_⟩
        clear kp hK
        refine flows_one 7 hps rfl (by kernel_rfl) rfl (wp_next (fun K hK => ?_))
        go_simp
        with_reducible refine KL.out.mono ?_
        rintro e w' ⟨rfl, rfl⟩
        have kp := T3.out.drew
        refine hK _ _ ⟨kp, ?_⟩
        clear kp hK
        refine flows_take 8 (v := ?_) (a' := ?_) hps rfl (by kernel_rfl) rfl ?_ ?_ ?_
        rotate_left 2
        · intro w' hk; go_simp; try rfl
        · simp only [Act.put, List.setIfInBounds_toArray, List.set_cons_succ, List.set_cons_zero]; try rfl
        refine flows_take 9 (v := ?_) (a' := ?_) hps rfl (by kernel_rfl) rfl ?_ ?_ ?_
        rotate_left 2
        · intro w' hk; go_simp; try rfl
        · simp only [Act.put, List.setIfInBounds_toArray, List.set_cons_succ, List.set_cons_zero]; try rfl
        refine flows_done hps (by kernel_rfl) ?_
        have TD := Lib.hid T3.out.drew
        have x0 : w3.drew.cell? ⟨g2, 0, none⟩ = some (.int .i64 (x.b.off : Int)) := (TD.out.row (i := 0) rfl).cell 0
        have x1 : w3.drew.cell? ⟨g2, 1, none⟩ = some (.int .i64 (x.b.size : Int)) := (TD.out.row (i := 0) rfl).cell 1
        clear KC KL T3
        go_wp2_with fail
        have TD2 := Lib.hid (show St B w0 w3.drew ((BkO g2 (x.b.off : Int) (x.b.size : Int) false :: l).set (i + 1) (ArT p ⟨bs, cp, b⟩)) from TD.out)
        have kc := ls_Take TD2.out (by simp only [List.length_cons]; have := HIL.out; omega) (x.b.off : Int)
        rw [HT.out, show errP (some b1) = .nilIface from rfl, Option.getD_some] at kc
        with_reducible refine kc.mono ?_
        clear kc
        rintro e w4 ⟨rfl, t4⟩
        have T4 := Lib.hid t4
        clear t4
        have T4' := Lib.hid (show St B w0 w4 (BkO g2 (x.b.off : Int) (x.b.size : Int) false :: l.set i (ArT p ⟨bs, cp, b1⟩)) from T4.out)
        have x2 : w4.cell? ⟨g2, 1, none⟩ = some (.int .i64 (x.b.size : Int)) := (T4'.out.row (i := 0) rfl).cell 1
        clear TD TD2 T4
        go_wp2_with fail
        have kc := ar_Grow T4'.out (i := i + 1) (at_set HIL.out _) ((n : Int) - (x.b.size : Int))
        rw [HG.out, errV_0] at kc
        with_reducible refine kc.mono ?_
        clear kc
        rintro e w5 ⟨rfl, t5⟩
        have T5 := Lib.hid t5
        clear t5
        have T6 := Lib.hid (show St B w0 w5 (BkO g2 (x.b.off : Int) (x.b.size : Int) false :: l.set i (ArT p ⟨bs, cp, b1 ++ zs⟩)) from by have := T5.out; simp only [List.set_cons_succ, List.set_set] at this; exact this)
        clear T5 T4'
        go_wp2
        have T6d := Lib.hid T6.out.drew
        refine flows_begin (S := fun w' => ∃ b', St B w0 w' (BkO g2 (x.b.off : Int) (x.b.size : Int) false :: l.set i (ArT p ⟨bs, cp, b'⟩))) hmixed 10 rfl (by repeat (first | with_reducible refine ps_then ?_ | with_reducible refine ps_block ?_ | with_reducible exact ps_body | refine ps_then ?_ | refine ps_block ?_ | exact ps_body)) ⟨_, T6.out.drew⟩ (fun hps => ?_)
        simp only [List.replicate]
        refine flows_take 0 (v := ?_) (a' := ?_) hps rfl (by kernel_rfl) rfl ?_ ?_ ?_
        rotate_left 2
        · intro w' hk; go_simp; try rfl
        · simp only [Act.put, List.setIfInBounds_toArray, List.set_cons_succ, List.set_cons_zero]; try rfl
        refine flows_take 1 (v := ?_) (a' := ?_) hps rfl (by kernel_rfl) rfl ?_ ?_ ?_
        rotate_left 2
        · intro w' hk; obtain ⟨_, hq⟩ := hk; have c0 := (hq.row (i := 0) rfl).cell 0; simp only [List.getElem?_cons_succ, List.getElem?_cons_zero] at c0; go_simp; try rfl
        · simp only [Act.put, List.setIfInBounds_toArray, List.set_cons_succ, List.set_cons_zero]; try rfl
        refine flows_take 2 (v := ?_) (a' := ?_) hps rfl (by kernel_rfl) rfl ?_ ?_ ?_
        rotate_left 2
        · intro w' hk; go_simp; try rfl
        · simp only [Act.put, List.setIfInBounds_toArray, List.set_cons_succ, List.set_cons_zero]; try rfl
        refine flows_take 3 (v := ?_) (a' := ?_) hps rfl (by kernel_rfl) rfl ?_ ?_ ?_
        rotate_left 2
        · intro w' hk; go_simp; try rfl
        · simp only [Act.put, List.setIfInBounds_toArray, List.set_cons_succ, List.set_cons_zero]; try rfl
        refine flows_take 4 (v := ?_) (a' := ?_) hps rfl (by kernel_rfl) rfl ?_ ?_ ?_
        rotate_left 2
        · intro w' hk; obtain ⟨_, hq⟩ := hk; have c0 := (hq.row (i := 0) rfl).cell 0; simp only [List.getElem?_cons_succ, List.getElem?_cons_zero] at c0; go_simp; try rfl
        · simp only [Act.put, List.setIfInBounds_toArray, List.set_cons_succ, List.set_cons_zero]; try rfl
        refine flows_take 5 (v := ?_) (a' := ?_) hps rfl (by kernel_rfl) rfl ?_ ?_ ?_
        rotate_left 2
        · intro w' hk; go_simp; try rfl
        · simp only [Act.put, List.setIfInBounds_toArray, List.set_cons_succ, List.set_cons_zero]; try rfl
        refine flows_take 6 (v := ?_) (a' := ?_) hps rfl (by kernel_rfl) rfl ?_ ?_ ?_
        rotate_left 2
        · intro w' hk; go_simp; try rfl
        · simp only [Act.put, List.setIfInBounds_toArray, List.set_cons_succ, List.set_cons_zero]; try rfl
        refine flows_one 7 hps rfl (by kernel_rfl) rfl (wp_next (fun K hK => ?_))
        go_simp
        have kc := blk_Set T6d.out (i := i + 1) (at_set HIL.out _) (x.b.off : Int) (n : Int) true
        rw [show ({ base := bs, cap := cp, b := b1 ++ zs } : Ar).b = b1 ++ zs from rfl, HF.out.1, show errS (some _) = .nilIface from rfl, Option.getD_some] at kc
        with_reducible refine kc.mono ?_
        clear kc
        rintro e w8 ⟨rfl, t8⟩
        simp only [List.set_cons_succ, List.set_set] at t8
        have T8 := Lib.hid t8
        have kp : ∃ b', St B w0 w8 (BkO g2 (x.b.off : Int) (x.b.size : Int) false :: l.set i (ArT p ⟨bs, cp, b'⟩)) := ⟨_, t8⟩
        clear t8
        refine hK _ _ ⟨kp, ?_⟩
        clear kp hK
        refine flows_take 8 (v := ?_) (a' := ?_) hps rfl (by kernel_rfl) rfl ?_ ?_ ?_
        rotate_left 2
        · intro w' hk; go_simp; try rfl
        · simp only [Act.put, List.setIfInBounds_toArray, List.set_cons_succ, List.set_cons_zero]; try rfl
        refine flows_take 9 (v := ?_) (a' := ?_) hps rfl (by kernel_rfl) rfl ?_ ?_ ?_
        rotate_left 2
        · intro w' hk; go_simp; try rfl
        · simp only [Act.put, List.setIfInBounds_toArray, List.set_cons_succ, List.set_cons_zero]; try rfl
        refine flows_done hps (by kernel_rfl) ?_
        go_wp2
        go_ret2
        exact ⟨rfl, _, T8.out.tail, HF.out.2.1, HF.out.2.2⟩
      · rw [if_neg hr]
        have d1 : decide ((n : Int) - (x.b.size : Int) > (cp : Int) - (b.length : Int)) = true := decide_eq_true (by omega)
        clear hl ht hm hE hlen hmod hsp hbs hR2 hxs t1 t2 t3 t4 hxn hu hlt
        go_enter Try.func202, Try.ntmps202
        go_wp2_with fail
        have kc := al_last H.out HIL.out HR.out
        rw [HL.out] at kc
        with_reducible refine kc.mono ?_
        clear kc
        rintro e w1 ⟨rfl, t1⟩
        have T1 := Lib.hid t1
        clear t1
        go_wp2_with (first | (refine bk_alloc T1.out rfl rfl ?_; intro g2 w2 h2; have T2 := Lib.hid h2; clear h2) | (refine bk_store T2.out 0 rfl rfl _ _ rfl rfl (x.b.off : Int) (x.b.size : Int) false rfl ?_; intro w3 h3; have T3 := Lib.hid (show St B w0 w3 (BkO g2 (x.b.off : Int) (x.b.size : Int) false :: l.set i (ArT p ⟨bs, cp, b⟩)) from h3); clear h3 T2; go_wp2_with fail))
        have KC := Lib.hid (ar_Cap T3.out.drew (i := i + 1) (at_set HIL.out _)); have KL := Lib.hid (ar_Len T3.out.drew (i := i + 1) (at_set HIL.out _))
        refine flows_begin (S := fun w' => St B w0 w' (BkO g2 (x.b.off : Int) (x.b.size : Int) false :: l.set i (ArT p ⟨bs, cp, b⟩))) hmixed 10 rfl (by repeat (first | with_reducible refine ps_then ?_ | with_reducible refine ps_block ?_ | with_reducible exact ps_body | refine ps_then ?_ | refine ps_block ?_ | exact ps_body)) T3.out.drew (fun hps => ?_)
        simp only [List.replicate]
        refine flows_take 0 (v := ?_) (a' := ?_) hps rfl (by kernel_rfl) rfl ?_ ?_ ?_
        rotate_left 2
        · intro w' hk; go_simp; try rfl
        · simp only [Act.put, List.setIfInBounds_toArray, List.set_cons_succ, List.set_cons_zero]; try rfl
        refine flows_take 1 (v := ?_) (a' := ?_) hps rfl (by kernel_rfl) rfl ?_ ?_ ?_
        rotate_left 2
        · intro w' hk; go_simp; try rfl
        · simp only [Act.put, List.setIfInBounds_toArray, List.set_cons_succ, List.set_cons_zero]; try rfl
        refine flows_take 2 (v := ?_) (a' := ?_) hps rfl (by kernel_rfl) rfl ?_ ?_ ?_
        rotate_left 2
        · intro w' hk; have c0 := (hk.row (i := 0) rfl).cell 1; simp only [List.getElem?_cons_succ, List.getElem?_cons_zero] at c0; go_simp; try rfl
        · simp only [Act.put, List.setIfInBounds_toArray, List.set_cons_succ, List.set_cons_zero]; try rfl
        refine flows_take 3 (v := ?_) (a' := ?_) hps rfl (by kernel_rfl) rfl ?_ ?_ ?_
        rotate_left 2
        · intro w' hk; go_simp; try rfl
        · simp only [Act.put, List.setIfInBounds_toArray, List.set_cons_succ, List.set_cons_zero]; try rfl
        refine flows_take 4 (v := ?_) (a' := ?_) hps rfl (by kernel_rfl) rfl ?_ ?_ ?_
        rotate_left 2
        · intro w' hk; go_simp; try rfl
        · simp only [Act.put, List.setIfInBounds_toArray, List.set_cons_succ, List.set_cons_zero]; try rfl
        refine flows_take 6 (v := ?_) (a' := ?_) hps rfl (by kernel_rfl) rfl ?_ ?_ ?_
        rotate_left 2
        · intro w' hk; go_simp; try rfl
        · simp only [Act.put, List.setIfInBounds_toArray, List.set_cons_succ, List.set_cons_zero]; try rfl
        refine flows_one 5 hps rfl (by kernel_rfl) rfl (wp_next (fun K hK => ?_))
        go_simp
        with_reducible refine KC.out.mono ?_
        rintro e w' ⟨rfl, rfl⟩
        have kp := T3.out.drew
        refine hK _ _ ⟨kp, ?_⟩
        clear kp hK
        refine flows_one 7 hps rfl (by kernel_rfl) rfl (wp_next (fun K hK => ?_))
        go_simp
        with_reducible refine KL.out.mono ?_
        rintro e w' ⟨rfl, rfl⟩
        have kp := T3.out.drew
        refine hK _ _ ⟨kp, ?_⟩
        clear kp hK
        refine flows_take 8 (v := ?_) (a' := ?_) hps rfl (by kernel_rfl) rfl ?_ ?_ ?_
        rotate_left 2
        · intro w' hk; go_simp; try rfl
        · simp only [Act.put, List.setIfInBounds_toArray, List.set_cons_succ, List.set_cons_zero]; try rfl
        refine flows_take 9 (v := ?_) (a' := ?_) hps rfl (by kernel_rfl) rfl ?_ ?_ ?_
        rotate_left 2
        · intro w' hk; go_simp; try rfl
        · simp only [Act.put, List.setIfInBounds_toArray, List.set_cons_succ, List.set_cons_zero]; try rfl
        refine flows_done hps (by kernel_rfl) ?_
        have TD := Lib.hid T3.out.drew
        have x0 : w3.drew.cell? ⟨g2, 0, none⟩ = some (.int .i64 (x.b.off : Int)) := (TD.out.row (i := 0) rfl).cell 0
        have x1 : w3.drew.cell? ⟨g2, 1, none⟩ = some (.int .i64 (x.b.size : Int)) := (TD.out.row (i := 0) rfl).cell 1
        clear KC KL T3
        clear x0 x1
        go_wp2
        go_ret2
        exact ⟨rfl, TD.out.tail⟩
end
end Go.Proofs.Ytenbpbnffnodhaa

/- Where a block stands among an arena's. No program. -/
namespace Go.Own
/-- Each block stands elsewhere. -/
def Offs (m : List Bd) : Prop := m.Pairwise fun x y => x.b.off ≠ y.b.off
theorem Right.offs {b : List UInt8} {m : List Bd} {ls : Ls} (h : Right b (bsOf m) ls) : Offs m := by
  have := (tile_to.2 h.tile).offs
  unfold bsOf at this
  rw [List.pairwise_map] at this
  exact this
theorem Offs.same {m : List Bd} (h : Offs m) {i j : Nat} {x y : Bd} (hi : m[i]? = some x) (hj : m[j]? = some y) (he : x.b.off = y.b.off) : i = j := by
  obtain ⟨h1, e1⟩ := List.getElem?_eq_some_iff.1 hi
  obtain ⟨h2, e2⟩ := List.getElem?_eq_some_iff.1 hj
  have hp := List.pairwise_iff_getElem.1 h
  rcases Nat.lt_trichotomy i j with hlt | he2 | hlt
  · exact absurd (by rw [e1, e2]; exact he) (hp i j h1 h2 hlt)
  · exact he2
  · exact absurd (by rw [e1, e2]; exact he.symm) (hp j i h2 h1 hlt)
theorem atI_some {m : List Bd} {o i : Nat} (h : atI m o = some i) : ∃ x, m[i]? = some x ∧ x.b.off = o := by
  unfold atI at h
  rw [List.findIdx?_eq_some_iff_getElem] at h
  obtain ⟨h1, h2, _⟩ := h
  exact ⟨m[i], List.getElem?_eq_getElem h1, by simpa using h2⟩
theorem atI_none {m : List Bd} {o : Nat} (h : atI m o = none) : ∀ x ∈ m, x.b.off ≠ o := by
  unfold atI at h
  rw [List.findIdx?_eq_none_iff] at h
  intro x hx
  simpa using h x hx
theorem Offs.atI {m : List Bd} (h : Offs m) {i o : Nat} {x : Bd} (hi : m[i]? = some x) (ho : x.b.off = o) : atI m o = some i := by
  cases hq : Own.atI m o with
  | none => exact absurd ho (atI_none hq x (List.mem_of_getElem? hi))
  | some j =>
    obtain ⟨y, hj, hy⟩ := atI_some hq
    rw [h.same hi hj (by rw [ho, hy])]
/-- Which used block stands at any number. -/
def usedZ (m : List Bd) (o : Int) : Option Nat := if 0 ≤ o then usedI m o.toNat else none
theorem usedI_some {m : List Bd} {o i : Nat} (h : usedI m o = some i) : ∃ x, m[i]? = some x ∧ x.b.off = o ∧ x.b.used = true := by
  unfold usedI at h
  cases ha : atI m o with
  | none => rw [ha] at h; cases h
  | some j =>
    rw [ha] at h
    obtain ⟨x, hx, ho⟩ := atI_some ha
    simp only [hx] at h
    split at h
    · rename_i hu; cases h; exact ⟨x, hx, ho, hu⟩
    · cases h
theorem usedZ_some {m : List Bd} {o : Int} {i : Nat} (h : usedZ m o = some i) : ∃ x, m[i]? = some x ∧ (x.b.off : Int) = o ∧ x.b.used = true := by
  unfold usedZ at h
  split at h
  · obtain ⟨x, h1, h2, h3⟩ := usedI_some h; exact ⟨x, h1, by omega, h3⟩
  · cases h
theorem Offs.usedI {m : List Bd} (h : Offs m) {i o : Nat} {x : Bd} (hi : m[i]? = some x) (ho : x.b.off = o) (hu : x.b.used = true) : usedI m o = some i := by
  unfold Own.usedI; rw [h.atI hi ho]; simp only [hi, hu, if_true]
theorem Offs.usedZ {m : List Bd} (h : Offs m) {i : Nat} {o : Int} {x : Bd} (hi : m[i]? = some x) (ho : (x.b.off : Int) = o) (hu : x.b.used = true) : usedZ m o = some i := by
  unfold Own.usedZ
  rw [if_pos (by omega)]
  exact h.usedI hi (by omega) hu
theorem usedZ_none {m : List Bd} {o : Int} (h : ∀ x ∈ m, ¬ ((x.b.off : Int) = o ∧ x.b.used = true)) : usedZ m o = none := by
  cases hq : usedZ m o with
  | none => rfl
  | some i =>
    obtain ⟨x, h1, h2, h3⟩ := usedZ_some hq
    exact absurd ⟨h2, h3⟩ (h x (List.mem_of_getElem? h1))
theorem split_at {m : List Bd} {i : Nat} {x : Bd} (h : m[i]? = some x) : m = m.take i ++ x :: m.drop (i + 1) := by
  obtain ⟨h1, e1⟩ := List.getElem?_eq_some_iff.1 h
  rw [← e1, ← List.drop_eq_getElem_cons h1, List.take_append_drop]
theorem bsOf_split {m : List Bd} {i : Nat} {x : Bd} (h : m[i]? = some x) : bsOf m = bsOf (m.take i) ++ x.b :: bsOf (m.drop (i + 1)) := by
  have := congrArg bsOf (split_at h)
  rw [bsOf_append, bsOf_cons] at this
  exact this
end Go.Own
