/- Texts of the proof of 'AllocPlays', part 10: words on memory, contracts of functions, plain laws. No condition. -/
import Derived.Test.YtenbpbnffnodhaaMgAllocPlays4
import Derived.Test.YtenbpbnffnodhaaMgAllocPlays7
import Derived.Test.YtenbpbnffnodhaaMgAllocPlays8
import Derived.Test.YtenbpbnffnodhaaMgAllocPlays9
set_option linter.unusedSimpArgs false
set_option linter.unusedVariables false
/- Blocks that are given back: the program's free and cut. -/
namespace Go.Own
open Go Go.RowKit
theorem usedOf_free {l1 l2 : List Blk} {y : Blk} (h : y.used = false) : usedOf (l1 ++ y :: l2) = usedOf (l1 ++ l2) := by
  unfold usedOf; rw [List.filter_append, List.filter_append, List.filter_cons_of_neg (by simp [h])]
theorem takeI_of {b b' : List UInt8} {o : Nat} (h : takeB b o = some b') : takeI b (o : Int) = some b' := by unfold takeI; rw [if_pos (Int.natCast_nonneg _), Int.toNat_natCast, h]
theorem putI_of {b b' : List UInt8} {o : Nat} (h : putB b o = some b') : putI b (o : Int) = some b' := by unfold putI; rw [if_pos (Int.natCast_nonneg _), Int.toNat_natCast, h]
/-- A gap may be laid as a block. -/
theorem Hole.setI {b : List UInt8} {pre post : List Blk} {o s : Nat} {ls : Ls} (h : Hole b pre o s post ls) (u : Bool) (O S : Int) (hO : O = o) (hS : S = s) : setI b O S u = some (setB b ⟨o, s, u⟩) := by
  have h1 := h.at; have h2 := h.size; have h3 := h.max
  subst hO; subst hS
  unfold Own.setI
  rw [if_pos ⟨h.sized, couldB_iff.2 (by omega)⟩]
  simp only [Int.toNat_natCast]
theorem Hole.nextI {b : List UInt8} {pre post : List Blk} {o s : Nat} {ls : Ls} (h : Hole b pre o s post ls) (O : Int) (hO : O = (o + s : Nat)) : blkI b O = post.head? := by
  subst hO; unfold blkI; rw [if_pos (Int.natCast_nonneg _), Int.toNat_natCast, h.nextAt]
theorem Hole.aheadI {b : List UInt8} {pre post : List Blk} {o s : Nat} {ls : Ls} (h : Hole b pre o s post ls) : aheadI b (o : Int) = pre.getLast? := by
  unfold Own.aheadI; rw [if_pos (Int.natCast_nonneg _), Int.toNat_natCast, h.ahead]
end Go.Own
namespace Go.Proofs.Ytenbpbnffnodhaa
open Go Go.RowKit Go.Own
set_option linter.unusedVariables false
set_option maxRecDepth 100000
section
variable {B : Nat} {w0 w : World} {l : List Ob} {i p bs cp : Nat} {b : List UInt8}
theorem size_i64 : (Try.prog.info? 3).map (·.size) = some 1 := by kernel_rfl
/-- 'x.f = u', x a variable of a struct type. -/
theorem _root_.Go.Own.St.setRow (h : St B w0 w l) {i g : Nat} {e : TypeId} {cs : List Value} (hi : l[i]? = some (RowO g e cs)) (j : Nat) (u : Value) : St B w0 (w.setCell ⟨g, j, none⟩ u) (l.set i (RowO g e (cs.set j u))) :=
  h.rowTo hi _ _ ((h.row hi).set j u) ((Keep.refl (· = g) w).setCell (p := ⟨g, j, none⟩) (.inl rfl) u)
/-- What has become of an arena: its blocks and lists; these blocks' bytes stand. -/
def AlR (B : Nat) (w0 : World) (l : List Ob) (i p bs cp : Nat) (b : List UInt8) (us : List Blk) (q : List Bd × Ls) (w' : World) : Prop :=
  ∃ b', St B w0 w' (l.set i (ArT p ⟨bs, cp, b'⟩)) ∧ b'.length = b.length ∧ SameU us b b' ∧ Right b' (bsOf q.1) q.2
set_option maxHeartbeats 16000000 in
theorem al_free (h : St B w0 w (l.set i (ArT p ⟨bs, cp, b⟩))) (hil : i < l.length) {pre post : List Bd} {o s : Nat} {ls : Ls} (hh : Hole b (bsOf pre) o s (bsOf post) ls) (O S : Int) (u : Bool) (hO : O = o) (hS : S = s) :
    Calls Try.prog 230 #[arP p, .agg #[.int .i64 O, .int .i64 S, .bool u]] w fun e w' => e = .returned .nilIface ∧ AlR B w0 l i p bs cp b (usedOf (bsOf pre ++ bsOf post)) (freeM pre o s post ls) w' := by
  subst hO; subst hS
  have hat := hh.at; have hsz := hh.size; have hmx := hh.max
  have H := Lib.hid h; have HIL := Lib.hid hil
  clear h hil
  have u1 : IntKind.i64.wrap ((o : Int) + (s : Int)) = (o : Int) + (s : Int) := IntWalk.i64_in _ (by omega)
  have hN := hh.nextI ((o : Int) + (s : Int)) (by omega)
  have fin : ∀ (pre2 post2 : List Bd) (o2 s2 : Nat) (ls2 : Ls) (b2 : List UInt8), Hole b2 (bsOf pre2) o2 s2 (bsOf post2) ls2 → b2.length = b.length → SameU (usedOf (bsOf pre ++ bsOf post)) b b2 → usedOf (bsOf pre2 ++ bsOf post2) = usedOf (bsOf pre ++ bsOf post) →
      freeM pre o s post ls = (pre2 ++ ⟨⟨o2, s2, false⟩, none0⟩ :: post2, inL ls2 (clsN s2) o2) →
      ∃ b3, putI (setB b2 ⟨o2, s2, false⟩) (o2 : Int) = some b3 ∧ ∀ w', St B w0 w' (l.set i (ArT p ⟨bs, cp, b3⟩)) → AlR B w0 l i p bs cp b (usedOf (bsOf pre ++ bsOf post)) (freeM pre o s post ls) w' := by
    intro pre2 post2 o2 s2 ls2 b2 h2 hl hu he hf
    obtain ⟨b3, e1, e2, e3, e4⟩ := h2.put
    rw [he] at e3
    refine ⟨b3, putI_of e1, fun w' hw => ⟨b3, hw, by rw [e2, hl], hu.trans e3, ?_⟩⟩
    rw [hf, bsOf_append, bsOf_cons]
    exact e4
  have FIN := Lib.hid fin
  clear fin
  go_enter Try.func230, Try.ntmps230
  go_wp2_with fail
  have h1 := H.out.addRow 77 [.int .i64 o, .int .i64 s, .bool u]
  generalize w.alloc (Obj.cells #[Value.int IntKind.i64 o, Value.int IntKind.i64 s, Value.bool u] 77 (0, 0)) = w1 at h1 ⊢
  generalize w.heap.size = g at h1 ⊢
  have T1 := Lib.hid (show St B w0 w1 (BkO g o s u :: l.set i (ArT p ⟨bs, cp, b⟩)) from h1)
  clear h1
  have x0 : w1.cell? ⟨g, 0, none⟩ = some (.int .i64 (o : Int)) := (T1.out.row (i := 0) rfl).cell 0
  have x1 : w1.cell? ⟨g, 1, none⟩ = some (.int .i64 (s : Int)) := (T1.out.row (i := 0) rfl).cell 1
  cases post with
  | nil =>
    rw [show (bsOf ([] : List Bd)).head? = none from rfl] at hN
    have HN := Lib.hid hN
    clear hN
    go_wp2_with fail
    have kc := blk_Get T1.out (i := i + 1) (at_set HIL.out _) ((o : Int) + (s : Int))
    rw [show ({ base := bs, cap := cp, b := b } : Ar).b = b from rfl, HN.out, show bkV none = .agg #[.int .i64 0, .int .i64 0, .bool false] from rfl, show errO none = .iface 183 (.int .i64 3) from rfl] at kc
    with_reducible refine kc.mono ?_
    clear kc
    rintro e w2 ⟨rfl, t2⟩
    have T2 := Lib.hid t2
    clear t2
    clear x0 x1
    go_wp2_with (first | (refine bk_alloc T2.out rfl rfl ?_; intro g3 w3 h3; have T3 := Lib.hid h3; clear h3) | (refine bk_store T3.out 0 rfl rfl _ _ rfl rfl 0 0 false rfl ?_; intro w4 h4; have T4 := Lib.hid (show St B w0 w4 (BkO g3 0 0 false :: BkO g o s u :: l.set i (ArT p ⟨bs, cp, b⟩)) from h4); clear h4 T3; have x0 : w4.cell? ⟨g, 0, none⟩ = some (.int .i64 (o : Int)) := (T4.out.row (i := 1) rfl).cell 0; go_wp2_with fail))
    have hgen : ∃ (post1 : List Bd) (s1 : Nat) (ls1 : Ls) (b1 : List UInt8) (S1 : Int), S1 = s1 ∧ Hole b1 (bsOf pre) o s1 (bsOf post1) ls1 ∧ b1.length = b.length ∧ SameU (usedOf (bsOf pre ++ bsOf [])) b b1 ∧ usedOf (bsOf pre ++ bsOf post1) = usedOf (bsOf pre ++ bsOf []) ∧ joinN [] s ls = (post1, s1, ls1) ∧ S1 = s ∧ b1 = b := ⟨[], s, ls, b, s, rfl, hh, rfl, SameU.refl _ _, rfl, rfl, rfl, rfl⟩
    obtain ⟨post1, s1, ls1, b1, S1, hS1, hh1, hl1, hu1, he1, hj1, q1, q2⟩ := hgen
    rw [← q1, ← q2] at T4
    clear q1 q2 HN hh u1 T1 T2
    have hat1 := hh1.at; have hsz1 := hh1.size; have hmx1 := hh1.max
    have hA := hh1.aheadI
    rcases List.eq_nil_or_concat pre with hpre | ⟨pre', z, hpre⟩
    · rw [hpre, show (bsOf ([] : List Bd)).getLast? = none from rfl] at hA
      have hf : freeM pre o s [] ls = (pre ++ ⟨⟨o, s1, false⟩, none0⟩ :: post1, inL ls1 (clsN s1) o) := by unfold freeM; rw [hj1, hpre]; rfl
      obtain ⟨b9, hb9, hfin⟩ := FIN.out _ _ _ _ _ _ hh1 hl1 hu1 he1 hf
      have hs9 := hh1.setI false (o : Int) S1 rfl hS1
      have HA := Lib.hid hA
      clear hA hf hh1 hl1 hu1 he1 hj1 hS1 hat hsz hmx hat1 hsz1 hmx1
      go_wp2_with fail
      have kc := blk_Ahead T4.out (i := i + 2) (at_set HIL.out _) (o : Int)
      rw [show ({ base := bs, cap := cp, b := b1 } : Ar).b = b1 from rfl, HA.out, show bkV none = .agg #[.int .i64 0, .int .i64 0, .bool false] from rfl, show errO none = .iface 183 (.int .i64 3) from rfl] at kc
      with_reducible refine kc.mono ?_
      clear kc
      rintro e w10 ⟨rfl, t10⟩
      have T10 := Lib.hid t10
      clear t10
      go_wp2_with (first | (refine bk_alloc T10.out rfl rfl ?_; intro g11 w11 h11; have T11 := Lib.hid h11; clear h11) | (refine bk_store T11.out 0 rfl rfl _ _ rfl rfl 0 0 false rfl ?_; intro w12 h12; have T12 := Lib.hid (show St B w0 w12 (BkO g11 0 0 false :: BkO g3 0 0 false :: BkO g o S1 u :: l.set i (ArT p ⟨bs, cp, b1⟩)) from h12); clear h12 T11; have c2 : w12.cell? ⟨g, 2, none⟩ = some (.bool u) := (T12.out.row (i := 2) rfl).cell 2; have f2 : w12.frozen? ⟨g, 2, none⟩ = false := (T12.out.row (i := 2) rfl).frozen 2; have T20 := Lib.hid (show St B w0 (w12.setCell ⟨g, 2, none⟩ (.bool false)) (BkO g11 0 0 false :: BkO g3 0 0 false :: BkO g (o : Int) S1 false :: l.set i (ArT p ⟨bs, cp, b1⟩)) from T12.out.setRow (i := 2) rfl 2 (.bool false)); go_wp2_with (refine bk_load T20.out 2 rfl rfl _ rfl rfl ?_)))
      have HFI := Lib.hid hfin; have HB9 := Lib.hid hb9; have HS9 := Lib.hid hs9
      clear hfin hb9 hs9
      have kc := blk_Set T20.out (i := i + 3) (at_set HIL.out _) ((o : Int)) (S1) false
      rw [show ({ base := bs, cap := cp, b := b1 } : Ar).b = b1 from rfl, HS9.out, show errS (some _) = .nilIface from rfl, Option.getD_some] at kc
      with_reducible refine kc.mono ?_
      clear kc
      rintro e w21 ⟨rfl, t21⟩
      have T21 := Lib.hid t21
      clear t21
      have T22 := Lib.hid (show St B w0 w21 (BkO g11 0 0 false :: BkO g3 0 0 false :: BkO g (o : Int) S1 false :: l.set i (ArT p ⟨bs, cp, setB b1 ⟨o, s1, false⟩⟩)) from by have := T21.out; simp only [List.set_cons_succ, List.set_set] at this; exact this)
      clear T21 T20
      have x9 : w21.cell? ⟨g, 0, none⟩ = some (.int .i64 ((o : Int))) := (T22.out.row (i := 2) rfl).cell 0
      go_wp2_with fail
      have kc := ls_Put (l := BkO g11 0 0 false :: BkO g3 0 0 false :: BkO g (o : Int) S1 false :: l) (i := i + 3) T22.out (by have := HIL.out; simp only [List.length_cons]; omega) ((o : Int))
      rw [HB9.out, show errP (some _) = .nilIface from rfl, Option.getD_some] at kc
      with_reducible refine kc.mono ?_
      clear kc
      rintro e w23 ⟨rfl, t23⟩
      have T23 := Lib.hid t23
      clear t23
      go_wp2
      go_ret
      exact ⟨rfl, HFI.out _ T23.out.tail.tail.tail⟩
    · rw [List.concat_eq_append] at hpre
      rw [hpre, bsOf_append, show bsOf [z] = [z.b] from rfl, List.getLast?_concat] at hA
      have HA := Lib.hid hA
      clear hA
      cases hu : z.b.used with
      | true =>
        have hf : freeM pre o s [] ls = (pre ++ ⟨⟨o, s1, false⟩, none0⟩ :: post1, inL ls1 (clsN s1) o) := by
          unfold freeM joinP; rw [hj1, hpre, List.getLast?_concat]; simp only [hu, if_true]
        obtain ⟨b9, hb9, hfin⟩ := FIN.out _ _ _ _ _ _ hh1 hl1 hu1 he1 hf
        have hs9 := hh1.setI false (o : Int) S1 rfl hS1
        clear hf hh1 hl1 hu1 he1 hj1 hS1 hat hsz hmx hat1 hsz1 hmx1
        go_wp2_with fail
        have kc := blk_Ahead T4.out (i := i + 2) (at_set HIL.out _) (o : Int)
        rw [show ({ base := bs, cap := cp, b := b1 } : Ar).b = b1 from rfl, HA.out, show bkV (some z.b) = .agg #[.int .i64 z.b.off, .int .i64 z.b.size, .bool z.b.used] from rfl, hu, show errO (some z.b) = .nilIface from rfl] at kc
        with_reducible refine kc.mono ?_
        clear kc
        rintro e w10 ⟨rfl, t10⟩
        have T10 := Lib.hid t10
        clear t10
        clear hu
        go_wp2_with (first | (refine bk_alloc T10.out rfl rfl ?_; intro g11 w11 h11; have T11 := Lib.hid h11; clear h11) | (refine bk_store T11.out 0 rfl rfl _ _ rfl rfl z.b.off z.b.size true rfl ?_; intro w12 h12; have T12 := Lib.hid (show St B w0 w12 (BkO g11 z.b.off z.b.size true :: BkO g3 0 0 false :: BkO g o S1 u :: l.set i (ArT p ⟨bs, cp, b1⟩)) from h12); clear h12 T11; have k2 : w12.cell? ⟨g11, 2, none⟩ = some (.bool true) := (T12.out.row (i := 0) rfl).cell 2; have c2 : w12.cell? ⟨g, 2, none⟩ = some (.bool u) := (T12.out.row (i := 2) rfl).cell 2; have f2 : w12.frozen? ⟨g, 2, none⟩ = false := (T12.out.row (i := 2) rfl).frozen 2; have T20 := Lib.hid (show St B w0 (w12.setCell ⟨g, 2, none⟩ (.bool false)) (BkO g11 z.b.off z.b.size true :: BkO g3 0 0 false :: BkO g (o : Int) S1 false :: l.set i (ArT p ⟨bs, cp, b1⟩)) from T12.out.setRow (i := 2) rfl 2 (.bool false)); go_wp2_with (refine bk_load T20.out 2 rfl rfl _ rfl rfl ?_)))
        have HFI := Lib.hid hfin; have HB9 := Lib.hid hb9; have HS9 := Lib.hid hs9
        clear hfin hb9 hs9
        have kc := blk_Set T20.out (i := i + 3) (at_set HIL.out _) ((o : Int)) (S1) false
        rw [show ({ base := bs, cap := cp, b := b1 } : Ar).b = b1 from rfl, HS9.out, show errS (some _) = .nilIface from rfl, Option.getD_some] at kc
        with_reducible refine kc.mono ?_
        clear kc
        rintro e w21 ⟨rfl, t21⟩
        have T21 := Lib.hid t21
        clear t21
        have T22 := Lib.hid (show St B w0 w21 (BkO g11 z.b.off z.b.size true :: BkO g3 0 0 false :: BkO g (o : Int) S1 false :: l.set i (ArT p ⟨bs, cp, setB b1 ⟨o, s1, false⟩⟩)) from by have := T21.out; simp only [List.set_cons_succ, List.set_set] at this; exact this)
        clear T21 T20
        have x9 : w21.cell? ⟨g, 0, none⟩ = some (.int .i64 ((o : Int))) := (T22.out.row (i := 2) rfl).cell 0
        go_wp2_with fail
        have kc := ls_Put (l := BkO g11 z.b.off z.b.size true :: BkO g3 0 0 false :: BkO g (o : Int) S1 false :: l) (i := i + 3) T22.out (by have := HIL.out; simp only [List.length_cons]; omega) ((o : Int))
        rw [HB9.out, show errP (some _) = .nilIface from rfl, Option.getD_some] at kc
        with_reducible refine kc.mono ?_
        clear kc
        rintro e w23 ⟨rfl, t23⟩
        have T23 := Lib.hid t23
        clear t23
        go_wp2
        go_ret
        exact ⟨rfl, HFI.out _ T23.out.tail.tail.tail⟩
      | false =>
        have hh1' : Hole b1 (bsOf pre' ++ [z.b]) o s1 (bsOf post1) ls1 := by have := hh1; rw [hpre, bsOf_append] at this; exact this
        obtain ⟨b2, e1, e2, e3, e4, e5⟩ := hh1'.prev hu
        have hf : freeM pre o s [] ls = (pre' ++ ⟨⟨z.b.off, z.b.size + s1, false⟩, none0⟩ :: post1, inL (outL ls1 (clsN z.b.size) z.b.off) (clsN (z.b.size + s1)) z.b.off) := by
          unfold freeM joinP; rw [hj1, hpre, List.getLast?_concat]; simp only [hu, Bool.false_eq_true, if_false, List.dropLast_concat]
        have he2 : usedOf (bsOf pre' ++ bsOf post1) = usedOf (bsOf pre ++ bsOf []) := by
          rw [← he1, hpre, bsOf_append, show bsOf [z] = [z.b] from rfl, List.append_assoc, List.singleton_append, usedOf_free hu]
        have hat2 := e5.at; have hsz2 := e5.size; have hmx2 := e5.max
        obtain ⟨b9, hb9, hfin⟩ := FIN.out _ _ _ _ _ _ e5 (e3.trans hl1) (hu1.trans (by rw [← he2]; exact e4)) he2 hf
        have hs9 := e5.setI false (z.b.off : Int) (S1 + (z.b.size : Int)) rfl (by rw [hS1]; omega)
        have hT := takeI_of e1
        have m1 : IntKind.i64.wrap (S1 + (z.b.size : Int)) = S1 + (z.b.size : Int) := IntWalk.i64_in _ (by rw [hS1]; omega)
        have HT := Lib.hid hT
        clear hf hh1 hh1' hl1 hu1 he1 hj1 hS1 hat hsz hmx hat1 hsz1 hmx1 e1 e2 e3 e4 e5 he2 hT hat2 hsz2 hmx2
        go_wp2_with fail
        have kc := blk_Ahead T4.out (i := i + 2) (at_set HIL.out _) (o : Int)
        rw [show ({ base := bs, cap := cp, b := b1 } : Ar).b = b1 from rfl, HA.out, show bkV (some z.b) = .agg #[.int .i64 z.b.off, .int .i64 z.b.size, .bool z.b.used] from rfl, hu, show errO (some z.b) = .nilIface from rfl] at kc
        with_reducible refine kc.mono ?_
        clear kc
        rintro e w10 ⟨rfl, t10⟩
        have T10 := Lib.hid t10
        clear t10
        clear hu
        go_wp2_with (first | (refine bk_alloc T10.out rfl rfl ?_; intro g11 w11 h11; have T11 := Lib.hid h11; clear h11) | (refine bk_store T11.out 0 rfl rfl _ _ rfl rfl z.b.off z.b.size false rfl ?_; intro w12 h12; have T12 := Lib.hid (show St B w0 w12 (BkO g11 z.b.off z.b.size false :: BkO g3 0 0 false :: BkO g o S1 u :: l.set i (ArT p ⟨bs, cp, b1⟩)) from h12); clear h12 T11; have k2 : w12.cell? ⟨g11, 2, none⟩ = some (.bool false) := (T12.out.row (i := 0) rfl).cell 2; have k0 : w12.cell? ⟨g11, 0, none⟩ = some (.int .i64 z.b.off) := (T12.out.row (i := 0) rfl).cell 0; go_wp2_with fail))
        have kc := ls_Take (l := BkO g11 z.b.off z.b.size false :: BkO g3 0 0 false :: BkO g o S1 u :: l) (i := i + 3) T12.out (by have := HIL.out; simp only [List.length_cons]; omega) (z.b.off : Int)
        rw [HT.out, show errP (some b2) = .nilIface from rfl, Option.getD_some] at kc
        with_reducible refine kc.mono ?_
        clear kc
        rintro e w13 ⟨rfl, t13⟩
        have T13 := Lib.hid t13
        clear t13
        have T14 := Lib.hid (show St B w0 w13 (BkO g11 z.b.off z.b.size false :: BkO g3 0 0 false :: BkO g o S1 u :: l.set i (ArT p ⟨bs, cp, b2⟩)) from T13.out)
        clear T12 T13
        go_wp2_with fail
        have T14d := Lib.hid T14.out.drew
        have c5 : w13.drew.cell? ⟨g, 1, none⟩ = some (.int .i64 S1) := (T14d.out.row (i := 2) rfl).cell 1
        have c6 : w13.drew.cell? ⟨g, 0, none⟩ = some (.int .i64 (o : Int)) := (T14d.out.row (i := 2) rfl).cell 0
        have f6 : w13.drew.frozen? ⟨g, 0, none⟩ = false := (T14d.out.row (i := 2) rfl).frozen 0
        have T15 := Lib.hid (show St B w0 (w13.drew.setCell ⟨g, 0, none⟩ (.int .i64 z.b.off)) (BkO g11 z.b.off z.b.size false :: BkO g3 0 0 false :: BkO g z.b.off S1 u :: l.set i (ArT p ⟨bs, cp, b2⟩)) from T14d.out.setRow (i := 2) rfl 0 (.int .i64 z.b.off))
        have c7 : (w13.drew.setCell ⟨g, 0, none⟩ (.int .i64 z.b.off)).cell? ⟨g, 1, none⟩ = some (.int .i64 S1) := (T15.out.row (i := 2) rfl).cell 1
        have f7 : (w13.drew.setCell ⟨g, 0, none⟩ (.int .i64 z.b.off)).frozen? ⟨g, 1, none⟩ = false := (T15.out.row (i := 2) rfl).frozen 1
        have T16 := Lib.hid (show St B w0 ((w13.drew.setCell ⟨g, 0, none⟩ (.int .i64 z.b.off)).setCell ⟨g, 1, none⟩ (.int .i64 (S1 + (z.b.size : Int)))) (BkO g11 z.b.off z.b.size false :: BkO g3 0 0 false :: BkO g z.b.off (S1 + (z.b.size : Int)) u :: l.set i (ArT p ⟨bs, cp, b2⟩)) from T15.out.setRow (i := 2) rfl 1 (.int .i64 (S1 + (z.b.size : Int))))
        refine flows_begin (S := fun w' => ∃ O' S', St B w0 w' (BkO g11 z.b.off z.b.size false :: BkO g3 0 0 false :: BkO g O' S' u :: l.set i (ArT p ⟨bs, cp, b2⟩))) hmixed 11 rfl (by repeat (first | with_reducible refine ps_then ?_ | with_reducible refine ps_block ?_ | with_reducible exact ps_body | refine ps_then ?_ | refine ps_block ?_ | exact ps_body)) ⟨_, _, T14.out.drew⟩ (fun hps => ?_)
        simp only [List.replicate]
        refine flows_take 0 (v := ?_) (a' := ?_) hps rfl (by kernel_rfl) rfl ?_ ?_ ?_
        rotate_left 2
        · intro w' hk; go_simp; try rfl
        · simp only [Act.put, List.setIfInBounds_toArray, List.set_cons_succ, List.set_cons_zero]; try rfl
        refine flows_take 1 (v := ?_) (a' := ?_) hps rfl (by kernel_rfl) rfl ?_ ?_ ?_
        rotate_left 2
        · intro w' hk; obtain ⟨_, _, hq⟩ := hk; have c0 := (hq.row (i := 0) rfl).cell 0; simp only [List.getElem?_cons_succ, List.getElem?_cons_zero] at c0; go_simp; try rfl
        · simp only [Act.put, List.setIfInBounds_toArray, List.set_cons_succ, List.set_cons_zero]; try rfl
        refine flows_take 2 (v := ?_) (a' := ?_) hps rfl (by kernel_rfl) rfl ?_ ?_ ?_
        rotate_left 2
        · intro w' hk; go_simp; try rfl
        · simp only [Act.put, List.setIfInBounds_toArray, List.set_cons_succ, List.set_cons_zero]; try rfl
        refine flows_take 4 (v := ?_) (a' := ?_) hps rfl (by kernel_rfl) rfl ?_ ?_ ?_
        rotate_left 2
        · intro w' hk; go_simp; try rfl
        · simp only [Act.put, List.setIfInBounds_toArray, List.set_cons_succ, List.set_cons_zero]; try rfl
        refine flows_take 5 (v := ?_) (a' := ?_) hps rfl (by kernel_rfl) rfl ?_ ?_ ?_
        rotate_left 2
        · intro w' hk; obtain ⟨_, _, hq⟩ := hk; have c0 := (hq.row (i := 0) rfl).cell 1; simp only [List.getElem?_cons_succ, List.getElem?_cons_zero] at c0; go_simp; try rfl
        · simp only [Act.put, List.setIfInBounds_toArray, List.set_cons_succ, List.set_cons_zero]; try rfl
        refine flows_one 3 hps rfl (by kernel_rfl) rfl (wp_next (fun K hK => ?_))
        go_simp
        have kp : ∃ O' S', St B w0 w13.drew (BkO g11 z.b.off z.b.size false :: BkO g3 0 0 false :: BkO g O' S' u :: l.set i (ArT p ⟨bs, cp, b2⟩)) := ⟨_, _, T14d.out⟩
        refine hK _ _ ⟨kp, ?_⟩
        clear kp hK
        refine flows_take 6 (v := ?_) (a' := ?_) hps rfl (by kernel_rfl) rfl ?_ ?_ ?_
        rotate_left 2
        · intro w' hk; go_simp; try rfl
        · simp only [Act.put, List.setIfInBounds_toArray, List.set_cons_succ, List.set_cons_zero]; try rfl
        refine flows_take 7 (v := ?_) (a' := ?_) hps rfl (by kernel_rfl) rfl ?_ ?_ ?_
        rotate_left 2
        · intro w' hk; go_simp; try rfl
        · simp only [Act.put, List.setIfInBounds_toArray, List.set_cons_succ, List.set_cons_zero]; try rfl
        refine flows_one 8 hps rfl (by kernel_rfl) rfl (wp_next (fun K hK => ?_))
        refine store_cell_at 3 _ _ rfl ⟨g, 0, none⟩ rfl (.int .i64 z.b.off) _ rfl rfl size_i64 c6 f6 ?_
        have kp : ∃ O' S', St B w0 (w13.drew.setCell ⟨g, 0, none⟩ (.int .i64 z.b.off)) (BkO g11 z.b.off z.b.size false :: BkO g3 0 0 false :: BkO g O' S' u :: l.set i (ArT p ⟨bs, cp, b2⟩)) := ⟨_, _, T15.out⟩
        refine hK _ _ ⟨kp, ?_⟩
        clear kp hK
        refine flows_take 9 (v := ?_) (a' := ?_) hps rfl (by kernel_rfl) rfl ?_ ?_ ?_
        rotate_left 2
        · intro w' hk; go_simp; try rfl
        · simp only [Act.put, List.setIfInBounds_toArray, List.set_cons_succ, List.set_cons_zero]; try rfl
        refine flows_one 10 hps rfl (by kernel_rfl) rfl (wp_next (fun K hK => ?_))
        refine store_cell_at 3 _ _ rfl ⟨g, 1, none⟩ rfl (.int .i64 (S1 + (z.b.size : Int))) _ rfl rfl size_i64 c7 f7 ?_
        have kp : ∃ O' S', St B w0 ((w13.drew.setCell ⟨g, 0, none⟩ (.int .i64 z.b.off)).setCell ⟨g, 1, none⟩ (.int .i64 (S1 + (z.b.size : Int)))) (BkO g11 z.b.off z.b.size false :: BkO g3 0 0 false :: BkO g O' S' u :: l.set i (ArT p ⟨bs, cp, b2⟩)) := ⟨_, _, T16.out⟩
        refine hK _ _ ⟨kp, ?_⟩
        clear kp hK
        refine flows_done hps (by kernel_rfl) ?_
        clear c5 c6 f6 c7 f7
        have t17 := T16.out
        generalize (w13.drew.setCell ⟨g, 0, none⟩ (.int .i64 z.b.off)).setCell ⟨g, 1, none⟩ (.int .i64 (S1 + (z.b.size : Int))) = w17 at t17 ⊢
        have T17 := Lib.hid t17
        have c2 : w17.cell? ⟨g, 2, none⟩ = some (.bool u) := (T17.out.row (i := 2) rfl).cell 2
        have f2 : w17.frozen? ⟨g, 2, none⟩ = false := (T17.out.row (i := 2) rfl).frozen 2
        have T20 := Lib.hid (show St B w0 (w17.setCell ⟨g, 2, none⟩ (.bool false)) (BkO g11 z.b.off z.b.size false :: BkO g3 0 0 false :: BkO g z.b.off (S1 + (z.b.size : Int)) false :: l.set i (ArT p ⟨bs, cp, b2⟩)) from T17.out.setRow (i := 2) rfl 2 (.bool false))
        go_wp2_with (refine bk_load T20.out 2 rfl rfl _ rfl rfl ?_)
        have HFI := Lib.hid hfin; have HB9 := Lib.hid hb9; have HS9 := Lib.hid hs9
        clear hfin hb9 hs9
        have kc := blk_Set T20.out (i := i + 3) (at_set HIL.out _) ((z.b.off : Int)) ((S1 + (z.b.size : Int))) false
        rw [show ({ base := bs, cap := cp, b := b2 } : Ar).b = b2 from rfl, HS9.out, show errS (some _) = .nilIface from rfl, Option.getD_some] at kc
        with_reducible refine kc.mono ?_
        clear kc
        rintro e w21 ⟨rfl, t21⟩
        have T21 := Lib.hid t21
        clear t21
        have T22 := Lib.hid (show St B w0 w21 (BkO g11 z.b.off z.b.size false :: BkO g3 0 0 false :: BkO g (z.b.off : Int) (S1 + (z.b.size : Int)) false :: l.set i (ArT p ⟨bs, cp, setB b2 ⟨z.b.off, (z.b.size + s1), false⟩⟩)) from by have := T21.out; simp only [List.set_cons_succ, List.set_set] at this; exact this)
        clear T21 T20
        have x9 : w21.cell? ⟨g, 0, none⟩ = some (.int .i64 ((z.b.off : Int))) := (T22.out.row (i := 2) rfl).cell 0
        go_wp2_with fail
        have kc := ls_Put (l := BkO g11 z.b.off z.b.size false :: BkO g3 0 0 false :: BkO g (z.b.off : Int) (S1 + (z.b.size : Int)) false :: l) (i := i + 3) T22.out (by have := HIL.out; simp only [List.length_cons]; omega) ((z.b.off : Int))
        rw [HB9.out, show errP (some _) = .nilIface from rfl, Option.getD_some] at kc
        with_reducible refine kc.mono ?_
        clear kc
        rintro e w23 ⟨rfl, t23⟩
        have T23 := Lib.hid t23
        clear t23
        go_wp2
        go_ret
        exact ⟨rfl, HFI.out _ T23.out.tail.tail.tail⟩
  | cons y post' =>
    rw [bsOf_cons, List.head?_cons] at hN
    have HN := Lib.hid hN
    clear hN
    cases hyu : y.b.used with
    | true =>
      go_wp2_with fail
      have kc := blk_Get T1.out (i := i + 1) (at_set HIL.out _) ((o : Int) + (s : Int))
      rw [show ({ base := bs, cap := cp, b := b } : Ar).b = b from rfl, HN.out, show bkV (some y.b) = .agg #[.int .i64 y.b.off, .int .i64 y.b.size, .bool y.b.used] from rfl, hyu, show errO (some y.b) = .nilIface from rfl] at kc
      with_reducible refine kc.mono ?_
      clear kc
      rintro e w2 ⟨rfl, t2⟩
      have T2 := Lib.hid t2
      clear t2
      clear x0 x1
      have HYU := Lib.hid hyu
      clear hyu
      go_wp2_with (first | (refine bk_alloc T2.out rfl rfl ?_; intro g3 w3 h3; have T3 := Lib.hid h3; clear h3) | (refine bk_store T3.out 0 rfl rfl _ _ rfl rfl y.b.off y.b.size true rfl ?_; intro w4 h4; have T4 := Lib.hid (show St B w0 w4 (BkO g3 y.b.off y.b.size true :: BkO g o s u :: l.set i (ArT p ⟨bs, cp, b⟩)) from h4); clear h4 T3; have x0 : w4.cell? ⟨g, 0, none⟩ = some (.int .i64 (o : Int)) := (T4.out.row (i := 1) rfl).cell 0; have k2 : w4.cell? ⟨g3, 2, none⟩ = some (.bool true) := (T4.out.row (i := 0) rfl).cell 2; go_wp2_with fail))
      have hgen : ∃ (post1 : List Bd) (s1 : Nat) (ls1 : Ls) (b1 : List UInt8) (S1 : Int), S1 = s1 ∧ Hole b1 (bsOf pre) o s1 (bsOf post1) ls1 ∧ b1.length = b.length ∧ SameU (usedOf (bsOf pre ++ bsOf (y :: post'))) b b1 ∧ usedOf (bsOf pre ++ bsOf post1) = usedOf (bsOf pre ++ bsOf (y :: post')) ∧ joinN (y :: post') s ls = (post1, s1, ls1) ∧ S1 = s ∧ b1 = b :=
        ⟨y :: post', s, ls, b, s, rfl, hh, rfl, SameU.refl _ _, rfl, by unfold joinN; simp only [HYU.out, if_true], rfl, rfl⟩
      obtain ⟨post1, s1, ls1, b1, S1, hS1, hh1, hl1, hu1, he1, hj1, q1, q2⟩ := hgen
      rw [← q1, ← q2] at T4
      clear q1 q2 HN hh u1 T1 T2 k2
      have hat1 := hh1.at; have hsz1 := hh1.size; have hmx1 := hh1.max
      have hA := hh1.aheadI
      rcases List.eq_nil_or_concat pre with hpre | ⟨pre', z, hpre⟩
      · rw [hpre, show (bsOf ([] : List Bd)).getLast? = none from rfl] at hA
        have hf : freeM pre o s (y :: post') ls = (pre ++ ⟨⟨o, s1, false⟩, none0⟩ :: post1, inL ls1 (clsN s1) o) := by unfold freeM; rw [hj1, hpre]; rfl
        obtain ⟨b9, hb9, hfin⟩ := FIN.out _ _ _ _ _ _ hh1 hl1 hu1 he1 hf
        have hs9 := hh1.setI false (o : Int) S1 rfl hS1
        have HA := Lib.hid hA
        clear hA hf hh1 hl1 hu1 he1 hj1 hS1 hat hsz hmx hat1 hsz1 hmx1
        go_wp2_with fail
        have kc := blk_Ahead T4.out (i := i + 2) (at_set HIL.out _) (o : Int)
        rw [show ({ base := bs, cap := cp, b := b1 } : Ar).b = b1 from rfl, HA.out, show bkV none = .agg #[.int .i64 0, .int .i64 0, .bool false] from rfl, show errO none = .iface 183 (.int .i64 3) from rfl] at kc
        with_reducible refine kc.mono ?_
        clear kc
        rintro e w10 ⟨rfl, t10⟩
        have T10 := Lib.hid t10
        clear t10
        go_wp2_with (first | (refine bk_alloc T10.out rfl rfl ?_; intro g11 w11 h11; have T11 := Lib.hid h11; clear h11) | (refine bk_store T11.out 0 rfl rfl _ _ rfl rfl 0 0 false rfl ?_; intro w12 h12; have T12 := Lib.hid (show St B w0 w12 (BkO g11 0 0 false :: BkO g3 y.b.off y.b.size true :: BkO g o S1 u :: l.set i (ArT p ⟨bs, cp, b1⟩)) from h12); clear h12 T11; have c2 : w12.cell? ⟨g, 2, none⟩ = some (.bool u) := (T12.out.row (i := 2) rfl).cell 2; have f2 : w12.frozen? ⟨g, 2, none⟩ = false := (T12.out.row (i := 2) rfl).frozen 2; have T20 := Lib.hid (show St B w0 (w12.setCell ⟨g, 2, none⟩ (.bool false)) (BkO g11 0 0 false :: BkO g3 y.b.off y.b.size true :: BkO g (o : Int) S1 false :: l.set i (ArT p ⟨bs, cp, b1⟩)) from T12.out.setRow (i := 2) rfl 2 (.bool false)); go_wp2_with (refine bk_load T20.out 2 rfl rfl _ rfl rfl ?_)))
        have HFI := Lib.hid hfin; have HB9 := Lib.hid hb9; have HS9 := Lib.hid hs9
        clear hfin hb9 hs9
        have kc := blk_Set T20.out (i := i + 3) (at_set HIL.out _) ((o : Int)) (S1) false
        rw [show ({ base := bs, cap := cp, b := b1 } : Ar).b = b1 from rfl, HS9.out, show errS (some _) = .nilIface from rfl, Option.getD_some] at kc
        with_reducible refine kc.mono ?_
        clear kc
        rintro e w21 ⟨rfl, t21⟩
        have T21 := Lib.hid t21
        clear t21
        have T22 := Lib.hid (show St B w0 w21 (BkO g11 0 0 false :: BkO g3 y.b.off y.b.size true :: BkO g (o : Int) S1 false :: l.set i (ArT p ⟨bs, cp, setB b1 ⟨o, s1, false⟩⟩)) from by have := T21.out; simp only [List.set_cons_succ, List.set_set] at this; exact this)
        clear T21 T20
        have x9 : w21.cell? ⟨g, 0, none⟩ = some (.int .i64 ((o : Int))) := (T22.out.row (i := 2) rfl).cell 0
        go_wp2_with fail
        have kc := ls_Put (l := BkO g11 0 0 false :: BkO g3 y.b.off y.b.size true :: BkO g (o : Int) S1 false :: l) (i := i + 3) T22.out (by have := HIL.out; simp only [List.length_cons]; omega) ((o : Int))
        rw [HB9.out, show errP (some _) = .nilIface from rfl, Option.getD_some] at kc
        with_reducible refine kc.mono ?_
        clear kc
        rintro e w23 ⟨rfl, t23⟩
        have T23 := Lib.hid t23
        clear t23
        go_wp2
        go_ret
        exact ⟨rfl, HFI.out _ T23.out.tail.tail.tail⟩
      · rw [List.concat_eq_append] at hpre
        rw [hpre, bsOf_append, show bsOf [z] = [z.b] from rfl, List.getLast?_concat] at hA
        have HA := Lib.hid hA
        clear hA
        cases hu : z.b.used with
        | true =>
          have hf : freeM pre o s (y :: post') ls = (pre ++ ⟨⟨o, s1, false⟩, none0⟩ :: post1, inL ls1 (clsN s1) o) := by
            unfold freeM joinP; rw [hj1, hpre, List.getLast?_concat]; simp only [hu, if_true]
          obtain ⟨b9, hb9, hfin⟩ := FIN.out _ _ _ _ _ _ hh1 hl1 hu1 he1 hf
          have hs9 := hh1.setI false (o : Int) S1 rfl hS1
          clear hf hh1 hl1 hu1 he1 hj1 hS1 hat hsz hmx hat1 hsz1 hmx1
          go_wp2_with fail
          have kc := blk_Ahead T4.out (i := i + 2) (at_set HIL.out _) (o : Int)
          rw [show ({ base := bs, cap := cp, b := b1 } : Ar).b = b1 from rfl, HA.out, show bkV (some z.b) = .agg #[.int .i64 z.b.off, .int .i64 z.b.size, .bool z.b.used] from rfl, hu, show errO (some z.b) = .nilIface from rfl] at kc
          with_reducible refine kc.mono ?_
          clear kc
          rintro e w10 ⟨rfl, t10⟩
          have T10 := Lib.hid t10
          clear t10
          clear hu
          go_wp2_with (first | (refine bk_alloc T10.out rfl rfl ?_; intro g11 w11 h11; have T11 := Lib.hid h11; clear h11) | (refine bk_store T11.out 0 rfl rfl _ _ rfl rfl z.b.off z.b.size true rfl ?_; intro w12 h12; have T12 := Lib.hid (show St B w0 w12 (BkO g11 z.b.off z.b.size true :: BkO g3 y.b.off y.b.size true :: BkO g o S1 u :: l.set i (ArT p ⟨bs, cp, b1⟩)) from h12); clear h12 T11; have k2 : w12.cell? ⟨g11, 2, none⟩ = some (.bool true) := (T12.out.row (i := 0) rfl).cell 2; have c2 : w12.cell? ⟨g, 2, none⟩ = some (.bool u) := (T12.out.row (i := 2) rfl).cell 2; have f2 : w12.frozen? ⟨g, 2, none⟩ = false := (T12.out.row (i := 2) rfl).frozen 2; have T20 := Lib.hid (show St B w0 (w12.setCell ⟨g, 2, none⟩ (.bool false)) (BkO g11 z.b.off z.b.size true :: BkO g3 y.b.off y.b.size true :: BkO g (o : Int) S1 false :: l.set i (ArT p ⟨bs, cp, b1⟩)) from T12.out.setRow (i := 2) rfl 2 (.bool false)); go_wp2_with (refine bk_load T20.out 2 rfl rfl _ rfl rfl ?_)))
          have HFI := Lib.hid hfin; have HB9 := Lib.hid hb9; have HS9 := Lib.hid hs9
          clear hfin hb9 hs9
          have kc := blk_Set T20.out (i := i + 3) (at_set HIL.out _) ((o : Int)) (S1) false
          rw [show ({ base := bs, cap := cp, b := b1 } : Ar).b = b1 from rfl, HS9.out, show errS (some _) = .nilIface from rfl, Option.getD_some] at kc
          with_reducible refine kc.mono ?_
          clear kc
          rintro e w21 ⟨rfl, t21⟩
          have T21 := Lib.hid t21
          clear t21
          have T22 := Lib.hid (show St B w0 w21 (BkO g11 z.b.off z.b.size true :: BkO g3 y.b.off y.b.size true :: BkO g (o : Int) S1 false :: l.set i (ArT p ⟨bs, cp, setB b1 ⟨o, s1, false⟩⟩)) from by have := T21.out; simp only [List.set_cons_succ, List.set_set] at this; exact this)
          clear T21 T20
          have x9 : w21.cell? ⟨g, 0, none⟩ = some (.int .i64 ((o : Int))) := (T22.out.row (i := 2) rfl).cell 0
          go_wp2_with fail
          have kc := ls_Put (l := BkO g11 z.b.off z.b.size true :: BkO g3 y.b.off y.b.size true :: BkO g (o : Int) S1 false :: l) (i := i + 3) T22.out (by have := HIL.out; simp only [List.length_cons]; omega) ((o : Int))
          rw [HB9.out, show errP (some _) = .nilIface from rfl, Option.getD_some] at kc
          with_reducible refine kc.mono ?_
          clear kc
          rintro e w23 ⟨rfl, t23⟩
          have T23 := Lib.hid t23
          clear t23
          go_wp2
          go_ret
          exact ⟨rfl, HFI.out _ T23.out.tail.tail.tail⟩
        | false =>
          have hh1' : Hole b1 (bsOf pre' ++ [z.b]) o s1 (bsOf post1) ls1 := by have := hh1; rw [hpre, bsOf_append] at this; exact this
          obtain ⟨b2, e1, e2, e3, e4, e5⟩ := hh1'.prev hu
          have hf : freeM pre o s (y :: post') ls = (pre' ++ ⟨⟨z.b.off, z.b.size + s1, false⟩, none0⟩ :: post1, inL (outL ls1 (clsN z.b.size) z.b.off) (clsN (z.b.size + s1)) z.b.off) := by
            unfold freeM joinP; rw [hj1, hpre, List.getLast?_concat]; simp only [hu, Bool.false_eq_true, if_false, List.dropLast_concat]
          have he2 : usedOf (bsOf pre' ++ bsOf post1) = usedOf (bsOf pre ++ bsOf (y :: post')) := by
            rw [← he1, hpre, bsOf_append, show bsOf [z] = [z.b] from rfl, List.append_assoc, List.singleton_append, usedOf_free hu]
          have hat2 := e5.at; have hsz2 := e5.size; have hmx2 := e5.max
          obtain ⟨b9, hb9, hfin⟩ := FIN.out _ _ _ _ _ _ e5 (e3.trans hl1) (hu1.trans (by rw [← he2]; exact e4)) he2 hf
          have hs9 := e5.setI false (z.b.off : Int) (S1 + (z.b.size : Int)) rfl (by rw [hS1]; omega)
          have hT := takeI_of e1
          have m1 : IntKind.i64.wrap (S1 + (z.b.size : Int)) = S1 + (z.b.size : Int) := IntWalk.i64_in _ (by rw [hS1]; omega)
          have HT := Lib.hid hT
          clear hf hh1 hh1' hl1 hu1 he1 hj1 hS1 hat hsz hmx hat1 hsz1 hmx1 e1 e2 e3 e4 e5 he2 hT hat2 hsz2 hmx2
          go_wp2_with fail
          have kc := blk_Ahead T4.out (i := i + 2) (at_set HIL.out _) (o : Int)
          rw [show ({ base := bs, cap := cp, b := b1 } : Ar).b = b1 from rfl, HA.out, show bkV (some z.b) = .agg #[.int .i64 z.b.off, .int .i64 z.b.size, .bool z.b.used] from rfl, hu, show errO (some z.b) = .nilIface from rfl] at kc
          with_reducible refine kc.mono ?_
          clear kc
          rintro e w10 ⟨rfl, t10⟩
          have T10 := Lib.hid t10
          clear t10
          clear hu
          go_wp2_with (first | (refine bk_alloc T10.out rfl rfl ?_; intro g11 w11 h11; have T11 := Lib.hid h11; clear h11) | (refine bk_store T11.out 0 rfl rfl _ _ rfl rfl z.b.off z.b.size false rfl ?_; intro w12 h12; have T12 := Lib.hid (show St B w0 w12 (BkO g11 z.b.off z.b.size false :: BkO g3 y.b.off y.b.size true :: BkO g o S1 u :: l.set i (ArT p ⟨bs, cp, b1⟩)) from h12); clear h12 T11; have k2 : w12.cell? ⟨g11, 2, none⟩ = some (.bool false) := (T12.out.row (i := 0) rfl).cell 2; have k0 : w12.cell? ⟨g11, 0, none⟩ = some (.int .i64 z.b.off) := (T12.out.row (i := 0) rfl).cell 0; go_wp2_with fail))
          have kc := ls_Take (l := BkO g11 z.b.off z.b.size false :: BkO g3 y.b.off y.b.size true :: BkO g o S1 u :: l) (i := i + 3) T12.out (by have := HIL.out; simp only [List.length_cons]; omega) (z.b.off : Int)
          rw [HT.out, show errP (some b2) = .nilIface from rfl, Option.getD_some] at kc
          with_reducible refine kc.mono ?_
          clear kc
          rintro e w13 ⟨rfl, t13⟩
          have T13 := Lib.hid t13
          clear t13
          have T14 := Lib.hid (show St B w0 w13 (BkO g11 z.b.off z.b.size false :: BkO g3 y.b.off y.b.size true :: BkO g o S1 u :: l.set i (ArT p ⟨bs, cp, b2⟩)) from T13.out)
          clear T12 T13
          go_wp2_with fail
          have T14d := Lib.hid T14.out.drew
          have c5 : w13.drew.cell? ⟨g, 1, none⟩ = some (.int .i64 S1) := (T14d.out.row (i := 2) rfl).cell 1
          have c6 : w13.drew.cell? ⟨g, 0, none⟩ = some (.int .i64 (o : Int)) := (T14d.out.row (i := 2) rfl).cell 0
          have f6 : w13.drew.frozen? ⟨g, 0, none⟩ = false := (T14d.out.row (i := 2) rfl).frozen 0
          have T15 := Lib.hid (show St B w0 (w13.drew.setCell ⟨g, 0, none⟩ (.int .i64 z.b.off)) (BkO g11 z.b.off z.b.size false :: BkO g3 y.b.off y.b.size true :: BkO g z.b.off S1 u :: l.set i (ArT p ⟨bs, cp, b2⟩)) from T14d.out.setRow (i := 2) rfl 0 (.int .i64 z.b.off))
          have c7 : (w13.drew.setCell ⟨g, 0, none⟩ (.int .i64 z.b.off)).cell? ⟨g, 1, none⟩ = some (.int .i64 S1) := (T15.out.row (i := 2) rfl).cell 1
          have f7 : (w13.drew.setCell ⟨g, 0, none⟩ (.int .i64 z.b.off)).frozen? ⟨g, 1, none⟩ = false := (T15.out.row (i := 2) rfl).frozen 1
          have T16 := Lib.hid (show St B w0 ((w13.drew.setCell ⟨g, 0, none⟩ (.int .i64 z.b.off)).setCell ⟨g, 1, none⟩ (.int .i64 (S1 + (z.b.size : Int)))) (BkO g11 z.b.off z.b.size false :: BkO g3 y.b.off y.b.size true :: BkO g z.b.off (S1 + (z.b.size : Int)) u :: l.set i (ArT p ⟨bs, cp, b2⟩)) from T15.out.setRow (i := 2) rfl 1 (.int .i64 (S1 + (z.b.size : Int))))
          refine flows_begin (S := fun w' => ∃ O' S', St B w0 w' (BkO g11 z.b.off z.b.size false :: BkO g3 y.b.off y.b.size true :: BkO g O' S' u :: l.set i (ArT p ⟨bs, cp, b2⟩))) hmixed 11 rfl (by repeat (first | with_reducible refine ps_then ?_ | with_reducible refine ps_block ?_ | with_reducible exact ps_body | refine ps_then ?_ | refine ps_block ?_ | exact ps_body)) ⟨_, _, T14.out.drew⟩ (fun hps => ?_)
          simp only [List.replicate]
          refine flows_take 0 (v := ?_) (a' := ?_) hps rfl (by kernel_rfl) rfl ?_ ?_ ?_
          rotate_left 2
          · intro w' hk; go_simp; try rfl
          · simp only [Act.put, List.setIfInBounds_toArray, List.set_cons_succ, List.set_cons_zero]; try rfl
          refine flows_take 1 (v := ?_) (a' := ?_) hps rfl (by kernel_rfl) rfl ?_ ?_ ?_
          rotate_left 2
          · intro w' hk; obtain ⟨_, _, hq⟩ := hk; have c0 := (hq.row (i := 0) rfl).cell 0; simp only [List.getElem?_cons_succ, List.getElem?_cons_zero] at c0; go_simp; try rfl
          · simp only [Act.put, List.setIfInBounds_toArray, List.set_cons_succ, List.set_cons_zero]; try rfl
          refine flows_take 2 (v := ?_) (a' := ?_) hps rfl (by kernel_rfl) rfl ?_ ?_ ?_
          rotate_left 2
          · intro w' hk; go_simp; try rfl
          · simp only [Act.put, List.setIfInBounds_toArray, List.set_cons_succ, List.set_cons_zero]; try rfl
          refine flows_take 4 (v := ?_) (a' := ?_) hps rfl (by kernel_rfl) rfl ?_ ?_ ?_
          rotate_left 2
          · intro w' hk; go_simp; try rfl
          · simp only [Act.put, List.setIfInBounds_toArray, List.set_cons_succ, List.set_cons_zero]; try rfl
          refine flows_take 5 (v := ?_) (a' := ?_) hps rfl (by kernel_rfl) rfl ?_ ?_ ?_
          rotate_left 2
          · intro w' hk; obtain ⟨_, _, hq⟩ := hk; have c0 := (hq.row (i := 0) rfl).cell 1; simp only [List.getElem?_cons_succ, List.getElem?_cons_zero] at c0; go_simp; try rfl
          · simp only [Act.put, List.setIfInBounds_toArray, List.set_cons_succ, List.set_cons_zero]; try rfl
          refine flows_one 3 hps rfl (by kernel_rfl) rfl (wp_next (fun K hK => ?_))
          go_simp
          have kp : ∃ O' S', St B w0 w13.drew (BkO g11 z.b.off z.b.size false :: BkO g3 y.b.off y.b.size true :: BkO g O' S' u :: l.set i (ArT p ⟨bs, cp, b2⟩)) := ⟨_, _, T14d.out⟩
          refine hK _ _ ⟨kp, ?_⟩
          clear kp hK
          refine flows_take 6 (v := ?_) (a' := ?_) hps rfl (by kernel_rfl) rfl ?_ ?_ ?_
          rotate_left 2
          · intro w' hk; go_simp; try rfl
          · simp only [Act.put, List.setIfInBounds_toArray, List.set_cons_succ, List.set_cons_zero]; try rfl
          refine flows_take 7 (v := ?_) (a' := ?_) hps rfl (by kernel_rfl) rfl ?_ ?_ ?_
          rotate_left 2
          · intro w' hk; go_simp; try rfl
          · simp only [Act.put, List.setIfInBounds_toArray, List.set_cons_succ, List.set_cons_zero]; try rfl
          refine flows_one 8 hps rfl (by kernel_rfl) rfl (wp_next (fun K hK => ?_))
          refine store_cell_at 3 _ _ rfl ⟨g, 0, none⟩ rfl (.int .i64 z.b.off) _ rfl rfl size_i64 c6 f6 ?_
          have kp : ∃ O' S', St B w0 (w13.drew.setCell ⟨g, 0, none⟩ (.int .i64 z.b.off)) (BkO g11 z.b.off z.b.size false :: BkO g3 y.b.off y.b.size true :: BkO g O' S' u :: l.set i (ArT p ⟨bs, cp, b2⟩)) := ⟨_, _, T15.out⟩
          refine hK _ _ ⟨kp, ?_⟩
          clear kp hK
          refine flows_take 9 (v := ?_) (a' := ?_) hps rfl (by kernel_rfl) rfl ?_ ?_ ?_
          rotate_left 2
          · intro w' hk; go_simp; try rfl
          · simp only [Act.put, List.setIfInBounds_toArray, List.set_cons_succ, List.set_cons_zero]; try rfl
          refine flows_one 10 hps rfl (by kernel_rfl) rfl (wp_next (fun K hK => ?_))
          refine store_cell_at 3 _ _ rfl ⟨g, 1, none⟩ rfl (.int .i64 (S1 + (z.b.size : Int))) _ rfl rfl size_i64 c7 f7 ?_
          have kp : ∃ O' S', St B w0 ((w13.drew.setCell ⟨g, 0, none⟩ (.int .i64 z.b.off)).setCell ⟨g, 1, none⟩ (.int .i64 (S1 + (z.b.size : Int)))) (BkO g11 z.b.off z.b.size false :: BkO g3 y.b.off y.b.size true :: BkO g O' S' u :: l.set i (ArT p ⟨bs, cp, b2⟩)) := ⟨_, _, T16.out⟩
          refine hK _ _ ⟨kp, ?_⟩
          clear kp hK
          refine flows_done hps (by kernel_rfl) ?_
          clear c5 c6 f6 c7 f7
          have t17 := T16.out
          generalize (w13.drew.setCell ⟨g, 0, none⟩ (.int .i64 z.b.off)).setCell ⟨g, 1, none⟩ (.int .i64 (S1 + (z.b.size : Int))) = w17 at t17 ⊢
          have T17 := Lib.hid t17
          have c2 : w17.cell? ⟨g, 2, none⟩ = some (.bool u) := (T17.out.row (i := 2) rfl).cell 2
          have f2 : w17.frozen? ⟨g, 2, none⟩ = false := (T17.out.row (i := 2) rfl).frozen 2
          have T20 := Lib.hid (show St B w0 (w17.setCell ⟨g, 2, none⟩ (.bool false)) (BkO g11 z.b.off z.b.size false :: BkO g3 y.b.off y.b.size true :: BkO g z.b.off (S1 + (z.b.size : Int)) false :: l.set i (ArT p ⟨bs, cp, b2⟩)) from T17.out.setRow (i := 2) rfl 2 (.bool false))
          go_wp2_with (refine bk_load T20.out 2 rfl rfl _ rfl rfl ?_)
          have HFI := Lib.hid hfin; have HB9 := Lib.hid hb9; have HS9 := Lib.hid hs9
          clear hfin hb9 hs9
          have kc := blk_Set T20.out (i := i + 3) (at_set HIL.out _) ((z.b.off : Int)) ((S1 + (z.b.size : Int))) false
          rw [show ({ base := bs, cap := cp, b := b2 } : Ar).b = b2 from rfl, HS9.out, show errS (some _) = .nilIface from rfl, Option.getD_some] at kc
          with_reducible refine kc.mono ?_
          clear kc
          rintro e w21 ⟨rfl, t21⟩
          have T21 := Lib.hid t21
          clear t21
          have T22 := Lib.hid (show St B w0 w21 (BkO g11 z.b.off z.b.size false :: BkO g3 y.b.off y.b.size true :: BkO g (z.b.off : Int) (S1 + (z.b.size : Int)) false :: l.set i (ArT p ⟨bs, cp, setB b2 ⟨z.b.off, (z.b.size + s1), false⟩⟩)) from by have := T21.out; simp only [List.set_cons_succ, List.set_set] at this; exact this)
          clear T21 T20
          have x9 : w21.cell? ⟨g, 0, none⟩ = some (.int .i64 ((z.b.off : Int))) := (T22.out.row (i := 2) rfl).cell 0
          go_wp2_with fail
          have kc := ls_Put (l := BkO g11 z.b.off z.b.size false :: BkO g3 y.b.off y.b.size true :: BkO g (z.b.off : Int) (S1 + (z.b.size : Int)) false :: l) (i := i + 3) T22.out (by have := HIL.out; simp only [List.length_cons]; omega) ((z.b.off : Int))
          rw [HB9.out, show errP (some _) = .nilIface from rfl, Option.getD_some] at kc
          with_reducible refine kc.mono ?_
          clear kc
          rintro e w23 ⟨rfl, t23⟩
          have T23 := Lib.hid t23
          clear t23
          go_wp2
          go_ret
          exact ⟨rfl, HFI.out _ T23.out.tail.tail.tail⟩
    | false =>
      have hh' : Hole b (bsOf pre) o s (y.b :: bsOf post') ls := hh
      obtain ⟨b', e1, e2, e3, e4, e5⟩ := hh'.next hyu
      have hmx5 := e5.max; have hat5 := e5.at
      have hT := takeI_of e1
      have HT := Lib.hid hT
      have m1 : IntKind.i64.wrap ((s : Int) + (y.b.size : Int)) = (s : Int) + (y.b.size : Int) := IntWalk.i64_in _ (by omega)
      go_wp2_with fail
      have kc := blk_Get T1.out (i := i + 1) (at_set HIL.out _) ((o : Int) + (s : Int))
      rw [show ({ base := bs, cap := cp, b := b } : Ar).b = b from rfl, HN.out, show bkV (some y.b) = .agg #[.int .i64 y.b.off, .int .i64 y.b.size, .bool y.b.used] from rfl, hyu, show errO (some y.b) = .nilIface from rfl] at kc
      with_reducible refine kc.mono ?_
      clear kc
      rintro e w2 ⟨rfl, t2⟩
      have T2 := Lib.hid t2
      clear t2
      have HYU := Lib.hid hyu; have HE := Lib.hid (And.intro e3 (And.intro e4 e5))
      clear x0 x1 hT hyu e1 e2 e3 e4 e5 hmx5 hat5
      go_wp2_with (first | (refine bk_alloc T2.out rfl rfl ?_; intro g3 w3 h3; have T3 := Lib.hid h3; clear h3) | (refine bk_store T3.out 0 rfl rfl _ _ rfl rfl y.b.off y.b.size false rfl ?_; intro w4 h4; have T4 := Lib.hid (show St B w0 w4 (BkO g3 y.b.off y.b.size false :: BkO g o s u :: l.set i (ArT p ⟨bs, cp, b⟩)) from h4); clear h4 T3; have k0 : w4.cell? ⟨g3, 0, none⟩ = some (.int .i64 y.b.off) := (T4.out.row (i := 0) rfl).cell 0; have k2 : w4.cell? ⟨g3, 2, none⟩ = some (.bool false) := (T4.out.row (i := 0) rfl).cell 2; go_wp2_with fail))
      have kc := ls_Take (l := BkO g3 y.b.off y.b.size false :: BkO g o s u :: l) (i := i + 2) T4.out (by have := HIL.out; simp only [List.length_cons]; omega) (y.b.off : Int)
      rw [HT.out, show errP (some b') = .nilIface from rfl, Option.getD_some] at kc
      with_reducible refine kc.mono ?_
      clear kc
      rintro e w5 ⟨rfl, t5⟩
      have T5 := Lib.hid t5
      clear t5
      have T6 := Lib.hid (show St B w0 w5 (BkO g3 y.b.off y.b.size false :: BkO g o s u :: l.set i (ArT p ⟨bs, cp, b'⟩)) from T5.out)
      have k4 : w5.cell? ⟨g3, 1, none⟩ = some (.int .i64 y.b.size) := (T6.out.row (i := 0) rfl).cell 1
      have k5 : w5.cell? ⟨g, 1, none⟩ = some (.int .i64 s) := (T6.out.row (i := 1) rfl).cell 1
      clear T4 T5
      have c6 : w5.cell? ⟨g, 1, none⟩ = some (.int .i64 (s : Int)) := (T6.out.row (i := 1) rfl).cell 1
      have f6 : w5.frozen? ⟨g, 1, none⟩ = false := (T6.out.row (i := 1) rfl).frozen 1
      have h7 : St B w0 (w5.setCell ⟨g, 1, none⟩ (.int .i64 ((s : Int) + (y.b.size : Int)))) (BkO g3 y.b.off y.b.size false :: BkO g o ((s : Int) + (y.b.size : Int)) u :: l.set i (ArT p ⟨bs, cp, b'⟩)) := T6.out.setRow (i := 1) rfl 1 (.int .i64 ((s : Int) + (y.b.size : Int)))
      have T7 := Lib.hid h7
      have x0 : (w5.setCell ⟨g, 1, none⟩ (.int .i64 ((s : Int) + (y.b.size : Int)))).cell? ⟨g, 0, none⟩ = some (.int .i64 (o : Int)) := (T7.out.row (i := 1) rfl).cell 0
      clear h7
      go_wp2_with fail
      clear c6 f6 x0
      have t8 := T7.out
      clear T7
      generalize w5.setCell ⟨g, 1, none⟩ (.int .i64 ((s : Int) + (y.b.size : Int))) = w8 at t8 ⊢
      have T7 := Lib.hid t8
      clear t8
      have he5 : usedOf (bsOf pre ++ bsOf post') = usedOf (bsOf pre ++ bsOf (y :: post')) := by rw [bsOf_cons, usedOf_free HYU.out]
      have hgen : ∃ (post1 : List Bd) (s1 : Nat) (ls1 : Ls) (b1 : List UInt8) (S1 : Int), S1 = s1 ∧ Hole b1 (bsOf pre) o s1 (bsOf post1) ls1 ∧ b1.length = b.length ∧ SameU (usedOf (bsOf pre ++ bsOf (y :: post'))) b b1 ∧ usedOf (bsOf pre ++ bsOf post1) = usedOf (bsOf pre ++ bsOf (y :: post')) ∧ joinN (y :: post') s ls = (post1, s1, ls1) ∧ S1 = (s : Int) + (y.b.size : Int) ∧ b1 = b' :=
        ⟨post', s + y.b.size, outL ls (clsN y.b.size) y.b.off, b', (s : Int) + (y.b.size : Int), by omega, HE.out.2.2, HE.out.1, by rw [← he5]; exact HE.out.2.1, he5, by unfold joinN; simp only [HYU.out, Bool.false_eq_true, if_false], rfl, rfl⟩
      obtain ⟨post1, s1, ls1, b1, S1, hS1, hh1, hl1, hu1, he1, hj1, q1, q2⟩ := hgen
      rw [← q1, ← q2] at T7
      clear q1 q2 HN hh hh' u1 T1 T2 k4 k5 m1 HE he5 HT
      have hat1 := hh1.at; have hsz1 := hh1.size; have hmx1 := hh1.max
      have hA := hh1.aheadI
      rcases List.eq_nil_or_concat pre with hpre | ⟨pre', z, hpre⟩
      · rw [hpre, show (bsOf ([] : List Bd)).getLast? = none from rfl] at hA
        have hf : freeM pre o s (y :: post') ls = (pre ++ ⟨⟨o, s1, false⟩, none0⟩ :: post1, inL ls1 (clsN s1) o) := by unfold freeM; rw [hj1, hpre]; rfl
        obtain ⟨b9, hb9, hfin⟩ := FIN.out _ _ _ _ _ _ hh1 hl1 hu1 he1 hf
        have hs9 := hh1.setI false (o : Int) S1 rfl hS1
        have HA := Lib.hid hA
        clear hA hf hh1 hl1 hu1 he1 hj1 hS1 hat hsz hmx hat1 hsz1 hmx1
        go_wp2_with fail
        have kc := blk_Ahead T7.out (i := i + 2) (at_set HIL.out _) (o : Int)
        rw [show ({ base := bs, cap := cp, b := b1 } : Ar).b = b1 from rfl, HA.out, show bkV none = .agg #[.int .i64 0, .int .i64 0, .bool false] from rfl, show errO none = .iface 183 (.int .i64 3) from rfl] at kc
        with_reducible refine kc.mono ?_
        clear kc
        rintro e w10 ⟨rfl, t10⟩
        have T10 := Lib.hid t10
        clear t10
        go_wp2_with (first | (refine bk_alloc T10.out rfl rfl ?_; intro g11 w11 h11; have T11 := Lib.hid h11; clear h11) | (refine bk_store T11.out 0 rfl rfl _ _ rfl rfl 0 0 false rfl ?_; intro w12 h12; have T12 := Lib.hid (show St B w0 w12 (BkO g11 0 0 false :: BkO g3 y.b.off y.b.size false :: BkO g o S1 u :: l.set i (ArT p ⟨bs, cp, b1⟩)) from h12); clear h12 T11; have c2 : w12.cell? ⟨g, 2, none⟩ = some (.bool u) := (T12.out.row (i := 2) rfl).cell 2; have f2 : w12.frozen? ⟨g, 2, none⟩ = false := (T12.out.row (i := 2) rfl).frozen 2; have T20 := Lib.hid (show St B w0 (w12.setCell ⟨g, 2, none⟩ (.bool false)) (BkO g11 0 0 false :: BkO g3 y.b.off y.b.size false :: BkO g (o : Int) S1 false :: l.set i (ArT p ⟨bs, cp, b1⟩)) from T12.out.setRow (i := 2) rfl 2 (.bool false)); go_wp2_with (refine bk_load T20.out 2 rfl rfl _ rfl rfl ?_)))
        have HFI := Lib.hid hfin; have HB9 := Lib.hid hb9; have HS9 := Lib.hid hs9
        clear hfin hb9 hs9
        have kc := blk_Set T20.out (i := i + 3) (at_set HIL.out _) ((o : Int)) (S1) false
        rw [show ({ base := bs, cap := cp, b := b1 } : Ar).b = b1 from rfl, HS9.out, show errS (some _) = .nilIface from rfl, Option.getD_some] at kc
        with_reducible refine kc.mono ?_
        clear kc
        rintro e w21 ⟨rfl, t21⟩
        have T21 := Lib.hid t21
        clear t21
        have T22 := Lib.hid (show St B w0 w21 (BkO g11 0 0 false :: BkO g3 y.b.off y.b.size false :: BkO g (o : Int) S1 false :: l.set i (ArT p ⟨bs, cp, setB b1 ⟨o, s1, false⟩⟩)) from by have := T21.out; simp only [List.set_cons_succ, List.set_set] at this; exact this)
        clear T21 T20
        have x9 : w21.cell? ⟨g, 0, none⟩ = some (.int .i64 ((o : Int))) := (T22.out.row (i := 2) rfl).cell 0
        go_wp2_with fail
        have kc := ls_Put (l := BkO g11 0 0 false :: BkO g3 y.b.off y.b.size false :: BkO g (o : Int) S1 false :: l) (i := i + 3) T22.out (by have := HIL.out; simp only [List.length_cons]; omega) ((o : Int))
        rw [HB9.out, show errP (some _) = .nilIface from rfl, Option.getD_some] at kc
        with_reducible refine kc.mono ?_
        clear kc
        rintro e w23 ⟨rfl, t23⟩
        have T23 := Lib.hid t23
        clear t23
        go_wp2
        go_ret
        exact ⟨rfl, HFI.out _ T23.out.tail.tail.tail⟩
      · rw [List.concat_eq_append] at hpre
        rw [hpre, bsOf_append, show bsOf [z] = [z.b] from rfl, List.getLast?_concat] at hA
        have HA := Lib.hid hA
        clear hA
        cases hu : z.b.used with
        | true =>
          have hf : freeM pre o s (y :: post') ls = (pre ++ ⟨⟨o, s1, false⟩, none0⟩ :: post1, inL ls1 (clsN s1) o) := by
            unfold freeM joinP; rw [hj1, hpre, List.getLast?_concat]; simp only [hu, if_true]
          obtain ⟨b9, hb9, hfin⟩ := FIN.out _ _ _ _ _ _ hh1 hl1 hu1 he1 hf
          have hs9 := hh1.setI false (o : Int) S1 rfl hS1
          clear hf hh1 hl1 hu1 he1 hj1 hS1 hat hsz hmx hat1 hsz1 hmx1
          go_wp2_with fail
          have kc := blk_Ahead T7.out (i := i + 2) (at_set HIL.out _) (o : Int)
          rw [show ({ base := bs, cap := cp, b := b1 } : Ar).b = b1 from rfl, HA.out, show bkV (some z.b) = .agg #[.int .i64 z.b.off, .int .i64 z.b.size, .bool z.b.used] from rfl, hu, show errO (some z.b) = .nilIface from rfl] at kc
          with_reducible refine kc.mono ?_
          clear kc
          rintro e w10 ⟨rfl, t10⟩
          have T10 := Lib.hid t10
          clear t10
          clear hu
          go_wp2_with (first | (refine bk_alloc T10.out rfl rfl ?_; intro g11 w11 h11; have T11 := Lib.hid h11; clear h11) | (refine bk_store T11.out 0 rfl rfl _ _ rfl rfl z.b.off z.b.size true rfl ?_; intro w12 h12; have T12 := Lib.hid (show St B w0 w12 (BkO g11 z.b.off z.b.size true :: BkO g3 y.b.off y.b.size false :: BkO g o S1 u :: l.set i (ArT p ⟨bs, cp, b1⟩)) from h12); clear h12 T11; have k2 : w12.cell? ⟨g11, 2, none⟩ = some (.bool true) := (T12.out.row (i := 0) rfl).cell 2; have c2 : w12.cell? ⟨g, 2, none⟩ = some (.bool u) := (T12.out.row (i := 2) rfl).cell 2; have f2 : w12.frozen? ⟨g, 2, none⟩ = false := (T12.out.row (i := 2) rfl).frozen 2; have T20 := Lib.hid (show St B w0 (w12.setCell ⟨g, 2, none⟩ (.bool false)) (BkO g11 z.b.off z.b.size true :: BkO g3 y.b.off y.b.size false :: BkO g (o : Int) S1 false :: l.set i (ArT p ⟨bs, cp, b1⟩)) from T12.out.setRow (i := 2) rfl 2 (.bool false)); go_wp2_with (refine bk_load T20.out 2 rfl rfl _ rfl rfl ?_)))
          have HFI := Lib.hid hfin; have HB9 := Lib.hid hb9; have HS9 := Lib.hid hs9
          clear hfin hb9 hs9
          have kc := blk_Set T20.out (i := i + 3) (at_set HIL.out _) ((o : Int)) (S1) false
          rw [show ({ base := bs, cap := cp, b := b1 } : Ar).b = b1 from rfl, HS9.out, show errS (some _) = .nilIface from rfl, Option.getD_some] at kc
          with_reducible refine kc.mono ?_
          clear kc
          rintro e w21 ⟨rfl, t21⟩
          have T21 := Lib.hid t21
          clear t21
          have T22 := Lib.hid (show St B w0 w21 (BkO g11 z.b.off z.b.size true :: BkO g3 y.b.off y.b.size false :: BkO g (o : Int) S1 false :: l.set i (ArT p ⟨bs, cp, setB b1 ⟨o, s1, false⟩⟩)) from by have := T21.out; simp only [List.set_cons_succ, List.set_set] at this; exact this)
          clear T21 T20
          have x9 : w21.cell? ⟨g, 0, none⟩ = some (.int .i64 ((o : Int))) := (T22.out.row (i := 2) rfl).cell 0
          go_wp2_with fail
          have kc := ls_Put (l := BkO g11 z.b.off z.b.size true :: BkO g3 y.b.off y.b.size false :: BkO g (o : Int) S1 false :: l) (i := i + 3) T22.out (by have := HIL.out; simp only [List.length_cons]; omega) ((o : Int))
          rw [HB9.out, show errP (some _) = .nilIface from rfl, Option.getD_some] at kc
          with_reducible refine kc.mono ?_
          clear kc
          rintro e w23 ⟨rfl, t23⟩
          have T23 := Lib.hid t23
          clear t23
          go_wp2
          go_ret
          exact ⟨rfl, HFI.out _ T23.out.tail.tail.tail⟩
        | false =>
          have hh1' : Hole b1 (bsOf pre' ++ [z.b]) o s1 (bsOf post1) ls1 := by have := hh1; rw [hpre, bsOf_append] at this; exact this
          obtain ⟨b2, e1, e2, e3, e4, e5⟩ := hh1'.prev hu
          have hf : freeM pre o s (y :: post') ls = (pre' ++ ⟨⟨z.b.off, z.b.size + s1, false⟩, none0⟩ :: post1, inL (outL ls1 (clsN z.b.size) z.b.off) (clsN (z.b.size + s1)) z.b.off) := by
            unfold freeM joinP; rw [hj1, hpre, List.getLast?_concat]; simp only [hu, Bool.false_eq_true, if_false, List.dropLast_concat]
          have he2 : usedOf (bsOf pre' ++ bsOf post1) = usedOf (bsOf pre ++ bsOf (y :: post')) := by
            rw [← he1, hpre, bsOf_append, show bsOf [z] = [z.b] from rfl, List.append_assoc, List.singleton_append, usedOf_free hu]
          have hat2 := e5.at; have hsz2 := e5.size; have hmx2 := e5.max
          obtain ⟨b9, hb9, hfin⟩ := FIN.out _ _ _ _ _ _ e5 (e3.trans hl1) (hu1.trans (by rw [← he2]; exact e4)) he2 hf
          have hs9 := e5.setI false (z.b.off : Int) (S1 + (z.b.size : Int)) rfl (by rw [hS1]; omega)
          have hT := takeI_of e1
          have m1 : IntKind.i64.wrap (S1 + (z.b.size : Int)) = S1 + (z.b.size : Int) := IntWalk.i64_in _ (by rw [hS1]; omega)
          have HT := Lib.hid hT
          clear hf hh1 hh1' hl1 hu1 he1 hj1 hS1 hat hsz hmx hat1 hsz1 hmx1 e1 e2 e3 e4 e5 he2 hT hat2 hsz2 hmx2
          go_wp2_with fail
          have kc := blk_Ahead T7.out (i := i + 2) (at_set HIL.out _) (o : Int)
          rw [show ({ base := bs, cap := cp, b := b1 } : Ar).b = b1 from rfl, HA.out, show bkV (some z.b) = .agg #[.int .i64 z.b.off, .int .i64 z.b.size, .bool z.b.used] from rfl, hu, show errO (some z.b) = .nilIface from rfl] at kc
          with_reducible refine kc.mono ?_
          clear kc
          rintro e w10 ⟨rfl, t10⟩
          have T10 := Lib.hid t10
          clear t10
          clear hu
          go_wp2_with (first | (refine bk_alloc T10.out rfl rfl ?_; intro g11 w11 h11; have T11 := Lib.hid h11; clear h11) | (refine bk_store T11.out 0 rfl rfl _ _ rfl rfl z.b.off z.b.size false rfl ?_; intro w12 h12; have T12 := Lib.hid (show St B w0 w12 (BkO g11 z.b.off z.b.size false :: BkO g3 y.b.off y.b.size false :: BkO g o S1 u :: l.set i (ArT p ⟨bs, cp, b1⟩)) from h12); clear h12 T11; have k2 : w12.cell? ⟨g11, 2, none⟩ = some (.bool false) := (T12.out.row (i := 0) rfl).cell 2; have k0 : w12.cell? ⟨g11, 0, none⟩ = some (.int .i64 z.b.off) := (T12.out.row (i := 0) rfl).cell 0; go_wp2_with fail))
          have kc := ls_Take (l := BkO g11 z.b.off z.b.size false :: BkO g3 y.b.off y.b.size false :: BkO g o S1 u :: l) (i := i + 3) T12.out (by have := HIL.out; simp only [List.length_cons]; omega) (z.b.off : Int)
          rw [HT.out, show errP (some b2) = .nilIface from rfl, Option.getD_some] at kc
          with_reducible refine kc.mono ?_
          clear kc
          rintro e w13 ⟨rfl, t13⟩
          have T13 := Lib.hid t13
          clear t13
          have T14 := Lib.hid (show St B w0 w13 (BkO g11 z.b.off z.b.size false :: BkO g3 y.b.off y.b.size false :: BkO g o S1 u :: l.set i (ArT p ⟨bs, cp, b2⟩)) from T13.out)
          clear T12 T13
          go_wp2_with fail
          have T14d := Lib.hid T14.out.drew
          have c5 : w13.drew.cell? ⟨g, 1, none⟩ = some (.int .i64 S1) := (T14d.out.row (i := 2) rfl).cell 1
          have c6 : w13.drew.cell? ⟨g, 0, none⟩ = some (.int .i64 (o : Int)) := (T14d.out.row (i := 2) rfl).cell 0
          have f6 : w13.drew.frozen? ⟨g, 0, none⟩ = false := (T14d.out.row (i := 2) rfl).frozen 0
          have T15 := Lib.hid (show St B w0 (w13.drew.setCell ⟨g, 0, none⟩ (.int .i64 z.b.off)) (BkO g11 z.b.off z.b.size false :: BkO g3 y.b.off y.b.size false :: BkO g z.b.off S1 u :: l.set i (ArT p ⟨bs, cp, b2⟩)) from T14d.out.setRow (i := 2) rfl 0 (.int .i64 z.b.off))
          have c7 : (w13.drew.setCell ⟨g, 0, none⟩ (.int .i64 z.b.off)).cell? ⟨g, 1, none⟩ = some (.int .i64 S1) := (T15.out.row (i := 2) rfl).cell 1
          have f7 : (w13.drew.setCell ⟨g, 0, none⟩ (.int .i64 z.b.off)).frozen? ⟨g, 1, none⟩ = false := (T15.out.row (i := 2) rfl).frozen 1
          have T16 := Lib.hid (show St B w0 ((w13.drew.setCell ⟨g, 0, none⟩ (.int .i64 z.b.off)).setCell ⟨g, 1, none⟩ (.int .i64 (S1 + (z.b.size : Int)))) (BkO g11 z.b.off z.b.size false :: BkO g3 y.b.off y.b.size false :: BkO g z.b.off (S1 + (z.b.size : Int)) u :: l.set i (ArT p ⟨bs, cp, b2⟩)) from T15.out.setRow (i := 2) rfl 1 (.int .i64 (S1 + (z.b.size : Int))))
          refine flows_begin (S := fun w' => ∃ O' S', St B w0 w' (BkO g11 z.b.off z.b.size false :: BkO g3 y.b.off y.b.size false :: BkO g O' S' u :: l.set i (ArT p ⟨bs, cp, b2⟩))) hmixed 11 rfl (by repeat (first | with_reducible refine ps_then ?_ | with_reducible refine ps_block ?_ | with_reducible exact ps_body | refine ps_then ?_ | refine ps_block ?_ | exact ps_body)) ⟨_, _, T14.out.drew⟩ (fun hps => ?_)
          simp only [List.replicate]
          refine flows_take 0 (v := ?_) (a' := ?_) hps rfl (by kernel_rfl) rfl ?_ ?_ ?_
          rotate_left 2
          · intro w' hk; go_simp; try rfl
          · simp only [Act.put, List.setIfInBounds_toArray, List.set_cons_succ, List.set_cons_zero]; try rfl
          refine flows_take 1 (v := ?_) (a' := ?_) hps rfl (by kernel_rfl) rfl ?_ ?_ ?_
          rotate_left 2
          · intro w' hk; obtain ⟨_, _, hq⟩ := hk; have c0 := (hq.row (i := 0) rfl).cell 0; simp only [List.getElem?_cons_succ, List.getElem?_cons_zero] at c0; go_simp; try rfl
          · simp only [Act.put, List.setIfInBounds_toArray, List.set_cons_succ, List.set_cons_zero]; try rfl
          refine flows_take 2 (v := ?_) (a' := ?_) hps rfl (by kernel_rfl) rfl ?_ ?_ ?_
          rotate_left 2
          · intro w' hk; go_simp; try rfl
          · simp only [Act.put, List.setIfInBounds_toArray, List.set_cons_succ, List.set_cons_zero]; try rfl
          refine flows_take 4 (v := ?_) (a' := ?_) hps rfl (by kernel_rfl) rfl ?_ ?_ ?_
          rotate_left 2
          · intro w' hk; go_simp; try rfl
          · simp only [Act.put, List.setIfInBounds_toArray, List.set_cons_succ, List.set_cons_zero]; try rfl
          refine flows_take 5 (v := ?_) (a' := ?_) hps rfl (by kernel_rfl) rfl ?_ ?_ ?_
          rotate_left 2
          · intro w' hk; obtain ⟨_, _, hq⟩ := hk; have c0 := (hq.row (i := 0) rfl).cell 1; simp only [List.getElem?_cons_succ, List.getElem?_cons_zero] at c0; go_simp; try rfl
          · simp only [Act.put, List.setIfInBounds_toArray, List.set_cons_succ, List.set_cons_zero]; try rfl
          refine flows_one 3 hps rfl (by kernel_rfl) rfl (wp_next (fun K hK => ?_))
          go_simp
          have kp : ∃ O' S', St B w0 w13.drew (BkO g11 z.b.off z.b.size false :: BkO g3 y.b.off y.b.size false :: BkO g O' S' u :: l.set i (ArT p ⟨bs, cp, b2⟩)) := ⟨_, _, T14d.out⟩
          refine hK _ _ ⟨kp, ?_⟩
          clear kp hK
          refine flows_take 6 (v := ?_) (a' := ?_) hps rfl (by kernel_rfl) rfl ?_ ?_ ?_
          rotate_left 2
          · intro w' hk; go_simp; try rfl
          · simp only [Act.put, List.setIfInBounds_toArray, List.set_cons_succ, List.set_cons_zero]; try rfl
          refine flows_take 7 (v := ?_) (a' := ?_) hps rfl (by kernel_rfl) rfl ?_ ?_ ?_
          rotate_left 2
          · intro w' hk; go_simp; try rfl
          · simp only [Act.put, List.setIfInBounds_toArray, List.set_cons_succ, List.set_cons_zero]; try rfl
          refine flows_one 8 hps rfl (by kernel_rfl) rfl (wp_next (fun K hK => ?_))
          refine store_cell_at 3 _ _ rfl ⟨g, 0, none⟩ rfl (.int .i64 z.b.off) _ rfl rfl size_i64 c6 f6 ?_
          have kp : ∃ O' S', St B w0 (w13.drew.setCell ⟨g, 0, none⟩ (.int .i64 z.b.off)) (BkO g11 z.b.off z.b.size false :: BkO g3 y.b.off y.b.size false :: BkO g O' S' u :: l.set i (ArT p ⟨bs, cp, b2⟩)) := ⟨_, _, T15.out⟩
          refine hK _ _ ⟨kp, ?_⟩
          clear kp hK
          refine flows_take 9 (v := ?_) (a' := ?_) hps rfl (by kernel_rfl) rfl ?_ ?_ ?_
          rotate_left 2
          · intro w' hk; go_simp; try rfl
          · simp only [Act.put, List.setIfInBounds_toArray, List.set_cons_succ, List.set_cons_zero]; try rfl
          refine flows_one 10 hps rfl (by kernel_rfl) rfl (wp_next (fun K hK => ?_))
          refine store_cell_at 3 _ _ rfl ⟨g, 1, none⟩ rfl (.int .i64 (S1 + (z.b.size : Int))) _ rfl rfl size_i64 c7 f7 ?_
          have kp : ∃ O' S', St B w0 ((w13.drew.setCell ⟨g, 0, none⟩ (.int .i64 z.b.off)).setCell ⟨g, 1, none⟩ (.int .i64 (S1 + (z.b.size : Int)))) (BkO g11 z.b.off z.b.size false :: BkO g3 y.b.off y.b.size false :: BkO g O' S' u :: l.set i (ArT p ⟨bs, cp, b2⟩)) := ⟨_, _, T16.out⟩
          refine hK _ _ ⟨kp, ?_⟩
          clear kp hK
          refine flows_done hps (by kernel_rfl) ?_
          clear c5 c6 f6 c7 f7
          have t17 := T16.out
          generalize (w13.drew.setCell ⟨g, 0, none⟩ (.int .i64 z.b.off)).setCell ⟨g, 1, none⟩ (.int .i64 (S1 + (z.b.size : Int))) = w17 at t17 ⊢
          have T17 := Lib.hid t17
          have c2 : w17.cell? ⟨g, 2, none⟩ = some (.bool u) := (T17.out.row (i := 2) rfl).cell 2
          have f2 : w17.frozen? ⟨g, 2, none⟩ = false := (T17.out.row (i := 2) rfl).frozen 2
          have T20 := Lib.hid (show St B w0 (w17.setCell ⟨g, 2, none⟩ (.bool false)) (BkO g11 z.b.off z.b.size false :: BkO g3 y.b.off y.b.size false :: BkO g z.b.off (S1 + (z.b.size : Int)) false :: l.set i (ArT p ⟨bs, cp, b2⟩)) from T17.out.setRow (i := 2) rfl 2 (.bool false))
          go_wp2_with (refine bk_load T20.out 2 rfl rfl _ rfl rfl ?_)
          have HFI := Lib.hid hfin; have HB9 := Lib.hid hb9; have HS9 := Lib.hid hs9
          clear hfin hb9 hs9
          have kc := blk_Set T20.out (i := i + 3) (at_set HIL.out _) ((z.b.off : Int)) ((S1 + (z.b.size : Int))) false
          rw [show ({ base := bs, cap := cp, b := b2 } : Ar).b = b2 from rfl, HS9.out, show errS (some _) = .nilIface from rfl, Option.getD_some] at kc
          with_reducible refine kc.mono ?_
          clear kc
          rintro e w21 ⟨rfl, t21⟩
          have T21 := Lib.hid t21
          clear t21
          have T22 := Lib.hid (show St B w0 w21 (BkO g11 z.b.off z.b.size false :: BkO g3 y.b.off y.b.size false :: BkO g (z.b.off : Int) (S1 + (z.b.size : Int)) false :: l.set i (ArT p ⟨bs, cp, setB b2 ⟨z.b.off, (z.b.size + s1), false⟩⟩)) from by have := T21.out; simp only [List.set_cons_succ, List.set_set] at this; exact this)
          clear T21 T20
          have x9 : w21.cell? ⟨g, 0, none⟩ = some (.int .i64 ((z.b.off : Int))) := (T22.out.row (i := 2) rfl).cell 0
          go_wp2_with fail
          have kc := ls_Put (l := BkO g11 z.b.off z.b.size false :: BkO g3 y.b.off y.b.size false :: BkO g (z.b.off : Int) (S1 + (z.b.size : Int)) false :: l) (i := i + 3) T22.out (by have := HIL.out; simp only [List.length_cons]; omega) ((z.b.off : Int))
          rw [HB9.out, show errP (some _) = .nilIface from rfl, Option.getD_some] at kc
          with_reducible refine kc.mono ?_
          clear kc
          rintro e w23 ⟨rfl, t23⟩
          have T23 := Lib.hid t23
          clear t23
          go_wp2
          go_ret
          exact ⟨rfl, HFI.out _ T23.out.tail.tail.tail⟩
end
end Go.Proofs.Ytenbpbnffnodhaa
