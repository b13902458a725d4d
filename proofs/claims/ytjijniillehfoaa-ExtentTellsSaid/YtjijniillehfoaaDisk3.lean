import Derived.Test.YtjijniillehfoaaDisk2
import Derived.Test.YtjijniillehfoaaShape
import Derived.Deep.QuietTactic
import Derived.BigQuiet
namespace Go.Own
open Go Go.RowKit
/-- 'copy(to, b)', 'to' lies in a row of one's own: at an operation. -/
theorem copy_own {P : Program} {o : Oper} {a : Act} {w : World} {K : Act → World → Prop} {Q : Exit → Act → World → Prop} (x y : Operand) (t e : TypeId)
    (ho : o.op = .call { callee := .builtin .copy, args := #[x, y], argTypes := #[t, t] }) (hu : P.underlying t = some (.slice e)) (hs : (P.info? e).map (·.size) = some 1)
    {base g n cap : Nat} {l : List UInt8} (h : w.ownsRow base e 1 (.slice (some ⟨g, 0, none⟩) n cap) n (l.map bv)) (i dLen dCap : Nat) (hx : a.eval x = .slice (some ⟨g, i, none⟩) dLen dCap)
    (ad : Option Addr) (m c : Nat) (b : List UInt8) (hy : a.eval y = .slice ad m c) (hb : Bs w ad m c b) (hm : m ≤ dLen) (h0 : 0 < m) (hi : i + m ≤ n)
    (hk : ∀ w', w'.ownsRow base e 1 (.slice (some ⟨g, 0, none⟩) n cap) n ((lay l i b).map bv) → Keep (· = g) w w' → K (a.put o.dst (.int .i64 b.length)) w') : o.wp P a w K Q := by
  have hbl := hb.len
  obtain ⟨b0, o0, rfl, _⟩ := Sl.some hb h0 (by decide)
  obtain ⟨cur, hg, hc, h1⟩ := own_splice h i (b.map bv) (by simp; omega)
  have hkp := setRow_keep (cur.toList.take i ++ b.map bv ++ cur.toList.drop (i + (b.map bv).length)).toArray hg
  have hrun := run_copy_row (P := P) w t t o.type e g i dLen dCap ⟨b0, o0, none⟩ m c cur e (b.map bv) hu hs hg (by show _ = min m dLen; rw [Nat.min_eq_left hm, List.length_map, hbl]) (fun j v hj => by
    obtain ⟨b1, o1, e1, hc1⟩ := Sl.cells hb j v hj
    cases e1
    rw [add_none']; exact hc1) hc (bv_one b)
  unfold Oper.wp execOp
  simp only [ho, resolve, invoke, builtin, Sem.run_bind, Sem.run_pure, Result.andThen_ok, List.map_toArray, List.map_cons, List.map_nil, hx, hy, hrun]
  have h2 := hk _ (ownsRow_map h1 rfl (map_lay l b i).symm) hkp
  have h3 : goInt (b.map bv).length = .int .i64 b.length := by simp [goInt]
  rw [h3]
  exact h2
end Go.Own
namespace Go.Proofs.Ytjijniillehfoaa
open Go Go.RowKit Go.Own
set_option linter.unusedVariables false
set_option maxRecDepth 100000
theorem wt_at : ∀ (it : List Wt) (j : Nat) (hj : j < it.length), (it.map Wt.cells).flatten[j * 2]? = some (.int .i64 it[j].i) ∧ (it.map Wt.cells).flatten[j * 2 + 1]? = some it[j].v
  | [], j, hj => absurd hj (Nat.not_lt_zero _)
  | x :: it, 0, hj => ⟨rfl, rfl⟩
  | x :: it, j + 1, hj => by
    have ih := wt_at it j (by simpa using hj)
    rw [show (j + 1) * 2 = j * 2 + 2 by omega, show j * 2 + 2 + 1 = j * 2 + 1 + 2 by omega]
    exact ih
theorem own_cell2 {w : World} {B n cap z : Nat} {a : Option Addr} {e : TypeId} {l : List Value} (h : w.ownsRow B e z (.slice a n cap) n l) (q : Nat) (v : Value) (hv : l[q]? = some v) : ∃ g, a = some ⟨g, 0, none⟩ ∧ w.cell? ⟨g, q, none⟩ = some v := by
  obtain ⟨a', c', e1, _, hs⟩ := Sl.of_owned h
  injection e1 with e1 _ e3
  subst e1; subst e3
  obtain ⟨h1, h2⟩ := h
  rcases h2 with ⟨h2, h3⟩ | ⟨g', cap', cur, h2, a1, a2, a3, a4, a5, a6⟩
  · rw [List.eq_nil_of_length_eq_zero (l := l) (by rw [h1, h3, Nat.zero_mul])] at hv; cases hv
  · injection h2 with e1
    subst e1
    refine ⟨g', rfl, ?_⟩
    rw [← a6, List.getElem?_take] at hv
    split at hv
    · simp only [World.cell?, a2]; simpa using hv
    · cases hv
theorem disk_Read_arg (w : World) (p : Nat) (D : Dk) (F : Nat → Prop) (h : DkRep w p D F) (i : Int) (hf : ¬ (0 ≤ i ∧ i < D.L.length)) :
    Calls Try.prog 129 #[.pointer (some ⟨p, 0, none⟩), .int .i64 i] w fun e w' => e = .returned (.tuple #[.slice none 0 0, .iface 183 (.int .i64 1)]) ∧ w = w' := by
  have k := disk_Sectors w p D F h
  have K := Lib.hid k
  clear k h
  by_cases c1 : i < 0
  · clear hf
    go_enter Try.func129, Try.ntmps129
    go_wp2
    go_ret2
    exact ⟨rfl, rfl⟩
  · have c2 : (D.L.length : Int) ≤ i := by omega
    clear hf
    go_enter Try.func129, Try.ntmps129
    go_wp2_with fail
    refine K.out.mono ?_
    rintro e w' ⟨rfl, rfl⟩
    go_wp2
    go_ret2
    exact ⟨rfl, rfl⟩
theorem disk_Read_off (w : World) (p : Nat) (D : Dk) (F : Nat → Prop) (h : DkRep w p D F) (i : Int) (h0 : 0 ≤ i) (h1 : i < D.L.length) (ho : D.off = true) :
    Calls Try.prog 129 #[.pointer (some ⟨p, 0, none⟩), .int .i64 i] w fun e w' => e = .returned (.tuple #[.slice none 0 0, .iface 183 (.int .i64 6)]) ∧ w = w' := by
  have k := disk_Sectors w p D F h
  have K := Lib.hid k
  obtain ⟨vb, vw, it, h, hF⟩ := h
  have q2 : w.cell? ⟨p, 2, none⟩ = some (.bool D.off) := h.row.cell 2
  rw [ho] at q2
  clear k h hF ho
  go_enter Try.func129, Try.ntmps129
  go_wp2_with fail
  refine K.out.mono ?_
  rintro e w' ⟨rfl, rfl⟩
  go_wp2
  go_ret2
  exact ⟨rfl, rfl⟩
set_option maxHeartbeats 1000000 in
theorem disk_Read_ok (w : World) (p : Nat) (D : Dk) (F : Nat → Prop) (h : DkRep w p D F) (i : Int) (I : Nat) (hI : i = I) (h1 : I < D.L.length) (ho : D.off = false) (hmany : D.wait.length ≤ 1000000) :
    Calls Try.prog 129 #[.pointer (some ⟨p, 0, none⟩), .int .i64 i] w (LoadOk (lastOf D.wait I (D.L.getD I [])) w) := by
  subst hI
  have k := disk_Sectors w p D F h
  have K := Lib.hid k
  obtain ⟨vb, vw, it, h, hF⟩ := h
  obtain ⟨g, c0, rfl, hB, hc0, hr0⟩ := h.formb
  obtain ⟨a1, c1, rfl, _, _⟩ := h.formw
  have hitl : D.wait.length = it.length := by rw [h.wait, List.length_map]
  have hit : it.length ≤ 1000000 := by omega
  have q0 : w.cell? ⟨p, 0, none⟩ = some (.slice (some ⟨g, 0, none⟩) (512 * D.L.length) c0) := h.row.cell 0
  have q1 : w.cell? ⟨p, 1, none⟩ = some (.slice a1 it.length c1) := h.row.cell 1
  have q2 : w.cell? ⟨p, 2, none⟩ = some (.bool D.off) := h.row.cell 2
  rw [ho] at q2
  have hm := h.good.many
  have hsec := secs_at h.good.secs I h1
  have hgd : D.L.getD I [] = D.L[I] := by simp [List.getD, h1]
  rw [hgd]
  generalize hS : D.L[I] = S at *
  have hwait := h.wait
  have H := Lib.hid h; have HF := Lib.hid hF; have HB := Lib.hid hB; have HW := Lib.hid hwait; have HSEC := Lib.hid hsec
  clear k h hF ho hB hsec hgd hS hwait hitl
  have e1 : IntKind.i64.wrap ((it.length : Int) - 1) = (it.length : Int) - 1 := IntWalk.i64_in _ (by omega)
  go_enter Try.func129, Try.ntmps129
  go_wp2_with fail
  refine K.out.mono ?_
  rintro e w' ⟨rfl, rfl⟩
  go_wp2_with fail
  go_loop [6] (fun v => ∃ j : Nat, j ≤ it.length ∧ v = .int .i64 ((j : Int) - 1) ∧ lastOf D.wait I S = lastOf (D.wait.take j) I S) (fun v => (intOf v + 1).toNat)
  case atStart => exact ⟨it.length, Nat.le_refl _, rfl, by rw [List.take_of_length_le (by rw [HW.out, List.length_map]; exact Nat.le_refl _)]⟩
  case round =>
    obtain ⟨j, hj, rfl, hl⟩ := hrel
    have HL := Lib.hid hl
    clear hl
    by_cases hj0 : 0 < j
    · obtain ⟨q, rfl⟩ : ∃ q, j = q + 1 := ⟨j - 1, by omega⟩
      have hq : q < it.length := by omega
      obtain ⟨t1, t2⟩ := wt_at it q hq
      obtain ⟨gw, rfl, u1⟩ := own_cell2 H.out.ownw _ _ t1
      obtain ⟨_, e2, u2⟩ := own_cell2 H.out.ownw _ _ t2
      cases e2
      obtain ⟨a7, c7, hv7, _, hB7⟩ := Sl.of_owned (H.out.items it[q] (List.getElem_mem hq)).1
      rw [hv7] at u2
      have hB7 : Bs w a7 512 c7 it[q].b := hB7
      have hlt := lastOf_take D.wait I S q (by rw [HW.out, List.length_map]; exact hq)
      have hwq : D.wait[q]'(by rw [HW.out, List.length_map]; exact hq) = (it[q].i, it[q].b) := by simp [HW.out, Wt.of]
      rw [hwq] at hlt
      simp only at hlt
      have he : (((q + 1 : Nat) : Int) - 1) = q := by omega
      rw [he]
      have hb5 : it[q].b.length ≤ 140737488355328 := by have := hB7.len; omega
      have HB7 := Lib.hid hB7; have HLT := Lib.hid hlt; have HB5 := Lib.hid hb5
      generalize it[q].i = qi at *
      generalize it[q].b = qb at *
      clear hB7 hlt hb5 hv7 hwq t1 t2 he
      by_cases hm2 : qi = I
      · subst hm2
        go_wp2_with fail
        refine (slices_Clone _ _ _ _ _ HB7.out HB5.out).mono ?_
        rintro e w' ⟨v1, rfl, hov, hbv⟩
        go_wp2
        go_ret2
        have e9 : lastOf D.wait qi S = qb := by rw [HL.out, HLT.out]; simp
        exact ⟨v1, rfl, by rw [e9]; exact hov, hbv⟩
      · have e3 : ((qi : Int) == (I : Int)) = false := by rw [beq_eq_false_iff_ne]; omega
        have hlq : lastOf D.wait I S = lastOf (D.wait.take q) I S := by rw [HL.out, HLT.out, if_neg hm2]
        have HLQ := Lib.hid hlq
        clear hlq hm2
        go_wp2
        exact ⟨⟨q, by omega, rfl, HLQ.out⟩, by simp [intOf]⟩
    · obtain rfl : j = 0 := by omega
      have hcut := HB.out.cut (512 * I) (512 * I + 512) (by omega) (by omega)
      rw [List.drop_take, Nat.add_sub_cancel_left, HSEC.out] at hcut
      simp only [Nat.zero_add] at hcut
      have hSl : S.length ≤ 140737488355328 := by have := hcut.len; omega
      have hne : ¬ c0 = I * 512 := by omega
      have HC := Lib.hid hcut; have HSL := Lib.hid hSl
      clear hcut hSl
      go_wp2_with fail
      have hlen : (I + 1) * 512 - I * 512 = 512 := by omega
      rw [hlen]
      have hx := HC.out
      rw [Nat.mul_comm 512 I] at hx
      refine (slices_Clone _ _ _ _ _ hx HSL.out).mono ?_
      rintro e w' ⟨v1, rfl, hov, hbv⟩
      clear hlen hx
      go_wp2
      go_ret2
      have e9 : lastOf D.wait I S = S := by rw [HL.out]; rfl
      exact ⟨v1, rfl, by rw [e9]; exact hov, hbv⟩
theorem closure_all (w : World) (k : Nat) : Calls Try.prog 132 #[.int .i64 k] w fun e w' => e = .returned (.bool true) ∧ w = w' := by
  go_enter Try.func132, Try.ntmps132
  go_wp2
  go_ret
  exact ⟨rfl, rfl⟩
theorem DkAt.laid {w w' : World} {p g n c0 i : Nat} {D : Dk} {L : List (List UInt8)} {b : List UInt8} {vw : Value} {it : List Wt} (h : DkAt w p { D with L := L } (.slice (some ⟨g, 0, none⟩) n c0) vw it)
    (ho : w'.ownsRow 0 5 1 (.slice (some ⟨g, 0, none⟩) n c0) n ((lay L.flatten (512 * i) b).map bv)) (hk : Keep (· = g) w w') (hi : i < L.length) (hb : b.length = 512) :
    DkAt w' p { D with L := L.set i b } (.slice (some ⟨g, 0, none⟩) n c0) vw it := by
  have hs : Secs L := h.good.secs
  have hn : n = 512 * L.length := by
    have h1 := ho.1
    rw [List.length_map, lay_length _ _ _ (by rw [secs_len hs]; omega), secs_len hs] at h1
    omega
  rw [secs_lay hs i hi hb] at ho
  have hg := h.good
  refine ⟨h.row.keep hk fun e => own_row_ne h.ownb h.row (by decide) (p := p) (by rw [e]; rfl), ?_, own_kept h.ownw hk fun x hx e => own_type_ne h.ownw h.ownb (by decide) hx (by rw [e]; rfl), h.wait, fun x hx => ⟨own_kept (h.items x hx).1 hk fun y hy e => (h.items x hx).2 (by rw [hy, e]; rfl), (h.items x hx).2⟩, ?_⟩
  · refine ownsRow_map ho ?_ rfl
    show n = 512 * (L.set i b).length
    rw [List.length_set]; exact hn
  · exact ⟨secs_set hs i hb, by show 2 ≤ (L.set i b).length ∧ (L.set i b).length ≤ 128; rw [List.length_set]; exact hg.many, fun x hx => by show x.1 < (L.set i b).length ∧ _; rw [List.length_set]; exact hg.waits x hx, hg.left⟩
set_option maxHeartbeats 4000000 in
theorem disk_stand_all (w : World) (p : Nat) (D : Dk) (F : Nat → Prop) (h : DkRep w p D F) (hmany : D.wait.length ≤ 1000000) (keep : Nat → Bool) (hkeep : keep = fun _ => true) :
    Calls Try.prog 131 #[.pointer (some ⟨p, 0, none⟩), .func (.func 132) #[] #[]] w fun e w' => e = .returned (.tuple #[]) ∧ DkTo p (D.stand keep) F w w' := by
  obtain ⟨vb, vw, it, h, hF⟩ := h
  obtain ⟨g, c0, rfl, _, hc0, hr0⟩ := h.formb
  obtain ⟨a1, c1, rfl, _, _⟩ := h.formw
  have hitl : D.wait.length = it.length := by rw [h.wait, List.length_map]
  have hit : it.length ≤ 1000000 := by omega
  have q1 : w.cell? ⟨p, 1, none⟩ = some (.slice a1 it.length c1) := h.row.cell 1
  have hm := h.good.many
  have H := Lib.hid h; have HF := Lib.hid hF
  clear h hF hitl hmany
  go_enter Try.func131, Try.ntmps131
  go_wp2
  go_loopw [11] (fun v wr => ∃ (k : Nat) (L : List (List UInt8)), k ≤ it.length ∧ v = .int .i64 k ∧ L.length = D.L.length ∧ DkAt wr p { D with L := L } (.slice (some ⟨g, 0, none⟩) (512 * D.L.length) c0) (.slice a1 it.length c1) it ∧ standL (D.wait.drop k) keep k L = standL D.wait keep 0 D.L ∧ Keep (fun x => x = g ∨ w.heap.size ≤ x) w wr) (fun v _ => it.length - (intOf v).toNat)
  case atStart => exact ⟨0, D.L, Nat.zero_le _, rfl, rfl, H.out, rfl, Keep.refl _ _⟩
  case round =>
    obtain ⟨k, L, hk, rfl, hLl, hD, hst, hkp⟩ := hrel
    by_cases hlt : k < it.length
    · obtain ⟨t1, t2⟩ := wt_at it k hlt
      obtain ⟨gw, rfl, u1⟩ := own_cell2 hD.ownw _ _ t1
      obtain ⟨_, e2, u2⟩ := own_cell2 hD.ownw _ _ t2
      cases e2
      obtain ⟨a7, c7, hv7, _, hB7⟩ := Sl.of_owned (hD.items it[k] (List.getElem_mem hlt)).1
      have hno7 := (hD.items it[k] (List.getElem_mem hlt)).2
      rw [hv7] at u2 hno7
      have hB7 : Bs wr a7 512 c7 it[k].b := hB7
      have hwk : D.wait.drop k = (it[k].i, it[k].b) :: D.wait.drop (k + 1) := by
        have hk2 : k < D.wait.length := by rw [H.out.wait, List.length_map]; exact hlt
        rw [List.drop_eq_getElem_cons hk2]
        congr 1
        simp [H.out.wait, Wt.of]
      rw [hwk, standL_cons] at hst
      have hw0 := H.out.good.waits (it[k].i, it[k].b) (by rw [H.out.wait]; exact List.mem_map.2 ⟨it[k], List.getElem_mem hlt, rfl⟩)
      simp only at hw0
      have HD := Lib.hid hD; have HST := Lib.hid hst; have HKP := Lib.hid hkp; have HB7 := Lib.hid hB7; have HN7 := Lib.hid hno7; have HLL := Lib.hid hLl
      generalize it[k].i = qi at *
      generalize it[k].b = qb at *
      clear hD hst hkp hB7 hno7 hv7 hwk t1 t2 hLl
      go_wp2_with (first
        | (refine alloc_row rfl 192 rfl _ _ _ info_wait [.int .i64 0, .slice none 0 0] rfl ?_)
        | (refine store_row rfl 192 _ _ rfl wr.heap.size rfl [.int .i64 qi, .slice a7 512 c7] rfl _ [.int .i64 0, .slice none 0 0] (Row.made _ _ _) (by kernel_rfl) rfl (by intro u hu; simp only [List.mem_cons, List.not_mem_nil, or_false] at hu; rcases hu with rfl | rfl <;> rfl) ?_; intro w2 hr2 hk2))
      have b2 : Below wr.heap.size wr w2 := ((Below.refl _ _).alloc (Nat.le_refl _) _).trans (hk2.below (by simp) (fun k hk => by omega))
      have HD2 := Lib.hid (HD.out.kept (F := fun _ => False) (.of_below b2) fun _ _ h => h)
      have HB2 := Lib.hid (HB7.out.below b2)
      have HK2 := Lib.hid (HKP.out.trans ((Keep.of_below (F := fun x => x = g ∨ w.heap.size ≤ x) b2)))
      have S2 := HKP.out.size
      have R2 := Lib.hid hr2
      clear hk2 b2 hr2 HKP HB7
      refine (closure_all w2 k).mono ?_
      rintro e w' ⟨rfl, rfl⟩
      have hkk : keep k = true := by rw [hkeep]
      rw [hkk, if_pos rfl] at HST
      go_wp2_with fail
      have hrow := HD2.out.row.drew
      have hr2 := R2.out.drew
      have hown := own_drew HD2.out.ownb
      have hB := HB2.out.drew
      have hL2 : L.length = D.L.length := HLL.out
      have hown : w2.drew.ownsRow 0 5 1 (.slice (some ⟨g, 0, none⟩) (512 * D.L.length) c0) (512 * D.L.length) (L.flatten.map bv) := by rw [← hL2]; rw [← hL2] at hown; exact hown
      have hne : ¬ c0 = qi * 512 := by omega
      have hgp : ¬ p = g := fun e => own_row_ne HD2.out.ownb HD2.out.row (by decide) (p := p) (by rw [e]; rfl)
      have hgr : ¬ wr.heap.size = g := fun e => by
        have := (own_block_lt HD.out.ownb (show (Value.slice (some ⟨g, 0, none⟩) (512 * D.L.length) c0).ownBlock = some g from rfl)).2
        omega
      have i1 : IntKind.i64.wrap ((qi : Int) * 512) = (qi : Int) * 512 := IntWalk.i64_in _ (by omega)
      have i2 : ((qi : Int) * 512).toNat = qi * 512 := by omega
      have i3 : 0 ≤ (qi : Int) * 512 ∧ (qi : Int) * 512 ≤ 512 * (D.L.length : Int) := by omega
      clear hL2
      refine flowe_begin (F := fun x => x = g) hmixed 11 rfl (by repeat (first | exact ps_body | refine ps_then ?_ | refine ps_block ?_)) (fun hps => ?_)
      simp only [List.replicate]
      have kk := (Keep.refl (fun x => x = g) (w2)).drew
      refine flowe_take 0 (v := ?_) (a' := ?_) hps rfl (by kernel_rfl) rfl ?_ ?_ ?_
      rotate_left 2
      · intro w' hk; go_simp; try rfl
      · simp only [Act.put, List.setIfInBounds_toArray, List.set_cons_succ, List.set_cons_zero]; try rfl
      refine flowe_take 1 (v := ?_) (a' := ?_) hps rfl (by kernel_rfl) rfl ?_ ?_ ?_
      rotate_left 2
      · intro w' hk; go_simp; try rfl
      · simp only [Act.put, List.setIfInBounds_toArray, List.set_cons_succ, List.set_cons_zero]; try rfl
      refine flowe_take 2 (v := ?_) (a' := ?_) hps rfl (by kernel_rfl) rfl ?_ ?_ ?_
      rotate_left 2
      · intro w' hk; go_simp; try rfl
      · simp only [Act.put, List.setIfInBounds_toArray, List.set_cons_succ, List.set_cons_zero]; try rfl
      refine flowe_take 3 (v := ?_) (a' := ?_) hps rfl (by kernel_rfl) rfl ?_ ?_ ?_
      rotate_left 2
      · intro w' hk; have hc := (hrow.keep hk hgp).cell 0; simp only [List.getElem?_cons_zero] at hc; go_simp; try rfl
      · simp only [Act.put, List.setIfInBounds_toArray, List.set_cons_succ, List.set_cons_zero]; try rfl
      refine flowe_take 4 (v := ?_) (a' := ?_) hps rfl (by kernel_rfl) rfl ?_ ?_ ?_
      rotate_left 2
      · intro w' hk; go_simp; try rfl
      · simp only [Act.put, List.setIfInBounds_toArray, List.set_cons_succ, List.set_cons_zero]; try rfl
      refine flowe_take 5 (v := ?_) (a' := ?_) hps rfl (by kernel_rfl) rfl ?_ ?_ ?_
      rotate_left 2
      · intro w' hk; have hc : w'.cell? ⟨wr.heap.size, 0, none⟩ = some (.int .i64 qi) := (hr2.keep hk hgr).cell 0; go_simp; try rfl
      · simp only [Act.put, List.setIfInBounds_toArray, List.set_cons_succ, List.set_cons_zero]; try rfl
      refine flowe_take 6 (v := ?_) (a' := ?_) hps rfl (by kernel_rfl) rfl ?_ ?_ ?_
      rotate_left 2
      · intro w' hk; go_simp; try rfl
      · simp only [Act.put, List.setIfInBounds_toArray, List.set_cons_succ, List.set_cons_zero]; try rfl
      refine flowe_take 7 (v := ?_) (a' := ?_) hps rfl (by kernel_rfl) rfl ?_ ?_ ?_
      rotate_left 2
      · intro w' hk; go_simp; try rfl
      · simp only [Act.put, List.setIfInBounds_toArray, List.set_cons_succ, List.set_cons_zero]; try rfl
      refine flowe_take 8 (v := ?_) (a' := ?_) hps rfl (by kernel_rfl) rfl ?_ ?_ ?_
      rotate_left 2
      · intro w' hk; go_simp; try rfl
      · simp only [Act.put, List.setIfInBounds_toArray, List.set_cons_succ, List.set_cons_zero]; try rfl
      refine flowe_take 9 (v := ?_) (a' := ?_) hps rfl (by kernel_rfl) rfl ?_ ?_ ?_
      rotate_left 2
      · intro w' hk; have hc : w'.cell? ⟨wr.heap.size, 1, none⟩ = some (.slice a7 512 c7) := (hr2.keep hk hgr).cell 1; go_simp; try rfl
      · simp only [Act.put, List.setIfInBounds_toArray, List.set_cons_succ, List.set_cons_zero]; try rfl
      refine flowe_one 10 hps rfl (by kernel_rfl) rfl (wp_next (fun K hK => ?_))
      refine copy_own _ _ 31 5 rfl Try.underlying31 (by kernel_rfl) hown (qi * 512) _ _ rfl _ 512 _ qb rfl hB (by omega) (by omega) (by omega) ?_
      intro w3 ho3 kp
      simp only [Act.put, List.setIfInBounds_toArray, List.set_cons_succ, List.set_cons_zero]
      refine hK _ _ (flow_step kk ?_ ?_)
      · first | exact kp | exact Keep.refl _ _ | exact (Keep.refl _ _).alloc _
      clear kk hK; try clear kp
      intro kk
      refine flowe_done hps (by kernel_rfl) ?_
      have HO3 := Lib.hid ho3; have KK := Lib.hid kk
      clear hrow hr2 hown hB ho3 kk
      go_wp2
      refine ⟨⟨k + 1, L.set qi qb, by omega, by go_num, by rw [List.length_set]; exact HLL.out, ?_, HST.out, HK2.out.trans (KK.out.mono fun k _ h => .inl h)⟩, by simp [intOf]; omega⟩
      refine HD2.out.laid (L := L) (i := qi) (b := qb) ?_ KK.out (by rw [HLL.out]; exact hw0.1) hw0.2
      have ho4 := HO3.out
      rw [Nat.mul_comm qi 512] at ho4
      exact ho4
    · obtain rfl : k = it.length := by omega
      have hd0 : D.wait.drop it.length = [] := List.drop_of_length_le (by rw [H.out.wait, List.length_map]; exact Nat.le_refl _)
      rw [hd0, standL_nil] at hst
      have r1 := hD.row
      have q3 : wr.cell? ⟨p, 1, none⟩ = some (.slice a1 it.length c1) := r1.cell 1
      have f3 := r1.frozen 1
      have HD := Lib.hid hD; have HST := Lib.hid hst; have HKP := Lib.hid hkp
      clear hD hst hkp r1 hd0
      go_wp2
      go_end0
      have r := HD.out.row.set 1 (.slice none 0 0)
      have ks := (Keep.refl (· = p) wr).setCell (p := ⟨p, 1, none⟩) (.inl rfl) (.slice none 0 0)
      have hgd := H.out.good.stand keep
      refine ⟨rfl, F, ⟨_, _, [], ⟨r, ?_, World.ownsRow_nil _ _ _ _, rfl, (fun x hx => by cases hx), hgd⟩, fun k hk => ?_⟩, ?_, fun k hk => .inl hk⟩
      · have h1 := own_kept HD.out.ownb ks fun x hx e => own_row_ne HD.out.ownb HD.out.row (by decide) (e ▸ hx)
        have e1 : (D.stand keep).L = L := HST.out.symm
        rw [e1]; exact h1
      · rcases hk with rfl | hk | hk | ⟨x, hx, _⟩
        · exact HF.out _ (.inl rfl)
        · exact HF.out _ (.inr (.inl hk))
        · cases hk
        · cases hx
      · refine Keep.trans ⟨HKP.out.os, HKP.out.tape, HKP.out.output, HKP.out.size, fun x hx hn => HKP.out.block x hx fun h => ?_⟩ (ks.mono fun x _ e => HF.out _ (.inl e))
        rcases h with h | h
        · exact hn (HF.out _ (.inr (.inl (by rw [h]; rfl))))
        · omega
theorem sl_keep2 {F : Nat → Prop} {w w' : World} {a : Option Addr} {n c z : Nat} {l : List Value} (h : Sl w a n c z l) (k : Keep F w w') (hf : ∀ p, a = some p → 0 < l.length → ¬ F p.block) : Sl w' a n c z l := by
  refine ⟨h.len, h.cap, h.room, h.nilcap, fun i v hi => ?_⟩
  obtain ⟨b, o, e, hc⟩ := h.cells i v hi
  refine ⟨b, o, e, ?_⟩
  have hl : 0 < l.length := Nat.lt_of_le_of_lt (Nat.zero_le _) (List.getElem?_eq_some_iff.1 hi).1
  rw [cell_of_block (w := w) (p := ⟨b, o + i, none⟩) (k.block b (World.block_lt_of_cell? w _ hc) (hf _ e hl))]; exact hc
theorem ts_keep2 {F : Nat → Prop} {w w' : World} {a : Option Addr} {n c : Nat} {l : List Bool} (h : Ts w a n c l) (k : Keep F w w') (hf : ∀ p, a = some p → 0 < l.length → ¬ F p.block) : Ts w' a n c l :=
  sl_keep2 h k fun p hp hl => hf p hp (by simpa using hl)
theorem ts_len {w : World} {a : Option Addr} {n c : Nat} {l : List Bool} (h : Ts w a n c l) : l.length = n := by have := Sl.len h; simpa using this
theorem closure_some (w : World) (k ca : Nat) (ka : Option Addr) (kn kc : Nat) (kl : List Bool) (hca : Row w ca 23 [.slice ka kn kc]) (hkb : Ts w ka kn kc kl) :
    Calls Try.prog 133 #[.int .i64 k, .pointer (some ⟨ca, 0, none⟩)] w fun e w' => e = .returned (.bool (kl.getD k false)) ∧ w = w' := by
  have hn := ts_len hkb
  have q0 : w.cell? ⟨ca, 0, none⟩ = some (.slice ka kn kc) := hca.cell 0
  subst hn
  by_cases h : k < kl.length
  · obtain ⟨b, o, rfl, hc⟩ := Sl.cells hkb k (.bool (kl.getD k false)) (by simp [List.getElem?_eq_getElem h, List.getD])
    have hd : kl.getD k false = kl[k] := by simp [List.getD, h]
    rw [hd] at hc ⊢
    generalize kl[k] = kv at hc
    clear hkb hca hd
    go_enter Try.func133, Try.ntmps133
    go_wp2
    go_ret
    exact ⟨rfl, rfl⟩
  · have hd : kl.getD k false = false := by simp [List.getD, List.getElem?_eq_none (Nat.le_of_not_lt h)]
    rw [hd]
    clear hkb hca hd
    go_enter Try.func133, Try.ntmps133
    go_wp2
    go_ret
    exact ⟨rfl, rfl⟩
set_option maxHeartbeats 4000000 in
theorem disk_stand_some (w : World) (p : Nat) (D : Dk) (F : Nat → Prop) (h : DkRep w p D F) (hmany : D.wait.length ≤ 1000000) (keep : Nat → Bool) (ca : Nat) (ka : Option Addr) (kn kc : Nat) (kl : List Bool) (hca : Row w ca 23 [.slice ka kn kc]) (hkb : Ts w ka kn kc kl) (hcF : ¬ F ca) (hkF : ∀ q, ka = some q → 0 < kl.length → ¬ F q.block) (hkeep : keep = fun k => kl.getD k false) :
    Calls Try.prog 131 #[.pointer (some ⟨p, 0, none⟩), .func (.func 133) #[] #[.pointer (some ⟨ca, 0, none⟩)]] w fun e w' => e = .returned (.tuple #[]) ∧ DkTo p (D.stand keep) F w w' := by
  obtain ⟨vb, vw, it, h, hF⟩ := h
  obtain ⟨g, c0, rfl, _, hc0, hr0⟩ := h.formb
  obtain ⟨a1, c1, rfl, _, _⟩ := h.formw
  have hitl : D.wait.length = it.length := by rw [h.wait, List.length_map]
  have hit : it.length ≤ 1000000 := by omega
  have q1 : w.cell? ⟨p, 1, none⟩ = some (.slice a1 it.length c1) := h.row.cell 1
  have hm := h.good.many
  have hmf : ∀ (fn : Fn) (first cap : Array Value) (w : World), (Instr.makeFunc fn first cap).run Try.prog w = .ok (.func fn first cap) w := fun _ _ _ _ => rfl
  have hgF : F g := hF g (.inr (.inl rfl))
  have hcg : ¬ ca = g := fun e => hcF (e ▸ hgF)
  have hkg : ∀ q, ka = some q → 0 < kl.length → ¬ q.block = g := fun q h1 h2 e => hkF q h1 h2 (e ▸ hgF)
  have H := Lib.hid h; have HF := Lib.hid hF; have HCA := Lib.hid hca; have HKB := Lib.hid hkb; have HKG := Lib.hid hkg; have HKEEP := Lib.hid hkeep
  clear h hF hitl hmany hca hkb hkF hcF hkg hkeep hgF
  go_enter Try.func131, Try.ntmps131
  go_wp2
  go_loopw [11] (fun v wr => ∃ (k : Nat) (L : List (List UInt8)), k ≤ it.length ∧ v = .int .i64 k ∧ L.length = D.L.length ∧ DkAt wr p { D with L := L } (.slice (some ⟨g, 0, none⟩) (512 * D.L.length) c0) (.slice a1 it.length c1) it ∧ standL (D.wait.drop k) keep k L = standL D.wait keep 0 D.L ∧ Keep (fun x => x = g ∨ w.heap.size ≤ x) w wr) (fun v _ => it.length - (intOf v).toNat)
  case atStart => exact ⟨0, D.L, Nat.zero_le _, rfl, rfl, H.out, rfl, Keep.refl _ _⟩
  case round =>
    obtain ⟨k, L, hk, rfl, hLl, hD, hst, hkp⟩ := hrel
    by_cases hlt : k < it.length
    · obtain ⟨t1, t2⟩ := wt_at it k hlt
      obtain ⟨gw, rfl, u1⟩ := own_cell2 hD.ownw _ _ t1
      obtain ⟨_, e2, u2⟩ := own_cell2 hD.ownw _ _ t2
      cases e2
      obtain ⟨a7, c7, hv7, _, hB7⟩ := Sl.of_owned (hD.items it[k] (List.getElem_mem hlt)).1
      have hno7 := (hD.items it[k] (List.getElem_mem hlt)).2
      rw [hv7] at u2 hno7
      have hB7 : Bs wr a7 512 c7 it[k].b := hB7
      have hwk : D.wait.drop k = (it[k].i, it[k].b) :: D.wait.drop (k + 1) := by
        have hk2 : k < D.wait.length := by rw [H.out.wait, List.length_map]; exact hlt
        rw [List.drop_eq_getElem_cons hk2]
        congr 1
        simp [H.out.wait, Wt.of]
      rw [hwk, standL_cons] at hst
      have hw0 := H.out.good.waits (it[k].i, it[k].b) (by rw [H.out.wait]; exact List.mem_map.2 ⟨it[k], List.getElem_mem hlt, rfl⟩)
      simp only at hw0
      have HD := Lib.hid hD; have HST := Lib.hid hst; have HKP := Lib.hid hkp; have HB7 := Lib.hid hB7; have HN7 := Lib.hid hno7; have HLL := Lib.hid hLl
      generalize it[k].i = qi at *
      generalize it[k].b = qb at *
      clear hD hst hkp hB7 hno7 hv7 hwk t1 t2 hLl
      go_wp2_with (first
        | (refine alloc_row rfl 192 rfl _ _ _ info_wait [.int .i64 0, .slice none 0 0] rfl ?_)
        | (refine store_row rfl 192 _ _ rfl wr.heap.size rfl [.int .i64 qi, .slice a7 512 c7] rfl _ [.int .i64 0, .slice none 0 0] (Row.made _ _ _) (by kernel_rfl) rfl (by intro u hu; simp only [List.mem_cons, List.not_mem_nil, or_false] at hu; rcases hu with rfl | rfl <;> rfl) ?_; intro w2 hr2 hk2))
      have b2 : Below wr.heap.size wr w2 := ((Below.refl _ _).alloc (Nat.le_refl _) _).trans (hk2.below (by simp) (fun k hk => by omega))
      have HD2 := Lib.hid (HD.out.kept (F := fun _ => False) (.of_below b2) fun _ _ h => h)
      have HB2 := Lib.hid (HB7.out.below b2)
      have HK2 := Lib.hid (HKP.out.trans ((Keep.of_below (F := fun x => x = g ∨ w.heap.size ≤ x) b2)))
      have S2 := HKP.out.size
      have R2 := Lib.hid hr2
      clear hk2 b2 hr2 HKP HB7
      have hcs := HCA.out.lt
      have hca2 : Row w2 ca 23 [.slice ka kn kc] := HCA.out.keep HK2.out (by rintro (h | h); exact hcg h; omega)
      have hkl : ∀ q, ka = some q → 0 < kl.length → ¬ (q.block = g ∨ w.heap.size ≤ q.block) := fun q h1 h2 h3 => by
        rcases h3 with h3 | h3
        · exact HKG.out q h1 h2 h3
        · obtain ⟨b0, o0, e0, hlt0⟩ := Sl.some HKB.out (n := kn) (by have := ts_len HKB.out; omega) (by decide)
          rw [e0] at h1; cases h1
          have : w.heap.size ≤ b0 := h3
          omega
      have hkb2 : Ts w2 ka kn kc kl := ts_keep2 HKB.out HK2.out hkl
      refine (closure_some w2 k ca ka kn kc kl hca2 hkb2).mono ?_
      rintro e w' ⟨rfl, rfl⟩
      clear hca2 hkb2
      have hkk : keep k = kl.getD k false := by rw [HKEEP.out]
      generalize kl.getD k false = kv at hkk
      rw [hkk] at HST
      cases kv with
      | false =>
        simp only [Bool.false_eq_true, if_false] at HST
        go_wp2
        exact ⟨⟨k + 1, L, by omega, by go_num, HLL.out, HD2.out, HST.out, HK2.out⟩, by simp [intOf]; omega⟩
      | true =>
      rw [if_pos rfl] at HST
      go_wp2_with fail
      have hrow := HD2.out.row.drew
      have hr2 := R2.out.drew
      have hown := own_drew HD2.out.ownb
      have hB := HB2.out.drew
      have hL2 : L.length = D.L.length := HLL.out
      have hown : w2.drew.ownsRow 0 5 1 (.slice (some ⟨g, 0, none⟩) (512 * D.L.length) c0) (512 * D.L.length) (L.flatten.map bv) := by rw [← hL2]; rw [← hL2] at hown; exact hown
      have hne : ¬ c0 = qi * 512 := by omega
      have hgp : ¬ p = g := fun e => own_row_ne HD2.out.ownb HD2.out.row (by decide) (p := p) (by rw [e]; rfl)
      have hgr : ¬ wr.heap.size = g := fun e => by
        have := (own_block_lt HD.out.ownb (show (Value.slice (some ⟨g, 0, none⟩) (512 * D.L.length) c0).ownBlock = some g from rfl)).2
        omega
      have i1 : IntKind.i64.wrap ((qi : Int) * 512) = (qi : Int) * 512 := IntWalk.i64_in _ (by omega)
      have i2 : ((qi : Int) * 512).toNat = qi * 512 := by omega
      have i3 : 0 ≤ (qi : Int) * 512 ∧ (qi : Int) * 512 ≤ 512 * (D.L.length : Int) := by omega
      clear hL2
      refine flowe_begin (F := fun x => x = g) hmixed 11 rfl (by repeat (first | exact ps_body | refine ps_then ?_ | refine ps_block ?_)) (fun hps => ?_)
      simp only [List.replicate]
      have kk := (Keep.refl (fun x => x = g) (w2)).drew
      refine flowe_take 0 (v := ?_) (a' := ?_) hps rfl (by kernel_rfl) rfl ?_ ?_ ?_
      rotate_left 2
      · intro w' hk; go_simp; try rfl
      · simp only [Act.put, List.setIfInBounds_toArray, List.set_cons_succ, List.set_cons_zero]; try rfl
      refine flowe_take 1 (v := ?_) (a' := ?_) hps rfl (by kernel_rfl) rfl ?_ ?_ ?_
      rotate_left 2
      · intro w' hk; go_simp; try rfl
      · simp only [Act.put, List.setIfInBounds_toArray, List.set_cons_succ, List.set_cons_zero]; try rfl
      refine flowe_take 2 (v := ?_) (a' := ?_) hps rfl (by kernel_rfl) rfl ?_ ?_ ?_
      rotate_left 2
      · intro w' hk; go_simp; try rfl
      · simp only [Act.put, List.setIfInBounds_toArray, List.set_cons_succ, List.set_cons_zero]; try rfl
      refine flowe_take 3 (v := ?_) (a' := ?_) hps rfl (by kernel_rfl) rfl ?_ ?_ ?_
      rotate_left 2
      · intro w' hk; have hc := (hrow.keep hk hgp).cell 0; simp only [List.getElem?_cons_zero] at hc; go_simp; try rfl
      · simp only [Act.put, List.setIfInBounds_toArray, List.set_cons_succ, List.set_cons_zero]; try rfl
      refine flowe_take 4 (v := ?_) (a' := ?_) hps rfl (by kernel_rfl) rfl ?_ ?_ ?_
      rotate_left 2
      · intro w' hk; go_simp; try rfl
      · simp only [Act.put, List.setIfInBounds_toArray, List.set_cons_succ, List.set_cons_zero]; try rfl
      refine flowe_take 5 (v := ?_) (a' := ?_) hps rfl (by kernel_rfl) rfl ?_ ?_ ?_
      rotate_left 2
      · intro w' hk; have hc : w'.cell? ⟨wr.heap.size, 0, none⟩ = some (.int .i64 qi) := (hr2.keep hk hgr).cell 0; go_simp; try rfl
      · simp only [Act.put, List.setIfInBounds_toArray, List.set_cons_succ, List.set_cons_zero]; try rfl
      refine flowe_take 6 (v := ?_) (a' := ?_) hps rfl (by kernel_rfl) rfl ?_ ?_ ?_
      rotate_left 2
      · intro w' hk; go_simp; try rfl
      · simp only [Act.put, List.setIfInBounds_toArray, List.set_cons_succ, List.set_cons_zero]; try rfl
      refine flowe_take 7 (v := ?_) (a' := ?_) hps rfl (by kernel_rfl) rfl ?_ ?_ ?_
      rotate_left 2
      · intro w' hk; go_simp; try rfl
      · simp only [Act.put, List.setIfInBounds_toArray, List.set_cons_succ, List.set_cons_zero]; try rfl
      refine flowe_take 8 (v := ?_) (a' := ?_) hps rfl (by kernel_rfl) rfl ?_ ?_ ?_
      rotate_left 2
      · intro w' hk; go_simp; try rfl
      · simp only [Act.put, List.setIfInBounds_toArray, List.set_cons_succ, List.set_cons_zero]; try rfl
      refine flowe_take 9 (v := ?_) (a' := ?_) hps rfl (by kernel_rfl) rfl ?_ ?_ ?_
      rotate_left 2
      · intro w' hk; have hc : w'.cell? ⟨wr.heap.size, 1, none⟩ = some (.slice a7 512 c7) := (hr2.keep hk hgr).cell 1; go_simp; try rfl
      · simp only [Act.put, List.setIfInBounds_toArray, List.set_cons_succ, List.set_cons_zero]; try rfl
      refine flowe_one 10 hps rfl (by kernel_rfl) rfl (wp_next (fun K hK => ?_))
      refine copy_own _ _ 31 5 rfl Try.underlying31 (by kernel_rfl) hown (qi * 512) _ _ rfl _ 512 _ qb rfl hB (by omega) (by omega) (by omega) ?_
      intro w3 ho3 kp
      simp only [Act.put, List.setIfInBounds_toArray, List.set_cons_succ, List.set_cons_zero]
      refine hK _ _ (flow_step kk ?_ ?_)
      · first | exact kp | exact Keep.refl _ _ | exact (Keep.refl _ _).alloc _
      clear kk hK; try clear kp
      intro kk
      refine flowe_done hps (by kernel_rfl) ?_
      have HO3 := Lib.hid ho3; have KK := Lib.hid kk
      clear hrow hr2 hown hB ho3 kk
      go_wp2
      refine ⟨⟨k + 1, L.set qi qb, by omega, by go_num, by rw [List.length_set]; exact HLL.out, ?_, HST.out, HK2.out.trans (KK.out.mono fun k _ h => .inl h)⟩, by simp [intOf]; omega⟩
      refine HD2.out.laid (L := L) (i := qi) (b := qb) ?_ KK.out (by rw [HLL.out]; exact hw0.1) hw0.2
      have ho4 := HO3.out
      rw [Nat.mul_comm qi 512] at ho4
      exact ho4
    · obtain rfl : k = it.length := by omega
      have hd0 : D.wait.drop it.length = [] := List.drop_of_length_le (by rw [H.out.wait, List.length_map]; exact Nat.le_refl _)
      rw [hd0, standL_nil] at hst
      have r1 := hD.row
      have q3 : wr.cell? ⟨p, 1, none⟩ = some (.slice a1 it.length c1) := r1.cell 1
      have f3 := r1.frozen 1
      have HD := Lib.hid hD; have HST := Lib.hid hst; have HKP := Lib.hid hkp
      clear hD hst hkp r1 hd0
      go_wp2
      go_end0
      have r := HD.out.row.set 1 (.slice none 0 0)
      have ks := (Keep.refl (· = p) wr).setCell (p := ⟨p, 1, none⟩) (.inl rfl) (.slice none 0 0)
      have hgd := H.out.good.stand keep
      refine ⟨rfl, F, ⟨_, _, [], ⟨r, ?_, World.ownsRow_nil _ _ _ _, rfl, (fun x hx => by cases hx), hgd⟩, fun k hk => ?_⟩, ?_, fun k hk => .inl hk⟩
      · have h1 := own_kept HD.out.ownb ks fun x hx e => own_row_ne HD.out.ownb HD.out.row (by decide) (e ▸ hx)
        have e1 : (D.stand keep).L = L := HST.out.symm
        rw [e1]; exact h1
      · rcases hk with rfl | hk | hk | ⟨x, hx, _⟩
        · exact HF.out _ (.inl rfl)
        · exact HF.out _ (.inr (.inl hk))
        · cases hk
        · cases hx
      · refine Keep.trans ⟨HKP.out.os, HKP.out.tape, HKP.out.output, HKP.out.size, fun x hx hn => HKP.out.block x hx fun h => ?_⟩ (ks.mono fun x _ e => HF.out _ (.inl e))
        rcases h with h | h
        · exact hn (HF.out _ (.inr (.inl (by rw [h]; rfl))))
        · omega
theorem DkRep.tight {F : Nat → Prop} {w : World} {p : Nat} {D : Dk} (h : DkRep w p D F) : DkRep w p D (fun k => F k ∧ k < w.heap.size) := by
  obtain ⟨vb, vw, it, h, hF⟩ := h
  exact ⟨vb, vw, it, h, fun k hk => ⟨hF k hk, h.lt hk⟩⟩
theorem DkTo.mono {p : Nat} {D : Dk} {F G : Nat → Prop} {w w' : World} (h : DkTo p D F w w') (hG : ∀ k, F k → G k) : DkTo p D G w w' := by
  obtain ⟨F', h1, h2, h3⟩ := h
  exact ⟨F', h1, h2.mono fun k _ hk => hG k hk, fun k hk => (h3 k hk).imp (hG k) id⟩
theorem DkTo.from {p : Nat} {D : Dk} {F : Nat → Prop} {w w1 w' : World} (h : DkTo p D F w1 w') (hb : Below w.heap.size w w1) : DkTo p D F w w' := by
  obtain ⟨F', h1, h2, h3⟩ := h
  exact ⟨F', h1, (Keep.of_below hb).trans h2, fun k hk => (h3 k hk).imp id fun h => Nat.le_trans hb.size h⟩
theorem disk_Flush_off (w : World) (p : Nat) (D : Dk) (F : Nat → Prop) (h : DkRep w p D F) (ho : D.off = true) :
    Calls Try.prog 31 #[.pointer (some ⟨p, 0, none⟩)] w fun e w' => e = .returned (.iface 183 (.int .i64 6)) ∧ w = w' := by
  obtain ⟨vb, vw, it, h, hF⟩ := h
  have q2 : w.cell? ⟨p, 2, none⟩ = some (.bool D.off) := h.row.cell 2
  rw [ho] at q2
  clear h hF ho
  go_enter Try.func31, Try.ntmps31
  go_wp2
  go_ret
  exact ⟨rfl, rfl⟩
theorem disk_Flush_ok (w : World) (p : Nat) (D : Dk) (F : Nat → Prop) (h : DkRep w p D F) (ho : D.off = false) (hmany : D.wait.length ≤ 1000000) :
    Calls Try.prog 31 #[.pointer (some ⟨p, 0, none⟩)] w fun e w' => e = .returned .nilIface ∧ DkTo p (D.stand fun _ => true) F w w' := by
  have hc := disk_stand_all w p D F h hmany (fun _ => true) rfl
  have HC := Lib.hid hc
  obtain ⟨vb, vw, it, h, hF⟩ := h
  have q2 : w.cell? ⟨p, 2, none⟩ = some (.bool D.off) := h.row.cell 2
  rw [ho] at q2
  clear h hF ho hc
  go_enter Try.func31, Try.ntmps31
  go_wp2_with fail
  refine HC.out.mono ?_
  rintro e w1 ⟨rfl, h1⟩
  have H1 := Lib.hid h1
  clear h1
  go_wp2
  go_ret
  exact ⟨rfl, H1.out⟩
set_option maxHeartbeats 1000000 in
theorem disk_Boot (w : World) (p : Nat) (D : Dk) (F : Nat → Prop) (h : DkRep w p D F) (hmany : D.wait.length ≤ 1000000) (ka : Option Addr) (kn kc : Nat) (kl : List Bool) (hkb : Ts w ka kn kc kl) (hkF : ∀ q, ka = some q → 0 < kl.length → ¬ F q.block) :
    Calls Try.prog 33 #[.pointer (some ⟨p, 0, none⟩), .slice ka kn kc] w fun e w' => e = .returned (.tuple #[]) ∧ DkTo p (D.boot kl) F w w' := by
  have hmf : ∀ (fn : Fn) (first cap : Array Value) (w : World), (Instr.makeFunc fn first cap).run Try.prog w = .ok (.func fn first cap) w := fun _ _ _ _ => rfl
  have HM := Lib.hid h; have HKB := Lib.hid hkb; have HKF := Lib.hid hkF
  clear h hkb hkF
  go_enter Try.func33, Try.ntmps33
  go_wp2_with fail
  have hca : Row (w.alloc (.cells #[.slice ka kn kc] 23 (0, 0))) w.heap.size 23 [.slice ka kn kc] := Row.made w 23 [.slice ka kn kc]
  have hb0 : Below w.heap.size w (w.alloc (.cells #[.slice ka kn kc] 23 (0, 0))) := (Below.refl _ _).alloc (Nat.le_refl _) _
  generalize w.alloc (.cells #[.slice ka kn kc] 23 (0, 0)) = W0 at hca hb0 ⊢
  obtain ⟨vb, vw, it, h, hF⟩ := HM.out
  have hrep : DkRep W0 p D (dkF p vb vw it) := ⟨vb, vw, it, h.kept (F := fun _ => False) (.of_below hb0) fun _ _ h => h, fun k hk => hk⟩
  refine (disk_stand_some W0 p D _ hrep hmany (fun k => kl.getD k false) w.heap.size ka kn kc kl hca (ts_keep2 HKB.out (Keep.of_below (F := fun _ => False) hb0) fun _ _ _ h => h) (fun hk => Nat.lt_irrefl _ (h.lt hk)) (fun q h1 h2 h3 => HKF.out q h1 h2 (hF _ h3)) rfl).mono ?_
  rintro e w1 ⟨rfl, F', h1, k1, g1⟩
  obtain ⟨vb1, vw1, it1, h1, hF1⟩ := h1
  have f2 := h1.row.frozen 2
  have f3 := h1.row.frozen 3
  have q2 : w1.cell? ⟨p, 2, none⟩ = some (.bool (D.stand fun k => kl.getD k false).off) := h1.row.cell 2
  have q3 : w1.cell? ⟨p, 3, none⟩ = some (.int .i64 (D.stand fun k => kl.getD k false).left) := h1.row.cell 3
  have H1 := Lib.hid h1; have HF1 := Lib.hid hF1; have K1 := Lib.hid k1; have G1 := Lib.hid g1; have HF := Lib.hid hF; have HB0 := Lib.hid hb0
  clear h1 hF1 k1 g1 hF hb0 hrep hca h
  go_wp2
  go_end0
  have r := (H1.out.row.set 2 (.bool false)).set 3 (.int .i64 (-1))
  have ks := ((Keep.refl (· = p) w1).setCell (p := ⟨p, 2, none⟩) (.inl rfl) (.bool false)).setCell (p := ⟨p, 3, none⟩) (.inl rfl) (.int .i64 (-1))
  have hgd := H1.out.good
  have hd := H1.out.row2 (D' := D.boot kl) r ks rfl rfl ⟨hgd.secs, hgd.many, hgd.waits, by show (-1 : Int) ≤ -1 ∧ (-1 : Int) ≤ _; decide⟩
  have hto : DkTo p (D.boot kl) (dkF p vb vw it) W0 _ := ⟨F', ⟨_, _, it1, hd, HF1.out⟩, K1.out.trans (ks.mono fun k _ e => by rw [e]; exact .inl rfl), G1.out⟩
  exact ⟨rfl, (hto.mono HF.out).from HB0.out⟩
end Go.Proofs.Ytjijniillehfoaa
