/- Texts of the proof of 'CheckBuilt', part 3: words on memory, contracts of functions, plain laws. No condition. -/
import Derived.Test.YtjijniillehfoaaMgCheckBuilt2
import Derived.WalkKit
import Derived.Deep.MidRow
/- Lists of free blocks: the program's All and Clear. -/
namespace Go.Own
open Go Go.RowKit
/-- How long a slice value is. -/
def lenOf (v : Value) : Nat := match v with | .slice _ n _ => n | _ => 0
end Go.Own
namespace Go.Proofs.Ytjijniillehfoaa
open Go Go.RowKit Go.Own
set_option linter.unusedVariables false
set_option maxRecDepth 100000
theorem info_int : Info Try.prog 3 (.int .i64 0) 1 8 := by unfold Info; kernel_rfl
/-- A list of numbers of one's own. -/
abbrev IntsO (v : Value) (L : List Nat) : Ob := OwO 3 1 v L.length (L.map fun o => .int .i64 (o : Nat))
theorem ints_one (L : List Nat) : ∀ u ∈ L.map (fun o => Value.int .i64 (o : Nat)), u.oneCell' = true := by
  intro u hu; obtain ⟨x, _, rfl⟩ := List.mem_map.1 hu; rfl
section
variable {B : Nat} {w0 w : World} {l : List Ob} {ops : Array Oper} {rest : List Oper} {o : Oper} {a : Act} {Q : Exit → Act → World → Prop}
theorem ints_slice (h : St B w0 w l) {i : Nat} {v : Value} {L : List Nat} (hi : l[i]? = some (IntsO v L)) : ∃ a c, v = .slice a L.length c ∧ Sl w a L.length c 1 (L.map fun o => .int .i64 (o : Nat)) := by
  obtain ⟨a, c, e, _, hs⟩ := Sl.of_owned (h.own hi)
  exact ⟨a, c, e, hs⟩
/-- 'append(l, x)'. -/
theorem ints_app (h : St B w0 w l) (i : Nat) {v : Value} {L : List Nat} (hi : l[i]? = some (IntsO v L)) (hgd : Region.wanted o (yielded ops a.tmps) = true) (s x : Operand)
    (ho : o.op = .call { callee := .builtin .append, args := #[s, x], argTypes := #[74, 74] }) (hs : a.eval s = v) (q : Int) (y : Nat) (hq : q = y)
    (hx : a.eval x = .slice (some ⟨w.heap.size, 0, none⟩) 1 1) (hL : L.length ≤ 1000000)
    (hk : ∀ v' w', St B w0 w' (l.set i (IntsO v' (L ++ [y]))) → wpList Try.prog ops Q rest (a.put o.dst v') w') : wpList Try.prog ops Q (o :: rest) a (w.alloc (.cells #[.int .i64 q] 3 (0, 0))) := by
  subst hq
  have h' := h.alloc (.cells #[.int .i64 (y : Nat)] 3 (0, 0))
  refine app_in hgd s x 74 ho 0 3 _ 1 8 Try.underlying74 info_int rfl (by decide) v L.length _ hs (h'.own hi) _ 1 1 [.int .i64 (y : Nat)] hx (Sl.lit w 3 [.int .i64 (y : Nat)] 1 1 rfl (by decide)) (one1 rfl) (by omega) (by omega) (Nat.zero_le _) fun v' w' h1 h2 h3 => hk v' w' ?_
  have := h'.ownTo hi w' v' _ _ h1 h2 h3
  unfold IntsO
  rw [List.length_append, List.map_append]
  exact this
end
def errA (x : Option (List Nat)) : Value := match x with | none => .iface 183 (.int .i64 3) | some _ => .nilIface
section
variable {B : Nat} {w0 w : World} {l : List Ob} {i p bs cp : Nat} {b : List UInt8}
theorem ls_All_bad (c : Int) (hc : c < 0 ∨ 22 ≤ c) (h : St B w0 w l) :
    Calls Try.prog 90 #[arP p, .int .i64 c] w fun e w' => e = .returned (.tuple #[.slice none 0 0, .iface 183 (.int .i64 1)]) ∧ St B w0 w' l := by
  have H := Lib.hid h
  clear h
  by_cases h0 : c < 0
  · have d1 : decide (c < 0) = true := decide_eq_true h0
    clear hc h0
    go_enter Try.func90, Try.ntmps90
    go_wp2
    go_ret2
    exact ⟨rfl, H.out⟩
  · have d1 : decide (c < 0) = false := decide_eq_false h0
    have d2 : decide (22 ≤ c) = true := decide_eq_true (by omega)
    have d3 : decide (c ≥ 22) = true := decide_eq_true (by omega)
    clear hc h0
    go_enter Try.func90, Try.ntmps90
    go_wp2
    go_ret2
    exact ⟨rfl, H.out⟩
theorem allB_bit (V c : Nat) : (((V / 2 ^ c % 2 : Nat) : Int) == 1) = bitAt V c := by
  unfold bitAt
  rw [Bool.eq_iff_iff, beq_iff_eq, decide_eq_true_iff]; omega
set_option maxHeartbeats 8000000 in
theorem ls_All (h : St B w0 w (l.set i (ArT p ⟨bs, cp, b⟩))) (hil : i < l.length) (c : Nat) (hc : c < 22) :
    Calls Try.prog 90 #[arP p, .int .i64 c] w fun e w' => ∃ v, e = .returned (.tuple #[v, errA (allB b c)]) ∧ St B w0 w' (IntsO v ((allB b c).getD []) :: l.set i (ArT p ⟨bs, cp, b⟩)) := by
  obtain ⟨hsm, hbs⟩ := ls_small h hil
  have KL := Lib.hid (ar_Len h (at_set hil _))
  have nil : ∀ w', St B w0 w' (l.set i (ArT p ⟨bs, cp, b⟩)) → St B w0 w' (IntsO (.slice none 0 0) [] :: l.set i (ArT p ⟨bs, cp, b⟩)) := fun w' h' => h'.addOwn (Below.refl _ _) (World.ownsRow_nil _ _ _ _)
  have NIL := Lib.hid nil
  have H := Lib.hid h
  have d1 : decide ((c : Int) < 0) = false := decide_eq_false (by omega)
  have d2 : decide ((c : Int) ≥ 22) = false := decide_eq_false (by omega)
  clear h nil
  by_cases hlen : b.length < 184
  · have hr : allB b c = none := by unfold allB; rw [if_pos hlen]
    rw [hr]
    have d3 : decide ((b.length : Int) < 184) = true := decide_eq_true (by omega)
    clear hr hlen
    go_enter Try.func90, Try.ntmps90
    go_wp2_with fail
    have kc := KL.out
    with_reducible refine kc.mono ?_
    clear kc
    rintro e w' ⟨rfl, rfl⟩
    go_wp2
    go_ret2
    exact ⟨_, rfl, NIL.out _ H.out⟩
  · have d3 : decide ((b.length : Int) < 184) = false := decide_eq_false (by omega)
    have hX := numAt_lt b (headO c); have hV := numAt_lt b 0
    have hho : headO c ≤ 176 := by unfold headO; omega
    have hA : allB b c = if bitAt (numAt b 0) c ≠ decide (numAt b (headO c) ≠ 0) then none else allFrom b c 1024 (numAt b (headO c)) 0 := by unfold allB; rw [if_neg hlen]
    have KX := Lib.hid (ls_word H.out hil (headO c : Nat) (headO c) rfl (by omega))
    have KV := Lib.hid (ls_word H.out hil 0 0 rfl (by decide))
    generalize numAt b (headO c) = X at *
    generalize numAt b 0 = V at *
    have HA := Lib.hid hA
    clear hA
    have hb : (bits .and .u64 ((V : Int) / 2 ^ c) 1 == 1) = bitAt V c := by
      have e : (V : Int) / 2 ^ c = ((V / 2 ^ c : Nat) : Int) := by simp
      have hle := Nat.div_le_self V (2 ^ c)
      rw [e, odd_eq _ (Int.natCast_nonneg _) (Int.le_trans (Int.ofNat_le.2 hle) (by omega)), ← allB_bit, Int.natCast_emod]; rfl
    have HBV := Lib.hid hb
    clear hb
    by_cases hm : bitAt V c ≠ decide (X ≠ 0)
    · have hr : allB b c = none := by rw [HA.out, if_pos hm]
      rw [hr]
      clear hr hlen hho
      cases hv : bitAt V c with
      | true =>
        rw [hv] at hm
        have x0 : X = 0 := by
          by_cases x0 : X = 0
          · exact x0
          · exact absurd (decide_eq_true x0).symm hm
        have q1 := HBV.out.trans hv
        have q2 : ((X : Int) != 0) = false := by rw [x0]; rfl
        clear hm hv x0
        go_enter Try.func90, Try.ntmps90
        go_wp2_with fail
        have kc := KL.out
        with_reducible refine kc.mono ?_
        clear kc
        rintro e w' ⟨rfl, rfl⟩
        go_wp2_with fail
        have kc := lst_head w c hc
        with_reducible refine kc.mono ?_
        clear kc
        rintro e w' ⟨rfl, rfl⟩
        go_wp2_with fail
        have kc := KX.out
        with_reducible refine kc.mono ?_
        clear kc
        rintro e w' ⟨rfl, rfl⟩
        go_wp2_with fail
        have kc := KV.out
        with_reducible refine kc.mono ?_
        clear kc
        rintro e w' ⟨rfl, rfl⟩
        go_wp2
        go_ret2
        exact ⟨_, rfl, NIL.out _ H.out⟩
      | false =>
        rw [hv] at hm
        have x0 : X ≠ 0 := fun x0 => hm (by rw [x0]; rfl)
        have q1 := HBV.out.trans hv
        have q2 : ((X : Int) != 0) = true := by rw [bne_iff_ne]; omega
        clear hm hv x0
        go_enter Try.func90, Try.ntmps90
        go_wp2_with fail
        have kc := KL.out
        with_reducible refine kc.mono ?_
        clear kc
        rintro e w' ⟨rfl, rfl⟩
        go_wp2_with fail
        have kc := lst_head w c hc
        with_reducible refine kc.mono ?_
        clear kc
        rintro e w' ⟨rfl, rfl⟩
        go_wp2_with fail
        have kc := KX.out
        with_reducible refine kc.mono ?_
        clear kc
        rintro e w' ⟨rfl, rfl⟩
        go_wp2_with fail
        have kc := KV.out
        with_reducible refine kc.mono ?_
        clear kc
        rintro e w' ⟨rfl, rfl⟩
        go_wp2
        go_ret2
        exact ⟨_, rfl, NIL.out _ H.out⟩
    · have hm : bitAt V c = decide (X ≠ 0) := Decidable.not_not.1 hm
      have hr : allB b c = (allFrom b c 1024 X 0).map ([] ++ ·) := by
        rw [HA.out, if_neg (by rw [hm]; simp)]
        cases allFrom b c 1024 X 0 <;> rfl
      obtain ⟨R, hR⟩ : ∃ R, allB b c = R := ⟨_, rfl⟩
      rw [hR] at hr ⊢
      have HR := Lib.hid hr
      have q1 := HBV.out.trans hm
      have q2 : ((X : Int) != 0) = decide (X ≠ 0) := by rw [Bool.eq_iff_iff, bne_iff_ne, decide_eq_true_iff]; omega
      generalize decide (X ≠ 0) = xb at *
      have Q2 := Lib.hid q2
      clear hm hr hR hlen hho
      go_enter Try.func90, Try.ntmps90
      go_wp2_with fail
      have kc := KL.out
      with_reducible refine kc.mono ?_
      clear kc
      rintro e w' ⟨rfl, rfl⟩
      go_wp2_with fail
      have kc := lst_head w c hc
      with_reducible refine kc.mono ?_
      clear kc
      rintro e w' ⟨rfl, rfl⟩
      go_wp2_with fail
      have kc := KX.out
      with_reducible refine kc.mono ?_
      clear kc
      rintro e w' ⟨rfl, rfl⟩
      go_wp2_with fail
      have kc := KV.out
      with_reducible refine kc.mono ?_
      clear kc
      rintro e w' ⟨rfl, rfl⟩
      go_wp2
      clear q1 q2
      go_loopw [6, 7, 8] (fun va vt vo wr => ∃ (f q z : Nat) (L : List Nat), va = .int .u64 q ∧ vt = .int .u64 z ∧ q < 18446744073709551616 ∧ z < 18446744073709551616 ∧ St B w0 wr (IntsO vo L :: l.set i (ArT p ⟨bs, cp, b⟩)) ∧ R = (allFrom b c f q z).map (L ++ ·) ∧ L.length + f = 1024) (fun _ _ vo _ => 2000 - lenOf vo)
      case atStart => exact ⟨1024, X, 0, [], rfl, rfl, hX, by decide, NIL.out _ H.out, HR.out, rfl⟩
      case round =>
        obtain ⟨f, q, z, L, rfl, rfl, hq, hz, hs, hw, hL⟩ := hrel
        obtain ⟨a1, c1, rfl, _⟩ := ints_slice hs (i := 0) rfl
        have HS := Lib.hid hs; have HW := Lib.hid hw
        clear hs hw
        by_cases q0 : q = 0
        · have d0 : ((q : Int) != 0) = false := by rw [q0]; rfl
          have hw : R = some L := by
            rw [HW.out, q0]
            cases f <;> simp [allFrom]
          have HW2 := Lib.hid hw
          clear hw q0
          go_wp2
          go_ret2
          refine ⟨_, by rw [HW2.out]; rfl, ?_⟩
          rw [HW2.out]
          exact HS.out
        · have d0 : ((q : Int) != 0) = true := by rw [bne_iff_ne]; omega
          cases f with
          | zero =>
            have d4 : ((L.length : Int) == 1024) = true := by rw [beq_iff_eq]; omega
            have hw : R = none := by rw [HW.out]; unfold allFrom; rw [if_neg q0]; rfl
            have HW2 := Lib.hid hw
            clear hw q0 hL
            go_wp2
            go_ret2
            refine ⟨_, by rw [HW2.out]; rfl, ?_⟩
            rw [HW2.out]
            exact NIL.out _ HS.out.tail
          | succ f =>
            have d4 : ((L.length : Int) == 1024) = false := by rw [beq_eq_false_iff_ne]; omega
            have hw := HW.out
            unfold allFrom at hw
            rw [if_neg q0] at hw
            have hm := lst_member HS.out (i := i + 1) (at_set hil _) (q : Int) q rfl hq c hc
            cases hmb : memberB b q c with
            | false =>
              rw [if_pos (.inl hmb)] at hw
              rw [show ({ base := bs, cap := cp, b := b } : Ar).b = b from rfl, hmb] at hm
              have HM := Lib.hid hm
              have HW2 := Lib.hid hw
              clear hm hw hmb q0
              go_wp2_with fail
              have kc := HM.out
              with_reducible refine kc.mono ?_
              clear kc
              rintro e w4 ⟨rfl, t4⟩
              have T4 := Lib.hid t4
              clear t4
              go_wp2
              go_ret2
              refine ⟨_, by rw [HW2.out]; rfl, ?_⟩
              rw [HW2.out]
              exact NIL.out _ T4.out.tail
            | true =>
              obtain ⟨x1, x2, x3⟩ := memberB_at hmb
              rw [show ({ base := bs, cap := cp, b := b } : Ar).b = b from rfl, hmb] at hm
              have hY := numAt_lt b (q + 16); have hN := numAt_lt b (q + 8)
              have kw := fun w' (h : St B w0 w' (IntsO (.slice a1 L.length c1) L :: l.set i (ArT p ⟨bs, cp, b⟩))) => lst_word h (i := i + 1) (at_set hil _) ((q : Int) + 16) (q + 16) (by omega) (by omega)
              have kn := fun w' v L (h : St B w0 w' (IntsO v L :: l.set i (ArT p ⟨bs, cp, b⟩))) => lst_word h (i := i + 1) (at_set hil _) ((q : Int) + 8) (q + 8) (by omega) (by omega)
              simp only at kw kn
              have u1 : IntKind.i64.wrap (q : Int) = q := IntWalk.i64_in _ (by omega)
              have m3 : IntKind.i64.wrap ((q : Int) + 16) = (q : Int) + 16 := IntWalk.i64_in _ (by omega)
              have m4 : IntKind.i64.wrap ((q : Int) + 8) = (q : Int) + 8 := IntWalk.i64_in _ (by omega)
              generalize numAt b (q + 16) = Y at *
              generalize numAt b (q + 8) = N at *
              have HM := Lib.hid hm; have KW := Lib.hid kw; have KN := Lib.hid kn
              clear hm kw kn x1 x2 x3
              by_cases e5 : Y = z
              · rw [if_neg (by rw [hmb]; simp [e5])] at hw
                have d5 : ((Y : Int) != (z : Int)) = false := by rw [e5]; simp
                have HW2 := Lib.hid hw
                clear hw hmb q0 e5
                have hL2 : L.length ≤ 1000000 := by omega
                go_wp2_with fail
                have kc := HM.out
                with_reducible refine kc.mono ?_
                clear kc
                rintro e w4 ⟨rfl, t4⟩
                have T4 := Lib.hid t4
                clear t4
                go_wp2_with fail
                have kc := KW.out _ T4.out
                with_reducible refine kc.mono ?_
                clear kc
                rintro e w' ⟨rfl, rfl⟩
                go_wp2_with (at_builtin; go_must (refine ints_app T4.out 0 rfl rfl (.tmp 56) (.tmp 59) rfl rfl (q : Int) q rfl rfl hL2 ?_; intro v6 w6 h6; have H6 := Lib.hid h6; clear h6))
                have kc := KN.out _ _ _ H6.out
                with_reducible refine kc.mono ?_
                clear kc
                rintro e w' ⟨rfl, rfl⟩
                go_wp2
                refine ⟨⟨f, N, q, L ++ [q], rfl, rfl, hN, hq, H6.out, ?_, by rw [List.length_append, List.length_singleton]; omega⟩, ?_⟩
                · rw [HW2.out]
                  simp only [Option.map_map]
                  congr 1
                  funext y
                  simp
                · obtain ⟨a6, c6, e6, _⟩ := ints_slice H6.out (i := 0) rfl
                  rw [e6]
                  simp only [lenOf, List.length_append, List.length_singleton]
                  omega
              · rw [if_pos (.inr e5)] at hw
                have d5 : ((Y : Int) != (z : Int)) = true := by rw [bne_iff_ne]; omega
                have HW2 := Lib.hid hw
                clear hw hmb q0 e5
                go_wp2_with fail
                have kc := HM.out
                with_reducible refine kc.mono ?_
                clear kc
                rintro e w4 ⟨rfl, t4⟩
                have T4 := Lib.hid t4
                clear t4
                go_wp2_with fail
                have kc := KW.out _ T4.out
                with_reducible refine kc.mono ?_
                clear kc
                rintro e w' ⟨rfl, rfl⟩
                go_wp2
                go_ret2
                refine ⟨_, by rw [HW2.out]; rfl, ?_⟩
                rw [HW2.out]
                exact NIL.out _ T4.out.tail
end
end Go.Proofs.Ytjijniillehfoaa

/- Blocks that are set one behind the other tile the bytes. No program. -/
namespace Go.Own
/-- Both tags laid: there the block is. -/
theorem blkAt_setB {b : List UInt8} {o s : Nat} {u : Bool} (h1 : 184 ≤ o) (h2 : o % 16 = 8) (h3 : isSize s = true) (h4 : o + s ≤ b.length) : blkAt (setB b ⟨o, s, u⟩) o = some ⟨o, s, u⟩ := by
  have hs := (isSize_iff _).1 h3
  have hr := tagOf_rng s u
  have hT : tagB ⟨o, s, u⟩ = (tagOf s u).toNat := rfl
  have hl1 : (layAt b o (tagB ⟨o, s, u⟩)).length = b.length := layAt_length b o _ (by omega)
  refine blkAt_mk h1 h2 h3 ?_ ?_ ?_
  · rw [setB_length b ⟨o, s, u⟩ (by show 16 ≤ s; omega) (by show o + s ≤ _; omega)]; exact h4
  · show numAt (layAt (layAt b o (tagB ⟨o, s, u⟩)) (o + s - 8) (tagB ⟨o, s, u⟩)) o = _
    rw [numAt_far _ _ _ _ (by rw [hl1]; omega) (by omega), numAt_same _ _ _ (by omega) (by rw [hT]; omega), hT]
  · show numAt (layAt (layAt b o (tagB ⟨o, s, u⟩)) (o + s - 8) (tagB ⟨o, s, u⟩)) (o + s - 8) = _
    rw [numAt_same _ _ _ (by rw [hl1]; omega) (by rw [hT]; omega), hT]
/-- A block ahead of its end. -/
theorem aheadB_of {b : List UInt8} {o : Nat} {x : Blk} (h : blkAt b o = some x) : aheadB b (o + x.size) = some x := by
  obtain ⟨x1, x2, x3, x4, x5, x6, x7, x8, x9, x10, x11, x12⟩ := blkAt_some h
  have hn : numAt b (o + x.size - 8) = numAt b o := x11
  unfold aheadB
  rw [hn, if_pos ⟨by omega, by omega, x8⟩]
  have hS : (tagS ((numAt b o : Nat) : Int)).toNat = x.size := by rw [← x9]; exact Int.toNat_natCast _
  rw [hS, show o + x.size - x.size = o by omega, h]
  simp only
  rw [if_pos ⟨by omega, trivial, x10⟩]
/-- Where blocks end that begin at o. -/
def endOf (o : Nat) : List Blk → Nat
  | [] => o
  | x :: l => endOf (o + x.size) l
/-- One behind the other from o on, each of a size. -/
def Chain (o : Nat) : List Blk → Prop
  | [] => True
  | x :: l => x.off = o ∧ isSize x.size = true ∧ Chain (o + x.size) l
theorem endOf_append : ∀ (l1 l2 : List Blk) (o : Nat), endOf o (l1 ++ l2) = endOf (endOf o l1) l2
  | [], _, _ => rfl
  | x :: l1, l2, o => endOf_append l1 l2 (o + x.size)
theorem endOf_snoc (l : List Blk) (x : Blk) (o : Nat) : endOf o (l ++ [x]) = endOf o l + x.size := by rw [endOf_append]; rfl
theorem Chain.append : ∀ {l1 l2 : List Blk} {o : Nat}, Chain o (l1 ++ l2) ↔ Chain o l1 ∧ Chain (endOf o l1) l2
  | [], _, _ => ⟨fun h => ⟨trivial, h⟩, fun h => h.2⟩
  | x :: l1, l2, o => by
    simp only [List.cons_append, Chain, endOf, Chain.append (l1 := l1)]
    exact ⟨fun ⟨a, b, c, d⟩ => ⟨⟨a, b, c⟩, d⟩, fun ⟨⟨a, b, c⟩, d⟩ => ⟨a, b, c, d⟩⟩
theorem Chain.snoc {l : List Blk} {o : Nat} {x : Blk} (h : Chain o l) (h1 : x.off = endOf o l) (h2 : isSize x.size = true) : Chain o (l ++ [x]) := Chain.append.2 ⟨h, h1, h2, trivial⟩
theorem endOf_ge : ∀ (l : List Blk) (o : Nat), o ≤ endOf o l
  | [], _ => Nat.le_refl _
  | x :: l, o => Nat.le_trans (Nat.le_add_right _ _) (endOf_ge l (o + x.size))
theorem Chain.mod : ∀ {l : List Blk} {o : Nat}, Chain o l → o % 16 = 8 → endOf o l % 16 = 8
  | [], _, _, h => h
  | x :: l, o, h, h8 => by
    have := (isSize_iff _).1 h.2.1
    exact (show endOf (o + x.size) l % 16 = 8 from Chain.mod h.2.2 (by omega))
theorem Chain.mem {x : Blk} : ∀ {l : List Blk} {o : Nat}, Chain o l → x ∈ l → o ≤ x.off ∧ isSize x.size = true ∧ x.off + x.size ≤ endOf o l
  | [], _, _, h => by cases h
  | y :: l, o, h, hx => by
    rcases List.mem_cons.1 hx with rfl | hx
    · have := endOf_ge l (o + x.size)
      refine ⟨Nat.le_of_eq h.1.symm, h.2.1, ?_⟩
      rw [h.1]; exact this
    · obtain ⟨a, b, c⟩ := Chain.mem h.2.2 hx
      exact ⟨by omega, b, c⟩
theorem Chain.at : ∀ {l : List Blk} {o : Nat} (k : Nat) (hk : k < l.length), Chain o l → l[k].off = endOf o (l.take k)
  | [], _, k, hk, _ => absurd hk (by simp)
  | y :: l, o, 0, hk, h => h.1
  | y :: l, o, k + 1, hk, h => Chain.at (l := l) (o := o + y.size) k (by simpa using hk) h.2.2
theorem endOf_take_le : ∀ (l : List Blk) (o k : Nat), endOf o (l.take k) ≤ endOf o l
  | [], _, k => by rw [List.take_nil]; exact Nat.le_refl _
  | y :: l, o, 0 => endOf_ge (y :: l) o
  | y :: l, o, k + 1 => endOf_take_le l (o + y.size) k
def setAll (b : List UInt8) : List Blk → List UInt8
  | [] => b
  | x :: l => setAll (setB b x) l
theorem setAll_append : ∀ (l1 l2 : List Blk) (b : List UInt8), setAll b (l1 ++ l2) = setAll (setAll b l1) l2
  | [], _, _ => rfl
  | x :: l1, l2, b => setAll_append l1 l2 (setB b x)
theorem setB_touch {T : Nat → Prop} (b : List UInt8) (x : Blk) (h1 : 16 ≤ x.size) (h2 : x.off + x.size ≤ b.length) (t1 : T x.off) (t2 : T (x.off + x.size - 8)) : Touch T b (setB b x) :=
  (Touch.lay b x.off (tagB x) (by omega) t1).trans (Touch.lay _ _ (tagB x) (by rw [layAt_length _ _ _ (by omega)]; omega) t2)
theorem Chain.touch : ∀ {l : List Blk} {o : Nat} {b : List UInt8}, Chain o l → endOf o l ≤ b.length → Touch (fun t => o ≤ t) b (setAll b l)
  | [], _, _, _, _ => Touch.refl _ _
  | x :: l, o, b, h, he => by
    have hs := (isSize_iff _).1 h.2.1
    have hg := endOf_ge l (o + x.size)
    have he : endOf (o + x.size) l ≤ b.length := he
    have h1 : x.off = o := h.1
    have t1 : Touch (fun t => o ≤ t) b (setB b x) := setB_touch b x (by omega) (by omega) (show o ≤ x.off by omega) (show o ≤ x.off + x.size - 8 by omega)
    have t2 := Chain.touch (b := setB b x) h.2.2 (by rw [t1.len]; exact he)
    exact t1.trans (t2.mono fun t ht => by omega)
theorem Chain.setAll_length {l : List Blk} {o : Nat} {b : List UInt8} (h : Chain o l) (he : endOf o l ≤ b.length) : (setAll b l).length = b.length := (h.touch he).len
theorem Chain.tile : ∀ {l : List Blk} {o : Nat} {b : List UInt8}, Chain o l → 184 ≤ o → o % 16 = 8 → endOf o l = b.length → Tile (setAll b l) o l
  | [], _, _, _, _, _, he => he
  | x :: l, o, b, h, h1, h8, he => by
    have hs := (isSize_iff _).1 h.2.1
    have hg := endOf_ge l (o + x.size)
    have he : endOf (o + x.size) l = b.length := he
    have hl := setB_length b x (by omega) (by rw [h.1]; omega)
    refine ⟨?_, Chain.tile h.2.2 (by omega) (by omega) (by rw [hl]; exact he)⟩
    obtain ⟨xo, xs, xu⟩ := x
    obtain rfl : xo = o := h.1
    simp only at hs hg he hl
    have t2 : Touch (fun t => xo + xs ≤ t) (setB b ⟨xo, xs, xu⟩) (setAll (setB b ⟨xo, xs, xu⟩) l) := Chain.touch (b := setB b ⟨xo, xs, xu⟩) h.2.2 (by rw [hl]; exact Nat.le_of_eq he)
    exact blkAt_touch t2 (blkAt_setB h1 h8 h.2.1 (by omega)) fun t ht => by simp only; omega
theorem Tile.chain {b : List UInt8} : ∀ {l : List Blk} {o : Nat}, Tile b o l → Chain o l ∧ endOf o l = b.length
  | [], _, h => ⟨trivial, h⟩
  | x :: l, o, h => by
    have hx := blkAt_some h.1
    obtain ⟨a, b⟩ := Tile.chain h.2
    exact ⟨⟨hx.1, blkAt_isSize h.1, a⟩, b⟩
end Go.Own

/- Blocks, lists, bytes of an arena that is right: a gap between blocks, what is taken out of a list and put in, a gap that is closed. No program. -/
namespace Go.Own
/-- Blocks one behind the other, from o to e. -/
def TileTo (b : List UInt8) (e : Nat) : Nat → List Blk → Prop
  | o, [] => o = e
  | o, x :: r => blkAt b o = some x ∧ TileTo b e (o + x.size) r
theorem tile_to {b : List UInt8} : ∀ {l : List Blk} {o : Nat}, Tile b o l ↔ TileTo b b.length o l
  | [], _ => Iff.rfl
  | x :: l, o => by simp only [Tile, TileTo, tile_to (l := l)]
theorem TileTo.append {b : List UInt8} {e : Nat} : ∀ {l1 l2 : List Blk} {o : Nat}, TileTo b e o (l1 ++ l2) ↔ ∃ m, TileTo b m o l1 ∧ TileTo b e m l2
  | [], l2, o => ⟨fun h => ⟨o, rfl, h⟩, fun ⟨m, h1, h2⟩ => by have h1 : o = m := h1; rw [h1]; exact h2⟩
  | x :: l1, l2, o => by
    simp only [List.cons_append, TileTo, TileTo.append (l1 := l1)]
    exact ⟨fun ⟨a, m, c, d⟩ => ⟨m, ⟨a, c⟩, d⟩, fun ⟨m, ⟨a, c⟩, d⟩ => ⟨a, m, c, d⟩⟩
theorem TileTo.le {b : List UInt8} {e : Nat} : ∀ {l : List Blk} {o : Nat}, TileTo b e o l → o ≤ e
  | [], _, h => Nat.le_of_eq h
  | _ :: _, _, h => Nat.le_trans (Nat.le_add_right _ _) (TileTo.le h.2)
theorem TileTo.mem {b : List UInt8} {e : Nat} {x : Blk} : ∀ {l : List Blk} {o : Nat}, TileTo b e o l → x ∈ l → o ≤ x.off ∧ blkAt b x.off = some x ∧ x.off + x.size ≤ e
  | [], _, _, h => by cases h
  | y :: r, o, ht, h => by
    have hy := blkAt_some ht.1
    rcases List.mem_cons.1 h with rfl | h
    · have := ht.2.le; rw [hy.1]; exact ⟨Nat.le_refl _, ht.1, by omega⟩
    · have := ht.2.mem h; exact ⟨by omega, this.2⟩
theorem TileTo.apart {b : List UInt8} {e : Nat} {x y : Blk} : ∀ {l : List Blk} {o : Nat}, TileTo b e o l → x ∈ l → y ∈ l → x = y ∨ x.off + x.size ≤ y.off ∨ y.off + y.size ≤ x.off
  | [], _, _, h, _ => by cases h
  | z :: r, o, ht, hx, hy => by
    have hz := blkAt_some ht.1
    rcases List.mem_cons.1 hx with e1 | h1 <;> rcases List.mem_cons.1 hy with e2 | h2
    · exact .inl (e1.trans e2.symm)
    · subst e1; have := ht.2.mem h2; exact .inr (.inl (by omega))
    · subst e2; have := ht.2.mem h1; exact .inr (.inr (by omega))
    · exact ht.2.apart h1 h2
theorem TileTo.mod {b : List UInt8} {e : Nat} : ∀ {l : List Blk} {o : Nat}, TileTo b e o l → o % 16 = 8 → e % 16 = 8
  | [], _, h, h8 => by have h : _ = e := h; omega
  | x :: l, o, h, h8 => by have := blkAt_some h.1; exact TileTo.mod h.2 (by omega)
theorem TileTo.touch {T : Nat → Prop} {b b' : List UInt8} (ht : Touch T b b') {e : Nat} : ∀ {l : List Blk} {o : Nat}, TileTo b e o l → (∀ x ∈ l, ∀ t, T t → (x.off + 8 ≤ t ∨ t + 8 ≤ x.off) ∧ (x.off + x.size ≤ t ∨ t + 8 ≤ x.off + x.size - 8)) → TileTo b' e o l
  | [], _, h, _ => h
  | x :: l, o, h, hf => by
    have hx := (blkAt_some h.1).1
    refine ⟨blkAt_touch ht h.1 fun t h3 => ?_, TileTo.touch ht h.2 fun y hy => hf y (List.mem_cons_of_mem _ hy)⟩
    have := hf x (List.mem_cons_self ..) t h3
    rw [hx] at this; exact this
/-- The lists hang on the header's words and on the link words of what is in them. -/
theorem Lists.frame {b b' : List UInt8} {bs bs' : List Blk} {ls : Nat → List Nat} (h : Lists b bs ls) (hh : ∀ t, t + 8 ≤ 184 → t % 8 = 0 → numAt b' t = numAt b t)
    (hl : ∀ c, c < 22 → ∀ o ∈ ls c, numAt b' (o + 8) = numAt b (o + 8) ∧ numAt b' (o + 16) = numAt b (o + 16))
    (hm : ∀ c, c < 22 → ∀ o ∈ ls c, ∃ x ∈ bs', x.off = o ∧ x.used = false ∧ cls x.size = c) : Lists b' bs' ls where
  w0 := by rw [hh 0 (by omega) rfl]; exact h.w0
  bit := fun c hc => by rw [hh 0 (by omega) rfl]; exact h.bit c hc
  seg := fun c hc => by
    obtain ⟨z, hz⟩ := h.seg c hc
    rw [hh (headO c) (by unfold headO; omega) (by unfold headO; omega)]
    exact ⟨z, hz.frame (hl c hc)⟩
  mem := hm
  nodup := h.nodup
theorem Lists.mono {b : List UInt8} {bs bs' : List Blk} {ls : Nat → List Nat} (h : Lists b bs ls) (hm : ∀ c, c < 22 → ∀ o ∈ ls c, ∃ x ∈ bs', x.off = o ∧ x.used = false ∧ cls x.size = c) : Lists b bs' ls :=
  h.frame (fun _ _ _ => rfl) (fun _ _ _ _ => ⟨rfl, rfl⟩) hm
def clsN (s : Nat) : Nat := (cls s).toNat
theorem clsN_lt {b : List UInt8} {o : Nat} {x : Blk} (h : blkAt b o = some x) : clsN x.size < 22 ∧ cls x.size = clsN x.size := by
  have := cls_size (blkAt_isSize h)
  unfold clsN; omega
def outL (ls : Nat → List Nat) (c o : Nat) : Nat → List Nat := fun d => if d = c then (ls c).filter (· ≠ o) else ls d
def inL (ls : Nat → List Nat) (c o : Nat) : Nat → List Nat := fun d => if d = c then o :: ls c else ls d
/-- The used ones of blocks. -/
def usedOf (bs : List Blk) : List Blk := bs.filter (·.used)
theorem mem_usedOf {bs : List Blk} {x : Blk} : x ∈ usedOf bs ↔ x ∈ bs ∧ x.used = true := by unfold usedOf; rw [List.mem_filter]
/-- A word that has no byte of these blocks. -/
def Spare (us : List Blk) (t : Nat) : Prop := ∀ y ∈ us, t + 8 ≤ y.off ∨ y.off + y.size ≤ t
/-- All bytes of these blocks are as they were. -/
def SameU (us : List Blk) (b b' : List UInt8) : Prop := ∀ y ∈ us, (b'.drop y.off).take y.size = (b.drop y.off).take y.size
theorem SameU.refl (us : List Blk) (b : List UInt8) : SameU us b b := fun _ _ => rfl
theorem SameU.trans {us : List Blk} {a b c : List UInt8} (h : SameU us a b) (k : SameU us b c) : SameU us a c := fun y hy => (k y hy).trans (h y hy)
theorem SameU.of {us : List Blk} {T : Nat → Prop} {b b' : List UInt8} (h : Touch T b b') (ht : ∀ t, T t → Spare us t) : SameU us b b' := fun y hy => h.same _ _ fun t h1 => (ht t h1 y hy).symm
theorem SameU.mono {us vs : List Blk} {b b' : List UInt8} (h : SameU us b b') (hv : ∀ y ∈ vs, y ∈ us) : SameU vs b b' := fun y hy => h y (hv y hy)
/-- An arena that is right: its blocks, its lists. -/
structure Right (b : List UInt8) (bs : List Blk) (ls : Nat → List Nat) : Prop where
  max : b.length ≤ 16384
  tile : TileTo b b.length 184 bs
  lists : Lists b bs ls
  cover : ∀ y ∈ bs, y.used = false → y.off ∈ ls (clsN y.size)
/-- The same, but for a gap from o on, of s bytes, that is no block. -/
structure Hole (b : List UInt8) (pre : List Blk) (o s : Nat) (post : List Blk) (ls : Nat → List Nat) : Prop where
  max : b.length ≤ 16384
  tpre : TileTo b o 184 pre
  size : 32 ≤ s ∧ s % 16 = 0
  tpost : TileTo b b.length (o + s) post
  lists : Lists b (pre ++ post) ls
  cover : ∀ y ∈ pre ++ post, y.used = false → y.off ∈ ls (clsN y.size)
theorem Right.good {b : List UInt8} {bs : List Blk} {ls : Nat → List Nat} (h : Right b bs ls) : Good b bs := (tile_to.2 h.tile).good
theorem Right.len {b : List UInt8} {bs : List Blk} {ls : Nat → List Nat} (h : Right b bs ls) : 184 ≤ b.length := h.tile.le
section
variable {b : List UInt8} {pre post : List Blk} {o s : Nat} {ls : Nat → List Nat}
theorem Hole.at (h : Hole b pre o s post ls) : 184 ≤ o ∧ o % 16 = 8 ∧ o + s ≤ b.length ∧ 184 ≤ b.length := by
  have h1 := h.tpre.le; have h2 := h.tpost.le
  exact ⟨h1, h.tpre.mod (by decide), h2, by have := h.size; omega⟩
theorem Hole.sized (h : Hole b pre o s post ls) : isSize s = true := by
  have h1 := h.size; have h2 := h.max; have h3 := h.at
  exact isSize_yes (by omega)
theorem Hole.side (h : Hole b pre o s post ls) {x : Blk} (hx : x ∈ pre ++ post) : 184 ≤ x.off ∧ blkAt b x.off = some x ∧ x.off + x.size ≤ b.length ∧ (x.off + x.size ≤ o ∨ o + s ≤ x.off) := by
  have h3 := h.at
  rcases List.mem_append.1 hx with hx | hx
  · have := h.tpre.mem hx; exact ⟨by omega, this.2.1, by omega, .inl this.2.2⟩
  · have := h.tpost.mem hx; exact ⟨by omega, this.2.1, this.2.2, .inr this.1⟩
theorem Hole.good (h : Hole b pre o s post ls) : Good b (pre ++ post) where
  mem := fun hx => by have := h.side hx; exact ⟨this.1, this.2.1, this.2.2.1⟩
  apart := fun {x y} hx hy => by
    rcases List.mem_append.1 hx with h1 | h1 <;> rcases List.mem_append.1 hy with h2 | h2
    · exact h.tpre.apart h1 h2
    · have := h.tpre.mem h1; have := h.tpost.mem h2; exact .inr (.inl (by omega))
    · have := h.tpre.mem h2; have := h.tpost.mem h1; exact .inr (.inr (by omega))
    · exact h.tpost.apart h1 h2
theorem LinkW.spare {bs : List Blk} (h : Good b bs) {t : Nat} (ht : LinkW bs t) : Spare (usedOf bs) t := by
  intro y hy
  obtain ⟨hy, hu⟩ := mem_usedOf.1 hy
  have h1 := h.mem hy
  rcases ht with ht | ⟨x, hx, hxu, ht⟩
  · exact .inl (by omega)
  · have h2 := blkAt_some (h.mem hx).2.1
    rcases h.apart hx hy with e | e | e
    · rw [e, hu] at hxu; cases hxu
    · exact .inl (by omega)
    · exact .inr (by omega)
/-- A free block that is taken out of its list. -/
theorem take_free {bs : List Blk} (hg : Good b bs) (hl : 184 ≤ b.length) (h : Lists b bs ls) (hc : ∀ y ∈ bs, y.used = false → y.off ∈ ls (clsN y.size)) {y : Blk} (hy : y ∈ bs) (hu : y.used = false) :
    ∃ b', takeB b y.off = some b' ∧ Touch (LinkW bs) b b' ∧ Lists b' bs (outL ls (clsN y.size) y.off) ∧ ∀ d, d < 22 → ∀ q ∈ outL ls (clsN y.size) y.off d, ∃ x ∈ bs, x ≠ y ∧ x.off = q ∧ x.used = false ∧ cls x.size = d := by
  have hcy := clsN_lt (hg.mem hy).2.1
  obtain ⟨b', h1, h2, h3⟩ := takeB_lists h hg hl hcy.1 (hc y hy hu)
  refine ⟨b', h1, h2, h3, fun d hd q hq => ?_⟩
  obtain ⟨x, hx, e1, e2, e3⟩ := h3.mem d hd q hq
  refine ⟨x, hx, fun e => ?_, e1, e2, e3⟩
  subst e
  have hdc : d = clsN x.size := by omega
  subst hdc
  unfold outL at hq
  rw [if_pos rfl, List.mem_filter] at hq
  simp [e1] at hq
theorem out_cover {bs : List Blk} (hg : Good b bs) (hc : ∀ y ∈ bs, y.used = false → y.off ∈ ls (clsN y.size)) {y z : Blk} (hy : y ∈ bs) (hz : z ∈ bs) (hne : z ≠ y) (hu : z.used = false) : z.off ∈ outL ls (clsN y.size) y.off (clsN z.size) := by
  have h1 := hc z hz hu
  have hoff : z.off ≠ y.off := fun e => by
    have g1 := (hg.mem hz).2.1; have g2 := (hg.mem hy).2.1
    rw [e, g2] at g1
    simp only [Option.some.injEq] at g1
    exact hne g1.symm
  unfold outL
  split
  · rename_i e; rw [e] at h1; rw [List.mem_filter]; exact ⟨h1, by simpa using hoff⟩
  · exact h1
/-- What is behind the gap is free: taken out of its list, the gap has it. -/
theorem Hole.next {y : Blk} (h : Hole b pre o s (y :: post) ls) (hu : y.used = false) :
    ∃ b', takeB b y.off = some b' ∧ y.off = o + s ∧ b'.length = b.length ∧ SameU (usedOf (pre ++ post)) b b' ∧ Hole b' pre o (s + y.size) post (outL ls (clsN y.size) y.off) := by
  have hm : y ∈ pre ++ y :: post := List.mem_append_right _ (List.mem_cons_self ..)
  have hg := h.good
  have hat := h.at
  obtain ⟨b', h1, h2, h3, h4⟩ := take_free hg hat.2.2.2 h.lists h.cover hm hu
  have hys := blkAt_some h.tpost.1
  have hsub : ∀ x ∈ pre ++ post, x ∈ pre ++ y :: post := fun x hx => by
    rcases List.mem_append.1 hx with hx | hx
    · exact List.mem_append_left _ hx
    · exact List.mem_append_right _ (List.mem_cons_of_mem _ hx)
  refine ⟨b', h1, hys.1, h2.len, (SameU.of h2 fun t ht => LinkW.spare hg ht).mono fun z hz => ?_, ?_⟩
  · obtain ⟨hz, hzu⟩ := mem_usedOf.1 hz
    exact mem_usedOf.2 ⟨hsub z hz, hzu⟩
  refine ⟨by rw [h2.len]; exact h.max, h.tpre.touch h2 fun x hx t ht => ht.off hg (List.mem_append_left _ hx), ⟨by have := h.size; omega, by have := h.size; omega⟩, ?_, ?_, fun z hz hzu => ?_⟩
  · rw [h2.len]
    have := (TileTo.touch h2 h.tpost fun x hx t ht => ht.off hg (List.mem_append_right _ hx)).2
    rw [Nat.add_assoc] at this; exact this
  · refine h3.mono fun d hd q hq => ?_
    obtain ⟨x, hx, hne, e⟩ := h4 d hd q hq
    refine ⟨x, ?_, e⟩
    rcases List.mem_append.1 hx with hx | hx
    · exact List.mem_append_left _ hx
    · rcases List.mem_cons.1 hx with hx | hx
      · exact absurd hx hne
      · exact List.mem_append_right _ hx
  · refine out_cover hg h.cover hm (hsub z hz) (fun e => ?_) hzu
    subst e
    have h5 := h.tpost.le
    rcases List.mem_append.1 hz with hz | hz
    · have := h.tpre.mem hz; have := h.size; omega
    · have := h.tpost.2.mem hz; omega
/-- What is ahead of the gap is free: taken out of its list, the gap has it. -/
theorem Hole.prev {y : Blk} (h : Hole b (pre ++ [y]) o s post ls) (hu : y.used = false) :
    ∃ b', takeB b y.off = some b' ∧ y.off + y.size = o ∧ b'.length = b.length ∧ SameU (usedOf (pre ++ post)) b b' ∧ Hole b' pre y.off (y.size + s) post (outL ls (clsN y.size) y.off) := by
  have hm : y ∈ (pre ++ [y]) ++ post := List.mem_append_left _ (List.mem_append_right _ (List.mem_cons_self ..))
  have hg := h.good
  have hat := h.at
  obtain ⟨b', h1, h2, h3, h4⟩ := take_free hg hat.2.2.2 h.lists h.cover hm hu
  obtain ⟨m, hp1, hp2⟩ := TileTo.append.1 h.tpre
  have hys := blkAt_some hp2.1
  have hym : y.off = m := hys.1
  have hyo : m + y.size = o := hp2.2
  have hsub : ∀ x ∈ pre ++ post, x ∈ (pre ++ [y]) ++ post := fun x hx => by
    rcases List.mem_append.1 hx with hx | hx
    · exact List.mem_append_left _ (List.mem_append_left _ hx)
    · exact List.mem_append_right _ hx
  refine ⟨b', h1, by omega, h2.len, (SameU.of h2 fun t ht => LinkW.spare hg ht).mono fun z hz => ?_, ?_⟩
  · obtain ⟨hz, hzu⟩ := mem_usedOf.1 hz
    exact mem_usedOf.2 ⟨hsub z hz, hzu⟩
  refine ⟨by rw [h2.len]; exact h.max, ?_, ⟨by have := h.size; omega, by have := h.size; omega⟩, ?_, ?_, fun z hz hzu => ?_⟩
  · rw [hym]; exact hp1.touch h2 fun x hx t ht => ht.off hg (List.mem_append_left _ (List.mem_append_left _ hx))
  · rw [h2.len, show y.off + (y.size + s) = o + s by omega]
    exact h.tpost.touch h2 fun x hx t ht => ht.off hg (List.mem_append_right _ hx)
  · refine h3.mono fun d hd q hq => ?_
    obtain ⟨x, hx, hne, e⟩ := h4 d hd q hq
    refine ⟨x, ?_, e⟩
    rcases List.mem_append.1 hx with hx | hx
    · rcases List.mem_append.1 hx with hx | hx
      · exact List.mem_append_left _ hx
      · exact absurd (List.mem_singleton.1 hx) hne
    · exact List.mem_append_right _ hx
  · refine out_cover hg h.cover hm (hsub z hz) (fun e => ?_) hzu
    subst e
    rcases List.mem_append.1 hz with hz | hz
    · have := hp1.mem hz; omega
    · have := h.tpost.mem hz; have := h.size; omega
/-- Both tags are laid: the gap is a block. -/
theorem Hole.set (h : Hole b pre o s post ls) (u : Bool) :
    Touch (fun t => o ≤ t ∧ t + 8 ≤ o + s) b (setB b ⟨o, s, u⟩) ∧ TileTo (setB b ⟨o, s, u⟩) b.length 184 (pre ++ ⟨o, s, u⟩ :: post) ∧ Lists (setB b ⟨o, s, u⟩) (pre ++ ⟨o, s, u⟩ :: post) ls ∧ SameU (usedOf (pre ++ post)) b (setB b ⟨o, s, u⟩) := by
  have hat := h.at; have hsz := h.size
  have ht : Touch (fun t => o ≤ t ∧ t + 8 ≤ o + s) b (setB b ⟨o, s, u⟩) := setB_touch b ⟨o, s, u⟩ (by show 16 ≤ s; omega) (by show o + s ≤ _; omega) ⟨Nat.le_refl _, by show o + 8 ≤ _; omega⟩ ⟨by show o ≤ o + s - 8; omega, by show o + s - 8 + 8 ≤ _; omega⟩
  have hoff : ∀ x ∈ pre ++ post, ∀ t, (o ≤ t ∧ t + 8 ≤ o + s) → (x.off + 8 ≤ t ∨ t + 8 ≤ x.off) ∧ (x.off + x.size ≤ t ∨ t + 8 ≤ x.off + x.size - 8) := fun x hx t ht => by
    have h1 := h.side hx; have h2 := blkAt_some h1.2.1; omega
  refine ⟨ht, TileTo.append.2 ⟨o, h.tpre.touch ht fun x hx => hoff x (List.mem_append_left _ hx), blkAt_setB hat.1 hat.2.1 h.sized hat.2.2.1, h.tpost.touch ht fun x hx => hoff x (List.mem_append_right _ hx)⟩, ?_, SameU.of ht fun t h1 y hy => ?_⟩
  · refine h.lists.frame (fun t h1 _ => ht.num t fun t' h2 => by omega) (fun c hc q hq => ?_) (fun c hc q hq => ?_)
    · obtain ⟨x, hx, rfl, _⟩ := h.lists.mem c hc q hq
      have h1 := h.side hx; have h2 := blkAt_some h1.2.1
      exact ⟨ht.num _ fun t' h3 => by omega, ht.num _ fun t' h3 => by omega⟩
    · obtain ⟨x, hx, e⟩ := h.lists.mem c hc q hq
      refine ⟨x, ?_, e⟩
      rcases List.mem_append.1 hx with hx | hx
      · exact List.mem_append_left _ hx
      · exact List.mem_append_right _ (List.mem_cons_of_mem _ hx)
  · have := h.side (mem_usedOf.1 hy).1; omega
theorem Hole.close (h : Hole b pre o s post ls) : Right (setB b ⟨o, s, true⟩) (pre ++ ⟨o, s, true⟩ :: post) ls := by
  obtain ⟨h1, h2, h3, _⟩ := h.set true
  refine ⟨by rw [h1.len]; exact h.max, by rw [h1.len]; exact h2, h3, fun y hy hu => ?_⟩
  refine h.cover y ?_ hu
  rcases List.mem_append.1 hy with hy | hy
  · exact List.mem_append_left _ hy
  · rcases List.mem_cons.1 hy with rfl | hy
    · cases hu
    · exact List.mem_append_right _ hy
/-- The gap is a free block, the first of its list. -/
theorem Hole.put (h : Hole b pre o s post ls) :
    ∃ b', putB (setB b ⟨o, s, false⟩) o = some b' ∧ b'.length = b.length ∧ SameU (usedOf (pre ++ post)) b b' ∧ Right b' (pre ++ ⟨o, s, false⟩ :: post) (inL ls (clsN s) o) := by
  obtain ⟨h1, h2, h3, h4⟩ := h.set false
  have hg : Good (setB b ⟨o, s, false⟩) (pre ++ ⟨o, s, false⟩ :: post) := (tile_to.2 (by rw [h1.len]; exact h2)).good
  have hm : (⟨o, s, false⟩ : Blk) ∈ pre ++ ⟨o, s, false⟩ :: post := List.mem_append_right _ (List.mem_cons_self ..)
  have hc := clsN_lt (hg.mem hm).2.1
  have hat := h.at
  have hno : o ∉ ls (clsN s) := fun hq => by
    obtain ⟨x, hx, e, _⟩ := h.lists.mem _ hc.1 _ hq
    have g1 := h.side hx; have g2 := blkAt_some g1.2.1; have := h.size; omega
  obtain ⟨b', p1, p2, p3⟩ := putB_lists h3 hg (by rw [h1.len]; exact hat.2.2.2) (by rw [h1.len]; exact h.max) hc.1 hm rfl hc.2 hno
  have hlen : b'.length = b.length := p2.len.trans h1.len
  refine ⟨b', p1, hlen, h4.trans ((SameU.of p2 fun t ht => LinkW.spare hg ht).mono fun y hy => ?_), by rw [hlen]; exact h.max, ?_, p3, fun y hy hu => ?_⟩
  · obtain ⟨hy, hu⟩ := mem_usedOf.1 hy
    refine mem_usedOf.2 ⟨?_, hu⟩
    rcases List.mem_append.1 hy with hy | hy
    · exact List.mem_append_left _ hy
    · exact List.mem_append_right _ (List.mem_cons_of_mem _ hy)
  · rw [hlen]
    exact TileTo.touch p2 h2 fun x hx t ht => ht.off hg hx
  · have hy' : y = ⟨o, s, false⟩ ∨ y ∈ pre ++ post := by
      rcases List.mem_append.1 hy with hy | hy
      · exact .inr (List.mem_append_left _ hy)
      · rcases List.mem_cons.1 hy with hy | hy
        · exact .inl hy
        · exact .inr (List.mem_append_right _ hy)
    unfold inL
    rcases hy' with rfl | hy'
    · rw [if_pos rfl]; exact List.mem_cons_self ..
    · have := h.cover y hy' hu
      split
      · rename_i e; rw [e] at this; exact List.mem_cons_of_mem _ this
      · exact this
end
section
variable {b : List UInt8} {pre post : List Blk} {x : Blk} {ls : Nat → List Nat}
/-- A used block, told as a gap. -/
theorem Right.hole (h : Right b (pre ++ x :: post) ls) (hu : x.used = true) : Hole b pre x.off x.size post ls := by
  obtain ⟨m, h1, h2⟩ := TileTo.append.1 h.tile
  have hx := blkAt_some h2.1
  have hm : x.off = m := hx.1
  have hsub : ∀ y ∈ pre ++ post, y ∈ pre ++ x :: post := fun y hy => by
    rcases List.mem_append.1 hy with hy | hy
    · exact List.mem_append_left _ hy
    · exact List.mem_append_right _ (List.mem_cons_of_mem _ hy)
  refine ⟨h.max, by rw [hm]; exact h1, by omega, by rw [hm]; exact h2.2, h.lists.mono fun c hc q hq => ?_, fun y hy => h.cover y (hsub y hy)⟩
  obtain ⟨y, hy, e1, e2, e3⟩ := h.lists.mem c hc q hq
  refine ⟨y, ?_, e1, e2, e3⟩
  rcases List.mem_append.1 hy with hy | hy
  · exact List.mem_append_left _ hy
  · rcases List.mem_cons.1 hy with rfl | hy
    · rw [hu] at e2; cases e2
    · exact List.mem_append_right _ hy
/-- A free block that is taken out of its list is a gap. -/
theorem Right.take (h : Right b (pre ++ x :: post) ls) (hu : x.used = false) :
    ∃ b', takeB b x.off = some b' ∧ b'.length = b.length ∧ SameU (usedOf (pre ++ post)) b b' ∧ Hole b' pre x.off x.size post (outL ls (clsN x.size) x.off) ∧ blkAt b' x.off = some x := by
  have hm : x ∈ pre ++ x :: post := List.mem_append_right _ (List.mem_cons_self ..)
  have hg := h.good
  obtain ⟨b', h1, h2, h3, h4⟩ := take_free hg h.len h.lists h.cover hm hu
  have ht := TileTo.touch h2 h.tile fun y hy t ht => ht.off hg hy
  obtain ⟨m, t1, t2⟩ := TileTo.append.1 ht
  have hx := blkAt_some t2.1
  have hxm : x.off = m := hx.1
  have hsub : ∀ y ∈ pre ++ post, y ∈ pre ++ x :: post := fun y hy => by
    rcases List.mem_append.1 hy with hy | hy
    · exact List.mem_append_left _ hy
    · exact List.mem_append_right _ (List.mem_cons_of_mem _ hy)
  refine ⟨b', h1, h2.len, (SameU.of h2 fun t ht => LinkW.spare hg ht).mono fun z hz => ?_, ⟨by rw [h2.len]; exact h.max, by rw [hxm]; exact t1, by omega, by rw [hxm, h2.len]; exact t2.2, ?_, fun z hz hzu => ?_⟩, by rw [hxm]; exact t2.1⟩
  · obtain ⟨hz, hzu⟩ := mem_usedOf.1 hz
    exact mem_usedOf.2 ⟨hsub z hz, hzu⟩
  · refine h3.mono fun d hd q hq => ?_
    obtain ⟨y, hy, hne, e⟩ := h4 d hd q hq
    refine ⟨y, ?_, e⟩
    rcases List.mem_append.1 hy with hy | hy
    · exact List.mem_append_left _ hy
    · rcases List.mem_cons.1 hy with hy | hy
      · exact absurd hy hne
      · exact List.mem_append_right _ hy
  · refine out_cover hg h.cover hm (hsub z hz) (fun e => ?_) hzu
    subst e
    rcases List.mem_append.1 hz with hz | hz
    · have := t1.mem hz; omega
    · have := t2.2.mem hz; omega
/-- A gap is cut in two; the first part is a block. -/
theorem Hole.cut {o s n : Nat} (h : Hole b pre o s post ls) (hn : isSize n = true) (hr : n + 32 ≤ s) :
    Hole (setB b ⟨o, n, true⟩) (pre ++ [⟨o, n, true⟩]) (o + n) (s - n) post ls ∧ SameU (usedOf (pre ++ post)) b (setB b ⟨o, n, true⟩) ∧ (setB b ⟨o, n, true⟩).length = b.length := by
  have hat := h.at; have hsz := h.size
  have hn' := (isSize_iff _).1 hn
  have ht : Touch (fun t => o ≤ t ∧ t + 8 ≤ o + s) b (setB b ⟨o, n, true⟩) := setB_touch b ⟨o, n, true⟩ (by show 16 ≤ n; omega) (by show o + n ≤ _; omega) ⟨Nat.le_refl _, by show o + 8 ≤ _; omega⟩ ⟨by show o ≤ o + n - 8; omega, by show o + n - 8 + 8 ≤ _; omega⟩
  have hoff : ∀ x ∈ pre ++ post, ∀ t, (o ≤ t ∧ t + 8 ≤ o + s) → (x.off + 8 ≤ t ∨ t + 8 ≤ x.off) ∧ (x.off + x.size ≤ t ∨ t + 8 ≤ x.off + x.size - 8) := fun x hx t ht => by
    have h1 := h.side hx; have h2 := blkAt_some h1.2.1; omega
  refine ⟨⟨by rw [ht.len]; exact h.max, TileTo.append.2 ⟨o, h.tpre.touch ht fun x hx => hoff x (List.mem_append_left _ hx), blkAt_setB hat.1 hat.2.1 hn (by omega), rfl⟩, by omega, ?_, ?_, fun y hy hu => ?_⟩, SameU.of ht fun t h1 y hy => ?_, ht.len⟩
  · rw [ht.len, show o + n + (s - n) = o + s by omega]
    exact h.tpost.touch ht fun x hx => hoff x (List.mem_append_right _ hx)
  · refine h.lists.frame (fun t h1 _ => ht.num t fun t' h2 => by omega) (fun c hc q hq => ?_) (fun c hc q hq => ?_)
    · obtain ⟨x, hx, rfl, _⟩ := h.lists.mem c hc q hq
      have h1 := h.side hx; have h2 := blkAt_some h1.2.1
      exact ⟨ht.num _ fun t' h3 => by omega, ht.num _ fun t' h3 => by omega⟩
    · obtain ⟨x, hx, e⟩ := h.lists.mem c hc q hq
      refine ⟨x, ?_, e⟩
      rcases List.mem_append.1 hx with hx | hx
      · exact List.mem_append_left _ (List.mem_append_left _ hx)
      · exact List.mem_append_right _ hx
  · refine h.cover y ?_ hu
    rcases List.mem_append.1 hy with hy | hy
    · rcases List.mem_append.1 hy with hy | hy
      · exact List.mem_append_left _ hy
      · rw [List.mem_singleton.1 hy] at hu; cases hu
    · exact List.mem_append_right _ hy
  · have := h.side (mem_usedOf.1 hy).1; omega
end
end Go.Own

/- Which free block is found, in plain words. No program. -/
namespace Go.Own
/-- The size of the block at a place; 0: none is there. -/
def sizeAt (bs : List Blk) (o : Nat) : Nat := match bs.find? (fun x => x.off == o) with
  | some x => x.size
  | none => 0
theorem find_off {b : List UInt8} {bs : List Blk} (hg : Good b bs) {x : Blk} (hx : x ∈ bs) : bs.find? (fun y => y.off == x.off) = some x := by
  cases h : bs.find? (fun y => y.off == x.off) with
  | none =>
    have := List.find?_eq_none.1 h x hx
    simp at this
  | some y =>
    have h1 := List.find?_some h
    have h2 := List.mem_of_find?_eq_some h
    have e : y.off = x.off := by simpa using h1
    have g1 := (hg.mem h2).2.1; have g2 := (hg.mem hx).2.1
    rw [e, g2] at g1
    exact g1.symm
theorem sizeAt_mem {b : List UInt8} {bs : List Blk} (hg : Good b bs) {x : Blk} (hx : x ∈ bs) : sizeAt bs x.off = x.size := by
  unfold sizeAt; rw [find_off hg hx]
/-- Of so many classes from c on, the first block in a list that is large enough. -/
def findIn (bs : List Blk) (ls : Nat → List Nat) (size : Nat) : Nat → Nat → Option Nat
  | 0, _ => none
  | f + 1, c => match (ls c).find? (fun o => decide (size ≤ sizeAt bs o)) with
    | some o => some o
    | none => findIn bs ls size f (c + 1)
theorem findIn_some {bs : List Blk} {ls : Nat → List Nat} {size o : Nat} : ∀ {f c : Nat}, findIn bs ls size f c = some o → ∃ d, c ≤ d ∧ d < c + f ∧ o ∈ ls d ∧ size ≤ sizeAt bs o
  | 0, _, h => by cases h
  | f + 1, c, h => by
    unfold findIn at h
    split at h
    · rename_i o' e
      simp only [Option.some.injEq] at h
      subst h
      have h1 := List.find?_some e
      exact ⟨c, Nat.le_refl _, by omega, List.mem_of_find?_eq_some e, by simpa using h1⟩
    · obtain ⟨d, h1, h2, h3⟩ := findIn_some h
      exact ⟨d, by omega, by omega, h3⟩
theorem findIn_none {bs : List Blk} {ls : Nat → List Nat} {size : Nat} : ∀ {f c : Nat}, findIn bs ls size f c = none → ∀ d, c ≤ d → d < c + f → ∀ o ∈ ls d, ¬ size ≤ sizeAt bs o
  | 0, _, _, d, h1, h2, _, _ => by omega
  | f + 1, c, h, d, h1, h2, o, ho => by
    unfold findIn at h
    split at h
    · cases h
    · rename_i e
      by_cases hd : d = c
      · subst hd
        have := List.find?_eq_none.1 e o ho
        simpa using this
      · exact findIn_none h d (by omega) (by omega) o ho
theorem firstFit_find {b : List UInt8} {bs : List Blk} (hg : Good b bs) {size : Nat} : ∀ (l : List Nat), (∀ o ∈ l, ∃ x ∈ bs, x.off = o) → firstFit b size l = l.find? (fun o => decide (size ≤ sizeAt bs o))
  | [], _ => rfl
  | o :: l, h => by
    obtain ⟨x, hx, rfl⟩ := h o (List.mem_cons_self ..)
    have ih := firstFit_find hg (size := size) l fun o ho => h o (List.mem_cons_of_mem _ ho)
    unfold firstFit
    rw [(hg.mem hx).2.1, List.find?_cons, sizeAt_mem hg hx]
    simp only
    by_cases hs : size ≤ x.size
    · rw [if_pos hs, decide_eq_true hs]
    · rw [if_neg hs, decide_eq_false hs]; exact ih
theorem findFrom_in {b : List UInt8} {bs : List Blk} {ls : Nat → List Nat} (hl : Lists b bs ls) (hg : Good b bs) (h1 : 184 ≤ b.length) (h2 : b.length ≤ 16384) {size : Nat} : ∀ (f c : Nat), c + f ≤ 22 → findFrom b size f c = some ((findIn bs ls size f c).getD 0)
  | 0, _, _ => rfl
  | f + 1, c, hc => by
    unfold findFrom findIn
    rw [hl.all hg h1 h2 (by omega)]
    simp only
    rw [firstFit_find hg (ls c) fun o ho => by
      obtain ⟨x, hx, e, _⟩ := hl.mem c (by omega) o ho
      exact ⟨x, hx, e⟩]
    cases (ls c).find? (fun o => decide (size ≤ sizeAt bs o)) with
    | some o => rfl
    | none => exact findFrom_in hl hg h1 h2 f (c + 1) (by omega)
/-- Where a block with so many bytes is found. -/
def findL (bs : List Blk) (ls : Nat → List Nat) (size : Nat) : Option Nat := findIn bs ls size (22 - clsN size) (clsN size)
theorem clsN_mono {s t : Nat} (hs : isSize s = true) (ht : isSize t = true) (h : s ≤ t) : clsN s ≤ clsN t := by
  have h1 := (isSize_iff _).1 hs; have h2 := (isSize_iff _).1 ht
  unfold clsN cls; rw [hs, ht]; simp only [if_true]
  repeat' split
  all_goals omega
theorem clsN_lt22 {s : Nat} (hs : isSize s = true) : clsN s < 22 := by have := cls_size hs; unfold clsN; omega
theorem findB_right {b : List UInt8} {bs : List Blk} {ls : Nat → List Nat} (h : Right b bs ls) {size : Nat} (hs : isSize size = true) : findB b size = some ((findL bs ls size).getD 0) := by
  have hc := clsN_lt22 hs
  have := findFrom_in h.lists h.good h.len h.max (size := size) (22 - clsN size) (clsN size) (by omega)
  exact this
/-- What is found is free, and has so many bytes. -/
theorem findL_some {b : List UInt8} {bs : List Blk} {ls : Nat → List Nat} (h : Right b bs ls) {size o : Nat} (hs : isSize size = true) (hf : findL bs ls size = some o) : ∃ x ∈ bs, x.off = o ∧ x.used = false ∧ size ≤ x.size ∧ o ≠ 0 := by
  have hc := clsN_lt22 hs
  obtain ⟨d, h1, h2, h3, h4⟩ := findIn_some hf
  obtain ⟨x, hx, rfl, hu, _⟩ := h.lists.mem d (by omega) o h3
  rw [sizeAt_mem h.good hx] at h4
  have := (h.good.mem hx).1
  exact ⟨x, hx, rfl, hu, h4, by omega⟩
/-- None is found: none has so many bytes. -/
theorem findL_none {b : List UInt8} {bs : List Blk} {ls : Nat → List Nat} (h : Right b bs ls) {size : Nat} (hs : isSize size = true) (hf : findL bs ls size = none) {x : Blk} (hx : x ∈ bs) (hu : x.used = false) : x.size < size := by
  have hc := clsN_lt22 hs
  have hxs := (h.good.mem hx).2.1
  have hxc := clsN_lt hxs
  by_cases hle : size ≤ x.size
  · have hm := clsN_mono hs (blkAt_isSize hxs) hle
    have := findIn_none hf (clsN x.size) hm (by omega) x.off (h.cover x hx hu)
    rw [sizeAt_mem h.good hx] at this
    omega
  · omega
end Go.Own

/- The lists made anew, block by block. No program. -/
namespace Go.Own
theorem Tile.offs {b : List UInt8} : ∀ {r : List Blk} {o : Nat}, Tile b o r → r.Pairwise fun u v => u.off ≠ v.off
  | [], _, _ => List.Pairwise.nil
  | u :: r, o, h => by
    refine List.Pairwise.cons (fun v hv => ?_) (Tile.offs h.2)
    have h2 := blkAt_some h.1
    have h3 := h.2.mem hv
    omega
theorem putAll_snoc (x : Blk) : ∀ (r : List Blk) (b : List UInt8), putAll b (r ++ [x]) = if x.used then putAll b r else (putB (putAll b r) x.off).getD (putAll b r)
  | [], b => by
    simp only [List.nil_append, putAll]
  | y :: r, b => by
    rw [List.cons_append, putAll, putAll]
    cases y.used with
    | true => simp only [if_true]; exact putAll_snoc x r b
    | false => simp only [Bool.false_eq_true, if_false]; exact putAll_snoc x r _
/-- Behind any first part of the blocks: the lists have just its free ones; the next free one can be put. -/
theorem putAll_pre {bs : List Blk} {b : List UInt8} (ht : Tile b 184 bs) (hl : 184 ≤ b.length) (hm : b.length ≤ 16384) : ∀ (k : Nat), k ≤ bs.length →
    Touch (LinkW bs) b (putAll (clearB b) (bs.take k)) ∧ Lists (putAll (clearB b) (bs.take k)) bs (anew (bs.take k)) ∧
    ∀ (h : k < bs.length), bs[k].used = false → ∃ b', putB (putAll (clearB b) (bs.take k)) bs[k].off = some b' ∧ putAll (clearB b) (bs.take (k + 1)) = b' := by
  have key : ∀ (k : Nat), Touch (LinkW bs) b (putAll (clearB b) (bs.take k)) → Lists (putAll (clearB b) (bs.take k)) bs (anew (bs.take k)) → ∀ (h : k < bs.length), bs[k].used = false →
      ∃ b', putB (putAll (clearB b) (bs.take k)) bs[k].off = some b' ∧ putAll (clearB b) (bs.take (k + 1)) = b' ∧ Touch (LinkW bs) b b' ∧ Lists b' bs (anew (bs.take (k + 1))) := by
    intro k h1 h2 h hu
    have hx := List.getElem_mem h
    have ht1 := ht.touch hl h1
    have hc := cls_size (blkAt_isSize (ht.mem hx).2.1)
    have hno : bs[k].off ∉ anew (bs.take k) (cls bs[k].size).toNat := by
      intro hmm
      unfold anew at hmm
      rw [List.mem_reverse] at hmm
      obtain ⟨y, hy, e⟩ := List.mem_map.1 hmm
      have hy := (List.mem_filter.1 hy).1
      have hp := ht.offs
      rw [← List.take_append_drop k bs] at hp
      have hd : bs[k] ∈ bs.drop k := by rw [List.drop_eq_getElem_cons h]; exact List.mem_cons_self ..
      exact (List.pairwise_append.1 hp).2.2 y hy _ hd e
    obtain ⟨b', e1, e2, e3⟩ := putB_lists h2 ht1.good (by rw [h1.len]; exact hl) (by rw [h1.len]; exact hm) (c := (cls bs[k].size).toNat) (by omega) hx hu (by omega) hno
    refine ⟨b', e1, ?_, h1.trans e2, ?_⟩
    · rw [List.take_succ_eq_append_getElem h, putAll_snoc, hu, e1]; rfl
    · have : anew (bs.take (k + 1)) = fun d => if d = (cls bs[k].size).toNat then bs[k].off :: anew (bs.take k) (cls bs[k].size).toNat else anew (bs.take k) d := by
        funext d
        rw [List.take_succ_eq_append_getElem h, anew_snoc]
        by_cases e : d = (cls bs[k].size).toNat
        · subst e; rw [if_pos ⟨hu, by omega⟩, if_pos rfl]
        · rw [if_neg (by intro h; omega), if_neg e]
      rw [this]; exact e3
  have main : ∀ (k : Nat), k ≤ bs.length → Touch (LinkW bs) b (putAll (clearB b) (bs.take k)) ∧ Lists (putAll (clearB b) (bs.take k)) bs (anew (bs.take k)) := by
    intro k
    induction k with
    | zero => intro _; exact ⟨clearB_touch hl bs, clear_lists hl⟩
    | succ k ih =>
      intro hk
      obtain ⟨h1, h2⟩ := ih (by omega)
      have h : k < bs.length := by omega
      cases hu : bs[k].used with
      | false =>
        obtain ⟨b', e1, e2, e3, e4⟩ := key k h1 h2 h hu
        rw [e2]; exact ⟨e3, e4⟩
      | true =>
        rw [List.take_succ_eq_append_getElem h, putAll_snoc, hu]
        simp only [if_true]
        refine ⟨h1, ?_⟩
        have : anew (bs.take k ++ [bs[k]]) = anew (bs.take k) := by funext c; rw [anew_snoc, if_neg]; rw [hu]; simp
        rw [this]; exact h2
  intro k hk
  obtain ⟨h1, h2⟩ := main k hk
  refine ⟨h1, h2, fun h hu => ?_⟩
  obtain ⟨b', e1, e2, _⟩ := key k h1 h2 h hu
  exact ⟨b', e1, e2⟩
theorem anew_cons (x : Blk) (bs : List Blk) (c : Nat) : anew (x :: bs) c = if x.used = false ∧ cls x.size = c then anew bs c ++ [x.off] else anew bs c := by
  unfold anew
  by_cases h : x.used = false ∧ cls x.size = c
  · rw [if_pos h, List.filter_cons_of_pos (by simp [h])]; simp
  · rw [if_neg h, List.filter_cons_of_neg (by cases hu : x.used <;> simp_all)]
theorem mem_anew {bs : List Blk} {c o : Nat} : o ∈ anew bs c ↔ ∃ x ∈ bs, x.used = false ∧ cls x.size = c ∧ x.off = o := by
  unfold anew
  rw [List.mem_reverse, List.mem_map]
  constructor
  · rintro ⟨x, hx, e⟩
    obtain ⟨hx, h⟩ := List.mem_filter.1 hx
    simp only [Bool.and_eq_true, Bool.not_eq_true', decide_eq_true_eq] at h
    exact ⟨x, hx, h.1, h.2, e⟩
  · rintro ⟨x, hx, h1, h2, e⟩
    exact ⟨x, List.mem_filter.2 ⟨hx, by simp [h1, h2]⟩, e⟩
/-- Made anew, an arena whose bytes the blocks tile is right. -/
theorem rebuild_right {b : List UInt8} {bs : List Blk} (ht : Tile b 184 bs) (hl : 184 ≤ b.length) (hb : b.length ≤ 16384) :
    ∃ b', rebuildB b = some b' ∧ b'.length = b.length ∧ Touch (LinkW bs) b b' ∧ Right b' bs (anew bs) := by
  obtain ⟨b', h1, h2, h3, h4⟩ := rebuild_lists ht hl hb
  refine ⟨b', h1, h2.len, h2, ⟨by rw [h2.len]; exact hb, tile_to.1 h3, h4, fun y hy hu => ?_⟩⟩
  have := (clsN_lt (h3.mem hy).2.1).2
  exact mem_anew.2 ⟨y, hy, hu, this, rfl⟩
end Go.Own

/- Blocks of bytes: the reference's Lay and Set. -/
namespace Go.Own
open Go Go.RowKit
/-- 'b[j] = x' on a row of bytes of one's own. -/
theorem St.setByte {B : Nat} {w0 w : World} {l : List Ob} {i : Nat} {e : TypeId} {v : Value} {b : List UInt8} (h : St B w0 w l) (hi : l[i]? = some (OwO e 1 v b.length (b.map bv))) (j : Nat) (hj : j < b.length) :
    ∃ g cap, v = .slice (some ⟨g, 0, none⟩) b.length cap ∧ (∃ u, w.cell? ⟨g, j, none⟩ = some u) ∧ w.frozen? ⟨g, j, none⟩ = false ∧
      ∀ x, St B w0 (w.setCell ⟨g, j, none⟩ (bv x)) (l.set i (OwO e 1 v b.length ((b.set j x).map bv))) := by
  have ho := h.own hi
  obtain ⟨g, cap, cur, rfl, _⟩ := own_some ho (by rw [List.length_map]; omega)
  refine ⟨g, cap, rfl, ⟨bv b[j], ?_⟩, ho.frozenAt j, fun x => ?_⟩
  · rw [ho.cellAt j (by omega)]; simp [hj]
  · refine h.ownTo hi _ _ _ _ ?_ ((Keep.refl (fun k => (Value.slice (some ⟨g, 0, none⟩) b.length cap).ownBlock = some k) w).setCell (p := ⟨g, j, none⟩) (.inl rfl) _) (.inl rfl)
    rw [List.map_set]; exact (ho.stored j (bv x)).1
theorem St.bsV {B : Nat} {w0 w : World} {l : List Ob} {i : Nat} {e : TypeId} {a : Option Addr} {n c m : Nat} {b : List UInt8} (h : St B w0 w l) (hi : l[i]? = some (OwO e 1 (.slice a n c) m (b.map bv))) : Bs w a n c b := by
  obtain ⟨_, _, e, hb⟩ := h.bsOwn hi
  cases e; exact hb
theorem layAt_eq (b : List UInt8) (o V : Nat) (h : o + 8 ≤ b.length) : layAt b o V = b.take o ++ low V 8 ++ b.drop (o + 8) := by
  unfold layAt lay; rw [low_length]
end Go.Own
namespace Go.Proofs.Ytjijniillehfoaa
open Go Go.RowKit Go.Own
set_option linter.unusedVariables false
set_option maxRecDepth 100000
section
variable {B : Nat} {w0 w : World} {l : List Ob}
set_option maxHeartbeats 4000000 in
theorem rb_Lay (h : St B w0 w l) (a : Option Addr) (n c : Nat) (b : List UInt8) (hb : Bs w a n c b) (hsm : b.length ≤ 65536) (o : Int) (O : Nat) (ho : o = O) (hO : O + 8 ≤ b.length) (x : Int) (X : Nat) (hx : x = X) (hX : X < 18446744073709551616) :
    Calls Try.prog 162 #[.slice a n c, .int .i64 o, .int .u64 x] w fun e w' => ∃ v, e = .returned v ∧ St B w0 w' (OwB v (layAt b O X) :: l) := by
  subst hx; subst ho
  have hn := hb.len
  have hcap := Sl.cap hb; have hroom := Sl.room hb
  subst hn
  have H := Lib.hid h; have HB := Lib.hid hb
  have o1 : O ≤ 65536 := by omega
  have hm : b.length ≤ 140737488355328 := by omega
  clear h hb
  go_enter Try.func162, Try.ntmps162
  go_wp2_with (at_builtin; go_must (refine app_st_new rfl (.tmp 10) (.tmp 11) rfl H.out rfl _ _ _ b rfl HB.out hm ?_; intro v1 w1 h1; have H1 := Lib.hid h1; clear h1))
  have kc := ref_Low w1 (X : Int) 8 8 rfl (by omega) (by omega) (by decide)
  rw [Int.toNat_natCast] at kc
  with_reducible refine kc.mono ?_
  clear kc
  rintro e w2 ⟨v2, rfl, p2, b2⟩
  have h2 := H1.out.addOwn b2 p2
  have hl8 : (low X 8).length = 8 := low_length _ _
  rw [hl8] at h2
  obtain ⟨lw, hlw⟩ : ∃ lw, lw = low X 8 := ⟨_, rfl⟩
  rw [← hlw] at h2 hl8
  have HLW := Lib.hid hlw
  obtain ⟨a2, c2, rfl, hb2⟩ := h2.bsOwn (i := 0) rfl
  obtain ⟨a1, c1, rfl, _⟩ := h2.bsOwn (i := 1) rfl
  have H2 := Lib.hid h2; have HL8 := Lib.hid hl8; have HO := Lib.hid hO
  have hlen : ∀ k, k ≤ 8 → (b.take O ++ lw.take k ++ b.drop (O + k)).length = b.length := fun k hk => by
    rw [List.length_append, List.length_append, List.length_take, List.length_take, List.length_drop]; omega
  have HLEN := Lib.hid hlen
  clear h2 p2 b2 hb2 hlw hl8 hlen hO HB H H1
  go_wp2
  go_loopw [9] (fun vi wr => ∃ k : Nat, k ≤ 8 ∧ vi = .int .i64 k ∧ St B w0 wr (OwO 5 1 (.slice a2 8 c2) 8 (lw.map bv) :: OwO 5 1 (.slice a1 b.length c1) b.length ((b.take O ++ lw.take k ++ b.drop (O + k)).map bv) :: l)) (fun vi _ => 8 - (intOf vi).toNat)
  case atStart =>
    refine ⟨0, by omega, rfl, ?_⟩
    rw [List.take_zero, List.append_nil, Nat.add_zero, List.take_append_drop]
    exact H2.out
  case round =>
    obtain ⟨k, hk, rfl, hs⟩ := hrel
    by_cases hlt : k < 8
    · obtain ⟨cur, hcur⟩ : ∃ cur, cur = b.take O ++ lw.take k ++ b.drop (O + k) := ⟨_, rfl⟩
      have hcl : cur.length = b.length := by rw [hcur]; exact HLEN.out k hk
      rw [← hcur] at hs
      have hOk : O + k < b.length := by have := HO.out; omega
      have hs' : St B w0 wr (OwO 5 1 (.slice a2 8 c2) 8 (lw.map bv) :: OwO 5 1 (.slice a1 b.length c1) cur.length (cur.map bv) :: l) := by rw [hcl]; exact hs
      obtain ⟨g, cap, e1, ⟨u, hu⟩, hf, hset⟩ := hs'.setByte (i := 1) rfl (O + k) (by omega)
      rw [hcl] at e1
      cases e1
      obtain ⟨b', o', e2, hc⟩ := (hs.bsV (i := 0) rfl).at k (by rw [HL8.out]; exact hlt)
      subst e2
      have hc : wr.cell? ⟨b', o' + k, none⟩ = some (.int .u8 ((lw[k]'(by rw [HL8.out]; exact hlt)).toNat : Nat)) := hc
      have hset2 := hset (lw[k]'(by rw [HL8.out]; exact hlt))
      have hnew : cur.set (O + k) (lw[k]'(by rw [HL8.out]; exact hlt)) = b.take O ++ lw.take (k + 1) ++ b.drop (O + (k + 1)) := by
        have := HL8.out
        rw [hcur, List.set_append_right _ _ (by simp; omega)]
        rw [show O + k - (b.take O ++ lw.take k).length = 0 by simp; omega]
        rw [List.drop_eq_getElem_cons (by omega), List.set_cons_zero, List.take_succ_eq_append_getElem (by omega)]
        simp only [List.append_assoc, List.singleton_append, Nat.add_assoc]
      rw [hnew, hcl] at hset2
      generalize lw[k]'(by rw [HL8.out]; exact hlt) = y at *
      have ht : ((O : Int) + (k : Int)).toNat = O + k := by omega
      have HSET := Lib.hid (show St B w0 (wr.setCell ⟨g, O + k, none⟩ (.int .u8 (y.toNat : Nat))) _ from hset2)
      clear hset hset2 hnew hs hs' hcur hcl
      go_wp2
      exact ⟨⟨k + 1, by omega, by go_num, HSET.out⟩, by simp [intOf]; omega⟩
    · obtain rfl : k = 8 := by omega
      have HS := Lib.hid hs.tail
      clear hs
      go_wp2
      go_ret
      refine ⟨_, rfl, ?_⟩
      have := HS.out
      rw [List.take_of_length_le (show lw.length ≤ 8 by rw [HL8.out]; exact Nat.le_refl _), HLW.out, ← layAt_eq b O X HO.out] at this
      unfold OwB
      rw [layAt_length b O X HO.out]
      exact this
end
end Go.Proofs.Ytjijniillehfoaa

/- Blocks of bytes: the reference's Set. -/
namespace Go.Own
open Go Go.RowKit
/-- What was made beside nothing lies beside all there is. -/
theorem St.lift1 {B : Nat} {w0 w w' : World} {l : List Ob} {P : Ob} (h : St B w0 w l) (s : St w.heap.size w w' [P]) (hm : P.m = true) : St B w0 w' (P :: l) := by
  obtain ⟨F, h1, _, h3, _⟩ := s.at (i := 0) rfl
  exact h.add s.end h1 (h3 hm)
end Go.Own
namespace Go.Proofs.Ytjijniillehfoaa
open Go Go.RowKit Go.Own
set_option linter.unusedVariables false
set_option maxRecDepth 100000
section
variable {B : Nat} {w0 w : World} {l : List Ob}
set_option maxHeartbeats 4000000 in
theorem rb_Set_no (h : St B w0 w l) (a : Option Addr) (n c : Nat) (b : List UInt8) (hb : Bs w a n c b) (o s : Int) (u : Bool) (hn : setI b o s u = none) :
    Calls Try.prog 69 #[.slice a n c, .agg #[.int .i64 o, .int .i64 s, .bool u]] w fun e w' => e = .returned (.tuple #[.slice a n c, .bool false]) ∧ St B w0 w' l := by
  have hm := hb.len
  have hcap := Sl.cap hb; have hroom := Sl.room hb
  subst hm
  have H := Lib.hid h; have HB := Lib.hid hb
  clear h hb
  go_enter Try.func69, Try.ntmps69
  go_wp2_with fail
  have h1 := H.out.addRow 77 [.int .i64 o, .int .i64 s, .bool u]
  have hb1 := HB.out.below ((Below.refl _ _).alloc (Nat.le_refl _) (.cells #[.int .i64 o, .int .i64 s, .bool u] 77 (0, 0)))
  generalize w.alloc (Obj.cells #[Value.int IntKind.i64 o, Value.int IntKind.i64 s, Value.bool u] 77 (0, 0)) = w1 at h1 hb1 ⊢
  generalize w.heap.size = g at h1 ⊢
  have H1 := Lib.hid h1; have HB1 := Lib.hid hb1
  have c0 : w1.cell? ⟨g, 0, none⟩ = some (.int .i64 o) := (H1.out.row (i := 0) rfl).cell 0
  have c1 : w1.cell? ⟨g, 1, none⟩ = some (.int .i64 s) := (H1.out.row (i := 0) rfl).cell 1
  clear h1 hb1
  with_reducible refine (ref_IsSize w1 s).mono ?_
  rintro e w' ⟨rfl, rfl⟩
  go_wp2_with fail
  have kc := ref_Could w1 _ _ _ _ HB1.out o s
  with_reducible refine kc.mono ?_
  clear kc
  rintro e w' ⟨rfl, rfl⟩
  have hd : isSize s = false ∨ (isSize s = true ∧ couldB b o s = false) := by
    unfold setI at hn
    cases h1 : isSize s
    · exact .inl rfl
    · cases h2 : couldB b o s
      · exact .inr ⟨rfl, rfl⟩
      · rw [if_pos ⟨h1, h2⟩] at hn; cases hn
  clear hn
  rcases hd with hd | ⟨hd, hd2⟩
  · rw [hd]
    generalize couldB b o s = cb at *
    clear hd
    go_wp2
    go_ret2
    exact ⟨rfl, H1.out.tail⟩
  · rw [hd, hd2]
    clear hd hd2
    go_wp2
    go_ret2
    exact ⟨rfl, H1.out.tail⟩
set_option maxHeartbeats 4000000 in
theorem rb_Set_ok (h : St B w0 w l) (a : Option Addr) (n c : Nat) (b : List UInt8) (hb : Bs w a n c b) (hsm : b.length ≤ 65536) (o s : Int) (u : Bool) (y : List UInt8) (hy : setI b o s u = some y) :
    Calls Try.prog 69 #[.slice a n c, .agg #[.int .i64 o, .int .i64 s, .bool u]] w fun e w' => ∃ v, e = .returned (.tuple #[v, .bool true]) ∧ St B w0 w' (OwB v y :: l) := by
  have hm := hb.len
  have hcap := Sl.cap hb; have hroom := Sl.room hb
  subst hm
  have hd : isSize s = true ∧ couldB b o s = true := by
    unfold setI at hy
    by_cases h : isSize s = true ∧ couldB b o s = true
    · exact h
    · rw [if_neg h] at hy; cases hy
  obtain ⟨hd1, hd2⟩ := hd
  have hzz := (isSize_iff s).1 hd1
  obtain ⟨q1, q2, q3, q4⟩ := couldB_iff.1 hd2
  obtain ⟨O, ho⟩ := Int.eq_ofNat_of_zero_le (show 0 ≤ o by omega)
  obtain ⟨S, hs⟩ := Int.eq_ofNat_of_zero_le (show 0 ≤ s by omega)
  have hx := tagOf_rng s u
  obtain ⟨X, hX⟩ : ∃ X : Nat, tagOf s u = X := ⟨(tagOf s u).toNat, by omega⟩
  have hX1 : X ≤ 16385 := by omega
  have hOS : O + S ≤ b.length := by omega
  have hn : y = layAt (layAt b O X) (O + S - 8) X := by
    unfold setI setB tagB at hy
    rw [if_pos ⟨hd1, hd2⟩] at hy
    simp only [Option.some.injEq] at hy
    rw [show o.toNat = O by omega, show s.toNat = S by omega, ← hs, hX, Int.toNat_natCast] at hy
    exact hy.symm
  subst hn
  have hs1 : 32 ≤ s := by omega
  have hs2 : s ≤ 16384 := by omega
  have ho1 : 184 ≤ o := by omega
  have ho2 : o ≤ 65536 := by omega
  have HOS := Lib.hid (And.intro ho (And.intro hs hOS))
  have H := Lib.hid h; have HB := Lib.hid hb
  clear h hb hy hzz q1 q2 q3 q4 ho hs hx hOS
  go_enter Try.func69, Try.ntmps69
  go_wp2_with fail
  have h1 := H.out.addRow 77 [.int .i64 o, .int .i64 s, .bool u]
  have hb1 := HB.out.below ((Below.refl _ _).alloc (Nat.le_refl _) (.cells #[.int .i64 o, .int .i64 s, .bool u] 77 (0, 0)))
  generalize w.alloc (Obj.cells #[Value.int IntKind.i64 o, Value.int IntKind.i64 s, Value.bool u] 77 (0, 0)) = w1 at h1 hb1 ⊢
  generalize w.heap.size = g at h1 ⊢
  have H1 := Lib.hid h1; have HB1 := Lib.hid hb1
  have c0 : w1.cell? ⟨g, 0, none⟩ = some (.int .i64 o) := (H1.out.row (i := 0) rfl).cell 0
  have c1 : w1.cell? ⟨g, 1, none⟩ = some (.int .i64 s) := (H1.out.row (i := 0) rfl).cell 1
  have c2 : w1.cell? ⟨g, 2, none⟩ = some (.bool u) := (H1.out.row (i := 0) rfl).cell 2
  clear h1 hb1
  have kc := ref_IsSize w1 s
  rw [hd1] at kc
  with_reducible refine kc.mono ?_
  clear kc
  rintro e w' ⟨rfl, rfl⟩
  go_wp2_with fail
  have kc := ref_Could w1 _ _ _ _ HB1.out o s
  rw [hd2] at kc
  with_reducible refine kc.mono ?_
  clear kc hd1 hd2
  rintro e w' ⟨rfl, rfl⟩
  go_wp2_with fail
  have kc := ref_Pack w1 s u
  rw [hX] at kc
  with_reducible refine kc.mono ?_
  clear kc hX
  rintro e w' ⟨rfl, rfl⟩
  go_wp2
  clear c0 c1 c2
  have HR := Lib.hid (H1.out.drew.row (i := 0) rfl)
  have HBD := Lib.hid (HB1.out.drewN 1)
  have u0 : IntKind.i64.wrap (o + s) = o + s := IntWalk.i64_in _ (by omega)
  have u1 : IntKind.i64.wrap (o + s - 8) = o + s - 8 := IntWalk.i64_in _ (by omega)
  refine flowe_begin (F := fun _ => False) hmixed 15 rfl (by repeat (first | with_reducible refine ps_then ?_ | with_reducible refine ps_block ?_ | with_reducible exact ps_body | refine ps_then ?_ | refine ps_block ?_ | exact ps_body)) (fun hps => ?_)
  simp only [List.replicate]
  have kk := (Keep.refl (fun _ => False) (w1)).drew
  refine flowe_take 0 (v := ?_) (a' := ?_) hps rfl (by kernel_rfl) rfl ?_ ?_ ?_
  rotate_left 2
  · intro w' hk; go_simp; try rfl
  · simp only [Act.put, List.setIfInBounds_toArray, List.set_cons_succ, List.set_cons_zero]; try rfl
  refine flowe_take 1 (v := ?_) (a' := ?_) hps rfl (by kernel_rfl) rfl ?_ ?_ ?_
  rotate_left 2
  · intro w' hk; go_simp; try rfl
  · simp only [Act.put, List.setIfInBounds_toArray, List.set_cons_succ, List.set_cons_zero]; try rfl
  refine flowe_take 2 (v := ?_) (a' := ?_) hps rfl (by kernel_rfl) rfl ?_ ?_ ?_
  rotate_left 2
  · intro w' hk; have hr := (HR.out.keep hk (fun h => h)).cell 0; simp only [List.getElem?_cons_succ, List.getElem?_cons_zero] at hr; go_simp; try rfl
  · simp only [Act.put, List.setIfInBounds_toArray, List.set_cons_succ, List.set_cons_zero]; try rfl
  refine flowe_take 3 (v := ?_) (a' := ?_) hps rfl (by kernel_rfl) rfl ?_ ?_ ?_
  rotate_left 2
  · intro w' hk; go_simp; try rfl
  · simp only [Act.put, List.setIfInBounds_toArray, List.set_cons_succ, List.set_cons_zero]; try rfl
  refine flowe_take 5 (v := ?_) (a' := ?_) hps rfl (by kernel_rfl) rfl ?_ ?_ ?_
  rotate_left 2
  · intro w' hk; go_simp; try rfl
  · simp only [Act.put, List.setIfInBounds_toArray, List.set_cons_succ, List.set_cons_zero]; try rfl
  refine flowe_take 6 (v := ?_) (a' := ?_) hps rfl (by kernel_rfl) rfl ?_ ?_ ?_
  rotate_left 2
  · intro w' hk; have hr := (HR.out.keep hk (fun h => h)).cell 0; simp only [List.getElem?_cons_succ, List.getElem?_cons_zero] at hr; go_simp; try rfl
  · simp only [Act.put, List.setIfInBounds_toArray, List.set_cons_succ, List.set_cons_zero]; try rfl
  refine flowe_take 7 (v := ?_) (a' := ?_) hps rfl (by kernel_rfl) rfl ?_ ?_ ?_
  rotate_left 2
  · intro w' hk; go_simp; try rfl
  · simp only [Act.put, List.setIfInBounds_toArray, List.set_cons_succ, List.set_cons_zero]; try rfl
  refine flowe_take 8 (v := ?_) (a' := ?_) hps rfl (by kernel_rfl) rfl ?_ ?_ ?_
  rotate_left 2
  · intro w' hk; have hr := (HR.out.keep hk (fun h => h)).cell 1; simp only [List.getElem?_cons_succ, List.getElem?_cons_zero] at hr; go_simp; try rfl
  · simp only [Act.put, List.setIfInBounds_toArray, List.set_cons_succ, List.set_cons_zero]; try rfl
  refine flowe_take 9 (v := ?_) (a' := ?_) hps rfl (by kernel_rfl) rfl ?_ ?_ ?_
  rotate_left 2
  · intro w' hk; go_simp; try rfl
  · simp only [Act.put, List.setIfInBounds_toArray, List.set_cons_succ, List.set_cons_zero]; try rfl
  refine flowe_take 10 (v := ?_) (a' := ?_) hps rfl (by kernel_rfl) rfl ?_ ?_ ?_
  rotate_left 2
  · intro w' hk; go_simp; try rfl
  · simp only [Act.put, List.setIfInBounds_toArray, List.set_cons_succ, List.set_cons_zero]; try rfl
  refine flowe_take 11 (v := ?_) (a' := ?_) hps rfl (by kernel_rfl) rfl ?_ ?_ ?_
  rotate_left 2
  · intro w' hk; go_simp; try rfl
  · simp only [Act.put, List.setIfInBounds_toArray, List.set_cons_succ, List.set_cons_zero]; try rfl
  refine flowe_one 4 hps rfl (by kernel_rfl) rfl (wp_next (fun K hK => ?_))
  go_simp
  have kc := rb_Lay (St.start w1.drew) a _ c b HBD.out hsm o O HOS.out.1 (by have := HOS.out; omega) (X : Int) X rfl (by omega)
  with_reducible refine kc.mono ?_
  clear kc
  rintro e w2 ⟨v2, rfl, s2⟩
  obtain ⟨a2, d2, rfl, hb2⟩ := s2.bsOwn (i := 0) rfl
  have H2 := Lib.hid (H1.out.drew.lift1 s2 rfl)
  have HB2 := Lib.hid hb2
  have HR := Lib.hid (HR.out.below s2.end)
  have kp := Keep.of_below (F := fun _ => False) s2.end
  clear s2 hb2
  refine hK _ _ (flow_step kk ?_ ?_)
  · first | exact kp | exact Keep.refl _ _ | exact (Keep.refl _ _).alloc _
  clear kk hK; try clear kp
  intro kk
  refine flowe_one 12 hps rfl (by kernel_rfl) rfl (wp_next (fun K hK => ?_))
  go_simp
  have kc := rb_Lay (St.start w2) a2 _ d2 (layAt b O X) HB2.out (by rw [layAt_length b O X (by have := HOS.out; omega)]; exact hsm) (o + s - 8) (O + S - 8) (by have := HOS.out; omega) (by rw [layAt_length b O X (by have := HOS.out; omega)]; have := HOS.out; omega) (X : Int) X rfl (by omega)
  with_reducible refine kc.mono ?_
  clear kc
  rintro e w3 ⟨v3, rfl, s3⟩
  have H3 := Lib.hid (H2.out.lift1 s3 rfl)
  have kp := Keep.of_below (F := fun _ => False) s3.end
  clear s3
  refine hK _ _ (flow_step kk ?_ ?_)
  · first | exact kp | exact Keep.refl _ _ | exact (Keep.refl _ _).alloc _
  clear kk hK; try clear kp
  intro kk
  refine flowe_take 13 (v := ?_) (a' := ?_) hps rfl (by kernel_rfl) rfl ?_ ?_ ?_
  rotate_left 2
  · intro w' hk; go_simp; try rfl
  · simp only [Act.put, List.setIfInBounds_toArray, List.set_cons_succ, List.set_cons_zero]; try rfl
  refine flowe_take 14 (v := ?_) (a' := ?_) hps rfl (by kernel_rfl) rfl ?_ ?_ ?_
  rotate_left 2
  · intro w' hk; go_simp; try rfl
  · simp only [Act.put, List.setIfInBounds_toArray, List.set_cons_succ, List.set_cons_zero]; try rfl
  refine flowe_done hps (by kernel_rfl) ?_
  clear kk HR HBD u0 u1
  go_wp2
  go_ret2
  exact ⟨_, rfl, H3.out.sub (List.Sublist.cons_cons _ ((List.sublist_cons_self ..).trans (List.sublist_cons_self ..)))⟩
end
end Go.Proofs.Ytjijniillehfoaa

/- What a well formed number is. -/
namespace Go.Own
open Go
theorem wfU64 {a : Int} (h : (Lit.int .u64 a).wf = true) : 0 ≤ a ∧ a ≤ 18446744073709551615 := by
  simp [Lit.wf, IntKind.min, IntKind.max, IntKind.bits, IntKind.signed] at h; omega
theorem wfU32 {a : Int} (h : (Lit.int .u32 a).wf = true) : 0 ≤ a ∧ a ≤ 4294967295 := by
  simp [Lit.wf, IntKind.min, IntKind.max, IntKind.bits, IntKind.signed] at h; omega
theorem wfI64 {a : Int} (h : (Lit.int .i64 a).wf = true) : -9223372036854775808 ≤ a ∧ a ≤ 9223372036854775807 := by
  simp [Lit.wf, IntKind.min, IntKind.max, IntKind.bits, IntKind.signed] at h; omega
theorem wfU8 {a : Int} (h : (Lit.int .u8 a).wf = true) : 0 ≤ a ∧ a ≤ 255 := by
  simp [Lit.wf, IntKind.min, IntKind.max, IntKind.bits, IntKind.signed] at h; omega
end Go.Own

/- Cells of a slice of structs; the statements' Pick. -/
namespace Go.Own
open Go Go.RowKit
theorem flat_at {α : Type} (f : α → List Value) (z : Nat) (hz : ∀ d, (f d).length = z) : ∀ (ds : List α) (k : Nat) (hk : k < ds.length) (j : Nat), j < z → (ds.map f).flatten[k * z + j]? = (f ds[k])[j]?
  | [], k, hk, _, _ => absurd hk (Nat.not_lt_zero _)
  | d :: ds, 0, _, j, hj => by
    rw [List.map_cons, List.flatten_cons, Nat.zero_mul, Nat.zero_add, List.getElem?_append_left (by rw [hz]; exact hj)]; rfl
  | d :: ds, k + 1, hk, j, hj => by
    rw [List.map_cons, List.flatten_cons, Nat.succ_mul, List.getElem?_append_right (by rw [hz]; omega), hz, show k * z + z + j - z = k * z + j by omega]
    exact flat_at f z hz ds k (by simpa using hk) j hj
/-- The cells of a slice of structs, each as it is addressed. -/
theorem sl_at {α : Type} {f : α → List Value} {z : Nat} {w : World} {a : Option Addr} {n c : Nat} {ds : List α} (h : Sl w a n c z (ds.map f).flatten) (hz : ∀ d, (f d).length = z) (h0 : 0 < z) (k : Nat) (hk : k < ds.length) :
    ∃ b o, a = some ⟨b, o, none⟩ ∧ ∀ j v, (f ds[k])[j]? = some v → w.cell? ⟨b, o + k * z + j, none⟩ = some v := by
  have h1 := flat_at f z hz ds k hk 0 h0
  have h2 : (f ds[k])[0]? = some ((f ds[k])[0]'(by rw [hz]; exact h0)) := List.getElem?_eq_getElem _
  obtain ⟨b, o, rfl, _⟩ := h.cells _ _ (h1.trans h2)
  refine ⟨b, o, rfl, fun j v hv => ?_⟩
  have hj : j < z := by have := (List.getElem?_eq_some_iff.1 hv).1; rw [hz] at this; exact this
  obtain ⟨b', o', e, hc⟩ := h.cells _ _ ((flat_at f z hz ds k hk j hj).trans hv)
  cases e
  rw [Nat.add_assoc]; exact hc
end Go.Own
namespace Go.Proofs.Ytjijniillehfoaa
open Go Go.RowKit Go.Own
set_option linter.unusedVariables false
set_option maxRecDepth 100000
theorem keep_cell {B : Nat} {w w' : World} {b o : Nat} {v : Value} (hk : Keep (fun x => B ≤ x) w w') (hc : w.cell? ⟨b, o, none⟩ = some v) (hb : b < B := by assumption) : w'.cell? ⟨b, o, none⟩ = some v := by
  rw [cell_of_block (w := w) (p := ⟨b, o, none⟩) (hk.block b (World.block_lt_of_cell? w _ hc) (by show ¬ B ≤ b; omega))]; exact hc
theorem law_Pick (w : World) (n b : Int) (h0 : -9223372036854775808 ≤ n) (h1 : n ≤ 9223372036854775807) (b0 : 0 < b) (b1 : b ≤ 4611686018427387904) :
    Calls Try.prog 29 #[.int .i64 n, .int .i64 b] w fun e w' => e = .returned (.int .i64 (n % b)) ∧ w = w' := by
  have hne : ¬ b = 0 := by omega
  have hbz : (b == 0) = false := by rw [beq_eq_false_iff_ne]; omega
  by_cases hn : 0 ≤ n
  · have ht : n.tmod b = n % b := Int.tmod_eq_emod_of_nonneg hn
    have hp := Int.emod_nonneg n hne
    have hlt := Int.emod_lt_of_pos n b0
    generalize n % b = q at *
    go_enter Try.func29, Try.ntmps29
    go_wp2
    go_ret
    exact ⟨rfl, rfl⟩
  · have hp := Int.emod_nonneg n hne
    have hlt := Int.emod_lt_of_pos n b0
    have ht : n.tmod b = if n % b = 0 then 0 else n % b - b := by
      rw [Int.tmod_eq_emod]
      by_cases hz : n % b = 0
      · have : b ∣ n := Int.dvd_of_emod_eq_zero hz
        simp [hz, this]
      · have : ¬ b ∣ n := fun h => hz (Int.emod_eq_zero_of_dvd h)
        rw [if_neg hz, if_neg (by simp [hn, this])]
        have : (b.natAbs : Int) = b := by omega
        rw [this]
    generalize n % b = q at *
    by_cases hz : q = 0
    · rw [if_pos hz] at ht
      subst hz
      go_enter Try.func29, Try.ntmps29
      go_wp2
      go_ret
      exact ⟨rfl, rfl⟩
    · rw [if_neg hz] at ht
      clear hz
      go_enter Try.func29, Try.ntmps29
      go_wp2
      go_ret
      exact ⟨rI (by omega), rfl⟩
end Go.Proofs.Ytjijniillehfoaa

/- The statements' Blocks: whether two lists of blocks are one. -/
namespace Go.Proofs.Ytjijniillehfoaa
open Go Go.RowKit Go.Own
set_option linter.unusedVariables false
set_option maxRecDepth 100000
theorem mid_keep {F : Nat → Prop} {w w' : World} (hk : Keep F w w') {b o : Nat} {v : Value} (hc : w.cell? ⟨b, o, none⟩ = some v) (hb : ¬ F b) : w'.cell? ⟨b, o, none⟩ = some v := by
  rw [cell_of_block (w := w) (p := ⟨b, o, none⟩) (hk.block b (World.block_lt_of_cell? w _ hc) hb)]; exact hc
set_option maxHeartbeats 4000000 in
theorem law_Blocks (w : World) (a : Option Addr) (c : Nat) (L : List Blk) (a2 : Option Addr) (c2 : Nat) (L2 : List Blk) (h1 : Sl w a L.length c 3 (L.map blC).flatten) (h2 : Sl w a2 L2.length c2 3 (L2.map blC).flatten) :
    Calls Try.prog 63 #[.slice a L.length c, .slice a2 L2.length c2] w fun e w' => e = .returned (.int .i64 (if L = L2 then 1 else 0)) ∧ Below w.heap.size w w' := by
  have p1 := h1.cap; have p2 := h1.room
  have q1 := h2.cap; have q2 := h2.room
  have H1 := Lib.hid h1; have H2 := Lib.hid h2
  clear h1 h2
  by_cases hl : L.length = L2.length
  · obtain ⟨R, hR⟩ : ∃ R : Int, R = (if L = L2 then 1 else 0) := ⟨_, rfl⟩
    rw [← hR]
    have HR := Lib.hid hR; have HLL := Lib.hid hl
    obtain ⟨N, hN⟩ : ∃ N, N = L.length := ⟨_, rfl⟩
    rw [← hl, ← hN]
    rw [← hN] at p1
    have HN := Lib.hid hN
    clear hR hl q1 hN
    go_enter Try.func63, Try.ntmps63
    go_wp2
    go_loopw [5] (fun vi wr => ∃ k : Nat, k ≤ N ∧ vi = .int .i64 k ∧ L.take k = L2.take k ∧ Below w.heap.size w wr) (fun vi _ => N - (intOf vi).toNat)
    case atStart => exact ⟨0, Nat.zero_le _, rfl, rfl, Below.refl _ _⟩
    case round =>
      obtain ⟨k, hk, rfl, ht, hb⟩ := hrel
      by_cases hlt : k < N
      · have l1 : k < L.length := by rw [← HN.out]; exact hlt
        have l2 : k < L2.length := by rw [← HLL.out]; exact l1
        obtain ⟨b1, o1, rfl, r1⟩ := sl_at H1.out blC_len (by decide) k l1
        obtain ⟨b2, o2, rfl, r2⟩ := sl_at H2.out blC_len (by decide) k l2
        have hx : L[k] = L2[k] ↔ L.take (k + 1) = L2.take (k + 1) := by
          rw [List.take_succ_eq_append_getElem l1, List.take_succ_eq_append_getElem l2, ht]
          constructor
          · intro h; rw [h]
          · intro h; exact List.singleton_inj.1 (List.append_cancel_left h)
        have hne : L[k] ≠ L2[k] → L ≠ L2 := fun h e => by subst e; exact h rfl
        generalize L[k] = x at *
        generalize L2[k] = y at *
        have x0 : w.cell? ⟨b1, o1 + k * 3, none⟩ = some (.int .i64 x.off) := r1 0 _ rfl
        have x1 : w.cell? ⟨b1, o1 + k * 3 + 1, none⟩ = some (.int .i64 x.size) := r1 1 _ rfl
        have x2 : w.cell? ⟨b1, o1 + k * 3 + 2, none⟩ = some (.bool x.used) := r1 2 _ rfl
        have y0 : w.cell? ⟨b2, o2 + k * 3, none⟩ = some (.int .i64 y.off) := r2 0 _ rfl
        have y1 : w.cell? ⟨b2, o2 + k * 3 + 1, none⟩ = some (.int .i64 y.size) := r2 1 _ rfl
        have y2 : w.cell? ⟨b2, o2 + k * 3 + 2, none⟩ = some (.bool y.used) := r2 2 _ rfl
        have kd := (Keep.of_below (F := fun _ => False) hb).drew
        have X0 := Lib.hid (mid_keep kd x0 (fun h => h)); have X1 := Lib.hid (mid_keep kd x1 (fun h => h)); have X2 := Lib.hid (mid_keep kd x2 (fun h => h))
        have Y0 := Lib.hid (mid_keep kd y0 (fun h => h)); have Y1 := Lib.hid (mid_keep kd y1 (fun h => h)); have Y2 := Lib.hid (mid_keep kd y2 (fun h => h))
        have HB := Lib.hid hb; have HX := Lib.hid hx; have HNE := Lib.hid hne
        have p4 : k < L2.length := l2
        clear x0 x1 x2 y0 y1 y2 hx hne hb ht kd r1 r2 l1 l2 p4
        by_cases hxy : x = y
        · subst hxy
          have HT := Lib.hid (HX.out.1 rfl)
          go_wp2
          refine flowe_begin (F := fun _ => False) hmixed 9 rfl (by repeat (first | with_reducible refine ps_then ?_ | with_reducible refine ps_block ?_ | with_reducible exact ps_body | refine ps_then ?_ | refine ps_block ?_ | exact ps_body)) (fun hps => ?_)
          simp only [List.replicate]
          have kk := (Keep.refl (fun _ => False) (wr)).drew
          refine flowe_take 0 (v := ?_) (a' := ?_) hps rfl (by kernel_rfl) rfl ?_ ?_ ?_
          rotate_left 2
          · intro w' hk; go_simp; try rfl
          · simp only [Act.put, List.setIfInBounds_toArray, List.set_cons_succ, List.set_cons_zero]; try rfl
          refine flowe_take 1 (v := ?_) (a' := ?_) hps rfl (by kernel_rfl) rfl ?_ ?_ ?_
          rotate_left 2
          · intro w' hk; go_simp; try rfl
          · simp only [Act.put, List.setIfInBounds_toArray, List.set_cons_succ, List.set_cons_zero]; try rfl
          refine flowe_take 2 (v := ?_) (a' := ?_) hps rfl (by kernel_rfl) rfl ?_ ?_ ?_
          rotate_left 2
          · intro w' hk; go_simp; try rfl
          · simp only [Act.put, List.setIfInBounds_toArray, List.set_cons_succ, List.set_cons_zero]; try rfl
          refine flowe_take 3 (v := ?_) (a' := ?_) hps rfl (by kernel_rfl) rfl ?_ ?_ ?_
          rotate_left 2
          · intro w' hk; have c0 := mid_keep hk X0.out (fun h => h); have c1 := mid_keep hk X1.out (fun h => h); have c2 := mid_keep hk X2.out (fun h => h); go_simp; try rfl
          · simp only [Act.put, List.setIfInBounds_toArray, List.set_cons_succ, List.set_cons_zero]; try rfl
          refine flowe_take 4 (v := ?_) (a' := ?_) hps rfl (by kernel_rfl) rfl ?_ ?_ ?_
          rotate_left 2
          · intro w' hk; go_simp; try rfl
          · simp only [Act.put, List.setIfInBounds_toArray, List.set_cons_succ, List.set_cons_zero]; try rfl
          refine flowe_take 5 (v := ?_) (a' := ?_) hps rfl (by kernel_rfl) rfl ?_ ?_ ?_
          rotate_left 2
          · intro w' hk; go_simp; try rfl
          · simp only [Act.put, List.setIfInBounds_toArray, List.set_cons_succ, List.set_cons_zero]; try rfl
          refine flowe_take 6 (v := ?_) (a' := ?_) hps rfl (by kernel_rfl) rfl ?_ ?_ ?_
          rotate_left 2
          · intro w' hk; go_simp; try rfl
          · simp only [Act.put, List.setIfInBounds_toArray, List.set_cons_succ, List.set_cons_zero]; try rfl
          refine flowe_take 7 (v := ?_) (a' := ?_) hps rfl (by kernel_rfl) rfl ?_ ?_ ?_
          rotate_left 2
          · intro w' hk; have c0 := mid_keep hk Y0.out (fun h => h); have c1 := mid_keep hk Y1.out (fun h => h); have c2 := mid_keep hk Y2.out (fun h => h); go_simp; try rfl
          · simp only [Act.put, List.setIfInBounds_toArray, List.set_cons_succ, List.set_cons_zero]; try rfl
          refine flowe_take 8 (v := ?_) (a' := ?_) hps rfl (by kernel_rfl) rfl ?_ ?_ ?_
          rotate_left 2
          · intro w' hk; go_simp; try rfl
          · simp only [Act.put, List.setIfInBounds_toArray, List.set_cons_succ, List.set_cons_zero]; try rfl
          refine flowe_done hps (by kernel_rfl) ?_
          have HB2 := Lib.hid (HB.out.trans ((kk.below (Nat.le_refl _) fun _ _ h => h).mono HB.out.size))
          clear kk
          go_wp2
          exact ⟨⟨k + 1, hlt, by go_num, HT.out, HB2.out⟩, by simp [intOf]; omega⟩
        · have HXY := Lib.hid hxy
          by_cases d1 : x.off = y.off
          · rw [← d1] at Y0
            by_cases d2 : x.size = y.size
            · have d3 : y.used = !x.used := by
                have hu : x.used ≠ y.used := fun h => hxy (by cases x; cases y; simp only at d1 d2 h; subst d1; subst d2; subst h; rfl)
                revert hu; cases x.used <;> cases y.used <;> simp
              rw [← d2] at Y1
              rw [d3] at Y2
              clear d1 d2 d3 hxy
              go_wp2
              refine flowe_begin (F := fun _ => False) hmixed 9 rfl (by repeat (first | with_reducible refine ps_then ?_ | with_reducible refine ps_block ?_ | with_reducible exact ps_body | refine ps_then ?_ | refine ps_block ?_ | exact ps_body)) (fun hps => ?_)
              simp only [List.replicate]
              have kk := (Keep.refl (fun _ => False) (wr)).drew
              refine flowe_take 0 (v := ?_) (a' := ?_) hps rfl (by kernel_rfl) rfl ?_ ?_ ?_
              rotate_left 2
              · intro w' hk; go_simp; try rfl
              · simp only [Act.put, List.setIfInBounds_toArray, List.set_cons_succ, List.set_cons_zero]; try rfl
              refine flowe_take 1 (v := ?_) (a' := ?_) hps rfl (by kernel_rfl) rfl ?_ ?_ ?_
              rotate_left 2
              · intro w' hk; go_simp; try rfl
              · simp only [Act.put, List.setIfInBounds_toArray, List.set_cons_succ, List.set_cons_zero]; try rfl
              refine flowe_take 2 (v := ?_) (a' := ?_) hps rfl (by kernel_rfl) rfl ?_ ?_ ?_
              rotate_left 2
              · intro w' hk; go_simp; try rfl
              · simp only [Act.put, List.setIfInBounds_toArray, List.set_cons_succ, List.set_cons_zero]; try rfl
              refine flowe_take 3 (v := ?_) (a' := ?_) hps rfl (by kernel_rfl) rfl ?_ ?_ ?_
              rotate_left 2
              · intro w' hk; have c0 := mid_keep hk X0.out (fun h => h); have c1 := mid_keep hk X1.out (fun h => h); have c2 := mid_keep hk X2.out (fun h => h); go_simp; try rfl
              · simp only [Act.put, List.setIfInBounds_toArray, List.set_cons_succ, List.set_cons_zero]; try rfl
              refine flowe_take 4 (v := ?_) (a' := ?_) hps rfl (by kernel_rfl) rfl ?_ ?_ ?_
              rotate_left 2
              · intro w' hk; go_simp; try rfl
              · simp only [Act.put, List.setIfInBounds_toArray, List.set_cons_succ, List.set_cons_zero]; try rfl
              refine flowe_take 5 (v := ?_) (a' := ?_) hps rfl (by kernel_rfl) rfl ?_ ?_ ?_
              rotate_left 2
              · intro w' hk; go_simp; try rfl
              · simp only [Act.put, List.setIfInBounds_toArray, List.set_cons_succ, List.set_cons_zero]; try rfl
              refine flowe_take 6 (v := ?_) (a' := ?_) hps rfl (by kernel_rfl) rfl ?_ ?_ ?_
              rotate_left 2
              · intro w' hk; go_simp; try rfl
              · simp only [Act.put, List.setIfInBounds_toArray, List.set_cons_succ, List.set_cons_zero]; try rfl
              refine flowe_take 7 (v := ?_) (a' := ?_) hps rfl (by kernel_rfl) rfl ?_ ?_ ?_
              rotate_left 2
              · intro w' hk; have c0 := mid_keep hk Y0.out (fun h => h); have c1 := mid_keep hk Y1.out (fun h => h); have c2 := mid_keep hk Y2.out (fun h => h); go_simp; try rfl
              · simp only [Act.put, List.setIfInBounds_toArray, List.set_cons_succ, List.set_cons_zero]; try rfl
              refine flowe_take 8 (v := ?_) (a' := ?_) hps rfl (by kernel_rfl) rfl ?_ ?_ ?_
              rotate_left 2
              · intro w' hk; go_simp; try rfl
              · simp only [Act.put, List.setIfInBounds_toArray, List.set_cons_succ, List.set_cons_zero]; try rfl
              refine flowe_done hps (by kernel_rfl) ?_
              have HB2 := Lib.hid (HB.out.trans ((kk.below (Nat.le_refl _) fun _ _ h => h).mono HB.out.size))
              clear kk
              go_wp2
              go_ret
              exact ⟨by rw [HR.out, if_neg (HNE.out HXY.out)]; rfl, HB2.out⟩
            · have d4 : ¬ ((x.size : Int) = (y.size : Int)) := by omega
              clear d1 d2 hxy
              go_wp2
              refine flowe_begin (F := fun _ => False) hmixed 9 rfl (by repeat (first | with_reducible refine ps_then ?_ | with_reducible refine ps_block ?_ | with_reducible exact ps_body | refine ps_then ?_ | refine ps_block ?_ | exact ps_body)) (fun hps => ?_)
              simp only [List.replicate]
              have kk := (Keep.refl (fun _ => False) (wr)).drew
              refine flowe_take 0 (v := ?_) (a' := ?_) hps rfl (by kernel_rfl) rfl ?_ ?_ ?_
              rotate_left 2
              · intro w' hk; go_simp; try rfl
              · simp only [Act.put, List.setIfInBounds_toArray, List.set_cons_succ, List.set_cons_zero]; try rfl
              refine flowe_take 1 (v := ?_) (a' := ?_) hps rfl (by kernel_rfl) rfl ?_ ?_ ?_
              rotate_left 2
              · intro w' hk; go_simp; try rfl
              · simp only [Act.put, List.setIfInBounds_toArray, List.set_cons_succ, List.set_cons_zero]; try rfl
              refine flowe_take 2 (v := ?_) (a' := ?_) hps rfl (by kernel_rfl) rfl ?_ ?_ ?_
              rotate_left 2
              · intro w' hk; go_simp; try rfl
              · simp only [Act.put, List.setIfInBounds_toArray, List.set_cons_succ, List.set_cons_zero]; try rfl
              refine flowe_take 3 (v := ?_) (a' := ?_) hps rfl (by kernel_rfl) rfl ?_ ?_ ?_
              rotate_left 2
              · intro w' hk; have c0 := mid_keep hk X0.out (fun h => h); have c1 := mid_keep hk X1.out (fun h => h); have c2 := mid_keep hk X2.out (fun h => h); go_simp; try rfl
              · simp only [Act.put, List.setIfInBounds_toArray, List.set_cons_succ, List.set_cons_zero]; try rfl
              refine flowe_take 4 (v := ?_) (a' := ?_) hps rfl (by kernel_rfl) rfl ?_ ?_ ?_
              rotate_left 2
              · intro w' hk; go_simp; try rfl
              · simp only [Act.put, List.setIfInBounds_toArray, List.set_cons_succ, List.set_cons_zero]; try rfl
              refine flowe_take 5 (v := ?_) (a' := ?_) hps rfl (by kernel_rfl) rfl ?_ ?_ ?_
              rotate_left 2
              · intro w' hk; go_simp; try rfl
              · simp only [Act.put, List.setIfInBounds_toArray, List.set_cons_succ, List.set_cons_zero]; try rfl
              refine flowe_take 6 (v := ?_) (a' := ?_) hps rfl (by kernel_rfl) rfl ?_ ?_ ?_
              rotate_left 2
              · intro w' hk; go_simp; try rfl
              · simp only [Act.put, List.setIfInBounds_toArray, List.set_cons_succ, List.set_cons_zero]; try rfl
              refine flowe_take 7 (v := ?_) (a' := ?_) hps rfl (by kernel_rfl) rfl ?_ ?_ ?_
              rotate_left 2
              · intro w' hk; have c0 := mid_keep hk Y0.out (fun h => h); have c1 := mid_keep hk Y1.out (fun h => h); have c2 := mid_keep hk Y2.out (fun h => h); go_simp; try rfl
              · simp only [Act.put, List.setIfInBounds_toArray, List.set_cons_succ, List.set_cons_zero]; try rfl
              refine flowe_take 8 (v := ?_) (a' := ?_) hps rfl (by kernel_rfl) rfl ?_ ?_ ?_
              rotate_left 2
              · intro w' hk; go_simp; try rfl
              · simp only [Act.put, List.setIfInBounds_toArray, List.set_cons_succ, List.set_cons_zero]; try rfl
              refine flowe_done hps (by kernel_rfl) ?_
              have HB2 := Lib.hid (HB.out.trans ((kk.below (Nat.le_refl _) fun _ _ h => h).mono HB.out.size))
              clear kk
              go_wp2
              go_ret
              exact ⟨by rw [HR.out, if_neg (HNE.out HXY.out)]; rfl, HB2.out⟩
          · have d4 : ¬ ((x.off : Int) = (y.off : Int)) := by omega
            clear d1 hxy
            go_wp2
            refine flowe_begin (F := fun _ => False) hmixed 9 rfl (by repeat (first | with_reducible refine ps_then ?_ | with_reducible refine ps_block ?_ | with_reducible exact ps_body | refine ps_then ?_ | refine ps_block ?_ | exact ps_body)) (fun hps => ?_)
            simp only [List.replicate]
            have kk := (Keep.refl (fun _ => False) (wr)).drew
            refine flowe_take 0 (v := ?_) (a' := ?_) hps rfl (by kernel_rfl) rfl ?_ ?_ ?_
            rotate_left 2
            · intro w' hk; go_simp; try rfl
            · simp only [Act.put, List.setIfInBounds_toArray, List.set_cons_succ, List.set_cons_zero]; try rfl
            refine flowe_take 1 (v := ?_) (a' := ?_) hps rfl (by kernel_rfl) rfl ?_ ?_ ?_
            rotate_left 2
            · intro w' hk; go_simp; try rfl
            · simp only [Act.put, List.setIfInBounds_toArray, List.set_cons_succ, List.set_cons_zero]; try rfl
            refine flowe_take 2 (v := ?_) (a' := ?_) hps rfl (by kernel_rfl) rfl ?_ ?_ ?_
            rotate_left 2
            · intro w' hk; go_simp; try rfl
            · simp only [Act.put, List.setIfInBounds_toArray, List.set_cons_succ, List.set_cons_zero]; try rfl
            refine flowe_take 3 (v := ?_) (a' := ?_) hps rfl (by kernel_rfl) rfl ?_ ?_ ?_
            rotate_left 2
            · intro w' hk; have c0 := mid_keep hk X0.out (fun h => h); have c1 := mid_keep hk X1.out (fun h => h); have c2 := mid_keep hk X2.out (fun h => h); go_simp; try rfl
            · simp only [Act.put, List.setIfInBounds_toArray, List.set_cons_succ, List.set_cons_zero]; try rfl
            refine flowe_take 4 (v := ?_) (a' := ?_) hps rfl (by kernel_rfl) rfl ?_ ?_ ?_
            rotate_left 2
            · intro w' hk; go_simp; try rfl
            · simp only [Act.put, List.setIfInBounds_toArray, List.set_cons_succ, List.set_cons_zero]; try rfl
            refine flowe_take 5 (v := ?_) (a' := ?_) hps rfl (by kernel_rfl) rfl ?_ ?_ ?_
            rotate_left 2
            · intro w' hk; go_simp; try rfl
            · simp only [Act.put, List.setIfInBounds_toArray, List.set_cons_succ, List.set_cons_zero]; try rfl
            refine flowe_take 6 (v := ?_) (a' := ?_) hps rfl (by kernel_rfl) rfl ?_ ?_ ?_
            rotate_left 2
            · intro w' hk; go_simp; try rfl
            · simp only [Act.put, List.setIfInBounds_toArray, List.set_cons_succ, List.set_cons_zero]; try rfl
            refine flowe_take 7 (v := ?_) (a' := ?_) hps rfl (by kernel_rfl) rfl ?_ ?_ ?_
            rotate_left 2
            · intro w' hk; have c0 := mid_keep hk Y0.out (fun h => h); have c1 := mid_keep hk Y1.out (fun h => h); have c2 := mid_keep hk Y2.out (fun h => h); go_simp; try rfl
            · simp only [Act.put, List.setIfInBounds_toArray, List.set_cons_succ, List.set_cons_zero]; try rfl
            refine flowe_take 8 (v := ?_) (a' := ?_) hps rfl (by kernel_rfl) rfl ?_ ?_ ?_
            rotate_left 2
            · intro w' hk; go_simp; try rfl
            · simp only [Act.put, List.setIfInBounds_toArray, List.set_cons_succ, List.set_cons_zero]; try rfl
            refine flowe_done hps (by kernel_rfl) ?_
            have HB2 := Lib.hid (HB.out.trans ((kk.below (Nat.le_refl _) fun _ _ h => h).mono HB.out.size))
            clear kk
            go_wp2
            go_ret
            exact ⟨by rw [HR.out, if_neg (HNE.out HXY.out)]; rfl, HB2.out⟩
      · have hkN : k = N := by omega
        subst hkN
        have hLL : L = L2 := by
          rw [List.take_of_length_le (by rw [HN.out]; exact Nat.le_refl _), List.take_of_length_le (by rw [HN.out, HLL.out]; exact Nat.le_refl _)] at ht
          exact ht
        have HB := Lib.hid hb; have HE := Lib.hid hLL
        clear ht hb hLL
        go_wp2
        go_ret
        refine ⟨?_, HB.out⟩
        rw [HR.out, if_pos HE.out]
        rfl
  · have hne : L ≠ L2 := fun h => hl (by rw [h])
    rw [if_neg hne]
    have h3 : ¬ (L.length : Int) = (L2.length : Int) := by omega
    clear hl
    go_enter Try.func63, Try.ntmps63
    go_wp2
    go_ret
    exact ⟨rfl, Below.refl _ _⟩
end Go.Proofs.Ytjijniillehfoaa

/- Words for the statements' walks: what comes in as lists of numbers, what lies in lists of blocks; an operation that stores a block. -/
namespace Go.Own
open Go Go.RowKit
theorem St.argCell {w0 w : World} {l : List Ob} (h : St w0.heap.size w0 w l) {b o : Nat} {v : Value} (hc : w0.cell? ⟨b, o, none⟩ = some v) : w.cell? ⟨b, o, none⟩ = some v := by
  have hb := World.block_lt_of_cell? w0 _ hc
  rw [cell_of_block (w := w0) (p := ⟨b, o, none⟩) (h.keep.block b hb (by show ¬ w0.heap.size ≤ b; simp only at hb; omega))]; exact hc
theorem Is.len {w : World} {k : IntKind} {a : Option Addr} {n c : Nat} {l : List Int} (h : Is w k a n c l) : n = l.length := by simpa using (Sl.len h.1).symm
theorem Ts.len {w : World} {a : Option Addr} {n c : Nat} {l : List Bool} (h : Ts w a n c l) : n = l.length := by simpa using (Sl.len h).symm
theorem Is.at {w : World} {k : IntKind} {a : Option Addr} {n c : Nat} {l : List Int} (h : Is w k a n c l) (i : Nat) (hi : i < l.length) :
    ∃ b o, a = some ⟨b, o, none⟩ ∧ w.cell? ⟨b, o + i, none⟩ = some (.int k l[i]) := Sl.cells h.1 i _ (by simp [hi])
theorem Ts.at {w : World} {a : Option Addr} {n c : Nat} {l : List Bool} (h : Ts w a n c l) (i : Nat) (hi : i < l.length) :
    ∃ b o, a = some ⟨b, o, none⟩ ∧ w.cell? ⟨b, o + i, none⟩ = some (.bool l[i]) := Sl.cells h i _ (by simp [hi])
theorem mid_cell {F : Nat → Prop} {w w' : World} (hk : Keep F w w') {b o : Nat} {v : Value} (hc : w.cell? ⟨b, o, none⟩ = some v) (hb : ¬ F b) : w'.cell? ⟨b, o, none⟩ = some v := by
  rw [cell_of_block (w := w) (p := ⟨b, o, none⟩) (hk.block b (World.block_lt_of_cell? w _ hc) hb)]; exact hc
/-- A block that is to be laid may be. -/
theorem chain_setI {b : List UInt8} {L : List Blk} (hc : Chain 184 L) (he : endOf 184 L ≤ b.length) {x : Blk} (hx : x ∈ L) : setI b x.off x.size x.used = some (setB b x) := by
  obtain ⟨h1, h2, h3⟩ := hc.mem hx
  obtain ⟨l1, l2, rfl⟩ := List.append_of_mem hx
  have hm := (Chain.append.1 hc).1.mod (by decide)
  have ho : x.off = endOf 184 l1 := (Chain.append.1 hc).2.1
  have hs := (isSize_iff _).1 h2
  unfold setI
  rw [if_pos ⟨h2, couldB_iff.2 (by omega)⟩]
  simp only [Int.toNat_natCast]
theorem byte_of {x : Int} (h : (Lit.int .u8 x).wf = true) : ∃ y : UInt8, x = (y.toNat : Nat) := by
  simp [Lit.wf, IntKind.min, IntKind.max, IntKind.bits, IntKind.signed] at h
  refine ⟨UInt8.ofNat x.toNat, ?_⟩
  rw [UInt8.toNat_ofNat']
  omega
end Go.Own
namespace Go.Proofs.Ytjijniillehfoaa
open Go Go.RowKit Go.Own
set_option linter.unusedVariables false
section
variable {B : Nat} {w0 w : World} {l : List Ob}
/-- A list of blocks of one's own: its value, its cells. -/
theorem bls_slice (h : St B w0 w l) {i : Nat} {v : Value} {L : List Blk} (hi : l[i]? = some (BlsO v L)) : ∃ a c, v = .slice a L.length c ∧ Sl w a L.length c 3 (L.map blC).flatten := by
  obtain ⟨a, c, e, _, hs⟩ := Sl.of_owned (h.own hi)
  exact ⟨a, c, e, hs⟩
theorem bls_sl (h : St B w0 w l) {i : Nat} {a : Option Addr} {n c : Nat} {L : List Blk} (hi : l[i]? = some (BlsO (.slice a n c) L)) : n = L.length ∧ Sl w a L.length c 3 (L.map blC).flatten := by
  obtain ⟨a, c, e, hs⟩ := bls_slice h hi
  cases e; exact ⟨rfl, hs⟩
/-- One of them, as its cells lie there. -/
theorem bl_at {a : Option Addr} {n c : Nat} {L : List Blk} (h : Sl w a n c 3 (L.map blC).flatten) (k : Nat) (hk : k < L.length) : ∃ b o, a = some ⟨b, o, none⟩ ∧ w.rangeAt b (o + k * 3) (blC L[k]) :=
  sl_at h blC_len (by decide) k hk
theorem range_keep {F : Nat → Prop} {w' : World} (hk : Keep F w w') {b o : Nat} {cs : List Value} (hr : w.rangeAt b o cs) (hb : ¬ F b) : w'.rangeAt b o cs := fun j v hj => mid_cell hk (hr j v hj) hb
theorem bl_cells {b o : Nat} {x : Blk} (hr : w.rangeAt b o (blC x)) : w.cell? ⟨b, o, none⟩ = some (.int .i64 x.off) ∧ w.cell? ⟨b, o + 1, none⟩ = some (.int .i64 x.size) ∧ w.cell? ⟨b, o + 2, none⟩ = some (.bool x.used) :=
  ⟨hr 0 _ rfl, hr 1 _ rfl, hr 2 _ rfl⟩
section
variable {ops : Array Oper} {rest : List Oper} {o : Oper} {a : Act} {Q : Exit → Act → World → Prop} {K : Act → World → Prop}
/-- 'v = l[k]'. -/
theorem bl_mid (hgd : Region.wanted o (yielded ops a.tmps) = true) (x : Operand) (ho : o.op = .load 77 x) (b o' : Nat) (hx : a.eval x = .pointer (some ⟨b, o', none⟩)) (y : Blk) (hr : w.rangeAt b o' (blC y))
    (hk : wpList Try.prog ops Q rest (a.put o.dst (.agg #[.int .i64 y.off, .int .i64 y.size, .bool y.used])) w) : wpList Try.prog ops Q (o :: rest) a w :=
  at_wanted hgd fun _ hK => wp_load_mid 77 x ho b o' hx (blC y) _ hr Try.underlying77 rfl size_bl (hK _ _ hk)
/-- 'x = v', at an operation. -/
theorem bk_store_at (h : St B w0 w l) (i : Nat) {g : Nat} {p q : Int} {r : Bool} (hi : l[i]? = some (BkO g p q r)) (x y : Operand) (ho : o.op = .store 77 x y)
    (hx : a.eval x = .pointer (some ⟨g, 0, none⟩)) (p' q' : Int) (r' : Bool) (hy : a.eval y = .agg #[.int .i64 p', .int .i64 q', .bool r'])
    (hk : ∀ w', St B w0 w' (l.set i (BkO g p' q' r')) → Keep (· = g) w w' → K (a.put o.dst undef) w') : o.wp Try.prog a w K Q := by
  have hg := h.row hi
  have hs : (Try.prog.info? 77).map (·.size) = some 3 := size_bl
  cases hinf : Try.prog.info? 77 with
  | none => rw [hinf] at hs; cases hs
  | some inf =>
    have hst := run_storeVar_row (P := Try.prog) w g 77 77 #[.int .i64 p, .int .i64 q, .bool r] #[.int .i64 p', .int .i64 q', .bool r'] hg (by rw [hinf] at hs ⊢; simpa using hs) rfl (by simp [Value.oneCell'])
    unfold Oper.wp execOp
    simp only [ho, hx, hy, Instr.storeAt, Instr.sureAddr]
    simp [Sem.run_bind, Result.andThen, hst]
    have hrow : Row (w.setRow g #[.int .i64 p', .int .i64 q', .bool r']) g 77 [.int .i64 p', .int .i64 q', .bool r'] := setRow_heap w g #[.int .i64 p, .int .i64 q, .bool r] #[.int .i64 p', .int .i64 q', .bool r'] 77 (0, 0) hg
    have hkp : Keep (· = g) w (w.setRow g #[.int .i64 p', .int .i64 q', .bool r']) := ⟨rfl, rfl, rfl, by simp, fun k _ hk => setRow_other w g k #[.int .i64 p', .int .i64 q', .bool r'] hk⟩
    exact hk _ (h.rowTo hi _ _ hrow hkp) hkp
end
end
end Go.Proofs.Ytjijniillehfoaa

/- The lists emptied, and made anew: the program's Clear and Rebuild. -/
namespace Go.Own
theorem clear_lay {b : List UInt8} (h : 184 ≤ b.length) : lay b 0 (List.replicate 184 0) = clearB b := by
  unfold lay clearB
  rw [List.take_zero, List.nil_append, List.length_replicate, Nat.zero_add]
end Go.Own
namespace Go.Proofs.Ytjijniillehfoaa
open Go Go.RowKit Go.Own
set_option linter.unusedVariables false
set_option maxRecDepth 100000
section
variable {B : Nat} {w0 w : World} {l : List Ob} {i p bs cp : Nat} {b : List UInt8}
theorem ls_Clear_ok (h : St B w0 w (l.set i (ArT p ⟨bs, cp, b⟩))) (hil : i < l.length) (hlen : 184 ≤ b.length) :
    Calls Try.prog 191 #[arP p] w fun e w' => e = .returned .nilIface ∧ St B w0 w' (l.set i (ArT p ⟨bs, cp, clearB b⟩)) := by
  obtain ⟨hsm, hbs⟩ := ls_small h hil
  have KL := Lib.hid (ar_Len h (at_set hil _)); have KB := Lib.hid (ar_Base h (at_set hil _))
  have kf := ar_Fill h (at_set hil _) (bs : Int) 184 0 (by omega) (by omega) (by decide) (by decide)
  have ht : (⟨bs, cp, b⟩ : Ar).there (bs : Int) 184 = true := Ar.there_iff.2 ⟨Int.le_refl _, by simp only; omega⟩
  have hfl : (⟨bs, cp, b⟩ : Ar).fill (bs : Int) 184 0 = (0, ⟨bs, cp, clearB b⟩) := by
    unfold Ar.fill
    rw [if_pos ht]
    have : (⟨bs, cp, b⟩ : Ar).at' (bs : Int) = 0 := by unfold Ar.at'; simp
    rw [this, show (184 : Int).toNat = 184 from rfl, clear_lay hlen]
  rw [hfl, errV_0, List.set_set, show (((0 : UInt8).toNat : Nat) : Int) = 0 from rfl] at kf
  have KF := Lib.hid kf
  have d3 : decide ((b.length : Int) < 184) = false := decide_eq_false (by omega)
  clear h kf ht hfl
  go_enter Try.func191, Try.ntmps191
  go_wp2_with fail
  have kc := KL.out
  with_reducible refine kc.mono ?_
  clear kc
  rintro e w' ⟨rfl, rfl⟩
  go_wp2_with fail
  have kc := KB.out
  with_reducible refine kc.mono ?_
  clear kc
  rintro e w' ⟨rfl, rfl⟩
  go_wp2_with fail
  have kc := KF.out
  with_reducible refine kc.mono ?_
  clear kc
  rintro e w3 ⟨rfl, t3⟩
  have T3 := Lib.hid t3
  clear t3
  go_wp2
  go_ret
  exact ⟨rfl, T3.out⟩
set_option maxHeartbeats 8000000 in
theorem fit_Rebuild (h : St B w0 w (l.set i (ArT p ⟨bs, cp, b⟩))) (hil : i < l.length) :
    Calls Try.prog 93 #[arP p] w fun e w' => e = .returned (errP (rebuildB b)) ∧ St B w0 w' (l.set i (ArT p ⟨bs, cp, (rebuildB b).getD b⟩)) := by
  obtain ⟨hsm, hbs⟩ := ls_small h hil
  have kw := blk_Walk h (at_set hil _)
  simp only at kw
  have H := Lib.hid h
  clear h
  cases hW : walkB b with
  | none =>
    have hr : rebuildB b = none := by unfold rebuildB; rw [hW]; rfl
    rw [hW, show errW none = .iface 183 (.int .i64 3) from rfl] at kw
    rw [hr]
    have KW := Lib.hid kw
    clear kw hr hW
    go_enter Try.func93, Try.ntmps93
    go_wp2_with fail
    have kc := KW.out
    with_reducible refine kc.mono ?_
    clear kc
    rintro e w3 ⟨v3', rfl, t3⟩
    have T3 := Lib.hid t3
    clear t3
    go_wp2
    go_ret
    exact ⟨rfl, T3.out.tail⟩
  | some L =>
    have hr : rebuildB b = some (putAll (clearB b) L) := by unfold rebuildB; rw [hW]; rfl
    rw [hW, show errW (some L) = .nilIface from rfl, Option.getD_some] at kw
    rw [hr, show errP (some (putAll (clearB b) L)) = .nilIface from rfl, Option.getD_some]
    have KW := Lib.hid kw
    obtain ⟨hlen, htile⟩ := (walkB_tile b L).1 hW
    have hpre := putAll_pre htile hlen hsm
    have HP := Lib.hid hpre
    have hc0 : (clearB b).length = b.length := clearB_length hlen
    have hLl : L.length ≤ 40000 := by
      have hp := htile.offs
      have := nodup_len b.length (L.map (·.off)) (List.Pairwise.map _ (fun _ _ h => h) hp) fun x hx => by
        obtain ⟨y, hy, rfl⟩ := List.mem_map.1 hx
        have := htile.mem hy; have := blkAt_some this.2.1; omega
      rw [List.length_map] at this; omega
    clear kw hr hW htile hpre
    go_enter Try.func93, Try.ntmps93
    go_wp2_with fail
    have kc := KW.out
    with_reducible refine kc.mono ?_
    clear kc
    rintro e w3 ⟨v3', rfl, t3⟩
    have T3 := Lib.hid t3
    clear t3
    have kcl := ls_Clear_ok (l := BlsO v3' L :: l) (i := i + 1) T3.out (by simp only [List.length_cons]; omega) hlen
    have KCL := Lib.hid kcl
    obtain ⟨a3, c3, e3, _⟩ := bls_slice T3.out (i := 0) rfl
    subst e3
    clear kcl
    go_wp2_with fail
    have kc := KCL.out
    with_reducible refine kc.mono ?_
    clear kc
    rintro e w4 ⟨rfl, t4⟩
    have T4 := Lib.hid t4
    clear t4
    go_wp2
    go_loopw [24] (fun vi wr => ∃ k : Nat, k ≤ L.length ∧ vi = .int .i64 k ∧ St B w0 wr (BlsO (.slice a3 L.length c3) L :: l.set i (ArT p ⟨bs, cp, putAll (clearB b) (L.take k)⟩))) (fun vi _ => L.length - (intOf vi).toNat)
    case atStart => exact ⟨0, Nat.zero_le _, rfl, T4.out⟩
    case round =>
      obtain ⟨k, hk, rfl, hS⟩ := hrel
      clear T4 T3
      by_cases hlt : k < L.length
      · obtain ⟨bb, bo, rfl, hr⟩ := bl_at (bls_sl hS (i := 0) rfl).2 k hlt
        obtain ⟨_, _, hput⟩ := HP.out k hk
        have hput := hput hlt
        have hsn : putAll (clearB b) (L.take (k + 1)) = if L[k].used then putAll (clearB b) (L.take k) else (putB (putAll (clearB b) (L.take k)) L[k].off).getD (putAll (clearB b) (L.take k)) := by
          rw [List.take_succ_eq_append_getElem hlt, putAll_snoc]
        generalize L[k] = x at *
        have HS := Lib.hid hS; have HR := Lib.hid hr; have HPU := Lib.hid hput; have HSN := Lib.hid hsn
        clear hS hr hput hsn
        cases hu : x.used with
        | true =>
          have hn : putAll (clearB b) (L.take (k + 1)) = putAll (clearB b) (L.take k) := by rw [HSN.out, hu]; rfl
          have HN := Lib.hid hn
          clear hn
          go_wp2_with (first | (refine bl_mid rfl _ rfl bb (bo + k * 3) rfl x HR.out ?_) | (refine bk_alloc HS.out rfl rfl ?_; intro g4 w4 h4; have T4 := Lib.hid h4; clear h4) | (refine bk_store T4.out 0 rfl rfl _ _ rfl rfl x.off x.size x.used rfl ?_; intro w5 h5; have T5 := Lib.hid h5; clear h5 T4; have k2 : w5.cell? ⟨g4, 2, none⟩ = some (.bool x.used) := (T5.out.row (i := 0) rfl).cell 2))
          refine ⟨⟨k + 1, hlt, by go_num, ?_⟩, by simp [intOf]; omega⟩
          rw [HN.out]; exact T5.out.tail
        | false =>
          obtain ⟨b', hb1, hb2⟩ := HPU.out hu
          have hP : putI (putAll (clearB b) (L.take k)) (x.off : Int) = some b' := by unfold putI; rw [if_pos (Int.natCast_nonneg _), Int.toNat_natCast]; exact hb1
          have HPI := Lib.hid hP; have HN := Lib.hid hb2
          clear hb1 hb2 hP
          go_wp2_with (first | (refine bl_mid rfl _ rfl bb (bo + k * 3) rfl x HR.out ?_) | (refine bk_alloc HS.out rfl rfl ?_; intro g4 w4 h4; have T4 := Lib.hid h4; clear h4) | (refine bk_store T4.out 0 rfl rfl _ _ rfl rfl x.off x.size x.used rfl ?_; intro w5 h5; have T5 := Lib.hid h5; clear h5 T4; have k2 : w5.cell? ⟨g4, 2, none⟩ = some (.bool x.used) := (T5.out.row (i := 0) rfl).cell 2; have k0 : w5.cell? ⟨g4, 0, none⟩ = some (.int .i64 x.off) := (T5.out.row (i := 0) rfl).cell 0))
          have kc := ls_Put (l := BkO g4 x.off x.size x.used :: BlsO (.slice (some ⟨bb, bo, none⟩) L.length c3) L :: l) (i := i + 2) T5.out (by simp only [List.length_cons]; omega) (x.off : Int)
          rw [HPI.out, show errP (some b') = .nilIface from rfl, Option.getD_some] at kc
          with_reducible refine kc.mono ?_
          clear kc
          rintro e w6 ⟨rfl, t6⟩
          have T6 := Lib.hid t6
          clear t6
          go_wp2
          refine ⟨⟨k + 1, hlt, by go_num, ?_⟩, by simp [intOf]; omega⟩
          rw [HN.out]; exact T6.out.tail
      · obtain rfl : k = L.length := by omega
        rw [List.take_length] at hS
        have HS := Lib.hid hS
        clear hS
        go_wp2
        go_ret
        exact ⟨rfl, HS.out.tail⟩
end
end Go.Proofs.Ytjijniillehfoaa

/- Which free block is found: the program's Find. -/
namespace Go.Own
theorem findFrom_succ {b : List UInt8} {S f c : Nat} : findFrom b S (f + 1) c = match allB b c with
    | none => none
    | some l => match firstFit b S l with
      | some o => some o
      | none => findFrom b S f (c + 1) := rfl
theorem firstFit_cons {b : List UInt8} {S o : Nat} {l : List Nat} : firstFit b S (o :: l) = match blkAt b o with
    | some x => if S ≤ x.size then some o else firstFit b S l
    | none => firstFit b S l := rfl
end Go.Own
namespace Go.Proofs.Ytjijniillehfoaa
open Go Go.RowKit Go.Own
set_option linter.unusedVariables false
set_option maxRecDepth 100000
/-- What Find tells. -/
def fndV (x : Option Nat) : Value := match x with | none => .tuple #[.int .i64 0, .iface 183 (.int .i64 3)] | some o => .tuple #[.int .i64 (o : Nat), .nilIface]
section
variable {B : Nat} {w0 w : World} {l : List Ob} {i p bs cp : Nat} {b : List UInt8}
theorem fit_Find_bad (h : St B w0 w l) (s : Int) (s0 : -9223372036854775808 ≤ s) (s1 : s ≤ 9223372036854775807) (hs : isSize s = false) :
    Calls Try.prog 94 #[arP p, .int .i64 s] w fun e w' => e = .returned (.tuple #[.int .i64 0, .iface 183 (.int .i64 1)]) ∧ St B w0 w' l := by
  have kc0 := class_Class w s s0 s1
  have hc : cls s = -1 := by unfold cls; rw [hs]; rfl
  rw [hc] at kc0
  have KC := Lib.hid kc0
  have H := Lib.hid h
  clear kc0 hc hs h
  go_enter Try.func94, Try.ntmps94
  go_wp2_with fail
  have kc := KC.out
  with_reducible refine kc.mono ?_
  clear kc
  rintro e w' ⟨rfl, rfl⟩
  go_wp2
  go_ret2
  exact ⟨rfl, H.out⟩
set_option maxHeartbeats 8000000 in
theorem fit_Find (h : St B w0 w (l.set i (ArT p ⟨bs, cp, b⟩))) (hil : i < l.length) (S : Nat) (hs : isSize (S : Int) = true) :
    Calls Try.prog 94 #[arP p, .int .i64 S] w fun e w' => e = .returned (fndV (findB b S)) ∧ St B w0 w' (l.set i (ArT p ⟨bs, cp, b⟩)) := by
  obtain ⟨hsm, hbs⟩ := ls_small h hil
  have hsz := (isSize_iff _).1 hs
  have kc0 := class_Class w (S : Int) (by omega) (by omega)
  have hcs := cls_size hs
  obtain ⟨C, hC⟩ : ∃ C : Nat, cls S = C := ⟨(cls S).toNat, by omega⟩
  have hF : findB b S = findFrom b S (22 - C) C := by unfold findB; rw [hC, Int.toNat_natCast]
  rw [hC] at kc0 hcs
  obtain ⟨R, hR⟩ : ∃ R, findB b S = R := ⟨_, rfl⟩
  rw [hR] at hF ⊢
  have KC := Lib.hid kc0
  have H := Lib.hid h; have HF := Lib.hid hF
  have d1 : decide ((C : Int) < 0) = false := decide_eq_false (by omega)
  have hC22 : C ≤ 22 := by omega
  clear kc0 hs h hF hC hR hcs
  go_enter Try.func94, Try.ntmps94
  go_wp2_with fail
  have kc := KC.out
  with_reducible refine kc.mono ?_
  clear kc
  rintro e w' ⟨rfl, rfl⟩
  go_wp2
  go_loopw [6] (fun vc wr => ∃ f c : Nat, vc = .int .i64 c ∧ c + f = 22 ∧ R = findFrom b S f c ∧ St B w0 wr (l.set i (ArT p ⟨bs, cp, b⟩))) (fun vc _ => 22 - (intOf vc).toNat)
  case atStart => exact ⟨22 - C, C, rfl, by omega, HF.out, H.out⟩
  case round =>
    obtain ⟨f, c, rfl, hcf, hR, hS⟩ := hrel
    cases f with
    | zero =>
      obtain rfl : c = 22 := by omega
      have HR := Lib.hid (show R = some 0 from hR); have HS := Lib.hid hS
      clear hR hS
      go_wp2
      go_ret2
      exact ⟨by rw [HR.out]; rfl, HS.out⟩
    | succ f =>
      have hc : c < 22 := by omega
      rw [findFrom_succ] at hR
      have ka := ls_All hS hil c hc
      have d2 : decide ((c : Int) < 22) = true := decide_eq_true (by omega)
      cases hA : allB b c with
      | none =>
        rw [hA] at hR
        rw [hA, show errA none = .iface 183 (.int .i64 3) from rfl] at ka
        have HR := Lib.hid (show R = none from hR); have KA := Lib.hid ka
        clear hR hS ka hA
        go_wp2_with fail
        have kc := KA.out
        with_reducible refine kc.mono ?_
        clear kc
        rintro e w4 ⟨v4', rfl, t4⟩
        have T4 := Lib.hid t4
        clear t4
        go_wp2
        go_ret2
        exact ⟨by rw [HR.out]; rfl, T4.out.tail⟩
      | some L =>
        rw [hA] at hR
        rw [hA, show errA (some L) = .nilIface from rfl, Option.getD_some] at ka
        simp only at hR
        have HR := Lib.hid hR; have KA := Lib.hid ka
        clear hR hS ka hA
        go_wp2_with fail
        have kc := KA.out
        with_reducible refine kc.mono ?_
        clear kc
        rintro e w4 ⟨v4', rfl, t4⟩
        have T4 := Lib.hid t4
        clear t4
        obtain ⟨a4, c4, e4, hs4⟩ := ints_slice T4.out (i := 0) rfl
        subst e4
        have hLb := Sl.cap hs4; have hLr := Sl.room hs4
        clear hs4
        go_wp2
        go_loopw [33] (fun vk wr => ∃ k : Nat, k ≤ L.length ∧ vk = .int .i64 k ∧ (R = match firstFit b S (L.drop k) with | some o => some o | none => findFrom b S f (c + 1)) ∧ St B w0 wr (IntsO (.slice a4 L.length c4) L :: l.set i (ArT p ⟨bs, cp, b⟩))) (fun vk _ => L.length - (intOf vk).toNat)
        case atStart => exact ⟨0, Nat.zero_le _, rfl, HR.out, T4.out⟩
        case round =>
          obtain ⟨k, hk, rfl, hR, hS⟩ := hrel
          clear T4 HR
          by_cases hlt : k < L.length
          · obtain ⟨a5, c5, e5, hs5⟩ := ints_slice hS (i := 0) rfl
            obtain ⟨bb, bo, e6, hcell⟩ := Sl.cells hs5 k (.int .i64 (L[k] : Nat)) (by simp [hlt])
            cases e5
            subst e6
            have d3 : decide ((k : Int) < (L.length : Int)) = true := decide_eq_true (by omega)
            rw [List.drop_eq_getElem_cons hlt, firstFit_cons] at hR
            have hcell : wr.cell? ⟨bb, bo + k, none⟩ = some (.int .i64 (L[k] : Nat)) := hcell
            generalize L[k] = O at *
            have kg := blk_Get hS (i := i + 1) (at_set hil _) (O : Int)
            rw [show ({ base := bs, cap := cp, b := b } : Ar).b = b from rfl, blkI_nat] at kg
            clear hs5 hS
            cases hb : blkAt b O with
            | none =>
              rw [hb] at hR
              simp only at hR
              rw [hb, show bkV none = .agg #[.int .i64 0, .int .i64 0, .bool false] from rfl, show errO none = .iface 183 (.int .i64 3) from rfl] at kg
              have HR := Lib.hid hR; have KG := Lib.hid kg
              clear hR kg hb
              go_wp2_with fail
              have kc := KG.out
              with_reducible refine kc.mono ?_
              clear kc
              rintro e w6 ⟨rfl, t6⟩
              have T6 := Lib.hid t6
              clear t6
              go_wp2_with (first | (refine bk_alloc T6.out rfl rfl ?_; intro g7 w7 h7; have T7 := Lib.hid h7; clear h7) | (refine bk_store T7.out 0 rfl rfl _ _ rfl rfl 0 0 false rfl ?_; intro w8 h8; have T8 := Lib.hid h8; clear h8 T7))
              exact ⟨⟨k + 1, hlt, by go_num, HR.out, T8.out.tail⟩, by simp [intOf]; omega⟩
            | some x =>
              rw [hb] at hR
              simp only at hR
              rw [hb, show bkV (some x) = .agg #[.int .i64 x.off, .int .i64 x.size, .bool x.used] from rfl, show errO (some x) = .nilIface from rfl] at kg
              have KG := Lib.hid kg
              clear kg hb
              by_cases hle : S ≤ x.size
              · have d4 : decide ((S : Int) ≤ (x.size : Int)) = true := decide_eq_true (by omega)
                rw [if_pos hle] at hR
                have HR := Lib.hid (show R = some O from hR)
                clear hR
                go_wp2_with fail
                have kc := KG.out
                with_reducible refine kc.mono ?_
                clear kc
                rintro e w6 ⟨rfl, t6⟩
                have T6 := Lib.hid t6
                clear t6
                go_wp2_with (first | (refine bk_alloc T6.out rfl rfl ?_; intro g7 w7 h7; have T7 := Lib.hid h7; clear h7) | (refine bk_store T7.out 0 rfl rfl _ _ rfl rfl x.off x.size x.used rfl ?_; intro w8 h8; have T8 := Lib.hid h8; clear h8 T7; have k1 : w8.cell? ⟨g7, 1, none⟩ = some (.int .i64 x.size) := (T8.out.row (i := 0) rfl).cell 1))
                go_ret2
                exact ⟨by rw [HR.out]; rfl, T8.out.tail.tail⟩
              · have d4 : decide ((S : Int) ≤ (x.size : Int)) = false := decide_eq_false (by omega)
                rw [if_neg hle] at hR
                have HR := Lib.hid hR
                clear hR
                go_wp2_with fail
                have kc := KG.out
                with_reducible refine kc.mono ?_
                clear kc
                rintro e w6 ⟨rfl, t6⟩
                have T6 := Lib.hid t6
                clear t6
                go_wp2_with (first | (refine bk_alloc T6.out rfl rfl ?_; intro g7 w7 h7; have T7 := Lib.hid h7; clear h7) | (refine bk_store T7.out 0 rfl rfl _ _ rfl rfl x.off x.size x.used rfl ?_; intro w8 h8; have T8 := Lib.hid h8; clear h8 T7; have k1 : w8.cell? ⟨g7, 1, none⟩ = some (.int .i64 x.size) := (T8.out.row (i := 0) rfl).cell 1))
                exact ⟨⟨k + 1, hlt, by go_num, HR.out, T8.out.tail⟩, by simp [intOf]; omega⟩
          · obtain rfl : k = L.length := by omega
            rw [List.drop_length] at hR
            have HR := Lib.hid (show R = findFrom b S f (c + 1) from hR); have HS := Lib.hid hS
            have d3 : decide ((L.length : Int) < (L.length : Int)) = false := decide_eq_false (by omega)
            clear hR hS
            go_wp2
            exact ⟨⟨f, c + 1, by go_num, by omega, HR.out, HS.out.tail⟩, by simp [intOf]; omega⟩
end
end Go.Proofs.Ytjijniillehfoaa

/- The reference's arena: its contracts. -/
namespace Go.Proofs.Ytjijniillehfoaa
open Go Go.RowKit Go.Own
set_option linter.unusedVariables false
set_option maxRecDepth 100000
abbrev ArR (w : World) (p : Nat) (A : Ar) (v : Value) : Prop := ArAt 56 5 w p A v
abbrev RaT (p : Nat) (A : Ar) : Ob := ArO 56 5 p A
theorem rar_There_ok (w : World) (p : Nat) (A : Ar) (v : Value) (h : ArR w p A v) (addr : Int) (i : Nat) (hi : addr = A.base + i) (n : Int) (m : Nat) (hn : n = m) (hf : i + m ≤ A.b.length) :
    Calls Try.prog 218 #[arP p, .int .u64 addr, .int .u64 n] w fun e w' => e = .returned (.tuple #[.int .i64 i, .bool true]) ∧ Below w.heap.size w w' := by
  obtain ⟨a, c, rfl, hB, hg, hcr⟩ := h.form
  have q0 : w.cell? ⟨p, 0, none⟩ = some (.int .u64 A.base) := h.row.cell 0
  have q2 : w.cell? ⟨p, 2, none⟩ = some (.slice a A.b.length c) := h.row.cell 2
  have hb := h.hbase; have hc1 := h.hcap; have hc2 := h.hlen
  have g1 : (A.base : Int) ≤ addr := by omega
  have g2 : addr - (A.base : Int) ≤ (A.b.length : Int) := by omega
  have g3 : n ≤ (A.b.length : Int) - (addr - (A.base : Int)) := by omega
  have g4 : 0 ≤ n := by omega
  have HE := Lib.hid (show addr - (A.base : Int) = (i : Int) by omega)
  clear h hB hg hi hn hf
  have s1 : IntKind.u64.wrap (addr - (A.base : Int)) = addr - (A.base : Int) := wrapU64 (by omega) (by omega)
  have s3 : IntKind.u64.wrap (A.b.length : Int) = A.b.length := wrapU64 (by omega) (by omega)
  have d1 : decide (addr < (A.base : Int)) = false := by simp; omega
  have d2 : decide ((A.b.length : Int) < addr - (A.base : Int)) = false := by simp; omega
  have d3 : decide ((A.b.length : Int) < n) = false := by simp; omega
  go_enter Try.func218, Try.ntmps218
  go_wp2
  go_quiet (fail)
  clear s1 s3 d1 d2 d3
  go_wp2
  go_ret2
  exact ⟨by simp [HE.out], below_drewN (Below.refl _ _) _⟩
theorem rar_There_bad (w : World) (p : Nat) (A : Ar) (v : Value) (h : ArR w p A v) (addr n : Int) (h0 : 0 ≤ addr) (h1 : addr ≤ 18446744073709551615) (n0 : 0 ≤ n) (n1 : n ≤ 18446744073709551615) (hf : ¬ ((A.base : Int) ≤ addr ∧ addr - A.base + n ≤ A.b.length)) :
    Calls Try.prog 218 #[arP p, .int .u64 addr, .int .u64 n] w fun e w' => e = .returned (.tuple #[.int .i64 0, .bool false]) ∧ Below w.heap.size w w' := by
  obtain ⟨a, c, rfl, hB, hg, hcr⟩ := h.form
  have q0 : w.cell? ⟨p, 0, none⟩ = some (.int .u64 A.base) := h.row.cell 0
  have q2 : w.cell? ⟨p, 2, none⟩ = some (.slice a A.b.length c) := h.row.cell 2
  have hb := h.hbase; have hc1 := h.hcap; have hc2 := h.hlen
  clear h hB hg
  have s3 : IntKind.u64.wrap (A.b.length : Int) = A.b.length := wrapU64 (by omega) (by omega)
  by_cases c1 : addr < A.base
  · have d1 : decide (addr < (A.base : Int)) = true := by simp; omega
    clear hf
    go_enter Try.func218, Try.ntmps218
    go_wp2
    go_quiet (fail)
    clear s3 d1
    go_wp2
    go_ret2
    exact ⟨rfl, below_drewN (Below.refl _ _) _⟩
  · have d1 : decide (addr < (A.base : Int)) = false := by simp; omega
    have s1 : IntKind.u64.wrap (addr - (A.base : Int)) = addr - (A.base : Int) := wrapU64 (by omega) (by omega)
    by_cases c2 : (A.b.length : Int) < addr - A.base
    · have d2 : decide ((A.b.length : Int) < addr - (A.base : Int)) = true := by simp; omega
      clear hf
      go_enter Try.func218, Try.ntmps218
      go_wp2
      go_quiet (fail)
      clear s1 s3 d1 d2
      go_wp2
      go_ret2
      exact ⟨rfl, below_drewN (Below.refl _ _) _⟩
    · have d2 : decide ((A.b.length : Int) < addr - (A.base : Int)) = false := by simp; omega
      by_cases c3 : (A.b.length : Int) < n
      · have d3 : decide ((A.b.length : Int) < n) = true := by simp; omega
        clear hf
        go_enter Try.func218, Try.ntmps218
        go_wp2
        go_quiet (fail)
        clear s1 s3 d1 d2 d3
        go_wp2
        go_ret2
        exact ⟨rfl, below_drewN (Below.refl _ _) _⟩
      · have d3 : decide ((A.b.length : Int) < n) = false := by simp; omega
        have c4 : (A.b.length : Int) - (addr - A.base) < n := by omega
        clear hf
        go_enter Try.func218, Try.ntmps218
        go_wp2
        go_quiet (fail)
        clear s1 s3 d1 d2 d3
        go_wp2
        go_ret2
        exact ⟨rfl, below_drewN (Below.refl _ _) _⟩
section
variable {B : Nat} {w0 w : World} {l : List Ob} {i p : Nat} {A : Ar}
theorem rar_Load (h : St B w0 w l) (hi : l[i]? = some (RaT p A)) (addr n : Int) (h0 : 0 ≤ addr) (h1 : addr ≤ 18446744073709551615) (n0 : 0 ≤ n) (n1 : n ≤ 18446744073709551615) :
    Calls Try.prog 143 #[arP p, .int .u64 addr, .int .u64 n] w fun e w' => ∃ v, e = .returned (.tuple #[v, .int .i64 (A.load addr n).1]) ∧ St B w0 w' (OwB v (A.load addr n).2 :: l) := by
  obtain ⟨v, ha⟩ := h.ar hi
  unfold Ar.load
  split
  · rename_i ht
    obtain ⟨m, rfl⟩ := Int.eq_ofNat_of_zero_le n0
    have hle := Ar.there_le (m := m) ht rfl
    have K := Lib.hid (rar_There_ok w p A v ha addr _ (Ar.there_at ht) m m rfl hle)
    obtain ⟨a, c, rfl, hB, _, _⟩ := ha.form
    have q2 : w.cell? ⟨p, 2, none⟩ = some (.slice a A.b.length c) := ha.row.cell 2
    have hc2 := ha.hlen; have hc1 := ha.hcap
    generalize A.at' addr = j at *
    have hs5 : (Try.prog.info? 5).map (·.size) = some 1 := by kernel_rfl
    obtain ⟨x1, y1, e1, z1, _⟩ := piece Try.underlying31 hs5 hB .i64 .i64 (j : Int) ((j : Int) + (m : Int)) j (j + m) rfl (by simp) (by omega) (by omega)
    rw [show j + m - j = m by omega, List.drop_take, show j + m - j = m by omega] at z1
    rw [show j + m - j = m by omega] at e1
    have H := Lib.hid h; have Z1 := Lib.hid z1; have HR := Lib.hid ha.row
    have hlz : ((A.b.drop j).take m).length = m := by simp; omega
    clear h hi ha hB ht z1 q2
    go_enter Try.func143, Try.ntmps143
    go_wp2_with fail
    refine K.out.mono ?_
    rintro e w1 ⟨rfl, b1⟩
    have q2 : w1.cell? ⟨p, 2, none⟩ = some (.slice a A.b.length c) := (HR.out.below b1).cell 2
    have hlt1 : p < w1.heap.size := (HR.out.below b1).lt
    have H1 := Lib.hid (H.out.below b1); have B1 := Lib.hid b1; have Z2 := Lib.hid (Z1.out.below b1)
    clear b1
    go_wp2_with (at_builtin; go_must (refine app_sl rfl _ _ 31 rfl w1.heap.size 5 (.int .u8 0) 1 1 Try.underlying31 info_u8 rfl (by decide) _ 0 [] rfl (own_empty w1 _ _) _ _ _ _ rfl (Z2.out.below ((Below.refl _ _).alloc (Nat.le_refl _) _)) (bv_one _) (by omega) (by omega) (by simp) ?_; intro v1 w2 hown1 hg1))
    go_ret2
    refine ⟨v1, rfl, H1.out.addOwn (((Below.refl _ _).alloc (Nat.le_refl _) _).trans hg1) ?_⟩
    exact ownsRow_map hown1 (by simp; omega) (by simp)
  · rename_i ht
    have K := Lib.hid (rar_There_bad w p A v ha addr n h0 h1 n0 n1 (Ar.there_no ht))
    have H := Lib.hid h
    clear h hi ha ht
    go_enter Try.func143, Try.ntmps143
    go_wp2_with fail
    refine K.out.mono ?_
    rintro e w1 ⟨rfl, b1⟩
    have H1 := Lib.hid (H.out.addOwn b1 (World.ownsRow_nil _ _ 5 1))
    clear b1
    go_wp2
    go_ret2
    exact ⟨_, rfl, H1.out⟩
theorem rar_Word (h : St B w0 w l) (hi : l[i]? = some (RaT p A)) (addr : Int) (h0 : 0 ≤ addr) (h1 : addr ≤ 18446744073709551615) :
    Calls Try.prog 147 #[arP p, .int .u64 addr] w fun e w' => e = .returned (.tuple #[.int .u64 ((A.word addr).2 : Nat), .int .i64 (A.word addr).1]) ∧ St B w0 w' l := by
  have hk := rar_Load h hi addr 8 h0 h1 (by decide) (by decide)
  have K := Lib.hid hk
  have hn : num (A.load addr 8).2 = (A.word addr).2 ∧ (A.load addr 8).1 = (A.word addr).1 ∧ (A.load addr 8).2.length ≤ 8 := by
    unfold Ar.load Ar.word
    split
    · rename_i ht
      have hle := Ar.there_le (m := 8) ht rfl
      refine ⟨?_, rfl, by simp; omega⟩
      unfold numAt
      rw [if_pos hle]
      rfl
    · exact ⟨rfl, rfl, by simp⟩
  have HN := Lib.hid hn
  clear h hi hk hn
  go_enter Try.func147, Try.ntmps147
  go_wp2_with fail
  refine K.out.mono ?_
  rintro e w1 ⟨v, rfl, h1⟩
  obtain ⟨a, c, rfl, h2⟩ := h1.ownBs
  have hb := h2.bsO (i := 0) rfl
  have H1 := Lib.hid h2.tail; have HB := Lib.hid hb
  clear h1 h2 hb
  go_wp2_with fail
  refine (ref_Num w1 a _ c _ HB.out HN.out.2.2).mono ?_
  rintro e w' ⟨rfl, rfl⟩
  rw [HN.out.1, HN.out.2.1]
  go_wp2
  go_ret2
  exact ⟨rfl, H1.out⟩
end
end Go.Proofs.Ytjijniillehfoaa

/- The reference's arena: Store, Copy, Fill, Grow, Widen. -/
namespace Go.Proofs.Ytjijniillehfoaa
open Go Go.RowKit Go.Own
set_option linter.unusedVariables false
set_option maxRecDepth 100000
set_option maxHeartbeats 4000000 in
theorem rar_Store_ok (w : World) (p : Nat) (A : Ar) (v : Value) (h : ArR w p A v) (addr : Int) (i : Nat) (hi : addr = A.base + i) (a : Option Addr) (n c : Nat) (b : List UInt8) (hb : Bs w a n c b) (hd : ∀ q, a = some q → 0 < b.length → ¬ v.ownBlock = some q.block) (hf : i + b.length ≤ A.b.length) :
    Calls Try.prog 145 #[arP p, .int .u64 addr, .slice a n c] w fun e w' => e = .returned (.int .i64 0) ∧ ArR w' p { A with b := lay A.b i b } v ∧ Keep (fun k => v.ownBlock = some k) w w' := by
  have hn := hb.len
  subst hn
  have hl1 := h.hlen; have hl2 := h.hcap
  have K := Lib.hid (rar_There_ok w p A v h addr i hi b.length b.length rfl hf)
  have hap := Lib.hid (h.apart (by decide))
  have H := Lib.hid h; have HB := Lib.hid hb; have HD := Lib.hid hd
  clear h hb hi hd
  go_enter Try.func145, Try.ntmps145
  go_wp2_with fail
  refine K.out.mono ?_
  rintro e w1 ⟨rfl, b1⟩
  have H1 := Lib.hid (H.out.below b1); have HB1 := Lib.hid (HB.out.below b1); have B1 := Lib.hid b1
  clear b1
  by_cases h0 : 0 < b.length
  · obtain ⟨aa, cap, hv, _⟩ := H.out.form
    subst hv
    obtain ⟨g, rfl⟩ := H.out.at_ i b.length hf h0
    have hpg : ¬ p = g := fun e => hap.out (by rw [e]; rfl)
    go_wp2
    go_loopw [9] (fun x wr => ∃ k : Nat, k ≤ b.length ∧ x = .int .i64 k ∧ ArR wr p { A with b := lay A.b i (b.take k) } (.slice (some ⟨g, 0, none⟩) A.b.length cap) ∧ Keep (· = g) w1 wr) (fun x _ => b.length - (intOf x).toNat)
    case atStart => exact ⟨0, Nat.zero_le _, rfl, by rw [List.take_zero, lay_nil]; exact H1.out, Keep.refl _ _⟩
    case round =>
      obtain ⟨k, hk, rfl, hA, hK⟩ := hrel
      by_cases hlt : k < b.length
      · have hll : (lay A.b i (b.take k)).length = A.b.length := lay_length _ _ _ (by rw [List.length_take]; omega)
        obtain ⟨q1, q2, q3, q4⟩ := setByte (by decide) hA.drew (i + k) (by show i + k < (lay A.b i (b.take k)).length; rw [hll]; omega) b[k]
        simp only at q3
        rw [lay_snoc A.b b i k (by omega) hlt] at q3
        have HW := hA.row.drew
        have HBw := HB1.out.keep hK (fun q hq hf => HD.out q hq h0 (by rw [show q.block = g from hf]; rfl))
        have HBd := Lib.hid HBw.drew
        have HOF := Lib.hid (fun q (hq : a = some q) (hf : q.block = g) => HD.out q hq h0 (by rw [hf]; rfl))
        have Q3 := Lib.hid q3; have HK := Lib.hid hK; have HR := Lib.hid HW
        obtain ⟨bb, bo, rfl, _⟩ := HBw.at k hlt
        have hx := b[k].toNat_lt
        have HBK := Lib.hid (show ∀ w', Keep (fun x => x = g) wr.drew w' → w'.cell? ⟨bb, bo + k, none⟩ = some (.int .u8 (b[k].toNat : Nat)) from fun w' hk => by
          obtain ⟨_, _, e, hc⟩ := (HBd.out.keep hk HOF.out).at k hlt
          cases e; exact hc)
        generalize b[k] = bk at *
        have s1 : IntKind.i64.wrap ((i : Int) + (k : Int)) = (i : Int) + (k : Int) := IntWalk.i64_in _ (by omega)
        have s2 : 0 ≤ (i : Int) + (k : Int) := by omega
        have s3 : (i : Int) + (k : Int) < (A.b.length : Int) := by omega
        have s4 : ((i : Int) + (k : Int)).toNat = i + k := by omega
        obtain ⟨u, qu⟩ : ∃ u, wr.drew.cell? ⟨g, i + k, none⟩ = some u := ⟨_, q1⟩
        clear q1; clear hA hK hll q3 HW HBw
        go_wp2
        refine flowe_begin (F := fun x => x = g) hmixed 13 rfl (by repeat (first | with_reducible refine ps_then ?_ | with_reducible refine ps_block ?_ | with_reducible exact ps_body | refine ps_then ?_ | refine ps_block ?_ | exact ps_body)) (fun hps => ?_)
        simp only [List.replicate]
        have kk := (Keep.refl (fun x => x = g) (wr)).drew
        refine flowe_take 0 (v := ?_) (a' := ?_) hps rfl (by kernel_rfl) rfl ?_ ?_ ?_
        rotate_left 2
        · intro w' hk; go_simp; try rfl
        · simp only [Act.put, List.setIfInBounds_toArray, List.set_cons_succ, List.set_cons_zero]; try rfl
        refine flowe_take 1 (v := ?_) (a' := ?_) hps rfl (by kernel_rfl) rfl ?_ ?_ ?_
        rotate_left 2
        · intro w' hk; go_simp; try rfl
        · simp only [Act.put, List.setIfInBounds_toArray, List.set_cons_succ, List.set_cons_zero]; try rfl
        refine flowe_take 2 (v := ?_) (a' := ?_) hps rfl (by kernel_rfl) rfl ?_ ?_ ?_
        rotate_left 2
        · intro w' hk; go_simp; try rfl
        · simp only [Act.put, List.setIfInBounds_toArray, List.set_cons_succ, List.set_cons_zero]; try rfl
        refine flowe_take 3 (v := ?_) (a' := ?_) hps rfl (by kernel_rfl) rfl ?_ ?_ ?_
        rotate_left 2
        · intro w' hk; have hc := (HR.out.keep hk hpg).cell 2; simp only [List.getElem?_cons_succ, List.getElem?_cons_zero] at hc; go_simp; try rfl
        · simp only [Act.put, List.setIfInBounds_toArray, List.set_cons_succ, List.set_cons_zero]; try rfl
        refine flowe_take 4 (v := ?_) (a' := ?_) hps rfl (by kernel_rfl) rfl ?_ ?_ ?_
        rotate_left 2
        · intro w' hk; go_simp; try rfl
        · simp only [Act.put, List.setIfInBounds_toArray, List.set_cons_succ, List.set_cons_zero]; try rfl
        refine flowe_take 5 (v := ?_) (a' := ?_) hps rfl (by kernel_rfl) rfl ?_ ?_ ?_
        rotate_left 2
        · intro w' hk; go_simp; try rfl
        · simp only [Act.put, List.setIfInBounds_toArray, List.set_cons_succ, List.set_cons_zero]; try rfl
        refine flowe_take 6 (v := ?_) (a' := ?_) hps rfl (by kernel_rfl) rfl ?_ ?_ ?_
        rotate_left 2
        · intro w' hk; go_simp; try rfl
        · simp only [Act.put, List.setIfInBounds_toArray, List.set_cons_succ, List.set_cons_zero]; try rfl
        refine flowe_take 7 (v := ?_) (a' := ?_) hps rfl (by kernel_rfl) rfl ?_ ?_ ?_
        rotate_left 2
        · intro w' hk; go_simp; try rfl
        · simp only [Act.put, List.setIfInBounds_toArray, List.set_cons_succ, List.set_cons_zero]; try rfl
        refine flowe_take 8 (v := ?_) (a' := ?_) hps rfl (by kernel_rfl) rfl ?_ ?_ ?_
        rotate_left 2
        · intro w' hk; go_simp; try rfl
        · simp only [Act.put, List.setIfInBounds_toArray, List.set_cons_succ, List.set_cons_zero]; try rfl
        refine flowe_take 9 (v := ?_) (a' := ?_) hps rfl (by kernel_rfl) rfl ?_ ?_ ?_
        rotate_left 2
        · intro w' hk; go_simp; try rfl
        · simp only [Act.put, List.setIfInBounds_toArray, List.set_cons_succ, List.set_cons_zero]; try rfl
        refine flowe_take 10 (v := ?_) (a' := ?_) hps rfl (by kernel_rfl) rfl ?_ ?_ ?_
        rotate_left 2
        · intro w' hk; have hc := HBK.out w' hk; go_simp; try rfl
        · simp only [Act.put, List.setIfInBounds_toArray, List.set_cons_succ, List.set_cons_zero]; try rfl
        refine flowe_take 11 (v := ?_) (a' := ?_) hps rfl (by kernel_rfl) rfl ?_ ?_ ?_
        rotate_left 2
        · intro w' hk; go_simp; try rfl
        · simp only [Act.put, List.setIfInBounds_toArray, List.set_cons_succ, List.set_cons_zero]; try rfl
        refine flowe_one 12 hps rfl (by kernel_rfl) rfl (wp_next (fun K hK => ?_))
        go_simp
        have kp := q4
        refine hK _ _ (flow_step kk ?_ ?_)
        · first | exact kp | exact Keep.refl _ _ | exact (Keep.refl _ _).alloc _
        clear kk hK; try clear kp
        intro kk
        refine flowe_done hps (by kernel_rfl) ?_
        have KK := Lib.hid kk
        clear kk s1 s2 s3 s4
        go_wp2
        exact ⟨⟨k + 1, by omega, by go_num, Q3.out, HK.out.trans KK.out⟩, by simp [intOf]; omega⟩
      · obtain rfl : k = b.length := by omega
        rw [List.take_length] at hA
        have HA := Lib.hid hA; have HK := Lib.hid hK
        clear hA hK
        go_wp2
        go_ret
        exact ⟨rfl, HA.out, (Keep.of_below B1.out).trans (HK.out.mono fun k _ e => by rw [e]; rfl)⟩
  · have hb0 : b = [] := List.eq_nil_of_length_eq_zero (by omega)
    subst hb0
    go_wp2
    go_loopw [9] (fun x wr => x = .int .i64 0 ∧ wr = w1) (fun _ _ => 0)
    case atStart => exact ⟨rfl, rfl⟩
    case round =>
      obtain ⟨rfl, rfl⟩ := hrel
      go_wp2
      go_ret
      exact ⟨rfl, by rw [lay_nil]; exact H1.out, Keep.of_below B1.out⟩
theorem rar_Store_bad (w : World) (p : Nat) (A : Ar) (v : Value) (h : ArR w p A v) (addr : Int) (a : Option Addr) (n c : Nat) (b : List UInt8) (hb : Bs w a n c b) (h0 : 0 ≤ addr) (h1 : addr ≤ 18446744073709551615) (hf : ¬ ((A.base : Int) ≤ addr ∧ addr - A.base + b.length ≤ A.b.length)) :
    Calls Try.prog 145 #[arP p, .int .u64 addr, .slice a n c] w fun e w' => e = .returned (.int .i64 2) ∧ Below w.heap.size w w' := by
  have hn := hb.len
  subst hn
  have hc := Sl.cap hb
  have hr := Sl.room hb
  have K := Lib.hid (rar_There_bad w p A v h addr (b.length : Nat) h0 h1 (by omega) (by omega) hf)
  clear h hb hf
  go_enter Try.func145, Try.ntmps145
  go_wp2_with fail
  refine K.out.mono ?_
  rintro e w1 ⟨rfl, b1⟩
  go_wp2
  go_ret
  exact ⟨rfl, b1⟩
section
variable {B : Nat} {w0 w : World} {l : List Ob} {i p : Nat} {A : Ar}
theorem rar_Store (h : St B w0 w l) (hi : l[i]? = some (RaT p A)) (addr : Int) (h0 : 0 ≤ addr) (h1 : addr ≤ 18446744073709551615) (a : Option Addr) (n c : Nat) (b : List UInt8) (hb : Bs w a n c b) (hd : ∀ v q, ArR w p A v → a = some q → 0 < b.length → ¬ v.ownBlock = some q.block) :
    Calls Try.prog 145 #[arP p, .int .u64 addr, .slice a n c] w fun e w' => e = .returned (.int .i64 (A.store addr b).1) ∧ St B w0 w' (l.set i (RaT p (A.store addr b).2)) := by
  obtain ⟨v, ha, hto⟩ := h.arTo hi
  unfold Ar.store
  split
  · rename_i ht
    refine (rar_Store_ok w p A v ha addr _ (Ar.there_at ht) a n c b hb (fun q => hd v q ha) (Ar.there_le ht rfl)).mono ?_
    rintro e w' ⟨rfl, h2, k2⟩
    exact ⟨rfl, hto w' _ v h2 (k2.mono fun _ _ h => .inr h) (.inl rfl)⟩
  · rename_i ht
    refine (rar_Store_bad w p A v ha addr a n c b hb h0 h1 (Ar.there_no ht)).mono ?_
    rintro e w' ⟨rfl, hb⟩
    exact ⟨rfl, hto w' _ v (ha.below hb) (Keep.of_below hb) (.inl rfl)⟩
theorem rar_Copy (h : St B w0 w l) (hi : l[i]? = some (RaT p A)) (to fr n : Int) (t0 : 0 ≤ to) (t1 : to ≤ 18446744073709551615) (h0 : 0 ≤ fr) (h1 : fr ≤ 18446744073709551615) (n0 : 0 ≤ n) (n1 : n ≤ 18446744073709551615) :
    Calls Try.prog 150 #[arP p, .int .u64 to, .int .u64 fr, .int .u64 n] w fun e w' => e = .returned (.int .i64 (A.copy to fr n).1) ∧ St B w0 w' (l.set i (RaT p (A.copy to fr n).2)) := by
  have K := Lib.hid (rar_Load h hi fr n h0 h1 n0 n1)
  have hld : A.load fr n = (if A.there fr n then (0, (A.b.drop (A.at' fr)).take n.toNat) else (2, [])) := rfl
  by_cases hF : A.there fr n = true
  · rw [if_pos hF] at hld
    have hlen : ((A.b.drop (A.at' fr)).take n.toNat).length = n.toNat := by have := Ar.there_le (m := n.toNat) hF (by omega); simp; omega
    have hst : A.copy to fr n = A.store to ((A.b.drop (A.at' fr)).take n.toNat) := by
      unfold Ar.copy Ar.store
      rw [hlen, show ((n.toNat : Nat) : Int) = n by omega]
      by_cases hT : A.there to n = true
      · rw [if_pos ⟨hF, hT⟩, if_pos hT]
      · rw [if_neg (fun h => hT h.2), if_neg hT]
    rw [hst]
    rw [hld] at K
    have HI := Lib.hid hi
    generalize (A.b.drop (A.at' fr)).take n.toNat = pc at *
    clear h hld hlen hst hF hi
    go_enter Try.func150, Try.ntmps150
    go_wp2_with fail
    refine K.out.mono ?_
    rintro e w1 ⟨v, rfl, h1⟩
    obtain ⟨a, c, rfl, h2⟩ := h1.ownBs
    have hb := h2.bsO (i := 0) rfl
    have hd : ∀ v q, ArR w1 p A v → a = some q → 0 < pc.length → ¬ v.ownBlock = some q.block := by
      obtain ⟨F, G, f1, g1, hfg⟩ := h2.two (i := 0) (j := i + 1) rfl (by rw [List.getElem?_cons_succ]; exact HI.out) (by omega)
      obtain ⟨v0, g1, g2, _⟩ := g1
      intro v q hv hq h0 he
      have : v = v0 := by
        have r1 := hv.row.cell 2; have r2 := g1.row.cell 2
        rw [r1] at r2; simpa using r2
      subst this
      exact hfg _ (f1.2.1 q hq h0) (g2 _ (.inr he))
    have K2 := Lib.hid (rar_Store h2.tail HI.out to t0 t1 a _ c pc hb hd)
    clear h1 h2 hb hd
    go_wp2_with fail
    refine K2.out.mono ?_
    rintro e w2 ⟨rfl, h3⟩
    have H3 := Lib.hid h3
    clear h3
    go_wp2
    go_ret
    exact ⟨rfl, H3.out⟩
  · rw [if_neg hF] at hld
    have hst : A.copy to fr n = (2, A) := by unfold Ar.copy; rw [if_neg (fun h => hF h.1)]
    rw [hst]
    rw [hld] at K
    have hset : l.set i (RaT p A) = l := by
      obtain ⟨hlt, e⟩ := List.getElem?_eq_some_iff.1 hi
      rw [← e]; exact List.set_getElem_self hlt
    have HS := Lib.hid hset
    clear h hi hld hst hF hset
    go_enter Try.func150, Try.ntmps150
    go_wp2_with fail
    refine K.out.mono ?_
    rintro e w1 ⟨v, rfl, h1⟩
    have H1 := Lib.hid h1.tail
    clear h1
    go_wp2
    go_ret
    exact ⟨rfl, by rw [HS.out]; exact H1.out⟩
theorem rar_Grow (h : St B w0 w l) (hi : l[i]? = some (RaT p A)) (n : Int) (hn1 : -9223372036854775808 ≤ n) (hn2 : n ≤ 9223372036854775807) :
    Calls Try.prog 140 #[arP p, .int .i64 n] w fun e w' => e = .returned (.int .i64 (A.grow n).1) ∧ St B w0 w' (l.set i (RaT p (A.grow n).2)) := by
  obtain ⟨v, ha, hto⟩ := h.arTo hi
  unfold Ar.grow
  split
  · rename_i ht
    have HT := Lib.hid (hto w _ v ha (Keep.refl _ _) (.inl rfl))
    clear h hi ha hto
    go_enter Try.func140, Try.ntmps140
    go_wp2
    go_ret
    exact ⟨rfl, HT.out⟩
  · rename_i ht
    obtain ⟨a, c, rfl, hB, hg, hcr⟩ := ha.form
    have q1 : w.cell? ⟨p, 1, none⟩ = some (.int .i64 A.cap) := ha.row.cell 1
    have q2 : w.cell? ⟨p, 2, none⟩ = some (.slice a A.b.length c) := ha.row.cell 2
    have hc1 := ha.hcap; have hc2 := ha.hlen
    have hs1 : IntKind.i64.wrap ((A.cap : Int) - (A.b.length : Int)) = (A.cap : Int) - (A.b.length : Int) := IntWalk.i64_in _ (by omega)
    split
    · rename_i hc
      have hd : decide ((A.cap : Int) - (A.b.length : Int) < n) = true := by simp; omega
      have HT := Lib.hid (fun nq => hto (w.drewN nq) _ _ (ha.drewN nq) ((Keep.refl _ _).drewN nq) (.inl rfl))
      clear h hi ha hto hB hg
      go_enter Try.func140, Try.ntmps140
      go_wp2
      go_quiet (fail)
      clear hs1 hd
      go_wp2
      go_ret
      exact ⟨rfl, HT.out nq⟩
    · rename_i hc
      have hd : decide ((A.cap : Int) - (A.b.length : Int) < n) = false := by simp; omega
      obtain ⟨m, rfl⟩ := Int.eq_ofNat_of_zero_le (show 0 ≤ n by omega)
      have H := Lib.hid ha; have HTO := Lib.hid hto
      clear h hi ha hto hB hg
      go_enter Try.func140, Try.ntmps140
      go_wp2
      go_quiet (fail)
      clear hs1 hd
      have H1 := H.out.drewN nq
      have k1 := (Keep.refl (arF p (.slice a A.b.length c)) w).drewN nq
      have r1 := H1.row
      have hap := H1.apart (by decide)
      have own0 := H1.own
      have HAP := Lib.hid hap
      clear hap H1
      go_wp2_with (at_builtin; go_must (refine app_zeros_own rfl (.tmp 23) (.tmp 24) 31 3 rfl 0 5 (.int .u8 0) 1 Try.underlying31 Try.underlying3 info_u8 rfl rfl (by decide) (.slice a A.b.length c) _ _ rfl own0 _ _ m rfl rfl (by omega) (Nat.zero_le _) ?_; intro v1 w1 own1 kp1 hbl1; obtain ⟨a1, c1, rfl, _, hs1⟩ := Sl.of_owned own1; have r2 := r1.keep kp1 HAP.out; have f2 := r2.frozen 2; have c2 : w1.cell? ⟨p, 2, none⟩ = some (.slice a A.b.length c) := r2.cell 2))
      go_ret
      have r3 := r2.set 2 (.slice a1 (A.b.length + m) c1)
      have k2 := (k1.trans (kp1.mono fun k _ hk => .inr hk)).setCell (p := ⟨p, 2, none⟩) (.inl (.inl rfl)) (.slice a1 (A.b.length + m) c1)
      have k3 := (Keep.refl (· = p) w1).setCell (p := ⟨p, 2, none⟩) (.inl rfl) (.slice a1 (A.b.length + m) c1)
      have hne : ∀ g, (Value.slice a1 (A.b.length + m) c1).ownBlock = some g → ¬ g = p := by
        rintro g hg rfl
        rcases hbl1 with h | h
        · rw [h] at hg; exact HAP.out hg
        · rw [h] at hg
          have : g = (w.drewN nq).heap.size := by simpa using hg.symm
          have := r1.lt
          omega
      have hz : (Int.toNat (m : Int)) = m := by omega
      rw [hz]
      exact ⟨rfl, HTO.out _ _ _ ⟨r3, ownsRow_map (own_kept own1 k3 hne) (by simp) (by simp [bv]), H.out.hbase, H.out.hmod, H.out.hcap, H.out.hmin, by simp; omega⟩ k2 hbl1⟩
theorem rar_Widen (h : St B w0 w l) (hi : l[i]? = some (RaT p A)) (n : Int) :
    Calls Try.prog 142 #[arP p, .int .i64 n] w fun e w' => e = .returned (.int .i64 (A.widen n).1) ∧ St B w0 w' (l.set i (RaT p (A.widen n).2)) := by
  obtain ⟨v, ha, hto⟩ := h.arTo hi
  have q1 : w.cell? ⟨p, 1, none⟩ = some (.int .i64 A.cap) := ha.row.cell 1
  have f1 := ha.row.frozen 1
  unfold Ar.widen
  split
  · rename_i ht
    obtain ⟨t1, t2⟩ := ht
    have hap := ha.apart (by decide)
    obtain ⟨m, rfl⟩ := Int.eq_ofNat_of_zero_le (show 0 ≤ n by omega)
    have H := Lib.hid ha; have HTO := Lib.hid hto; have HAP := Lib.hid hap
    clear h hi ha hto hap
    go_enter Try.func142, Try.ntmps142
    go_wp2
    go_ret
    have r := H.out.row.set 1 (.int .i64 m)
    have ks := (Keep.refl (· = p) w).setCell (p := ⟨p, 1, none⟩) (.inl rfl) (.int .i64 m)
    have h1 := H.out.hmin; have h2 := H.out.hlen
    have hz : (Int.toNat (m : Int)) = m := by omega
    rw [hz]
    exact ⟨rfl, HTO.out _ _ v ⟨r, own_kept H.out.own ks fun g hg e => HAP.out (e ▸ hg), H.out.hbase, H.out.hmod, by show m ≤ 16384; omega, by show 1024 ≤ m; omega, by show A.b.length ≤ m; omega⟩ (ks.mono fun k _ e => .inl e) (.inl rfl)⟩
  · rename_i ht
    have HT := Lib.hid (hto w _ v ha (Keep.refl _ _) (.inl rfl))
    clear h hi ha hto
    by_cases c1 : n < A.cap
    · clear ht
      go_enter Try.func142, Try.ntmps142
      go_wp2
      go_ret
      exact ⟨rfl, HT.out⟩
    · have c2 : 16384 < n := by omega
      clear ht
      go_enter Try.func142, Try.ntmps142
      go_wp2
      go_ret
      exact ⟨rfl, HT.out⟩
set_option maxHeartbeats 2000000 in
theorem rar_Fill (h : St B w0 w l) (hi : l[i]? = some (RaT p A)) (addr n : Int) (x : UInt8) (h0 : 0 ≤ addr) (h1 : addr ≤ 18446744073709551615) (n0 : 0 ≤ n) (n1 : n ≤ 18446744073709551615) :
    Calls Try.prog 151 #[arP p, .int .u64 addr, .int .u64 n, .int .u8 (x.toNat : Nat)] w fun e w' => e = .returned (.int .i64 (A.fill addr n x).1) ∧ St B w0 w' (l.set i (RaT p (A.fill addr n x).2)) := by
  have K := Lib.hid (rar_Load h hi addr n h0 h1 n0 n1)
  have hld : A.load addr n = (if A.there addr n then (0, (A.b.drop (A.at' addr)).take n.toNat) else (2, [])) := rfl
  have hx := x.toNat_lt
  by_cases hF : A.there addr n = true
  · rw [if_pos hF] at hld
    have hle := Ar.there_le (m := n.toNat) hF (by omega)
    have hlen : ((A.b.drop (A.at' addr)).take n.toNat).length = n.toNat := by simp; omega
    have hlm : n.toNat ≤ 16384 := by
      obtain ⟨v, ha⟩ := h.ar hi
      have := ha.hlen; have := ha.hcap; omega
    have hst : A.fill addr n x = A.store addr (List.replicate n.toNat x) := by
      unfold Ar.fill Ar.store
      rw [List.length_replicate, show ((n.toNat : Nat) : Int) = n by omega]
    rw [hst]
    rw [hld] at K
    have HI := Lib.hid hi; have HL := Lib.hid hlen
    obtain ⟨m, hm⟩ : ∃ m, m = n.toNat := ⟨_, rfl⟩
    rw [← hm] at hlm hle ⊢
    rw [← hm] at HL K
    generalize (A.b.drop (A.at' addr)).take m = pc at *
    clear hm h hld hlen hst hF hi
    go_enter Try.func151, Try.ntmps151
    go_wp2_with fail
    refine K.out.mono ?_
    rintro e w1 ⟨v, rfl, h1⟩
    have ho := h1.own (i := 0) rfl
    obtain ⟨a, c, rfl, _, hs⟩ := Sl.of_owned ho
    have hcc := Sl.cap hs; have hcr := Sl.room hs
    have hpl := HL.out
    rw [hpl] at hcc ho
    have hval : ∀ u : Nat, Value.slice a pc.length u = Value.slice a m u := fun u => by rw [hpl]
    rw [hval] at h1 ⊢
    have H1 := Lib.hid h1
    clear h1 ho hs hval hpl
    go_wp2
    go_loopw [11] (fun y wr => ∃ k : Nat, k ≤ m ∧ y = .int .i64 k ∧ St B w0 wr (OwO 5 1 (.slice a m c) m ((List.replicate k x ++ pc.drop k).map bv) :: l)) (fun y _ => m - (intOf y).toNat)
    case atStart =>
      refine ⟨0, Nat.zero_le _, rfl, ?_⟩
      have := H1.out
      rw [List.replicate_zero, List.nil_append, List.drop_zero]
      have e := HL.out
      unfold OwB at this
      rw [e] at this
      exact this
    case round =>
      obtain ⟨k, hk, rfl, hS⟩ := hrel
      by_cases hlt : k < m
      · have hpl := HL.out
        have ho := hS.own (i := 0) rfl
        obtain ⟨g, cap, cur, e1, _⟩ := own_some ho (by simp; omega)
        injection e1 with e1 e2 e3
        subst e1
        have q1 : wr.cell? ⟨g, k, none⟩ = some (bv (pc[k]'(by omega))) := by
          rw [ho.cellAt k (by omega)]
          simp [List.getElem?_append_right, hlt, hpl]
        have q2 := ho.frozenAt k
        obtain ⟨F, f1, f2, f3, f4⟩ := hS.at (i := 0) rfl
        have hnew : (List.replicate k x ++ pc.drop k).set k x = List.replicate (k + 1) x ++ pc.drop (k + 1) := by
          rw [List.set_append_right _ _ (by simp), List.length_replicate, Nat.sub_self, List.drop_eq_getElem_cons (by omega), List.set_cons_zero, List.replicate_succ', List.append_assoc]; rfl
        have hS2 := f4 (wr.setCell ⟨g, k, none⟩ (bv x)) F (OwO 5 1 (.slice (some ⟨g, 0, none⟩) m c) m ((List.replicate (k + 1) x ++ pc.drop (k + 1)).map bv)) rfl ((Keep.refl _ _).setCell (.inl (f1.2.1 g rfl)) _)
          ⟨by rw [← hnew, List.map_set]; exact (f1.1.stored k (bv x)).1, f1.2.1, fun y hy => by simpa using f2 y hy⟩ (fun y hy => .inl hy)
        have HS := Lib.hid hS2
        obtain ⟨u, qu⟩ : ∃ u, wr.cell? ⟨g, k, none⟩ = some u := ⟨_, q1⟩
        clear q1
        clear hS ho f1 f2 f3 f4 hS2 hnew e3 hpl
        go_wp2
        exact ⟨⟨k + 1, by omega, by go_num, HS.out⟩, by simp [intOf]; omega⟩
      · obtain rfl : k = m := by omega
        have hdr : pc.drop k = [] := List.drop_of_length_le (by rw [HL.out]; exact Nat.le_refl _)
        rw [hdr, List.append_nil] at hS
        have hS3 : St B w0 wr (OwO 5 1 (.slice a k c) (List.replicate k x).length ((List.replicate k x).map bv) :: l) := by rw [List.length_replicate]; exact hS
        obtain ⟨a', c', e, h2⟩ := hS3.ownBs
        injection e with e1 e2 e3
        subst e1; subst e3
        rw [List.length_replicate] at h2
        have hb := h2.bsO (i := 0) rfl
        have hd : ∀ v q, ArR wr p A v → a = some q → 0 < (List.replicate k x).length → ¬ v.ownBlock = some q.block := by
          obtain ⟨F, G, f1, g1, hfg⟩ := h2.two (i := 0) (j := i + 1) rfl (by rw [List.getElem?_cons_succ]; exact HI.out) (by omega)
          obtain ⟨v0, g1, g2, _⟩ := g1
          intro v q hv hq h0 he
          have : v = v0 := by
            have r1 := hv.row.cell 2; have r2 := g1.row.cell 2
            rw [r1] at r2; simpa using r2
          subst this
          exact hfg _ (f1.2.1 q hq h0) (g2 _ (.inr he))
        have K2 := Lib.hid (rar_Store h2.tail HI.out addr h0 h1 a _ c _ hb hd)
        clear hS hS3 h2 hb hd hdr e2
        go_wp2_with fail
        refine K2.out.mono ?_
        rintro e w2 ⟨rfl, h3⟩
        have H3 := Lib.hid h3
        clear h3
        go_wp2
        go_ret
        exact ⟨rfl, H3.out⟩
  · rw [if_neg hF] at hld
    have hst : A.fill addr n x = (2, A) := by unfold Ar.fill; rw [if_neg hF]
    rw [hst]
    rw [hld] at K
    have hset : l.set i (RaT p A) = l := by
      obtain ⟨hlt, e⟩ := List.getElem?_eq_some_iff.1 hi
      rw [← e]; exact List.set_getElem_self hlt
    have HS := Lib.hid hset
    clear h hi hld hst hF hset
    go_enter Try.func151, Try.ntmps151
    go_wp2_with fail
    refine K.out.mono ?_
    rintro e w1 ⟨v, rfl, h1⟩
    have H1 := Lib.hid h1.tail
    clear h1
    go_wp2
    go_ret
    exact ⟨rfl, by rw [HS.out]; exact H1.out⟩
end
end Go.Proofs.Ytjijniillehfoaa

/- The example of layer 3's statements. -/
namespace Go.Proofs.Ytjijniillehfoaa
open Go Go.RowKit Go.Own
set_option linter.unusedVariables false
theorem low258 : low 258 8 = [2, 1, 0, 0, 0, 0, 0, 0] := by decide
set_option maxHeartbeats 1000000 in
theorem up03 (w : World) : Calls Try.prog 40 #[] w fun e w' => e = .returned (.bool true) ∧ Below w.heap.size w w' := by
  go_enter Try.func40, Try.ntmps40
  go_wp2_with fail
  refine (arena_New_ok w 32 32 rfl 1024 1024 rfl (by decide) (by decide) (by decide) (by decide)).mono ?_
  rintro e w1 ⟨rfl, A1, b1⟩
  have s1 := b1.size
  go_wp2_with fail
  refine (arena_Grow_ok w1 _ _ _ A1 8 8 rfl (by decide)).mono ?_
  rintro e w2 ⟨v2, rfl, A2, k2, g2⟩
  have b2 : Below w.heap.size w w2 := b1.trans (k2.below s1 fun k hk hf => by
    rcases hf with rfl | hf
    · omega
    · cases hf)
  have hv2 : ∀ g, v2.ownBlock = some g → w.heap.size ≤ g := by
    intro g hg
    rcases g2 with e | e
    · rw [e] at hg; cases hg
    · rw [e] at hg; cases hg; exact s1
  have A2' := Lib.hid A2; have B2 := Lib.hid b2; have V2 := Lib.hid hv2
  clear A1 A2 b1 k2 g2 b2 hv2
  go_wp2_with fail
  refine (arena_SetWord_ok w2 _ _ _ A2'.out 32 0 rfl 258 258 rfl (by decide) (by decide)).mono ?_
  rintro e w3 ⟨rfl, A3, k3⟩
  have hb3 : lay (([] : List UInt8) ++ List.replicate 8 0) 0 (low 258 8) = [2, 1, 0, 0, 0, 0, 0, 0] := by decide
  simp only at A3
  rw [hb3] at A3
  have b3 := B2.out.trans (k3.below B2.out.size fun k hk hf => by have := V2.out k hf; omega)
  have A3' := Lib.hid A3; have B3 := Lib.hid b3
  clear A3 b3 k3 hb3 A2' B2
  go_wp2_with fail
  refine (arena_Load_ok w3 _ _ _ A3'.out 32 0 rfl 2 2 rfl (by decide)).mono ?_
  rintro e w4 ⟨v4, rfl, o4, b4⟩
  obtain ⟨a4, c4, rfl, _, hB4⟩ := Sl.of_owned o4
  have hB4 : Bs w4 a4 2 c4 [2, 1] := hB4
  have A4' := Lib.hid (A3'.out.below b4)
  have B4 := Lib.hid (B3.out.trans (b4.mono B3.out.size))
  clear o4 A3' B3 b4
  go_wp2_with fail
  refine (arena_Load_bad w4 _ _ _ A4'.out 33 8 (by decide) (by decide) (by decide) (by decide) (by decide)).mono ?_
  rintro e w5 ⟨rfl, b5⟩
  have hB5 := hB4.below b5
  have B5 := Lib.hid (B4.out.trans (b5.mono B4.out.size))
  have hs := run_s w5 hB5
  have hs2 := run_s (w5.alloc (.cells #[.int .u8 2, .int .u8 1] 5 (0, 0))) (show Bs _ (some ⟨w5.heap.size, 0, none⟩) 2 2 [2, 1] from Sl.lit w5 5 [.int .u8 2, .int .u8 1] 2 1 rfl (by decide))
  clear hB4 hB5 A4' B4 b5
  go_wp2_with fail
  refine (code_of _ 2 (by decide) (by decide)).mono ?_
  rintro e w' ⟨rfl, rfl⟩
  go_wp2_with fail
  refine (arena_New_bad _ 8 1024 (by decide) (by decide) (by decide)).mono ?_
  rintro e w' ⟨rfl, rfl⟩
  go_wp2
  go_ret
  exact ⟨rfl, B5.out.alloc B5.out.size _⟩
theorem bs_own {w w' : World} {n : Nat} {l : List UInt8} {v : Value} {B : Nat} (h : w.ownsRow B 5 1 v n (l.map bv)) : ∃ a c, v = .slice a n c ∧ (∀ p, a = some p → B ≤ p.block) ∧ Bs w a n c l := Sl.of_owned h
def lawOk (w : World) (e : Ending) (w' : World) : Prop := e = .returned (.bool true) ∧ Below w.heap.size w w'
end Go.Proofs.Ytjijniillehfoaa

/- Layer 3's deeds: what they are, and their helpers' contracts. -/
namespace Go.Own
open Go Go.RowKit
/-- A deed of layer 3. -/
structure De3 where
  what : Int
  addr : Int
  fr : Int
  n : Int
  v : Int
  x : UInt8
  ba : Option Addr
  bn : Nat
  bc : Nat
  b : List UInt8
def De3.cells (d : De3) : List Value := [.int .i64 d.what, .int .u64 d.addr, .int .u64 d.fr, .int .u64 d.n, .int .u64 d.v, .int .u8 (d.x.toNat : Nat), .slice d.ba d.bn d.bc]
structure De3.Ok (w : World) (d : De3) : Prop where
  what : -9223372036854775808 ≤ d.what ∧ d.what ≤ 9223372036854775807
  addr : 0 ≤ d.addr ∧ d.addr ≤ 18446744073709551615
  fr : 0 ≤ d.fr ∧ d.fr ≤ 18446744073709551615
  n : 0 ≤ d.n ∧ d.n ≤ 18446744073709551615
  v : 0 ≤ d.v ∧ d.v ≤ 18446744073709551615
  b : Bs w d.ba d.bn d.bc d.b
abbrev shDe3 : Sh := .cons (.int .i64) (.cons (.int .u64) (.cons (.int .u64) (.cons (.int .u64) (.cons (.int .u64) (.cons (.int .u8) (.cons (.sl (.int .u8)) .nil))))))
theorem rd_deeds3 {w : World} {a : Option Addr} {n c : Nat} (h : Rd w (.sl shDe3) [.slice a n c]) : ∃ ds : List De3, Sl w a n c 7 (ds.map De3.cells).flatten ∧ ds.length = n ∧ ∀ d ∈ ds, d.Ok w := by
  obtain ⟨a', n', c', rows, he, hn, hr, hs⟩ := h
  cases he
  obtain ⟨ds, rfl, hd⟩ := exists_map (f := De3.cells) (p := fun d => d.Ok w) rows fun r hr' => by
    obtain ⟨_, x0, y0, rfl, _, ⟨v0, rfl, w0⟩, x1, y1, rfl, _, ⟨v1, rfl, w1⟩, x2, y2, rfl, _, ⟨v2, rfl, w2⟩, x3, y3, rfl, _, ⟨v3, rfl, w3⟩, x4, y4, rfl, _, ⟨v4, rfl, w4⟩, x5, y5, rfl, _, ⟨v5, rfl, w5⟩, x6, y6, rfl, _, r6, rfl⟩ := hr r hr'
    obtain ⟨ba, bn, bc, rfl, r6⟩ := r6.slice
    obtain ⟨b, hb⟩ := r6.bytes
    have w0 := wfI64 w0; have w1 := wfU64 w1; have w2 := wfU64 w2; have w3 := wfU64 w3; have w4 := wfU64 w4; have w5 := wfU8 w5
    refine ⟨⟨v0, v1, v2, v3, v4, UInt8.ofNat v5.toNat, ba, bn, bc, b⟩, ?_, ⟨w0, w1, w2, w3, w4, hb⟩⟩
    have e : (((UInt8.ofNat v5.toNat).toNat : Nat) : Int) = v5 := by simp; omega
    simp only [De3.cells, e]
    rfl
  exact ⟨ds, hs, by simpa using hn, hd⟩
def atV (what base n : Int) : Int := if what < 0 then base + n % 3000 else n
theorem atV_rng {what base n : Int} (b0 : 0 ≤ base) (b1 : base ≤ 4611686018427387904) (n0 : 0 ≤ n) (n1 : n ≤ 18446744073709551615) : 0 ≤ atV what base n ∧ atV what base n ≤ 18446744073709551615 := by unfold atV; split <;> omega
theorem row_var {P : Program} {w : World} {g : Nat} {t : TypeId} {cs : List Value} {d : TypeDesc} (h : Row w g t cs) (hu : P.underlying t = some d) (hd : (match d with | .struct _ | .array _ _ => true | _ => false) = true) (hi : (P.info? t).map (·.size) = some cs.length) :
    (loadVar t ⟨g, 0, none⟩).run P w = .ok (.agg cs.toArray) w := run_loadVar_row w g t t cs.toArray (0, 0) d h hu hd (by simpa using hi)
end Go.Own
namespace Go.Proofs.Ytjijniillehfoaa
open Go Go.RowKit Go.Own
set_option linter.unusedVariables false
set_option maxRecDepth 100000
theorem code_errV (w : World) (k : Int) (h0 : 0 ≤ k) (h1 : k ≤ 10) : Calls Try.prog 51 #[errV k] w fun e w' => e = .returned (.int .i64 k) ∧ w = w' := by
  unfold errV
  split
  · subst k; exact code_nil w
  · exact code_of w k (by omega) h1
theorem law03_at (w : World) (d : De3) (base n : Int) (b0 : 0 ≤ base) (b1 : base ≤ 4611686018427387904) (n0 : 0 ≤ n) (n1 : n ≤ 18446744073709551615) :
    Calls Try.prog 139 #[.agg d.cells.toArray, .int .u64 base, .int .u64 n] w fun e w' => e = .returned (.int .u64 (atV d.what base n)) ∧ Below w.heap.size w w' := by
  obtain ⟨what, addr, fr, nn, v, x, ba, bn, bc, b⟩ := d
  unfold De3.cells atV
  split
  · rename_i hw
    simp only at hw
    go_enter Try.func139, Try.ntmps139
    go_wp2
    go_ret
    exact ⟨rfl, (Below.refl _ _).alloc (Nat.le_refl _) _⟩
  · rename_i hw
    simp only at hw
    go_enter Try.func139, Try.ntmps139
    go_wp2
    go_ret
    exact ⟨rfl, (Below.refl _ _).alloc (Nat.le_refl _) _⟩
set_option maxHeartbeats 1000000 in
theorem law03_low (w : World) (v : Int) (h0 : 0 ≤ v) (h1 : v ≤ 18446744073709551615) :
    Calls Try.prog 148 #[.int .u64 v] w (OwnBs w (low v.toNat 8)) := by
  go_enter Try.func148, Try.ntmps148
  go_wp2
  obtain ⟨V, rfl⟩ : ∃ V : Nat, v = V := ⟨v.toNat, by omega⟩
  go_loopw [0, 3, 4] (fun v o i wr => ∃ k q : Nat, k ≤ 8 ∧ i = .int .i64 k ∧ v = .int .u64 q ∧ q = V / 256 ^ k ∧ wr.ownsRow w.heap.size 5 1 o k ((low V k).map bv) ∧ Below w.heap.size w wr) (fun _ _ i _ => 8 - (intOf i).toNat)
  case atStart => exact ⟨0, V, by omega, rfl, rfl, by simp, World.ownsRow_nil _ _ _ _, Below.refl _ _⟩
  case round =>
    obtain ⟨k, q, hk, rfl, rfl, hq, hown, hb⟩ := hrel
    by_cases hlt : k < 8
    · have hd : q ≤ V := by rw [hq]; exact Nat.div_le_self _ _
      have hsz := hb.size
      have HQ := Lib.hid hq
      clear hq
      go_wp2_with (at_builtin; go_must (refine app_sl rfl _ _ 31 rfl w.heap.size 5 (.int .u8 0) 1 1 Try.underlying31 info_u8 rfl (by decide) _ k _ rfl (hown.alloc _) _ 1 1 _ rfl (Sl.lit _ _ [_] 1 1 rfl (by decide)) (one1 rfl) (by omega) (by omega) (le_alloc hsz _) ?_; intro v1 w1 hown1 hg1))
      have hb1 := (hb.alloc hsz _).trans hg1
      refine ⟨⟨k + 1, q / 256, by omega, by go_num, by simp, ?_, ownsRow_map hown1 rfl ?_, hb1⟩, by simp [intOf]; omega⟩
      · rw [HQ.out, Nat.div_div_eq_div_mul, Nat.pow_succ]
      · rw [low_snoc, List.map_append, ← HQ.out, List.map_singleton, bv_nat]
    · obtain rfl : k = 8 := by omega
      go_wp2
      go_ret
      exact ⟨_, rfl, ownsRow_map hown (by rw [low_length]) (by simp), hb⟩
theorem ref_MayArena (w : World) (b c : Int) (b0 : 0 ≤ b) (b1 : b ≤ 18446744073709551615) :
    Calls Try.prog 42 #[.int .u64 b, .int .i64 c] w fun e w' => e = .returned (.bool (decide (b % 16 = 0 ∧ b ≤ 4611686018427387904 ∧ 1024 ≤ c ∧ c ≤ 16384))) ∧ w = w' := by
  by_cases h1 : b % 16 = 0
  · have e1 : (b % 16 == 0) = true := by rw [beq_iff_eq]; exact h1
    have H1 := Lib.hid h1
    clear h1
    by_cases h2 : b ≤ 4611686018427387904
    · by_cases h3 : 1024 ≤ c
      · by_cases h4 : c ≤ 16384
        · rw [decide_eq_true ⟨H1.out, h2, h3, h4⟩]
          go_enter Try.func42, Try.ntmps42
          go_wp2
          go_ret
          exact ⟨rB (by simp [h3, h4]), rfl⟩
        · rw [decide_eq_false (fun h => h4 h.2.2.2)]
          go_enter Try.func42, Try.ntmps42
          go_wp2
          go_ret
          exact ⟨rB (by simp [h3, h4]), rfl⟩
      · rw [decide_eq_false (fun h => h3 h.2.2.1)]
        go_enter Try.func42, Try.ntmps42
        go_wp2
        go_ret
        exact ⟨rB (by simp [h3]), rfl⟩
    · rw [decide_eq_false (fun h => h2 h.2.1)]
      go_enter Try.func42, Try.ntmps42
      go_wp2
      go_ret
      exact ⟨rB (by simp [h2]), rfl⟩
  · have e1 : (b % 16 == 0) = false := by rw [beq_eq_false_iff_ne]; exact h1
    rw [decide_eq_false (fun h => h1 h.1)]
    clear h1
    go_enter Try.func42, Try.ntmps42
    go_wp2
    go_ret
    exact ⟨rfl, rfl⟩
theorem Ar.grow_code (A : Ar) (n : Int) : 0 ≤ (A.grow n).1 ∧ (A.grow n).1 ≤ 10 ∧ (A.grow n).2.base = A.base := by
  unfold Ar.grow; split
  · exact ⟨by show (0:Int) ≤ 1; decide, by show (1:Int) ≤ 10; decide, rfl⟩
  · split
    · exact ⟨by show (0:Int) ≤ 5; decide, by show (5:Int) ≤ 10; decide, rfl⟩
    · exact ⟨by show (0:Int) ≤ 0; decide, by show (0:Int) ≤ 10; decide, rfl⟩
theorem Ar.widen_code (A : Ar) (n : Int) : 0 ≤ (A.widen n).1 ∧ (A.widen n).1 ≤ 10 ∧ (A.widen n).2.base = A.base := by
  unfold Ar.widen; split
  · exact ⟨by show (0:Int) ≤ 0; decide, by show (0:Int) ≤ 10; decide, rfl⟩
  · exact ⟨by show (0:Int) ≤ 1; decide, by show (1:Int) ≤ 10; decide, rfl⟩
theorem Ar.load_code (A : Ar) (a n : Int) : 0 ≤ (A.load a n).1 ∧ (A.load a n).1 ≤ 10 := by
  unfold Ar.load; split
  · exact ⟨by show (0:Int) ≤ 0; decide, by show (0:Int) ≤ 10; decide⟩
  · exact ⟨by show (0:Int) ≤ 2; decide, by show (2:Int) ≤ 10; decide⟩
theorem Ar.word_code (A : Ar) (a : Int) : 0 ≤ (A.word a).1 ∧ (A.word a).1 ≤ 10 := by
  unfold Ar.word; split
  · exact ⟨by show (0:Int) ≤ 0; decide, by show (0:Int) ≤ 10; decide⟩
  · exact ⟨by show (0:Int) ≤ 2; decide, by show (2:Int) ≤ 10; decide⟩
theorem Ar.store_code (A : Ar) (a : Int) (b : List UInt8) : 0 ≤ (A.store a b).1 ∧ (A.store a b).1 ≤ 10 ∧ (A.store a b).2.base = A.base := by
  unfold Ar.store; split
  · exact ⟨by show (0:Int) ≤ 0; decide, by show (0:Int) ≤ 10; decide, rfl⟩
  · exact ⟨by show (0:Int) ≤ 2; decide, by show (2:Int) ≤ 10; decide, rfl⟩
theorem Ar.copy_code (A : Ar) (a b n : Int) : 0 ≤ (A.copy a b n).1 ∧ (A.copy a b n).1 ≤ 10 ∧ (A.copy a b n).2.base = A.base := by
  unfold Ar.copy; split
  · exact ⟨by show (0:Int) ≤ 0; decide, by show (0:Int) ≤ 10; decide, rfl⟩
  · exact ⟨by show (0:Int) ≤ 2; decide, by show (2:Int) ≤ 10; decide, rfl⟩
theorem Ar.fill_code (A : Ar) (a n : Int) (x : UInt8) : 0 ≤ (A.fill a n x).1 ∧ (A.fill a n x).1 ≤ 10 ∧ (A.fill a n x).2.base = A.base := by
  unfold Ar.fill; split
  · exact ⟨by show (0:Int) ≤ 0; decide, by show (0:Int) ≤ 10; decide, rfl⟩
  · exact ⟨by show (0:Int) ≤ 2; decide, by show (2:Int) ≤ 10; decide, rfl⟩
/-- A slice of what came in lies in no arena. -/
theorem arg_apart {B : Nat} {w0 w : World} {l : List Ob} {i p : Nat} {A : Ar} (h : St B w0 w l) (hi : l[i]? = some (RaT p A)) {a : Option Addr} {b : List UInt8} (hb : ∀ q, a = some q → 0 < b.length → q.block < B) :
    ∀ v q, ArR w p A v → a = some q → 0 < b.length → ¬ v.ownBlock = some q.block := by
  obtain ⟨F, ⟨v0, g1, g2, _⟩, _, f3, _⟩ := h.at hi
  intro v q hv hq h0 he
  have : v = v0 := by
    have r1 := hv.row.cell 2; have r2 := g1.row.cell 2
    rw [r1] at r2; simpa using r2
  subst this
  have := f3 rfl _ (g2 _ (.inr he))
  have := hb q hq h0
  omega
theorem own_apart {B : Nat} {w0 w : World} {l : List Ob} {i p n c : Nat} {A : Ar} {a : Option Addr} {b : List UInt8} (h : St B w0 w (BsO a n c b :: l)) (hi : l[i]? = some (RaT p A)) :
    ∀ v q, ArR w p A v → a = some q → 0 < b.length → ¬ v.ownBlock = some q.block := by
  obtain ⟨F, G, f1, g1, hfg⟩ := h.two (i := 0) (j := i + 1) rfl (by rw [List.getElem?_cons_succ]; exact hi) (by omega)
  obtain ⟨v0, g1, g2, _⟩ := g1
  intro v q hv hq h0 he
  have : v = v0 := by
    have r1 := hv.row.cell 2; have r2 := g1.row.cell 2
    rw [r1] at r2; simpa using r2
  subst this
  exact hfg _ (f1.2.1 q hq h0) (g2 _ (.inr he))
end Go.Proofs.Ytjijniillehfoaa

/- The statements' Ints; the example of layer 10's statements. -/
namespace Go.Own
open Go Go.RowKit
theorem findIn_nil (bs : List Blk) (size : Nat) : ∀ (f c : Nat), findIn bs (fun _ => []) size f c = none
  | 0, _ => rfl
  | f + 1, c => by unfold findIn; exact findIn_nil bs size f (c + 1)
theorem good_nil (b : List UInt8) : Good b [] := ⟨fun h => (by cases h), fun h _ => (by cases h)⟩
theorem clearB_zero (n : Nat) (h : 184 ≤ n) : clearB (List.replicate n (0 : UInt8)) = List.replicate n 0 := by
  unfold clearB
  rw [List.drop_replicate, List.replicate_append_replicate, show 184 + (n - 184) = n by omega]
end Go.Own
namespace Go.Proofs.Ytjijniillehfoaa
open Go Go.RowKit Go.Own
set_option linter.unusedVariables false
set_option maxRecDepth 100000
set_option maxHeartbeats 4000000 in
theorem law_Ints (w : World) (a : Option Addr) (c : Nat) (L : List Nat) (a2 : Option Addr) (c2 : Nat) (L2 : List Nat) (h1 : Sl w a L.length c 1 (L.map fun o => .int .i64 (o : Nat))) (h2 : Sl w a2 L2.length c2 1 (L2.map fun o => .int .i64 (o : Nat))) :
    Calls Try.prog 91 #[.slice a L.length c, .slice a2 L2.length c2] w fun e w' => e = .returned (.int .i64 (if L = L2 then 1 else 0)) ∧ Below w.heap.size w w' := by
  have p1 := h1.cap; have p2 := h1.room
  have q1 := h2.cap; have q2 := h2.room
  have H1 := Lib.hid h1; have H2 := Lib.hid h2
  clear h1 h2
  by_cases hl : L.length = L2.length
  · obtain ⟨R, hR⟩ : ∃ R : Int, R = (if L = L2 then 1 else 0) := ⟨_, rfl⟩
    rw [← hR]
    have HR := Lib.hid hR; have HLL := Lib.hid hl
    obtain ⟨N, hN⟩ : ∃ N, N = L.length := ⟨_, rfl⟩
    rw [← hl, ← hN]
    rw [← hN] at p1
    have HN := Lib.hid hN
    clear hR hl q1 hN
    go_enter Try.func91, Try.ntmps91
    go_wp2
    go_loopw [5] (fun vi wr => ∃ k : Nat, k ≤ N ∧ vi = .int .i64 k ∧ L.take k = L2.take k ∧ Below w.heap.size w wr) (fun vi _ => N - (intOf vi).toNat)
    case atStart => exact ⟨0, Nat.zero_le _, rfl, rfl, Below.refl _ _⟩
    case round =>
      obtain ⟨k, hk, rfl, ht, hb⟩ := hrel
      by_cases hlt : k < N
      · have l1 : k < L.length := by rw [← HN.out]; exact hlt
        have l2 : k < L2.length := by rw [← HLL.out]; exact l1
        obtain ⟨b1, o1, rfl, r1⟩ := H1.out.cells k (.int .i64 (L[k] : Nat)) (by simp [l1])
        obtain ⟨b2, o2, rfl, r2⟩ := H2.out.cells k (.int .i64 (L2[k] : Nat)) (by simp [l2])
        have hx : L[k] = L2[k] ↔ L.take (k + 1) = L2.take (k + 1) := by
          rw [List.take_succ_eq_append_getElem l1, List.take_succ_eq_append_getElem l2, ht]
          constructor
          · intro h; rw [h]
          · intro h; exact List.singleton_inj.1 (List.append_cancel_left h)
        have hne : L[k] ≠ L2[k] → L ≠ L2 := fun h e => by subst e; exact h rfl
        generalize L[k] = x at *
        generalize L2[k] = y at *
        have kd := (Keep.of_below (F := fun _ => False) hb).drew
        have X0 := Lib.hid (mid_keep kd r1 (fun h => h)); have Y0 := Lib.hid (mid_keep kd r2 (fun h => h))
        have HB := Lib.hid hb; have HX := Lib.hid hx; have HNE := Lib.hid hne
        clear r1 r2 hx hne hb ht kd l1 l2
        by_cases hxy : x = y
        · subst hxy
          have HT := Lib.hid (HX.out.1 rfl)
          go_wp2
          refine flowe_begin (F := fun _ => False) hmixed 9 rfl (by repeat (first | with_reducible refine ps_then ?_ | with_reducible refine ps_block ?_ | with_reducible exact ps_body | refine ps_then ?_ | refine ps_block ?_ | exact ps_body)) (fun hps => ?_)
          simp only [List.replicate]
          have kk := (Keep.refl (fun _ => False) (wr)).drew
          refine flowe_take 0 (v := ?_) (a' := ?_) hps rfl (by kernel_rfl) rfl ?_ ?_ ?_
          rotate_left 2
          · intro w' hk; go_simp; try rfl
          · simp only [Act.put, List.setIfInBounds_toArray, List.set_cons_succ, List.set_cons_zero]; try rfl
          refine flowe_take 1 (v := ?_) (a' := ?_) hps rfl (by kernel_rfl) rfl ?_ ?_ ?_
          rotate_left 2
          · intro w' hk; go_simp; try rfl
          · simp only [Act.put, List.setIfInBounds_toArray, List.set_cons_succ, List.set_cons_zero]; try rfl
          refine flowe_take 2 (v := ?_) (a' := ?_) hps rfl (by kernel_rfl) rfl ?_ ?_ ?_
          rotate_left 2
          · intro w' hk; go_simp; try rfl
          · simp only [Act.put, List.setIfInBounds_toArray, List.set_cons_succ, List.set_cons_zero]; try rfl
          refine flowe_take 3 (v := ?_) (a' := ?_) hps rfl (by kernel_rfl) rfl ?_ ?_ ?_
          rotate_left 2
          · intro w' hk; have c0 := mid_keep hk X0.out (fun h => h); go_simp; try rfl
          · simp only [Act.put, List.setIfInBounds_toArray, List.set_cons_succ, List.set_cons_zero]; try rfl
          refine flowe_take 4 (v := ?_) (a' := ?_) hps rfl (by kernel_rfl) rfl ?_ ?_ ?_
          rotate_left 2
          · intro w' hk; go_simp; try rfl
          · simp only [Act.put, List.setIfInBounds_toArray, List.set_cons_succ, List.set_cons_zero]; try rfl
          refine flowe_take 5 (v := ?_) (a' := ?_) hps rfl (by kernel_rfl) rfl ?_ ?_ ?_
          rotate_left 2
          · intro w' hk; go_simp; try rfl
          · simp only [Act.put, List.setIfInBounds_toArray, List.set_cons_succ, List.set_cons_zero]; try rfl
          refine flowe_take 6 (v := ?_) (a' := ?_) hps rfl (by kernel_rfl) rfl ?_ ?_ ?_
          rotate_left 2
          · intro w' hk; go_simp; try rfl
          · simp only [Act.put, List.setIfInBounds_toArray, List.set_cons_succ, List.set_cons_zero]; try rfl
          refine flowe_take 7 (v := ?_) (a' := ?_) hps rfl (by kernel_rfl) rfl ?_ ?_ ?_
          rotate_left 2
          · intro w' hk; have c0 := mid_keep hk Y0.out (fun h => h); go_simp; try rfl
          · simp only [Act.put, List.setIfInBounds_toArray, List.set_cons_succ, List.set_cons_zero]; try rfl
          refine flowe_take 8 (v := ?_) (a' := ?_) hps rfl (by kernel_rfl) rfl ?_ ?_ ?_
          rotate_left 2
          · intro w' hk; go_simp; try rfl
          · simp only [Act.put, List.setIfInBounds_toArray, List.set_cons_succ, List.set_cons_zero]; try rfl
          refine flowe_done hps (by kernel_rfl) ?_
          have HB2 := Lib.hid (HB.out.trans ((kk.below (Nat.le_refl _) fun _ _ h => h).mono HB.out.size))
          clear kk
          go_wp2
          exact ⟨⟨k + 1, hlt, by go_num, HT.out, HB2.out⟩, by simp [intOf]; omega⟩
        · have HXY := Lib.hid hxy
          have d1 : ((x : Int) != (y : Int)) = true := by rw [bne_iff_ne]; omega
          go_wp2
          refine flowe_begin (F := fun _ => False) hmixed 9 rfl (by repeat (first | with_reducible refine ps_then ?_ | with_reducible refine ps_block ?_ | with_reducible exact ps_body | refine ps_then ?_ | refine ps_block ?_ | exact ps_body)) (fun hps => ?_)
          simp only [List.replicate]
          have kk := (Keep.refl (fun _ => False) (wr)).drew
          refine flowe_take 0 (v := ?_) (a' := ?_) hps rfl (by kernel_rfl) rfl ?_ ?_ ?_
          rotate_left 2
          · intro w' hk; go_simp; try rfl
          · simp only [Act.put, List.setIfInBounds_toArray, List.set_cons_succ, List.set_cons_zero]; try rfl
          refine flowe_take 1 (v := ?_) (a' := ?_) hps rfl (by kernel_rfl) rfl ?_ ?_ ?_
          rotate_left 2
          · intro w' hk; go_simp; try rfl
          · simp only [Act.put, List.setIfInBounds_toArray, List.set_cons_succ, List.set_cons_zero]; try rfl
          refine flowe_take 2 (v := ?_) (a' := ?_) hps rfl (by kernel_rfl) rfl ?_ ?_ ?_
          rotate_left 2
          · intro w' hk; go_simp; try rfl
          · simp only [Act.put, List.setIfInBounds_toArray, List.set_cons_succ, List.set_cons_zero]; try rfl
          refine flowe_take 3 (v := ?_) (a' := ?_) hps rfl (by kernel_rfl) rfl ?_ ?_ ?_
          rotate_left 2
          · intro w' hk; have c0 := mid_keep hk X0.out (fun h => h); go_simp; try rfl
          · simp only [Act.put, List.setIfInBounds_toArray, List.set_cons_succ, List.set_cons_zero]; try rfl
          refine flowe_take 4 (v := ?_) (a' := ?_) hps rfl (by kernel_rfl) rfl ?_ ?_ ?_
          rotate_left 2
          · intro w' hk; go_simp; try rfl
          · simp only [Act.put, List.setIfInBounds_toArray, List.set_cons_succ, List.set_cons_zero]; try rfl
          refine flowe_take 5 (v := ?_) (a' := ?_) hps rfl (by kernel_rfl) rfl ?_ ?_ ?_
          rotate_left 2
          · intro w' hk; go_simp; try rfl
          · simp only [Act.put, List.setIfInBounds_toArray, List.set_cons_succ, List.set_cons_zero]; try rfl
          refine flowe_take 6 (v := ?_) (a' := ?_) hps rfl (by kernel_rfl) rfl ?_ ?_ ?_
          rotate_left 2
          · intro w' hk; go_simp; try rfl
          · simp only [Act.put, List.setIfInBounds_toArray, List.set_cons_succ, List.set_cons_zero]; try rfl
          refine flowe_take 7 (v := ?_) (a' := ?_) hps rfl (by kernel_rfl) rfl ?_ ?_ ?_
          rotate_left 2
          · intro w' hk; have c0 := mid_keep hk Y0.out (fun h => h); go_simp; try rfl
          · simp only [Act.put, List.setIfInBounds_toArray, List.set_cons_succ, List.set_cons_zero]; try rfl
          refine flowe_take 8 (v := ?_) (a' := ?_) hps rfl (by kernel_rfl) rfl ?_ ?_ ?_
          rotate_left 2
          · intro w' hk; go_simp; try rfl
          · simp only [Act.put, List.setIfInBounds_toArray, List.set_cons_succ, List.set_cons_zero]; try rfl
          refine flowe_done hps (by kernel_rfl) ?_
          have HB2 := Lib.hid (HB.out.trans ((kk.below (Nat.le_refl _) fun _ _ h => h).mono HB.out.size))
          clear kk
          go_wp2
          go_ret
          exact ⟨by rw [HR.out, if_neg (HNE.out HXY.out)]; rfl, HB2.out⟩
      · have hkN : k = N := by omega
        subst hkN
        have hLL : L = L2 := by
          rw [List.take_of_length_le (by rw [HN.out]; exact Nat.le_refl _), List.take_of_length_le (by rw [HN.out, HLL.out]; exact Nat.le_refl _)] at ht
          exact ht
        have HB := Lib.hid hb; have HE := Lib.hid hLL
        clear ht hb hLL
        go_wp2
        go_ret
        refine ⟨?_, HB.out⟩
        rw [HR.out, if_pos HE.out]
        rfl
  · have hne : L ≠ L2 := fun h => hl (by rw [h])
    rw [if_neg hne]
    have h3 : ¬ (L.length : Int) = (L2.length : Int) := by omega
    clear hl
    go_enter Try.func91, Try.ntmps91
    go_wp2
    go_ret
    exact ⟨rfl, Below.refl _ _⟩
set_option maxHeartbeats 4000000 in
theorem up10 (w : World) : Calls Try.prog 92 #[] w fun e w' => e = .returned (.bool true) ∧ Below w.heap.size w w' := by
  have T0 := Lib.hid (St.start w)
  obtain ⟨g, W, hmk, t1⟩ := mk_st T0.out (280 : Int) 280 rfl (by decide)
  have hz : (List.replicate 280 (0 : UInt8)).length = 280 := List.length_replicate ..
  have hcl := clearB_zero 280 (by decide)
  generalize List.replicate 280 (0 : UInt8) = z at *
  have hf1 : findB z 32 = some 0 := by
    have hL : Lists z [] fun _ => [] := by have := clear_lists (b := z) (bs := []) (by omega); rw [hcl] at this; exact this
    have := findFrom_in hL (good_nil z) (by omega) (by omega) (size := 32) (22 - (cls (32 : Nat)).toNat) (cls (32 : Nat)).toNat (by decide)
    rw [findIn_nil] at this
    exact this
  have hch : Chain 184 [(⟨184, 96, false⟩ : Blk)] := ⟨rfl, by decide, trivial⟩
  have ht := hch.tile (b := z) (Nat.le_refl _) (by decide) (by rw [hz]; rfl)
  have hs1 := chain_setI (b := z) hch (by rw [hz]; decide) (x := ⟨184, 96, false⟩) (List.mem_singleton.2 rfl)
  have hyl : (setAll z [⟨184, 96, false⟩]).length = 280 := by rw [hch.setAll_length (by rw [hz]; decide), hz]
  obtain ⟨y, hy⟩ : ∃ y, y = setAll z [(⟨184, 96, false⟩ : Blk)] := ⟨_, rfl⟩
  have hs1 : setI z 184 96 false = some y := by rw [hy]; exact hs1
  rw [← hy] at ht hyl
  obtain ⟨y2, hr1, hr2, _, hr3⟩ := rebuild_right ht (by omega) (by omega)
  have hf2 : findB y2 48 = some 184 := by
    rw [findB_right hr3 (size := 48) (by decide)]
    cases hq : findL [(⟨184, 96, false⟩ : Blk)] (anew [⟨184, 96, false⟩]) 48 with
    | none => have := findL_none hr3 (by decide) hq (List.mem_singleton.2 rfl) rfl; simp at this
    | some o =>
      obtain ⟨x, hx, rfl, _⟩ := findL_some hr3 (by decide) hq
      rw [List.mem_singleton.1 hx]; rfl
  have F1 := Lib.hid hf1; have F2 := Lib.hid hf2; have S1 := Lib.hid hs1; have R1 := Lib.hid hr1; have HZ := Lib.hid hz; have T1 := Lib.hid t1
  clear hf1 hf2 hs1 hr1 hr2 hr3 ht hyl hy hch hcl hz t1
  go_enter Try.func92, Try.ntmps92
  go_wp2_with fail
  have kc := ar_Arena T1.out 16 16 rfl 1024 1024 rfl (by decide) (by decide) (by decide) (by decide) (some ⟨g, 0, none⟩) 280 280 z (T1.out.bsV (i := 0) rfl) (by rw [HZ.out]; decide)
  with_reducible refine kc.mono ?_
  clear kc
  rintro e w2 ⟨q, rfl, t2⟩
  have T2 := Lib.hid t2
  clear t2
  have T3 := Lib.hid (show St w.heap.size w w2 (([ArT q ⟨16, 1024, z⟩] : List Ob).set 0 (ArT q ⟨16, 1024, z⟩)) from T2.out.sub (List.Sublist.cons_cons _ (List.sublist_cons_self ..)))
  clear T2
  go_wp2_with fail
  have kc := fit_Find T3.out (Nat.zero_lt_one) 32 (by decide)
  rw [show ((32 : Nat) : Int) = 32 from rfl, F1.out, show fndV (some 0) = .tuple #[.int .i64 0, .nilIface] from rfl] at kc
  with_reducible refine kc.mono ?_
  clear kc
  rintro e w4 ⟨rfl, t4⟩
  have T4 := Lib.hid t4
  clear t4
  go_wp2_with fail
  have kc := blk_Set T4.out (i := 0) rfl 184 96 false
  rw [show ({ base := 16, cap := 1024, b := z } : Ar).b = z from rfl, S1.out, show errS (some y) = .nilIface from rfl] at kc
  with_reducible refine kc.mono ?_
  clear kc
  rintro e w5 ⟨rfl, t5⟩
  have T5 := Lib.hid t5
  clear t5
  have T6 := Lib.hid (show St w.heap.size w w5 (([ArT q ⟨16, 1024, z⟩] : List Ob).set 0 (ArT q ⟨16, 1024, y⟩)) from T5.out)
  clear T5
  go_wp2_with fail
  have kc := fit_Rebuild T6.out (Nat.zero_lt_one)
  rw [R1.out, show errP (some y2) = .nilIface from rfl, show (some y2).getD y = y2 from rfl] at kc
  with_reducible refine kc.mono ?_
  clear kc
  rintro e w7 ⟨rfl, t7⟩
  have T7 := Lib.hid t7
  clear t7
  go_wp2_with fail
  have kc := fit_Find T7.out (Nat.zero_lt_one) 48 (by decide)
  rw [show ((48 : Nat) : Int) = 48 from rfl, F2.out, show fndV (some 184) = .tuple #[.int .i64 184, .nilIface] from rfl] at kc
  with_reducible refine kc.mono ?_
  clear kc
  rintro e w8 ⟨rfl, t8⟩
  have T8 := Lib.hid t8
  clear t8
  have B8 := Lib.hid T8.out.end
  clear T8
  go_wp2
  go_ret
  exact ⟨rfl, B8.out⟩
end Go.Proofs.Ytjijniillehfoaa

/- Lists of free blocks of bytes: the reference's Put and what it calls. -/
namespace Go.Own
open Go Go.RowKit
/-- What is only read may be told twice. -/
theorem SL.dup {B : Nat} {w : World} {P : Ob} (hm : P.m = false) : ∀ {l : List Ob} {U : Bool → Nat → Prop} {i : Nat}, SL B w l U → l[i]? = some P → SL B w (P :: l) U
  | [], _, _, _, hi => by simp at hi
  | Q :: r, U, 0, h, hi => by
    obtain ⟨F, h1, h2, h4⟩ := h
    simp only [List.getElem?_cons_zero, Option.some.injEq] at hi
    subst hi
    refine ⟨F, h1, h2, F, h1, fun x hx => ⟨fun hu => ?_, fun hq => by rw [hm] at hq; cases hq⟩, SL.mono h4 fun m x hx => .inl ?_⟩
    · rcases hu with hu | ⟨hq, _⟩
      · exact (h2 x hx).1 hu
      · rw [hm] at hq; cases hq
    · rcases hx with hx | hx
      · exact hx
      · exact .inr hx
  | Q :: r, U, i + 1, h, hi => by
    obtain ⟨F, h1, h2, h4⟩ := h
    rw [List.getElem?_cons_succ] at hi
    exact SL.swap (P := Q) (Q := P) (r := r) ⟨F, h1, h2, SL.dup hm h4 hi⟩
section
variable {B : Nat} {w0 w : World} {l : List Ob}
theorem St.again {i : Nat} {a : Option Addr} {n c : Nat} {b : List UInt8} (h : St B w0 w l) (hi : l[i]? = some (AsO a n c b)) : St B w0 w (AsO a n c b :: l) := ⟨h.base, h.keep, SL.dup rfl h.sl hi⟩
/-- A row of bytes of one's own, only read from here on. -/
theorem St.ownAs {e : TypeId} {v : Value} {n : Nat} {b : List UInt8} (h : St B w0 w (OwO e 1 v n (b.map bv) :: l)) : ∃ a c, v = .slice a n c ∧ St B w0 w (AsO a n c b :: l) := by
  obtain ⟨a, c, e1, h1⟩ := h.ownBs
  exact ⟨a, c, e1, h1.read (i := 0) rfl⟩
end
theorem mark_cases (b : List UInt8) (c : Nat) (hl : 8 ≤ b.length) : markB b c = if bitAt (numAt b 0) c = decide (numAt b (headO c) ≠ 0) then b else
    layAt b 0 (if bitAt (numAt b 0) c then numAt b 0 - 2 ^ c else numAt b 0 + 2 ^ c) := by
  unfold markB
  rw [setBit_arith]
  by_cases h : bitAt (numAt b 0) c = decide (numAt b (headO c) ≠ 0)
  · rw [if_pos h, if_pos h, layAt_idem _ _ (by omega)]
  · rw [if_neg h, if_neg h]
    cases h1 : bitAt (numAt b 0) c <;> cases h2 : decide (numAt b (headO c) ≠ 0) <;> simp_all
theorem bit_le {w c : Nat} (h : bitAt w c = true) : 2 ^ c ≤ w := by
  unfold bitAt at h
  simp only [decide_eq_true_eq] at h
  have h2 : w / 2 ^ c ≠ 0 := fun e => by rw [e] at h; simp at h
  exact (Nat.div_ne_zero_iff.1 h2).2
end Go.Own
namespace Go.Proofs.Ytjijniillehfoaa
open Go Go.RowKit Go.Own
set_option linter.unusedVariables false
set_option maxRecDepth 100000
theorem rl_bit (w : World) (W c : Nat) (hW : W < 18446744073709551616) (hc : c < 22) : Calls Try.prog 226 #[.int .u64 W, .int .i64 c] w fun e w' => e = .returned (.bool (bitAt W c)) ∧ w = w' := by
  have hb : bitAt W c = decide (W / 2 ^ c % 2 = 1) := rfl
  rw [hb]
  clear hb
  go_enter Try.func226, Try.ntmps226
  go_wp2
  go_loopw [0, 5] (fun vw vi wr => ∃ k V : Nat, k ≤ c ∧ vi = .int .i64 k ∧ vw = .int .u64 V ∧ V = W / 2 ^ k ∧ wr = w) (fun _ vi _ => c - (intOf vi).toNat)
  case atStart => exact ⟨0, W, Nat.zero_le _, rfl, rfl, by simp, rfl⟩
  case round =>
    obtain ⟨k, V, hk, rfl, rfl, hV, rfl⟩ := hrel
    have hVW : V ≤ W := by rw [hV]; exact Nat.div_le_self _ _
    by_cases hlt : k < c
    · have d1 : decide ((k : Int) < (c : Int)) = true := decide_eq_true (by omega)
      have u1 : IntKind.u64.wrap ((V : Int) / 2) = ((V / 2 : Nat) : Int) := by rw [IntWalk.u64_in _ (by omega)]; omega
      have HV := Lib.hid hV
      clear hV hVW hW
      go_wp2
      exact ⟨⟨k + 1, V / 2, hlt, by go_num, rfl, by rw [HV.out, Nat.div_div_eq_div_mul, Nat.pow_succ], trivial⟩, by simp [intOf]; omega⟩
    · obtain rfl : k = c := by omega
      have d1 : decide ((k : Int) < (k : Int)) = false := decide_eq_false (by omega)
      have u1 : IntKind.u64.wrap ((V : Int) % 2) = ((V % 2 : Nat) : Int) := by rw [IntWalk.u64_in _ (by omega)]; omega
      have HV := Lib.hid hV
      clear hV hVW hW
      go_wp2
      go_ret
      refine ⟨?_, rfl⟩
      have e : ((V : Int) % 2 == 1) = decide (V % 2 = 1) := by rw [Bool.eq_iff_iff, beq_iff_eq, decide_eq_true_iff]; omega
      rw [← HV.out]
      show Ending.returned (Value.bool ((V : Int) % 2 == 1)) = _
      rw [e]
theorem rl_one (w : World) (c : Nat) (hc : c < 22) : Calls Try.prog 227 #[.int .i64 c] w fun e w' => e = .returned (.int .u64 (2 ^ c : Nat)) ∧ w = w' := by
  go_enter Try.func227, Try.ntmps227
  go_wp2
  go_loopw [3, 4] (fun vv vi wr => ∃ k V : Nat, k ≤ c ∧ vi = .int .i64 k ∧ vv = .int .u64 V ∧ V = 2 ^ k ∧ wr = w) (fun _ vi _ => c - (intOf vi).toNat)
  case atStart => exact ⟨0, 1, Nat.zero_le _, rfl, rfl, rfl, rfl⟩
  case round =>
    obtain ⟨k, V, hk, rfl, rfl, hV, rfl⟩ := hrel
    have hV2 : V ≤ 4194304 := by rw [hV]; exact Nat.pow_le_pow_right (n := 2) (by decide) (show k ≤ 22 by omega)
    by_cases hlt : k < c
    · have d1 : decide ((k : Int) < (c : Int)) = true := decide_eq_true (by omega)
      have u1 : IntKind.u64.wrap (2 * (V : Int)) = ((V * 2 : Nat) : Int) := by rw [IntWalk.u64_in _ (by omega)]; omega
      have HV := Lib.hid hV
      clear hV hV2
      go_wp2
      exact ⟨⟨k + 1, V * 2, hlt, by go_num, rfl, by rw [HV.out, Nat.pow_succ], trivial⟩, by simp [intOf]; omega⟩
    · obtain rfl : k = c := by omega
      have d1 : decide ((k : Int) < (k : Int)) = false := decide_eq_false (by omega)
      have HV := Lib.hid hV
      clear hV hV2
      go_wp2
      go_ret
      exact ⟨by rw [← HV.out]; rfl, rfl⟩
theorem rl_num (w : World) (a : Option Addr) (n c : Nat) (b : List UInt8) (hb : Bs w a n c b) (O : Nat) (o : Int) (ho : o = O) (hO : O ≤ b.length) :
    Calls Try.prog 179 #[.slice a n c, .int .i64 o] w fun e w' => e = .returned (.int .u64 (numAt b O : Nat)) ∧ w = w' := by
  have kg := ref_Word w a n c b hb O o ho hO
  clear hb ho hO
  go_enter Try.func179, Try.ntmps179
  go_wp2_with fail
  with_reducible refine kg.mono ?_
  clear kg
  rintro e w' ⟨k1, rfl, rfl⟩
  go_wp2
  go_ret
  exact ⟨rfl, rfl⟩
section
variable {B : Nat} {w0 w : World} {l : List Ob} {i n cp : Nat} {a : Option Addr} {b : List UInt8}
set_option maxHeartbeats 4000000 in
theorem rl_Member (h : St B w0 w l) (hi : l[i]? = some (AsO a n cp b)) (x : Int) (X : Nat) (hx : x = X) (hX : X < 18446744073709551616) (hsm : b.length ≤ 16384) (c : Nat) (hc : c < 22) :
    Calls Try.prog 180 #[.slice a n cp, .int .u64 x, .int .i64 c] w fun e w' => e = .returned (.bool (memberB b X c)) ∧ St B w0 w' l := by
  subst hx
  have H := Lib.hid h
  by_cases hl : 20000 < X
  · have hn : memberB b X c = false := by
      unfold memberB
      cases hb : blkAt b X with
      | none => rfl
      | some y => have := blkAt_some hb; omega
    rw [hn]
    have d1 : decide ((X : Int) > 20000) = true := decide_eq_true (by omega)
    clear hn h hi hl
    go_enter Try.func180, Try.ntmps180
    go_wp2
    go_ret
    exact ⟨rfl, H.out⟩
  · have d1 : decide ((X : Int) > 20000) = false := decide_eq_false (by omega)
    have u0 : IntKind.i64.wrap (X : Int) = X := IntWalk.i64_in _ (by omega)
    have kg := rb_Get h a n cp b (fun w' h' => h'.as hi) (X : Int)
    rw [blkI_nat] at kg
    unfold memberB
    clear h hi hl
    cases hb : blkAt b X with
    | none =>
      rw [hb, show bkV none = .agg #[.int .i64 0, .int .i64 0, .bool false] from rfl, show (none : Option Blk).isSome = false from rfl] at kg
      have KG := Lib.hid kg
      clear hb kg
      go_enter Try.func180, Try.ntmps180
      go_wp2_with fail
      have kc := KG.out
      with_reducible refine kc.mono ?_
      clear kc
      rintro e w3 ⟨rfl, t3⟩
      have T3 := Lib.hid t3
      clear t3
      go_wp2_with (first | (refine bk_alloc T3.out rfl rfl ?_; intro g4 w4 h4; have T4 := Lib.hid h4; clear h4) | (refine bk_store T4.out 0 rfl rfl _ _ rfl rfl 0 0 false rfl ?_; intro w5 h5; have T5 := Lib.hid h5; clear h5 T4))
      go_ret
      exact ⟨rfl, T5.out.tail⟩
    | some y =>
      rw [hb, show bkV (some y) = .agg #[.int .i64 y.off, .int .i64 y.size, .bool y.used] from rfl, show (some y).isSome = true from rfl] at kg
      have hys := blkAt_some hb
      have hcy := cls_size (blkAt_isSize hb)
      have y1 : y.size ≤ 16384 := hys.2.2.2.2.1
      have KG := Lib.hid kg
      have KC : Hid (∀ w, _) := Lib.hid fun w => ref_Class w (y.size : Int) (by omega) (by omega)
      obtain ⟨C, hC⟩ : ∃ C : Nat, cls y.size = C := ⟨(cls y.size).toNat, by omega⟩
      show Calls _ _ _ _ fun e w' => e = .returned (.bool (!y.used && decide (cls y.size = c))) ∧ St B w0 w' l
      rw [hC] at KC ⊢
      clear hb kg hys hcy hC
      cases hu : y.used with
      | true =>
        rw [hu] at KG
        clear hu
        go_enter Try.func180, Try.ntmps180
        go_wp2_with fail
        have kc := KG.out
        with_reducible refine kc.mono ?_
        clear kc
        rintro e w3 ⟨rfl, t3⟩
        have T3 := Lib.hid t3
        clear t3
        go_wp2_with (first | (refine bk_alloc T3.out rfl rfl ?_; intro g4 w4 h4; have T4 := Lib.hid h4; clear h4) | (refine bk_store T4.out 0 rfl rfl _ _ rfl rfl y.off y.size true rfl ?_; intro w5 h5; have T5 := Lib.hid h5; clear h5 T4; have k2 : w5.cell? ⟨g4, 2, none⟩ = some (.bool true) := (T5.out.row (i := 0) rfl).cell 2))
        go_ret
        exact ⟨rfl, T5.out.tail⟩
      | false =>
        rw [hu] at KG
        clear hu
        go_enter Try.func180, Try.ntmps180
        go_wp2_with fail
        have kc := KG.out
        with_reducible refine kc.mono ?_
        clear kc
        rintro e w3 ⟨rfl, t3⟩
        have T3 := Lib.hid t3
        clear t3
        go_wp2_with (first | (refine bk_alloc T3.out rfl rfl ?_; intro g4 w4 h4; have T4 := Lib.hid h4; clear h4) | (refine bk_store T4.out 0 rfl rfl _ _ rfl rfl y.off y.size false rfl ?_; intro w5 h5; have T5 := Lib.hid h5; clear h5 T4; have k2 : w5.cell? ⟨g4, 2, none⟩ = some (.bool false) := (T5.out.row (i := 0) rfl).cell 2; have k1 : w5.cell? ⟨g4, 1, none⟩ = some (.int .i64 y.size) := (T5.out.row (i := 0) rfl).cell 1))
        have kc := KC.out w5
        with_reducible refine kc.mono ?_
        clear kc
        rintro e w' ⟨rfl, rfl⟩
        go_wp2
        go_ret
        refine ⟨?_, T5.out.tail⟩
        simp only [Bool.not_false, Bool.true_and]
        rfl
/-- What Free tells. -/
def freV (x : Option Nat) : Value := match x with | none => .int .i64 (-1) | some c => .int .i64 (c : Nat)
set_option maxHeartbeats 4000000 in
theorem rl_Free (h : St B w0 w l) (hi : l[i]? = some (AsO a n cp b)) (o : Int) :
    Calls Try.prog 178 #[.slice a n cp, .int .i64 o] w fun e w' => e = .returned (freV (freeI b o)) ∧ St B w0 w' l := by
  have kg := rb_Get h a n cp b (fun w' h' => h'.as hi) o
  have hf : freeI b o = match blkI b o with | some x => if x.used then none else some (cls x.size).toNat | none => none := by
    unfold freeI blkI freeB
    split <;> rfl
  have H := Lib.hid h
  clear h hi
  cases hb : blkI b o with
  | none =>
    rw [hb] at hf
    rw [hf]
    rw [hb, show bkV none = .agg #[.int .i64 0, .int .i64 0, .bool false] from rfl, show (none : Option Blk).isSome = false from rfl] at kg
    have KG := Lib.hid kg
    clear hb kg hf
    go_enter Try.func178, Try.ntmps178
    go_wp2_with fail
    have kc := KG.out
    with_reducible refine kc.mono ?_
    clear kc
    rintro e w3 ⟨rfl, t3⟩
    have T3 := Lib.hid t3
    clear t3
    go_wp2_with (first | (refine bk_alloc T3.out rfl rfl ?_; intro g4 w4 h4; have T4 := Lib.hid h4; clear h4) | (refine bk_store T4.out 0 rfl rfl _ _ rfl rfl 0 0 false rfl ?_; intro w5 h5; have T5 := Lib.hid h5; clear h5 T4))
    go_ret
    exact ⟨rfl, T5.out.tail⟩
  | some y =>
    rw [hb] at hf
    simp only at hf
    have hys : 32 ≤ y.size ∧ y.size ≤ 16384 ∧ isSize y.size = true := by
      unfold blkI at hb
      split at hb
      · have := blkAt_some hb; exact ⟨this.2.2.2.1, this.2.2.2.2.1, blkAt_isSize hb⟩
      · cases hb
    have hcy := cls_size hys.2.2
    rw [hb, show bkV (some y) = .agg #[.int .i64 y.off, .int .i64 y.size, .bool y.used] from rfl, show (some y).isSome = true from rfl] at kg
    have KC : Hid (∀ w, _) := Lib.hid fun w => ref_Class w (y.size : Int) (by omega) (by omega)
    have hC : cls y.size = ((cls y.size).toNat : Nat) := by omega
    rw [hC] at KC
    generalize (cls y.size).toNat = C at *
    clear hb hys hcy hC
    cases hu : y.used with
    | true =>
      rw [hu] at kg hf
      rw [hf]
      have KG := Lib.hid kg
      clear hu kg hf
      go_enter Try.func178, Try.ntmps178
      go_wp2_with fail
      have kc := KG.out
      with_reducible refine kc.mono ?_
      clear kc
      rintro e w3 ⟨rfl, t3⟩
      have T3 := Lib.hid t3
      clear t3
      go_wp2_with (first | (refine bk_alloc T3.out rfl rfl ?_; intro g4 w4 h4; have T4 := Lib.hid h4; clear h4) | (refine bk_store T4.out 0 rfl rfl _ _ rfl rfl y.off y.size true rfl ?_; intro w5 h5; have T5 := Lib.hid h5; clear h5 T4; have k2 : w5.cell? ⟨g4, 2, none⟩ = some (.bool true) := (T5.out.row (i := 0) rfl).cell 2))
      go_ret
      exact ⟨rfl, T5.out.tail⟩
    | false =>
      rw [hu] at kg hf
      rw [hf]
      have KG := Lib.hid kg
      clear hu kg hf
      go_enter Try.func178, Try.ntmps178
      go_wp2_with fail
      have kc := KG.out
      with_reducible refine kc.mono ?_
      clear kc
      rintro e w3 ⟨rfl, t3⟩
      have T3 := Lib.hid t3
      clear t3
      go_wp2_with (first | (refine bk_alloc T3.out rfl rfl ?_; intro g4 w4 h4; have T4 := Lib.hid h4; clear h4) | (refine bk_store T4.out 0 rfl rfl _ _ rfl rfl y.off y.size false rfl ?_; intro w5 h5; have T5 := Lib.hid h5; clear h5 T4; have k2 : w5.cell? ⟨g4, 2, none⟩ = some (.bool false) := (T5.out.row (i := 0) rfl).cell 2; have k1 : w5.cell? ⟨g4, 1, none⟩ = some (.int .i64 y.size) := (T5.out.row (i := 0) rfl).cell 1))
      have kc := KC.out w5
      with_reducible refine kc.mono ?_
      clear kc
      rintro e w' ⟨rfl, rfl⟩
      go_wp2
      go_ret
      exact ⟨rfl, T5.out.tail⟩
/-- Bytes that come back: a slice that is only read. -/
def AsV (B : Nat) (w0 : World) (l : List Ob) (y : List UInt8) (v : Value) (w' : World) : Prop := ∃ a' c', v = .slice a' y.length c' ∧ St B w0 w' (AsO a' y.length c' y :: l)
set_option maxHeartbeats 4000000 in
theorem rl_mark (h : St B w0 w l) (hi : l[i]? = some (AsO a n cp b)) (c : Nat) (hc : c < 22) (hl : 184 ≤ b.length) (hsm : b.length ≤ 16384) :
    Calls Try.prog 181 #[.slice a n cp, .int .i64 c] w fun e w' => ∃ v, e = .returned v ∧ AsV B w0 l (markB b c) v w' := by
  have hw := numAt_lt b 0
  have hho : headO c ≤ 176 := by unfold headO; omega
  have hb := h.as hi
  have hn := hb.len
  subst hn
  have KW := Lib.hid (rl_num w a _ cp b hb 0 0 rfl (by omega))
  have m1 : IntKind.i64.wrap (8 * (c : Int)) = 8 * (c : Int) := IntWalk.i64_in _ (by omega)
  have m2 : IntKind.i64.wrap (8 + 8 * (c : Int)) = ((headO c : Nat) : Int) := by rw [IntWalk.i64_in _ (by omega)]; unfold headO; omega
  have KH := Lib.hid (rl_num w a _ cp b hb (headO c) (headO c : Nat) rfl (by omega))
  have KB := Lib.hid (rl_bit w (numAt b 0) c hw hc)
  have KO := Lib.hid (rl_one w c hc)
  have H := Lib.hid h; have HI := Lib.hid hi
  have hP1 : 2 ^ c ≤ 2097152 := Nat.pow_le_pow_right (n := 2) (by decide) (show c ≤ 21 by omega)
  have hble : bitAt (numAt b 0) c = true → 2 ^ c ≤ numAt b 0 := bit_le
  have hs := fun (x : Int) (X : Nat) (hx : x = X) (hX : X < 18446744073709551616) => rb_Lay h a _ cp b hb (by omega) 0 0 rfl (by omega) x X hx hX
  rw [mark_cases b c (by omega)]
  have hlen : ∀ X, (layAt b 0 X).length = b.length := fun X => layAt_length _ _ _ (by omega)
  have HLEN := Lib.hid hlen
  have hadd : bitAt (numAt b 0) c = false → numAt b 0 + 2 ^ c < 18446744073709551616 := fun hbt => by
    have := @setBit_lt64 (numAt b 0) c true hw hc
    rw [setBit_arith, hbt] at this
    simpa using this
  generalize numAt b (headO c) = X at *
  generalize numAt b 0 = V at *
  generalize bitAt V c = bt at *
  generalize 2 ^ c = P at *
  clear h hi hlen hb
  cases bt with
  | true =>
    have hle := hble rfl
    by_cases hx : X = 0
    · subst hx
      rw [if_neg (by simp), if_pos rfl]
      have u1 : IntKind.u64.wrap ((V : Int) - (P : Int)) = (V : Int) - (P : Int) := IntWalk.u64_in _ (by omega)
      have KS := Lib.hid (hs ((V : Int) - (P : Int)) (V - P) (by omega) (by omega))
      clear hs hle hble hadd
      go_enter Try.func181, Try.ntmps181
      go_wp2_with fail
      have kc := KW.out
      with_reducible refine kc.mono ?_
      clear kc
      rintro e w' ⟨rfl, rfl⟩
      go_wp2_with fail
      have kc := KB.out
      with_reducible refine kc.mono ?_
      clear kc
      rintro e w' ⟨rfl, rfl⟩
      go_wp2_with fail
      have kc := KH.out
      with_reducible refine kc.mono ?_
      clear kc
      rintro e w' ⟨rfl, rfl⟩
      go_wp2_with fail
      have kc := KO.out
      with_reducible refine kc.mono ?_
      clear kc
      rintro e w' ⟨rfl, rfl⟩
      go_wp2_with fail
      have kc := KS.out
      with_reducible refine kc.mono ?_
      clear kc
      rintro e w3 ⟨v3', rfl, t3⟩
      have T3 := Lib.hid t3
      clear t3
      obtain ⟨a3, c3, rfl, h3⟩ := T3.out.ownAs
      have H3 := Lib.hid h3
      clear h3
      go_wp2
      go_ret
      exact ⟨_, rfl, a3, c3, rfl, H3.out⟩
    · have d0 : ((X : Int) != 0) = true := by rw [bne_iff_ne]; omega
      rw [if_pos (by simp [hx])]
      clear hs hle hble hadd
      go_enter Try.func181, Try.ntmps181
      go_wp2_with fail
      have kc := KW.out
      with_reducible refine kc.mono ?_
      clear kc
      rintro e w' ⟨rfl, rfl⟩
      go_wp2_with fail
      have kc := KB.out
      with_reducible refine kc.mono ?_
      clear kc
      rintro e w' ⟨rfl, rfl⟩
      go_wp2_with fail
      have kc := KH.out
      with_reducible refine kc.mono ?_
      clear kc
      rintro e w' ⟨rfl, rfl⟩
      go_wp2
      go_ret
      exact ⟨_, rfl, a, cp, rfl, H.out.again HI.out⟩
  | false =>
    have hlt := hadd rfl
    by_cases hx : X = 0
    · subst hx
      rw [if_pos (by simp)]
      clear hs hlt hble hadd
      go_enter Try.func181, Try.ntmps181
      go_wp2_with fail
      have kc := KW.out
      with_reducible refine kc.mono ?_
      clear kc
      rintro e w' ⟨rfl, rfl⟩
      go_wp2_with fail
      have kc := KB.out
      with_reducible refine kc.mono ?_
      clear kc
      rintro e w' ⟨rfl, rfl⟩
      go_wp2_with fail
      have kc := KH.out
      with_reducible refine kc.mono ?_
      clear kc
      rintro e w' ⟨rfl, rfl⟩
      go_wp2
      go_ret
      exact ⟨_, rfl, a, cp, rfl, H.out.again HI.out⟩
    · have d0 : ((X : Int) != 0) = true := by rw [bne_iff_ne]; omega
      rw [if_neg (by simp [hx]), if_neg (by simp)]
      have u1 : IntKind.u64.wrap ((V : Int) + (P : Int)) = (V : Int) + (P : Int) := IntWalk.u64_in _ (by omega)
      have KS := Lib.hid (hs ((V : Int) + (P : Int)) (V + P) (by omega) (by omega))
      clear hs hlt hble hadd
      go_enter Try.func181, Try.ntmps181
      go_wp2_with fail
      have kc := KW.out
      with_reducible refine kc.mono ?_
      clear kc
      rintro e w' ⟨rfl, rfl⟩
      go_wp2_with fail
      have kc := KB.out
      with_reducible refine kc.mono ?_
      clear kc
      rintro e w' ⟨rfl, rfl⟩
      go_wp2_with fail
      have kc := KH.out
      with_reducible refine kc.mono ?_
      clear kc
      rintro e w' ⟨rfl, rfl⟩
      go_wp2_with fail
      have kc := KO.out
      with_reducible refine kc.mono ?_
      clear kc
      rintro e w' ⟨rfl, rfl⟩
      go_wp2_with fail
      have kc := KS.out
      with_reducible refine kc.mono ?_
      clear kc
      rintro e w3 ⟨v3', rfl, t3⟩
      have T3 := Lib.hid t3
      clear t3
      obtain ⟨a3, c3, rfl, h3⟩ := T3.out.ownAs
      have H3 := Lib.hid h3
      clear h3
      go_wp2
      go_ret
      exact ⟨_, rfl, a3, c3, rfl, H3.out⟩
end
end Go.Proofs.Ytjijniillehfoaa

/- Lists of free blocks of bytes: the reference's Put, All, in. -/
namespace Go.Own
open Go Go.RowKit
theorem St.drop2 {B : Nat} {w0 w : World} {l : List Ob} {P Q : Ob} (h : St B w0 w (P :: Q :: l)) : St B w0 w (P :: l) := h.sub (List.Sublist.cons_cons _ (List.sublist_cons_self ..))
theorem putI_some {b : List UInt8} {O c : Nat} (hf : freeB b O = some c) : putI b (O : Int) = if numAt b (headO c) = O ∨ (numAt b (headO c) ≠ 0 ∧ memberB b (numAt b (headO c)) c = false) then none else
    some (markB (layAt (if numAt b (headO c) = 0 then layAt (layAt b (O + 8) (numAt b (headO c))) (O + 16) 0 else layAt (layAt (layAt b (O + 8) (numAt b (headO c))) (O + 16) 0) (numAt b (headO c) + 16) O) (headO c) O) c) := by
  unfold putI putB
  rw [if_pos (Int.natCast_nonneg _), Int.toNat_natCast, hf]
end Go.Own
namespace Go.Proofs.Ytjijniillehfoaa
open Go Go.RowKit Go.Own
set_option linter.unusedVariables false
set_option maxRecDepth 100000
section
variable {B : Nat} {w0 w : World} {l : List Ob} {i n cp : Nat} {a : Option Addr} {b : List UInt8}
/-- 'Lay', of bytes that are only read. -/
theorem rl_Lay (h : St B w0 w l) (hi : l[i]? = some (AsO a n cp b)) (hsm : b.length ≤ 65536) (o : Int) (O : Nat) (ho : o = O) (hO : O + 8 ≤ b.length) (x : Int) (X : Nat) (hx : x = X) (hX : X < 18446744073709551616) :
    Calls Try.prog 162 #[.slice a n cp, .int .i64 o, .int .u64 x] w fun e w' => ∃ a' c', e = .returned (.slice a' b.length c') ∧ St B w0 w' (AsO a' b.length c' (layAt b O X) :: l) := by
  refine (rb_Lay h a n cp b (h.as hi) hsm o O ho hO x X hx hX).mono ?_
  rintro e w' ⟨v, rfl, t⟩
  have hl := layAt_length b O X hO
  obtain ⟨a', c', rfl, t2⟩ := t.ownAs
  rw [hl] at t2 ⊢
  exact ⟨a', c', rfl, t2⟩
set_option maxHeartbeats 8000000 in
theorem rl_Put (h : St B w0 w l) (hi : l[i]? = some (AsO a n cp b)) (hsm : b.length ≤ 16384) (o : Int) :
    Calls Try.prog 82 #[.slice a n cp, .int .i64 o] w fun e w' => ∃ v, e = .returned (.tuple #[v, .bool (putI b o).isSome]) ∧ AsV B w0 l ((putI b o).getD b) v w' := by
  have hb0 := h.as hi
  have hn := hb0.len
  subst hn
  have kf := rl_Free h hi o
  cases hf : freeI b o with
  | none =>
    have hp : putI b o = none := by
      unfold putI
      unfold freeI at hf
      split
      · rename_i h0
        rw [if_pos h0] at hf
        unfold putB
        rw [hf]
      · rfl
    rw [hp]
    rw [hf, show freV none = .int .i64 (-1) from rfl] at kf
    have KF := Lib.hid kf; have HI := Lib.hid hi
    clear kf h hp hf hb0
    go_enter Try.func82, Try.ntmps82
    go_wp2_with fail
    have kc := KF.out
    with_reducible refine kc.mono ?_
    clear kc
    rintro e w3 ⟨rfl, t3⟩
    have T3 := Lib.hid t3
    clear t3
    go_wp2
    go_ret2
    exact ⟨_, rfl, a, cp, rfl, T3.out.again HI.out⟩
  | some c =>
    obtain ⟨O, rfl, hf2⟩ := freeI_some hf
    rw [hf, show freV (some c) = .int .i64 (c : Nat) from rfl] at kf
    obtain ⟨x, hx, hxu, hxc, hc, o1, o2, o3⟩ := freeB_some hf2
    rw [putI_some hf2]
    have hFlt := numAt_lt b (headO c)
    have hmem := fun h => memberB_at (b := b) (x := numAt b (headO c)) (c := c) h
    have hho : headO c ≤ 176 := by unfold headO; omega
    obtain ⟨F, hF⟩ : ∃ F, F = numAt b (headO c) := ⟨_, rfl⟩
    rw [← hF] at hFlt hmem ⊢
    obtain ⟨mb, hmb⟩ : ∃ mb, mb = memberB b F c := ⟨_, rfl⟩
    rw [← hmb] at hmem ⊢
    have HF := Lib.hid hF; have HMB := Lib.hid hmb
    have KF := Lib.hid kf; have HI := Lib.hid hi; have H := Lib.hid h; have HO := Lib.hid (And.intro o1 (And.intro o2 (And.intro o3 hsm)))
    have m1 : IntKind.i64.wrap (8 * (c : Int)) = 8 * (c : Int) := IntWalk.i64_in _ (by omega)
    have m2 : IntKind.i64.wrap (8 + 8 * (c : Int)) = ((headO c : Nat) : Int) := by rw [IntWalk.i64_in _ (by omega)]; unfold headO; omega
    have hneg : ¬ ((c : Int) < 0) := by omega
    have u0 : IntKind.u64.wrap (O : Int) = O := IntWalk.u64_in _ (by omega)
    have u1 : IntKind.i64.wrap ((O : Int) + 8) = (O : Int) + 8 := IntWalk.i64_in _ (by omega)
    have u2 : IntKind.i64.wrap ((O : Int) + 16) = (O : Int) + 16 := IntWalk.i64_in _ (by omega)
    have hob : O ≤ 16384 := by omega
    have hl1 : ∀ X, (layAt b (O + 8) X).length = b.length := fun X => layAt_length _ _ _ (by omega)
    have hl2 : ∀ X, (layAt (layAt b (O + 8) X) (O + 16) 0).length = b.length := fun X => by rw [layAt_length _ _ _ (by rw [hl1]; omega), hl1]
    have HL2 := Lib.hid (And.intro hl1 hl2)
    clear kf h hf hf2 hx hxu hxc hF hmb o1 o2 o3 hb0 hi hl1 hl2
    by_cases hno : F = O ∨ (F ≠ 0 ∧ mb = false)
    · rw [if_pos hno]
      go_enter Try.func82, Try.ntmps82
      go_wp2_with fail
      have kc := KF.out
      with_reducible refine kc.mono ?_
      clear kc
      rintro e w3 ⟨rfl, t3⟩
      have T3 := Lib.hid t3
      clear t3
      go_wp2_with fail
      have kc := rl_num w3 a _ cp b (T3.out.as HI.out) (headO c) (headO c : Nat) rfl (by have := HO.out; omega)
      rw [← HF.out] at kc
      with_reducible refine kc.mono ?_
      clear kc
      rintro e w' ⟨rfl, rfl⟩
      go_wp2_with fail
      have kc := rl_Member T3.out HI.out (F : Int) F rfl hFlt HO.out.2.2.2 c hc
      rw [← HMB.out] at kc
      with_reducible refine kc.mono ?_
      clear kc
      rintro e w4 ⟨rfl, t4⟩
      have T4 := Lib.hid t4
      clear t4
      rcases hno with rfl | ⟨h0, rfl⟩
      · go_wp2
        go_ret2
        exact ⟨_, rfl, a, cp, rfl, T4.out.again HI.out⟩
      · have d0 : ((F : Int) != 0) = true := by rw [bne_iff_ne]; omega
        by_cases hFO : F = O
        · subst hFO
          go_wp2
          go_ret2
          exact ⟨_, rfl, a, cp, rfl, T4.out.again HI.out⟩
        · have d1 : ((F : Int) == (O : Int)) = false := by rw [beq_eq_false_iff_ne]; omega
          go_wp2
          go_ret2
          exact ⟨_, rfl, a, cp, rfl, T4.out.again HI.out⟩
    · rw [if_neg hno]
      have d1 : ((F : Int) == (O : Int)) = false := by rw [beq_eq_false_iff_ne]; omega
      by_cases h0 : F = 0
      · rw [if_pos h0]
        subst h0
        clear hmem hno d1
        have d1 : ((0 : Int) == (O : Int)) = false := by rw [beq_eq_false_iff_ne]; have := HO.out; omega
        go_enter Try.func82, Try.ntmps82
        go_wp2_with fail
        have kc := KF.out
        with_reducible refine kc.mono ?_
        clear kc
        rintro e w3 ⟨rfl, t3⟩
        have T3 := Lib.hid t3
        clear t3
        go_wp2_with fail
        have kc := rl_num w3 a _ cp b (T3.out.as HI.out) (headO c) (headO c : Nat) rfl (by have := HO.out; omega)
        rw [← HF.out] at kc
        with_reducible refine kc.mono ?_
        clear kc
        rintro e w' ⟨rfl, rfl⟩
        go_wp2_with fail
        have kc := rl_Member T3.out HI.out 0 0 rfl hFlt HO.out.2.2.2 c hc
        rw [← HMB.out] at kc
        with_reducible refine kc.mono ?_
        clear kc
        rintro e w4 ⟨rfl, t4⟩
        have T4 := Lib.hid t4
        clear t4
        go_wp2_with fail
        have kc := rl_Lay T4.out HI.out (by have := HO.out; omega) ((O : Int) + 8) (O + 8) rfl (by have := HO.out; omega) 0 0 rfl (by decide)
        with_reducible refine kc.mono ?_
        clear kc
        rintro e w5 ⟨a5, c5, rfl, t5⟩
        have T5 := Lib.hid t5
        clear t5
        go_wp2_with fail
        have kc := rl_Lay T5.out (i := 0) rfl (by rw [HL2.out.1]; have := HO.out; omega) ((O : Int) + 16) (O + 16) rfl (by rw [HL2.out.1]; have := HO.out; omega) 0 0 rfl (by decide)
        rw [HL2.out.1] at kc
        with_reducible refine kc.mono ?_
        clear kc
        rintro e w6 ⟨a6, c6, rfl, t6⟩
        have T6 := Lib.hid t6
        clear t6
        go_wp2_with fail
        have kc := rl_Lay T6.out.drop2 (i := 0) rfl (by rw [HL2.out.2]; have := HO.out; omega) (headO c : Nat) (headO c) rfl (by rw [HL2.out.2]; have := HO.out; omega) (O : Int) O rfl (by omega)
        rw [HL2.out.2] at kc
        with_reducible refine kc.mono ?_
        clear kc
        rintro e w7 ⟨a7, c7, rfl, t7⟩
        have T7 := Lib.hid t7
        clear t7
        have hl3 : (layAt (layAt (layAt b (O + 8) 0) (O + 16) 0) (headO c) O).length = b.length := by rw [layAt_length _ _ _ (by rw [HL2.out.2]; have := HO.out; omega), HL2.out.2]
        have HL3 := Lib.hid hl3
        clear hl3
        go_wp2_with fail
        have kc := rl_mark T7.out.drop2 (i := 0) rfl c hc (by rw [HL3.out]; have := HO.out; omega) (by rw [HL3.out]; exact HO.out.2.2.2)
        with_reducible refine kc.mono ?_
        clear kc
        rintro e w8 ⟨v8', rfl, t8⟩
        have T8 := Lib.hid t8
        clear t8
        obtain ⟨a8, c8, rfl, h8⟩ := T8.out
        have H8 := Lib.hid h8
        clear h8
        go_wp2
        go_ret2
        exact ⟨_, rfl, a8, c8, rfl, H8.out.drop2⟩
      · rw [if_neg h0]
        obtain rfl : mb = true := by cases mb <;> simp_all
        have hm := hmem rfl
        have d0 : ((F : Int) != 0) = true := by rw [bne_iff_ne]; omega
        have u3 : IntKind.i64.wrap (F : Int) = F := IntWalk.i64_in _ (by omega)
        have u4 : IntKind.i64.wrap ((F : Int) + 16) = (F : Int) + 16 := IntWalk.i64_in _ (by omega)
        have HM := Lib.hid hm
        have hFs : F ≤ 16384 := by omega
        clear hmem hno hm
        go_enter Try.func82, Try.ntmps82
        go_wp2_with fail
        have kc := KF.out
        with_reducible refine kc.mono ?_
        clear kc
        rintro e w3 ⟨rfl, t3⟩
        have T3 := Lib.hid t3
        clear t3
        go_wp2_with fail
        have kc := rl_num w3 a _ cp b (T3.out.as HI.out) (headO c) (headO c : Nat) rfl (by have := HO.out; omega)
        rw [← HF.out] at kc
        with_reducible refine kc.mono ?_
        clear kc
        rintro e w' ⟨rfl, rfl⟩
        go_wp2_with fail
        have kc := rl_Member T3.out HI.out (F : Int) F rfl hFlt HO.out.2.2.2 c hc
        rw [← HMB.out] at kc
        with_reducible refine kc.mono ?_
        clear kc
        rintro e w4 ⟨rfl, t4⟩
        have T4 := Lib.hid t4
        clear t4
        go_wp2_with fail
        have kc := rl_Lay T4.out HI.out (by have := HO.out; omega) ((O : Int) + 8) (O + 8) rfl (by have := HO.out; omega) (F : Int) F rfl (by omega)
        with_reducible refine kc.mono ?_
        clear kc
        rintro e w5 ⟨a5, c5, rfl, t5⟩
        have T5 := Lib.hid t5
        clear t5
        go_wp2_with fail
        have kc := rl_Lay T5.out (i := 0) rfl (by rw [HL2.out.1]; have := HO.out; omega) ((O : Int) + 16) (O + 16) rfl (by rw [HL2.out.1]; have := HO.out; omega) 0 0 rfl (by decide)
        rw [HL2.out.1] at kc
        with_reducible refine kc.mono ?_
        clear kc
        rintro e w6 ⟨a6, c6, rfl, t6⟩
        have T6 := Lib.hid t6
        clear t6
        go_wp2_with fail
        have kc := rl_Lay T6.out.drop2 (i := 0) rfl (by rw [HL2.out.2]; have := HO.out; omega) ((F : Int) + 16) (F + 16) rfl (by rw [HL2.out.2]; have := HM.out; omega) (O : Int) O rfl (by omega)
        rw [HL2.out.2] at kc
        with_reducible refine kc.mono ?_
        clear kc
        rintro e w7 ⟨a7, c7, rfl, t7⟩
        have T7 := Lib.hid t7
        clear t7
        have hl3 : (layAt (layAt (layAt b (O + 8) F) (O + 16) 0) (F + 16) O).length = b.length := by rw [layAt_length _ _ _ (by rw [HL2.out.2]; have := HM.out; omega), HL2.out.2]
        have hl4 : (layAt (layAt (layAt (layAt b (O + 8) F) (O + 16) 0) (F + 16) O) (headO c) O).length = b.length := by rw [layAt_length _ _ _ (by rw [hl3]; have := HO.out; omega), hl3]
        have HL3 := Lib.hid (And.intro hl3 hl4)
        clear hl3 hl4
        go_wp2_with fail
        have kc := rl_Lay T7.out.drop2 (i := 0) rfl (by rw [HL3.out.1]; have := HO.out; omega) (headO c : Nat) (headO c) rfl (by rw [HL3.out.1]; have := HO.out; omega) (O : Int) O rfl (by omega)
        rw [HL3.out.1] at kc
        with_reducible refine kc.mono ?_
        clear kc
        rintro e w8 ⟨a8, c8, rfl, t8⟩
        have T8 := Lib.hid t8
        clear t8
        go_wp2_with fail
        have kc := rl_mark T8.out.drop2 (i := 0) rfl c hc (by rw [HL3.out.2]; have := HO.out; omega) (by rw [HL3.out.2]; exact HO.out.2.2.2)
        with_reducible refine kc.mono ?_
        clear kc
        rintro e w9 ⟨v9', rfl, t9⟩
        have T9 := Lib.hid t9
        clear t9
        obtain ⟨a9, c9, rfl, h9⟩ := T9.out
        have H9 := Lib.hid h9
        clear h9
        go_wp2
        go_ret2
        exact ⟨_, rfl, a9, c9, rfl, H9.out.drop2⟩
set_option maxHeartbeats 8000000 in
theorem rl_All (h : St B w0 w l) (hi : l[i]? = some (AsO a n cp b)) (hsm : b.length ≤ 16384) (c : Nat) (hc : c < 22) :
    Calls Try.prog 183 #[.slice a n cp, .int .i64 c] w fun e w' => ∃ v, e = .returned (.tuple #[v, .bool (allB b c).isSome]) ∧ St B w0 w' (IntsO v ((allB b c).getD []) :: l) := by
  have hb0 := h.as hi
  have hn := hb0.len
  subst hn
  have hcap := Sl.cap hb0; have hroom := Sl.room hb0
  have nil : ∀ w', St B w0 w' l → St B w0 w' (IntsO (.slice none 0 0) [] :: l) := fun w' h' => h'.addOwn (Below.refl _ _) (World.ownsRow_nil _ _ _ _)
  have NIL := Lib.hid nil
  have H := Lib.hid h; have HI := Lib.hid hi; have HSM := Lib.hid hsm
  clear h nil
  by_cases hlen : b.length < 184
  · have hr : allB b c = none := by unfold allB; rw [if_pos hlen]
    rw [hr]
    have d3 : decide ((b.length : Int) < 184) = true := decide_eq_true (by omega)
    clear hr hlen hb0 hi
    go_enter Try.func183, Try.ntmps183
    go_wp2
    go_ret2
    exact ⟨_, rfl, NIL.out _ H.out⟩
  · have d3 : decide ((b.length : Int) < 184) = false := decide_eq_false (by omega)
    have hX := numAt_lt b (headO c); have hV := numAt_lt b 0
    have hho : headO c ≤ 176 := by unfold headO; omega
    have m1 : IntKind.i64.wrap (8 * (c : Int)) = 8 * (c : Int) := IntWalk.i64_in _ (by omega)
    have m2 : IntKind.i64.wrap (8 + 8 * (c : Int)) = ((headO c : Nat) : Int) := by rw [IntWalk.i64_in _ (by omega)]; unfold headO; omega
    have hA : allB b c = if bitAt (numAt b 0) c ≠ decide (numAt b (headO c) ≠ 0) then none else allFrom b c 1024 (numAt b (headO c)) 0 := by unfold allB; rw [if_neg hlen]
    have KX := Lib.hid (rl_num w a _ cp b hb0 (headO c) (headO c : Nat) rfl (by omega))
    have KV := Lib.hid (rl_num w a _ cp b hb0 0 0 rfl (by omega))
    generalize numAt b (headO c) = X at *
    generalize numAt b 0 = V at *
    have KB := Lib.hid (rl_bit w V c hV hc)
    have HA := Lib.hid hA
    clear hA hb0 hi
    have q2 : ((X : Int) != 0) = decide (X ≠ 0) := by rw [Bool.eq_iff_iff, bne_iff_ne, decide_eq_true_iff]; omega
    by_cases hm : bitAt V c ≠ decide (X ≠ 0)
    · have hr : allB b c = none := by rw [HA.out, if_pos hm]
      rw [hr]
      have q3 : (bitAt V c == decide (X ≠ 0)) = false := by rw [beq_eq_false_iff_ne]; exact hm
      generalize decide (X ≠ 0) = xb at *
      generalize bitAt V c = bt at *
      clear hr hlen hho hm
      go_enter Try.func183, Try.ntmps183
      go_wp2_with fail
      have kc := KX.out
      with_reducible refine kc.mono ?_
      clear kc
      rintro e w' ⟨rfl, rfl⟩
      go_wp2_with fail
      have kc := KV.out
      with_reducible refine kc.mono ?_
      clear kc
      rintro e w' ⟨rfl, rfl⟩
      go_wp2_with fail
      have kc := KB.out
      with_reducible refine kc.mono ?_
      clear kc
      rintro e w' ⟨rfl, rfl⟩
      go_wp2
      go_ret2
      exact ⟨_, rfl, NIL.out _ H.out⟩
    · have hm : bitAt V c = decide (X ≠ 0) := Decidable.not_not.1 hm
      have hr : allB b c = (allFrom b c 1024 X 0).map ([] ++ ·) := by
        rw [HA.out, if_neg (by rw [hm]; simp)]
        cases allFrom b c 1024 X 0 <;> rfl
      obtain ⟨R, hR⟩ : ∃ R, allB b c = R := ⟨_, rfl⟩
      rw [hR] at hr ⊢
      have HR := Lib.hid hr
      rw [hm] at KB
      generalize decide (X ≠ 0) = xb at *
      have hX2 := hX
      clear hm hr hR hlen hho
      go_enter Try.func183, Try.ntmps183
      go_wp2_with fail
      have kc := KX.out
      with_reducible refine kc.mono ?_
      clear kc
      rintro e w' ⟨rfl, rfl⟩
      go_wp2_with fail
      have kc := KV.out
      with_reducible refine kc.mono ?_
      clear kc
      rintro e w' ⟨rfl, rfl⟩
      go_wp2_with fail
      have kc := KB.out
      with_reducible refine kc.mono ?_
      clear kc
      rintro e w' ⟨rfl, rfl⟩
      go_wp2
      clear q2
      go_loopw [6, 8, 9] (fun va vo vt wr => ∃ (f q z : Nat) (L : List Nat), va = .int .u64 q ∧ vt = .int .u64 z ∧ q < 18446744073709551616 ∧ z < 18446744073709551616 ∧ St B w0 wr (IntsO vo L :: l) ∧ R = (allFrom b c f q z).map (L ++ ·) ∧ L.length + f = 1024) (fun _ vo _ _ => 2000 - lenOf vo)
      case atStart => exact ⟨1024, X, 0, [], rfl, rfl, hX, by decide, NIL.out _ H.out, HR.out, rfl⟩
      case round =>
        obtain ⟨f, q, z, L, rfl, rfl, hq, hz, hs, hw, hL⟩ := hrel
        obtain ⟨a1, c1, rfl, _⟩ := ints_slice hs (i := 0) rfl
        have HS := Lib.hid hs; have HW := Lib.hid hw
        clear hs hw
        by_cases q0 : q = 0
        · have d0 : ((q : Int) != 0) = false := by rw [q0]; rfl
          have hw : R = some L := by
            rw [HW.out, q0]
            cases f <;> simp [allFrom]
          have HW2 := Lib.hid hw
          clear hw q0
          go_wp2
          go_ret2
          refine ⟨_, by rw [HW2.out]; rfl, ?_⟩
          rw [HW2.out]
          exact HS.out
        · have d0 : ((q : Int) != 0) = true := by rw [bne_iff_ne]; omega
          have hm := rl_Member HS.out (i := i + 1) HI.out (q : Int) q rfl hq HSM.out c hc
          cases f with
          | zero =>
            have d4 : ((L.length : Int) == 1024) = true := by rw [beq_iff_eq]; omega
            have hw : R = none := by rw [HW.out]; unfold allFrom; rw [if_neg q0]; rfl
            have HW2 := Lib.hid hw; have HM := Lib.hid hm
            clear hw q0 hL hm
            go_wp2_with fail
            have kc := HM.out
            with_reducible refine kc.mono ?_
            clear kc
            rintro e w4 ⟨rfl, t4⟩
            have T4 := Lib.hid t4
            clear t4
            go_wp2
            go_ret2
            refine ⟨_, by rw [HW2.out]; rfl, ?_⟩
            rw [HW2.out]
            exact NIL.out _ T4.out.tail
          | succ f =>
            have d4 : ((L.length : Int) == 1024) = false := by rw [beq_eq_false_iff_ne]; omega
            have hw := HW.out
            unfold allFrom at hw
            rw [if_neg q0] at hw
            cases hmb : memberB b q c with
            | false =>
              rw [if_pos (.inl hmb)] at hw
              rw [hmb] at hm
              have HM := Lib.hid hm
              have HW2 := Lib.hid hw
              clear hm hw hmb q0
              go_wp2_with fail
              have kc := HM.out
              with_reducible refine kc.mono ?_
              clear kc
              rintro e w4 ⟨rfl, t4⟩
              have T4 := Lib.hid t4
              clear t4
              go_wp2
              go_ret2
              refine ⟨_, by rw [HW2.out]; rfl, ?_⟩
              rw [HW2.out]
              exact NIL.out _ T4.out.tail
            | true =>
              obtain ⟨x1, x2, x3⟩ := memberB_at hmb
              rw [hmb] at hm
              have hY := numAt_lt b (q + 16); have hN := numAt_lt b (q + 8)
              have kw := fun w' (hb : Bs w' a b.length cp b) => rl_num w' a _ cp b hb (q + 16) ((q : Int) + 16) (by omega) (by omega)
              have kn := fun w' (hb : Bs w' a b.length cp b) => rl_num w' a _ cp b hb (q + 8) ((q : Int) + 8) (by omega) (by omega)
              have u1 : IntKind.i64.wrap (q : Int) = q := IntWalk.i64_in _ (by omega)
              have m3 : IntKind.i64.wrap ((q : Int) + 16) = (q : Int) + 16 := IntWalk.i64_in _ (by omega)
              have m4 : IntKind.i64.wrap ((q : Int) + 8) = (q : Int) + 8 := IntWalk.i64_in _ (by omega)
              generalize numAt b (q + 16) = Y at *
              generalize numAt b (q + 8) = N at *
              have HM := Lib.hid hm; have KW := Lib.hid kw; have KN := Lib.hid kn
              clear hm kw kn x1 x2 x3
              by_cases e5 : Y = z
              · rw [if_neg (by rw [hmb]; simp [e5])] at hw
                have d5 : ((Y : Int) != (z : Int)) = false := by rw [e5]; simp
                have HW2 := Lib.hid hw
                clear hw hmb q0 e5
                have hL2 : L.length ≤ 1000000 := by omega
                go_wp2_with fail
                have kc := HM.out
                with_reducible refine kc.mono ?_
                clear kc
                rintro e w4 ⟨rfl, t4⟩
                have T4 := Lib.hid t4
                clear t4
                go_wp2_with fail
                have kc := KW.out w4 (T4.out.as (i := i + 1) HI.out)
                with_reducible refine kc.mono ?_
                clear kc
                rintro e w' ⟨rfl, rfl⟩
                go_wp2_with (at_builtin; go_must (refine ints_app T4.out 0 rfl rfl (.tmp 47) (.tmp 50) rfl rfl (q : Int) q rfl rfl hL2 ?_; intro v6 w6 h6; have H6 := Lib.hid h6; clear h6))
                have kc := KN.out _ (H6.out.as (i := i + 1) HI.out)
                with_reducible refine kc.mono ?_
                clear kc
                rintro e w' ⟨rfl, rfl⟩
                go_wp2
                refine ⟨⟨f, N, q, L ++ [q], rfl, rfl, hN, hq, H6.out, ?_, by rw [List.length_append, List.length_singleton]; omega⟩, ?_⟩
                · rw [HW2.out]
                  simp only [Option.map_map]
                  congr 1
                  funext y
                  simp
                · obtain ⟨a6, c6, e6, _⟩ := ints_slice H6.out (i := 0) rfl
                  rw [e6]
                  simp only [lenOf, List.length_append, List.length_singleton]
                  omega
              · rw [if_pos (.inr e5)] at hw
                have d5 : ((Y : Int) != (z : Int)) = true := by rw [bne_iff_ne]; omega
                have HW2 := Lib.hid hw
                clear hw hmb q0 e5
                go_wp2_with fail
                have kc := HM.out
                with_reducible refine kc.mono ?_
                clear kc
                rintro e w4 ⟨rfl, t4⟩
                have T4 := Lib.hid t4
                clear t4
                go_wp2_with fail
                have kc := KW.out w4 (T4.out.as (i := i + 1) HI.out)
                with_reducible refine kc.mono ?_
                clear kc
                rintro e w' ⟨rfl, rfl⟩
                go_wp2
                go_ret2
                refine ⟨_, by rw [HW2.out]; rfl, ?_⟩
                rw [HW2.out]
                exact NIL.out _ T4.out.tail
end
end Go.Proofs.Ytjijniillehfoaa
