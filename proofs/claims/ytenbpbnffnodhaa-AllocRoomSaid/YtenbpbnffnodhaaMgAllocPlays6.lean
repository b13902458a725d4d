/- Texts of the proof of 'AllocPlays', part 6: words on memory, contracts of functions, plain laws. No condition. -/
import Derived.Test.YtenbpbnffnodhaaMgAllocPlays4
import Derived.Test.YtenbpbnffnodhaaMgAllocPlays5
set_option linter.unusedSimpArgs false
set_option linter.unusedVariables false
/- Lists of free blocks: the program's Take. -/
namespace Go.Proofs.Ytenbpbnffnodhaa
open Go Go.RowKit Go.Own
set_option linter.unusedVariables false
set_option maxRecDepth 100000
section
variable {B : Nat} {w0 w : World} {l : List Ob} {i p bs cp : Nat} {b : List UInt8}
set_option maxHeartbeats 8000000 in
theorem ls_Take (h : St B w0 w (l.set i (ArT p ⟨bs, cp, b⟩))) (hil : i < l.length) (o : Int) :
    Calls Try.prog 89 #[arP p, .int .i64 o] w fun e w' => e = .returned (errP (takeI b o)) ∧ St B w0 w' (l.set i (ArT p ⟨bs, cp, (takeI b o).getD b⟩)) := by
  obtain ⟨hsm, hbs⟩ := ls_small h hil
  have kf := ls_free h hil o
  have H := Lib.hid h
  clear h
  cases hF : freeI b o with
  | none =>
    have hn : takeI b o = none := by
      unfold freeI at hF; unfold takeI
      split
      · rename_i h0; rw [if_pos h0] at hF; unfold takeB; rw [hF]
      · rfl
    rw [hF, show errF none = .iface 183 (.int .i64 3) from rfl] at kf
    rw [hn]
    have KF := Lib.hid kf
    clear hF hn kf
    go_enter Try.func89, Try.ntmps89
    go_wp2_with fail
    have kc := KF.out
    with_reducible refine kc.mono ?_
    clear kc
    rintro e w3 ⟨rfl, t3⟩
    have T3 := Lib.hid t3
    clear t3
    go_wp2
    go_ret
    exact ⟨rfl, T3.out⟩
  | some c =>
    rw [hF, show errF (some c) = .nilIface from rfl, Option.getD_some] at kf
    have KF := Lib.hid kf
    obtain ⟨O, rfl, hF2⟩ := freeI_some hF
    obtain ⟨x, -, -, -, hc, o1, o2, o3⟩ := freeB_some hF2
    have hT : takeI b (O : Int) = takeB b O := by unfold takeI; rw [if_pos (Int.natCast_nonneg _), Int.toNat_natCast]
    unfold takeB at hT
    rw [hF2] at hT
    simp only at hT
    have hX := numAt_lt b (headO c); have hP := numAt_lt b (O + 16); have hN := numAt_lt b (O + 8)
    have hho : headO c ≤ 176 := by unfold headO; omega
    obtain ⟨X, hXe⟩ : ∃ X, numAt b (headO c) = X := ⟨_, rfl⟩
    obtain ⟨P, hPe⟩ : ∃ P, numAt b (O + 16) = P := ⟨_, rfl⟩
    obtain ⟨N, hNe⟩ : ∃ N, numAt b (O + 8) = N := ⟨_, rfl⟩
    rw [hXe, hPe, hNe] at hT
    rw [hXe] at hX; rw [hPe] at hP; rw [hNe] at hN
    have HXE := Lib.hid hXe; have HPE := Lib.hid hPe; have HNE := Lib.hid hNe
    have u0 : IntKind.u64.wrap (O : Int) = O := IntWalk.u64_in _ (by omega)
    have m1 : IntKind.i64.wrap ((O : Int) + 8) = (O : Int) + 8 := IntWalk.i64_in _ (by omega)
    have m2 : IntKind.i64.wrap ((O : Int) + 16) = (O : Int) + 16 := IntWalk.i64_in _ (by omega)
    have HO := Lib.hid (And.intro o1 (And.intro o2 o3))
    have HT := Lib.hid hT
    clear hT hF hF2 kf o2 hXe hPe hNe
    by_cases e1 : P = 0
    · have z1 : ((P : Int) == 0) = true := by rw [e1]; rfl
      have z1' : ((P : Int) != 0) = false := by rw [e1]; rfl
      by_cases e2 : X = O
      · have z4 : ((X : Int) != (O : Int)) = false := by rw [e2]; simp
        by_cases e4 : N = 0
        · have z2 : ((N : Int) != 0) = false := by rw [e4]; rfl
          have hr := HT.out
          rw [if_neg (fun h => h.elim (fun h => h.2 e2) (fun h => h.elim (fun h => h.1 e1) (fun h => h.1 e4))), if_pos e1, if_pos e4] at hr
          rw [hr, show errP (some (markB (layAt b (headO c) N) c)) = .nilIface from rfl, Option.getD_some]
          clear hr
          have l1 : (layAt b (headO c) N).length = b.length := layAt_length _ _ _ (by omega)
          have HL := Lib.hid l1
          clear l1
          go_enter Try.func89, Try.ntmps89
          go_wp2_with fail
          have kc := KF.out
          with_reducible refine kc.mono ?_
          clear kc
          rintro e w3 ⟨rfl, t3⟩
          have T3 := Lib.hid t3
          clear t3
          go_wp2_with fail
          have kc := ls_word T3.out hil ((O : Int) + 16) (O + 16) (by omega) (by omega)
          rw [HPE.out] at kc
          with_reducible refine kc.mono ?_
          clear kc
          rintro e w' ⟨rfl, rfl⟩
          go_wp2_with fail
          have kc := ls_word T3.out hil ((O : Int) + 8) (O + 8) (by omega) (by omega)
          rw [HNE.out] at kc
          with_reducible refine kc.mono ?_
          clear kc
          rintro e w' ⟨rfl, rfl⟩
          go_wp2_with fail
          have kc := lst_head w3 c hc
          with_reducible refine kc.mono ?_
          clear kc
          rintro e w' ⟨rfl, rfl⟩
          go_wp2_with fail
          have kc := ls_word T3.out hil (headO c : Nat) (headO c) rfl (by omega)
          rw [HXE.out] at kc
          with_reducible refine kc.mono ?_
          clear kc
          rintro e w' ⟨rfl, rfl⟩
          go_wp2_with fail
          have kc := lst_head w3 c hc
          with_reducible refine kc.mono ?_
          clear kc
          rintro e w' ⟨rfl, rfl⟩
          go_wp2_with fail
          have kc := ls_set T3.out hil (headO c : Nat) (headO c) rfl (by omega) 0 N (by omega) hN
          with_reducible refine kc.mono ?_
          clear kc
          rintro e w6 ⟨rfl, t6⟩
          have T6 := Lib.hid t6
          clear t6
          go_wp2_with fail
          have kc := ls_mark T6.out hil c hc (by rw [HL.out]; omega)
          with_reducible refine kc.mono ?_
          clear kc
          rintro e w8 ⟨rfl, t8⟩
          have T8 := Lib.hid t8
          clear t8
          go_wp2
          go_ret
          exact ⟨rfl, T8.out⟩
        · have z2 : ((N : Int) != 0) = true := by rw [bne_iff_ne]; omega
          cases hm2 : memberB b N c with
          | false =>
            have HMN := Lib.hid hm2
            clear hm2
            have hr : takeI b (O : Int) = none := by rw [HT.out, if_pos (.inr (.inr ⟨e4, .inl HMN.out⟩))]
            rw [hr]
            clear hr
            go_enter Try.func89, Try.ntmps89
            go_wp2_with fail
            have kc := KF.out
            with_reducible refine kc.mono ?_
            clear kc
            rintro e w3 ⟨rfl, t3⟩
            have T3 := Lib.hid t3
            clear t3
            go_wp2_with fail
            have kc := ls_word T3.out hil ((O : Int) + 16) (O + 16) (by omega) (by omega)
            rw [HPE.out] at kc
            with_reducible refine kc.mono ?_
            clear kc
            rintro e w' ⟨rfl, rfl⟩
            go_wp2_with fail
            have kc := ls_word T3.out hil ((O : Int) + 8) (O + 8) (by omega) (by omega)
            rw [HNE.out] at kc
            with_reducible refine kc.mono ?_
            clear kc
            rintro e w' ⟨rfl, rfl⟩
            go_wp2_with fail
            have kc := lst_head w3 c hc
            with_reducible refine kc.mono ?_
            clear kc
            rintro e w' ⟨rfl, rfl⟩
            go_wp2_with fail
            have kc := ls_word T3.out hil (headO c : Nat) (headO c) rfl (by omega)
            rw [HXE.out] at kc
            with_reducible refine kc.mono ?_
            clear kc
            rintro e w' ⟨rfl, rfl⟩
            go_wp2_with fail
            have kc := ls_member T3.out hil N N rfl hN c hc
            rw [HMN.out] at kc
            with_reducible refine kc.mono ?_
            clear kc
            rintro e w5 ⟨rfl, t5⟩
            have T5 := Lib.hid t5
            clear t5
            go_wp2
            go_ret
            exact ⟨rfl, T5.out⟩
          | true =>
            obtain ⟨n1, n2, n3⟩ := memberB_at hm2
            have HMN := Lib.hid hm2
            clear hm2 n1 n2
            have un : IntKind.i64.wrap (N : Int) = N := IntWalk.i64_in _ (by omega)
            have mn : IntKind.i64.wrap ((N : Int) + 16) = (N : Int) + 16 := IntWalk.i64_in _ (by omega)
            obtain ⟨R, hR⟩ : ∃ R, numAt b (N + 16) = R := ⟨_, rfl⟩
            have HQN := Lib.hid hR
            by_cases e5 : R = O
            · have z3 : ((R : Int) != (O : Int)) = false := by rw [e5]; simp
              rw [← hR] at e5
              clear hR
              have hr := HT.out
              rw [if_neg (fun h => h.elim (fun h => h.2 e2) (fun h => h.elim (fun h => h.1 e1) (fun h => h.2.elim (fun h => by rw [HMN.out] at h; cases h) (fun h => h e5)))), if_pos e1, if_neg e4] at hr
              rw [hr, show errP (some (markB (layAt (layAt b (headO c) N) (N + 16) P) c)) = .nilIface from rfl, Option.getD_some]
              clear hr
              have l1 : (layAt b (headO c) N).length = b.length := layAt_length _ _ _ (by omega)
              have l2 : (layAt (layAt b (headO c) N) (N + 16) P).length = b.length := by rw [layAt_length _ _ _ (by omega)]; exact l1
              have HL := Lib.hid l1
              have HL2 := Lib.hid l2
              clear l1 l2
              go_enter Try.func89, Try.ntmps89
              go_wp2_with fail
              have kc := KF.out
              with_reducible refine kc.mono ?_
              clear kc
              rintro e w3 ⟨rfl, t3⟩
              have T3 := Lib.hid t3
              clear t3
              go_wp2_with fail
              have kc := ls_word T3.out hil ((O : Int) + 16) (O + 16) (by omega) (by omega)
              rw [HPE.out] at kc
              with_reducible refine kc.mono ?_
              clear kc
              rintro e w' ⟨rfl, rfl⟩
              go_wp2_with fail
              have kc := ls_word T3.out hil ((O : Int) + 8) (O + 8) (by omega) (by omega)
              rw [HNE.out] at kc
              with_reducible refine kc.mono ?_
              clear kc
              rintro e w' ⟨rfl, rfl⟩
              go_wp2_with fail
              have kc := lst_head w3 c hc
              with_reducible refine kc.mono ?_
              clear kc
              rintro e w' ⟨rfl, rfl⟩
              go_wp2_with fail
              have kc := ls_word T3.out hil (headO c : Nat) (headO c) rfl (by omega)
              rw [HXE.out] at kc
              with_reducible refine kc.mono ?_
              clear kc
              rintro e w' ⟨rfl, rfl⟩
              go_wp2_with fail
              have kc := ls_member T3.out hil N N rfl hN c hc
              rw [HMN.out] at kc
              with_reducible refine kc.mono ?_
              clear kc
              rintro e w5 ⟨rfl, t5⟩
              have T5 := Lib.hid t5
              clear t5
              go_wp2_with fail
              have kc := ls_word T5.out hil ((N : Int) + 16) (N + 16) (by omega) (by omega)
              rw [HQN.out] at kc
              with_reducible refine kc.mono ?_
              clear kc
              rintro e w' ⟨rfl, rfl⟩
              go_wp2_with fail
              have kc := lst_head w5 c hc
              with_reducible refine kc.mono ?_
              clear kc
              rintro e w' ⟨rfl, rfl⟩
              go_wp2_with fail
              have kc := ls_set T5.out hil (headO c : Nat) (headO c) rfl (by omega) N N rfl hN
              with_reducible refine kc.mono ?_
              clear kc
              rintro e w6 ⟨rfl, t6⟩
              have T6 := Lib.hid t6
              clear t6
              go_wp2_with fail
              have kc := ls_set T6.out hil ((N : Int) + 16) (N + 16) (by omega) (by rw [HL.out]; omega) 0 P (by omega) hP
              with_reducible refine kc.mono ?_
              clear kc
              rintro e w7 ⟨rfl, t7⟩
              have T7 := Lib.hid t7
              clear t7
              go_wp2_with fail
              have kc := ls_mark T7.out hil c hc (by rw [HL2.out]; omega)
              with_reducible refine kc.mono ?_
              clear kc
              rintro e w8 ⟨rfl, t8⟩
              have T8 := Lib.hid t8
              clear t8
              go_wp2
              go_ret
              exact ⟨rfl, T8.out⟩
            · have z3 : ((R : Int) != (O : Int)) = true := by rw [bne_iff_ne]; omega
              rw [← hR] at e5
              clear hR
              have hr : takeI b (O : Int) = none := by rw [HT.out, if_pos (.inr (.inr ⟨e4, .inr e5⟩))]
              rw [hr]
              clear hr
              go_enter Try.func89, Try.ntmps89
              go_wp2_with fail
              have kc := KF.out
              with_reducible refine kc.mono ?_
              clear kc
              rintro e w3 ⟨rfl, t3⟩
              have T3 := Lib.hid t3
              clear t3
              go_wp2_with fail
              have kc := ls_word T3.out hil ((O : Int) + 16) (O + 16) (by omega) (by omega)
              rw [HPE.out] at kc
              with_reducible refine kc.mono ?_
              clear kc
              rintro e w' ⟨rfl, rfl⟩
              go_wp2_with fail
              have kc := ls_word T3.out hil ((O : Int) + 8) (O + 8) (by omega) (by omega)
              rw [HNE.out] at kc
              with_reducible refine kc.mono ?_
              clear kc
              rintro e w' ⟨rfl, rfl⟩
              go_wp2_with fail
              have kc := lst_head w3 c hc
              with_reducible refine kc.mono ?_
              clear kc
              rintro e w' ⟨rfl, rfl⟩
              go_wp2_with fail
              have kc := ls_word T3.out hil (headO c : Nat) (headO c) rfl (by omega)
              rw [HXE.out] at kc
              with_reducible refine kc.mono ?_
              clear kc
              rintro e w' ⟨rfl, rfl⟩
              go_wp2_with fail
              have kc := ls_member T3.out hil N N rfl hN c hc
              rw [HMN.out] at kc
              with_reducible refine kc.mono ?_
              clear kc
              rintro e w5 ⟨rfl, t5⟩
              have T5 := Lib.hid t5
              clear t5
              go_wp2_with fail
              have kc := ls_word T5.out hil ((N : Int) + 16) (N + 16) (by omega) (by omega)
              rw [HQN.out] at kc
              with_reducible refine kc.mono ?_
              clear kc
              rintro e w' ⟨rfl, rfl⟩
              go_wp2
              go_ret
              exact ⟨rfl, T5.out⟩
      · have z4 : ((X : Int) != (O : Int)) = true := by rw [bne_iff_ne]; omega
        have hr : takeI b (O : Int) = none := by rw [HT.out, if_pos (.inl ⟨e1, e2⟩)]
        rw [hr]
        clear hr
        go_enter Try.func89, Try.ntmps89
        go_wp2_with fail
        have kc := KF.out
        with_reducible refine kc.mono ?_
        clear kc
        rintro e w3 ⟨rfl, t3⟩
        have T3 := Lib.hid t3
        clear t3
        go_wp2_with fail
        have kc := ls_word T3.out hil ((O : Int) + 16) (O + 16) (by omega) (by omega)
        rw [HPE.out] at kc
        with_reducible refine kc.mono ?_
        clear kc
        rintro e w' ⟨rfl, rfl⟩
        go_wp2_with fail
        have kc := ls_word T3.out hil ((O : Int) + 8) (O + 8) (by omega) (by omega)
        rw [HNE.out] at kc
        with_reducible refine kc.mono ?_
        clear kc
        rintro e w' ⟨rfl, rfl⟩
        go_wp2_with fail
        have kc := lst_head w3 c hc
        with_reducible refine kc.mono ?_
        clear kc
        rintro e w' ⟨rfl, rfl⟩
        go_wp2_with fail
        have kc := ls_word T3.out hil (headO c : Nat) (headO c) rfl (by omega)
        rw [HXE.out] at kc
        with_reducible refine kc.mono ?_
        clear kc
        rintro e w' ⟨rfl, rfl⟩
        go_wp2
        go_ret
        exact ⟨rfl, T3.out⟩
    · have z1 : ((P : Int) == 0) = false := by rw [beq_eq_false_iff_ne]; omega
      have z1' : ((P : Int) != 0) = true := by rw [bne_iff_ne]; omega
      cases hm1 : memberB b P c with
      | false =>
        have HMP := Lib.hid hm1
        clear hm1
        have hr : takeI b (O : Int) = none := by rw [HT.out, if_pos (.inr (.inl ⟨e1, .inl HMP.out⟩))]
        rw [hr]
        clear hr
        go_enter Try.func89, Try.ntmps89
        go_wp2_with fail
        have kc := KF.out
        with_reducible refine kc.mono ?_
        clear kc
        rintro e w3 ⟨rfl, t3⟩
        have T3 := Lib.hid t3
        clear t3
        go_wp2_with fail
        have kc := ls_word T3.out hil ((O : Int) + 16) (O + 16) (by omega) (by omega)
        rw [HPE.out] at kc
        with_reducible refine kc.mono ?_
        clear kc
        rintro e w' ⟨rfl, rfl⟩
        go_wp2_with fail
        have kc := ls_word T3.out hil ((O : Int) + 8) (O + 8) (by omega) (by omega)
        rw [HNE.out] at kc
        with_reducible refine kc.mono ?_
        clear kc
        rintro e w' ⟨rfl, rfl⟩
        go_wp2_with fail
        have kc := ls_member T3.out hil P P rfl hP c hc
        rw [HMP.out] at kc
        with_reducible refine kc.mono ?_
        clear kc
        rintro e w4 ⟨rfl, t4⟩
        have T4 := Lib.hid t4
        clear t4
        go_wp2
        go_ret
        exact ⟨rfl, T4.out⟩
      | true =>
        obtain ⟨p1, p2, p3⟩ := memberB_at hm1
        have HMP := Lib.hid hm1
        clear hm1 p1 p2
        have up : IntKind.i64.wrap (P : Int) = P := IntWalk.i64_in _ (by omega)
        have mp : IntKind.i64.wrap ((P : Int) + 8) = (P : Int) + 8 := IntWalk.i64_in _ (by omega)
        obtain ⟨Y, hY⟩ : ∃ Y, numAt b (P + 8) = Y := ⟨_, rfl⟩
        have HQP := Lib.hid hY
        by_cases e3 : Y = O
        · have z5 : ((Y : Int) != (O : Int)) = false := by rw [e3]; simp
          rw [← hY] at e3
          clear hY
          by_cases e4 : N = 0
          · have z2 : ((N : Int) != 0) = false := by rw [e4]; rfl
            have hr := HT.out
            rw [if_neg (fun h => h.elim (fun h => absurd h.1 e1) (fun h => h.elim (fun h => h.2.elim (fun h => by rw [HMP.out] at h; cases h) (fun h => h e3)) (fun h => h.1 e4))), if_neg e1, if_pos e4] at hr
            rw [hr, show errP (some (markB (layAt b (P + 8) N) c)) = .nilIface from rfl, Option.getD_some]
            clear hr
            have l1 : (layAt b (P + 8) N).length = b.length := layAt_length _ _ _ (by omega)
            have HL := Lib.hid l1
            clear l1
            go_enter Try.func89, Try.ntmps89
            go_wp2_with fail
            have kc := KF.out
            with_reducible refine kc.mono ?_
            clear kc
            rintro e w3 ⟨rfl, t3⟩
            have T3 := Lib.hid t3
            clear t3
            go_wp2_with fail
            have kc := ls_word T3.out hil ((O : Int) + 16) (O + 16) (by omega) (by omega)
            rw [HPE.out] at kc
            with_reducible refine kc.mono ?_
            clear kc
            rintro e w' ⟨rfl, rfl⟩
            go_wp2_with fail
            have kc := ls_word T3.out hil ((O : Int) + 8) (O + 8) (by omega) (by omega)
            rw [HNE.out] at kc
            with_reducible refine kc.mono ?_
            clear kc
            rintro e w' ⟨rfl, rfl⟩
            go_wp2_with fail
            have kc := ls_member T3.out hil P P rfl hP c hc
            rw [HMP.out] at kc
            with_reducible refine kc.mono ?_
            clear kc
            rintro e w4 ⟨rfl, t4⟩
            have T4 := Lib.hid t4
            clear t4
            go_wp2_with fail
            have kc := ls_word T4.out hil ((P : Int) + 8) (P + 8) (by omega) (by omega)
            rw [HQP.out] at kc
            with_reducible refine kc.mono ?_
            clear kc
            rintro e w' ⟨rfl, rfl⟩
            go_wp2_with fail
            have kc := ls_set T4.out hil ((P : Int) + 8) (P + 8) (by omega) (by omega) 0 N (by omega) hN
            with_reducible refine kc.mono ?_
            clear kc
            rintro e w6 ⟨rfl, t6⟩
            have T6 := Lib.hid t6
            clear t6
            go_wp2_with fail
            have kc := ls_mark T6.out hil c hc (by rw [HL.out]; omega)
            with_reducible refine kc.mono ?_
            clear kc
            rintro e w8 ⟨rfl, t8⟩
            have T8 := Lib.hid t8
            clear t8
            go_wp2
            go_ret
            exact ⟨rfl, T8.out⟩
          · have z2 : ((N : Int) != 0) = true := by rw [bne_iff_ne]; omega
            cases hm2 : memberB b N c with
            | false =>
              have HMN := Lib.hid hm2
              clear hm2
              have hr : takeI b (O : Int) = none := by rw [HT.out, if_pos (.inr (.inr ⟨e4, .inl HMN.out⟩))]
              rw [hr]
              clear hr
              go_enter Try.func89, Try.ntmps89
              go_wp2_with fail
              have kc := KF.out
              with_reducible refine kc.mono ?_
              clear kc
              rintro e w3 ⟨rfl, t3⟩
              have T3 := Lib.hid t3
              clear t3
              go_wp2_with fail
              have kc := ls_word T3.out hil ((O : Int) + 16) (O + 16) (by omega) (by omega)
              rw [HPE.out] at kc
              with_reducible refine kc.mono ?_
              clear kc
              rintro e w' ⟨rfl, rfl⟩
              go_wp2_with fail
              have kc := ls_word T3.out hil ((O : Int) + 8) (O + 8) (by omega) (by omega)
              rw [HNE.out] at kc
              with_reducible refine kc.mono ?_
              clear kc
              rintro e w' ⟨rfl, rfl⟩
              go_wp2_with fail
              have kc := ls_member T3.out hil P P rfl hP c hc
              rw [HMP.out] at kc
              with_reducible refine kc.mono ?_
              clear kc
              rintro e w4 ⟨rfl, t4⟩
              have T4 := Lib.hid t4
              clear t4
              go_wp2_with fail
              have kc := ls_word T4.out hil ((P : Int) + 8) (P + 8) (by omega) (by omega)
              rw [HQP.out] at kc
              with_reducible refine kc.mono ?_
              clear kc
              rintro e w' ⟨rfl, rfl⟩
              go_wp2_with fail
              have kc := ls_member T4.out hil N N rfl hN c hc
              rw [HMN.out] at kc
              with_reducible refine kc.mono ?_
              clear kc
              rintro e w5 ⟨rfl, t5⟩
              have T5 := Lib.hid t5
              clear t5
              go_wp2
              go_ret
              exact ⟨rfl, T5.out⟩
            | true =>
              obtain ⟨n1, n2, n3⟩ := memberB_at hm2
              have HMN := Lib.hid hm2
              clear hm2 n1 n2
              have un : IntKind.i64.wrap (N : Int) = N := IntWalk.i64_in _ (by omega)
              have mn : IntKind.i64.wrap ((N : Int) + 16) = (N : Int) + 16 := IntWalk.i64_in _ (by omega)
              obtain ⟨R, hR⟩ : ∃ R, numAt b (N + 16) = R := ⟨_, rfl⟩
              have HQN := Lib.hid hR
              by_cases e5 : R = O
              · have z3 : ((R : Int) != (O : Int)) = false := by rw [e5]; simp
                rw [← hR] at e5
                clear hR
                have hr := HT.out
                rw [if_neg (fun h => h.elim (fun h => absurd h.1 e1) (fun h => h.elim (fun h => h.2.elim (fun h => by rw [HMP.out] at h; cases h) (fun h => h e3)) (fun h => h.2.elim (fun h => by rw [HMN.out] at h; cases h) (fun h => h e5)))), if_neg e1, if_neg e4] at hr
                rw [hr, show errP (some (markB (layAt (layAt b (P + 8) N) (N + 16) P) c)) = .nilIface from rfl, Option.getD_some]
                clear hr
                have l1 : (layAt b (P + 8) N).length = b.length := layAt_length _ _ _ (by omega)
                have l2 : (layAt (layAt b (P + 8) N) (N + 16) P).length = b.length := by rw [layAt_length _ _ _ (by omega)]; exact l1
                have HL := Lib.hid l1
                have HL2 := Lib.hid l2
                clear l1 l2
                go_enter Try.func89, Try.ntmps89
                go_wp2_with fail
                have kc := KF.out
                with_reducible refine kc.mono ?_
                clear kc
                rintro e w3 ⟨rfl, t3⟩
                have T3 := Lib.hid t3
                clear t3
                go_wp2_with fail
                have kc := ls_word T3.out hil ((O : Int) + 16) (O + 16) (by omega) (by omega)
                rw [HPE.out] at kc
                with_reducible refine kc.mono ?_
                clear kc
                rintro e w' ⟨rfl, rfl⟩
                go_wp2_with fail
                have kc := ls_word T3.out hil ((O : Int) + 8) (O + 8) (by omega) (by omega)
                rw [HNE.out] at kc
                with_reducible refine kc.mono ?_
                clear kc
                rintro e w' ⟨rfl, rfl⟩
                go_wp2_with fail
                have kc := ls_member T3.out hil P P rfl hP c hc
                rw [HMP.out] at kc
                with_reducible refine kc.mono ?_
                clear kc
                rintro e w4 ⟨rfl, t4⟩
                have T4 := Lib.hid t4
                clear t4
                go_wp2_with fail
                have kc := ls_word T4.out hil ((P : Int) + 8) (P + 8) (by omega) (by omega)
                rw [HQP.out] at kc
                with_reducible refine kc.mono ?_
                clear kc
                rintro e w' ⟨rfl, rfl⟩
                go_wp2_with fail
                have kc := ls_member T4.out hil N N rfl hN c hc
                rw [HMN.out] at kc
                with_reducible refine kc.mono ?_
                clear kc
                rintro e w5 ⟨rfl, t5⟩
                have T5 := Lib.hid t5
                clear t5
                go_wp2_with fail
                have kc := ls_word T5.out hil ((N : Int) + 16) (N + 16) (by omega) (by omega)
                rw [HQN.out] at kc
                with_reducible refine kc.mono ?_
                clear kc
                rintro e w' ⟨rfl, rfl⟩
                go_wp2_with fail
                have kc := ls_set T5.out hil ((P : Int) + 8) (P + 8) (by omega) (by omega) N N rfl hN
                with_reducible refine kc.mono ?_
                clear kc
                rintro e w6 ⟨rfl, t6⟩
                have T6 := Lib.hid t6
                clear t6
                go_wp2_with fail
                have kc := ls_set T6.out hil ((N : Int) + 16) (N + 16) (by omega) (by rw [HL.out]; omega) P P rfl hP
                with_reducible refine kc.mono ?_
                clear kc
                rintro e w7 ⟨rfl, t7⟩
                have T7 := Lib.hid t7
                clear t7
                go_wp2_with fail
                have kc := ls_mark T7.out hil c hc (by rw [HL2.out]; omega)
                with_reducible refine kc.mono ?_
                clear kc
                rintro e w8 ⟨rfl, t8⟩
                have T8 := Lib.hid t8
                clear t8
                go_wp2
                go_ret
                exact ⟨rfl, T8.out⟩
              · have z3 : ((R : Int) != (O : Int)) = true := by rw [bne_iff_ne]; omega
                rw [← hR] at e5
                clear hR
                have hr : takeI b (O : Int) = none := by rw [HT.out, if_pos (.inr (.inr ⟨e4, .inr e5⟩))]
                rw [hr]
                clear hr
                go_enter Try.func89, Try.ntmps89
                go_wp2_with fail
                have kc := KF.out
                with_reducible refine kc.mono ?_
                clear kc
                rintro e w3 ⟨rfl, t3⟩
                have T3 := Lib.hid t3
                clear t3
                go_wp2_with fail
                have kc := ls_word T3.out hil ((O : Int) + 16) (O + 16) (by omega) (by omega)
                rw [HPE.out] at kc
                with_reducible refine kc.mono ?_
                clear kc
                rintro e w' ⟨rfl, rfl⟩
                go_wp2_with fail
                have kc := ls_word T3.out hil ((O : Int) + 8) (O + 8) (by omega) (by omega)
                rw [HNE.out] at kc
                with_reducible refine kc.mono ?_
                clear kc
                rintro e w' ⟨rfl, rfl⟩
                go_wp2_with fail
                have kc := ls_member T3.out hil P P rfl hP c hc
                rw [HMP.out] at kc
                with_reducible refine kc.mono ?_
                clear kc
                rintro e w4 ⟨rfl, t4⟩
                have T4 := Lib.hid t4
                clear t4
                go_wp2_with fail
                have kc := ls_word T4.out hil ((P : Int) + 8) (P + 8) (by omega) (by omega)
                rw [HQP.out] at kc
                with_reducible refine kc.mono ?_
                clear kc
                rintro e w' ⟨rfl, rfl⟩
                go_wp2_with fail
                have kc := ls_member T4.out hil N N rfl hN c hc
                rw [HMN.out] at kc
                with_reducible refine kc.mono ?_
                clear kc
                rintro e w5 ⟨rfl, t5⟩
                have T5 := Lib.hid t5
                clear t5
                go_wp2_with fail
                have kc := ls_word T5.out hil ((N : Int) + 16) (N + 16) (by omega) (by omega)
                rw [HQN.out] at kc
                with_reducible refine kc.mono ?_
                clear kc
                rintro e w' ⟨rfl, rfl⟩
                go_wp2
                go_ret
                exact ⟨rfl, T5.out⟩
        · have z5 : ((Y : Int) != (O : Int)) = true := by rw [bne_iff_ne]; omega
          rw [← hY] at e3
          clear hY
          have hr : takeI b (O : Int) = none := by rw [HT.out, if_pos (.inr (.inl ⟨e1, .inr e3⟩))]
          rw [hr]
          clear hr
          go_enter Try.func89, Try.ntmps89
          go_wp2_with fail
          have kc := KF.out
          with_reducible refine kc.mono ?_
          clear kc
          rintro e w3 ⟨rfl, t3⟩
          have T3 := Lib.hid t3
          clear t3
          go_wp2_with fail
          have kc := ls_word T3.out hil ((O : Int) + 16) (O + 16) (by omega) (by omega)
          rw [HPE.out] at kc
          with_reducible refine kc.mono ?_
          clear kc
          rintro e w' ⟨rfl, rfl⟩
          go_wp2_with fail
          have kc := ls_word T3.out hil ((O : Int) + 8) (O + 8) (by omega) (by omega)
          rw [HNE.out] at kc
          with_reducible refine kc.mono ?_
          clear kc
          rintro e w' ⟨rfl, rfl⟩
          go_wp2_with fail
          have kc := ls_member T3.out hil P P rfl hP c hc
          rw [HMP.out] at kc
          with_reducible refine kc.mono ?_
          clear kc
          rintro e w4 ⟨rfl, t4⟩
          have T4 := Lib.hid t4
          clear t4
          go_wp2_with fail
          have kc := ls_word T4.out hil ((P : Int) + 8) (P + 8) (by omega) (by omega)
          rw [HQP.out] at kc
          with_reducible refine kc.mono ?_
          clear kc
          rintro e w' ⟨rfl, rfl⟩
          go_wp2
          go_ret
          exact ⟨rfl, T4.out⟩
end
end Go.Proofs.Ytenbpbnffnodhaa

/- Lists of free blocks: the program's All and Clear. -/
namespace Go.Own
open Go Go.RowKit
/-- How long a slice value is. -/
def lenOf (v : Value) : Nat := match v with | .slice _ n _ => n | _ => 0
end Go.Own
namespace Go.Proofs.Ytenbpbnffnodhaa
open Go Go.RowKit Go.Own
set_option linter.unusedVariables false
set_option maxRecDepth 100000
theorem info_int : Info Try.prog 3 (.int .i64 0) 1 8 := by unfold Info; kernel_rfl
/-- A list of numbers of one's own. -/
abbrev IntsO (v : Value) (L : List Nat) : Ob := OwO 3 1 v L.length (L.map fun o => .int .i64 (o : Nat))
theorem ints_one (L : List Nat) : ∀ u ∈ L.map (fun o => Value.int .i64 (o : Nat)), u.oneCell' = true := by
  intro u hu; obtain ⟨x, _, rfl⟩ := List.mem_map.1 hu; rfl
section
variable {B : Nat} {w0 w : World} {l : List Ob} {ops : Array Oper} {rest : List Oper} {o : Oper} {a : Act} {Q : Exit → Act → World → Prop}
theorem ints_slice (h : St B w0 w l) {i : Nat} {v : Value} {L : List Nat} (hi : l[i]? = some (IntsO v L)) : ∃ a c, v = .slice a L.length c ∧ Sl w a L.length c 1 (L.map fun o => .int .i64 (o : Nat)) := by
  obtain ⟨a, c, e, _, hs⟩ := Sl.of_owned (h.own hi)
  exact ⟨a, c, e, hs⟩
/-- 'append(l, x)'. -/
theorem ints_app (h : St B w0 w l) (i : Nat) {v : Value} {L : List Nat} (hi : l[i]? = some (IntsO v L)) (hgd : Region.wanted o (yielded ops a.tmps) = true) (s x : Operand)
    (ho : o.op = .call { callee := .builtin .append, args := #[s, x], argTypes := #[74, 74] }) (hs : a.eval s = v) (q : Int) (y : Nat) (hq : q = y)
    (hx : a.eval x = .slice (some ⟨w.heap.size, 0, none⟩) 1 1) (hL : L.length ≤ 1000000)
    (hk : ∀ v' w', St B w0 w' (l.set i (IntsO v' (L ++ [y]))) → wpList Try.prog ops Q rest (a.put o.dst v') w') : wpList Try.prog ops Q (o :: rest) a (w.alloc (.cells #[.int .i64 q] 3 (0, 0))) := by
  subst hq
  have h' := h.alloc (.cells #[.int .i64 (y : Nat)] 3 (0, 0))
  refine app_in hgd s x 74 ho 0 3 _ 1 8 Try.underlying74 info_int rfl (by decide) v L.length _ hs (h'.own hi) _ 1 1 [.int .i64 (y : Nat)] hx (Sl.lit w 3 [.int .i64 (y : Nat)] 1 1 rfl (by decide)) (one1 rfl) (by omega) (by omega) (Nat.zero_le _) fun v' w' h1 h2 h3 => hk v' w' ?_
  have := h'.ownTo hi w' v' _ _ h1 h2 h3
  unfold IntsO
  rw [List.length_append, List.map_append]
  exact this
end
def errA (x : Option (List Nat)) : Value := match x with | none => .iface 183 (.int .i64 3) | some _ => .nilIface
section
variable {B : Nat} {w0 w : World} {l : List Ob} {i p bs cp : Nat} {b : List UInt8}
theorem allB_bit (V c : Nat) : (((V / 2 ^ c % 2 : Nat) : Int) == 1) = bitAt V c := by
  unfold bitAt
  rw [Bool.eq_iff_iff, beq_iff_eq, decide_eq_true_iff]; omega
set_option maxHeartbeats 8000000 in
theorem ls_All (h : St B w0 w (l.set i (ArT p ⟨bs, cp, b⟩))) (hil : i < l.length) (c : Nat) (hc : c < 22) :
    Calls Try.prog 90 #[arP p, .int .i64 c] w fun e w' => ∃ v, e = .returned (.tuple #[v, errA (allB b c)]) ∧ St B w0 w' (IntsO v ((allB b c).getD []) :: l.set i (ArT p ⟨bs, cp, b⟩)) := by
  obtain ⟨hsm, hbs⟩ := ls_small h hil
  have KL := Lib.hid (ar_Len h (at_set hil _))
  have nil : ∀ w', St B w0 w' (l.set i (ArT p ⟨bs, cp, b⟩)) → St B w0 w' (IntsO (.slice none 0 0) [] :: l.set i (ArT p ⟨bs, cp, b⟩)) := fun w' h' => h'.addOwn (Below.refl _ _) (World.ownsRow_nil _ _ _ _)
  have NIL := Lib.hid nil
  have H := Lib.hid h
  have d1 : decide ((c : Int) < 0) = false := decide_eq_false (by omega)
  have d2 : decide ((c : Int) ≥ 22) = false := decide_eq_false (by omega)
  clear h nil
  by_cases hlen : b.length < 184
  · have hr : allB b c = none := by unfold allB; rw [if_pos hlen]
    rw [hr]
    have d3 : decide ((b.length : Int) < 184) = true := decide_eq_true (by omega)
    clear hr hlen
    go_enter Try.func90, Try.ntmps90
    go_wp2_with fail
    have kc := KL.out
    with_reducible refine kc.mono ?_
    clear kc
    rintro e w' ⟨rfl, rfl⟩
    go_wp2
    go_ret2
    exact ⟨_, rfl, NIL.out _ H.out⟩
  · have d3 : decide ((b.length : Int) < 184) = false := decide_eq_false (by omega)
    have hX := numAt_lt b (headO c); have hV := numAt_lt b 0
    have hho : headO c ≤ 176 := by unfold headO; omega
    have hA : allB b c = if bitAt (numAt b 0) c ≠ decide (numAt b (headO c) ≠ 0) then none else allFrom b c 1024 (numAt b (headO c)) 0 := by unfold allB; rw [if_neg hlen]
    have KX := Lib.hid (ls_word H.out hil (headO c : Nat) (headO c) rfl (by omega))
    have KV := Lib.hid (ls_word H.out hil 0 0 rfl (by decide))
    generalize numAt b (headO c) = X at *
    generalize numAt b 0 = V at *
    have HA := Lib.hid hA
    clear hA
    have hb : (bits .and .u64 ((V : Int) / 2 ^ c) 1 == 1) = bitAt V c := by
      have e : (V : Int) / 2 ^ c = ((V / 2 ^ c : Nat) : Int) := by simp
      have hle := Nat.div_le_self V (2 ^ c)
      rw [e, odd_eq _ (Int.natCast_nonneg _) (Int.le_trans (Int.ofNat_le.2 hle) (by omega)), ← allB_bit, Int.natCast_emod]; rfl
    have HBV := Lib.hid hb
    clear hb
    by_cases hm : bitAt V c ≠ decide (X ≠ 0)
    · have hr : allB b c = none := by rw [HA.out, if_pos hm]
      rw [hr]
      clear hr hlen hho
      cases hv : bitAt V c with
      | true =>
        rw [hv] at hm
        have x0 : X = 0 := by
          by_cases x0 : X = 0
          · exact x0
          · exact absurd (decide_eq_true x0).symm hm
        have q1 := HBV.out.trans hv
        have q2 : ((X : Int) != 0) = false := by rw [x0]; rfl
        clear hm hv x0
        go_enter Try.func90, Try.ntmps90
        go_wp2_with fail
        have kc := KL.out
        with_reducible refine kc.mono ?_
        clear kc
        rintro e w' ⟨rfl, rfl⟩
        go_wp2_with fail
        have kc := lst_head w c hc
        with_reducible refine kc.mono ?_
        clear kc
        rintro e w' ⟨rfl, rfl⟩
        go_wp2_with fail
        have kc := KX.out
        with_reducible refine kc.mono ?_
        clear kc
        rintro e w' ⟨rfl, rfl⟩
        go_wp2_with fail
        have kc := KV.out
        with_reducible refine kc.mono ?_
        clear kc
        rintro e w' ⟨rfl, rfl⟩
        go_wp2
        go_ret2
        exact ⟨_, rfl, NIL.out _ H.out⟩
      | false =>
        rw [hv] at hm
        have x0 : X ≠ 0 := fun x0 => hm (by rw [x0]; rfl)
        have q1 := HBV.out.trans hv
        have q2 : ((X : Int) != 0) = true := by rw [bne_iff_ne]; omega
        clear hm hv x0
        go_enter Try.func90, Try.ntmps90
        go_wp2_with fail
        have kc := KL.out
        with_reducible refine kc.mono ?_
        clear kc
        rintro e w' ⟨rfl, rfl⟩
        go_wp2_with fail
        have kc := lst_head w c hc
        with_reducible refine kc.mono ?_
        clear kc
        rintro e w' ⟨rfl, rfl⟩
        go_wp2_with fail
        have kc := KX.out
        with_reducible refine kc.mono ?_
        clear kc
        rintro e w' ⟨rfl, rfl⟩
        go_wp2_with fail
        have kc := KV.out
        with_reducible refine kc.mono ?_
        clear kc
        rintro e w' ⟨rfl, rfl⟩
        go_wp2
        go_ret2
        exact ⟨_, rfl, NIL.out _ H.out⟩
    · have hm : bitAt V c = decide (X ≠ 0) := Decidable.not_not.1 hm
      have hr : allB b c = (allFrom b c 1024 X 0).map ([] ++ ·) := by
        rw [HA.out, if_neg (by rw [hm]; simp)]
        cases allFrom b c 1024 X 0 <;> rfl
      obtain ⟨R, hR⟩ : ∃ R, allB b c = R := ⟨_, rfl⟩
      rw [hR] at hr ⊢
      have HR := Lib.hid hr
      have q1 := HBV.out.trans hm
      have q2 : ((X : Int) != 0) = decide (X ≠ 0) := by rw [Bool.eq_iff_iff, bne_iff_ne, decide_eq_true_iff]; omega
      generalize decide (X ≠ 0) = xb at *
      have Q2 := Lib.hid q2
      clear hm hr hR hlen hho
      go_enter Try.func90, Try.ntmps90
      go_wp2_with fail
      have kc := KL.out
      with_reducible refine kc.mono ?_
      clear kc
      rintro e w' ⟨rfl, rfl⟩
      go_wp2_with fail
      have kc := lst_head w c hc
      with_reducible refine kc.mono ?_
      clear kc
      rintro e w' ⟨rfl, rfl⟩
      go_wp2_with fail
      have kc := KX.out
      with_reducible refine kc.mono ?_
      clear kc
      rintro e w' ⟨rfl, rfl⟩
      go_wp2_with fail
      have kc := KV.out
      with_reducible refine kc.mono ?_
      clear kc
      rintro e w' ⟨rfl, rfl⟩
      go_wp2
      clear q1 q2
      go_loopw [6, 7, 8] (fun va vt vo wr => ∃ (f q z : Nat) (L : List Nat), va = .int .u64 q ∧ vt = .int .u64 z ∧ q < 18446744073709551616 ∧ z < 18446744073709551616 ∧ St B w0 wr (IntsO vo L :: l.set i (ArT p ⟨bs, cp, b⟩)) ∧ R = (allFrom b c f q z).map (L ++ ·) ∧ L.length + f = 1024) (fun _ _ vo _ => 2000 - lenOf vo)
      case atStart => exact ⟨1024, X, 0, [], rfl, rfl, hX, by decide, NIL.out _ H.out, HR.out, rfl⟩
      case round =>
        obtain ⟨f, q, z, L, rfl, rfl, hq, hz, hs, hw, hL⟩ := hrel
        obtain ⟨a1, c1, rfl, _⟩ := ints_slice hs (i := 0) rfl
        have HS := Lib.hid hs; have HW := Lib.hid hw
        clear hs hw
        by_cases q0 : q = 0
        · have d0 : ((q : Int) != 0) = false := by rw [q0]; rfl
          have hw : R = some L := by
            rw [HW.out, q0]
            cases f <;> simp [allFrom]
          have HW2 := Lib.hid hw
          clear hw q0
          go_wp2
          go_ret2
          refine ⟨_, by rw [HW2.out]; rfl, ?_⟩
          rw [HW2.out]
          exact HS.out
        · have d0 : ((q : Int) != 0) = true := by rw [bne_iff_ne]; omega
          cases f with
          | zero =>
            have d4 : ((L.length : Int) == 1024) = true := by rw [beq_iff_eq]; omega
            have hw : R = none := by rw [HW.out]; unfold allFrom; rw [if_neg q0]; rfl
            have HW2 := Lib.hid hw
            clear hw q0 hL
            go_wp2
            go_ret2
            refine ⟨_, by rw [HW2.out]; rfl, ?_⟩
            rw [HW2.out]
            exact NIL.out _ HS.out.tail
          | succ f =>
            have d4 : ((L.length : Int) == 1024) = false := by rw [beq_eq_false_iff_ne]; omega
            have hw := HW.out
            unfold allFrom at hw
            rw [if_neg q0] at hw
            have hm := lst_member HS.out (i := i + 1) (at_set hil _) (q : Int) q rfl hq c hc
            cases hmb : memberB b q c with
            | false =>
              rw [if_pos (.inl hmb)] at hw
              rw [show ({ base := bs, cap := cp, b := b } : Ar).b = b from rfl, hmb] at hm
              have HM := Lib.hid hm
              have HW2 := Lib.hid hw
              clear hm hw hmb q0
              go_wp2_with fail
              have kc := HM.out
              with_reducible refine kc.mono ?_
              clear kc
              rintro e w4 ⟨rfl, t4⟩
              have T4 := Lib.hid t4
              clear t4
              go_wp2
              go_ret2
              refine ⟨_, by rw [HW2.out]; rfl, ?_⟩
              rw [HW2.out]
              exact NIL.out _ T4.out.tail
            | true =>
              obtain ⟨x1, x2, x3⟩ := memberB_at hmb
              rw [show ({ base := bs, cap := cp, b := b } : Ar).b = b from rfl, hmb] at hm
              have hY := numAt_lt b (q + 16); have hN := numAt_lt b (q + 8)
              have kw := fun w' (h : St B w0 w' (IntsO (.slice a1 L.length c1) L :: l.set i (ArT p ⟨bs, cp, b⟩))) => lst_word h (i := i + 1) (at_set hil _) ((q : Int) + 16) (q + 16) (by omega) (by omega)
              have kn := fun w' v L (h : St B w0 w' (IntsO v L :: l.set i (ArT p ⟨bs, cp, b⟩))) => lst_word h (i := i + 1) (at_set hil _) ((q : Int) + 8) (q + 8) (by omega) (by omega)
              simp only at kw kn
              have u1 : IntKind.i64.wrap (q : Int) = q := IntWalk.i64_in _ (by omega)
              have m3 : IntKind.i64.wrap ((q : Int) + 16) = (q : Int) + 16 := IntWalk.i64_in _ (by omega)
              have m4 : IntKind.i64.wrap ((q : Int) + 8) = (q : Int) + 8 := IntWalk.i64_in _ (by omega)
              generalize numAt b (q + 16) = Y at *
              generalize numAt b (q + 8) = N at *
              have HM := Lib.hid hm; have KW := Lib.hid kw; have KN := Lib.hid kn
              clear hm kw kn x1 x2 x3
              by_cases e5 : Y = z
              · rw [if_neg (by rw [hmb]; simp [e5])] at hw
                have d5 : ((Y : Int) != (z : Int)) = false := by rw [e5]; simp
                have HW2 := Lib.hid hw
                clear hw hmb q0 e5
                have hL2 : L.length ≤ 1000000 := by omega
                go_wp2_with fail
                have kc := HM.out
                with_reducible refine kc.mono ?_
                clear kc
                rintro e w4 ⟨rfl, t4⟩
                have T4 := Lib.hid t4
                clear t4
                go_wp2_with fail
                have kc := KW.out _ T4.out
                with_reducible refine kc.mono ?_
                clear kc
                rintro e w' ⟨rfl, rfl⟩
                go_wp2_with (at_builtin; go_must (refine ints_app T4.out 0 rfl rfl (.tmp 56) (.tmp 59) rfl rfl (q : Int) q rfl rfl hL2 ?_; intro v6 w6 h6; have H6 := Lib.hid h6; clear h6))
                have kc := KN.out _ _ _ H6.out
                with_reducible refine kc.mono ?_
                clear kc
                rintro e w' ⟨rfl, rfl⟩
                go_wp2
                refine ⟨⟨f, N, q, L ++ [q], rfl, rfl, hN, hq, H6.out, ?_, by rw [List.length_append, List.length_singleton]; omega⟩, ?_⟩
                · rw [HW2.out]
                  simp only [Option.map_map]
                  congr 1
                  funext y
                  simp
                · obtain ⟨a6, c6, e6, _⟩ := ints_slice H6.out (i := 0) rfl
                  rw [e6]
                  simp only [lenOf, List.length_append, List.length_singleton]
                  omega
              · rw [if_pos (.inr e5)] at hw
                have d5 : ((Y : Int) != (z : Int)) = true := by rw [bne_iff_ne]; omega
                have HW2 := Lib.hid hw
                clear hw hmb q0 e5
                go_wp2_with fail
                have kc := HM.out
                with_reducible refine kc.mono ?_
                clear kc
                rintro e w4 ⟨rfl, t4⟩
                have T4 := Lib.hid t4
                clear t4
                go_wp2_with fail
                have kc := KW.out _ T4.out
                with_reducible refine kc.mono ?_
                clear kc
                rintro e w' ⟨rfl, rfl⟩
                go_wp2
                go_ret2
                refine ⟨_, by rw [HW2.out]; rfl, ?_⟩
                rw [HW2.out]
                exact NIL.out _ T4.out.tail
end
end Go.Proofs.Ytenbpbnffnodhaa

/- Lists of free blocks of bytes: the reference's Put and what it calls. -/
namespace Go.Own
open Go Go.RowKit
section
variable {B : Nat} {w0 w : World} {l : List Ob}
end
end Go.Own
namespace Go.Proofs.Ytenbpbnffnodhaa
open Go Go.RowKit Go.Own
set_option linter.unusedVariables false
set_option maxRecDepth 100000
section
variable {B : Nat} {w0 w : World} {l : List Ob} {i n cp : Nat} {a : Option Addr} {b : List UInt8}
end
end Go.Proofs.Ytenbpbnffnodhaa

/- Lists of free blocks of bytes: the reference's Put, All, in. -/
namespace Go.Own
open Go Go.RowKit
theorem St.drop2 {B : Nat} {w0 w : World} {l : List Ob} {P Q : Ob} (h : St B w0 w (P :: Q :: l)) : St B w0 w (P :: l) := h.sub (List.Sublist.cons_cons _ (List.sublist_cons_self ..))
end Go.Own
namespace Go.Proofs.Ytenbpbnffnodhaa
open Go Go.RowKit Go.Own
set_option linter.unusedVariables false
set_option maxRecDepth 100000
section
variable {B : Nat} {w0 w : World} {l : List Ob} {i n cp : Nat} {a : Option Addr} {b : List UInt8}
end
end Go.Proofs.Ytenbpbnffnodhaa

/- Blocks that are set one behind the other tile the bytes. No program. -/
namespace Go.Own
/-- Both tags laid: there the block is. -/
theorem blkAt_setB {b : List UInt8} {o s : Nat} {u : Bool} (h1 : 184 ≤ o) (h2 : o % 16 = 8) (h3 : isSize s = true) (h4 : o + s ≤ b.length) : blkAt (setB b ⟨o, s, u⟩) o = some ⟨o, s, u⟩ := by
  have hs := (isSize_iff _).1 h3
  have hr := tagOf_rng s u
  have hT : tagB ⟨o, s, u⟩ = (tagOf s u).toNat := rfl
  have hl1 : (layAt b o (tagB ⟨o, s, u⟩)).length = b.length := layAt_length b o _ (by omega)
  refine blkAt_mk h1 h2 h3 ?_ ?_ ?_
  · rw [setB_length b ⟨o, s, u⟩ (by show 16 ≤ s; omega) (by show o + s ≤ _; omega)]; exact h4
  · show numAt (layAt (layAt b o (tagB ⟨o, s, u⟩)) (o + s - 8) (tagB ⟨o, s, u⟩)) o = _
    rw [numAt_far _ _ _ _ (by rw [hl1]; omega) (by omega), numAt_same _ _ _ (by omega) (by rw [hT]; omega), hT]
  · show numAt (layAt (layAt b o (tagB ⟨o, s, u⟩)) (o + s - 8) (tagB ⟨o, s, u⟩)) (o + s - 8) = _
    rw [numAt_same _ _ _ (by rw [hl1]; omega) (by rw [hT]; omega), hT]
/-- A block ahead of its end. -/
theorem aheadB_of {b : List UInt8} {o : Nat} {x : Blk} (h : blkAt b o = some x) : aheadB b (o + x.size) = some x := by
  obtain ⟨x1, x2, x3, x4, x5, x6, x7, x8, x9, x10, x11, x12⟩ := blkAt_some h
  have hn : numAt b (o + x.size - 8) = numAt b o := x11
  unfold aheadB
  rw [hn, if_pos ⟨by omega, by omega, x8⟩]
  have hS : (tagS ((numAt b o : Nat) : Int)).toNat = x.size := by rw [← x9]; exact Int.toNat_natCast _
  rw [hS, show o + x.size - x.size = o by omega, h]
  simp only
  rw [if_pos ⟨by omega, trivial, x10⟩]
/-- Where blocks end that begin at o. -/
def endOf (o : Nat) : List Blk → Nat
  | [] => o
  | x :: l => endOf (o + x.size) l
/-- One behind the other from o on, each of a size. -/
def Chain (o : Nat) : List Blk → Prop
  | [] => True
  | x :: l => x.off = o ∧ isSize x.size = true ∧ Chain (o + x.size) l
theorem endOf_append : ∀ (l1 l2 : List Blk) (o : Nat), endOf o (l1 ++ l2) = endOf (endOf o l1) l2
  | [], _, _ => rfl
  | x :: l1, l2, o => endOf_append l1 l2 (o + x.size)
theorem endOf_snoc (l : List Blk) (x : Blk) (o : Nat) : endOf o (l ++ [x]) = endOf o l + x.size := by rw [endOf_append]; rfl
theorem Chain.append : ∀ {l1 l2 : List Blk} {o : Nat}, Chain o (l1 ++ l2) ↔ Chain o l1 ∧ Chain (endOf o l1) l2
  | [], _, _ => ⟨fun h => ⟨trivial, h⟩, fun h => h.2⟩
  | x :: l1, l2, o => by
    simp only [List.cons_append, Chain, endOf, Chain.append (l1 := l1)]
    exact ⟨fun ⟨a, b, c, d⟩ => ⟨⟨a, b, c⟩, d⟩, fun ⟨⟨a, b, c⟩, d⟩ => ⟨a, b, c, d⟩⟩
theorem Chain.snoc {l : List Blk} {o : Nat} {x : Blk} (h : Chain o l) (h1 : x.off = endOf o l) (h2 : isSize x.size = true) : Chain o (l ++ [x]) := Chain.append.2 ⟨h, h1, h2, trivial⟩
theorem endOf_ge : ∀ (l : List Blk) (o : Nat), o ≤ endOf o l
  | [], _ => Nat.le_refl _
  | x :: l, o => Nat.le_trans (Nat.le_add_right _ _) (endOf_ge l (o + x.size))
theorem Chain.mod : ∀ {l : List Blk} {o : Nat}, Chain o l → o % 16 = 8 → endOf o l % 16 = 8
  | [], _, _, h => h
  | x :: l, o, h, h8 => by
    have := (isSize_iff _).1 h.2.1
    exact (show endOf (o + x.size) l % 16 = 8 from Chain.mod h.2.2 (by omega))
theorem Chain.mem {x : Blk} : ∀ {l : List Blk} {o : Nat}, Chain o l → x ∈ l → o ≤ x.off ∧ isSize x.size = true ∧ x.off + x.size ≤ endOf o l
  | [], _, _, h => by cases h
  | y :: l, o, h, hx => by
    rcases List.mem_cons.1 hx with rfl | hx
    · have := endOf_ge l (o + x.size)
      refine ⟨Nat.le_of_eq h.1.symm, h.2.1, ?_⟩
      rw [h.1]; exact this
    · obtain ⟨a, b, c⟩ := Chain.mem h.2.2 hx
      exact ⟨by omega, b, c⟩
theorem Chain.at : ∀ {l : List Blk} {o : Nat} (k : Nat) (hk : k < l.length), Chain o l → l[k].off = endOf o (l.take k)
  | [], _, k, hk, _ => absurd hk (by simp)
  | y :: l, o, 0, hk, h => h.1
  | y :: l, o, k + 1, hk, h => Chain.at (l := l) (o := o + y.size) k (by simpa using hk) h.2.2
theorem endOf_take_le : ∀ (l : List Blk) (o k : Nat), endOf o (l.take k) ≤ endOf o l
  | [], _, k => by rw [List.take_nil]; exact Nat.le_refl _
  | y :: l, o, 0 => endOf_ge (y :: l) o
  | y :: l, o, k + 1 => endOf_take_le l (o + y.size) k
def setAll (b : List UInt8) : List Blk → List UInt8
  | [] => b
  | x :: l => setAll (setB b x) l
theorem setB_touch {T : Nat → Prop} (b : List UInt8) (x : Blk) (h1 : 16 ≤ x.size) (h2 : x.off + x.size ≤ b.length) (t1 : T x.off) (t2 : T (x.off + x.size - 8)) : Touch T b (setB b x) :=
  (Touch.lay b x.off (tagB x) (by omega) t1).trans (Touch.lay _ _ (tagB x) (by rw [layAt_length _ _ _ (by omega)]; omega) t2)
theorem Chain.touch : ∀ {l : List Blk} {o : Nat} {b : List UInt8}, Chain o l → endOf o l ≤ b.length → Touch (fun t => o ≤ t) b (setAll b l)
  | [], _, _, _, _ => Touch.refl _ _
  | x :: l, o, b, h, he => by
    have hs := (isSize_iff _).1 h.2.1
    have hg := endOf_ge l (o + x.size)
    have he : endOf (o + x.size) l ≤ b.length := he
    have h1 : x.off = o := h.1
    have t1 : Touch (fun t => o ≤ t) b (setB b x) := setB_touch b x (by omega) (by omega) (show o ≤ x.off by omega) (show o ≤ x.off + x.size - 8 by omega)
    have t2 := Chain.touch (b := setB b x) h.2.2 (by rw [t1.len]; exact he)
    exact t1.trans (t2.mono fun t ht => by omega)
theorem Chain.tile : ∀ {l : List Blk} {o : Nat} {b : List UInt8}, Chain o l → 184 ≤ o → o % 16 = 8 → endOf o l = b.length → Tile (setAll b l) o l
  | [], _, _, _, _, _, he => he
  | x :: l, o, b, h, h1, h8, he => by
    have hs := (isSize_iff _).1 h.2.1
    have hg := endOf_ge l (o + x.size)
    have he : endOf (o + x.size) l = b.length := he
    have hl := setB_length b x (by omega) (by rw [h.1]; omega)
    refine ⟨?_, Chain.tile h.2.2 (by omega) (by omega) (by rw [hl]; exact he)⟩
    obtain ⟨xo, xs, xu⟩ := x
    obtain rfl : xo = o := h.1
    simp only at hs hg he hl
    have t2 : Touch (fun t => xo + xs ≤ t) (setB b ⟨xo, xs, xu⟩) (setAll (setB b ⟨xo, xs, xu⟩) l) := Chain.touch (b := setB b ⟨xo, xs, xu⟩) h.2.2 (by rw [hl]; exact Nat.le_of_eq he)
    exact blkAt_touch t2 (blkAt_setB h1 h8 h.2.1 (by omega)) fun t ht => by simp only; omega
end Go.Own
