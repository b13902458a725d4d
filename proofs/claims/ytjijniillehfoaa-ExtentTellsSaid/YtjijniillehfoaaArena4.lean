/- The arena's other calls: Cap, Word, Widen, Clone. -/
import Derived.Test.YtjijniillehfoaaArena3
import Derived.Test.YtjijniillehfoaaArP
namespace Go.Proofs.Ytjijniillehfoaa
open Go Go.RowKit Go.Own
set_option linter.unusedVariables false
set_option maxRecDepth 100000
theorem arena_Cap (w : World) (p : Nat) (A : Ar) (v : Value) (h : ArA w p A v) :
    Calls Try.prog 45 #[arP p] w fun e w' => e = .returned (.int .i64 A.cap) ∧ w = w' := by
  have q1 : w.cell? ⟨p, 1, none⟩ = some (.int .i64 A.cap) := h.row.cell 1
  clear h
  go_enter Try.func45, Try.ntmps45
  go_wp2
  go_ret
  exact ⟨rfl, rfl⟩
theorem arena_Word_ok (w : World) (p : Nat) (A : Ar) (v : Value) (h : ArA w p A v) (addr : Int) (i : Nat) (hi : addr = A.base + i) (hf : i + 8 ≤ A.b.length) :
    Calls Try.prog 146 #[arP p, .int .u64 addr] w fun e w' => e = .returned (.tuple #[.int .u64 (numAt A.b i : Nat), .nilIface]) ∧ w = w' := by
  have k := arena_at_ok w p A v h addr i hi 8 8 rfl hf
  have K := Lib.hid k
  have hg : getV ((A.b.drop i).take 8) 0 8 = (numAt A.b i : Nat) := by
    have hl : ((A.b.drop i).take 8).length = 8 := by simp; omega
    unfold getV numAt
    rw [hl, if_pos (by decide), if_pos hf]
    simp [List.take_take]
  have HG := Lib.hid hg
  clear k h hi hf hg
  go_enter Try.func146, Try.ntmps146
  go_wp2_with fail
  refine K.out.mono ?_
  rintro e w' ⟨a1, c1, rfl, hB, hg, rfl⟩
  have HB := Lib.hid hB
  clear hB hg
  go_wp2_with fail
  refine (word_Get w a1 8 c1 _ 0 HB.out (by decide) (by decide)).mono ?_
  rintro e w' ⟨rfl, rfl⟩
  rw [HG.out]
  go_wp2
  go_ret2
  exact ⟨rfl, rfl⟩
theorem arena_Word_bad (w : World) (p : Nat) (A : Ar) (v : Value) (h : ArA w p A v) (addr : Int) (h0 : 0 ≤ addr) (h1 : addr ≤ 18446744073709551615) (hf : ¬ ((A.base : Int) ≤ addr ∧ addr - A.base + 8 ≤ A.b.length)) :
    Calls Try.prog 146 #[arP p, .int .u64 addr] w fun e w' => e = .returned (.tuple #[.int .u64 0, .iface 183 (.int .i64 2)]) ∧ w = w' := by
  have k := arena_at_bad w p A v h addr 8 h0 h1 (by decide) (by decide) hf
  have K := Lib.hid k
  clear k h hf
  go_enter Try.func146, Try.ntmps146
  go_wp2_with fail
  refine K.out.mono ?_
  rintro e w' ⟨rfl, rfl⟩
  go_wp2_with fail
  refine (word_Get w none 0 0 [] 0 (Bs.nil w) (by decide) (by decide)).mono ?_
  rintro e w' ⟨rfl, rfl⟩
  have hg : getV [] 0 8 = 0 := by unfold getV; rw [if_neg (by decide)]
  rw [hg]
  clear hg
  go_wp2
  go_ret2
  exact ⟨rfl, rfl⟩
theorem arena_Widen_ok (w : World) (p : Nat) (A : Ar) (v : Value) (h : ArA w p A v) (n : Int) (m : Nat) (hn : n = m) (h1 : A.cap ≤ m) (h2 : m ≤ 16384) :
    Calls Try.prog 141 #[arP p, .int .i64 n] w fun e w' => e = .returned .nilIface ∧ ArA w' p { A with cap := m } v ∧ Keep (arF p v) w w' := by
  subst hn
  have q1 : w.cell? ⟨p, 1, none⟩ = some (.int .i64 A.cap) := h.row.cell 1
  have f1 := h.row.frozen 1
  have H := Lib.hid h
  clear h
  go_enter Try.func141, Try.ntmps141
  go_wp2
  go_ret
  have r := H.out.row.set 1 (.int .i64 m)
  have ks := (Keep.refl (· = p) w).setCell (p := ⟨p, 1, none⟩) (.inl rfl) (.int .i64 m)
  have hap := H.out.apart (by decide)
  exact ⟨rfl, ⟨r, own_kept H.out.own ks fun g hg e => hap (e ▸ hg), H.out.hbase, H.out.hmod, h2, Nat.le_trans H.out.hmin h1, Nat.le_trans H.out.hlen h1⟩, ks.mono fun k _ e => .inl e⟩
theorem arena_Widen_bad (w : World) (p : Nat) (A : Ar) (v : Value) (h : ArA w p A v) (n : Int) (hf : ¬ ((A.cap : Int) ≤ n ∧ n ≤ 16384)) :
    Calls Try.prog 141 #[arP p, .int .i64 n] w fun e w' => e = .returned (.iface 183 (.int .i64 1)) ∧ w = w' := by
  have q1 : w.cell? ⟨p, 1, none⟩ = some (.int .i64 A.cap) := h.row.cell 1
  clear h
  by_cases c1 : n < A.cap
  · clear hf
    go_enter Try.func141, Try.ntmps141
    go_wp2
    go_ret
    exact ⟨rfl, rfl⟩
  · have c2 : 16384 < n := by omega
    clear hf
    go_enter Try.func141, Try.ntmps141
    go_wp2
    go_ret
    exact ⟨rfl, rfl⟩
set_option maxHeartbeats 2000000 in
theorem arena_Clone (w : World) (p : Nat) (A : Ar) (v : Value) (h : ArA w p A v) :
    Calls Try.prog 152 #[arP p] w (MadeAr A w) := by
  obtain ⟨a, c, rfl, hB, hg, hcr⟩ := h.form
  have hl : A.b.length ≤ 140737488355328 := by have := h.hlen; have := h.hcap; omega
  have HR := Lib.hid (Row.drew h.row); have HB := Lib.hid hB.drew; have H := Lib.hid h; have HL := Lib.hid hl
  clear h hB hg hl
  go_enter Try.func152, Try.ntmps152
  go_wp2
  refine flowe_begin (F := fun _ => False) hmixed 16 rfl (by repeat (first | exact ps_body | refine ps_then ?_ | refine ps_block ?_)) (fun hps => ?_)
  simp only [List.replicate]
  have kk := (Keep.refl (fun _ => False) (w)).drew
  refine flowe_take 0 (v := ?_) (a' := ?_) hps rfl (by kernel_rfl) rfl ?_ ?_ ?_
  rotate_left 2
  · intro w' hk; go_simp; try rfl
  · simp only [Act.put, List.setIfInBounds_toArray, List.set_cons_succ, List.set_cons_zero]; try rfl
  refine flowe_take 1 (v := ?_) (a' := ?_) hps rfl (by kernel_rfl) rfl ?_ ?_ ?_
  rotate_left 2
  · intro w' hk; go_simp; try rfl
  · simp only [Act.put, List.setIfInBounds_toArray, List.set_cons_succ, List.set_cons_zero]; try rfl
  refine flowe_take 2 (v := ?_) (a' := ?_) hps rfl (by kernel_rfl) rfl ?_ ?_ ?_
  rotate_left 2
  · intro w' hk; go_simp; try rfl
  · simp only [Act.put, List.setIfInBounds_toArray, List.set_cons_succ, List.set_cons_zero]; try rfl
  refine flowe_take 3 (v := ?_) (a' := ?_) hps rfl (by kernel_rfl) rfl ?_ ?_ ?_
  rotate_left 2
  · intro w' hk; have hc := (HR.out.keep hk (fun h => h)).cell 0; simp only [List.getElem?_cons_zero] at hc; go_simp; try rfl
  · simp only [Act.put, List.setIfInBounds_toArray, List.set_cons_succ, List.set_cons_zero]; try rfl
  refine flowe_take 4 (v := ?_) (a' := ?_) hps rfl (by kernel_rfl) rfl ?_ ?_ ?_
  rotate_left 2
  · intro w' hk; go_simp; try rfl
  · simp only [Act.put, List.setIfInBounds_toArray, List.set_cons_succ, List.set_cons_zero]; try rfl
  refine flowe_take 5 (v := ?_) (a' := ?_) hps rfl (by kernel_rfl) rfl ?_ ?_ ?_
  rotate_left 2
  · intro w' hk; go_simp; try rfl
  · simp only [Act.put, List.setIfInBounds_toArray, List.set_cons_succ, List.set_cons_zero]; try rfl
  refine flowe_take 6 (v := ?_) (a' := ?_) hps rfl (by kernel_rfl) rfl ?_ ?_ ?_
  rotate_left 2
  · intro w' hk; go_simp; try rfl
  · simp only [Act.put, List.setIfInBounds_toArray, List.set_cons_succ, List.set_cons_zero]; try rfl
  refine flowe_take 7 (v := ?_) (a' := ?_) hps rfl (by kernel_rfl) rfl ?_ ?_ ?_
  rotate_left 2
  · intro w' hk; have hc := (HR.out.keep hk (fun h => h)).cell 1; simp only [List.getElem?_cons_succ, List.getElem?_cons_zero] at hc; go_simp; try rfl
  · simp only [Act.put, List.setIfInBounds_toArray, List.set_cons_succ, List.set_cons_zero]; try rfl
  refine flowe_take 8 (v := ?_) (a' := ?_) hps rfl (by kernel_rfl) rfl ?_ ?_ ?_
  rotate_left 2
  · intro w' hk; go_simp; try rfl
  · simp only [Act.put, List.setIfInBounds_toArray, List.set_cons_succ, List.set_cons_zero]; try rfl
  refine flowe_take 9 (v := ?_) (a' := ?_) hps rfl (by kernel_rfl) rfl ?_ ?_ ?_
  rotate_left 2
  · intro w' hk; go_simp; try rfl
  · simp only [Act.put, List.setIfInBounds_toArray, List.set_cons_succ, List.set_cons_zero]; try rfl
  refine flowe_take 10 (v := ?_) (a' := ?_) hps rfl (by kernel_rfl) rfl ?_ ?_ ?_
  rotate_left 2
  · intro w' hk; go_simp; try rfl
  · simp only [Act.put, List.setIfInBounds_toArray, List.set_cons_succ, List.set_cons_zero]; try rfl
  refine flowe_take 11 (v := ?_) (a' := ?_) hps rfl (by kernel_rfl) rfl ?_ ?_ ?_
  rotate_left 2
  · intro w' hk; have hc := (HR.out.keep hk (fun h => h)).cell 2; simp only [List.getElem?_cons_succ, List.getElem?_cons_zero] at hc; go_simp; try rfl
  · simp only [Act.put, List.setIfInBounds_toArray, List.set_cons_succ, List.set_cons_zero]; try rfl
  refine flowe_one 12 hps rfl (by kernel_rfl) rfl (wp_next (fun K hK => ?_))
  go_simp
  refine (slices_Clone _ _ _ _ _ HB.out HL.out).mono ?_
  rintro e w1 ⟨v1, rfl, o1, b1⟩
  have kp := Keep.of_below (F := fun _ => False) b1
  obtain ⟨a1, c1, rfl, _, hs1⟩ := Sl.of_owned o1
  have O1 := Lib.hid o1; have S1 := Lib.hid (show w.heap.size ≤ w1.heap.size from b1.size)
  clear o1 b1 hs1
  refine hK _ _ (flow_step kk ?_ ?_)
  · first | exact kp | exact Keep.refl _ _ | exact (Keep.refl _ _).alloc _
  clear kk hK; try clear kp
  intro kk
  refine flowe_take 13 (v := ?_) (a' := ?_) hps rfl (by kernel_rfl) rfl ?_ ?_ ?_
  rotate_left 2
  · intro w' hk; go_simp; try rfl
  · simp only [Act.put, List.setIfInBounds_toArray, List.set_cons_succ, List.set_cons_zero]; try rfl
  refine flowe_one 14 hps rfl (by kernel_rfl) rfl (wp_next (fun K hK => ?_))
  go_simp
  refine hK _ _ (flow_step kk ?_ ?_)
  · first | exact kp | exact Keep.refl _ _ | exact (Keep.refl _ _).alloc _
  clear kk hK; try clear kp
  intro kk
  refine flowe_take 15 (v := ?_) (a' := ?_) hps rfl (by kernel_rfl) rfl ?_ ?_ ?_
  rotate_left 2
  · intro w' hk; go_simp; try rfl
  · simp only [Act.put, List.setIfInBounds_toArray, List.set_cons_succ, List.set_cons_zero]; try rfl
  refine flowe_done hps (by kernel_rfl) ?_
  have KK := Lib.hid kk
  clear kk
  go_wp2
  go_ret
  have hsz := KK.out.size
  refine ⟨_, .slice a1 A.b.length c1, rfl, ⟨Row.made _ _ _, own_base (O1.out.alloc _) (Nat.zero_le _), H.out.hbase, H.out.hmod, H.out.hcap, H.out.hmin, H.out.hlen⟩, fun k hk => ?_, KK.out.below (Nat.le_refl _) fun _ _ h => h⟩
  rcases hk with rfl | hk
  · exact S1.out
  · exact (own_block_lt O1.out hk).1
theorem setByte {T e : TypeId} {w : World} {p g n cap : Nat} {A : Ar} (hne : e ≠ T) (h : ArAt T e w p A (.slice (some ⟨g, 0, none⟩) n cap)) (j : Nat) (hj : j < A.b.length) (x : UInt8) :
    w.cell? ⟨g, j, none⟩ = some (bv A.b[j]) ∧ w.frozen? ⟨g, j, none⟩ = false ∧ ArAt T e (w.setCell ⟨g, j, none⟩ (bv x)) p { A with b := A.b.set j x } (.slice (some ⟨g, 0, none⟩) n cap) ∧ Keep (· = g) w (w.setCell ⟨g, j, none⟩ (bv x)) := by
  have hn : n = A.b.length := by obtain ⟨a, c, e, _⟩ := h.form; cases e; rfl
  subst hn
  have ks := (Keep.refl (· = g) w).setCell (p := ⟨g, j, none⟩) (.inl rfl) (bv x)
  refine ⟨?_, h.own.frozenAt j, ⟨h.row.keep ks fun e => h.apart hne (by rw [e]; rfl), ?_, h.hbase, h.hmod, h.hcap, h.hmin, by simpa using h.hlen⟩, ks⟩
  · rw [h.own.cellAt j (by omega)]; simp [hj]
  · exact ownsRow_map (h.own.stored j (bv x)).1 (by simp) (by simp [List.map_set])
def FillOk (p : Nat) (A : Ar) (v : Value) (i m : Nat) (x : UInt8) (w : World) (e : Ending) (w' : World) : Prop :=
  e = .returned .nilIface ∧ ArA w' p { A with b := lay A.b i (List.replicate m x) } v ∧ Keep (fun k => v.ownBlock = some k) w w'
set_option maxHeartbeats 2000000 in
theorem arena_Fill_ok (w : World) (p : Nat) (A : Ar) (v : Value) (h : ArA w p A v) (addr : Int) (i : Nat) (hi : addr = A.base + i) (n : Int) (m : Nat) (hn : n = m) (hf : i + m ≤ A.b.length) (x : UInt8) :
    Calls Try.prog 112 #[arP p, .int .u64 addr, .int .u64 n, .int .u8 (x.toNat : Nat)] w (FillOk p A v i m x w) := by
  have k := arena_at_ok w p A v h addr i hi n m hn hf
  have hl1 := h.hlen; have hl2 := h.hcap
  have K := Lib.hid k; have H := Lib.hid h
  clear k h hi hn
  go_enter Try.func112, Try.ntmps112
  go_wp2_with fail
  refine K.out.mono ?_
  rintro e w' ⟨a1, c1, rfl, hB, hg, rfl⟩
  by_cases h0 : 0 < m
  · obtain ⟨g, cap, rfl, rfl⟩ := hg h0
    clear hB hg
    go_wp2
    go_loopw [21] (fun c wr => ∃ k : Nat, k ≤ m ∧ c = .int .i64 k ∧ ArA wr p { A with b := lay A.b i (List.replicate k x) } (.slice (some ⟨g, 0, none⟩) A.b.length cap) ∧ Keep (· = g) w wr) (fun c _ => m - (intOf c).toNat)
    case atStart => exact ⟨0, Nat.zero_le _, rfl, by rw [List.replicate_zero, lay_nil]; exact H.out, Keep.refl _ _⟩
    case round =>
      obtain ⟨k, hk, rfl, hA, hK⟩ := hrel
      by_cases hlt : k < m
      · have hll : (lay A.b i (List.replicate k x)).length = A.b.length := lay_length _ _ _ (by rw [List.length_replicate]; omega)
        obtain ⟨q1, q2, q3, q4⟩ := setByte (by decide) hA (i + k) (by show i + k < (lay A.b i (List.replicate k x)).length; rw [hll]; omega) x
        simp only at q3
        rw [lay_rep_succ _ _ _ _ (by omega)] at q3
        have Q3 := Lib.hid q3; have Q4 := Lib.hid (hK.trans q4)
        obtain ⟨u, qu⟩ : ∃ u, wr.cell? ⟨g, i + k, none⟩ = some u := ⟨_, q1⟩
        clear q1; clear hA hK hll q3 q4
        go_wp2
        exact ⟨⟨k + 1, by omega, by go_num, Q3.out, Q4.out⟩, by simp [intOf]; omega⟩
      · obtain rfl : k = m := by omega
        have HA := Lib.hid hA; have HK := Lib.hid hK
        clear hA hK
        go_wp2
        go_ret
        exact ⟨rfl, HA.out, HK.out.mono fun k _ e => by rw [e]; rfl⟩
  · obtain rfl : m = 0 := by omega
    clear hB hg
    go_wp2
    go_loopw [21] (fun c wr => c = .int .i64 0 ∧ wr = w) (fun _ _ => 0)
    case atStart => exact ⟨rfl, rfl⟩
    case round =>
      obtain ⟨rfl, rfl⟩ := hrel
      go_wp2
      go_ret
      exact ⟨rfl, by rw [List.replicate_zero, lay_nil]; exact H.out, Keep.refl _ _⟩
theorem arena_Fill_bad (w : World) (p : Nat) (A : Ar) (v : Value) (h : ArA w p A v) (addr n : Int) (x : UInt8) (h0 : 0 ≤ addr) (h1 : addr ≤ 18446744073709551615) (n0 : 0 ≤ n) (n1 : n ≤ 18446744073709551615) (hf : ¬ ((A.base : Int) ≤ addr ∧ addr - A.base + n ≤ A.b.length)) :
    Calls Try.prog 112 #[arP p, .int .u64 addr, .int .u64 n, .int .u8 (x.toNat : Nat)] w fun e w' => e = .returned (.iface 183 (.int .i64 2)) ∧ w = w' := by
  have k := arena_at_bad w p A v h addr n h0 h1 n0 n1 hf
  have K := Lib.hid k
  clear k h hf
  go_enter Try.func112, Try.ntmps112
  go_wp2_with fail
  refine K.out.mono ?_
  rintro e w' ⟨rfl, rfl⟩
  go_wp2
  go_loopw [21] (fun c wr => c = .int .i64 0 ∧ wr = w) (fun _ _ => 0)
  case atStart => exact ⟨rfl, rfl⟩
  case round =>
    obtain ⟨rfl, rfl⟩ := hrel
    go_wp2
    go_ret
    exact ⟨rfl, rfl⟩
end Go.Proofs.Ytjijniillehfoaa
