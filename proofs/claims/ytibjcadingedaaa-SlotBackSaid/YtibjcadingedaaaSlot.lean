import Derived.Test.YtibjcadingedaaaCrc
import Derived.Test.YtibjcadingedaaaSlotP
import Derived.Test.YtibjcadingedaaaFlow2
namespace Go.Proofs.Ytibjcadingedaaa
open Go Go.RowKit Go.Own
set_option linter.unusedVariables false
theorem recOk_iff (g len : Nat) : recOk g len = true ↔ 1 ≤ g ∧ g ≤ 4611686018427387904 ∧ len ≤ 65536 := by unfold recOk; rw [decide_eq_true_iff]
theorem recB_some {g len sum : Nat} (h : recOk g len = true) : recB g len sum = sealed (recHead g len sum) ++ List.replicate 480 0 := by unfold recB; rw [if_pos h]

/-- 'append(s, x...)' for bytes, s the call's own. -/
theorem app_bs {w : World} {o : Oper} {a : Act} {K : Act → World → Prop} {Q : Exit → Act → World → Prop} (s x : Operand)
    (ho : o.op = .call { callee := .builtin .append, args := #[s, x], argTypes := #[29, 29] })
    (base : Nat) (v : Value) (l : List UInt8) (hs : a.eval s = v) (hown : w.ownsRow base 5 1 v l.length (l.map bv))
    (ad : Option Addr) (m c : Nat) (l' : List UInt8) (hx : a.eval x = .slice ad m c) (hb : Bs w ad m c l')
    (hl : l.length + l'.length ≤ 140737488355328) (hbase : base ≤ w.heap.size)
    (h : ∀ v' w', w'.ownsRow base 5 1 v' (l ++ l').length ((l ++ l').map bv) → Below base w w' → K (a.put o.dst v') w') : o.wp Try.prog a w K Q := by
  have hm := hb.len
  refine app_wp s x 29 ho base 5 (.int .u8 0) 1 1 Try.underlying29 info_u8 rfl (by decide) v l.length _ hs hown ad m c _ hx hb (bv_one _) (by omega) (by omega) hbase ?_
  intro v' w' h1 h2
  exact h v' w' (ownsRow_map h1 (by simp [hm]) (by simp)) h2
theorem app_bs_z {w : World} {o : Oper} {a : Act} {K : Act → World → Prop} {Q : Exit → Act → World → Prop} (s x : Operand)
    (ho : o.op = .call { callee := .builtin .append, args := #[s, x], argTypes := #[29, 3] })
    (base : Nat) (v : Value) (l : List UInt8) (hs : a.eval s = v) (hown : w.ownsRow base 5 1 v l.length (l.map bv))
    (m : Int) (n : Nat) (hm : m = n) (hx : a.eval x = .int .i64 m) (hl : l.length + n ≤ 140737488355328) (hbase : base ≤ w.heap.size)
    (h : ∀ v' w', w'.ownsRow base 5 1 v' (l ++ List.replicate n 0).length ((l ++ List.replicate n 0).map bv) → Below base w w' → K (a.put o.dst v') w') : o.wp Try.prog a w K Q := by
  refine app_zeros s x 29 3 ho base 5 (.int .u8 0) 1 Try.underlying29 Try.underlying3 info_u8 rfl rfl (by decide) v l.length _ hs hown .i64 m n hm hx (by omega) hbase ?_
  intro v' w' h1 h2
  exact h v' w' (ownsRow_map h1 (by simp) (by simp [bv])) h2

theorem app_bl {w : World} {ops : Array Oper} {rest : List Oper} {o : Oper} {a : Act} {Q : Exit → Act → World → Prop} (hgd : Region.wanted o (yielded ops a.tmps) = true) (s x : Operand)
    (ho : o.op = .call { callee := .builtin .append, args := #[s, x], argTypes := #[29, 29] })
    (base : Nat) (v : Value) (l : List UInt8) (hs : a.eval s = v) (hown : w.ownsRow base 5 1 v l.length (l.map bv))
    (ad : Option Addr) (m c : Nat) (l' : List UInt8) (hx : a.eval x = .slice ad m c) (hb : Bs w ad m c l')
    (hl : l.length + l'.length ≤ 140737488355328) (hbase : base ≤ w.heap.size)
    (h : ∀ v' w', w'.ownsRow base 5 1 v' (l ++ l').length ((l ++ l').map bv) → Below base w w' → wpList Try.prog ops Q rest (a.put o.dst v') w') : wpList Try.prog ops Q (o :: rest) a w :=
  at_wanted hgd fun _ hK => app_bs s x ho base v l hs hown ad m c l' hx hb hl hbase fun v' w' h2 h3 => hK _ _ (h v' w' h2 h3)
theorem app_bl_z {w : World} {ops : Array Oper} {rest : List Oper} {o : Oper} {a : Act} {Q : Exit → Act → World → Prop} (hgd : Region.wanted o (yielded ops a.tmps) = true) (s x : Operand)
    (ho : o.op = .call { callee := .builtin .append, args := #[s, x], argTypes := #[29, 3] })
    (base : Nat) (v : Value) (l : List UInt8) (hs : a.eval s = v) (hown : w.ownsRow base 5 1 v l.length (l.map bv))
    (m : Int) (n : Nat) (hm : m = n) (hx : a.eval x = .int .i64 m) (hl : l.length + n ≤ 140737488355328) (hbase : base ≤ w.heap.size)
    (h : ∀ v' w', w'.ownsRow base 5 1 v' (l ++ List.replicate n 0).length ((l ++ List.replicate n 0).map bv) → Below base w w' → wpList Try.prog ops Q rest (a.put o.dst v') w') : wpList Try.prog ops Q (o :: rest) a w :=
  at_wanted hgd fun _ hK => app_bs_z s x ho base v l hs hown m n hm hx hl hbase fun v' w' h2 h3 => hK _ _ (h v' w' h2 h3)

theorem crcSum_call (w : World) (a : Option Addr) (n c : Nat) (l : List UInt8) (h : Bs w a n c l) :
    Calls Try.prog 28 #[.slice a n c] w fun e w' => e = .returned (.int .u32 (crcSum l : Nat)) ∧ Below w.heap.size w w' := by
  have k := crc_More w 0 a n c l (by decide) h
  have K := Lib.hid k
  clear k h
  go_enter Try.func28, Try.ntmps28
  go_wp2_with fail
  refine K.out.mono ?_
  rintro e w' ⟨rfl, hb⟩
  go_wp2
  go_ret
  exact ⟨rfl, hb⟩

set_option maxHeartbeats 4000000 in
theorem slot_PutO (w : World) (g len sum : Nat) (hg : g < 18446744073709551616) (hl : len < 18446744073709551616) (hs : sum < 4294967296) :
    Calls Try.prog 47 #[.agg #[.int .u64 g, .int .u64 len, .int .u32 sum]] w (OwnBs w (recB g len sum)) := by
  by_cases hk : recOk g len = true
  · have hB := recB_some (sum := sum) hk
    obtain ⟨k1, k2, k3⟩ := (recOk_iff g len).1 hk
    have HB := Lib.hid hB
    clear hB hk
    go_enter Try.func47, Try.ntmps47
    go_wp2_with fail
    have hx : Row (w.alloc (.cells #[.int .u64 g, .int .u64 len, .int .u32 sum] 63 (0, 0))) w.heap.size 63 [.int .u64 g, .int .u64 len, .int .u32 sum] := Row.made _ _ _
    have hb0 : Below w.heap.size w (w.alloc (.cells #[.int .u64 g, .int .u64 len, .int .u32 sum] 63 (0, 0))) := (Below.refl _ _).alloc (Nat.le_refl _) _
    have hsz : (w.alloc (.cells #[.int .u64 g, .int .u64 len, .int .u32 sum] 63 (0, 0))).heap.size = w.heap.size + 1 := by simp
    generalize w.alloc (.cells #[.int .u64 g, .int .u64 len, .int .u32 sum] 63 (0, 0)) = W0 at hx hb0 hsz ⊢
    refine (word_Put _ _ (by omega) (by omega)).mono ?_
    rintro e w1 ⟨a1, n1, c1, rfl, hB1, hn1, hb1⟩
    have own0 := own_lit (w := W0) 5 (([83, 76, 79, 84, 0, 0, 0, 0] : List UInt8).map bv) (z := 1) (n := 8) (Nat.le_refl _) rfl (by decide)
    rw [hsz] at own0
    have own1 := own_below own0 hb1
    have hx1 := (hx.alloc _).below hb1
    have hsz1 := hb1.size
    simp only [World.size_alloc, hsz] at hsz1
    go_wp2_with (at_builtin; go_must (refine app_bl rfl (.tmp 17) (.tmp 20) rfl (w.heap.size + 1) _ _ rfl own1 _ _ _ _ rfl hB1 (by simp [low_length]) (by omega) ?_; intro v2 w2 own2 hb2))
    have hsz2 := hb2.size
    have hx2 := hx1.under hb2 (by omega)
    have hx3 := hx2.drew
    have hsz2 : w2.heap.size ≤ w2.drew.heap.size := Nat.le_refl _
    refine flowe_begin (F := fun k => w.heap.size + 1 ≤ k) hmixed 10 rfl (by repeat (first | exact ps_body | refine ps_then ?_ | refine ps_block ?_)) (fun hps => ?_)
    simp only [List.replicate]
    have kk := (Keep.refl (fun k => w.heap.size + 1 ≤ k) (w2)).drew
    refine flowe_take 0 (v := ?_) (a' := ?_) hps rfl (by kernel_rfl) rfl ?_ ?_ ?_
    rotate_left 2
    · intro w' hk; go_simp; try rfl
    · simp only [Act.put, List.setIfInBounds_toArray, List.set_cons_succ, List.set_cons_zero]; try rfl
    refine flowe_take 1 (v := ?_) (a' := ?_) hps rfl (by kernel_rfl) rfl ?_ ?_ ?_
    rotate_left 2
    · intro w' hk; go_simp; try rfl
    · simp only [Act.put, List.setIfInBounds_toArray, List.set_cons_succ, List.set_cons_zero]; try rfl
    refine flowe_take 2 (v := ?_) (a' := ?_) hps rfl (by kernel_rfl) rfl ?_ ?_ ?_
    rotate_left 2
    · intro w' hk; have hc := (hx3.keepB hk (by omega)).cell 1; go_simp; try rfl
    · simp only [Act.put, List.setIfInBounds_toArray, List.set_cons_succ, List.set_cons_zero]; try rfl
    refine flowe_take 5 (v := ?_) (a' := ?_) hps rfl (by kernel_rfl) rfl ?_ ?_ ?_
    rotate_left 2
    · intro w' hk; go_simp; try rfl
    · simp only [Act.put, List.setIfInBounds_toArray, List.set_cons_succ, List.set_cons_zero]; try rfl
    refine flowe_take 6 (v := ?_) (a' := ?_) hps rfl (by kernel_rfl) rfl ?_ ?_ ?_
    rotate_left 2
    · intro w' hk; have hc := (hx3.keepB hk (by omega)).cell 2; go_simp; try rfl
    · simp only [Act.put, List.setIfInBounds_toArray, List.set_cons_succ, List.set_cons_zero]; try rfl
    refine flowe_one 3 hps rfl (by kernel_rfl) rfl (wp_next (fun K hK => ?_))
    go_simp
    go_at_call 24
    refine (word_Put _ _ (by omega) (by omega)).mono ?_
    rintro e w3 ⟨a3, n3, c3, rfl, hB3, hn3, hb3⟩
    have kp := (Keep.of_below (F := fun k => w.heap.size + 1 ≤ k) hb3)
    have own3 := own_below (own_drew own2) hb3
    have hsz3 := hb3.size
    refine hK _ _ (flow_step kk ?_ ?_)
    · first | exact kp | exact Keep.refl _ _ | exact (Keep.refl _ _).alloc _
    clear kk hK; try clear kp
    intro kk
    refine flowe_one 4 hps rfl (by kernel_rfl) rfl (wp_next (fun K hK => ?_))
    refine app_bs (.tmp 22) (.tmp 25) rfl (w.heap.size + 1) _ _ rfl own3 _ _ _ _ rfl hB3 (by simp [low_length]) (by omega) ?_
    intro v4 w4 own4 hb4
    have kp := keep_of_below hb4
    have hsz4 := hb4.size
    simp only [Act.put, List.setIfInBounds_toArray, List.set_cons_succ, List.set_cons_zero]
    refine hK _ _ (flow_step kk ?_ ?_)
    · first | exact kp | exact Keep.refl _ _ | exact (Keep.refl _ _).alloc _
    clear kk hK; try clear kp
    intro kk
    refine flowe_one 7 hps rfl (by kernel_rfl) rfl (wp_next (fun K hK => ?_))
    go_simp
    go_at_call 26
    refine (word_Put4 _ _ (by omega) (by omega)).mono ?_
    rintro e w7 ⟨a7, n7, c7, rfl, hB7, hn7, hb7⟩
    have kp := (Keep.of_below (F := fun k => w.heap.size + 1 ≤ k) hb7)
    have own7 := own_below own4 hb7
    have hsz7 := hb7.size
    refine hK _ _ (flow_step kk ?_ ?_)
    · first | exact kp | exact Keep.refl _ _ | exact (Keep.refl _ _).alloc _
    clear kk hK; try clear kp
    intro kk
    refine flowe_one 8 hps rfl (by kernel_rfl) rfl (wp_next (fun K hK => ?_))
    refine app_bs (.tmp 26) (.tmp 29) rfl (w.heap.size + 1) _ _ rfl own7 _ _ _ _ rfl hB7 (by simp [low_length]) (by omega) ?_
    intro v8 w8 own8 hb8
    have kp := keep_of_below hb8
    have hsz8 := hb8.size
    simp only [Act.put, List.setIfInBounds_toArray, List.set_cons_succ, List.set_cons_zero]
    refine hK _ _ (flow_step kk ?_ ?_)
    · first | exact kp | exact Keep.refl _ _ | exact (Keep.refl _ _).alloc _
    clear kk hK; try clear kp
    intro kk
    refine flowe_take 9 (v := ?_) (a' := ?_) hps rfl (by kernel_rfl) rfl ?_ ?_ ?_
    rotate_left 2
    · intro w' hk; go_simp; try rfl
    · simp only [Act.put, List.setIfInBounds_toArray, List.set_cons_succ, List.set_cons_zero]; try rfl
    refine flowe_done hps (by kernel_rfl) ?_
    skip
    have he : [83, 76, 79, 84, 0, 0, 0, 0] ++ low (g : Int).toNat 8 ++ low (len : Int).toNat 8 ++ low (sum : Int).toNat 4 = recHead g len sum := by simp [recHead]
    rw [he] at own8
    clear he own7 own4 own3 own2 own1 own0
    have hlh := recHead_length g len sum
    generalize recHead g len sum = hd at *
    replace own8 := ownsRow_map own8 hlh rfl
    obtain ⟨av, cv, rfl, hav, hBv⟩ := Sl.of_owned own8
    have hBv : Bs w8 av 28 cv hd := hBv
    obtain ⟨S, hS⟩ : ∃ S, S = crcSum hd := ⟨_, rfl⟩
    have hS1 : S < 4294967296 := hS ▸ more_lt _ _
    go_wp2_with fail
    refine (crcSum_call _ _ _ _ hd hBv).mono ?_
    rintro e w9 ⟨rfl, hb9⟩
    rw [← hS]
    have HS := Lib.hid hS
    clear hS
    have hsz9 := hb9.size
    have own9 := own_below own8 hb9
    go_wp2_with fail
    refine (word_Put4 _ _ (by omega) (by omega)).mono ?_
    rintro e w10 ⟨a10, n10, c10, rfl, hB10, hn10, hb10⟩
    have hsz10 := hb10.size
    have own10 := ownsRow_map (own_below own9 hb10) hlh.symm rfl
    have hl11 : (sealed hd).length = 32 := by simp [sealed, low_length, hlh]
    have hs11 : hd ++ low (S : Int).toNat 4 = sealed hd := by simp [sealed, HS.out]
    have hm11 : hd.length + (low (S : Int).toNat 4).length ≤ 140737488355328 := by simp [low_length, hlh]
    go_wp2_with (at_builtin; first
      | (refine app_bl rfl (.tmp 31) (.tmp 34) rfl (w.heap.size + 1) _ _ rfl own10 _ _ _ _ rfl hB10 hm11 (by omega) ?_; intro v11 w11 own11 hb11; have hsz11 := hb11.size; rw [hs11] at own11; replace own11 := ownsRow_map own11 hl11 rfl; obtain ⟨a11, c11, rfl, ha11, hB11⟩ := Sl.of_owned own11)
      | (refine app_bl_z rfl (.tmp 36) (.tmp 39) rfl (w.heap.size + 1) _ (sealed hd) rfl (ownsRow_map own11 hl11.symm rfl) _ 480 rfl rfl (by omega) (by omega) ?_; intro v12 w12 own12 hb12))
    go_ret
    refine ⟨_, rfl, ?_, ?_⟩
    · rw [HB.out]; exact own_base own12 (Nat.le_succ _)
    · have s0 := hb0.size
      have b1 : Below w.heap.size w w1 := (hb0.alloc s0 _).trans (hb1.mono (by simp; omega))
      have b2 := b1.trans (hb2.mono (by omega))
      have b8 := b2.trans (kk.below (B := w.heap.size) (by omega) (fun k hk hf => by have hf : w.heap.size + 1 ≤ k := hf; omega))
      have b10 := (b8.trans (hb9.mono (by omega))).trans (hb10.mono (by omega))
      exact (b10.trans (hb11.mono (by omega))).trans (hb12.mono (by omega))
  · have hB := recB_none g len sum (by simpa using hk)
    have hk' : ¬ (1 ≤ g ∧ g ≤ 4611686018427387904 ∧ len ≤ 65536) := fun h => hk ((recOk_iff g len).2 h)
    have HB := Lib.hid hB
    clear hB hk
    go_enter Try.func47, Try.ntmps47
    go_wp2_with fail
    all_goals first
      | (exfalso; omega)
      | (go_ret; exact ⟨_, rfl, by rw [HB.out]; exact World.ownsRow_nil _ _ _ _, (Below.refl _ _).alloc (Nat.le_refl _) _⟩)
theorem slot_Put (w : World) (g len sum : Nat) (hg : g < 18446744073709551616) (hl : len < 18446744073709551616) (hs : sum < 4294967296) :
    Calls Try.prog 47 #[.agg #[.int .u64 g, .int .u64 len, .int .u32 sum]] w (NewBs w (recB g len sum)) :=
  (slot_PutO w g len sum hg hl hs).mono fun _ _ ⟨_, e, ho, hb⟩ => by
    obtain ⟨a, c, rfl, ha, hB⟩ := Sl.of_owned ho
    exact ⟨a, _, c, e, hB, ha, hb⟩
end Go.Proofs.Ytibjcadingedaaa
