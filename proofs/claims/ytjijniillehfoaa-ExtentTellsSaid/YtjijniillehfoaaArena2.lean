import Derived.Test.YtjijniillehfoaaArena
import Derived.Deep.QuietTactic
import Derived.BigQuiet
import Derived.WalkSpells
namespace Go.Proofs.Ytjijniillehfoaa
open Go Go.RowKit Go.Own
set_option linter.unusedVariables false
/-- Bytes in new memory, and no error. -/
def LoadOk (l : List UInt8) (w : World) (e : Ending) (w' : World) : Prop :=
  ∃ v, e = .returned (.tuple #[v, .nilIface]) ∧ w'.ownsRow w.heap.size 5 1 v l.length (l.map bv) ∧ Below w.heap.size w w'
theorem arena_Load_ok (w : World) (p : Nat) (A : Ar) (v : Value) (h : ArA w p A v) (addr : Int) (i : Nat) (hi : addr = A.base + i) (n : Int) (m : Nat) (hn : n = m) (hf : i + m ≤ A.b.length) :
    Calls Try.prog 113 #[arP p, .int .u64 addr, .int .u64 n] w (LoadOk ((A.b.drop i).take m) w) := by
  have k := arena_at_ok w p A v h addr i hi n m hn hf
  have hl : ((A.b.drop i).take m).length ≤ 140737488355328 := by have := h.hlen; have := h.hcap; simp; omega
  have K := Lib.hid k; have H := Lib.hid h; have HL := Lib.hid hl
  clear k h hi hn hf hl
  go_enter Try.func113, Try.ntmps113
  go_wp2_with fail
  refine K.out.mono ?_
  rintro e w' ⟨a, c, rfl, hB, _, rfl⟩
  go_wp2_with fail
  refine (slices_Clone _ _ _ _ _ hB HL.out).mono ?_
  rintro e w' ⟨v1, rfl, ho, hb⟩
  go_wp2
  go_ret2
  exact ⟨v1, rfl, ho, hb⟩
theorem arena_Load_bad (w : World) (p : Nat) (A : Ar) (v : Value) (h : ArA w p A v) (addr n : Int) (h0 : 0 ≤ addr) (h1 : addr ≤ 18446744073709551615) (n0 : 0 ≤ n) (n1 : n ≤ 18446744073709551615) (hf : ¬ ((A.base : Int) ≤ addr ∧ addr - A.base + n ≤ A.b.length)) :
    Calls Try.prog 113 #[arP p, .int .u64 addr, .int .u64 n] w fun e w' => e = .returned (.tuple #[.slice none 0 0, .iface 183 (.int .i64 2)]) ∧ Below w.heap.size w w' := by
  have k := arena_at_bad w p A v h addr n h0 h1 n0 n1 hf
  have K := Lib.hid k
  clear k h hf
  have e1 := fun (w : World) (a : Option Addr) (n c n' c' : Nat) => Lib.run_eql_slice_nil (P := Try.prog) w 31 5 a n c n' c' Try.underlying31
  go_enter Try.func113, Try.ntmps113
  go_wp2_with fail
  refine K.out.mono ?_
  rintro e w' ⟨rfl, rfl⟩
  go_wp2_with fail
  refine (slices_Clone_nil w).mono ?_
  rintro e w' ⟨rfl, rfl⟩
  go_wp2
  go_ret2
  exact ⟨rfl, Below.refl _ _⟩
/-- Bytes are laid. -/
def StoreOk (p : Nat) (A : Ar) (v : Value) (i : Nat) (b : List UInt8) (w : World) (e : Ending) (w' : World) : Prop :=
  e = .returned .nilIface ∧ ArA w' p { A with b := lay A.b i b } v ∧ Keep (fun k => v.ownBlock = some k) w w'
theorem lay_nil (l : List UInt8) (i : Nat) : lay l i [] = l := by simp [lay]
set_option maxHeartbeats 1000000 in
theorem arena_Store_ok (w : World) (p : Nat) (A : Ar) (v : Value) (h : ArA w p A v) (addr : Int) (i : Nat) (hi : addr = A.base + i) (a : Option Addr) (n c : Nat) (b : List UInt8) (hb : Bs w a n c b) (hf : i + b.length ≤ A.b.length) :
    Calls Try.prog 144 #[arP p, .int .u64 addr, .slice a n c] w (StoreOk p A v i b w) := by
  have hn := hb.len
  subst hn
  have k := arena_at_ok w p A v h addr i hi (b.length : Nat) b.length rfl hf
  have hl : b.length ≤ 16384 := by have := h.hlen; have := h.hcap; omega
  have K := Lib.hid k; have H := Lib.hid h; have HB := Lib.hid hb
  clear k h hb hi
  go_enter Try.func144, Try.ntmps144
  go_wp2_with fail
  refine K.out.mono ?_
  rintro e w' ⟨a1, c1, rfl, hB, hg, rfl⟩
  by_cases h0 : 0 < b.length
  · obtain ⟨g, cap, rfl, rfl⟩ := hg h0
    clear hB hg
    go_wp2_with (refine copy_at rfl (.tmp 18) (.tmp 19) 31 5 199 rfl Try.underlying31 (by kernel_rfl) (by decide) H.out i _ _ rfl _ _ _ b rfl HB.out rfl h0 hf ?_; intro w2 h2 k2)
    go_ret
    exact ⟨rfl, h2, k2.mono fun k _ e => by rw [e]; rfl⟩
  · have hb0 : b = [] := List.eq_nil_of_length_eq_zero (by omega)
    subst hb0
    clear hB hg
    go_wp2_with (refine copy_none rfl (.tmp 18) (.tmp 19) 31 5 rfl Try.underlying31 (by kernel_rfl) _ _ _ rfl _ _ _ rfl (Or.inl rfl) ?_)
    go_ret
    exact ⟨rfl, by rw [lay_nil]; exact H.out, Keep.refl _ _⟩
theorem arena_Store_bad (w : World) (p : Nat) (A : Ar) (v : Value) (h : ArA w p A v) (addr : Int) (a : Option Addr) (n c : Nat) (b : List UInt8) (hb : Bs w a n c b) (h0 : 0 ≤ addr) (h1 : addr ≤ 18446744073709551615) (hf : ¬ ((A.base : Int) ≤ addr ∧ addr - A.base + b.length ≤ A.b.length)) :
    Calls Try.prog 144 #[arP p, .int .u64 addr, .slice a n c] w fun e w' => e = .returned (.iface 183 (.int .i64 2)) ∧ w = w' := by
  have hn := hb.len
  subst hn
  have hc := Sl.cap hb
  have hr := Sl.room hb
  have k := arena_at_bad w p A v h addr (b.length : Nat) h0 h1 (by omega) (by omega) hf
  have K := Lib.hid k
  clear k h hb hf
  go_enter Try.func144, Try.ntmps144
  go_wp2_with fail
  refine K.out.mono ?_
  rintro e w' ⟨rfl, rfl⟩
  go_wp2_with (refine copy_none rfl (.tmp 18) (.tmp 19) 31 5 rfl Try.underlying31 (by kernel_rfl) _ _ _ rfl _ _ _ rfl (Or.inr rfl) ?_)
  go_ret
  exact ⟨rfl, rfl⟩
theorem arena_SetWord_ok (w : World) (p : Nat) (A : Ar) (v : Value) (h : ArA w p A v) (addr : Int) (i : Nat) (hi : addr = A.base + i) (x : Int) (X : Nat) (hx : x = X) (hX : X < 18446744073709551616) (hf : i + 8 ≤ A.b.length) :
    Calls Try.prog 138 #[arP p, .int .u64 addr, .int .u64 x] w (StoreOk p A v i (low X 8) w) := by
  subst hx
  have H := Lib.hid h; have HI := Lib.hid hi
  clear h hi
  go_enter Try.func138, Try.ntmps138
  go_wp2_with fail
  refine (word_Put w X (by omega) (by omega)).mono ?_
  rintro e w1 ⟨a1, n1, c1, rfl, hB1, hn1, hb1⟩
  go_wp2_with fail
  refine (arena_Store_ok w1 p A v (H.out.below hb1) addr i HI.out _ _ _ _ hB1 (by rw [low_length]; exact hf)).mono ?_
  rintro e w2 ⟨rfl, h2, k2⟩
  go_wp2
  go_ret
  exact ⟨rfl, h2, (Keep.of_below hb1).trans k2⟩
theorem arena_SetWord_bad (w : World) (p : Nat) (A : Ar) (v : Value) (h : ArA w p A v) (addr : Int) (x : Int) (hx : 0 ≤ x) (hX : x ≤ 18446744073709551615) (h0 : 0 ≤ addr) (h1 : addr ≤ 18446744073709551615) (hf : ¬ ((A.base : Int) ≤ addr ∧ addr - A.base + 8 ≤ A.b.length)) :
    Calls Try.prog 138 #[arP p, .int .u64 addr, .int .u64 x] w fun e w' => e = .returned (.iface 183 (.int .i64 2)) ∧ Below w.heap.size w w' := by
  have H := Lib.hid h; have HF := Lib.hid hf
  clear h hf
  go_enter Try.func138, Try.ntmps138
  go_wp2_with fail
  refine (word_Put w x hx hX).mono ?_
  rintro e w1 ⟨a1, n1, c1, rfl, hB1, hn1, hb1⟩
  go_wp2_with fail
  refine (arena_Store_bad w1 p A v (H.out.below hb1) addr _ _ _ _ hB1 h0 h1 (by rw [low_length]; exact HF.out)).mono ?_
  rintro e w2 ⟨rfl, rfl⟩
  go_wp2
  go_ret
  exact ⟨rfl, hb1⟩
/-- A new arena without bytes. -/
def NewAr (base cap : Nat) (w : World) (e : Ending) (w' : World) : Prop :=
  e = .returned (arP w.heap.size) ∧ ArA w' w.heap.size ⟨base, cap, []⟩ (.slice none 0 0) ∧ Below w.heap.size w w'
theorem arena_New_ok (w : World) (b : Int) (B : Nat) (hB : b = B) (c : Int) (C : Nat) (hC : c = C) (h1 : B % 16 = 0) (h2 : B ≤ 4611686018427387904) (h3 : 1024 ≤ C) (h4 : C ≤ 16384) :
    Calls Try.prog 41 #[.int .u64 b, .int .i64 c] w (NewAr B C w) := by
  subst hB; subst hC
  have e1 : ((B : Int) % 16 != 0) = false := by rw [bne_eq_false_iff_eq]; omega
  go_enter Try.func41, Try.ntmps41
  go_wp2
  go_ret
  exact ⟨rfl, ⟨Row.made _ _ _, World.ownsRow_nil _ _ _ _, h2, h1, h4, h3, Nat.zero_le _⟩, (Below.refl _ _).alloc (Nat.le_refl _) _⟩
theorem arena_New_bad (w : World) (b c : Int) (b0 : 0 ≤ b) (b1 : b ≤ 18446744073709551615) (hf : ¬ (b % 16 = 0 ∧ b ≤ 4611686018427387904 ∧ 1024 ≤ c ∧ c ≤ 16384)) :
    Calls Try.prog 41 #[.int .u64 b, .int .i64 c] w fun e w' => e = .returned (.pointer none) ∧ w = w' := by
  by_cases c1 : b % 16 = 0
  · have e1 : (b % 16 != 0) = false := by rw [bne_eq_false_iff_eq]; exact c1
    by_cases c2 : b ≤ 4611686018427387904
    · by_cases c3 : 1024 ≤ c
      · have c4 : 16384 < c := by omega
        clear hf c1
        go_enter Try.func41, Try.ntmps41
        go_wp2
        go_ret
        exact ⟨rfl, rfl⟩
      · clear hf c1
        go_enter Try.func41, Try.ntmps41
        go_wp2
        go_ret
        exact ⟨rfl, rfl⟩
    · clear hf c1
      go_enter Try.func41, Try.ntmps41
      go_wp2
      go_ret
      exact ⟨rfl, rfl⟩
  · have e1 : (b % 16 != 0) = true := by rw [bne_iff_ne]; exact c1
    clear hf c1
    go_enter Try.func41, Try.ntmps41
    go_wp2
    go_ret
    exact ⟨rfl, rfl⟩
/-- More bytes, 0. -/
def GrowOk (p : Nat) (A : Ar) (v : Value) (m : Nat) (w : World) (e : Ending) (w' : World) : Prop :=
  ∃ v', e = .returned .nilIface ∧ ArA w' p { A with b := A.b ++ List.replicate m 0 } v' ∧ Keep (arF p v) w w' ∧ (v'.ownBlock = v.ownBlock ∨ v'.ownBlock = some w.heap.size)
set_option maxHeartbeats 1000000 in
theorem arena_Grow_ok (w : World) (p : Nat) (A : Ar) (v : Value) (h : ArA w p A v) (n : Int) (m : Nat) (hn : n = m) (hf : A.b.length + m ≤ A.cap) :
    Calls Try.prog 137 #[arP p, .int .i64 n] w (GrowOk p A v m w) := by
  subst hn
  obtain ⟨a, c, rfl, hB, hg, hcr⟩ := h.form
  have hlc := Sl.cap hB
  have q1 : w.cell? ⟨p, 1, none⟩ = some (.int .i64 A.cap) := h.row.cell 1
  have q2 : w.cell? ⟨p, 2, none⟩ = some (.slice a A.b.length c) := h.row.cell 2
  have hb := h.hbase; have hc1 := h.hcap; have hc2 := h.hlen
  have hs1 : IntKind.i64.wrap ((A.cap : Int) - (A.b.length : Int)) = (A.cap : Int) - (A.b.length : Int) := IntWalk.i64_in _ (by omega)
  have ht : decide ((A.cap : Int) - (A.b.length : Int) < (m : Int)) = false := by simp; omega
  have H := Lib.hid h
  clear h hB hg
  go_enter Try.func137, Try.ntmps137
  go_wp2
  go_quiet (fail)
  clear hs1 ht
  have H1 := H.out.drewN nq
  have k1 := (Keep.refl (arF p (.slice a A.b.length c)) w).drewN nq
  have r1 := H1.row
  have hap := H1.apart (by decide)
  have own0 := H1.own
  have HAP := Lib.hid hap
  clear hap H1
  go_wp2_with (at_builtin; go_must (refine app_zeros_own rfl (.tmp 27) (.tmp 28) 31 3 rfl 0 5 (.int .u8 0) 1 Try.underlying31 Try.underlying3 info_u8 rfl rfl (by decide) (.slice a A.b.length c) _ _ rfl own0 _ _ m rfl rfl (by omega) (Nat.zero_le _) ?_; intro v1 w1 own1 kp1 hbl1; obtain ⟨a1, c1, rfl, _, hs1⟩ := Sl.of_owned own1; have r2 := r1.keep kp1 HAP.out; have f2 := r2.frozen 2; have c2 : w1.cell? ⟨p, 2, none⟩ = some (.slice a A.b.length c) := r2.cell 2))
  go_ret
  have r3 := r2.set 2 (.slice a1 (A.b.length + m) c1)
  have k2 := (k1.trans (kp1.mono fun k _ hk => .inr hk)).setCell (p := ⟨p, 2, none⟩) (.inl (.inl rfl)) (.slice a1 (A.b.length + m) c1)
  have k3 := (Keep.refl (· = p) w1).setCell (p := ⟨p, 2, none⟩) (.inl rfl) (.slice a1 (A.b.length + m) c1)
  have hne : ∀ g, (Value.slice a1 (A.b.length + m) c1).ownBlock = some g → ¬ g = p := by
    rintro g hg rfl
    rcases hbl1 with h | h
    · rw [h] at hg; exact HAP.out hg
    · rw [h] at hg
      have : g = (w.drewN nq).heap.size := by simpa using hg.symm
      have := r1.lt
      omega
  exact ⟨_, rfl, ⟨r3, ownsRow_map (own_kept own1 k3 hne) (by simp) (by simp [bv]), H.out.hbase, H.out.hmod, H.out.hcap, H.out.hmin, by simp; omega⟩, k2, hbl1⟩
theorem arena_Grow_neg (w : World) (p : Nat) (n : Int) (hn : n < 0) :
    Calls Try.prog 137 #[arP p, .int .i64 n] w fun e w' => e = .returned (.iface 183 (.int .i64 1)) ∧ Below w.heap.size w w' := by
  go_enter Try.func137, Try.ntmps137
  go_wp2
  go_ret
  exact ⟨rfl, Below.refl _ _⟩
theorem arena_Grow_full (w : World) (p : Nat) (A : Ar) (v : Value) (h : ArA w p A v) (n : Int) (hn : 0 ≤ n) (hf : (A.cap : Int) < A.b.length + n) :
    Calls Try.prog 137 #[arP p, .int .i64 n] w fun e w' => e = .returned (.iface 183 (.int .i64 5)) ∧ Below w.heap.size w w' := by
  obtain ⟨a, c, rfl, hB, hg, hcr⟩ := h.form
  have hlc := Sl.cap hB
  have q1 : w.cell? ⟨p, 1, none⟩ = some (.int .i64 A.cap) := h.row.cell 1
  have q2 : w.cell? ⟨p, 2, none⟩ = some (.slice a A.b.length c) := h.row.cell 2
  have hc1 := h.hcap; have hc2 := h.hlen
  have hs1 : IntKind.i64.wrap ((A.cap : Int) - (A.b.length : Int)) = (A.cap : Int) - (A.b.length : Int) := IntWalk.i64_in _ (by omega)
  have ht : decide ((A.cap : Int) - (A.b.length : Int) < n) = true := by simp; omega
  clear h hB hg
  go_enter Try.func137, Try.ntmps137
  go_wp2
  go_quiet (fail)
  clear hs1 ht
  go_wp2
  go_ret
  exact ⟨rfl, below_drewN (Below.refl _ _) _⟩
end Go.Proofs.Ytjijniillehfoaa
