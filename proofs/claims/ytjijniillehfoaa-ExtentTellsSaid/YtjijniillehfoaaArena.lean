import Derived.Test.YtjijniillehfoaaWord2
import Derived.Test.YtjijniillehfoaaArBase
namespace Go.Proofs.Ytjijniillehfoaa
open Go Go.RowKit Go.Own
set_option linter.unusedVariables false
/-- An arena of this program in memory. -/
abbrev ArA (w : World) (p : Nat) (A : Ar) (v : Value) : Prop := ArAt 199 5 w p A v
abbrev arP (p : Nat) : Value := .pointer (some ⟨p, 0, none⟩)
/-- An error: its code; 0: none. -/
def errV (c : Int) : Value := if c = 0 then .nilIface else .iface 183 (.int .i64 c)
/-- A piece of an arena: m bytes from i on. -/
def AtOk (A : Ar) (v : Value) (i m : Nat) (w : World) (e : Ending) (w' : World) : Prop :=
  ∃ a c, e = .returned (.tuple #[.slice a m c, .nilIface]) ∧ Bs w a m c ((A.b.drop i).take m) ∧ (0 < m → ∃ g cap, v = .slice (some ⟨g, 0, none⟩) A.b.length cap ∧ a = some ⟨g, i, none⟩) ∧ w = w'
set_option maxHeartbeats 1000000 in
theorem arena_at_ok (w : World) (p : Nat) (A : Ar) (v : Value) (h : ArA w p A v) (addr : Int) (i : Nat) (hi : addr = A.base + i) (n : Int) (m : Nat) (hn : n = m) (hf : i + m ≤ A.b.length) :
    Calls Try.prog 210 #[arP p, .int .u64 addr, .int .u64 n] w (AtOk A v i m w) := by
  subst hi; subst hn
  obtain ⟨a, c, rfl, hB, hg, hcr⟩ := h.form
  have hlc := Sl.cap hB
  have q0 : w.cell? ⟨p, 0, none⟩ = some (.int .u64 A.base) := h.row.cell 0
  have q2 : w.cell? ⟨p, 2, none⟩ = some (.slice a A.b.length c) := h.row.cell 2
  have hb := h.hbase; have hc1 := h.hcap; have hc2 := h.hlen
  by_cases hm : 0 < m
  · obtain ⟨g, rfl⟩ := h.at_ i m hf hm
    have hcut := hB.cut i (i + m) (by omega) (by omega)
    have hne : ¬ c = i := by omega
    rw [Nat.add_sub_cancel_left, List.drop_take] at hcut
    simp only [Nat.zero_add, Nat.add_sub_cancel_left] at hcut
    have HC := Lib.hid hcut; have H := Lib.hid h
    clear hcut h hB hg
    go_enter Try.func210, Try.ntmps210
    go_wp2
    go_ret2
    exact ⟨_, _, by simp [Nat.add_sub_cancel_left], HC.out, fun _ => ⟨_, _, rfl, rfl⟩, rfl⟩
  · obtain rfl : m = 0 := by omega
    have hz : Bs w none 0 0 ((A.b.drop i).take 0) := by rw [List.take_zero]; exact Bs.nil w
    have hz1 : ∀ (p : Addr) c', c' ≤ 9223372036854775807 → Bs w (some p) 0 c' ((A.b.drop i).take 0) := fun p c' hc' => by
      rw [List.take_zero]; exact Sl.mk rfl (Nat.zero_le _) hc' (fun h => by cases h) (fun i v h => by simp at h)
    have HZ := Lib.hid hz; have HZ1 := Lib.hid hz1
    clear hz hz1
    cases a with
    | none =>
      have h0 := hB.nilcap rfl
      have hi0 : i = 0 := by omega
      have hl0 : A.b.length = 0 := by omega
      subst hi0; subst h0
      rw [hl0] at q2
      clear h hB hg hl0 hc2 hf
      go_enter Try.func210, Try.ntmps210
      go_wp2
      go_ret2
      exact ⟨_, _, by simp, HZ.out, fun h => absurd h (by omega), rfl⟩
    | some p0 =>
      obtain ⟨pb, po, pc⟩ := p0
      by_cases hci : c = i
      · subst hci
        clear h hB hg
        go_enter Try.func210, Try.ntmps210
        go_wp2
        go_ret2
        refine ⟨_, _, by simp [Nat.add_sub_cancel_left]; exact ⟨rfl, rfl⟩, HZ1.out _ _ (by omega), fun h => absurd h (by omega), rfl⟩
      · clear h hB hg
        go_enter Try.func210, Try.ntmps210
        go_wp2
        go_ret2
        refine ⟨_, _, by simp [Nat.add_sub_cancel_left]; exact ⟨rfl, rfl⟩, HZ1.out _ _ (by omega), fun h => absurd h (by omega), rfl⟩

theorem arena_at_bad (w : World) (p : Nat) (A : Ar) (v : Value) (h : ArA w p A v) (addr n : Int) (h0 : 0 ≤ addr) (h1 : addr ≤ 18446744073709551615) (n0 : 0 ≤ n) (n1 : n ≤ 18446744073709551615) (hf : ¬ ((A.base : Int) ≤ addr ∧ addr - A.base + n ≤ A.b.length)) :
    Calls Try.prog 210 #[arP p, .int .u64 addr, .int .u64 n] w fun e w' => e = .returned (.tuple #[.slice none 0 0, .iface 183 (.int .i64 2)]) ∧ w = w' := by
  obtain ⟨a, c, rfl, hB, hg, hcr⟩ := h.form
  have hlc := Sl.cap hB
  have q0 : w.cell? ⟨p, 0, none⟩ = some (.int .u64 A.base) := h.row.cell 0
  have q2 : w.cell? ⟨p, 2, none⟩ = some (.slice a A.b.length c) := h.row.cell 2
  have hb := h.hbase; have hc1 := h.hcap; have hc2 := h.hlen
  clear h hB hg
  go_enter Try.func210, Try.ntmps210
  by_cases c1 : addr < A.base
  · go_wp2
    go_ret2
    exact ⟨rfl, rfl⟩
  · by_cases c2 : (A.b.length : Int) < addr - A.base
    · go_wp2
      go_ret2
      exact ⟨rfl, rfl⟩
    · have c3 : (A.b.length : Int) - (addr - A.base) < n := by omega
      clear hf
      go_wp2
      go_ret2
      exact ⟨rfl, rfl⟩
theorem arena_Base (w : World) (p : Nat) (A : Ar) (v : Value) (h : ArA w p A v) :
    Calls Try.prog 46 #[arP p] w fun e w' => e = .returned (.int .u64 A.base) ∧ w = w' := by
  have q0 : w.cell? ⟨p, 0, none⟩ = some (.int .u64 A.base) := h.row.cell 0
  clear h
  go_enter Try.func46, Try.ntmps46
  go_wp2
  go_ret
  exact ⟨rfl, rfl⟩
theorem arena_Len (w : World) (p : Nat) (A : Ar) (v : Value) (h : ArA w p A v) :
    Calls Try.prog 44 #[arP p] w fun e w' => e = .returned (.int .i64 A.b.length) ∧ w = w' := by
  obtain ⟨a, c, rfl, hB, hg, hcr⟩ := h.form
  have q2 : w.cell? ⟨p, 2, none⟩ = some (.slice a A.b.length c) := h.row.cell 2
  clear h hB hg
  go_enter Try.func44, Try.ntmps44
  go_wp2
  go_ret
  exact ⟨rfl, rfl⟩
/-- 'slices.Clone' of bytes. -/
def CloneOf (l : List UInt8) (a : Option Addr) (w : World) (e : Ending) (w' : World) : Prop :=
  ∃ v, e = .returned v ∧ w'.ownsRow w.heap.size 5 1 v l.length (l.map bv) ∧ Below w.heap.size w w'
theorem slices_Clone_nil (w : World) : Calls Try.prog 130 #[.slice none 0 0] w fun e w' => e = .returned (.slice none 0 0) ∧ w = w' := by
  have e1 := fun (w : World) (a : Option Addr) (n c n' c' : Nat) => Lib.run_eql_slice_nil (P := Try.prog) w 31 5 a n c n' c' Try.underlying31
  go_enter Try.func130, Try.ntmps130
  go_wp2
  go_ret
  exact ⟨rfl, rfl⟩
set_option maxHeartbeats 1000000 in
theorem slices_Clone (w : World) (a : Option Addr) (n c : Nat) (l : List UInt8) (h : Bs w a n c l) (hl : l.length ≤ 140737488355328) :
    Calls Try.prog 130 #[.slice a n c] w (CloneOf l a w) := by
  have hn := h.len
  subst hn
  cases a with
  | none =>
    have h0 := h.nilcap rfl
    have h1 := Sl.cap h
    obtain rfl : l = [] := List.eq_nil_of_length_eq_zero (by omega)
    clear h
    have e1 := fun (w : World) (a : Option Addr) (n c n' c' : Nat) => Lib.run_eql_slice_nil (P := Try.prog) w 31 5 a n c n' c' Try.underlying31
    go_enter Try.func130, Try.ntmps130
    go_wp2
    go_ret
    exact ⟨_, rfl, World.ownsRow_nil _ _ _ _, Below.refl _ _⟩
  | some p0 =>
    have e1 := fun (w : World) (a : Option Addr) (n c n' c' : Nat) => Lib.run_eql_slice_nil (P := Try.prog) w 31 5 a n c n' c' Try.underlying31
    have H := Lib.hid h
    clear h
    go_enter Try.func130, Try.ntmps130
    go_wp2_with (at_builtin; go_must (refine app_sl rfl _ _ 31 rfl w.heap.size 5 (.int .u8 0) 1 1 Try.underlying31 info_u8 rfl (by decide) _ 0 [] rfl (own_empty w _ _) _ _ _ _ rfl (H.out.below ((Below.refl _ _).alloc (Nat.le_refl _) _)) (bv_one _) (by omega) (by omega) (by simp) ?_; intro v1 w1 hown1 hg1))
    go_ret
    exact ⟨_, rfl, ownsRow_map hown1 (by simp) (by simp), ((Below.refl _ _).alloc (Nat.le_refl _) _).trans hg1⟩
end Go.Proofs.Ytjijniillehfoaa
