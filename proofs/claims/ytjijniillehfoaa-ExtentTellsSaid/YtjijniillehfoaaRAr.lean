/- The reference's arena: its contracts. -/
import Derived.Test.YtjijniillehfoaaArSt
import Derived.Test.YtjijniillehfoaaPiece
namespace Go.Proofs.Ytjijniillehfoaa
open Go Go.RowKit Go.Own
set_option linter.unusedVariables false
set_option maxRecDepth 100000
abbrev ArR (w : World) (p : Nat) (A : Ar) (v : Value) : Prop := ArAt 56 5 w p A v
abbrev RaT (p : Nat) (A : Ar) : Ob := ArO 56 5 p A
theorem rar_There_ok (w : World) (p : Nat) (A : Ar) (v : Value) (h : ArR w p A v) (addr : Int) (i : Nat) (hi : addr = A.base + i) (n : Int) (m : Nat) (hn : n = m) (hf : i + m ≤ A.b.length) :
    Calls Try.prog 218 #[arP p, .int .u64 addr, .int .u64 n] w fun e w' => e = .returned (.tuple #[.int .i64 i, .bool true]) ∧ Below w.heap.size w w' := by
  obtain ⟨a, c, rfl, hB, hg, hcr⟩ := h.form
  have q0 : w.cell? ⟨p, 0, none⟩ = some (.int .u64 A.base) := h.row.cell 0
  have q2 : w.cell? ⟨p, 2, none⟩ = some (.slice a A.b.length c) := h.row.cell 2
  have hb := h.hbase; have hc1 := h.hcap; have hc2 := h.hlen
  have g1 : (A.base : Int) ≤ addr := by omega
  have g2 : addr - (A.base : Int) ≤ (A.b.length : Int) := by omega
  have g3 : n ≤ (A.b.length : Int) - (addr - (A.base : Int)) := by omega
  have g4 : 0 ≤ n := by omega
  have HE := Lib.hid (show addr - (A.base : Int) = (i : Int) by omega)
  clear h hB hg hi hn hf
  have s1 : IntKind.u64.wrap (addr - (A.base : Int)) = addr - (A.base : Int) := wrapU64 (by omega) (by omega)
  have s3 : IntKind.u64.wrap (A.b.length : Int) = A.b.length := wrapU64 (by omega) (by omega)
  have d1 : decide (addr < (A.base : Int)) = false := by simp; omega
  have d2 : decide ((A.b.length : Int) < addr - (A.base : Int)) = false := by simp; omega
  have d3 : decide ((A.b.length : Int) < n) = false := by simp; omega
  go_enter Try.func218, Try.ntmps218
  go_wp2
  go_quiet (fail)
  clear s1 s3 d1 d2 d3
  go_wp2
  go_ret2
  exact ⟨by simp [HE.out], below_drewN (Below.refl _ _) _⟩
theorem rar_There_bad (w : World) (p : Nat) (A : Ar) (v : Value) (h : ArR w p A v) (addr n : Int) (h0 : 0 ≤ addr) (h1 : addr ≤ 18446744073709551615) (n0 : 0 ≤ n) (n1 : n ≤ 18446744073709551615) (hf : ¬ ((A.base : Int) ≤ addr ∧ addr - A.base + n ≤ A.b.length)) :
    Calls Try.prog 218 #[arP p, .int .u64 addr, .int .u64 n] w fun e w' => e = .returned (.tuple #[.int .i64 0, .bool false]) ∧ Below w.heap.size w w' := by
  obtain ⟨a, c, rfl, hB, hg, hcr⟩ := h.form
  have q0 : w.cell? ⟨p, 0, none⟩ = some (.int .u64 A.base) := h.row.cell 0
  have q2 : w.cell? ⟨p, 2, none⟩ = some (.slice a A.b.length c) := h.row.cell 2
  have hb := h.hbase; have hc1 := h.hcap; have hc2 := h.hlen
  clear h hB hg
  have s3 : IntKind.u64.wrap (A.b.length : Int) = A.b.length := wrapU64 (by omega) (by omega)
  by_cases c1 : addr < A.base
  · have d1 : decide (addr < (A.base : Int)) = true := by simp; omega
    clear hf
    go_enter Try.func218, Try.ntmps218
    go_wp2
    go_quiet (fail)
    clear s3 d1
    go_wp2
    go_ret2
    exact ⟨rfl, below_drewN (Below.refl _ _) _⟩
  · have d1 : decide (addr < (A.base : Int)) = false := by simp; omega
    have s1 : IntKind.u64.wrap (addr - (A.base : Int)) = addr - (A.base : Int) := wrapU64 (by omega) (by omega)
    by_cases c2 : (A.b.length : Int) < addr - A.base
    · have d2 : decide ((A.b.length : Int) < addr - (A.base : Int)) = true := by simp; omega
      clear hf
      go_enter Try.func218, Try.ntmps218
      go_wp2
      go_quiet (fail)
      clear s1 s3 d1 d2
      go_wp2
      go_ret2
      exact ⟨rfl, below_drewN (Below.refl _ _) _⟩
    · have d2 : decide ((A.b.length : Int) < addr - (A.base : Int)) = false := by simp; omega
      by_cases c3 : (A.b.length : Int) < n
      · have d3 : decide ((A.b.length : Int) < n) = true := by simp; omega
        clear hf
        go_enter Try.func218, Try.ntmps218
        go_wp2
        go_quiet (fail)
        clear s1 s3 d1 d2 d3
        go_wp2
        go_ret2
        exact ⟨rfl, below_drewN (Below.refl _ _) _⟩
      · have d3 : decide ((A.b.length : Int) < n) = false := by simp; omega
        have c4 : (A.b.length : Int) - (addr - A.base) < n := by omega
        clear hf
        go_enter Try.func218, Try.ntmps218
        go_wp2
        go_quiet (fail)
        clear s1 s3 d1 d2 d3
        go_wp2
        go_ret2
        exact ⟨rfl, below_drewN (Below.refl _ _) _⟩
section
variable {B : Nat} {w0 w : World} {l : List Ob} {i p : Nat} {A : Ar}
theorem rar_Load (h : St B w0 w l) (hi : l[i]? = some (RaT p A)) (addr n : Int) (h0 : 0 ≤ addr) (h1 : addr ≤ 18446744073709551615) (n0 : 0 ≤ n) (n1 : n ≤ 18446744073709551615) :
    Calls Try.prog 143 #[arP p, .int .u64 addr, .int .u64 n] w fun e w' => ∃ v, e = .returned (.tuple #[v, .int .i64 (A.load addr n).1]) ∧ St B w0 w' (OwB v (A.load addr n).2 :: l) := by
  obtain ⟨v, ha⟩ := h.ar hi
  unfold Ar.load
  split
  · rename_i ht
    obtain ⟨m, rfl⟩ := Int.eq_ofNat_of_zero_le n0
    have hle := Ar.there_le (m := m) ht rfl
    have K := Lib.hid (rar_There_ok w p A v ha addr _ (Ar.there_at ht) m m rfl hle)
    obtain ⟨a, c, rfl, hB, _, _⟩ := ha.form
    have q2 : w.cell? ⟨p, 2, none⟩ = some (.slice a A.b.length c) := ha.row.cell 2
    have hc2 := ha.hlen; have hc1 := ha.hcap
    generalize A.at' addr = j at *
    have hs5 : (Try.prog.info? 5).map (·.size) = some 1 := by kernel_rfl
    obtain ⟨x1, y1, e1, z1, _⟩ := piece Try.underlying31 hs5 hB .i64 .i64 (j : Int) ((j : Int) + (m : Int)) j (j + m) rfl (by simp) (by omega) (by omega)
    rw [show j + m - j = m by omega, List.drop_take, show j + m - j = m by omega] at z1
    rw [show j + m - j = m by omega] at e1
    have H := Lib.hid h; have Z1 := Lib.hid z1; have HR := Lib.hid ha.row
    have hlz : ((A.b.drop j).take m).length = m := by simp; omega
    clear h hi ha hB ht z1 q2
    go_enter Try.func143, Try.ntmps143
    go_wp2_with fail
    refine K.out.mono ?_
    rintro e w1 ⟨rfl, b1⟩
    have q2 : w1.cell? ⟨p, 2, none⟩ = some (.slice a A.b.length c) := (HR.out.below b1).cell 2
    have hlt1 : p < w1.heap.size := (HR.out.below b1).lt
    have H1 := Lib.hid (H.out.below b1); have B1 := Lib.hid b1; have Z2 := Lib.hid (Z1.out.below b1)
    clear b1
    go_wp2_with (at_builtin; go_must (refine app_sl rfl _ _ 31 rfl w1.heap.size 5 (.int .u8 0) 1 1 Try.underlying31 info_u8 rfl (by decide) _ 0 [] rfl (own_empty w1 _ _) _ _ _ _ rfl (Z2.out.below ((Below.refl _ _).alloc (Nat.le_refl _) _)) (bv_one _) (by omega) (by omega) (by simp) ?_; intro v1 w2 hown1 hg1))
    go_ret2
    refine ⟨v1, rfl, H1.out.addOwn (((Below.refl _ _).alloc (Nat.le_refl _) _).trans hg1) ?_⟩
    exact ownsRow_map hown1 (by simp; omega) (by simp)
  · rename_i ht
    have K := Lib.hid (rar_There_bad w p A v ha addr n h0 h1 n0 n1 (Ar.there_no ht))
    have H := Lib.hid h
    clear h hi ha ht
    go_enter Try.func143, Try.ntmps143
    go_wp2_with fail
    refine K.out.mono ?_
    rintro e w1 ⟨rfl, b1⟩
    have H1 := Lib.hid (H.out.addOwn b1 (World.ownsRow_nil _ _ 5 1))
    clear b1
    go_wp2
    go_ret2
    exact ⟨_, rfl, H1.out⟩
theorem rar_Word (h : St B w0 w l) (hi : l[i]? = some (RaT p A)) (addr : Int) (h0 : 0 ≤ addr) (h1 : addr ≤ 18446744073709551615) :
    Calls Try.prog 147 #[arP p, .int .u64 addr] w fun e w' => e = .returned (.tuple #[.int .u64 ((A.word addr).2 : Nat), .int .i64 (A.word addr).1]) ∧ St B w0 w' l := by
  have hk := rar_Load h hi addr 8 h0 h1 (by decide) (by decide)
  have K := Lib.hid hk
  have hn : num (A.load addr 8).2 = (A.word addr).2 ∧ (A.load addr 8).1 = (A.word addr).1 ∧ (A.load addr 8).2.length ≤ 8 := by
    unfold Ar.load Ar.word
    split
    · rename_i ht
      have hle := Ar.there_le (m := 8) ht rfl
      refine ⟨?_, rfl, by simp; omega⟩
      unfold numAt
      rw [if_pos hle]
      rfl
    · exact ⟨rfl, rfl, by simp⟩
  have HN := Lib.hid hn
  clear h hi hk hn
  go_enter Try.func147, Try.ntmps147
  go_wp2_with fail
  refine K.out.mono ?_
  rintro e w1 ⟨v, rfl, h1⟩
  obtain ⟨a, c, rfl, h2⟩ := h1.ownBs
  have hb := h2.bsO (i := 0) rfl
  have H1 := Lib.hid h2.tail; have HB := Lib.hid hb
  clear h1 h2 hb
  go_wp2_with fail
  refine (ref_Num w1 a _ c _ HB.out HN.out.2.2).mono ?_
  rintro e w' ⟨rfl, rfl⟩
  rw [HN.out.1, HN.out.2.1]
  go_wp2
  go_ret2
  exact ⟨rfl, H1.out⟩
end
end Go.Proofs.Ytjijniillehfoaa
