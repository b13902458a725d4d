/- The arena's contracts, all cases in one, beside whatever else there is. -/
import Derived.Test.YtjijniillehfoaaArena4
import Derived.Test.YtjijniillehfoaaSt
namespace Go.Proofs.Ytjijniillehfoaa
open Go Go.RowKit Go.Own
set_option linter.unusedVariables false
abbrev ArT (p : Nat) (A : Ar) : Ob := ArO 199 5 p A
abbrev OwB (v : Value) (b : List UInt8) : Ob := OwO 5 1 v b.length (b.map bv)
section
variable {B : Nat} {w0 w : World} {l : List Ob} {i p : Nat} {A : Ar}
theorem errV_0 : errV 0 = .nilIface := by unfold errV; rw [if_pos rfl]
theorem errV_pos {c : Int} (h : c ≠ 0) : errV c = .iface 183 (.int .i64 c) := by unfold errV; rw [if_neg h]
theorem ar_Base (h : St B w0 w l) (hi : l[i]? = some (ArT p A)) : Calls Try.prog 46 #[arP p] w fun e w' => e = .returned (.int .u64 A.base) ∧ w = w' := by
  obtain ⟨v, ha⟩ := h.ar hi
  exact arena_Base w p A v ha
theorem ar_Len (h : St B w0 w l) (hi : l[i]? = some (ArT p A)) : Calls Try.prog 44 #[arP p] w fun e w' => e = .returned (.int .i64 A.b.length) ∧ w = w' := by
  obtain ⟨v, ha⟩ := h.ar hi
  exact arena_Len w p A v ha
theorem ar_Cap (h : St B w0 w l) (hi : l[i]? = some (ArT p A)) : Calls Try.prog 45 #[arP p] w fun e w' => e = .returned (.int .i64 A.cap) ∧ w = w' := by
  obtain ⟨v, ha⟩ := h.ar hi
  exact arena_Cap w p A v ha
theorem ar_Word (h : St B w0 w l) (hi : l[i]? = some (ArT p A)) (addr : Int) (h0 : 0 ≤ addr) (h1 : addr ≤ 18446744073709551615) :
    Calls Try.prog 146 #[arP p, .int .u64 addr] w fun e w' => e = .returned (.tuple #[.int .u64 ((A.word addr).2 : Nat), errV (A.word addr).1]) ∧ w = w' := by
  obtain ⟨v, ha⟩ := h.ar hi
  unfold Ar.word
  split
  · rename_i ht
    have := Ar.there_le (m := 8) ht rfl
    refine (arena_Word_ok w p A v ha addr _ (Ar.there_at ht) this).mono ?_
    rintro e w' ⟨rfl, rfl⟩
    exact ⟨rfl, rfl⟩
  · rename_i ht
    refine (arena_Word_bad w p A v ha addr h0 h1 (Ar.there_no ht)).mono ?_
    rintro e w' ⟨rfl, rfl⟩
    exact ⟨rfl, rfl⟩
/-- The word at an offset that is there. -/
theorem ar_WordAt (h : St B w0 w l) (hi : l[i]? = some (ArT p A)) (addr : Int) (o : Nat) (ho : addr = A.base + o) (hf : o + 8 ≤ A.b.length) :
    Calls Try.prog 146 #[arP p, .int .u64 addr] w fun e w' => e = .returned (.tuple #[.int .u64 (numAt A.b o : Nat), .nilIface]) ∧ w = w' := by
  obtain ⟨v, ha⟩ := h.ar hi
  exact arena_Word_ok w p A v ha addr o ho hf
theorem ar_WordNo (h : St B w0 w l) (hi : l[i]? = some (ArT p A)) (addr : Int) (o : Nat) (ho : addr = A.base + o) (h2 : o ≤ 1000000) (hf : A.b.length < o + 8) :
    Calls Try.prog 146 #[arP p, .int .u64 addr] w fun e w' => e = .returned (.tuple #[.int .u64 0, .iface 183 (.int .i64 2)]) ∧ w = w' := by
  obtain ⟨v, ha⟩ := h.ar hi
  have hb := ha.hbase
  exact arena_Word_bad w p A v ha addr (by omega) (by omega) (by omega)
theorem ar_Load (h : St B w0 w l) (hi : l[i]? = some (ArT p A)) (addr n : Int) (h0 : 0 ≤ addr) (h1 : addr ≤ 18446744073709551615) (n0 : 0 ≤ n) (n1 : n ≤ 18446744073709551615) :
    Calls Try.prog 113 #[arP p, .int .u64 addr, .int .u64 n] w fun e w' => ∃ v, e = .returned (.tuple #[v, errV (A.load addr n).1]) ∧ St B w0 w' (OwB v (A.load addr n).2 :: l) := by
  obtain ⟨v, ha⟩ := h.ar hi
  unfold Ar.load
  split
  · rename_i ht
    obtain ⟨m, hm⟩ := Int.eq_ofNat_of_zero_le n0
    have hle := Ar.there_le (m := m) ht hm
    refine (arena_Load_ok w p A v ha addr _ (Ar.there_at ht) n m hm hle).mono ?_
    rintro e w' ⟨v1, rfl, ho, hb⟩
    have : n.toNat = m := by omega
    rw [this]
    exact ⟨v1, rfl, h.addOwn hb ho⟩
  · rename_i ht
    refine (arena_Load_bad w p A v ha addr n h0 h1 n0 n1 (Ar.there_no ht)).mono ?_
    rintro e w' ⟨rfl, hb⟩
    exact ⟨_, rfl, h.addOwn hb (World.ownsRow_nil _ _ _ _)⟩
theorem ar_Store (h : St B w0 w l) (hi : l[i]? = some (ArT p A)) (addr : Int) (h0 : 0 ≤ addr) (h1 : addr ≤ 18446744073709551615) (a : Option Addr) (n c : Nat) (b : List UInt8) (hb : Bs w a n c b) :
    Calls Try.prog 144 #[arP p, .int .u64 addr, .slice a n c] w fun e w' => e = .returned (errV (A.store addr b).1) ∧ St B w0 w' (l.set i (ArT p (A.store addr b).2)) := by
  obtain ⟨v, ha, hto⟩ := h.arTo hi
  unfold Ar.store
  split
  · rename_i ht
    refine (arena_Store_ok w p A v ha addr _ (Ar.there_at ht) a n c b hb (Ar.there_le ht rfl)).mono ?_
    rintro e w' ⟨rfl, h2, k2⟩
    exact ⟨rfl, hto w' _ v h2 (k2.mono fun _ _ h => .inr h) (.inl rfl)⟩
  · rename_i ht
    refine (arena_Store_bad w p A v ha addr a n c b hb h0 h1 (Ar.there_no ht)).mono ?_
    rintro e w' ⟨rfl, rfl⟩
    exact ⟨rfl, hto w _ v ha (Keep.refl _ _) (.inl rfl)⟩
theorem ar_SetWord (h : St B w0 w l) (hi : l[i]? = some (ArT p A)) (addr x : Int) (h0 : 0 ≤ addr) (h1 : addr ≤ 18446744073709551615) (x0 : 0 ≤ x) (x1 : x ≤ 18446744073709551615) :
    Calls Try.prog 138 #[arP p, .int .u64 addr, .int .u64 x] w fun e w' => e = .returned (errV (A.store addr (low x.toNat 8)).1) ∧ St B w0 w' (l.set i (ArT p (A.store addr (low x.toNat 8)).2)) := by
  obtain ⟨v, ha, hto⟩ := h.arTo hi
  unfold Ar.store
  split
  · rename_i ht
    have := Ar.there_le (m := 8) ht (by rw [low_length])
    refine (arena_SetWord_ok w p A v ha addr _ (Ar.there_at ht) x x.toNat (by omega) (by omega) this).mono ?_
    rintro e w' ⟨rfl, h2, k2⟩
    exact ⟨rfl, hto w' _ v h2 (k2.mono fun _ _ h => .inr h) (.inl rfl)⟩
  · rename_i ht
    rw [low_length] at ht
    refine (arena_SetWord_bad w p A v ha addr x x0 x1 h0 h1 (Ar.there_no ht)).mono ?_
    rintro e w' ⟨rfl, hb⟩
    exact ⟨rfl, hto w' _ v (ha.below hb) (Keep.of_below hb) (.inl rfl)⟩
/-- A word laid at an offset that is there. -/
theorem ar_SetAt (h : St B w0 w l) (hi : l[i]? = some (ArT p A)) (addr : Int) (o : Nat) (ho : addr = A.base + o) (hf : o + 8 ≤ A.b.length) (x : Int) (X : Nat) (hx : x = X) (hX : X < 18446744073709551616) :
    Calls Try.prog 138 #[arP p, .int .u64 addr, .int .u64 x] w fun e w' => e = .returned .nilIface ∧ St B w0 w' (l.set i (ArT p { A with b := layAt A.b o X })) := by
  obtain ⟨v, ha, hto⟩ := h.arTo hi
  refine (arena_SetWord_ok w p A v ha addr o ho x X hx hX hf).mono ?_
  rintro e w' ⟨rfl, h2, k2⟩
  exact ⟨rfl, hto w' _ v h2 (k2.mono fun _ _ h => .inr h) (.inl rfl)⟩
theorem ar_Copy (h : St B w0 w l) (hi : l[i]? = some (ArT p A)) (to fr n : Int) (t0 : 0 ≤ to) (t1 : to ≤ 18446744073709551615) (h0 : 0 ≤ fr) (h1 : fr ≤ 18446744073709551615) (n0 : 0 ≤ n) (n1 : n ≤ 18446744073709551615) :
    Calls Try.prog 149 #[arP p, .int .u64 to, .int .u64 fr, .int .u64 n] w fun e w' => e = .returned (errV (A.copy to fr n).1) ∧ St B w0 w' (l.set i (ArT p (A.copy to fr n).2)) := by
  obtain ⟨v, ha, hto⟩ := h.arTo hi
  unfold Ar.copy
  split
  · rename_i ht
    obtain ⟨m, hm⟩ := Int.eq_ofNat_of_zero_le n0
    have hmm : n.toNat = m := by omega
    refine (arena_Copy_ok w p A v ha to fr _ _ (Ar.there_at ht.2) (Ar.there_at ht.1) n m hm (Ar.there_le ht.1 hm) (Ar.there_le ht.2 hm)).mono ?_
    rintro e w' ⟨rfl, h2, k2⟩
    rw [hmm]
    exact ⟨rfl, hto w' _ v h2 (k2.mono fun _ _ h => .inr h) (.inl rfl)⟩
  · rename_i ht
    refine (arena_Copy_bad w p A v ha to fr n t0 t1 h0 h1 n0 n1 (fun hh => ht ⟨Ar.there_iff.2 hh.1, Ar.there_iff.2 hh.2⟩)).mono ?_
    rintro e w' ⟨rfl, rfl⟩
    exact ⟨rfl, hto w _ v ha (Keep.refl _ _) (.inl rfl)⟩
theorem ar_Fill (h : St B w0 w l) (hi : l[i]? = some (ArT p A)) (addr n : Int) (x : UInt8) (h0 : 0 ≤ addr) (h1 : addr ≤ 18446744073709551615) (n0 : 0 ≤ n) (n1 : n ≤ 18446744073709551615) :
    Calls Try.prog 112 #[arP p, .int .u64 addr, .int .u64 n, .int .u8 (x.toNat : Nat)] w fun e w' => e = .returned (errV (A.fill addr n x).1) ∧ St B w0 w' (l.set i (ArT p (A.fill addr n x).2)) := by
  obtain ⟨v, ha, hto⟩ := h.arTo hi
  unfold Ar.fill
  split
  · rename_i ht
    obtain ⟨m, hm⟩ := Int.eq_ofNat_of_zero_le n0
    have hmm : n.toNat = m := by omega
    refine (arena_Fill_ok w p A v ha addr _ (Ar.there_at ht) n m hm (Ar.there_le ht hm) x).mono ?_
    rintro e w' ⟨rfl, h2, k2⟩
    rw [hmm]
    exact ⟨rfl, hto w' _ v h2 (k2.mono fun _ _ h => .inr h) (.inl rfl)⟩
  · rename_i ht
    refine (arena_Fill_bad w p A v ha addr n x h0 h1 n0 n1 (Ar.there_no ht)).mono ?_
    rintro e w' ⟨rfl, rfl⟩
    exact ⟨rfl, hto w _ v ha (Keep.refl _ _) (.inl rfl)⟩
theorem ar_Grow (h : St B w0 w l) (hi : l[i]? = some (ArT p A)) (n : Int) :
    Calls Try.prog 137 #[arP p, .int .i64 n] w fun e w' => e = .returned (errV (A.grow n).1) ∧ St B w0 w' (l.set i (ArT p (A.grow n).2)) := by
  obtain ⟨v, ha, hto⟩ := h.arTo hi
  unfold Ar.grow
  split
  · rename_i ht
    refine (arena_Grow_neg w p n ht).mono ?_
    rintro e w' ⟨rfl, hb⟩
    exact ⟨rfl, hto w' _ v (ha.below hb) (Keep.of_below hb) (.inl rfl)⟩
  · rename_i ht
    split
    · rename_i hc
      refine (arena_Grow_full w p A v ha n (by omega) hc).mono ?_
      rintro e w' ⟨rfl, hb⟩
      exact ⟨rfl, hto w' _ v (ha.below hb) (Keep.of_below hb) (.inl rfl)⟩
    · rename_i hc
      refine (arena_Grow_ok w p A v ha n n.toNat (by omega) (by omega)).mono ?_
      rintro e w' ⟨v', rfl, h2, k2, g2⟩
      exact ⟨rfl, hto w' _ v' h2 k2 g2⟩
theorem ar_Widen (h : St B w0 w l) (hi : l[i]? = some (ArT p A)) (n : Int) :
    Calls Try.prog 141 #[arP p, .int .i64 n] w fun e w' => e = .returned (errV (A.widen n).1) ∧ St B w0 w' (l.set i (ArT p (A.widen n).2)) := by
  obtain ⟨v, ha, hto⟩ := h.arTo hi
  unfold Ar.widen
  split
  · rename_i ht
    refine (arena_Widen_ok w p A v ha n n.toNat (by omega) (by omega) (by omega)).mono ?_
    rintro e w' ⟨rfl, h2, k2⟩
    exact ⟨rfl, hto w' _ v h2 k2 (.inl rfl)⟩
  · rename_i ht
    refine (arena_Widen_bad w p A v ha n ht).mono ?_
    rintro e w' ⟨rfl, rfl⟩
    exact ⟨rfl, hto w _ v ha (Keep.refl _ _) (.inl rfl)⟩
/-- A new arena. -/
def NewA (B : Nat) (w0 : World) (l : List Ob) (A : Ar) (e : Ending) (w' : World) : Prop := ∃ q, e = .returned (arP q) ∧ St B w0 w' (ArT q A :: l)
theorem made_St {A' : Ar} (h : St B w0 w l) {e : Ending} {w' : World} (hm : MadeAr A' w e w') : NewA B w0 l A' e w' := by
  obtain ⟨q, v, rfl, ha, hF, hb⟩ := hm
  exact ⟨q, rfl, h.add (F := arF q v) hb ⟨v, ha, fun _ h => h, fun x hx => ha.lt hx⟩ hF⟩
theorem ar_Clone (h : St B w0 w l) (hi : l[i]? = some (ArT p A)) : Calls Try.prog 152 #[arP p] w (NewA B w0 l A) := by
  obtain ⟨v, ha⟩ := h.ar hi
  exact (arena_Clone w p A v ha).mono fun e w' hm => made_St h hm
theorem ar_Bytes (h : St B w0 w l) (hi : l[i]? = some (ArT p A)) : Calls Try.prog 47 #[arP p] w fun e w' => ∃ v, e = .returned v ∧ St B w0 w' (OwB v A.b :: l) := by
  obtain ⟨v, ha⟩ := h.ar hi
  refine (law_Bytes w p A v ha).mono ?_
  rintro e w' ⟨v1, rfl, ho, hb⟩
  exact ⟨v1, rfl, h.addOwn hb ho⟩
theorem ar_Arena (h : St B w0 w l) (b : Int) (bn : Nat) (hB : b = bn) (c : Int) (C : Nat) (hC : c = C) (h1 : bn % 16 = 0) (h2 : bn ≤ 4611686018427387904) (h3 : 1024 ≤ C) (h4 : C ≤ 16384)
    (a : Option Addr) (n cp : Nat) (x : List UInt8) (hb : Bs w a n cp x) (hl : x.length ≤ C) : Calls Try.prog 59 #[.int .u64 b, .int .i64 c, .slice a n cp] w (NewA B w0 l ⟨bn, C, x⟩) :=
  (law_Arena w b bn hB c C hC h1 h2 h3 h4 a n cp x hb hl).mono fun e w' hm => made_St h hm
/-- A new arena without bytes. -/
theorem ar_New (h : St B w0 w l) (b : Int) (bn : Nat) (hB : b = bn) (c : Int) (C : Nat) (hC : c = C) (h1 : bn % 16 = 0) (h2 : bn ≤ 4611686018427387904) (h3 : 1024 ≤ C) (h4 : C ≤ 16384) :
    Calls Try.prog 41 #[.int .u64 b, .int .i64 c] w (NewA B w0 l ⟨bn, C, []⟩) := by
  refine (arena_New_ok w b bn hB c C hC h1 h2 h3 h4).mono ?_
  rintro e w' ⟨rfl, ha, hb⟩
  refine ⟨_, rfl, h.add (F := arF w.heap.size (.slice none 0 0)) hb ⟨_, ha, fun _ h => h, fun x hx => ha.lt hx⟩ fun x hx => ?_⟩
  rcases hx with rfl | hx
  · exact Nat.le_refl _
  · cases hx
end
end Go.Proofs.Ytjijniillehfoaa
