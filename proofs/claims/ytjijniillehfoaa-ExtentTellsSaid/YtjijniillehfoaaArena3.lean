import Derived.Test.YtjijniillehfoaaArena2
import Derived.LaidEql
import Derived.WideLaws
namespace Go.Own
open Go
section
variable {P : Program} (w : World)
theorem run_equalIn_iface_int (d : Nat) {ti tn : TypeId} {ms : Array (String × TypeId)} {i : TypeInfo} {k : IntKind} (a b : Int)
    (hi : P.underlying ti = some (.interface ms)) (hn : P.underlying tn = some (.int k)) (hinfo : P.info? tn = some i) (hcomp : i.comparable = true) :
    (Op.equalIn (d + 2) ti (.iface tn (.int k a)) (.iface tn (.int k b))).run P w = .ok (a == b) w := by
  simp [Op.equalIn, run_underlying hi, run_underlying hn, typeInfo, hinfo, hcomp]
/-- 'x == y', both interface values of one integer type: as the numbers are. -/
theorem run_eql_iface_int {ti tn : TypeId} {ms : Array (String × TypeId)} {k : IntKind} (a b : Int)
    (hi : P.underlying ti = some (.interface ms)) (hn : P.underlying tn = some (.int k)) (hc : (P.info? tn).map (·.comparable) = some true) :
    (binOp .eql ti (.iface tn (.int k a)) (.iface tn (.int k b))).run P w = .ok (.bool (a == b)) w := by
  cases h : P.info? tn with
  | none => rw [h] at hc; cases hc
  | some i =>
    rw [h] at hc
    simp only [binOp]
    simp [Op.equal, Op.maxDepth, run_equalIn_iface_int w 9998 a b hi hn h (by simpa using hc)]
end
end Go.Own
namespace Go.Proofs.Ytjijniillehfoaa
open Go Go.RowKit Go.Own
set_option linter.unusedVariables false
theorem ee (w : World) (a b : Int) : (binOp .eql 28 (.iface 183 (.int .i64 a)) (.iface 183 (.int .i64 b))).run Try.prog w = .ok (.bool (a == b)) w :=
  run_eql_iface_int w a b Try.underlying28 Try.underlying183 (by kernel_rfl)
theorem code_nil (w : World) : Calls Try.prog 51 #[.nilIface] w fun e w' => e = .returned (.int .i64 0) ∧ w = w' := by
  go_enter Try.func51, Try.ntmps51
  go_wp2
  go_ret
  exact ⟨rfl, rfl⟩
theorem code_of (w : World) (K : Int) (h1 : 1 ≤ K) (h2 : K ≤ 10) : Calls Try.prog 51 #[.iface 183 (.int .i64 K)] w fun e w' => e = .returned (.int .i64 K) ∧ w = w' := by
  have he := ee w
  go_enter Try.func51, Try.ntmps51
  go_wp2
  go_loop [3] (fun c => ∃ k : Int, 1 ≤ k ∧ k ≤ K ∧ c = .int .i64 k) (fun c => (K - intOf c).toNat)
  case atStart => exact ⟨1, by omega, h1, rfl⟩
  case round =>
    obtain ⟨k, k1, k2, rfl⟩ := hrel
    by_cases hk : k = K
    · subst hk
      go_wp2
      go_ret
      exact ⟨rfl, rfl⟩
    · have hb : (K == k) = false := by rw [beq_eq_false_iff_ne]; omega
      clear hk
      have hk : k < K := by
        have := beq_eq_false_iff_ne.1 hb; omega
      go_wp2
      exact ⟨⟨k + 1, by omega, by omega, rfl⟩, by simp [intOf]; omega⟩
theorem law_Base (w : World) (n : Int) (h0 : 0 ≤ n) (h1 : n ≤ 18446744073709551615) :
    Calls Try.prog 60 #[.int .u64 n] w fun e w' => e = .returned (.int .u64 (n % 288230376151711744 * 16)) ∧ w = w' := by
  go_enter Try.func60, Try.ntmps60
  go_wp2
  go_ret
  exact ⟨rfl, rfl⟩
set_option maxHeartbeats 1000000 in
theorem arena_Copy_ok (w : World) (p : Nat) (A : Ar) (v : Value) (h : ArA w p A v) (to fr : Int) (j i : Nat) (hj : to = A.base + j) (hi : fr = A.base + i) (n : Int) (m : Nat) (hn : n = m) (hf : i + m ≤ A.b.length) (ht : j + m ≤ A.b.length) :
    Calls Try.prog 149 #[arP p, .int .u64 to, .int .u64 fr, .int .u64 n] w (StoreOk p A v j ((A.b.drop i).take m) w) := by
  have k1 := arena_at_ok w p A v h fr i hi n m hn hf
  have k2 := arena_at_ok w p A v h to j hj n m hn ht
  have hl : ((A.b.drop i).take m).length = m := by simp; omega
  have K1 := Lib.hid k1; have K2 := Lib.hid k2; have H := Lib.hid h; have HL := Lib.hid hl
  clear k1 k2 h hi hj hn hl
  go_enter Try.func149, Try.ntmps149
  go_wp2_with fail
  refine K1.out.mono ?_
  rintro e w' ⟨a1, c1, rfl, hB1, hg1, rfl⟩
  go_wp2_with fail
  refine K2.out.mono ?_
  rintro e w' ⟨a2, c2, rfl, hB2, hg2, rfl⟩
  by_cases h0 : 0 < m
  · obtain ⟨g, cap, rfl, rfl⟩ := hg1 h0
    obtain ⟨g', cap', hv, rfl⟩ := hg2 h0
    cases hv
    clear hB2 hg1 hg2
    go_wp2_with (refine copy_at rfl (.tmp 29) (.tmp 30) 31 5 199 rfl Try.underlying31 (by kernel_rfl) (by decide) H.out j _ _ rfl _ _ _ _ rfl hB1 rfl h0 ht ?_; intro w2 h2 k2)
    go_ret
    exact ⟨rfl, h2, k2.mono fun k _ e => by rw [e]; rfl⟩
  · obtain rfl : m = 0 := by omega
    clear hB1 hB2 hg1 hg2
    go_wp2_with (refine copy_none rfl (.tmp 29) (.tmp 30) 31 5 rfl Try.underlying31 (by kernel_rfl) _ _ _ rfl _ _ _ rfl (Or.inl rfl) ?_)
    go_ret
    exact ⟨rfl, by rw [List.take_zero, lay_nil]; exact H.out, Keep.refl _ _⟩
set_option maxHeartbeats 1000000 in
theorem arena_Copy_bad (w : World) (p : Nat) (A : Ar) (v : Value) (h : ArA w p A v) (to fr n : Int) (t0 : 0 ≤ to) (t1 : to ≤ 18446744073709551615) (h0 : 0 ≤ fr) (h1 : fr ≤ 18446744073709551615) (n0 : 0 ≤ n) (n1 : n ≤ 18446744073709551615)
    (hf : ¬ (((A.base : Int) ≤ fr ∧ fr - A.base + n ≤ A.b.length) ∧ ((A.base : Int) ≤ to ∧ to - A.base + n ≤ A.b.length))) :
    Calls Try.prog 149 #[arP p, .int .u64 to, .int .u64 fr, .int .u64 n] w fun e w' => e = .returned (.iface 183 (.int .i64 2)) ∧ w = w' := by
  by_cases hF : (A.base : Int) ≤ fr ∧ fr - A.base + n ≤ A.b.length
  · have hT : ¬ ((A.base : Int) ≤ to ∧ to - A.base + n ≤ A.b.length) := fun h => hf ⟨hF, h⟩
    have k1 := arena_at_ok w p A v h fr (fr - A.base).toNat (by omega) n n.toNat (by omega) (by omega)
    have k2 := arena_at_bad w p A v h to n t0 t1 n0 n1 hT
    have K1 := Lib.hid k1; have K2 := Lib.hid k2
    clear k1 k2 h hf hF hT
    go_enter Try.func149, Try.ntmps149
    go_wp2_with fail
    refine K1.out.mono ?_
    rintro e w' ⟨a1, c1, rfl, hB1, hg1, rfl⟩
    clear hB1 hg1
    go_wp2_with fail
    refine K2.out.mono ?_
    rintro e w' ⟨rfl, rfl⟩
    go_wp2_with (refine copy_none rfl (.tmp 29) (.tmp 30) 31 5 rfl Try.underlying31 (by kernel_rfl) _ _ _ rfl _ _ _ rfl (Or.inr rfl) ?_)
    go_ret
    exact ⟨rfl, rfl⟩
  · have k1 := arena_at_bad w p A v h fr n h0 h1 n0 n1 hF
    have K1 := Lib.hid k1
    clear k1 h hf hF
    go_enter Try.func149, Try.ntmps149
    go_wp2_with fail
    refine K1.out.mono ?_
    rintro e w' ⟨rfl, rfl⟩
    go_wp2
    go_ret
    exact ⟨rfl, rfl⟩
/-- All bytes, in new memory. -/
def BytesOk (l : List UInt8) (w : World) (e : Ending) (w' : World) : Prop :=
  ∃ v, e = .returned v ∧ w'.ownsRow w.heap.size 5 1 v l.length (l.map bv) ∧ Below w.heap.size w w'
theorem law_Bytes (w : World) (p : Nat) (A : Ar) (v : Value) (h : ArA w p A v) :
    Calls Try.prog 47 #[arP p] w (BytesOk A.b w) := by
  have k1 := arena_Base w p A v h
  have k2 := arena_Len w p A v h
  have hl := h.hlen; have hc := h.hcap
  have k3 := arena_Load_ok w p A v h A.base 0 (by simp) A.b.length A.b.length rfl (by omega)
  rw [List.drop_zero, List.take_length] at k3
  have K1 := Lib.hid k1; have K2 := Lib.hid k2; have K3 := Lib.hid k3
  clear k1 k2 k3 h
  go_enter Try.func47, Try.ntmps47
  go_wp2_with fail
  refine K1.out.mono ?_
  rintro e w' ⟨rfl, rfl⟩
  go_wp2_with fail
  refine K2.out.mono ?_
  rintro e w' ⟨rfl, rfl⟩
  go_wp2_with fail
  refine K3.out.mono ?_
  rintro e w' ⟨v1, rfl, ho, hb⟩
  go_wp2
  go_ret
  exact ⟨v1, rfl, ho, hb⟩
/-- An arena in new memory, on which these bytes stand. -/
def MadeAr (A : Ar) (w : World) (e : Ending) (w' : World) : Prop :=
  ∃ p v, e = .returned (arP p) ∧ ArA w' p A v ∧ (∀ k, arF p v k → w.heap.size ≤ k) ∧ Below w.heap.size w w'
theorem law_Arena_none (w : World) (b c : Int) (b0 : 0 ≤ b) (b1 : b ≤ 18446744073709551615) (a : Option Addr) (n cp : Nat) (hf : ¬ (b % 16 = 0 ∧ b ≤ 4611686018427387904 ∧ 1024 ≤ c ∧ c ≤ 16384)) :
    Calls Try.prog 59 #[.int .u64 b, .int .i64 c, .slice a n cp] w fun e w' => e = .returned (.pointer none) ∧ w = w' := by
  have k1 := arena_New_bad w b c b0 b1 hf
  have K1 := Lib.hid k1
  clear k1 hf
  go_enter Try.func59, Try.ntmps59
  go_wp2_with fail
  refine K1.out.mono ?_
  rintro e w' ⟨rfl, rfl⟩
  go_wp2
  go_ret
  exact ⟨rfl, rfl⟩
theorem law_Arena_large (w : World) (b : Int) (B : Nat) (hB : b = B) (c : Int) (C : Nat) (hC : c = C) (h1 : B % 16 = 0) (h2 : B ≤ 4611686018427387904) (h3 : 1024 ≤ C) (h4 : C ≤ 16384)
    (a : Option Addr) (n cp : Nat) (l : List UInt8) (hb : Bs w a n cp l) (hl : C < l.length) :
    Calls Try.prog 59 #[.int .u64 b, .int .i64 c, .slice a n cp] w fun e w' => e = .returned (.pointer none) ∧ Below w.heap.size w w' := by
  have k1 := arena_New_ok w b B hB c C hC h1 h2 h3 h4
  have hn := hb.len
  have hcp := Sl.cap hb; have hr := Sl.room hb
  subst hn
  have K1 := Lib.hid k1
  have hcl : c < l.length := by omega
  clear k1 hb hB hC
  go_enter Try.func59, Try.ntmps59
  go_wp2_with fail
  refine K1.out.mono ?_
  rintro e w1 ⟨rfl, h, hb⟩
  go_wp2
  go_ret
  exact ⟨rfl, hb⟩
set_option maxHeartbeats 1000000 in
theorem law_Arena (w : World) (b : Int) (B : Nat) (hB : b = B) (c : Int) (C : Nat) (hC : c = C) (h1 : B % 16 = 0) (h2 : B ≤ 4611686018427387904) (h3 : 1024 ≤ C) (h4 : C ≤ 16384)
    (a : Option Addr) (n cp : Nat) (l : List UInt8) (hb : Bs w a n cp l) (hl : l.length ≤ C) :
    Calls Try.prog 59 #[.int .u64 b, .int .i64 c, .slice a n cp] w (MadeAr ⟨B, C, l⟩ w) := by
  have k1 := arena_New_ok w b B hB c C hC h1 h2 h3 h4
  have hn := hb.len
  have hcp := Sl.cap hb; have hr := Sl.room hb
  subst hn
  have hcl : (l.length : Int) ≤ c := by omega
  have K1 := Lib.hid k1; have HB := Lib.hid hb; have HBB := Lib.hid hB
  clear k1 hb hB hC
  go_enter Try.func59, Try.ntmps59
  go_wp2_with fail
  refine K1.out.mono ?_
  rintro e w1 ⟨rfl, hA1, hb1⟩
  have A1 := Lib.hid hA1
  have s1 := hb1.size
  clear hA1
  go_wp2_with fail
  refine (arena_Grow_ok w1 _ _ _ A1.out l.length l.length rfl (by show 0 + l.length ≤ C; omega)).mono ?_
  rintro e w2 ⟨v2, rfl, hA2, k2, g2⟩
  have b2 : Below w.heap.size w w2 := hb1.trans (k2.below hb1.size fun k hk hf => by
    rcases hf with rfl | hf
    · omega
    · cases hf)
  have hl0 : (([] : List UInt8) ++ List.replicate l.length 0).length = l.length := by simp
  have A2 := Lib.hid hA2; have G2 := Lib.hid g2; have HL := Lib.hid hl0
  clear hA2 g2 hl0 k2
  go_wp2_with fail
  refine (arena_Store_ok w2 _ _ _ A2.out b 0 (by simp [HBB.out]) _ _ _ l (HB.out.below b2) (by show 0 + l.length ≤ _; rw [HL.out]; omega)).mono ?_
  rintro e w3 ⟨rfl, hA3, k3⟩
  have ha : lay (([] : List UInt8) ++ List.replicate l.length 0) 0 l = l := by simp [lay]
  simp only at hA3
  rw [ha] at hA3
  have A3 := Lib.hid hA3
  clear hA3 ha
  have hv2 : ∀ g, v2.ownBlock = some g → w.heap.size ≤ g := by
    intro g hg
    rcases G2.out with e | e
    · rw [e] at hg; cases hg
    · rw [e] at hg; cases hg; exact s1
  have HV := Lib.hid hv2
  clear hv2
  go_wp2
  go_ret
  refine ⟨_, v2, rfl, A3.out, fun k hk => ?_, b2.trans (k3.below b2.size fun k hk hf => ?_)⟩
  · rcases hk with rfl | hk
    · exact Nat.le_refl _
    · exact HV.out k hk
  · have := HV.out k hf; omega
end Go.Proofs.Ytjijniillehfoaa
