/- Layer 3's deeds: what they are, and their helpers' contracts. -/
import Derived.Test.YtjijniillehfoaaRAr2
import Derived.Test.YtjijniillehfoaaUp03
import Derived.Test.YtjijniillehfoaaShape
import Derived.Test.YtjijniillehfoaaWf
namespace Go.Own
open Go Go.RowKit
/-- A deed of layer 3. -/
structure De3 where
  what : Int
  addr : Int
  fr : Int
  n : Int
  v : Int
  x : UInt8
  ba : Option Addr
  bn : Nat
  bc : Nat
  b : List UInt8
def De3.cells (d : De3) : List Value := [.int .i64 d.what, .int .u64 d.addr, .int .u64 d.fr, .int .u64 d.n, .int .u64 d.v, .int .u8 (d.x.toNat : Nat), .slice d.ba d.bn d.bc]
structure De3.Ok (w : World) (d : De3) : Prop where
  what : -9223372036854775808 ≤ d.what ∧ d.what ≤ 9223372036854775807
  addr : 0 ≤ d.addr ∧ d.addr ≤ 18446744073709551615
  fr : 0 ≤ d.fr ∧ d.fr ≤ 18446744073709551615
  n : 0 ≤ d.n ∧ d.n ≤ 18446744073709551615
  v : 0 ≤ d.v ∧ d.v ≤ 18446744073709551615
  b : Bs w d.ba d.bn d.bc d.b
abbrev shDe3 : Sh := .cons (.int .i64) (.cons (.int .u64) (.cons (.int .u64) (.cons (.int .u64) (.cons (.int .u64) (.cons (.int .u8) (.cons (.sl (.int .u8)) .nil))))))
theorem rd_deeds3 {w : World} {a : Option Addr} {n c : Nat} (h : Rd w (.sl shDe3) [.slice a n c]) : ∃ ds : List De3, Sl w a n c 7 (ds.map De3.cells).flatten ∧ ds.length = n ∧ ∀ d ∈ ds, d.Ok w := by
  obtain ⟨a', n', c', rows, he, hn, hr, hs⟩ := h
  cases he
  obtain ⟨ds, rfl, hd⟩ := exists_map (f := De3.cells) (p := fun d => d.Ok w) rows fun r hr' => by
    obtain ⟨_, x0, y0, rfl, _, ⟨v0, rfl, w0⟩, x1, y1, rfl, _, ⟨v1, rfl, w1⟩, x2, y2, rfl, _, ⟨v2, rfl, w2⟩, x3, y3, rfl, _, ⟨v3, rfl, w3⟩, x4, y4, rfl, _, ⟨v4, rfl, w4⟩, x5, y5, rfl, _, ⟨v5, rfl, w5⟩, x6, y6, rfl, _, r6, rfl⟩ := hr r hr'
    obtain ⟨ba, bn, bc, rfl, r6⟩ := r6.slice
    obtain ⟨b, hb⟩ := r6.bytes
    have w0 := wfI64 w0; have w1 := wfU64 w1; have w2 := wfU64 w2; have w3 := wfU64 w3; have w4 := wfU64 w4; have w5 := wfU8 w5
    refine ⟨⟨v0, v1, v2, v3, v4, UInt8.ofNat v5.toNat, ba, bn, bc, b⟩, ?_, ⟨w0, w1, w2, w3, w4, hb⟩⟩
    have e : (((UInt8.ofNat v5.toNat).toNat : Nat) : Int) = v5 := by simp; omega
    simp only [De3.cells, e]
    rfl
  exact ⟨ds, hs, by simpa using hn, hd⟩
def atV (what base n : Int) : Int := if what < 0 then base + n % 3000 else n
theorem atV_rng {what base n : Int} (b0 : 0 ≤ base) (b1 : base ≤ 4611686018427387904) (n0 : 0 ≤ n) (n1 : n ≤ 18446744073709551615) : 0 ≤ atV what base n ∧ atV what base n ≤ 18446744073709551615 := by unfold atV; split <;> omega
theorem row_var {P : Program} {w : World} {g : Nat} {t : TypeId} {cs : List Value} {d : TypeDesc} (h : Row w g t cs) (hu : P.underlying t = some d) (hd : (match d with | .struct _ | .array _ _ => true | _ => false) = true) (hi : (P.info? t).map (·.size) = some cs.length) :
    (loadVar t ⟨g, 0, none⟩).run P w = .ok (.agg cs.toArray) w := run_loadVar_row w g t t cs.toArray (0, 0) d h hu hd (by simpa using hi)
end Go.Own
namespace Go.Proofs.Ytjijniillehfoaa
open Go Go.RowKit Go.Own
set_option linter.unusedVariables false
set_option maxRecDepth 100000
theorem code_errV (w : World) (k : Int) (h0 : 0 ≤ k) (h1 : k ≤ 10) : Calls Try.prog 51 #[errV k] w fun e w' => e = .returned (.int .i64 k) ∧ w = w' := by
  unfold errV
  split
  · subst k; exact code_nil w
  · exact code_of w k (by omega) h1
theorem law03_at (w : World) (d : De3) (base n : Int) (b0 : 0 ≤ base) (b1 : base ≤ 4611686018427387904) (n0 : 0 ≤ n) (n1 : n ≤ 18446744073709551615) :
    Calls Try.prog 139 #[.agg d.cells.toArray, .int .u64 base, .int .u64 n] w fun e w' => e = .returned (.int .u64 (atV d.what base n)) ∧ Below w.heap.size w w' := by
  obtain ⟨what, addr, fr, nn, v, x, ba, bn, bc, b⟩ := d
  unfold De3.cells atV
  split
  · rename_i hw
    simp only at hw
    go_enter Try.func139, Try.ntmps139
    go_wp2
    go_ret
    exact ⟨rfl, (Below.refl _ _).alloc (Nat.le_refl _) _⟩
  · rename_i hw
    simp only at hw
    go_enter Try.func139, Try.ntmps139
    go_wp2
    go_ret
    exact ⟨rfl, (Below.refl _ _).alloc (Nat.le_refl _) _⟩
set_option maxHeartbeats 1000000 in
theorem law03_low (w : World) (v : Int) (h0 : 0 ≤ v) (h1 : v ≤ 18446744073709551615) :
    Calls Try.prog 148 #[.int .u64 v] w (OwnBs w (low v.toNat 8)) := by
  go_enter Try.func148, Try.ntmps148
  go_wp2
  obtain ⟨V, rfl⟩ : ∃ V : Nat, v = V := ⟨v.toNat, by omega⟩
  go_loopw [0, 3, 4] (fun v o i wr => ∃ k q : Nat, k ≤ 8 ∧ i = .int .i64 k ∧ v = .int .u64 q ∧ q = V / 256 ^ k ∧ wr.ownsRow w.heap.size 5 1 o k ((low V k).map bv) ∧ Below w.heap.size w wr) (fun _ _ i _ => 8 - (intOf i).toNat)
  case atStart => exact ⟨0, V, by omega, rfl, rfl, by simp, World.ownsRow_nil _ _ _ _, Below.refl _ _⟩
  case round =>
    obtain ⟨k, q, hk, rfl, rfl, hq, hown, hb⟩ := hrel
    by_cases hlt : k < 8
    · have hd : q ≤ V := by rw [hq]; exact Nat.div_le_self _ _
      have hsz := hb.size
      have HQ := Lib.hid hq
      clear hq
      go_wp2_with (at_builtin; go_must (refine app_sl rfl _ _ 31 rfl w.heap.size 5 (.int .u8 0) 1 1 Try.underlying31 info_u8 rfl (by decide) _ k _ rfl (hown.alloc _) _ 1 1 _ rfl (Sl.lit _ _ [_] 1 1 rfl (by decide)) (one1 rfl) (by omega) (by omega) (le_alloc hsz _) ?_; intro v1 w1 hown1 hg1))
      have hb1 := (hb.alloc hsz _).trans hg1
      refine ⟨⟨k + 1, q / 256, by omega, by go_num, by simp, ?_, ownsRow_map hown1 rfl ?_, hb1⟩, by simp [intOf]; omega⟩
      · rw [HQ.out, Nat.div_div_eq_div_mul, Nat.pow_succ]
      · rw [low_snoc, List.map_append, ← HQ.out, List.map_singleton, bv_nat]
    · obtain rfl : k = 8 := by omega
      go_wp2
      go_ret
      exact ⟨_, rfl, ownsRow_map hown (by rw [low_length]) (by simp), hb⟩
theorem ref_MayArena (w : World) (b c : Int) (b0 : 0 ≤ b) (b1 : b ≤ 18446744073709551615) :
    Calls Try.prog 42 #[.int .u64 b, .int .i64 c] w fun e w' => e = .returned (.bool (decide (b % 16 = 0 ∧ b ≤ 4611686018427387904 ∧ 1024 ≤ c ∧ c ≤ 16384))) ∧ w = w' := by
  by_cases h1 : b % 16 = 0
  · have e1 : (b % 16 == 0) = true := by rw [beq_iff_eq]; exact h1
    have H1 := Lib.hid h1
    clear h1
    by_cases h2 : b ≤ 4611686018427387904
    · by_cases h3 : 1024 ≤ c
      · by_cases h4 : c ≤ 16384
        · rw [decide_eq_true ⟨H1.out, h2, h3, h4⟩]
          go_enter Try.func42, Try.ntmps42
          go_wp2
          go_ret
          exact ⟨rB (by simp [h3, h4]), rfl⟩
        · rw [decide_eq_false (fun h => h4 h.2.2.2)]
          go_enter Try.func42, Try.ntmps42
          go_wp2
          go_ret
          exact ⟨rB (by simp [h3, h4]), rfl⟩
      · rw [decide_eq_false (fun h => h3 h.2.2.1)]
        go_enter Try.func42, Try.ntmps42
        go_wp2
        go_ret
        exact ⟨rB (by simp [h3]), rfl⟩
    · rw [decide_eq_false (fun h => h2 h.2.1)]
      go_enter Try.func42, Try.ntmps42
      go_wp2
      go_ret
      exact ⟨rB (by simp [h2]), rfl⟩
  · have e1 : (b % 16 == 0) = false := by rw [beq_eq_false_iff_ne]; exact h1
    rw [decide_eq_false (fun h => h1 h.1)]
    clear h1
    go_enter Try.func42, Try.ntmps42
    go_wp2
    go_ret
    exact ⟨rfl, rfl⟩
theorem Ar.grow_code (A : Ar) (n : Int) : 0 ≤ (A.grow n).1 ∧ (A.grow n).1 ≤ 10 ∧ (A.grow n).2.base = A.base := by
  unfold Ar.grow; split
  · exact ⟨by show (0:Int) ≤ 1; decide, by show (1:Int) ≤ 10; decide, rfl⟩
  · split
    · exact ⟨by show (0:Int) ≤ 5; decide, by show (5:Int) ≤ 10; decide, rfl⟩
    · exact ⟨by show (0:Int) ≤ 0; decide, by show (0:Int) ≤ 10; decide, rfl⟩
theorem Ar.widen_code (A : Ar) (n : Int) : 0 ≤ (A.widen n).1 ∧ (A.widen n).1 ≤ 10 ∧ (A.widen n).2.base = A.base := by
  unfold Ar.widen; split
  · exact ⟨by show (0:Int) ≤ 0; decide, by show (0:Int) ≤ 10; decide, rfl⟩
  · exact ⟨by show (0:Int) ≤ 1; decide, by show (1:Int) ≤ 10; decide, rfl⟩
theorem Ar.load_code (A : Ar) (a n : Int) : 0 ≤ (A.load a n).1 ∧ (A.load a n).1 ≤ 10 := by
  unfold Ar.load; split
  · exact ⟨by show (0:Int) ≤ 0; decide, by show (0:Int) ≤ 10; decide⟩
  · exact ⟨by show (0:Int) ≤ 2; decide, by show (2:Int) ≤ 10; decide⟩
theorem Ar.word_code (A : Ar) (a : Int) : 0 ≤ (A.word a).1 ∧ (A.word a).1 ≤ 10 := by
  unfold Ar.word; split
  · exact ⟨by show (0:Int) ≤ 0; decide, by show (0:Int) ≤ 10; decide⟩
  · exact ⟨by show (0:Int) ≤ 2; decide, by show (2:Int) ≤ 10; decide⟩
theorem Ar.store_code (A : Ar) (a : Int) (b : List UInt8) : 0 ≤ (A.store a b).1 ∧ (A.store a b).1 ≤ 10 ∧ (A.store a b).2.base = A.base := by
  unfold Ar.store; split
  · exact ⟨by show (0:Int) ≤ 0; decide, by show (0:Int) ≤ 10; decide, rfl⟩
  · exact ⟨by show (0:Int) ≤ 2; decide, by show (2:Int) ≤ 10; decide, rfl⟩
theorem Ar.copy_code (A : Ar) (a b n : Int) : 0 ≤ (A.copy a b n).1 ∧ (A.copy a b n).1 ≤ 10 ∧ (A.copy a b n).2.base = A.base := by
  unfold Ar.copy; split
  · exact ⟨by show (0:Int) ≤ 0; decide, by show (0:Int) ≤ 10; decide, rfl⟩
  · exact ⟨by show (0:Int) ≤ 2; decide, by show (2:Int) ≤ 10; decide, rfl⟩
theorem Ar.fill_code (A : Ar) (a n : Int) (x : UInt8) : 0 ≤ (A.fill a n x).1 ∧ (A.fill a n x).1 ≤ 10 ∧ (A.fill a n x).2.base = A.base := by
  unfold Ar.fill; split
  · exact ⟨by show (0:Int) ≤ 0; decide, by show (0:Int) ≤ 10; decide, rfl⟩
  · exact ⟨by show (0:Int) ≤ 2; decide, by show (2:Int) ≤ 10; decide, rfl⟩
/-- A slice of what came in lies in no arena. -/
theorem arg_apart {B : Nat} {w0 w : World} {l : List Ob} {i p : Nat} {A : Ar} (h : St B w0 w l) (hi : l[i]? = some (RaT p A)) {a : Option Addr} {b : List UInt8} (hb : ∀ q, a = some q → 0 < b.length → q.block < B) :
    ∀ v q, ArR w p A v → a = some q → 0 < b.length → ¬ v.ownBlock = some q.block := by
  obtain ⟨F, ⟨v0, g1, g2, _⟩, _, f3, _⟩ := h.at hi
  intro v q hv hq h0 he
  have : v = v0 := by
    have r1 := hv.row.cell 2; have r2 := g1.row.cell 2
    rw [r1] at r2; simpa using r2
  subst this
  have := f3 rfl _ (g2 _ (.inr he))
  have := hb q hq h0
  omega
theorem own_apart {B : Nat} {w0 w : World} {l : List Ob} {i p n c : Nat} {A : Ar} {a : Option Addr} {b : List UInt8} (h : St B w0 w (BsO a n c b :: l)) (hi : l[i]? = some (RaT p A)) :
    ∀ v q, ArR w p A v → a = some q → 0 < b.length → ¬ v.ownBlock = some q.block := by
  obtain ⟨F, G, f1, g1, hfg⟩ := h.two (i := 0) (j := i + 1) rfl (by rw [List.getElem?_cons_succ]; exact hi) (by omega)
  obtain ⟨v0, g1, g2, _⟩ := g1
  intro v q hv hq h0 he
  have : v = v0 := by
    have r1 := hv.row.cell 2; have r2 := g1.row.cell 2
    rw [r1] at r2; simpa using r2
  subst this
  exact hfg _ (f1.2.1 q hq h0) (g2 _ (.inr he))
end Go.Proofs.Ytjijniillehfoaa
