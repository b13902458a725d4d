/- Texts of the proof of 'BlockBack', part 3: words on memory, contracts of functions, plain laws. No condition. -/
import Derived.Test.YtjijniillehfoaaMgBlockBack2
import Derived.Deep.MidRow
import Derived.ProofKit
import Derived.OpenShut
/- The example of layer 3's statements. -/
namespace Go.Proofs.Ytjijniillehfoaa
open Go Go.RowKit Go.Own
set_option linter.unusedVariables false
theorem low258 : low 258 8 = [2, 1, 0, 0, 0, 0, 0, 0] := by decide
set_option maxHeartbeats 1000000 in
theorem up03 (w : World) : Calls Try.prog 40 #[] w fun e w' => e = .returned (.bool true) ∧ Below w.heap.size w w' := by
  go_enter Try.func40, Try.ntmps40
  go_wp2_with fail
  refine (arena_New_ok w 32 32 rfl 1024 1024 rfl (by decide) (by decide) (by decide) (by decide)).mono ?_
  rintro e w1 ⟨rfl, A1, b1⟩
  have s1 := b1.size
  go_wp2_with fail
  refine (arena_Grow_ok w1 _ _ _ A1 8 8 rfl (by decide)).mono ?_
  rintro e w2 ⟨v2, rfl, A2, k2, g2⟩
  have b2 : Below w.heap.size w w2 := b1.trans (k2.below s1 fun k hk hf => by
    rcases hf with rfl | hf
    · omega
    · cases hf)
  have hv2 : ∀ g, v2.ownBlock = some g → w.heap.size ≤ g := by
    intro g hg
    rcases g2 with e | e
    · rw [e] at hg; cases hg
    · rw [e] at hg; cases hg; exact s1
  have A2' := Lib.hid A2; have B2 := Lib.hid b2; have V2 := Lib.hid hv2
  clear A1 A2 b1 k2 g2 b2 hv2
  go_wp2_with fail
  refine (arena_SetWord_ok w2 _ _ _ A2'.out 32 0 rfl 258 258 rfl (by decide) (by decide)).mono ?_
  rintro e w3 ⟨rfl, A3, k3⟩
  have hb3 : lay (([] : List UInt8) ++ List.replicate 8 0) 0 (low 258 8) = [2, 1, 0, 0, 0, 0, 0, 0] := by decide
  simp only at A3
  rw [hb3] at A3
  have b3 := B2.out.trans (k3.below B2.out.size fun k hk hf => by have := V2.out k hf; omega)
  have A3' := Lib.hid A3; have B3 := Lib.hid b3
  clear A3 b3 k3 hb3 A2' B2
  go_wp2_with fail
  refine (arena_Load_ok w3 _ _ _ A3'.out 32 0 rfl 2 2 rfl (by decide)).mono ?_
  rintro e w4 ⟨v4, rfl, o4, b4⟩
  obtain ⟨a4, c4, rfl, _, hB4⟩ := Sl.of_owned o4
  have hB4 : Bs w4 a4 2 c4 [2, 1] := hB4
  have A4' := Lib.hid (A3'.out.below b4)
  have B4 := Lib.hid (B3.out.trans (b4.mono B3.out.size))
  clear o4 A3' B3 b4
  go_wp2_with fail
  refine (arena_Load_bad w4 _ _ _ A4'.out 33 8 (by decide) (by decide) (by decide) (by decide) (by decide)).mono ?_
  rintro e w5 ⟨rfl, b5⟩
  have hB5 := hB4.below b5
  have B5 := Lib.hid (B4.out.trans (b5.mono B4.out.size))
  have hs := run_s w5 hB5
  have hs2 := run_s (w5.alloc (.cells #[.int .u8 2, .int .u8 1] 5 (0, 0))) (show Bs _ (some ⟨w5.heap.size, 0, none⟩) 2 2 [2, 1] from Sl.lit w5 5 [.int .u8 2, .int .u8 1] 2 1 rfl (by decide))
  clear hB4 hB5 A4' B4 b5
  go_wp2_with fail
  refine (code_of _ 2 (by decide) (by decide)).mono ?_
  rintro e w' ⟨rfl, rfl⟩
  go_wp2_with fail
  refine (arena_New_bad _ 8 1024 (by decide) (by decide) (by decide)).mono ?_
  rintro e w' ⟨rfl, rfl⟩
  go_wp2
  go_ret
  exact ⟨rfl, B5.out.alloc B5.out.size _⟩
theorem bs_own {w w' : World} {n : Nat} {l : List UInt8} {v : Value} {B : Nat} (h : w.ownsRow B 5 1 v n (l.map bv)) : ∃ a c, v = .slice a n c ∧ (∀ p, a = some p → B ≤ p.block) ∧ Bs w a n c l := Sl.of_owned h
def lawOk (w : World) (e : Ending) (w' : World) : Prop := e = .returned (.bool true) ∧ Below w.heap.size w w'
end Go.Proofs.Ytjijniillehfoaa

/- Layer 3's deeds: what they are, and their helpers' contracts. -/
namespace Go.Own
open Go Go.RowKit
/-- A deed of layer 3. -/
structure De3 where
  what : Int
  addr : Int
  fr : Int
  n : Int
  v : Int
  x : UInt8
  ba : Option Addr
  bn : Nat
  bc : Nat
  b : List UInt8
def De3.cells (d : De3) : List Value := [.int .i64 d.what, .int .u64 d.addr, .int .u64 d.fr, .int .u64 d.n, .int .u64 d.v, .int .u8 (d.x.toNat : Nat), .slice d.ba d.bn d.bc]
structure De3.Ok (w : World) (d : De3) : Prop where
  what : -9223372036854775808 ≤ d.what ∧ d.what ≤ 9223372036854775807
  addr : 0 ≤ d.addr ∧ d.addr ≤ 18446744073709551615
  fr : 0 ≤ d.fr ∧ d.fr ≤ 18446744073709551615
  n : 0 ≤ d.n ∧ d.n ≤ 18446744073709551615
  v : 0 ≤ d.v ∧ d.v ≤ 18446744073709551615
  b : Bs w d.ba d.bn d.bc d.b
abbrev shDe3 : Sh := .cons (.int .i64) (.cons (.int .u64) (.cons (.int .u64) (.cons (.int .u64) (.cons (.int .u64) (.cons (.int .u8) (.cons (.sl (.int .u8)) .nil))))))
theorem rd_deeds3 {w : World} {a : Option Addr} {n c : Nat} (h : Rd w (.sl shDe3) [.slice a n c]) : ∃ ds : List De3, Sl w a n c 7 (ds.map De3.cells).flatten ∧ ds.length = n ∧ ∀ d ∈ ds, d.Ok w := by
  obtain ⟨a', n', c', rows, he, hn, hr, hs⟩ := h
  cases he
  obtain ⟨ds, rfl, hd⟩ := exists_map (f := De3.cells) (p := fun d => d.Ok w) rows fun r hr' => by
    obtain ⟨_, x0, y0, rfl, _, ⟨v0, rfl, w0⟩, x1, y1, rfl, _, ⟨v1, rfl, w1⟩, x2, y2, rfl, _, ⟨v2, rfl, w2⟩, x3, y3, rfl, _, ⟨v3, rfl, w3⟩, x4, y4, rfl, _, ⟨v4, rfl, w4⟩, x5, y5, rfl, _, ⟨v5, rfl, w5⟩, x6, y6, rfl, _, r6, rfl⟩ := hr r hr'
    obtain ⟨ba, bn, bc, rfl, r6⟩ := r6.slice
    obtain ⟨b, hb⟩ := r6.bytes
    have w0 := wfI64 w0; have w1 := wfU64 w1; have w2 := wfU64 w2; have w3 := wfU64 w3; have w4 := wfU64 w4; have w5 := wfU8 w5
    refine ⟨⟨v0, v1, v2, v3, v4, UInt8.ofNat v5.toNat, ba, bn, bc, b⟩, ?_, ⟨w0, w1, w2, w3, w4, hb⟩⟩
    have e : (((UInt8.ofNat v5.toNat).toNat : Nat) : Int) = v5 := by simp; omega
    simp only [De3.cells, e]
    rfl
  exact ⟨ds, hs, by simpa using hn, hd⟩
def atV (what base n : Int) : Int := if what < 0 then base + n % 3000 else n
theorem atV_rng {what base n : Int} (b0 : 0 ≤ base) (b1 : base ≤ 4611686018427387904) (n0 : 0 ≤ n) (n1 : n ≤ 18446744073709551615) : 0 ≤ atV what base n ∧ atV what base n ≤ 18446744073709551615 := by unfold atV; split <;> omega
theorem row_var {P : Program} {w : World} {g : Nat} {t : TypeId} {cs : List Value} {d : TypeDesc} (h : Row w g t cs) (hu : P.underlying t = some d) (hd : (match d with | .struct _ | .array _ _ => true | _ => false) = true) (hi : (P.info? t).map (·.size) = some cs.length) :
    (loadVar t ⟨g, 0, none⟩).run P w = .ok (.agg cs.toArray) w := run_loadVar_row w g t t cs.toArray (0, 0) d h hu hd (by simpa using hi)
end Go.Own
namespace Go.Proofs.Ytjijniillehfoaa
open Go Go.RowKit Go.Own
set_option linter.unusedVariables false
set_option maxRecDepth 100000
theorem code_errV (w : World) (k : Int) (h0 : 0 ≤ k) (h1 : k ≤ 10) : Calls Try.prog 51 #[errV k] w fun e w' => e = .returned (.int .i64 k) ∧ w = w' := by
  unfold errV
  split
  · subst k; exact code_nil w
  · exact code_of w k (by omega) h1
theorem law03_at (w : World) (d : De3) (base n : Int) (b0 : 0 ≤ base) (b1 : base ≤ 4611686018427387904) (n0 : 0 ≤ n) (n1 : n ≤ 18446744073709551615) :
    Calls Try.prog 139 #[.agg d.cells.toArray, .int .u64 base, .int .u64 n] w fun e w' => e = .returned (.int .u64 (atV d.what base n)) ∧ Below w.heap.size w w' := by
  obtain ⟨what, addr, fr, nn, v, x, ba, bn, bc, b⟩ := d
  unfold De3.cells atV
  split
  · rename_i hw
    simp only at hw
    go_enter Try.func139, Try.ntmps139
    go_wp2
    go_ret
    exact ⟨rfl, (Below.refl _ _).alloc (Nat.le_refl _) _⟩
  · rename_i hw
    simp only at hw
    go_enter Try.func139, Try.ntmps139
    go_wp2
    go_ret
    exact ⟨rfl, (Below.refl _ _).alloc (Nat.le_refl _) _⟩
set_option maxHeartbeats 1000000 in
theorem law03_low (w : World) (v : Int) (h0 : 0 ≤ v) (h1 : v ≤ 18446744073709551615) :
    Calls Try.prog 148 #[.int .u64 v] w (OwnBs w (low v.toNat 8)) := by
  go_enter Try.func148, Try.ntmps148
  go_wp2
  obtain ⟨V, rfl⟩ : ∃ V : Nat, v = V := ⟨v.toNat, by omega⟩
  go_loopw [0, 3, 4] (fun v o i wr => ∃ k q : Nat, k ≤ 8 ∧ i = .int .i64 k ∧ v = .int .u64 q ∧ q = V / 256 ^ k ∧ wr.ownsRow w.heap.size 5 1 o k ((low V k).map bv) ∧ Below w.heap.size w wr) (fun _ _ i _ => 8 - (intOf i).toNat)
  case atStart => exact ⟨0, V, by omega, rfl, rfl, by simp, World.ownsRow_nil _ _ _ _, Below.refl _ _⟩
  case round =>
    obtain ⟨k, q, hk, rfl, rfl, hq, hown, hb⟩ := hrel
    by_cases hlt : k < 8
    · have hd : q ≤ V := by rw [hq]; exact Nat.div_le_self _ _
      have hsz := hb.size
      have HQ := Lib.hid hq
      clear hq
      go_wp2_with (at_builtin; go_must (refine app_sl rfl _ _ 31 rfl w.heap.size 5 (.int .u8 0) 1 1 Try.underlying31 info_u8 rfl (by decide) _ k _ rfl (hown.alloc _) _ 1 1 _ rfl (Sl.lit _ _ [_] 1 1 rfl (by decide)) (one1 rfl) (by omega) (by omega) (le_alloc hsz _) ?_; intro v1 w1 hown1 hg1))
      have hb1 := (hb.alloc hsz _).trans hg1
      refine ⟨⟨k + 1, q / 256, by omega, by go_num, by simp, ?_, ownsRow_map hown1 rfl ?_, hb1⟩, by simp [intOf]; omega⟩
      · rw [HQ.out, Nat.div_div_eq_div_mul, Nat.pow_succ]
      · rw [low_snoc, List.map_append, ← HQ.out, List.map_singleton, bv_nat]
    · obtain rfl : k = 8 := by omega
      go_wp2
      go_ret
      exact ⟨_, rfl, ownsRow_map hown (by rw [low_length]) (by simp), hb⟩
theorem ref_MayArena (w : World) (b c : Int) (b0 : 0 ≤ b) (b1 : b ≤ 18446744073709551615) :
    Calls Try.prog 42 #[.int .u64 b, .int .i64 c] w fun e w' => e = .returned (.bool (decide (b % 16 = 0 ∧ b ≤ 4611686018427387904 ∧ 1024 ≤ c ∧ c ≤ 16384))) ∧ w = w' := by
  by_cases h1 : b % 16 = 0
  · have e1 : (b % 16 == 0) = true := by rw [beq_iff_eq]; exact h1
    have H1 := Lib.hid h1
    clear h1
    by_cases h2 : b ≤ 4611686018427387904
    · by_cases h3 : 1024 ≤ c
      · by_cases h4 : c ≤ 16384
        · rw [decide_eq_true ⟨H1.out, h2, h3, h4⟩]
          go_enter Try.func42, Try.ntmps42
          go_wp2
          go_ret
          exact ⟨rB (by simp [h3, h4]), rfl⟩
        · rw [decide_eq_false (fun h => h4 h.2.2.2)]
          go_enter Try.func42, Try.ntmps42
          go_wp2
          go_ret
          exact ⟨rB (by simp [h3, h4]), rfl⟩
      · rw [decide_eq_false (fun h => h3 h.2.2.1)]
        go_enter Try.func42, Try.ntmps42
        go_wp2
        go_ret
        exact ⟨rB (by simp [h3]), rfl⟩
    · rw [decide_eq_false (fun h => h2 h.2.1)]
      go_enter Try.func42, Try.ntmps42
      go_wp2
      go_ret
      exact ⟨rB (by simp [h2]), rfl⟩
  · have e1 : (b % 16 == 0) = false := by rw [beq_eq_false_iff_ne]; exact h1
    rw [decide_eq_false (fun h => h1 h.1)]
    clear h1
    go_enter Try.func42, Try.ntmps42
    go_wp2
    go_ret
    exact ⟨rfl, rfl⟩
theorem Ar.grow_code (A : Ar) (n : Int) : 0 ≤ (A.grow n).1 ∧ (A.grow n).1 ≤ 10 ∧ (A.grow n).2.base = A.base := by
  unfold Ar.grow; split
  · exact ⟨by show (0:Int) ≤ 1; decide, by show (1:Int) ≤ 10; decide, rfl⟩
  · split
    · exact ⟨by show (0:Int) ≤ 5; decide, by show (5:Int) ≤ 10; decide, rfl⟩
    · exact ⟨by show (0:Int) ≤ 0; decide, by show (0:Int) ≤ 10; decide, rfl⟩
theorem Ar.widen_code (A : Ar) (n : Int) : 0 ≤ (A.widen n).1 ∧ (A.widen n).1 ≤ 10 ∧ (A.widen n).2.base = A.base := by
  unfold Ar.widen; split
  · exact ⟨by show (0:Int) ≤ 0; decide, by show (0:Int) ≤ 10; decide, rfl⟩
  · exact ⟨by show (0:Int) ≤ 1; decide, by show (1:Int) ≤ 10; decide, rfl⟩
theorem Ar.load_code (A : Ar) (a n : Int) : 0 ≤ (A.load a n).1 ∧ (A.load a n).1 ≤ 10 := by
  unfold Ar.load; split
  · exact ⟨by show (0:Int) ≤ 0; decide, by show (0:Int) ≤ 10; decide⟩
  · exact ⟨by show (0:Int) ≤ 2; decide, by show (2:Int) ≤ 10; decide⟩
theorem Ar.word_code (A : Ar) (a : Int) : 0 ≤ (A.word a).1 ∧ (A.word a).1 ≤ 10 := by
  unfold Ar.word; split
  · exact ⟨by show (0:Int) ≤ 0; decide, by show (0:Int) ≤ 10; decide⟩
  · exact ⟨by show (0:Int) ≤ 2; decide, by show (2:Int) ≤ 10; decide⟩
theorem Ar.store_code (A : Ar) (a : Int) (b : List UInt8) : 0 ≤ (A.store a b).1 ∧ (A.store a b).1 ≤ 10 ∧ (A.store a b).2.base = A.base := by
  unfold Ar.store; split
  · exact ⟨by show (0:Int) ≤ 0; decide, by show (0:Int) ≤ 10; decide, rfl⟩
  · exact ⟨by show (0:Int) ≤ 2; decide, by show (2:Int) ≤ 10; decide, rfl⟩
theorem Ar.copy_code (A : Ar) (a b n : Int) : 0 ≤ (A.copy a b n).1 ∧ (A.copy a b n).1 ≤ 10 ∧ (A.copy a b n).2.base = A.base := by
  unfold Ar.copy; split
  · exact ⟨by show (0:Int) ≤ 0; decide, by show (0:Int) ≤ 10; decide, rfl⟩
  · exact ⟨by show (0:Int) ≤ 2; decide, by show (2:Int) ≤ 10; decide, rfl⟩
theorem Ar.fill_code (A : Ar) (a n : Int) (x : UInt8) : 0 ≤ (A.fill a n x).1 ∧ (A.fill a n x).1 ≤ 10 ∧ (A.fill a n x).2.base = A.base := by
  unfold Ar.fill; split
  · exact ⟨by show (0:Int) ≤ 0; decide, by show (0:Int) ≤ 10; decide, rfl⟩
  · exact ⟨by show (0:Int) ≤ 2; decide, by show (2:Int) ≤ 10; decide, rfl⟩
/-- A slice of what came in lies in no arena. -/
theorem arg_apart {B : Nat} {w0 w : World} {l : List Ob} {i p : Nat} {A : Ar} (h : St B w0 w l) (hi : l[i]? = some (RaT p A)) {a : Option Addr} {b : List UInt8} (hb : ∀ q, a = some q → 0 < b.length → q.block < B) :
    ∀ v q, ArR w p A v → a = some q → 0 < b.length → ¬ v.ownBlock = some q.block := by
  obtain ⟨F, ⟨v0, g1, g2, _⟩, _, f3, _⟩ := h.at hi
  intro v q hv hq h0 he
  have : v = v0 := by
    have r1 := hv.row.cell 2; have r2 := g1.row.cell 2
    rw [r1] at r2; simpa using r2
  subst this
  have := f3 rfl _ (g2 _ (.inr he))
  have := hb q hq h0
  omega
theorem own_apart {B : Nat} {w0 w : World} {l : List Ob} {i p n c : Nat} {A : Ar} {a : Option Addr} {b : List UInt8} (h : St B w0 w (BsO a n c b :: l)) (hi : l[i]? = some (RaT p A)) :
    ∀ v q, ArR w p A v → a = some q → 0 < b.length → ¬ v.ownBlock = some q.block := by
  obtain ⟨F, G, f1, g1, hfg⟩ := h.two (i := 0) (j := i + 1) rfl (by rw [List.getElem?_cons_succ]; exact hi) (by omega)
  obtain ⟨v0, g1, g2, _⟩ := g1
  intro v q hv hq h0 he
  have : v = v0 := by
    have r1 := hv.row.cell 2; have r2 := g1.row.cell 2
    rw [r1] at r2; simpa using r2
  subst this
  exact hfg _ (f1.2.1 q hq h0) (g2 _ (.inr he))
end Go.Proofs.Ytjijniillehfoaa

/- The example of layer 7's statements. -/
namespace Go.Own
theorem walkB_one {b : List UInt8} {x : Blk} (h : blkAt b 184 = some x) (hl : b.length = 184 + x.size) : walkB b = some [x] := by
  obtain ⟨x1, x2, x3, x4, x5, x6, x7, _⟩ := blkAt_some h
  unfold walkB
  rw [if_neg (by omega)]
  obtain ⟨f, hf⟩ : ∃ f, b.length = f + 1 := ⟨b.length - 1, by omega⟩
  rw [hf, walkFrom_step (by omega), h]
  simp only
  rw [walkFrom_end (by omega)]
  rfl
end Go.Own
namespace Go.Proofs.Ytjijniillehfoaa
open Go Go.RowKit Go.Own
set_option linter.unusedVariables false
set_option maxRecDepth 100000
set_option maxHeartbeats 4000000 in
theorem up07 (w : World) : Calls Try.prog 58 #[] w fun e w' => e = .returned (.bool true) ∧ Below w.heap.size w w' := by
  have T0 := Lib.hid (St.start w)
  obtain ⟨g, W, hmk, t1⟩ := mk_st T0.out (248 : Int) 248 rfl (by decide)
  have hz : (List.replicate 248 (0 : UInt8)).length = 248 := List.length_replicate ..
  generalize List.replicate 248 (0 : UInt8) = z at *
  obtain ⟨x, hx⟩ : ∃ x : Blk, x = ⟨184, 64, true⟩ := ⟨_, rfl⟩
  obtain ⟨y, hy⟩ : ∃ y, y = setB z x := ⟨_, rfl⟩
  have hyl : y.length = 248 := by rw [hy, setB_length z x (by rw [hx]; decide) (by rw [hx, hz]; decide), hz]
  have h1 : setI z 184 64 true = some y := by
    unfold setI
    rw [if_pos ⟨by decide, couldB_iff.2 (by rw [hz]; decide)⟩, hy, hx]; rfl
  have h2 : blkAt y 184 = some x := by
    rw [hy, hx]; exact blkAt_setB (by decide) (by decide) (by decide) (by rw [hz]; decide)
  have h3 : blkI y 184 = some x := h2
  have h4 : walkB y = some [x] := walkB_one h2 (by rw [hyl, hx]; rfl)
  have h5 : aheadI y 248 = some x := by
    have := aheadB_of h2
    rw [hx] at this ⊢
    exact this
  have h6 : setI y 184 80 false = none := by
    unfold setI
    rw [if_neg (fun h => by have := couldB_iff.1 h.2; omega)]
  have H1 := Lib.hid h1; have H3 := Lib.hid h3; have H4 := Lib.hid h4; have H5 := Lib.hid h5; have H6 := Lib.hid h6; have HX := Lib.hid hx; have HZ := Lib.hid hz; have T1 := Lib.hid t1
  clear h1 h2 h3 h4 h5 h6 hx hy hz hyl t1
  go_enter Try.func58, Try.ntmps58
  go_wp2_with fail
  have kc := ar_Arena T1.out 16 16 rfl 1024 1024 rfl (by decide) (by decide) (by decide) (by decide) (some ⟨g, 0, none⟩) 248 248 z (T1.out.bsV (i := 0) rfl) (by rw [HZ.out]; decide)
  with_reducible refine kc.mono ?_
  clear kc
  rintro e w2 ⟨q, rfl, t2⟩
  have T2 := Lib.hid (show St w.heap.size w w2 (ArT q ⟨16, 1024, z⟩ :: []) from t2.sub (List.Sublist.cons_cons _ (List.sublist_cons_self ..)))
  clear t2
  go_wp2_with fail
  have kc := blk_Set T2.out (i := 0) rfl 184 64 true
  rw [H1.out, show errS (some y) = .nilIface from rfl] at kc
  with_reducible refine kc.mono ?_
  clear kc
  rintro e w3 ⟨rfl, t3⟩
  have T3 := Lib.hid (show St w.heap.size w w3 (ArT q ⟨16, 1024, y⟩ :: []) from t3)
  clear t3
  go_wp2_with fail
  have kc := blk_Get T3.out (i := 0) rfl 184
  rw [show ({ base := 16, cap := 1024, b := y } : Ar).b = y from rfl, H3.out, HX.out, show bkV (some ⟨184, 64, true⟩) = .agg #[.int .i64 184, .int .i64 64, .bool true] from rfl, show errO (some ⟨184, 64, true⟩) = .nilIface from rfl] at kc
  with_reducible refine kc.mono ?_
  clear kc
  rintro e w4 ⟨rfl, t4⟩
  have T4 := Lib.hid t4
  clear t4
  go_wp2_with (first | (refine bk_alloc T4.out rfl rfl ?_; intro g5 w5 h5; have T5 := Lib.hid h5; clear h5) | (refine bk_store T5.out 0 rfl rfl _ _ rfl rfl 184 64 true rfl ?_; intro w6 h6; have T6 := Lib.hid h6; clear h6 T5))
  have kc := blk_Walk T6.out (i := 1) rfl
  rw [show ({ base := 16, cap := 1024, b := y } : Ar).b = y from rfl, H4.out, show errW (some [x]) = .nilIface from rfl] at kc
  with_reducible refine kc.mono ?_
  clear kc
  rintro e w7 ⟨v7, rfl, t7⟩
  have t7 : St w.heap.size w w7 (BlsO v7 [x] :: BkO g5 184 64 true :: ArT q ⟨16, 1024, y⟩ :: []) := t7
  obtain ⟨a7, c7, e7, _⟩ := Sl.of_owned (t7.own (i := 0) rfl)
  subst e7
  have T7 := Lib.hid t7.tail
  clear t7
  go_wp2_with fail
  have kc := blk_Ahead T7.out (i := 1) rfl 248
  rw [show ({ base := 16, cap := 1024, b := y } : Ar).b = y from rfl, H5.out, HX.out, show bkV (some ⟨184, 64, true⟩) = .agg #[.int .i64 184, .int .i64 64, .bool true] from rfl, show errO (some ⟨184, 64, true⟩) = .nilIface from rfl] at kc
  with_reducible refine kc.mono ?_
  clear kc
  rintro e w8 ⟨rfl, t8⟩
  have T8 := Lib.hid t8
  clear t8
  go_wp2_with (first | (refine bk_alloc T8.out rfl rfl ?_; intro g9 w9 h9; have T9 := Lib.hid h9; clear h9) | (refine bk_store T9.out 0 rfl rfl _ _ rfl rfl 184 64 true rfl ?_; intro wa ha; have TA := Lib.hid ha; clear ha T9; have k00 : wa.cell? ⟨g9, 0, none⟩ = some (.int .i64 184) := (TA.out.row (i := 0) rfl).cell 0; have k01 : wa.cell? ⟨g9, 1, none⟩ = some (.int .i64 64) := (TA.out.row (i := 0) rfl).cell 1; have k02 : wa.cell? ⟨g9, 2, none⟩ = some (.bool true) := (TA.out.row (i := 0) rfl).cell 2; have k10 : wa.cell? ⟨g5, 0, none⟩ = some (.int .i64 184) := (TA.out.row (i := 1) rfl).cell 0; have k11 : wa.cell? ⟨g5, 1, none⟩ = some (.int .i64 64) := (TA.out.row (i := 1) rfl).cell 1; have k12 : wa.cell? ⟨g5, 2, none⟩ = some (.bool true) := (TA.out.row (i := 1) rfl).cell 2))
  have kc := blk_Set TA.out (i := 2) rfl 184 80 false
  rw [show ({ base := 16, cap := 1024, b := y } : Ar).b = y from rfl, H6.out, show errS none = .iface 183 (.int .i64 1) from rfl] at kc
  with_reducible refine kc.mono ?_
  clear kc
  rintro e wb ⟨rfl, tb⟩
  have BB := Lib.hid tb.end
  clear tb
  go_wp2_with fail
  have kc := code_of wb 1 (by decide) (by decide)
  with_reducible refine kc.mono ?_
  clear kc
  rintro e w' ⟨rfl, rfl⟩
  go_wp2
  go_ret
  exact ⟨rfl, BB.out⟩
end Go.Proofs.Ytjijniillehfoaa

/- Layer 7: the program and the reference tell the same of blocks. -/
namespace Go.Own
open Go Go.RowKit
theorem Rd.blk {w : World} {cs : List Value} (h : Rd w (.cons (.int .i64) (.cons (.int .i64) (.cons .bool .nil))) cs) : ∃ (o s : Int) (u : Bool), cs = [.int .i64 o, .int .i64 s, .bool u] ∧ (Lit.int .i64 o).wf = true ∧ (Lit.int .i64 s).wf = true := by
  obtain ⟨x, y, rfl, _, ⟨o, rfl, h1⟩, x2, y2, rfl, _, ⟨s, rfl, h2⟩, x3, y3, rfl, _, ⟨u, rfl⟩, h3⟩ := h
  have h3 : y3 = [] := h3
  subst h3
  exact ⟨o, s, u, rfl, h1, h2⟩
end Go.Own
namespace Go.Proofs.Ytjijniillehfoaa
open Go Go.RowKit Go.Own
set_option linter.unusedVariables false
set_option maxRecDepth 100000
/-- A block's numbers, also of none. -/
def bO (x : Option Blk) : Int := match x with | none => 0 | some x => x.off
def bS (x : Option Blk) : Int := match x with | none => 0 | some x => x.size
def bU (x : Option Blk) : Bool := match x with | none => false | some x => x.used
theorem bkV_eq (x : Option Blk) : bkV x = .agg #[.int .i64 (bO x), .int .i64 (bS x), .bool (bU x)] := by cases x <;> rfl
theorem bs_lowB {w : World} {a : Option Addr} {n c : Nat} {b : List UInt8} (h : Bs w a n c b) : ∀ q, a = some q → 0 < b.length → q.block < w.heap.size := by
  intro q hq h0
  obtain ⟨b', o, e, hc⟩ := h.at 0 h0
  rw [hq] at e; cases e
  exact World.block_lt_of_cell? w _ hc
set_option maxHeartbeats 8000000 in
theorem blockTells (w : World) (bs : Int) (a : Option Addr) (n c : Nat) (b : List UInt8) (o : Int) (cs : Array Value) (hbs : (Lit.int .u64 bs).wf = true) (hb : Bs w a n c b) (ho : (Lit.int .i64 o).wf = true)
    (hr : Rd w (.cons (.int .i64) (.cons (.int .i64) (.cons .bool .nil))) cs.toList) :
    Calls Try.prog 9 #[.int .u64 bs, .slice a n c, .int .i64 o, .agg cs] w (lawOk w) := by
  obtain ⟨xo, xs, xu, hcs, hxo, hxs⟩ := hr.blk
  obtain rfl : cs = #[.int .i64 xo, .int .i64 xs, .bool xu] := by rw [← Array.toArray_toList (xs := cs), hcs]
  obtain ⟨o0, o1⟩ := wfI64 ho
  have hn := hb.len
  subst hn
  have p1 := Sl.cap hb; have r1 := Sl.room hb
  have HB := Lib.hid hb
  clear hr hcs hb
  go_enter Try.func9, Try.ntmps9
  go_wp2_with fail
  have h1 := (St.start w).addRow 77 [.int .i64 xo, .int .i64 xs, .bool xu]
  generalize w.alloc (Obj.cells #[Value.int IntKind.i64 xo, Value.int IntKind.i64 xs, Value.bool xu] 77 (0, 0)) = w1 at h1 ⊢
  obtain ⟨g, hg⟩ : ∃ g, g = w.heap.size := ⟨_, rfl⟩
  have h1 : St w.heap.size w w1 (BkO g xo xs xu :: []) := by rw [hg]; exact h1
  rw [← hg]
  have HG := Lib.hid hg
  have H1 := Lib.hid h1
  clear h1 hg
  refine (up07 w1).mono ?_
  rintro e w2 ⟨rfl, bw2⟩
  have T2 := Lib.hid (H1.out.below bw2)
  clear bw2 H1
  by_cases hl : b.length > 16384
  · have B2 := Lib.hid T2.out.end
    go_wp2
    go_ret
    exact ⟨rfl, B2.out⟩
  obtain ⟨b0, b1⟩ := wfU64 hbs
  go_wp2_with fail
  refine (law_Base w2 bs b0 b1).mono ?_
  rintro e w' ⟨rfl, rfl⟩
  obtain ⟨bn, hbn⟩ : ∃ bn : Nat, bs % 288230376151711744 * 16 = bn := ⟨(bs % 288230376151711744 * 16).toNat, by omega⟩
  have hb16 : bn % 16 = 0 := by omega
  have hb62 : bn ≤ 4611686018427387904 := by omega
  rw [hbn]
  clear hbn
  go_wp2_with fail
  have kc := ar_Arena T2.out (bn : Int) bn rfl 16384 16384 rfl hb16 hb62 (by decide) (by decide) a _ c b (T2.out.bs HB.out (bs_lowB HB.out)) (by omega)
  with_reducible refine kc.mono ?_
  clear kc
  rintro e w3 ⟨q, rfl, t3⟩
  have T3 := Lib.hid t3
  have HRD : Hid (∀ w' l, St w.heap.size w w' l → Bs w' a b.length c b) := Lib.hid fun w' l h => h.bs HB.out (bs_lowB HB.out)
  clear t3 T2
  obtain ⟨X, hX⟩ : ∃ X, X = blkI b o := ⟨_, rfl⟩
  obtain ⟨Y, hY⟩ : ∃ Y, Y = aheadI b o := ⟨_, rfl⟩
  obtain ⟨Z, hZ⟩ : ∃ Z, Z = walkB b := ⟨_, rfl⟩
  have HX := Lib.hid hX; have HY := Lib.hid hY; have HZ := Lib.hid hZ
  have hsm4 : b.length ≤ 16384 := by omega
  clear hX hY hZ
  go_wp2_with fail
  have kc := blk_Get T3.out (i := 0) rfl o
  rw [show ({ base := bn, cap := 16384, b := b } : Ar).b = b from rfl, ← HX.out, bkV_eq] at kc
  with_reducible refine kc.mono ?_
  clear kc
  rintro e w4 ⟨rfl, t4⟩
  have T4 := Lib.hid t4
  clear t4
  go_wp2_with (first | (refine bk_alloc T4.out rfl rfl ?_; intro g1 w4a h4; have T4a := Lib.hid h4; clear h4) | (refine bk_store T4a.out 0 rfl rfl _ _ rfl rfl (bO X) (bS X) (bU X) rfl ?_; intro w5 t5; have T5 := Lib.hid t5; clear t5 T4a T4))
  have kc := rb_Get T5.out a _ c b (fun w' h => HRD.out w' _ h) o
  rw [← HX.out, bkV_eq] at kc
  with_reducible refine kc.mono ?_
  clear kc
  rintro e w6 ⟨rfl, t6⟩
  have T6 := Lib.hid t6
  clear t6
  go_wp2_with (first | (refine bk_alloc T6.out rfl rfl ?_; intro g2 w6a h6; have T6a := Lib.hid h6; clear h6) | (refine bk_store T6a.out 0 rfl rfl _ _ rfl rfl (bO X) (bS X) (bU X) rfl ?_; intro w7 t7; have T7 := Lib.hid t7; clear t7 T6a T6))
  have kc := blk_Ahead T7.out (i := 2) rfl o
  rw [show ({ base := bn, cap := 16384, b := b } : Ar).b = b from rfl, ← HY.out, bkV_eq] at kc
  with_reducible refine kc.mono ?_
  clear kc
  rintro e w8 ⟨rfl, t8⟩
  have T8 := Lib.hid t8
  clear t8
  go_wp2_with (first | (refine bk_alloc T8.out rfl rfl ?_; intro g3 w8a h8; have T8a := Lib.hid h8; clear h8) | (refine bk_store T8a.out 0 rfl rfl _ _ rfl rfl (bO Y) (bS Y) (bU Y) rfl ?_; intro w9 t9; have T9 := Lib.hid t9; clear t9 T8a T8))
  have kc := rb_Ahead T9.out a _ c b (fun w' h => HRD.out w' _ h) (by omega) o
  rw [← HY.out, bkV_eq] at kc
  with_reducible refine kc.mono ?_
  clear kc
  rintro e wb ⟨rfl, tb⟩
  have TB := Lib.hid tb
  clear tb
  go_wp2_with (first | (refine bk_alloc TB.out rfl rfl ?_; intro g4 wba hb4; have TBa := Lib.hid hb4; clear hb4) | (refine bk_store TBa.out 0 rfl rfl _ _ rfl rfl (bO Y) (bS Y) (bU Y) rfl ?_; intro wc tc; have TC := Lib.hid tc; clear tc TBa TB))
  have kc := blk_Walk TC.out (i := 4) rfl
  rw [show ({ base := bn, cap := 16384, b := b } : Ar).b = b from rfl, ← HZ.out] at kc
  with_reducible refine kc.mono ?_
  clear kc
  rintro e wd ⟨v1, rfl, td⟩
  have TD := Lib.hid td
  clear td
  go_wp2_with fail
  have kc := rb_Walk TD.out a _ c b (fun w' h => HRD.out w' _ h) hsm4
  rw [← HZ.out] at kc
  with_reducible refine kc.mono ?_
  clear kc
  rintro e we ⟨v2, rfl, te⟩
  have TE := Lib.hid te
  clear te
  obtain ⟨a2, c2, e2, _, hs2⟩ := Sl.of_owned (TE.out.own (i := 0) rfl)
  obtain ⟨a1, c1, e1, _, hs1⟩ := Sl.of_owned (TE.out.own (i := 1) rfl)
  subst e2; subst e1
  have HS1 := Lib.hid hs1; have HS2 := Lib.hid hs2
  clear hs1 hs2 TD TC T9 T7 T5 T3
  generalize Z.getD [] = LZ at *
  obtain ⟨S, hS⟩ : ∃ S, S = setI b xo xs xu := ⟨_, rfl⟩
  have HSS := Lib.hid hS
  clear hS
  rcases X with _ | X <;> rcases Y with _ | Y <;> rcases Z with _ | Z
  · try rw [show errO none = .iface 183 (.int .i64 3) from rfl]
    try rw [show errO none = .iface 183 (.int .i64 3) from rfl]
    try rw [show errW none = .iface 183 (.int .i64 3) from rfl]
    go_wp2_with (first | (refine bk_loadg TE.out 2 rfl rfl _ rfl rfl ?_) | (refine bk_loadg TE.out 3 rfl rfl _ rfl rfl ?_) | (refine bk_loadg TE.out 4 rfl rfl _ rfl rfl ?_) | (refine bk_loadg TE.out 5 rfl rfl _ rfl rfl ?_))
    have kc := law_Blocks _ a1 c1 LZ a2 c2 LZ HS1.out HS2.out
    rw [if_pos rfl] at kc
    with_reducible refine kc.mono ?_
    clear kc
    rintro e wf ⟨rfl, bf⟩
    have BF := Lib.hid bf
    clear bf
    have TI := Lib.hid (TE.out.below BF.out)
    clear BF TE HS1 HS2
    go_wp2_with (first | (refine bk_load TI.out 7 rfl rfl _ rfl rfl ?_) | ((with_reducible refine (code_of _ 3 (by decide) (by decide)).mono ?_); rintro e w' ⟨rfl, rfl⟩))
    cases S with
    | none =>
      have kc := blk_Set TI.out (i := 6) rfl xo xs xu
      rw [show ({ base := bn, cap := 16384, b := b } : Ar).b = b from rfl, ← HSS.out, show errS none = .iface 183 (.int .i64 1) from rfl] at kc
      with_reducible refine kc.mono ?_
      clear kc
      rintro e wj ⟨rfl, tj⟩
      have TJ := Lib.hid tj
      clear tj
      go_wp2_with (refine bk_load TJ.out 7 rfl rfl _ rfl rfl ?_)
      have kc := rb_Set_no TJ.out a _ c b (HRD.out _ _ TJ.out) xo xs xu HSS.out.symm
      with_reducible refine kc.mono ?_
      clear kc
      rintro e wk ⟨rfl, tk⟩
      have TK := Lib.hid tk
      clear tk
      have HB3 := Lib.hid (HRD.out _ _ TK.out.drew)
      obtain ⟨va, hva⟩ := TK.out.drew.ar (i := 6) rfl
      have HVA := Lib.hid (show ArA _ q { base := bn, cap := 16384, b := b } va from hva)
      clear hva TI TJ
      go_wp2
      refine flowe_begin (F := fun _ => False) hmixed 26 rfl (by repeat (first | with_reducible refine ps_then ?_ | with_reducible refine ps_block ?_ | with_reducible exact ps_body | refine ps_then ?_ | refine ps_block ?_ | exact ps_body)) (fun hps => ?_)
      simp only [List.replicate]
      have kk := (Keep.refl (fun _ => False) (wk)).drew
      refine flowe_take 0 (v := ?_) (a' := ?_) hps rfl (by kernel_rfl) rfl ?_ ?_ ?_
      rotate_left 2
      · intro w' hk; go_simp; try rfl
      · simp only [Act.put, List.setIfInBounds_toArray, List.set_cons_succ, List.set_cons_zero]; try rfl
      refine flowe_take 1 (v := ?_) (a' := ?_) hps rfl (by kernel_rfl) rfl ?_ ?_ ?_
      rotate_left 2
      · intro w' hk; go_simp; try rfl
      · simp only [Act.put, List.setIfInBounds_toArray, List.set_cons_succ, List.set_cons_zero]; try rfl
      refine flowe_take 2 (v := ?_) (a' := ?_) hps rfl (by kernel_rfl) rfl ?_ ?_ ?_
      rotate_left 2
      · intro w' hk; go_simp; try rfl
      · simp only [Act.put, List.setIfInBounds_toArray, List.set_cons_succ, List.set_cons_zero]; try rfl
      refine flowe_take 5 (v := ?_) (a' := ?_) hps rfl (by kernel_rfl) rfl ?_ ?_ ?_
      rotate_left 2
      · intro w' hk; go_simp; try rfl
      · simp only [Act.put, List.setIfInBounds_toArray, List.set_cons_succ, List.set_cons_zero]; try rfl
      refine flowe_take 6 (v := ?_) (a' := ?_) hps rfl (by kernel_rfl) rfl ?_ ?_ ?_
      rotate_left 2
      · intro w' hk; have hs := run_s w' (HB3.out.keep hk (fun _ _ h => h)); go_simp; try rfl
      · simp only [Act.put, List.setIfInBounds_toArray, List.set_cons_succ, List.set_cons_zero]; try rfl
      refine flowe_one 3 hps rfl (by kernel_rfl) rfl (wp_next (fun K hK => ?_))
      go_simp
      with_reducible refine (law_Bytes _ q { base := bn, cap := 16384, b := b } va HVA.out).mono ?_
      rintro e w7 ⟨v7, rfl, o7, b7⟩
      have kp := Keep.of_below (F := fun _ => False) b7
      obtain ⟨a7, c7, rfl, _, hb7⟩ := Sl.of_owned o7
      have HB7 := Lib.hid (show Bs w7 a7 b.length c7 b from hb7)
      clear o7 b7 hb7
      refine hK _ _ (flow_step kk ?_ ?_)
      · first | exact kp | exact Keep.refl _ _ | exact (Keep.refl _ _).alloc _
      clear kk hK; try clear kp
      intro kk
      refine flowe_take 4 (v := ?_) (a' := ?_) hps rfl (by kernel_rfl) rfl ?_ ?_ ?_
      rotate_left 2
      · intro w' hk; have hs := run_s w' (HB7.out.keep hk (fun _ _ h => h)); go_simp; try rfl
      · simp only [Act.put, List.setIfInBounds_toArray, List.set_cons_succ, List.set_cons_zero]; try rfl
      refine flowe_take 7 (v := ?_) (a' := ?_) hps rfl (by kernel_rfl) rfl ?_ ?_ ?_
      rotate_left 2
      · intro w' hk; go_simp; try rfl
      · simp only [Act.put, List.setIfInBounds_toArray, List.set_cons_succ, List.set_cons_zero]; try rfl
      refine flowe_take 8 (v := ?_) (a' := ?_) hps rfl (by kernel_rfl) rfl ?_ ?_ ?_
      rotate_left 2
      · intro w' hk; go_simp; try rfl
      · simp only [Act.put, List.setIfInBounds_toArray, List.set_cons_succ, List.set_cons_zero]; try rfl
      refine flowe_take 9 (v := ?_) (a' := ?_) hps rfl (by kernel_rfl) rfl ?_ ?_ ?_
      rotate_left 2
      · intro w' hk; go_simp; try rfl
      · simp only [Act.put, List.setIfInBounds_toArray, List.set_cons_succ, List.set_cons_zero]; try rfl
      refine flowe_take 10 (v := ?_) (a' := ?_) hps rfl (by kernel_rfl) rfl ?_ ?_ ?_
      rotate_left 2
      · intro w' hk; go_simp; try rfl
      · simp only [Act.put, List.setIfInBounds_toArray, List.set_cons_succ, List.set_cons_zero]; try rfl
      refine flowe_take 11 (v := ?_) (a' := ?_) hps rfl (by kernel_rfl) rfl ?_ ?_ ?_
      rotate_left 2
      · intro w' hk; go_simp; try rfl
      · simp only [Act.put, List.setIfInBounds_toArray, List.set_cons_succ, List.set_cons_zero]; try rfl
      refine flowe_skip 12 (a' := ?_) hps rfl (by kernel_rfl) rfl ?_ ?_
      rotate_left 1
      · simp only [Act.put, List.setIfInBounds_toArray, List.set_cons_succ, List.set_cons_zero]; try rfl
      refine flowe_skip 13 (a' := ?_) hps rfl (by kernel_rfl) rfl ?_ ?_
      rotate_left 1
      · simp only [Act.put, List.setIfInBounds_toArray, List.set_cons_succ, List.set_cons_zero]; try rfl
      refine flowe_take 14 (v := ?_) (a' := ?_) hps rfl (by kernel_rfl) rfl ?_ ?_ ?_
      rotate_left 2
      · intro w' hk; go_simp; try rfl
      · simp only [Act.put, List.setIfInBounds_toArray, List.set_cons_succ, List.set_cons_zero]; try rfl
      refine flowe_take 15 (v := ?_) (a' := ?_) hps rfl (by kernel_rfl) rfl ?_ ?_ ?_
      rotate_left 2
      · intro w' hk; go_simp; try rfl
      · simp only [Act.put, List.setIfInBounds_toArray, List.set_cons_succ, List.set_cons_zero]; try rfl
      refine flowe_take 16 (v := ?_) (a' := ?_) hps rfl (by kernel_rfl) rfl ?_ ?_ ?_
      rotate_left 2
      · intro w' hk; go_simp; try rfl
      · simp only [Act.put, List.setIfInBounds_toArray, List.set_cons_succ, List.set_cons_zero]; try rfl
      refine flowe_take 17 (v := ?_) (a' := ?_) hps rfl (by kernel_rfl) rfl ?_ ?_ ?_
      rotate_left 2
      · intro w' hk; go_simp; try rfl
      · simp only [Act.put, List.setIfInBounds_toArray, List.set_cons_succ, List.set_cons_zero]; try rfl
      refine flowe_take 18 (v := ?_) (a' := ?_) hps rfl (by kernel_rfl) rfl ?_ ?_ ?_
      rotate_left 2
      · intro w' hk; go_simp; try rfl
      · simp only [Act.put, List.setIfInBounds_toArray, List.set_cons_succ, List.set_cons_zero]; try rfl
      refine flowe_take 19 (v := ?_) (a' := ?_) hps rfl (by kernel_rfl) rfl ?_ ?_ ?_
      rotate_left 2
      · intro w' hk; go_simp; try rfl
      · simp only [Act.put, List.setIfInBounds_toArray, List.set_cons_succ, List.set_cons_zero]; try rfl
      refine flowe_one 20 hps rfl (by kernel_rfl) rfl (wp_next (fun K hK => ?_))
      go_simp
      with_reducible refine (code_of _ 1 (by decide) (by decide)).mono ?_
      rintro e w' ⟨rfl, rfl⟩
      refine hK _ _ (flow_step kk ?_ ?_)
      · first | exact kp | exact Keep.refl _ _ | exact (Keep.refl _ _).alloc _
      clear kk hK; try clear kp
      intro kk
      refine flowe_take 21 (v := ?_) (a' := ?_) hps rfl (by kernel_rfl) rfl ?_ ?_ ?_
      rotate_left 2
      · intro w' hk; go_simp; try rfl
      · simp only [Act.put, List.setIfInBounds_toArray, List.set_cons_succ, List.set_cons_zero]; try rfl
      refine flowe_take 22 (v := ?_) (a' := ?_) hps rfl (by kernel_rfl) rfl ?_ ?_ ?_
      rotate_left 2
      · intro w' hk; go_simp; try rfl
      · simp only [Act.put, List.setIfInBounds_toArray, List.set_cons_succ, List.set_cons_zero]; try rfl
      refine flowe_take 23 (v := ?_) (a' := ?_) hps rfl (by kernel_rfl) rfl ?_ ?_ ?_
      rotate_left 2
      · intro w' hk; go_simp; try rfl
      · simp only [Act.put, List.setIfInBounds_toArray, List.set_cons_succ, List.set_cons_zero]; try rfl
      refine flowe_take 24 (v := ?_) (a' := ?_) hps rfl (by kernel_rfl) rfl ?_ ?_ ?_
      rotate_left 2
      · intro w' hk; go_simp; try rfl
      · simp only [Act.put, List.setIfInBounds_toArray, List.set_cons_succ, List.set_cons_zero]; try rfl
      refine flowe_take 25 (v := ?_) (a' := ?_) hps rfl (by kernel_rfl) rfl ?_ ?_ ?_
      rotate_left 2
      · intro w' hk; go_simp; try rfl
      · simp only [Act.put, List.setIfInBounds_toArray, List.set_cons_succ, List.set_cons_zero]; try rfl
      refine flowe_done hps (by kernel_rfl) ?_
      have BZ := Lib.hid (TK.out.below (kk.below (Nat.le_refl _) fun _ _ h => h)).end
      clear kk
      go_wp2
      go_ret
      exact ⟨rfl, BZ.out⟩
    | some S =>
      have kc := blk_Set TI.out (i := 6) rfl xo xs xu
      rw [show ({ base := bn, cap := 16384, b := b } : Ar).b = b from rfl, ← HSS.out, show errS (some S) = .nilIface from rfl] at kc
      with_reducible refine kc.mono ?_
      clear kc
      rintro e wj ⟨rfl, tj⟩
      have TJ := Lib.hid tj
      clear tj
      go_wp2_with (refine bk_load TJ.out 7 rfl rfl _ rfl rfl ?_)
      have kc := rb_Set_ok TJ.out a _ c b (HRD.out _ _ TJ.out) (by omega) xo xs xu S HSS.out.symm
      with_reducible refine kc.mono ?_
      clear kc
      rintro e wk ⟨v3, rfl, tk⟩
      have TK := Lib.hid tk
      clear tk
      obtain ⟨a3, c3, rfl, _⟩ := TK.out.bsOwn (i := 0) rfl
      have HB3 := Lib.hid (TK.out.drew.bsV (i := 0) rfl)
      obtain ⟨va, hva⟩ := TK.out.drew.ar (i := 7) rfl
      have HVA := Lib.hid (show ArA _ q { base := bn, cap := 16384, b := S } va from hva)
      clear hva TI TJ
      go_wp2
      refine flowe_begin (F := fun _ => False) hmixed 26 rfl (by repeat (first | with_reducible refine ps_then ?_ | with_reducible refine ps_block ?_ | with_reducible exact ps_body | refine ps_then ?_ | refine ps_block ?_ | exact ps_body)) (fun hps => ?_)
      simp only [List.replicate]
      have kk := (Keep.refl (fun _ => False) (wk)).drew
      refine flowe_take 0 (v := ?_) (a' := ?_) hps rfl (by kernel_rfl) rfl ?_ ?_ ?_
      rotate_left 2
      · intro w' hk; go_simp; try rfl
      · simp only [Act.put, List.setIfInBounds_toArray, List.set_cons_succ, List.set_cons_zero]; try rfl
      refine flowe_take 1 (v := ?_) (a' := ?_) hps rfl (by kernel_rfl) rfl ?_ ?_ ?_
      rotate_left 2
      · intro w' hk; go_simp; try rfl
      · simp only [Act.put, List.setIfInBounds_toArray, List.set_cons_succ, List.set_cons_zero]; try rfl
      refine flowe_take 2 (v := ?_) (a' := ?_) hps rfl (by kernel_rfl) rfl ?_ ?_ ?_
      rotate_left 2
      · intro w' hk; go_simp; try rfl
      · simp only [Act.put, List.setIfInBounds_toArray, List.set_cons_succ, List.set_cons_zero]; try rfl
      refine flowe_take 5 (v := ?_) (a' := ?_) hps rfl (by kernel_rfl) rfl ?_ ?_ ?_
      rotate_left 2
      · intro w' hk; go_simp; try rfl
      · simp only [Act.put, List.setIfInBounds_toArray, List.set_cons_succ, List.set_cons_zero]; try rfl
      refine flowe_take 6 (v := ?_) (a' := ?_) hps rfl (by kernel_rfl) rfl ?_ ?_ ?_
      rotate_left 2
      · intro w' hk; have hs := run_s w' (HB3.out.keep hk (fun _ _ h => h)); go_simp; try rfl
      · simp only [Act.put, List.setIfInBounds_toArray, List.set_cons_succ, List.set_cons_zero]; try rfl
      refine flowe_one 3 hps rfl (by kernel_rfl) rfl (wp_next (fun K hK => ?_))
      go_simp
      with_reducible refine (law_Bytes _ q { base := bn, cap := 16384, b := S } va HVA.out).mono ?_
      rintro e w7 ⟨v7, rfl, o7, b7⟩
      have kp := Keep.of_below (F := fun _ => False) b7
      obtain ⟨a7, c7, rfl, _, hb7⟩ := Sl.of_owned o7
      have HB7 := Lib.hid (show Bs w7 a7 S.length c7 S from hb7)
      clear o7 b7 hb7
      refine hK _ _ (flow_step kk ?_ ?_)
      · first | exact kp | exact Keep.refl _ _ | exact (Keep.refl _ _).alloc _
      clear kk hK; try clear kp
      intro kk
      refine flowe_take 4 (v := ?_) (a' := ?_) hps rfl (by kernel_rfl) rfl ?_ ?_ ?_
      rotate_left 2
      · intro w' hk; have hs := run_s w' (HB7.out.keep hk (fun _ _ h => h)); go_simp; try rfl
      · simp only [Act.put, List.setIfInBounds_toArray, List.set_cons_succ, List.set_cons_zero]; try rfl
      refine flowe_take 7 (v := ?_) (a' := ?_) hps rfl (by kernel_rfl) rfl ?_ ?_ ?_
      rotate_left 2
      · intro w' hk; go_simp; try rfl
      · simp only [Act.put, List.setIfInBounds_toArray, List.set_cons_succ, List.set_cons_zero]; try rfl
      refine flowe_take 8 (v := ?_) (a' := ?_) hps rfl (by kernel_rfl) rfl ?_ ?_ ?_
      rotate_left 2
      · intro w' hk; go_simp; try rfl
      · simp only [Act.put, List.setIfInBounds_toArray, List.set_cons_succ, List.set_cons_zero]; try rfl
      refine flowe_take 9 (v := ?_) (a' := ?_) hps rfl (by kernel_rfl) rfl ?_ ?_ ?_
      rotate_left 2
      · intro w' hk; go_simp; try rfl
      · simp only [Act.put, List.setIfInBounds_toArray, List.set_cons_succ, List.set_cons_zero]; try rfl
      refine flowe_take 10 (v := ?_) (a' := ?_) hps rfl (by kernel_rfl) rfl ?_ ?_ ?_
      rotate_left 2
      · intro w' hk; go_simp; try rfl
      · simp only [Act.put, List.setIfInBounds_toArray, List.set_cons_succ, List.set_cons_zero]; try rfl
      refine flowe_take 11 (v := ?_) (a' := ?_) hps rfl (by kernel_rfl) rfl ?_ ?_ ?_
      rotate_left 2
      · intro w' hk; go_simp; try rfl
      · simp only [Act.put, List.setIfInBounds_toArray, List.set_cons_succ, List.set_cons_zero]; try rfl
      refine flowe_take 12 (v := ?_) (a' := ?_) hps rfl (by kernel_rfl) rfl ?_ ?_ ?_
      rotate_left 2
      · intro w' hk; go_simp; try rfl
      · simp only [Act.put, List.setIfInBounds_toArray, List.set_cons_succ, List.set_cons_zero]; try rfl
      refine flowe_take 13 (v := ?_) (a' := ?_) hps rfl (by kernel_rfl) rfl ?_ ?_ ?_
      rotate_left 2
      · intro w' hk; go_simp; try rfl
      · simp only [Act.put, List.setIfInBounds_toArray, List.set_cons_succ, List.set_cons_zero]; try rfl
      refine flowe_take 14 (v := ?_) (a' := ?_) hps rfl (by kernel_rfl) rfl ?_ ?_ ?_
      rotate_left 2
      · intro w' hk; go_simp; try rfl
      · simp only [Act.put, List.setIfInBounds_toArray, List.set_cons_succ, List.set_cons_zero]; try rfl
      refine flowe_take 15 (v := ?_) (a' := ?_) hps rfl (by kernel_rfl) rfl ?_ ?_ ?_
      rotate_left 2
      · intro w' hk; go_simp; try rfl
      · simp only [Act.put, List.setIfInBounds_toArray, List.set_cons_succ, List.set_cons_zero]; try rfl
      refine flowe_skip 16 (a' := ?_) hps rfl (by kernel_rfl) rfl ?_ ?_
      rotate_left 1
      · simp only [Act.put, List.setIfInBounds_toArray, List.set_cons_succ, List.set_cons_zero]; try rfl
      refine flowe_skip 17 (a' := ?_) hps rfl (by kernel_rfl) rfl ?_ ?_
      rotate_left 1
      · simp only [Act.put, List.setIfInBounds_toArray, List.set_cons_succ, List.set_cons_zero]; try rfl
      refine flowe_skip 18 (a' := ?_) hps rfl (by kernel_rfl) rfl ?_ ?_
      rotate_left 1
      · simp only [Act.put, List.setIfInBounds_toArray, List.set_cons_succ, List.set_cons_zero]; try rfl
      refine flowe_skip 19 (a' := ?_) hps rfl (by kernel_rfl) rfl ?_ ?_
      rotate_left 1
      · simp only [Act.put, List.setIfInBounds_toArray, List.set_cons_succ, List.set_cons_zero]; try rfl
      refine flowe_skip 20 (a' := ?_) hps rfl (by kernel_rfl) rfl ?_ ?_
      rotate_left 1
      · simp only [Act.put, List.setIfInBounds_toArray, List.set_cons_succ, List.set_cons_zero]; try rfl
      refine flowe_skip 21 (a' := ?_) hps rfl (by kernel_rfl) rfl ?_ ?_
      rotate_left 1
      · simp only [Act.put, List.setIfInBounds_toArray, List.set_cons_succ, List.set_cons_zero]; try rfl
      refine flowe_skip 22 (a' := ?_) hps rfl (by kernel_rfl) rfl ?_ ?_
      rotate_left 1
      · simp only [Act.put, List.setIfInBounds_toArray, List.set_cons_succ, List.set_cons_zero]; try rfl
      refine flowe_take 23 (v := ?_) (a' := ?_) hps rfl (by kernel_rfl) rfl ?_ ?_ ?_
      rotate_left 2
      · intro w' hk; go_simp; try rfl
      · simp only [Act.put, List.setIfInBounds_toArray, List.set_cons_succ, List.set_cons_zero]; try rfl
      refine flowe_take 24 (v := ?_) (a' := ?_) hps rfl (by kernel_rfl) rfl ?_ ?_ ?_
      rotate_left 2
      · intro w' hk; go_simp; try rfl
      · simp only [Act.put, List.setIfInBounds_toArray, List.set_cons_succ, List.set_cons_zero]; try rfl
      refine flowe_take 25 (v := ?_) (a' := ?_) hps rfl (by kernel_rfl) rfl ?_ ?_ ?_
      rotate_left 2
      · intro w' hk; go_simp; try rfl
      · simp only [Act.put, List.setIfInBounds_toArray, List.set_cons_succ, List.set_cons_zero]; try rfl
      refine flowe_done hps (by kernel_rfl) ?_
      have BZ := Lib.hid (TK.out.below (kk.below (Nat.le_refl _) fun _ _ h => h)).end
      clear kk
      go_wp2
      go_ret
      exact ⟨rfl, BZ.out⟩
  · try rw [show errO none = .iface 183 (.int .i64 3) from rfl]
    try rw [show errO none = .iface 183 (.int .i64 3) from rfl]
    try rw [show errW (some Z) = .nilIface from rfl]
    go_wp2_with (first | (refine bk_loadg TE.out 2 rfl rfl _ rfl rfl ?_) | (refine bk_loadg TE.out 3 rfl rfl _ rfl rfl ?_) | (refine bk_loadg TE.out 4 rfl rfl _ rfl rfl ?_) | (refine bk_loadg TE.out 5 rfl rfl _ rfl rfl ?_))
    have kc := law_Blocks _ a1 c1 LZ a2 c2 LZ HS1.out HS2.out
    rw [if_pos rfl] at kc
    with_reducible refine kc.mono ?_
    clear kc
    rintro e wf ⟨rfl, bf⟩
    have BF := Lib.hid bf
    clear bf
    have TI := Lib.hid (TE.out.below BF.out)
    clear BF TE HS1 HS2
    go_wp2_with (first | (refine bk_load TI.out 7 rfl rfl _ rfl rfl ?_) | ((with_reducible refine (code_of _ 3 (by decide) (by decide)).mono ?_); rintro e w' ⟨rfl, rfl⟩))
    cases S with
    | none =>
      have kc := blk_Set TI.out (i := 6) rfl xo xs xu
      rw [show ({ base := bn, cap := 16384, b := b } : Ar).b = b from rfl, ← HSS.out, show errS none = .iface 183 (.int .i64 1) from rfl] at kc
      with_reducible refine kc.mono ?_
      clear kc
      rintro e wj ⟨rfl, tj⟩
      have TJ := Lib.hid tj
      clear tj
      go_wp2_with (refine bk_load TJ.out 7 rfl rfl _ rfl rfl ?_)
      have kc := rb_Set_no TJ.out a _ c b (HRD.out _ _ TJ.out) xo xs xu HSS.out.symm
      with_reducible refine kc.mono ?_
      clear kc
      rintro e wk ⟨rfl, tk⟩
      have TK := Lib.hid tk
      clear tk
      have HB3 := Lib.hid (HRD.out _ _ TK.out.drew)
      obtain ⟨va, hva⟩ := TK.out.drew.ar (i := 6) rfl
      have HVA := Lib.hid (show ArA _ q { base := bn, cap := 16384, b := b } va from hva)
      clear hva TI TJ
      go_wp2
      refine flowe_begin (F := fun _ => False) hmixed 26 rfl (by repeat (first | with_reducible refine ps_then ?_ | with_reducible refine ps_block ?_ | with_reducible exact ps_body | refine ps_then ?_ | refine ps_block ?_ | exact ps_body)) (fun hps => ?_)
      simp only [List.replicate]
      have kk := (Keep.refl (fun _ => False) (wk)).drew
      refine flowe_take 0 (v := ?_) (a' := ?_) hps rfl (by kernel_rfl) rfl ?_ ?_ ?_
      rotate_left 2
      · intro w' hk; go_simp; try rfl
      · simp only [Act.put, List.setIfInBounds_toArray, List.set_cons_succ, List.set_cons_zero]; try rfl
      refine flowe_take 1 (v := ?_) (a' := ?_) hps rfl (by kernel_rfl) rfl ?_ ?_ ?_
      rotate_left 2
      · intro w' hk; go_simp; try rfl
      · simp only [Act.put, List.setIfInBounds_toArray, List.set_cons_succ, List.set_cons_zero]; try rfl
      refine flowe_take 2 (v := ?_) (a' := ?_) hps rfl (by kernel_rfl) rfl ?_ ?_ ?_
      rotate_left 2
      · intro w' hk; go_simp; try rfl
      · simp only [Act.put, List.setIfInBounds_toArray, List.set_cons_succ, List.set_cons_zero]; try rfl
      refine flowe_take 5 (v := ?_) (a' := ?_) hps rfl (by kernel_rfl) rfl ?_ ?_ ?_
      rotate_left 2
      · intro w' hk; go_simp; try rfl
      · simp only [Act.put, List.setIfInBounds_toArray, List.set_cons_succ, List.set_cons_zero]; try rfl
      refine flowe_take 6 (v := ?_) (a' := ?_) hps rfl (by kernel_rfl) rfl ?_ ?_ ?_
      rotate_left 2
      · intro w' hk; have hs := run_s w' (HB3.out.keep hk (fun _ _ h => h)); go_simp; try rfl
      · simp only [Act.put, List.setIfInBounds_toArray, List.set_cons_succ, List.set_cons_zero]; try rfl
      refine flowe_one 3 hps rfl (by kernel_rfl) rfl (wp_next (fun K hK => ?_))
      go_simp
      with_reducible refine (law_Bytes _ q { base := bn, cap := 16384, b := b } va HVA.out).mono ?_
      rintro e w7 ⟨v7, rfl, o7, b7⟩
      have kp := Keep.of_below (F := fun _ => False) b7
      obtain ⟨a7, c7, rfl, _, hb7⟩ := Sl.of_owned o7
      have HB7 := Lib.hid (show Bs w7 a7 b.length c7 b from hb7)
      clear o7 b7 hb7
      refine hK _ _ (flow_step kk ?_ ?_)
      · first | exact kp | exact Keep.refl _ _ | exact (Keep.refl _ _).alloc _
      clear kk hK; try clear kp
      intro kk
      refine flowe_take 4 (v := ?_) (a' := ?_) hps rfl (by kernel_rfl) rfl ?_ ?_ ?_
      rotate_left 2
      · intro w' hk; have hs := run_s w' (HB7.out.keep hk (fun _ _ h => h)); go_simp; try rfl
      · simp only [Act.put, List.setIfInBounds_toArray, List.set_cons_succ, List.set_cons_zero]; try rfl
      refine flowe_take 7 (v := ?_) (a' := ?_) hps rfl (by kernel_rfl) rfl ?_ ?_ ?_
      rotate_left 2
      · intro w' hk; go_simp; try rfl
      · simp only [Act.put, List.setIfInBounds_toArray, List.set_cons_succ, List.set_cons_zero]; try rfl
      refine flowe_take 8 (v := ?_) (a' := ?_) hps rfl (by kernel_rfl) rfl ?_ ?_ ?_
      rotate_left 2
      · intro w' hk; go_simp; try rfl
      · simp only [Act.put, List.setIfInBounds_toArray, List.set_cons_succ, List.set_cons_zero]; try rfl
      refine flowe_take 9 (v := ?_) (a' := ?_) hps rfl (by kernel_rfl) rfl ?_ ?_ ?_
      rotate_left 2
      · intro w' hk; go_simp; try rfl
      · simp only [Act.put, List.setIfInBounds_toArray, List.set_cons_succ, List.set_cons_zero]; try rfl
      refine flowe_take 10 (v := ?_) (a' := ?_) hps rfl (by kernel_rfl) rfl ?_ ?_ ?_
      rotate_left 2
      · intro w' hk; go_simp; try rfl
      · simp only [Act.put, List.setIfInBounds_toArray, List.set_cons_succ, List.set_cons_zero]; try rfl
      refine flowe_take 11 (v := ?_) (a' := ?_) hps rfl (by kernel_rfl) rfl ?_ ?_ ?_
      rotate_left 2
      · intro w' hk; go_simp; try rfl
      · simp only [Act.put, List.setIfInBounds_toArray, List.set_cons_succ, List.set_cons_zero]; try rfl
      refine flowe_skip 12 (a' := ?_) hps rfl (by kernel_rfl) rfl ?_ ?_
      rotate_left 1
      · simp only [Act.put, List.setIfInBounds_toArray, List.set_cons_succ, List.set_cons_zero]; try rfl
      refine flowe_skip 13 (a' := ?_) hps rfl (by kernel_rfl) rfl ?_ ?_
      rotate_left 1
      · simp only [Act.put, List.setIfInBounds_toArray, List.set_cons_succ, List.set_cons_zero]; try rfl
      refine flowe_take 14 (v := ?_) (a' := ?_) hps rfl (by kernel_rfl) rfl ?_ ?_ ?_
      rotate_left 2
      · intro w' hk; go_simp; try rfl
      · simp only [Act.put, List.setIfInBounds_toArray, List.set_cons_succ, List.set_cons_zero]; try rfl
      refine flowe_take 15 (v := ?_) (a' := ?_) hps rfl (by kernel_rfl) rfl ?_ ?_ ?_
      rotate_left 2
      · intro w' hk; go_simp; try rfl
      · simp only [Act.put, List.setIfInBounds_toArray, List.set_cons_succ, List.set_cons_zero]; try rfl
      refine flowe_take 16 (v := ?_) (a' := ?_) hps rfl (by kernel_rfl) rfl ?_ ?_ ?_
      rotate_left 2
      · intro w' hk; go_simp; try rfl
      · simp only [Act.put, List.setIfInBounds_toArray, List.set_cons_succ, List.set_cons_zero]; try rfl
      refine flowe_take 17 (v := ?_) (a' := ?_) hps rfl (by kernel_rfl) rfl ?_ ?_ ?_
      rotate_left 2
      · intro w' hk; go_simp; try rfl
      · simp only [Act.put, List.setIfInBounds_toArray, List.set_cons_succ, List.set_cons_zero]; try rfl
      refine flowe_take 18 (v := ?_) (a' := ?_) hps rfl (by kernel_rfl) rfl ?_ ?_ ?_
      rotate_left 2
      · intro w' hk; go_simp; try rfl
      · simp only [Act.put, List.setIfInBounds_toArray, List.set_cons_succ, List.set_cons_zero]; try rfl
      refine flowe_take 19 (v := ?_) (a' := ?_) hps rfl (by kernel_rfl) rfl ?_ ?_ ?_
      rotate_left 2
      · intro w' hk; go_simp; try rfl
      · simp only [Act.put, List.setIfInBounds_toArray, List.set_cons_succ, List.set_cons_zero]; try rfl
      refine flowe_one 20 hps rfl (by kernel_rfl) rfl (wp_next (fun K hK => ?_))
      go_simp
      with_reducible refine (code_of _ 1 (by decide) (by decide)).mono ?_
      rintro e w' ⟨rfl, rfl⟩
      refine hK _ _ (flow_step kk ?_ ?_)
      · first | exact kp | exact Keep.refl _ _ | exact (Keep.refl _ _).alloc _
      clear kk hK; try clear kp
      intro kk
      refine flowe_take 21 (v := ?_) (a' := ?_) hps rfl (by kernel_rfl) rfl ?_ ?_ ?_
      rotate_left 2
      · intro w' hk; go_simp; try rfl
      · simp only [Act.put, List.setIfInBounds_toArray, List.set_cons_succ, List.set_cons_zero]; try rfl
      refine flowe_take 22 (v := ?_) (a' := ?_) hps rfl (by kernel_rfl) rfl ?_ ?_ ?_
      rotate_left 2
      · intro w' hk; go_simp; try rfl
      · simp only [Act.put, List.setIfInBounds_toArray, List.set_cons_succ, List.set_cons_zero]; try rfl
      refine flowe_take 23 (v := ?_) (a' := ?_) hps rfl (by kernel_rfl) rfl ?_ ?_ ?_
      rotate_left 2
      · intro w' hk; go_simp; try rfl
      · simp only [Act.put, List.setIfInBounds_toArray, List.set_cons_succ, List.set_cons_zero]; try rfl
      refine flowe_take 24 (v := ?_) (a' := ?_) hps rfl (by kernel_rfl) rfl ?_ ?_ ?_
      rotate_left 2
      · intro w' hk; go_simp; try rfl
      · simp only [Act.put, List.setIfInBounds_toArray, List.set_cons_succ, List.set_cons_zero]; try rfl
      refine flowe_take 25 (v := ?_) (a' := ?_) hps rfl (by kernel_rfl) rfl ?_ ?_ ?_
      rotate_left 2
      · intro w' hk; go_simp; try rfl
      · simp only [Act.put, List.setIfInBounds_toArray, List.set_cons_succ, List.set_cons_zero]; try rfl
      refine flowe_done hps (by kernel_rfl) ?_
      have BZ := Lib.hid (TK.out.below (kk.below (Nat.le_refl _) fun _ _ h => h)).end
      clear kk
      go_wp2
      go_ret
      exact ⟨rfl, BZ.out⟩
    | some S =>
      have kc := blk_Set TI.out (i := 6) rfl xo xs xu
      rw [show ({ base := bn, cap := 16384, b := b } : Ar).b = b from rfl, ← HSS.out, show errS (some S) = .nilIface from rfl] at kc
      with_reducible refine kc.mono ?_
      clear kc
      rintro e wj ⟨rfl, tj⟩
      have TJ := Lib.hid tj
      clear tj
      go_wp2_with (refine bk_load TJ.out 7 rfl rfl _ rfl rfl ?_)
      have kc := rb_Set_ok TJ.out a _ c b (HRD.out _ _ TJ.out) (by omega) xo xs xu S HSS.out.symm
      with_reducible refine kc.mono ?_
      clear kc
      rintro e wk ⟨v3, rfl, tk⟩
      have TK := Lib.hid tk
      clear tk
      obtain ⟨a3, c3, rfl, _⟩ := TK.out.bsOwn (i := 0) rfl
      have HB3 := Lib.hid (TK.out.drew.bsV (i := 0) rfl)
      obtain ⟨va, hva⟩ := TK.out.drew.ar (i := 7) rfl
      have HVA := Lib.hid (show ArA _ q { base := bn, cap := 16384, b := S } va from hva)
      clear hva TI TJ
      go_wp2
      refine flowe_begin (F := fun _ => False) hmixed 26 rfl (by repeat (first | with_reducible refine ps_then ?_ | with_reducible refine ps_block ?_ | with_reducible exact ps_body | refine ps_then ?_ | refine ps_block ?_ | exact ps_body)) (fun hps => ?_)
      simp only [List.replicate]
      have kk := (Keep.refl (fun _ => False) (wk)).drew
      refine flowe_take 0 (v := ?_) (a' := ?_) hps rfl (by kernel_rfl) rfl ?_ ?_ ?_
      rotate_left 2
      · intro w' hk; go_simp; try rfl
      · simp only [Act.put, List.setIfInBounds_toArray, List.set_cons_succ, List.set_cons_zero]; try rfl
      refine flowe_take 1 (v := ?_) (a' := ?_) hps rfl (by kernel_rfl) rfl ?_ ?_ ?_
      rotate_left 2
      · intro w' hk; go_simp; try rfl
      · simp only [Act.put, List.setIfInBounds_toArray, List.set_cons_succ, List.set_cons_zero]; try rfl
      refine flowe_take 2 (v := ?_) (a' := ?_) hps rfl (by kernel_rfl) rfl ?_ ?_ ?_
      rotate_left 2
      · intro w' hk; go_simp; try rfl
      · simp only [Act.put, List.setIfInBounds_toArray, List.set_cons_succ, List.set_cons_zero]; try rfl
      refine flowe_take 5 (v := ?_) (a' := ?_) hps rfl (by kernel_rfl) rfl ?_ ?_ ?_
      rotate_left 2
      · intro w' hk; go_simp; try rfl
      · simp only [Act.put, List.setIfInBounds_toArray, List.set_cons_succ, List.set_cons_zero]; try rfl
      refine flowe_take 6 (v := ?_) (a' := ?_) hps rfl (by kernel_rfl) rfl ?_ ?_ ?_
      rotate_left 2
      · intro w' hk; have hs := run_s w' (HB3.out.keep hk (fun _ _ h => h)); go_simp; try rfl
      · simp only [Act.put, List.setIfInBounds_toArray, List.set_cons_succ, List.set_cons_zero]; try rfl
      refine flowe_one 3 hps rfl (by kernel_rfl) rfl (wp_next (fun K hK => ?_))
      go_simp
      with_reducible refine (law_Bytes _ q { base := bn, cap := 16384, b := S } va HVA.out).mono ?_
      rintro e w7 ⟨v7, rfl, o7, b7⟩
      have kp := Keep.of_below (F := fun _ => False) b7
      obtain ⟨a7, c7, rfl, _, hb7⟩ := Sl.of_owned o7
      have HB7 := Lib.hid (show Bs w7 a7 S.length c7 S from hb7)
      clear o7 b7 hb7
      refine hK _ _ (flow_step kk ?_ ?_)
      · first | exact kp | exact Keep.refl _ _ | exact (Keep.refl _ _).alloc _
      clear kk hK; try clear kp
      intro kk
      refine flowe_take 4 (v := ?_) (a' := ?_) hps rfl (by kernel_rfl) rfl ?_ ?_ ?_
      rotate_left 2
      · intro w' hk; have hs := run_s w' (HB7.out.keep hk (fun _ _ h => h)); go_simp; try rfl
      · simp only [Act.put, List.setIfInBounds_toArray, List.set_cons_succ, List.set_cons_zero]; try rfl
      refine flowe_take 7 (v := ?_) (a' := ?_) hps rfl (by kernel_rfl) rfl ?_ ?_ ?_
      rotate_left 2
      · intro w' hk; go_simp; try rfl
      · simp only [Act.put, List.setIfInBounds_toArray, List.set_cons_succ, List.set_cons_zero]; try rfl
      refine flowe_take 8 (v := ?_) (a' := ?_) hps rfl (by kernel_rfl) rfl ?_ ?_ ?_
      rotate_left 2
      · intro w' hk; go_simp; try rfl
      · simp only [Act.put, List.setIfInBounds_toArray, List.set_cons_succ, List.set_cons_zero]; try rfl
      refine flowe_take 9 (v := ?_) (a' := ?_) hps rfl (by kernel_rfl) rfl ?_ ?_ ?_
      rotate_left 2
      · intro w' hk; go_simp; try rfl
      · simp only [Act.put, List.setIfInBounds_toArray, List.set_cons_succ, List.set_cons_zero]; try rfl
      refine flowe_take 10 (v := ?_) (a' := ?_) hps rfl (by kernel_rfl) rfl ?_ ?_ ?_
      rotate_left 2
      · intro w' hk; go_simp; try rfl
      · simp only [Act.put, List.setIfInBounds_toArray, List.set_cons_succ, List.set_cons_zero]; try rfl
      refine flowe_take 11 (v := ?_) (a' := ?_) hps rfl (by kernel_rfl) rfl ?_ ?_ ?_
      rotate_left 2
      · intro w' hk; go_simp; try rfl
      · simp only [Act.put, List.setIfInBounds_toArray, List.set_cons_succ, List.set_cons_zero]; try rfl
      refine flowe_take 12 (v := ?_) (a' := ?_) hps rfl (by kernel_rfl) rfl ?_ ?_ ?_
      rotate_left 2
      · intro w' hk; go_simp; try rfl
      · simp only [Act.put, List.setIfInBounds_toArray, List.set_cons_succ, List.set_cons_zero]; try rfl
      refine flowe_take 13 (v := ?_) (a' := ?_) hps rfl (by kernel_rfl) rfl ?_ ?_ ?_
      rotate_left 2
      · intro w' hk; go_simp; try rfl
      · simp only [Act.put, List.setIfInBounds_toArray, List.set_cons_succ, List.set_cons_zero]; try rfl
      refine flowe_take 14 (v := ?_) (a' := ?_) hps rfl (by kernel_rfl) rfl ?_ ?_ ?_
      rotate_left 2
      · intro w' hk; go_simp; try rfl
      · simp only [Act.put, List.setIfInBounds_toArray, List.set_cons_succ, List.set_cons_zero]; try rfl
      refine flowe_take 15 (v := ?_) (a' := ?_) hps rfl (by kernel_rfl) rfl ?_ ?_ ?_
      rotate_left 2
      · intro w' hk; go_simp; try rfl
      · simp only [Act.put, List.setIfInBounds_toArray, List.set_cons_succ, List.set_cons_zero]; try rfl
      refine flowe_skip 16 (a' := ?_) hps rfl (by kernel_rfl) rfl ?_ ?_
      rotate_left 1
      · simp only [Act.put, List.setIfInBounds_toArray, List.set_cons_succ, List.set_cons_zero]; try rfl
      refine flowe_skip 17 (a' := ?_) hps rfl (by kernel_rfl) rfl ?_ ?_
      rotate_left 1
      · simp only [Act.put, List.setIfInBounds_toArray, List.set_cons_succ, List.set_cons_zero]; try rfl
      refine flowe_skip 18 (a' := ?_) hps rfl (by kernel_rfl) rfl ?_ ?_
      rotate_left 1
      · simp only [Act.put, List.setIfInBounds_toArray, List.set_cons_succ, List.set_cons_zero]; try rfl
      refine flowe_skip 19 (a' := ?_) hps rfl (by kernel_rfl) rfl ?_ ?_
      rotate_left 1
      · simp only [Act.put, List.setIfInBounds_toArray, List.set_cons_succ, List.set_cons_zero]; try rfl
      refine flowe_skip 20 (a' := ?_) hps rfl (by kernel_rfl) rfl ?_ ?_
      rotate_left 1
      · simp only [Act.put, List.setIfInBounds_toArray, List.set_cons_succ, List.set_cons_zero]; try rfl
      refine flowe_skip 21 (a' := ?_) hps rfl (by kernel_rfl) rfl ?_ ?_
      rotate_left 1
      · simp only [Act.put, List.setIfInBounds_toArray, List.set_cons_succ, List.set_cons_zero]; try rfl
      refine flowe_skip 22 (a' := ?_) hps rfl (by kernel_rfl) rfl ?_ ?_
      rotate_left 1
      · simp only [Act.put, List.setIfInBounds_toArray, List.set_cons_succ, List.set_cons_zero]; try rfl
      refine flowe_take 23 (v := ?_) (a' := ?_) hps rfl (by kernel_rfl) rfl ?_ ?_ ?_
      rotate_left 2
      · intro w' hk; go_simp; try rfl
      · simp only [Act.put, List.setIfInBounds_toArray, List.set_cons_succ, List.set_cons_zero]; try rfl
      refine flowe_take 24 (v := ?_) (a' := ?_) hps rfl (by kernel_rfl) rfl ?_ ?_ ?_
      rotate_left 2
      · intro w' hk; go_simp; try rfl
      · simp only [Act.put, List.setIfInBounds_toArray, List.set_cons_succ, List.set_cons_zero]; try rfl
      refine flowe_take 25 (v := ?_) (a' := ?_) hps rfl (by kernel_rfl) rfl ?_ ?_ ?_
      rotate_left 2
      · intro w' hk; go_simp; try rfl
      · simp only [Act.put, List.setIfInBounds_toArray, List.set_cons_succ, List.set_cons_zero]; try rfl
      refine flowe_done hps (by kernel_rfl) ?_
      have BZ := Lib.hid (TK.out.below (kk.below (Nat.le_refl _) fun _ _ h => h)).end
      clear kk
      go_wp2
      go_ret
      exact ⟨rfl, BZ.out⟩
  · try rw [show errO none = .iface 183 (.int .i64 3) from rfl]
    try rw [show errO (some Y) = .nilIface from rfl]
    try rw [show errW none = .iface 183 (.int .i64 3) from rfl]
    go_wp2_with (first | (refine bk_loadg TE.out 2 rfl rfl _ rfl rfl ?_) | (refine bk_loadg TE.out 3 rfl rfl _ rfl rfl ?_) | (refine bk_loadg TE.out 4 rfl rfl _ rfl rfl ?_) | (refine bk_loadg TE.out 5 rfl rfl _ rfl rfl ?_))
    have kc := law_Blocks _ a1 c1 LZ a2 c2 LZ HS1.out HS2.out
    rw [if_pos rfl] at kc
    with_reducible refine kc.mono ?_
    clear kc
    rintro e wf ⟨rfl, bf⟩
    have BF := Lib.hid bf
    clear bf
    have TI := Lib.hid (TE.out.below BF.out)
    clear BF TE HS1 HS2
    go_wp2_with (first | (refine bk_load TI.out 7 rfl rfl _ rfl rfl ?_) | ((with_reducible refine (code_of _ 3 (by decide) (by decide)).mono ?_); rintro e w' ⟨rfl, rfl⟩))
    cases S with
    | none =>
      have kc := blk_Set TI.out (i := 6) rfl xo xs xu
      rw [show ({ base := bn, cap := 16384, b := b } : Ar).b = b from rfl, ← HSS.out, show errS none = .iface 183 (.int .i64 1) from rfl] at kc
      with_reducible refine kc.mono ?_
      clear kc
      rintro e wj ⟨rfl, tj⟩
      have TJ := Lib.hid tj
      clear tj
      go_wp2_with (refine bk_load TJ.out 7 rfl rfl _ rfl rfl ?_)
      have kc := rb_Set_no TJ.out a _ c b (HRD.out _ _ TJ.out) xo xs xu HSS.out.symm
      with_reducible refine kc.mono ?_
      clear kc
      rintro e wk ⟨rfl, tk⟩
      have TK := Lib.hid tk
      clear tk
      have HB3 := Lib.hid (HRD.out _ _ TK.out.drew)
      obtain ⟨va, hva⟩ := TK.out.drew.ar (i := 6) rfl
      have HVA := Lib.hid (show ArA _ q { base := bn, cap := 16384, b := b } va from hva)
      clear hva TI TJ
      go_wp2
      refine flowe_begin (F := fun _ => False) hmixed 26 rfl (by repeat (first | with_reducible refine ps_then ?_ | with_reducible refine ps_block ?_ | with_reducible exact ps_body | refine ps_then ?_ | refine ps_block ?_ | exact ps_body)) (fun hps => ?_)
      simp only [List.replicate]
      have kk := (Keep.refl (fun _ => False) (wk)).drew
      refine flowe_take 0 (v := ?_) (a' := ?_) hps rfl (by kernel_rfl) rfl ?_ ?_ ?_
      rotate_left 2
      · intro w' hk; go_simp; try rfl
      · simp only [Act.put, List.setIfInBounds_toArray, List.set_cons_succ, List.set_cons_zero]; try rfl
      refine flowe_take 1 (v := ?_) (a' := ?_) hps rfl (by kernel_rfl) rfl ?_ ?_ ?_
      rotate_left 2
      · intro w' hk; go_simp; try rfl
      · simp only [Act.put, List.setIfInBounds_toArray, List.set_cons_succ, List.set_cons_zero]; try rfl
      refine flowe_take 2 (v := ?_) (a' := ?_) hps rfl (by kernel_rfl) rfl ?_ ?_ ?_
      rotate_left 2
      · intro w' hk; go_simp; try rfl
      · simp only [Act.put, List.setIfInBounds_toArray, List.set_cons_succ, List.set_cons_zero]; try rfl
      refine flowe_take 5 (v := ?_) (a' := ?_) hps rfl (by kernel_rfl) rfl ?_ ?_ ?_
      rotate_left 2
      · intro w' hk; go_simp; try rfl
      · simp only [Act.put, List.setIfInBounds_toArray, List.set_cons_succ, List.set_cons_zero]; try rfl
      refine flowe_take 6 (v := ?_) (a' := ?_) hps rfl (by kernel_rfl) rfl ?_ ?_ ?_
      rotate_left 2
      · intro w' hk; have hs := run_s w' (HB3.out.keep hk (fun _ _ h => h)); go_simp; try rfl
      · simp only [Act.put, List.setIfInBounds_toArray, List.set_cons_succ, List.set_cons_zero]; try rfl
      refine flowe_one 3 hps rfl (by kernel_rfl) rfl (wp_next (fun K hK => ?_))
      go_simp
      with_reducible refine (law_Bytes _ q { base := bn, cap := 16384, b := b } va HVA.out).mono ?_
      rintro e w7 ⟨v7, rfl, o7, b7⟩
      have kp := Keep.of_below (F := fun _ => False) b7
      obtain ⟨a7, c7, rfl, _, hb7⟩ := Sl.of_owned o7
      have HB7 := Lib.hid (show Bs w7 a7 b.length c7 b from hb7)
      clear o7 b7 hb7
      refine hK _ _ (flow_step kk ?_ ?_)
      · first | exact kp | exact Keep.refl _ _ | exact (Keep.refl _ _).alloc _
      clear kk hK; try clear kp
      intro kk
      refine flowe_take 4 (v := ?_) (a' := ?_) hps rfl (by kernel_rfl) rfl ?_ ?_ ?_
      rotate_left 2
      · intro w' hk; have hs := run_s w' (HB7.out.keep hk (fun _ _ h => h)); go_simp; try rfl
      · simp only [Act.put, List.setIfInBounds_toArray, List.set_cons_succ, List.set_cons_zero]; try rfl
      refine flowe_take 7 (v := ?_) (a' := ?_) hps rfl (by kernel_rfl) rfl ?_ ?_ ?_
      rotate_left 2
      · intro w' hk; go_simp; try rfl
      · simp only [Act.put, List.setIfInBounds_toArray, List.set_cons_succ, List.set_cons_zero]; try rfl
      refine flowe_take 8 (v := ?_) (a' := ?_) hps rfl (by kernel_rfl) rfl ?_ ?_ ?_
      rotate_left 2
      · intro w' hk; go_simp; try rfl
      · simp only [Act.put, List.setIfInBounds_toArray, List.set_cons_succ, List.set_cons_zero]; try rfl
      refine flowe_take 9 (v := ?_) (a' := ?_) hps rfl (by kernel_rfl) rfl ?_ ?_ ?_
      rotate_left 2
      · intro w' hk; go_simp; try rfl
      · simp only [Act.put, List.setIfInBounds_toArray, List.set_cons_succ, List.set_cons_zero]; try rfl
      refine flowe_take 10 (v := ?_) (a' := ?_) hps rfl (by kernel_rfl) rfl ?_ ?_ ?_
      rotate_left 2
      · intro w' hk; go_simp; try rfl
      · simp only [Act.put, List.setIfInBounds_toArray, List.set_cons_succ, List.set_cons_zero]; try rfl
      refine flowe_take 11 (v := ?_) (a' := ?_) hps rfl (by kernel_rfl) rfl ?_ ?_ ?_
      rotate_left 2
      · intro w' hk; go_simp; try rfl
      · simp only [Act.put, List.setIfInBounds_toArray, List.set_cons_succ, List.set_cons_zero]; try rfl
      refine flowe_skip 12 (a' := ?_) hps rfl (by kernel_rfl) rfl ?_ ?_
      rotate_left 1
      · simp only [Act.put, List.setIfInBounds_toArray, List.set_cons_succ, List.set_cons_zero]; try rfl
      refine flowe_skip 13 (a' := ?_) hps rfl (by kernel_rfl) rfl ?_ ?_
      rotate_left 1
      · simp only [Act.put, List.setIfInBounds_toArray, List.set_cons_succ, List.set_cons_zero]; try rfl
      refine flowe_take 14 (v := ?_) (a' := ?_) hps rfl (by kernel_rfl) rfl ?_ ?_ ?_
      rotate_left 2
      · intro w' hk; go_simp; try rfl
      · simp only [Act.put, List.setIfInBounds_toArray, List.set_cons_succ, List.set_cons_zero]; try rfl
      refine flowe_take 15 (v := ?_) (a' := ?_) hps rfl (by kernel_rfl) rfl ?_ ?_ ?_
      rotate_left 2
      · intro w' hk; go_simp; try rfl
      · simp only [Act.put, List.setIfInBounds_toArray, List.set_cons_succ, List.set_cons_zero]; try rfl
      refine flowe_take 16 (v := ?_) (a' := ?_) hps rfl (by kernel_rfl) rfl ?_ ?_ ?_
      rotate_left 2
      · intro w' hk; go_simp; try rfl
      · simp only [Act.put, List.setIfInBounds_toArray, List.set_cons_succ, List.set_cons_zero]; try rfl
      refine flowe_take 17 (v := ?_) (a' := ?_) hps rfl (by kernel_rfl) rfl ?_ ?_ ?_
      rotate_left 2
      · intro w' hk; go_simp; try rfl
      · simp only [Act.put, List.setIfInBounds_toArray, List.set_cons_succ, List.set_cons_zero]; try rfl
      refine flowe_take 18 (v := ?_) (a' := ?_) hps rfl (by kernel_rfl) rfl ?_ ?_ ?_
      rotate_left 2
      · intro w' hk; go_simp; try rfl
      · simp only [Act.put, List.setIfInBounds_toArray, List.set_cons_succ, List.set_cons_zero]; try rfl
      refine flowe_take 19 (v := ?_) (a' := ?_) hps rfl (by kernel_rfl) rfl ?_ ?_ ?_
      rotate_left 2
      · intro w' hk; go_simp; try rfl
      · simp only [Act.put, List.setIfInBounds_toArray, List.set_cons_succ, List.set_cons_zero]; try rfl
      refine flowe_one 20 hps rfl (by kernel_rfl) rfl (wp_next (fun K hK => ?_))
      go_simp
      with_reducible refine (code_of _ 1 (by decide) (by decide)).mono ?_
      rintro e w' ⟨rfl, rfl⟩
      refine hK _ _ (flow_step kk ?_ ?_)
      · first | exact kp | exact Keep.refl _ _ | exact (Keep.refl _ _).alloc _
      clear kk hK; try clear kp
      intro kk
      refine flowe_take 21 (v := ?_) (a' := ?_) hps rfl (by kernel_rfl) rfl ?_ ?_ ?_
      rotate_left 2
      · intro w' hk; go_simp; try rfl
      · simp only [Act.put, List.setIfInBounds_toArray, List.set_cons_succ, List.set_cons_zero]; try rfl
      refine flowe_take 22 (v := ?_) (a' := ?_) hps rfl (by kernel_rfl) rfl ?_ ?_ ?_
      rotate_left 2
      · intro w' hk; go_simp; try rfl
      · simp only [Act.put, List.setIfInBounds_toArray, List.set_cons_succ, List.set_cons_zero]; try rfl
      refine flowe_take 23 (v := ?_) (a' := ?_) hps rfl (by kernel_rfl) rfl ?_ ?_ ?_
      rotate_left 2
      · intro w' hk; go_simp; try rfl
      · simp only [Act.put, List.setIfInBounds_toArray, List.set_cons_succ, List.set_cons_zero]; try rfl
      refine flowe_take 24 (v := ?_) (a' := ?_) hps rfl (by kernel_rfl) rfl ?_ ?_ ?_
      rotate_left 2
      · intro w' hk; go_simp; try rfl
      · simp only [Act.put, List.setIfInBounds_toArray, List.set_cons_succ, List.set_cons_zero]; try rfl
      refine flowe_take 25 (v := ?_) (a' := ?_) hps rfl (by kernel_rfl) rfl ?_ ?_ ?_
      rotate_left 2
      · intro w' hk; go_simp; try rfl
      · simp only [Act.put, List.setIfInBounds_toArray, List.set_cons_succ, List.set_cons_zero]; try rfl
      refine flowe_done hps (by kernel_rfl) ?_
      have BZ := Lib.hid (TK.out.below (kk.below (Nat.le_refl _) fun _ _ h => h)).end
      clear kk
      go_wp2
      go_ret
      exact ⟨rfl, BZ.out⟩
    | some S =>
      have kc := blk_Set TI.out (i := 6) rfl xo xs xu
      rw [show ({ base := bn, cap := 16384, b := b } : Ar).b = b from rfl, ← HSS.out, show errS (some S) = .nilIface from rfl] at kc
      with_reducible refine kc.mono ?_
      clear kc
      rintro e wj ⟨rfl, tj⟩
      have TJ := Lib.hid tj
      clear tj
      go_wp2_with (refine bk_load TJ.out 7 rfl rfl _ rfl rfl ?_)
      have kc := rb_Set_ok TJ.out a _ c b (HRD.out _ _ TJ.out) (by omega) xo xs xu S HSS.out.symm
      with_reducible refine kc.mono ?_
      clear kc
      rintro e wk ⟨v3, rfl, tk⟩
      have TK := Lib.hid tk
      clear tk
      obtain ⟨a3, c3, rfl, _⟩ := TK.out.bsOwn (i := 0) rfl
      have HB3 := Lib.hid (TK.out.drew.bsV (i := 0) rfl)
      obtain ⟨va, hva⟩ := TK.out.drew.ar (i := 7) rfl
      have HVA := Lib.hid (show ArA _ q { base := bn, cap := 16384, b := S } va from hva)
      clear hva TI TJ
      go_wp2
      refine flowe_begin (F := fun _ => False) hmixed 26 rfl (by repeat (first | with_reducible refine ps_then ?_ | with_reducible refine ps_block ?_ | with_reducible exact ps_body | refine ps_then ?_ | refine ps_block ?_ | exact ps_body)) (fun hps => ?_)
      simp only [List.replicate]
      have kk := (Keep.refl (fun _ => False) (wk)).drew
      refine flowe_take 0 (v := ?_) (a' := ?_) hps rfl (by kernel_rfl) rfl ?_ ?_ ?_
      rotate_left 2
      · intro w' hk; go_simp; try rfl
      · simp only [Act.put, List.setIfInBounds_toArray, List.set_cons_succ, List.set_cons_zero]; try rfl
      refine flowe_take 1 (v := ?_) (a' := ?_) hps rfl (by kernel_rfl) rfl ?_ ?_ ?_
      rotate_left 2
      · intro w' hk; go_simp; try rfl
      · simp only [Act.put, List.setIfInBounds_toArray, List.set_cons_succ, List.set_cons_zero]; try rfl
      refine flowe_take 2 (v := ?_) (a' := ?_) hps rfl (by kernel_rfl) rfl ?_ ?_ ?_
      rotate_left 2
      · intro w' hk; go_simp; try rfl
      · simp only [Act.put, List.setIfInBounds_toArray, List.set_cons_succ, List.set_cons_zero]; try rfl
      refine flowe_take 5 (v := ?_) (a' := ?_) hps rfl (by kernel_rfl) rfl ?_ ?_ ?_
      rotate_left 2
      · intro w' hk; go_simp; try rfl
      · simp only [Act.put, List.setIfInBounds_toArray, List.set_cons_succ, List.set_cons_zero]; try rfl
      refine flowe_take 6 (v := ?_) (a' := ?_) hps rfl (by kernel_rfl) rfl ?_ ?_ ?_
      rotate_left 2
      · intro w' hk; have hs := run_s w' (HB3.out.keep hk (fun _ _ h => h)); go_simp; try rfl
      · simp only [Act.put, List.setIfInBounds_toArray, List.set_cons_succ, List.set_cons_zero]; try rfl
      refine flowe_one 3 hps rfl (by kernel_rfl) rfl (wp_next (fun K hK => ?_))
      go_simp
      with_reducible refine (law_Bytes _ q { base := bn, cap := 16384, b := S } va HVA.out).mono ?_
      rintro e w7 ⟨v7, rfl, o7, b7⟩
      have kp := Keep.of_below (F := fun _ => False) b7
      obtain ⟨a7, c7, rfl, _, hb7⟩ := Sl.of_owned o7
      have HB7 := Lib.hid (show Bs w7 a7 S.length c7 S from hb7)
      clear o7 b7 hb7
      refine hK _ _ (flow_step kk ?_ ?_)
      · first | exact kp | exact Keep.refl _ _ | exact (Keep.refl _ _).alloc _
      clear kk hK; try clear kp
      intro kk
      refine flowe_take 4 (v := ?_) (a' := ?_) hps rfl (by kernel_rfl) rfl ?_ ?_ ?_
      rotate_left 2
      · intro w' hk; have hs := run_s w' (HB7.out.keep hk (fun _ _ h => h)); go_simp; try rfl
      · simp only [Act.put, List.setIfInBounds_toArray, List.set_cons_succ, List.set_cons_zero]; try rfl
      refine flowe_take 7 (v := ?_) (a' := ?_) hps rfl (by kernel_rfl) rfl ?_ ?_ ?_
      rotate_left 2
      · intro w' hk; go_simp; try rfl
      · simp only [Act.put, List.setIfInBounds_toArray, List.set_cons_succ, List.set_cons_zero]; try rfl
      refine flowe_take 8 (v := ?_) (a' := ?_) hps rfl (by kernel_rfl) rfl ?_ ?_ ?_
      rotate_left 2
      · intro w' hk; go_simp; try rfl
      · simp only [Act.put, List.setIfInBounds_toArray, List.set_cons_succ, List.set_cons_zero]; try rfl
      refine flowe_take 9 (v := ?_) (a' := ?_) hps rfl (by kernel_rfl) rfl ?_ ?_ ?_
      rotate_left 2
      · intro w' hk; go_simp; try rfl
      · simp only [Act.put, List.setIfInBounds_toArray, List.set_cons_succ, List.set_cons_zero]; try rfl
      refine flowe_take 10 (v := ?_) (a' := ?_) hps rfl (by kernel_rfl) rfl ?_ ?_ ?_
      rotate_left 2
      · intro w' hk; go_simp; try rfl
      · simp only [Act.put, List.setIfInBounds_toArray, List.set_cons_succ, List.set_cons_zero]; try rfl
      refine flowe_take 11 (v := ?_) (a' := ?_) hps rfl (by kernel_rfl) rfl ?_ ?_ ?_
      rotate_left 2
      · intro w' hk; go_simp; try rfl
      · simp only [Act.put, List.setIfInBounds_toArray, List.set_cons_succ, List.set_cons_zero]; try rfl
      refine flowe_take 12 (v := ?_) (a' := ?_) hps rfl (by kernel_rfl) rfl ?_ ?_ ?_
      rotate_left 2
      · intro w' hk; go_simp; try rfl
      · simp only [Act.put, List.setIfInBounds_toArray, List.set_cons_succ, List.set_cons_zero]; try rfl
      refine flowe_take 13 (v := ?_) (a' := ?_) hps rfl (by kernel_rfl) rfl ?_ ?_ ?_
      rotate_left 2
      · intro w' hk; go_simp; try rfl
      · simp only [Act.put, List.setIfInBounds_toArray, List.set_cons_succ, List.set_cons_zero]; try rfl
      refine flowe_take 14 (v := ?_) (a' := ?_) hps rfl (by kernel_rfl) rfl ?_ ?_ ?_
      rotate_left 2
      · intro w' hk; go_simp; try rfl
      · simp only [Act.put, List.setIfInBounds_toArray, List.set_cons_succ, List.set_cons_zero]; try rfl
      refine flowe_take 15 (v := ?_) (a' := ?_) hps rfl (by kernel_rfl) rfl ?_ ?_ ?_
      rotate_left 2
      · intro w' hk; go_simp; try rfl
      · simp only [Act.put, List.setIfInBounds_toArray, List.set_cons_succ, List.set_cons_zero]; try rfl
      refine flowe_skip 16 (a' := ?_) hps rfl (by kernel_rfl) rfl ?_ ?_
      rotate_left 1
      · simp only [Act.put, List.setIfInBounds_toArray, List.set_cons_succ, List.set_cons_zero]; try rfl
      refine flowe_skip 17 (a' := ?_) hps rfl (by kernel_rfl) rfl ?_ ?_
      rotate_left 1
      · simp only [Act.put, List.setIfInBounds_toArray, List.set_cons_succ, List.set_cons_zero]; try rfl
      refine flowe_skip 18 (a' := ?_) hps rfl (by kernel_rfl) rfl ?_ ?_
      rotate_left 1
      · simp only [Act.put, List.setIfInBounds_toArray, List.set_cons_succ, List.set_cons_zero]; try rfl
      refine flowe_skip 19 (a' := ?_) hps rfl (by kernel_rfl) rfl ?_ ?_
      rotate_left 1
      · simp only [Act.put, List.setIfInBounds_toArray, List.set_cons_succ, List.set_cons_zero]; try rfl
      refine flowe_skip 20 (a' := ?_) hps rfl (by kernel_rfl) rfl ?_ ?_
      rotate_left 1
      · simp only [Act.put, List.setIfInBounds_toArray, List.set_cons_succ, List.set_cons_zero]; try rfl
      refine flowe_skip 21 (a' := ?_) hps rfl (by kernel_rfl) rfl ?_ ?_
      rotate_left 1
      · simp only [Act.put, List.setIfInBounds_toArray, List.set_cons_succ, List.set_cons_zero]; try rfl
      refine flowe_skip 22 (a' := ?_) hps rfl (by kernel_rfl) rfl ?_ ?_
      rotate_left 1
      · simp only [Act.put, List.setIfInBounds_toArray, List.set_cons_succ, List.set_cons_zero]; try rfl
      refine flowe_take 23 (v := ?_) (a' := ?_) hps rfl (by kernel_rfl) rfl ?_ ?_ ?_
      rotate_left 2
      · intro w' hk; go_simp; try rfl
      · simp only [Act.put, List.setIfInBounds_toArray, List.set_cons_succ, List.set_cons_zero]; try rfl
      refine flowe_take 24 (v := ?_) (a' := ?_) hps rfl (by kernel_rfl) rfl ?_ ?_ ?_
      rotate_left 2
      · intro w' hk; go_simp; try rfl
      · simp only [Act.put, List.setIfInBounds_toArray, List.set_cons_succ, List.set_cons_zero]; try rfl
      refine flowe_take 25 (v := ?_) (a' := ?_) hps rfl (by kernel_rfl) rfl ?_ ?_ ?_
      rotate_left 2
      · intro w' hk; go_simp; try rfl
      · simp only [Act.put, List.setIfInBounds_toArray, List.set_cons_succ, List.set_cons_zero]; try rfl
      refine flowe_done hps (by kernel_rfl) ?_
      have BZ := Lib.hid (TK.out.below (kk.below (Nat.le_refl _) fun _ _ h => h)).end
      clear kk
      go_wp2
      go_ret
      exact ⟨rfl, BZ.out⟩
  · try rw [show errO none = .iface 183 (.int .i64 3) from rfl]
    try rw [show errO (some Y) = .nilIface from rfl]
    try rw [show errW (some Z) = .nilIface from rfl]
    go_wp2_with (first | (refine bk_loadg TE.out 2 rfl rfl _ rfl rfl ?_) | (refine bk_loadg TE.out 3 rfl rfl _ rfl rfl ?_) | (refine bk_loadg TE.out 4 rfl rfl _ rfl rfl ?_) | (refine bk_loadg TE.out 5 rfl rfl _ rfl rfl ?_))
    have kc := law_Blocks _ a1 c1 LZ a2 c2 LZ HS1.out HS2.out
    rw [if_pos rfl] at kc
    with_reducible refine kc.mono ?_
    clear kc
    rintro e wf ⟨rfl, bf⟩
    have BF := Lib.hid bf
    clear bf
    have TI := Lib.hid (TE.out.below BF.out)
    clear BF TE HS1 HS2
    go_wp2_with (first | (refine bk_load TI.out 7 rfl rfl _ rfl rfl ?_) | ((with_reducible refine (code_of _ 3 (by decide) (by decide)).mono ?_); rintro e w' ⟨rfl, rfl⟩))
    cases S with
    | none =>
      have kc := blk_Set TI.out (i := 6) rfl xo xs xu
      rw [show ({ base := bn, cap := 16384, b := b } : Ar).b = b from rfl, ← HSS.out, show errS none = .iface 183 (.int .i64 1) from rfl] at kc
      with_reducible refine kc.mono ?_
      clear kc
      rintro e wj ⟨rfl, tj⟩
      have TJ := Lib.hid tj
      clear tj
      go_wp2_with (refine bk_load TJ.out 7 rfl rfl _ rfl rfl ?_)
      have kc := rb_Set_no TJ.out a _ c b (HRD.out _ _ TJ.out) xo xs xu HSS.out.symm
      with_reducible refine kc.mono ?_
      clear kc
      rintro e wk ⟨rfl, tk⟩
      have TK := Lib.hid tk
      clear tk
      have HB3 := Lib.hid (HRD.out _ _ TK.out.drew)
      obtain ⟨va, hva⟩ := TK.out.drew.ar (i := 6) rfl
      have HVA := Lib.hid (show ArA _ q { base := bn, cap := 16384, b := b } va from hva)
      clear hva TI TJ
      go_wp2
      refine flowe_begin (F := fun _ => False) hmixed 26 rfl (by repeat (first | with_reducible refine ps_then ?_ | with_reducible refine ps_block ?_ | with_reducible exact ps_body | refine ps_then ?_ | refine ps_block ?_ | exact ps_body)) (fun hps => ?_)
      simp only [List.replicate]
      have kk := (Keep.refl (fun _ => False) (wk)).drew
      refine flowe_take 0 (v := ?_) (a' := ?_) hps rfl (by kernel_rfl) rfl ?_ ?_ ?_
      rotate_left 2
      · intro w' hk; go_simp; try rfl
      · simp only [Act.put, List.setIfInBounds_toArray, List.set_cons_succ, List.set_cons_zero]; try rfl
      refine flowe_take 1 (v := ?_) (a' := ?_) hps rfl (by kernel_rfl) rfl ?_ ?_ ?_
      rotate_left 2
      · intro w' hk; go_simp; try rfl
      · simp only [Act.put, List.setIfInBounds_toArray, List.set_cons_succ, List.set_cons_zero]; try rfl
      refine flowe_take 2 (v := ?_) (a' := ?_) hps rfl (by kernel_rfl) rfl ?_ ?_ ?_
      rotate_left 2
      · intro w' hk; go_simp; try rfl
      · simp only [Act.put, List.setIfInBounds_toArray, List.set_cons_succ, List.set_cons_zero]; try rfl
      refine flowe_take 5 (v := ?_) (a' := ?_) hps rfl (by kernel_rfl) rfl ?_ ?_ ?_
      rotate_left 2
      · intro w' hk; go_simp; try rfl
      · simp only [Act.put, List.setIfInBounds_toArray, List.set_cons_succ, List.set_cons_zero]; try rfl
      refine flowe_take 6 (v := ?_) (a' := ?_) hps rfl (by kernel_rfl) rfl ?_ ?_ ?_
      rotate_left 2
      · intro w' hk; have hs := run_s w' (HB3.out.keep hk (fun _ _ h => h)); go_simp; try rfl
      · simp only [Act.put, List.setIfInBounds_toArray, List.set_cons_succ, List.set_cons_zero]; try rfl
      refine flowe_one 3 hps rfl (by kernel_rfl) rfl (wp_next (fun K hK => ?_))
      go_simp
      with_reducible refine (law_Bytes _ q { base := bn, cap := 16384, b := b } va HVA.out).mono ?_
      rintro e w7 ⟨v7, rfl, o7, b7⟩
      have kp := Keep.of_below (F := fun _ => False) b7
      obtain ⟨a7, c7, rfl, _, hb7⟩ := Sl.of_owned o7
      have HB7 := Lib.hid (show Bs w7 a7 b.length c7 b from hb7)
      clear o7 b7 hb7
      refine hK _ _ (flow_step kk ?_ ?_)
      · first | exact kp | exact Keep.refl _ _ | exact (Keep.refl _ _).alloc _
      clear kk hK; try clear kp
      intro kk
      refine flowe_take 4 (v := ?_) (a' := ?_) hps rfl (by kernel_rfl) rfl ?_ ?_ ?_
      rotate_left 2
      · intro w' hk; have hs := run_s w' (HB7.out.keep hk (fun _ _ h => h)); go_simp; try rfl
      · simp only [Act.put, List.setIfInBounds_toArray, List.set_cons_succ, List.set_cons_zero]; try rfl
      refine flowe_take 7 (v := ?_) (a' := ?_) hps rfl (by kernel_rfl) rfl ?_ ?_ ?_
      rotate_left 2
      · intro w' hk; go_simp; try rfl
      · simp only [Act.put, List.setIfInBounds_toArray, List.set_cons_succ, List.set_cons_zero]; try rfl
      refine flowe_take 8 (v := ?_) (a' := ?_) hps rfl (by kernel_rfl) rfl ?_ ?_ ?_
      rotate_left 2
      · intro w' hk; go_simp; try rfl
      · simp only [Act.put, List.setIfInBounds_toArray, List.set_cons_succ, List.set_cons_zero]; try rfl
      refine flowe_take 9 (v := ?_) (a' := ?_) hps rfl (by kernel_rfl) rfl ?_ ?_ ?_
      rotate_left 2
      · intro w' hk; go_simp; try rfl
      · simp only [Act.put, List.setIfInBounds_toArray, List.set_cons_succ, List.set_cons_zero]; try rfl
      refine flowe_take 10 (v := ?_) (a' := ?_) hps rfl (by kernel_rfl) rfl ?_ ?_ ?_
      rotate_left 2
      · intro w' hk; go_simp; try rfl
      · simp only [Act.put, List.setIfInBounds_toArray, List.set_cons_succ, List.set_cons_zero]; try rfl
      refine flowe_take 11 (v := ?_) (a' := ?_) hps rfl (by kernel_rfl) rfl ?_ ?_ ?_
      rotate_left 2
      · intro w' hk; go_simp; try rfl
      · simp only [Act.put, List.setIfInBounds_toArray, List.set_cons_succ, List.set_cons_zero]; try rfl
      refine flowe_skip 12 (a' := ?_) hps rfl (by kernel_rfl) rfl ?_ ?_
      rotate_left 1
      · simp only [Act.put, List.setIfInBounds_toArray, List.set_cons_succ, List.set_cons_zero]; try rfl
      refine flowe_skip 13 (a' := ?_) hps rfl (by kernel_rfl) rfl ?_ ?_
      rotate_left 1
      · simp only [Act.put, List.setIfInBounds_toArray, List.set_cons_succ, List.set_cons_zero]; try rfl
      refine flowe_take 14 (v := ?_) (a' := ?_) hps rfl (by kernel_rfl) rfl ?_ ?_ ?_
      rotate_left 2
      · intro w' hk; go_simp; try rfl
      · simp only [Act.put, List.setIfInBounds_toArray, List.set_cons_succ, List.set_cons_zero]; try rfl
      refine flowe_take 15 (v := ?_) (a' := ?_) hps rfl (by kernel_rfl) rfl ?_ ?_ ?_
      rotate_left 2
      · intro w' hk; go_simp; try rfl
      · simp only [Act.put, List.setIfInBounds_toArray, List.set_cons_succ, List.set_cons_zero]; try rfl
      refine flowe_take 16 (v := ?_) (a' := ?_) hps rfl (by kernel_rfl) rfl ?_ ?_ ?_
      rotate_left 2
      · intro w' hk; go_simp; try rfl
      · simp only [Act.put, List.setIfInBounds_toArray, List.set_cons_succ, List.set_cons_zero]; try rfl
      refine flowe_take 17 (v := ?_) (a' := ?_) hps rfl (by kernel_rfl) rfl ?_ ?_ ?_
      rotate_left 2
      · intro w' hk; go_simp; try rfl
      · simp only [Act.put, List.setIfInBounds_toArray, List.set_cons_succ, List.set_cons_zero]; try rfl
      refine flowe_take 18 (v := ?_) (a' := ?_) hps rfl (by kernel_rfl) rfl ?_ ?_ ?_
      rotate_left 2
      · intro w' hk; go_simp; try rfl
      · simp only [Act.put, List.setIfInBounds_toArray, List.set_cons_succ, List.set_cons_zero]; try rfl
      refine flowe_take 19 (v := ?_) (a' := ?_) hps rfl (by kernel_rfl) rfl ?_ ?_ ?_
      rotate_left 2
      · intro w' hk; go_simp; try rfl
      · simp only [Act.put, List.setIfInBounds_toArray, List.set_cons_succ, List.set_cons_zero]; try rfl
      refine flowe_one 20 hps rfl (by kernel_rfl) rfl (wp_next (fun K hK => ?_))
      go_simp
      with_reducible refine (code_of _ 1 (by decide) (by decide)).mono ?_
      rintro e w' ⟨rfl, rfl⟩
      refine hK _ _ (flow_step kk ?_ ?_)
      · first | exact kp | exact Keep.refl _ _ | exact (Keep.refl _ _).alloc _
      clear kk hK; try clear kp
      intro kk
      refine flowe_take 21 (v := ?_) (a' := ?_) hps rfl (by kernel_rfl) rfl ?_ ?_ ?_
      rotate_left 2
      · intro w' hk; go_simp; try rfl
      · simp only [Act.put, List.setIfInBounds_toArray, List.set_cons_succ, List.set_cons_zero]; try rfl
      refine flowe_take 22 (v := ?_) (a' := ?_) hps rfl (by kernel_rfl) rfl ?_ ?_ ?_
      rotate_left 2
      · intro w' hk; go_simp; try rfl
      · simp only [Act.put, List.setIfInBounds_toArray, List.set_cons_succ, List.set_cons_zero]; try rfl
      refine flowe_take 23 (v := ?_) (a' := ?_) hps rfl (by kernel_rfl) rfl ?_ ?_ ?_
      rotate_left 2
      · intro w' hk; go_simp; try rfl
      · simp only [Act.put, List.setIfInBounds_toArray, List.set_cons_succ, List.set_cons_zero]; try rfl
      refine flowe_take 24 (v := ?_) (a' := ?_) hps rfl (by kernel_rfl) rfl ?_ ?_ ?_
      rotate_left 2
      · intro w' hk; go_simp; try rfl
      · simp only [Act.put, List.setIfInBounds_toArray, List.set_cons_succ, List.set_cons_zero]; try rfl
      refine flowe_take 25 (v := ?_) (a' := ?_) hps rfl (by kernel_rfl) rfl ?_ ?_ ?_
      rotate_left 2
      · intro w' hk; go_simp; try rfl
      · simp only [Act.put, List.setIfInBounds_toArray, List.set_cons_succ, List.set_cons_zero]; try rfl
      refine flowe_done hps (by kernel_rfl) ?_
      have BZ := Lib.hid (TK.out.below (kk.below (Nat.le_refl _) fun _ _ h => h)).end
      clear kk
      go_wp2
      go_ret
      exact ⟨rfl, BZ.out⟩
    | some S =>
      have kc := blk_Set TI.out (i := 6) rfl xo xs xu
      rw [show ({ base := bn, cap := 16384, b := b } : Ar).b = b from rfl, ← HSS.out, show errS (some S) = .nilIface from rfl] at kc
      with_reducible refine kc.mono ?_
      clear kc
      rintro e wj ⟨rfl, tj⟩
      have TJ := Lib.hid tj
      clear tj
      go_wp2_with (refine bk_load TJ.out 7 rfl rfl _ rfl rfl ?_)
      have kc := rb_Set_ok TJ.out a _ c b (HRD.out _ _ TJ.out) (by omega) xo xs xu S HSS.out.symm
      with_reducible refine kc.mono ?_
      clear kc
      rintro e wk ⟨v3, rfl, tk⟩
      have TK := Lib.hid tk
      clear tk
      obtain ⟨a3, c3, rfl, _⟩ := TK.out.bsOwn (i := 0) rfl
      have HB3 := Lib.hid (TK.out.drew.bsV (i := 0) rfl)
      obtain ⟨va, hva⟩ := TK.out.drew.ar (i := 7) rfl
      have HVA := Lib.hid (show ArA _ q { base := bn, cap := 16384, b := S } va from hva)
      clear hva TI TJ
      go_wp2
      refine flowe_begin (F := fun _ => False) hmixed 26 rfl (by repeat (first | with_reducible refine ps_then ?_ | with_reducible refine ps_block ?_ | with_reducible exact ps_body | refine ps_then ?_ | refine ps_block ?_ | exact ps_body)) (fun hps => ?_)
      simp only [List.replicate]
      have kk := (Keep.refl (fun _ => False) (wk)).drew
      refine flowe_take 0 (v := ?_) (a' := ?_) hps rfl (by kernel_rfl) rfl ?_ ?_ ?_
      rotate_left 2
      · intro w' hk; go_simp; try rfl
      · simp only [Act.put, List.setIfInBounds_toArray, List.set_cons_succ, List.set_cons_zero]; try rfl
      refine flowe_take 1 (v := ?_) (a' := ?_) hps rfl (by kernel_rfl) rfl ?_ ?_ ?_
      rotate_left 2
      · intro w' hk; go_simp; try rfl
      · simp only [Act.put, List.setIfInBounds_toArray, List.set_cons_succ, List.set_cons_zero]; try rfl
      refine flowe_take 2 (v := ?_) (a' := ?_) hps rfl (by kernel_rfl) rfl ?_ ?_ ?_
      rotate_left 2
      · intro w' hk; go_simp; try rfl
      · simp only [Act.put, List.setIfInBounds_toArray, List.set_cons_succ, List.set_cons_zero]; try rfl
      refine flowe_take 5 (v := ?_) (a' := ?_) hps rfl (by kernel_rfl) rfl ?_ ?_ ?_
      rotate_left 2
      · intro w' hk; go_simp; try rfl
      · simp only [Act.put, List.setIfInBounds_toArray, List.set_cons_succ, List.set_cons_zero]; try rfl
      refine flowe_take 6 (v := ?_) (a' := ?_) hps rfl (by kernel_rfl) rfl ?_ ?_ ?_
      rotate_left 2
      · intro w' hk; have hs := run_s w' (HB3.out.keep hk (fun _ _ h => h)); go_simp; try rfl
      · simp only [Act.put, List.setIfInBounds_toArray, List.set_cons_succ, List.set_cons_zero]; try rfl
      refine flowe_one 3 hps rfl (by kernel_rfl) rfl (wp_next (fun K hK => ?_))
      go_simp
      with_reducible refine (law_Bytes _ q { base := bn, cap := 16384, b := S } va HVA.out).mono ?_
      rintro e w7 ⟨v7, rfl, o7, b7⟩
      have kp := Keep.of_below (F := fun _ => False) b7
      obtain ⟨a7, c7, rfl, _, hb7⟩ := Sl.of_owned o7
      have HB7 := Lib.hid (show Bs w7 a7 S.length c7 S from hb7)
      clear o7 b7 hb7
      refine hK _ _ (flow_step kk ?_ ?_)
      · first | exact kp | exact Keep.refl _ _ | exact (Keep.refl _ _).alloc _
      clear kk hK; try clear kp
      intro kk
      refine flowe_take 4 (v := ?_) (a' := ?_) hps rfl (by kernel_rfl) rfl ?_ ?_ ?_
      rotate_left 2
      · intro w' hk; have hs := run_s w' (HB7.out.keep hk (fun _ _ h => h)); go_simp; try rfl
      · simp only [Act.put, List.setIfInBounds_toArray, List.set_cons_succ, List.set_cons_zero]; try rfl
      refine flowe_take 7 (v := ?_) (a' := ?_) hps rfl (by kernel_rfl) rfl ?_ ?_ ?_
      rotate_left 2
      · intro w' hk; go_simp; try rfl
      · simp only [Act.put, List.setIfInBounds_toArray, List.set_cons_succ, List.set_cons_zero]; try rfl
      refine flowe_take 8 (v := ?_) (a' := ?_) hps rfl (by kernel_rfl) rfl ?_ ?_ ?_
      rotate_left 2
      · intro w' hk; go_simp; try rfl
      · simp only [Act.put, List.setIfInBounds_toArray, List.set_cons_succ, List.set_cons_zero]; try rfl
      refine flowe_take 9 (v := ?_) (a' := ?_) hps rfl (by kernel_rfl) rfl ?_ ?_ ?_
      rotate_left 2
      · intro w' hk; go_simp; try rfl
      · simp only [Act.put, List.setIfInBounds_toArray, List.set_cons_succ, List.set_cons_zero]; try rfl
      refine flowe_take 10 (v := ?_) (a' := ?_) hps rfl (by kernel_rfl) rfl ?_ ?_ ?_
      rotate_left 2
      · intro w' hk; go_simp; try rfl
      · simp only [Act.put, List.setIfInBounds_toArray, List.set_cons_succ, List.set_cons_zero]; try rfl
      refine flowe_take 11 (v := ?_) (a' := ?_) hps rfl (by kernel_rfl) rfl ?_ ?_ ?_
      rotate_left 2
      · intro w' hk; go_simp; try rfl
      · simp only [Act.put, List.setIfInBounds_toArray, List.set_cons_succ, List.set_cons_zero]; try rfl
      refine flowe_take 12 (v := ?_) (a' := ?_) hps rfl (by kernel_rfl) rfl ?_ ?_ ?_
      rotate_left 2
      · intro w' hk; go_simp; try rfl
      · simp only [Act.put, List.setIfInBounds_toArray, List.set_cons_succ, List.set_cons_zero]; try rfl
      refine flowe_take 13 (v := ?_) (a' := ?_) hps rfl (by kernel_rfl) rfl ?_ ?_ ?_
      rotate_left 2
      · intro w' hk; go_simp; try rfl
      · simp only [Act.put, List.setIfInBounds_toArray, List.set_cons_succ, List.set_cons_zero]; try rfl
      refine flowe_take 14 (v := ?_) (a' := ?_) hps rfl (by kernel_rfl) rfl ?_ ?_ ?_
      rotate_left 2
      · intro w' hk; go_simp; try rfl
      · simp only [Act.put, List.setIfInBounds_toArray, List.set_cons_succ, List.set_cons_zero]; try rfl
      refine flowe_take 15 (v := ?_) (a' := ?_) hps rfl (by kernel_rfl) rfl ?_ ?_ ?_
      rotate_left 2
      · intro w' hk; go_simp; try rfl
      · simp only [Act.put, List.setIfInBounds_toArray, List.set_cons_succ, List.set_cons_zero]; try rfl
      refine flowe_skip 16 (a' := ?_) hps rfl (by kernel_rfl) rfl ?_ ?_
      rotate_left 1
      · simp only [Act.put, List.setIfInBounds_toArray, List.set_cons_succ, List.set_cons_zero]; try rfl
      refine flowe_skip 17 (a' := ?_) hps rfl (by kernel_rfl) rfl ?_ ?_
      rotate_left 1
      · simp only [Act.put, List.setIfInBounds_toArray, List.set_cons_succ, List.set_cons_zero]; try rfl
      refine flowe_skip 18 (a' := ?_) hps rfl (by kernel_rfl) rfl ?_ ?_
      rotate_left 1
      · simp only [Act.put, List.setIfInBounds_toArray, List.set_cons_succ, List.set_cons_zero]; try rfl
      refine flowe_skip 19 (a' := ?_) hps rfl (by kernel_rfl) rfl ?_ ?_
      rotate_left 1
      · simp only [Act.put, List.setIfInBounds_toArray, List.set_cons_succ, List.set_cons_zero]; try rfl
      refine flowe_skip 20 (a' := ?_) hps rfl (by kernel_rfl) rfl ?_ ?_
      rotate_left 1
      · simp only [Act.put, List.setIfInBounds_toArray, List.set_cons_succ, List.set_cons_zero]; try rfl
      refine flowe_skip 21 (a' := ?_) hps rfl (by kernel_rfl) rfl ?_ ?_
      rotate_left 1
      · simp only [Act.put, List.setIfInBounds_toArray, List.set_cons_succ, List.set_cons_zero]; try rfl
      refine flowe_skip 22 (a' := ?_) hps rfl (by kernel_rfl) rfl ?_ ?_
      rotate_left 1
      · simp only [Act.put, List.setIfInBounds_toArray, List.set_cons_succ, List.set_cons_zero]; try rfl
      refine flowe_take 23 (v := ?_) (a' := ?_) hps rfl (by kernel_rfl) rfl ?_ ?_ ?_
      rotate_left 2
      · intro w' hk; go_simp; try rfl
      · simp only [Act.put, List.setIfInBounds_toArray, List.set_cons_succ, List.set_cons_zero]; try rfl
      refine flowe_take 24 (v := ?_) (a' := ?_) hps rfl (by kernel_rfl) rfl ?_ ?_ ?_
      rotate_left 2
      · intro w' hk; go_simp; try rfl
      · simp only [Act.put, List.setIfInBounds_toArray, List.set_cons_succ, List.set_cons_zero]; try rfl
      refine flowe_take 25 (v := ?_) (a' := ?_) hps rfl (by kernel_rfl) rfl ?_ ?_ ?_
      rotate_left 2
      · intro w' hk; go_simp; try rfl
      · simp only [Act.put, List.setIfInBounds_toArray, List.set_cons_succ, List.set_cons_zero]; try rfl
      refine flowe_done hps (by kernel_rfl) ?_
      have BZ := Lib.hid (TK.out.below (kk.below (Nat.le_refl _) fun _ _ h => h)).end
      clear kk
      go_wp2
      go_ret
      exact ⟨rfl, BZ.out⟩
  · try rw [show errO (some X) = .nilIface from rfl]
    try rw [show errO none = .iface 183 (.int .i64 3) from rfl]
    try rw [show errW none = .iface 183 (.int .i64 3) from rfl]
    go_wp2_with (first | (refine bk_loadg TE.out 2 rfl rfl _ rfl rfl ?_) | (refine bk_loadg TE.out 3 rfl rfl _ rfl rfl ?_) | (refine bk_loadg TE.out 4 rfl rfl _ rfl rfl ?_) | (refine bk_loadg TE.out 5 rfl rfl _ rfl rfl ?_))
    have kc := law_Blocks _ a1 c1 LZ a2 c2 LZ HS1.out HS2.out
    rw [if_pos rfl] at kc
    with_reducible refine kc.mono ?_
    clear kc
    rintro e wf ⟨rfl, bf⟩
    have BF := Lib.hid bf
    clear bf
    have TI := Lib.hid (TE.out.below BF.out)
    clear BF TE HS1 HS2
    go_wp2_with (first | (refine bk_load TI.out 7 rfl rfl _ rfl rfl ?_) | ((with_reducible refine (code_of _ 3 (by decide) (by decide)).mono ?_); rintro e w' ⟨rfl, rfl⟩))
    cases S with
    | none =>
      have kc := blk_Set TI.out (i := 6) rfl xo xs xu
      rw [show ({ base := bn, cap := 16384, b := b } : Ar).b = b from rfl, ← HSS.out, show errS none = .iface 183 (.int .i64 1) from rfl] at kc
      with_reducible refine kc.mono ?_
      clear kc
      rintro e wj ⟨rfl, tj⟩
      have TJ := Lib.hid tj
      clear tj
      go_wp2_with (refine bk_load TJ.out 7 rfl rfl _ rfl rfl ?_)
      have kc := rb_Set_no TJ.out a _ c b (HRD.out _ _ TJ.out) xo xs xu HSS.out.symm
      with_reducible refine kc.mono ?_
      clear kc
      rintro e wk ⟨rfl, tk⟩
      have TK := Lib.hid tk
      clear tk
      have HB3 := Lib.hid (HRD.out _ _ TK.out.drew)
      obtain ⟨va, hva⟩ := TK.out.drew.ar (i := 6) rfl
      have HVA := Lib.hid (show ArA _ q { base := bn, cap := 16384, b := b } va from hva)
      clear hva TI TJ
      go_wp2
      refine flowe_begin (F := fun _ => False) hmixed 26 rfl (by repeat (first | with_reducible refine ps_then ?_ | with_reducible refine ps_block ?_ | with_reducible exact ps_body | refine ps_then ?_ | refine ps_block ?_ | exact ps_body)) (fun hps => ?_)
      simp only [List.replicate]
      have kk := (Keep.refl (fun _ => False) (wk)).drew
      refine flowe_take 0 (v := ?_) (a' := ?_) hps rfl (by kernel_rfl) rfl ?_ ?_ ?_
      rotate_left 2
      · intro w' hk; go_simp; try rfl
      · simp only [Act.put, List.setIfInBounds_toArray, List.set_cons_succ, List.set_cons_zero]; try rfl
      refine flowe_take 1 (v := ?_) (a' := ?_) hps rfl (by kernel_rfl) rfl ?_ ?_ ?_
      rotate_left 2
      · intro w' hk; go_simp; try rfl
      · simp only [Act.put, List.setIfInBounds_toArray, List.set_cons_succ, List.set_cons_zero]; try rfl
      refine flowe_take 2 (v := ?_) (a' := ?_) hps rfl (by kernel_rfl) rfl ?_ ?_ ?_
      rotate_left 2
      · intro w' hk; go_simp; try rfl
      · simp only [Act.put, List.setIfInBounds_toArray, List.set_cons_succ, List.set_cons_zero]; try rfl
      refine flowe_take 5 (v := ?_) (a' := ?_) hps rfl (by kernel_rfl) rfl ?_ ?_ ?_
      rotate_left 2
      · intro w' hk; go_simp; try rfl
      · simp only [Act.put, List.setIfInBounds_toArray, List.set_cons_succ, List.set_cons_zero]; try rfl
      refine flowe_take 6 (v := ?_) (a' := ?_) hps rfl (by kernel_rfl) rfl ?_ ?_ ?_
      rotate_left 2
      · intro w' hk; have hs := run_s w' (HB3.out.keep hk (fun _ _ h => h)); go_simp; try rfl
      · simp only [Act.put, List.setIfInBounds_toArray, List.set_cons_succ, List.set_cons_zero]; try rfl
      refine flowe_one 3 hps rfl (by kernel_rfl) rfl (wp_next (fun K hK => ?_))
      go_simp
      with_reducible refine (law_Bytes _ q { base := bn, cap := 16384, b := b } va HVA.out).mono ?_
      rintro e w7 ⟨v7, rfl, o7, b7⟩
      have kp := Keep.of_below (F := fun _ => False) b7
      obtain ⟨a7, c7, rfl, _, hb7⟩ := Sl.of_owned o7
      have HB7 := Lib.hid (show Bs w7 a7 b.length c7 b from hb7)
      clear o7 b7 hb7
      refine hK _ _ (flow_step kk ?_ ?_)
      · first | exact kp | exact Keep.refl _ _ | exact (Keep.refl _ _).alloc _
      clear kk hK; try clear kp
      intro kk
      refine flowe_take 4 (v := ?_) (a' := ?_) hps rfl (by kernel_rfl) rfl ?_ ?_ ?_
      rotate_left 2
      · intro w' hk; have hs := run_s w' (HB7.out.keep hk (fun _ _ h => h)); go_simp; try rfl
      · simp only [Act.put, List.setIfInBounds_toArray, List.set_cons_succ, List.set_cons_zero]; try rfl
      refine flowe_take 7 (v := ?_) (a' := ?_) hps rfl (by kernel_rfl) rfl ?_ ?_ ?_
      rotate_left 2
      · intro w' hk; go_simp; try rfl
      · simp only [Act.put, List.setIfInBounds_toArray, List.set_cons_succ, List.set_cons_zero]; try rfl
      refine flowe_take 8 (v := ?_) (a' := ?_) hps rfl (by kernel_rfl) rfl ?_ ?_ ?_
      rotate_left 2
      · intro w' hk; go_simp; try rfl
      · simp only [Act.put, List.setIfInBounds_toArray, List.set_cons_succ, List.set_cons_zero]; try rfl
      refine flowe_take 9 (v := ?_) (a' := ?_) hps rfl (by kernel_rfl) rfl ?_ ?_ ?_
      rotate_left 2
      · intro w' hk; go_simp; try rfl
      · simp only [Act.put, List.setIfInBounds_toArray, List.set_cons_succ, List.set_cons_zero]; try rfl
      refine flowe_take 10 (v := ?_) (a' := ?_) hps rfl (by kernel_rfl) rfl ?_ ?_ ?_
      rotate_left 2
      · intro w' hk; go_simp; try rfl
      · simp only [Act.put, List.setIfInBounds_toArray, List.set_cons_succ, List.set_cons_zero]; try rfl
      refine flowe_take 11 (v := ?_) (a' := ?_) hps rfl (by kernel_rfl) rfl ?_ ?_ ?_
      rotate_left 2
      · intro w' hk; go_simp; try rfl
      · simp only [Act.put, List.setIfInBounds_toArray, List.set_cons_succ, List.set_cons_zero]; try rfl
      refine flowe_skip 12 (a' := ?_) hps rfl (by kernel_rfl) rfl ?_ ?_
      rotate_left 1
      · simp only [Act.put, List.setIfInBounds_toArray, List.set_cons_succ, List.set_cons_zero]; try rfl
      refine flowe_skip 13 (a' := ?_) hps rfl (by kernel_rfl) rfl ?_ ?_
      rotate_left 1
      · simp only [Act.put, List.setIfInBounds_toArray, List.set_cons_succ, List.set_cons_zero]; try rfl
      refine flowe_take 14 (v := ?_) (a' := ?_) hps rfl (by kernel_rfl) rfl ?_ ?_ ?_
      rotate_left 2
      · intro w' hk; go_simp; try rfl
      · simp only [Act.put, List.setIfInBounds_toArray, List.set_cons_succ, List.set_cons_zero]; try rfl
      refine flowe_take 15 (v := ?_) (a' := ?_) hps rfl (by kernel_rfl) rfl ?_ ?_ ?_
      rotate_left 2
      · intro w' hk; go_simp; try rfl
      · simp only [Act.put, List.setIfInBounds_toArray, List.set_cons_succ, List.set_cons_zero]; try rfl
      refine flowe_take 16 (v := ?_) (a' := ?_) hps rfl (by kernel_rfl) rfl ?_ ?_ ?_
      rotate_left 2
      · intro w' hk; go_simp; try rfl
      · simp only [Act.put, List.setIfInBounds_toArray, List.set_cons_succ, List.set_cons_zero]; try rfl
      refine flowe_take 17 (v := ?_) (a' := ?_) hps rfl (by kernel_rfl) rfl ?_ ?_ ?_
      rotate_left 2
      · intro w' hk; go_simp; try rfl
      · simp only [Act.put, List.setIfInBounds_toArray, List.set_cons_succ, List.set_cons_zero]; try rfl
      refine flowe_take 18 (v := ?_) (a' := ?_) hps rfl (by kernel_rfl) rfl ?_ ?_ ?_
      rotate_left 2
      · intro w' hk; go_simp; try rfl
      · simp only [Act.put, List.setIfInBounds_toArray, List.set_cons_succ, List.set_cons_zero]; try rfl
      refine flowe_take 19 (v := ?_) (a' := ?_) hps rfl (by kernel_rfl) rfl ?_ ?_ ?_
      rotate_left 2
      · intro w' hk; go_simp; try rfl
      · simp only [Act.put, List.setIfInBounds_toArray, List.set_cons_succ, List.set_cons_zero]; try rfl
      refine flowe_one 20 hps rfl (by kernel_rfl) rfl (wp_next (fun K hK => ?_))
      go_simp
      with_reducible refine (code_of _ 1 (by decide) (by decide)).mono ?_
      rintro e w' ⟨rfl, rfl⟩
      refine hK _ _ (flow_step kk ?_ ?_)
      · first | exact kp | exact Keep.refl _ _ | exact (Keep.refl _ _).alloc _
      clear kk hK; try clear kp
      intro kk
      refine flowe_take 21 (v := ?_) (a' := ?_) hps rfl (by kernel_rfl) rfl ?_ ?_ ?_
      rotate_left 2
      · intro w' hk; go_simp; try rfl
      · simp only [Act.put, List.setIfInBounds_toArray, List.set_cons_succ, List.set_cons_zero]; try rfl
      refine flowe_take 22 (v := ?_) (a' := ?_) hps rfl (by kernel_rfl) rfl ?_ ?_ ?_
      rotate_left 2
      · intro w' hk; go_simp; try rfl
      · simp only [Act.put, List.setIfInBounds_toArray, List.set_cons_succ, List.set_cons_zero]; try rfl
      refine flowe_take 23 (v := ?_) (a' := ?_) hps rfl (by kernel_rfl) rfl ?_ ?_ ?_
      rotate_left 2
      · intro w' hk; go_simp; try rfl
      · simp only [Act.put, List.setIfInBounds_toArray, List.set_cons_succ, List.set_cons_zero]; try rfl
      refine flowe_take 24 (v := ?_) (a' := ?_) hps rfl (by kernel_rfl) rfl ?_ ?_ ?_
      rotate_left 2
      · intro w' hk; go_simp; try rfl
      · simp only [Act.put, List.setIfInBounds_toArray, List.set_cons_succ, List.set_cons_zero]; try rfl
      refine flowe_take 25 (v := ?_) (a' := ?_) hps rfl (by kernel_rfl) rfl ?_ ?_ ?_
      rotate_left 2
      · intro w' hk; go_simp; try rfl
      · simp only [Act.put, List.setIfInBounds_toArray, List.set_cons_succ, List.set_cons_zero]; try rfl
      refine flowe_done hps (by kernel_rfl) ?_
      have BZ := Lib.hid (TK.out.below (kk.below (Nat.le_refl _) fun _ _ h => h)).end
      clear kk
      go_wp2
      go_ret
      exact ⟨rfl, BZ.out⟩
    | some S =>
      have kc := blk_Set TI.out (i := 6) rfl xo xs xu
      rw [show ({ base := bn, cap := 16384, b := b } : Ar).b = b from rfl, ← HSS.out, show errS (some S) = .nilIface from rfl] at kc
      with_reducible refine kc.mono ?_
      clear kc
      rintro e wj ⟨rfl, tj⟩
      have TJ := Lib.hid tj
      clear tj
      go_wp2_with (refine bk_load TJ.out 7 rfl rfl _ rfl rfl ?_)
      have kc := rb_Set_ok TJ.out a _ c b (HRD.out _ _ TJ.out) (by omega) xo xs xu S HSS.out.symm
      with_reducible refine kc.mono ?_
      clear kc
      rintro e wk ⟨v3, rfl, tk⟩
      have TK := Lib.hid tk
      clear tk
      obtain ⟨a3, c3, rfl, _⟩ := TK.out.bsOwn (i := 0) rfl
      have HB3 := Lib.hid (TK.out.drew.bsV (i := 0) rfl)
      obtain ⟨va, hva⟩ := TK.out.drew.ar (i := 7) rfl
      have HVA := Lib.hid (show ArA _ q { base := bn, cap := 16384, b := S } va from hva)
      clear hva TI TJ
      go_wp2
      refine flowe_begin (F := fun _ => False) hmixed 26 rfl (by repeat (first | with_reducible refine ps_then ?_ | with_reducible refine ps_block ?_ | with_reducible exact ps_body | refine ps_then ?_ | refine ps_block ?_ | exact ps_body)) (fun hps => ?_)
      simp only [List.replicate]
      have kk := (Keep.refl (fun _ => False) (wk)).drew
      refine flowe_take 0 (v := ?_) (a' := ?_) hps rfl (by kernel_rfl) rfl ?_ ?_ ?_
      rotate_left 2
      · intro w' hk; go_simp; try rfl
      · simp only [Act.put, List.setIfInBounds_toArray, List.set_cons_succ, List.set_cons_zero]; try rfl
      refine flowe_take 1 (v := ?_) (a' := ?_) hps rfl (by kernel_rfl) rfl ?_ ?_ ?_
      rotate_left 2
      · intro w' hk; go_simp; try rfl
      · simp only [Act.put, List.setIfInBounds_toArray, List.set_cons_succ, List.set_cons_zero]; try rfl
      refine flowe_take 2 (v := ?_) (a' := ?_) hps rfl (by kernel_rfl) rfl ?_ ?_ ?_
      rotate_left 2
      · intro w' hk; go_simp; try rfl
      · simp only [Act.put, List.setIfInBounds_toArray, List.set_cons_succ, List.set_cons_zero]; try rfl
      refine flowe_take 5 (v := ?_) (a' := ?_) hps rfl (by kernel_rfl) rfl ?_ ?_ ?_
      rotate_left 2
      · intro w' hk; go_simp; try rfl
      · simp only [Act.put, List.setIfInBounds_toArray, List.set_cons_succ, List.set_cons_zero]; try rfl
      refine flowe_take 6 (v := ?_) (a' := ?_) hps rfl (by kernel_rfl) rfl ?_ ?_ ?_
      rotate_left 2
      · intro w' hk; have hs := run_s w' (HB3.out.keep hk (fun _ _ h => h)); go_simp; try rfl
      · simp only [Act.put, List.setIfInBounds_toArray, List.set_cons_succ, List.set_cons_zero]; try rfl
      refine flowe_one 3 hps rfl (by kernel_rfl) rfl (wp_next (fun K hK => ?_))
      go_simp
      with_reducible refine (law_Bytes _ q { base := bn, cap := 16384, b := S } va HVA.out).mono ?_
      rintro e w7 ⟨v7, rfl, o7, b7⟩
      have kp := Keep.of_below (F := fun _ => False) b7
      obtain ⟨a7, c7, rfl, _, hb7⟩ := Sl.of_owned o7
      have HB7 := Lib.hid (show Bs w7 a7 S.length c7 S from hb7)
      clear o7 b7 hb7
      refine hK _ _ (flow_step kk ?_ ?_)
      · first | exact kp | exact Keep.refl _ _ | exact (Keep.refl _ _).alloc _
      clear kk hK; try clear kp
      intro kk
      refine flowe_take 4 (v := ?_) (a' := ?_) hps rfl (by kernel_rfl) rfl ?_ ?_ ?_
      rotate_left 2
      · intro w' hk; have hs := run_s w' (HB7.out.keep hk (fun _ _ h => h)); go_simp; try rfl
      · simp only [Act.put, List.setIfInBounds_toArray, List.set_cons_succ, List.set_cons_zero]; try rfl
      refine flowe_take 7 (v := ?_) (a' := ?_) hps rfl (by kernel_rfl) rfl ?_ ?_ ?_
      rotate_left 2
      · intro w' hk; go_simp; try rfl
      · simp only [Act.put, List.setIfInBounds_toArray, List.set_cons_succ, List.set_cons_zero]; try rfl
      refine flowe_take 8 (v := ?_) (a' := ?_) hps rfl (by kernel_rfl) rfl ?_ ?_ ?_
      rotate_left 2
      · intro w' hk; go_simp; try rfl
      · simp only [Act.put, List.setIfInBounds_toArray, List.set_cons_succ, List.set_cons_zero]; try rfl
      refine flowe_take 9 (v := ?_) (a' := ?_) hps rfl (by kernel_rfl) rfl ?_ ?_ ?_
      rotate_left 2
      · intro w' hk; go_simp; try rfl
      · simp only [Act.put, List.setIfInBounds_toArray, List.set_cons_succ, List.set_cons_zero]; try rfl
      refine flowe_take 10 (v := ?_) (a' := ?_) hps rfl (by kernel_rfl) rfl ?_ ?_ ?_
      rotate_left 2
      · intro w' hk; go_simp; try rfl
      · simp only [Act.put, List.setIfInBounds_toArray, List.set_cons_succ, List.set_cons_zero]; try rfl
      refine flowe_take 11 (v := ?_) (a' := ?_) hps rfl (by kernel_rfl) rfl ?_ ?_ ?_
      rotate_left 2
      · intro w' hk; go_simp; try rfl
      · simp only [Act.put, List.setIfInBounds_toArray, List.set_cons_succ, List.set_cons_zero]; try rfl
      refine flowe_take 12 (v := ?_) (a' := ?_) hps rfl (by kernel_rfl) rfl ?_ ?_ ?_
      rotate_left 2
      · intro w' hk; go_simp; try rfl
      · simp only [Act.put, List.setIfInBounds_toArray, List.set_cons_succ, List.set_cons_zero]; try rfl
      refine flowe_take 13 (v := ?_) (a' := ?_) hps rfl (by kernel_rfl) rfl ?_ ?_ ?_
      rotate_left 2
      · intro w' hk; go_simp; try rfl
      · simp only [Act.put, List.setIfInBounds_toArray, List.set_cons_succ, List.set_cons_zero]; try rfl
      refine flowe_take 14 (v := ?_) (a' := ?_) hps rfl (by kernel_rfl) rfl ?_ ?_ ?_
      rotate_left 2
      · intro w' hk; go_simp; try rfl
      · simp only [Act.put, List.setIfInBounds_toArray, List.set_cons_succ, List.set_cons_zero]; try rfl
      refine flowe_take 15 (v := ?_) (a' := ?_) hps rfl (by kernel_rfl) rfl ?_ ?_ ?_
      rotate_left 2
      · intro w' hk; go_simp; try rfl
      · simp only [Act.put, List.setIfInBounds_toArray, List.set_cons_succ, List.set_cons_zero]; try rfl
      refine flowe_skip 16 (a' := ?_) hps rfl (by kernel_rfl) rfl ?_ ?_
      rotate_left 1
      · simp only [Act.put, List.setIfInBounds_toArray, List.set_cons_succ, List.set_cons_zero]; try rfl
      refine flowe_skip 17 (a' := ?_) hps rfl (by kernel_rfl) rfl ?_ ?_
      rotate_left 1
      · simp only [Act.put, List.setIfInBounds_toArray, List.set_cons_succ, List.set_cons_zero]; try rfl
      refine flowe_skip 18 (a' := ?_) hps rfl (by kernel_rfl) rfl ?_ ?_
      rotate_left 1
      · simp only [Act.put, List.setIfInBounds_toArray, List.set_cons_succ, List.set_cons_zero]; try rfl
      refine flowe_skip 19 (a' := ?_) hps rfl (by kernel_rfl) rfl ?_ ?_
      rotate_left 1
      · simp only [Act.put, List.setIfInBounds_toArray, List.set_cons_succ, List.set_cons_zero]; try rfl
      refine flowe_skip 20 (a' := ?_) hps rfl (by kernel_rfl) rfl ?_ ?_
      rotate_left 1
      · simp only [Act.put, List.setIfInBounds_toArray, List.set_cons_succ, List.set_cons_zero]; try rfl
      refine flowe_skip 21 (a' := ?_) hps rfl (by kernel_rfl) rfl ?_ ?_
      rotate_left 1
      · simp only [Act.put, List.setIfInBounds_toArray, List.set_cons_succ, List.set_cons_zero]; try rfl
      refine flowe_skip 22 (a' := ?_) hps rfl (by kernel_rfl) rfl ?_ ?_
      rotate_left 1
      · simp only [Act.put, List.setIfInBounds_toArray, List.set_cons_succ, List.set_cons_zero]; try rfl
      refine flowe_take 23 (v := ?_) (a' := ?_) hps rfl (by kernel_rfl) rfl ?_ ?_ ?_
      rotate_left 2
      · intro w' hk; go_simp; try rfl
      · simp only [Act.put, List.setIfInBounds_toArray, List.set_cons_succ, List.set_cons_zero]; try rfl
      refine flowe_take 24 (v := ?_) (a' := ?_) hps rfl (by kernel_rfl) rfl ?_ ?_ ?_
      rotate_left 2
      · intro w' hk; go_simp; try rfl
      · simp only [Act.put, List.setIfInBounds_toArray, List.set_cons_succ, List.set_cons_zero]; try rfl
      refine flowe_take 25 (v := ?_) (a' := ?_) hps rfl (by kernel_rfl) rfl ?_ ?_ ?_
      rotate_left 2
      · intro w' hk; go_simp; try rfl
      · simp only [Act.put, List.setIfInBounds_toArray, List.set_cons_succ, List.set_cons_zero]; try rfl
      refine flowe_done hps (by kernel_rfl) ?_
      have BZ := Lib.hid (TK.out.below (kk.below (Nat.le_refl _) fun _ _ h => h)).end
      clear kk
      go_wp2
      go_ret
      exact ⟨rfl, BZ.out⟩
  · try rw [show errO (some X) = .nilIface from rfl]
    try rw [show errO none = .iface 183 (.int .i64 3) from rfl]
    try rw [show errW (some Z) = .nilIface from rfl]
    go_wp2_with (first | (refine bk_loadg TE.out 2 rfl rfl _ rfl rfl ?_) | (refine bk_loadg TE.out 3 rfl rfl _ rfl rfl ?_) | (refine bk_loadg TE.out 4 rfl rfl _ rfl rfl ?_) | (refine bk_loadg TE.out 5 rfl rfl _ rfl rfl ?_))
    have kc := law_Blocks _ a1 c1 LZ a2 c2 LZ HS1.out HS2.out
    rw [if_pos rfl] at kc
    with_reducible refine kc.mono ?_
    clear kc
    rintro e wf ⟨rfl, bf⟩
    have BF := Lib.hid bf
    clear bf
    have TI := Lib.hid (TE.out.below BF.out)
    clear BF TE HS1 HS2
    go_wp2_with (first | (refine bk_load TI.out 7 rfl rfl _ rfl rfl ?_) | ((with_reducible refine (code_of _ 3 (by decide) (by decide)).mono ?_); rintro e w' ⟨rfl, rfl⟩))
    cases S with
    | none =>
      have kc := blk_Set TI.out (i := 6) rfl xo xs xu
      rw [show ({ base := bn, cap := 16384, b := b } : Ar).b = b from rfl, ← HSS.out, show errS none = .iface 183 (.int .i64 1) from rfl] at kc
      with_reducible refine kc.mono ?_
      clear kc
      rintro e wj ⟨rfl, tj⟩
      have TJ := Lib.hid tj
      clear tj
      go_wp2_with (refine bk_load TJ.out 7 rfl rfl _ rfl rfl ?_)
      have kc := rb_Set_no TJ.out a _ c b (HRD.out _ _ TJ.out) xo xs xu HSS.out.symm
      with_reducible refine kc.mono ?_
      clear kc
      rintro e wk ⟨rfl, tk⟩
      have TK := Lib.hid tk
      clear tk
      have HB3 := Lib.hid (HRD.out _ _ TK.out.drew)
      obtain ⟨va, hva⟩ := TK.out.drew.ar (i := 6) rfl
      have HVA := Lib.hid (show ArA _ q { base := bn, cap := 16384, b := b } va from hva)
      clear hva TI TJ
      go_wp2
      refine flowe_begin (F := fun _ => False) hmixed 26 rfl (by repeat (first | with_reducible refine ps_then ?_ | with_reducible refine ps_block ?_ | with_reducible exact ps_body | refine ps_then ?_ | refine ps_block ?_ | exact ps_body)) (fun hps => ?_)
      simp only [List.replicate]
      have kk := (Keep.refl (fun _ => False) (wk)).drew
      refine flowe_take 0 (v := ?_) (a' := ?_) hps rfl (by kernel_rfl) rfl ?_ ?_ ?_
      rotate_left 2
      · intro w' hk; go_simp; try rfl
      · simp only [Act.put, List.setIfInBounds_toArray, List.set_cons_succ, List.set_cons_zero]; try rfl
      refine flowe_take 1 (v := ?_) (a' := ?_) hps rfl (by kernel_rfl) rfl ?_ ?_ ?_
      rotate_left 2
      · intro w' hk; go_simp; try rfl
      · simp only [Act.put, List.setIfInBounds_toArray, List.set_cons_succ, List.set_cons_zero]; try rfl
      refine flowe_take 2 (v := ?_) (a' := ?_) hps rfl (by kernel_rfl) rfl ?_ ?_ ?_
      rotate_left 2
      · intro w' hk; go_simp; try rfl
      · simp only [Act.put, List.setIfInBounds_toArray, List.set_cons_succ, List.set_cons_zero]; try rfl
      refine flowe_take 5 (v := ?_) (a' := ?_) hps rfl (by kernel_rfl) rfl ?_ ?_ ?_
      rotate_left 2
      · intro w' hk; go_simp; try rfl
      · simp only [Act.put, List.setIfInBounds_toArray, List.set_cons_succ, List.set_cons_zero]; try rfl
      refine flowe_take 6 (v := ?_) (a' := ?_) hps rfl (by kernel_rfl) rfl ?_ ?_ ?_
      rotate_left 2
      · intro w' hk; have hs := run_s w' (HB3.out.keep hk (fun _ _ h => h)); go_simp; try rfl
      · simp only [Act.put, List.setIfInBounds_toArray, List.set_cons_succ, List.set_cons_zero]; try rfl
      refine flowe_one 3 hps rfl (by kernel_rfl) rfl (wp_next (fun K hK => ?_))
      go_simp
      with_reducible refine (law_Bytes _ q { base := bn, cap := 16384, b := b } va HVA.out).mono ?_
      rintro e w7 ⟨v7, rfl, o7, b7⟩
      have kp := Keep.of_below (F := fun _ => False) b7
      obtain ⟨a7, c7, rfl, _, hb7⟩ := Sl.of_owned o7
      have HB7 := Lib.hid (show Bs w7 a7 b.length c7 b from hb7)
      clear o7 b7 hb7
      refine hK _ _ (flow_step kk ?_ ?_)
      · first | exact kp | exact Keep.refl _ _ | exact (Keep.refl _ _).alloc _
      clear kk hK; try clear kp
      intro kk
      refine flowe_take 4 (v := ?_) (a' := ?_) hps rfl (by kernel_rfl) rfl ?_ ?_ ?_
      rotate_left 2
      · intro w' hk; have hs := run_s w' (HB7.out.keep hk (fun _ _ h => h)); go_simp; try rfl
      · simp only [Act.put, List.setIfInBounds_toArray, List.set_cons_succ, List.set_cons_zero]; try rfl
      refine flowe_take 7 (v := ?_) (a' := ?_) hps rfl (by kernel_rfl) rfl ?_ ?_ ?_
      rotate_left 2
      · intro w' hk; go_simp; try rfl
      · simp only [Act.put, List.setIfInBounds_toArray, List.set_cons_succ, List.set_cons_zero]; try rfl
      refine flowe_take 8 (v := ?_) (a' := ?_) hps rfl (by kernel_rfl) rfl ?_ ?_ ?_
      rotate_left 2
      · intro w' hk; go_simp; try rfl
      · simp only [Act.put, List.setIfInBounds_toArray, List.set_cons_succ, List.set_cons_zero]; try rfl
      refine flowe_take 9 (v := ?_) (a' := ?_) hps rfl (by kernel_rfl) rfl ?_ ?_ ?_
      rotate_left 2
      · intro w' hk; go_simp; try rfl
      · simp only [Act.put, List.setIfInBounds_toArray, List.set_cons_succ, List.set_cons_zero]; try rfl
      refine flowe_take 10 (v := ?_) (a' := ?_) hps rfl (by kernel_rfl) rfl ?_ ?_ ?_
      rotate_left 2
      · intro w' hk; go_simp; try rfl
      · simp only [Act.put, List.setIfInBounds_toArray, List.set_cons_succ, List.set_cons_zero]; try rfl
      refine flowe_take 11 (v := ?_) (a' := ?_) hps rfl (by kernel_rfl) rfl ?_ ?_ ?_
      rotate_left 2
      · intro w' hk; go_simp; try rfl
      · simp only [Act.put, List.setIfInBounds_toArray, List.set_cons_succ, List.set_cons_zero]; try rfl
      refine flowe_skip 12 (a' := ?_) hps rfl (by kernel_rfl) rfl ?_ ?_
      rotate_left 1
      · simp only [Act.put, List.setIfInBounds_toArray, List.set_cons_succ, List.set_cons_zero]; try rfl
      refine flowe_skip 13 (a' := ?_) hps rfl (by kernel_rfl) rfl ?_ ?_
      rotate_left 1
      · simp only [Act.put, List.setIfInBounds_toArray, List.set_cons_succ, List.set_cons_zero]; try rfl
      refine flowe_take 14 (v := ?_) (a' := ?_) hps rfl (by kernel_rfl) rfl ?_ ?_ ?_
      rotate_left 2
      · intro w' hk; go_simp; try rfl
      · simp only [Act.put, List.setIfInBounds_toArray, List.set_cons_succ, List.set_cons_zero]; try rfl
      refine flowe_take 15 (v := ?_) (a' := ?_) hps rfl (by kernel_rfl) rfl ?_ ?_ ?_
      rotate_left 2
      · intro w' hk; go_simp; try rfl
      · simp only [Act.put, List.setIfInBounds_toArray, List.set_cons_succ, List.set_cons_zero]; try rfl
      refine flowe_take 16 (v := ?_) (a' := ?_) hps rfl (by kernel_rfl) rfl ?_ ?_ ?_
      rotate_left 2
      · intro w' hk; go_simp; try rfl
      · simp only [Act.put, List.setIfInBounds_toArray, List.set_cons_succ, List.set_cons_zero]; try rfl
      refine flowe_take 17 (v := ?_) (a' := ?_) hps rfl (by kernel_rfl) rfl ?_ ?_ ?_
      rotate_left 2
      · intro w' hk; go_simp; try rfl
      · simp only [Act.put, List.setIfInBounds_toArray, List.set_cons_succ, List.set_cons_zero]; try rfl
      refine flowe_take 18 (v := ?_) (a' := ?_) hps rfl (by kernel_rfl) rfl ?_ ?_ ?_
      rotate_left 2
      · intro w' hk; go_simp; try rfl
      · simp only [Act.put, List.setIfInBounds_toArray, List.set_cons_succ, List.set_cons_zero]; try rfl
      refine flowe_take 19 (v := ?_) (a' := ?_) hps rfl (by kernel_rfl) rfl ?_ ?_ ?_
      rotate_left 2
      · intro w' hk; go_simp; try rfl
      · simp only [Act.put, List.setIfInBounds_toArray, List.set_cons_succ, List.set_cons_zero]; try rfl
      refine flowe_one 20 hps rfl (by kernel_rfl) rfl (wp_next (fun K hK => ?_))
      go_simp
      with_reducible refine (code_of _ 1 (by decide) (by decide)).mono ?_
      rintro e w' ⟨rfl, rfl⟩
      refine hK _ _ (flow_step kk ?_ ?_)
      · first | exact kp | exact Keep.refl _ _ | exact (Keep.refl _ _).alloc _
      clear kk hK; try clear kp
      intro kk
      refine flowe_take 21 (v := ?_) (a' := ?_) hps rfl (by kernel_rfl) rfl ?_ ?_ ?_
      rotate_left 2
      · intro w' hk; go_simp; try rfl
      · simp only [Act.put, List.setIfInBounds_toArray, List.set_cons_succ, List.set_cons_zero]; try rfl
      refine flowe_take 22 (v := ?_) (a' := ?_) hps rfl (by kernel_rfl) rfl ?_ ?_ ?_
      rotate_left 2
      · intro w' hk; go_simp; try rfl
      · simp only [Act.put, List.setIfInBounds_toArray, List.set_cons_succ, List.set_cons_zero]; try rfl
      refine flowe_take 23 (v := ?_) (a' := ?_) hps rfl (by kernel_rfl) rfl ?_ ?_ ?_
      rotate_left 2
      · intro w' hk; go_simp; try rfl
      · simp only [Act.put, List.setIfInBounds_toArray, List.set_cons_succ, List.set_cons_zero]; try rfl
      refine flowe_take 24 (v := ?_) (a' := ?_) hps rfl (by kernel_rfl) rfl ?_ ?_ ?_
      rotate_left 2
      · intro w' hk; go_simp; try rfl
      · simp only [Act.put, List.setIfInBounds_toArray, List.set_cons_succ, List.set_cons_zero]; try rfl
      refine flowe_take 25 (v := ?_) (a' := ?_) hps rfl (by kernel_rfl) rfl ?_ ?_ ?_
      rotate_left 2
      · intro w' hk; go_simp; try rfl
      · simp only [Act.put, List.setIfInBounds_toArray, List.set_cons_succ, List.set_cons_zero]; try rfl
      refine flowe_done hps (by kernel_rfl) ?_
      have BZ := Lib.hid (TK.out.below (kk.below (Nat.le_refl _) fun _ _ h => h)).end
      clear kk
      go_wp2
      go_ret
      exact ⟨rfl, BZ.out⟩
    | some S =>
      have kc := blk_Set TI.out (i := 6) rfl xo xs xu
      rw [show ({ base := bn, cap := 16384, b := b } : Ar).b = b from rfl, ← HSS.out, show errS (some S) = .nilIface from rfl] at kc
      with_reducible refine kc.mono ?_
      clear kc
      rintro e wj ⟨rfl, tj⟩
      have TJ := Lib.hid tj
      clear tj
      go_wp2_with (refine bk_load TJ.out 7 rfl rfl _ rfl rfl ?_)
      have kc := rb_Set_ok TJ.out a _ c b (HRD.out _ _ TJ.out) (by omega) xo xs xu S HSS.out.symm
      with_reducible refine kc.mono ?_
      clear kc
      rintro e wk ⟨v3, rfl, tk⟩
      have TK := Lib.hid tk
      clear tk
      obtain ⟨a3, c3, rfl, _⟩ := TK.out.bsOwn (i := 0) rfl
      have HB3 := Lib.hid (TK.out.drew.bsV (i := 0) rfl)
      obtain ⟨va, hva⟩ := TK.out.drew.ar (i := 7) rfl
      have HVA := Lib.hid (show ArA _ q { base := bn, cap := 16384, b := S } va from hva)
      clear hva TI TJ
      go_wp2
      refine flowe_begin (F := fun _ => False) hmixed 26 rfl (by repeat (first | with_reducible refine ps_then ?_ | with_reducible refine ps_block ?_ | with_reducible exact ps_body | refine ps_then ?_ | refine ps_block ?_ | exact ps_body)) (fun hps => ?_)
      simp only [List.replicate]
      have kk := (Keep.refl (fun _ => False) (wk)).drew
      refine flowe_take 0 (v := ?_) (a' := ?_) hps rfl (by kernel_rfl) rfl ?_ ?_ ?_
      rotate_left 2
      · intro w' hk; go_simp; try rfl
      · simp only [Act.put, List.setIfInBounds_toArray, List.set_cons_succ, List.set_cons_zero]; try rfl
      refine flowe_take 1 (v := ?_) (a' := ?_) hps rfl (by kernel_rfl) rfl ?_ ?_ ?_
      rotate_left 2
      · intro w' hk; go_simp; try rfl
      · simp only [Act.put, List.setIfInBounds_toArray, List.set_cons_succ, List.set_cons_zero]; try rfl
      refine flowe_take 2 (v := ?_) (a' := ?_) hps rfl (by kernel_rfl) rfl ?_ ?_ ?_
      rotate_left 2
      · intro w' hk; go_simp; try rfl
      · simp only [Act.put, List.setIfInBounds_toArray, List.set_cons_succ, List.set_cons_zero]; try rfl
      refine flowe_take 5 (v := ?_) (a' := ?_) hps rfl (by kernel_rfl) rfl ?_ ?_ ?_
      rotate_left 2
      · intro w' hk; go_simp; try rfl
      · simp only [Act.put, List.setIfInBounds_toArray, List.set_cons_succ, List.set_cons_zero]; try rfl
      refine flowe_take 6 (v := ?_) (a' := ?_) hps rfl (by kernel_rfl) rfl ?_ ?_ ?_
      rotate_left 2
      · intro w' hk; have hs := run_s w' (HB3.out.keep hk (fun _ _ h => h)); go_simp; try rfl
      · simp only [Act.put, List.setIfInBounds_toArray, List.set_cons_succ, List.set_cons_zero]; try rfl
      refine flowe_one 3 hps rfl (by kernel_rfl) rfl (wp_next (fun K hK => ?_))
      go_simp
      with_reducible refine (law_Bytes _ q { base := bn, cap := 16384, b := S } va HVA.out).mono ?_
      rintro e w7 ⟨v7, rfl, o7, b7⟩
      have kp := Keep.of_below (F := fun _ => False) b7
      obtain ⟨a7, c7, rfl, _, hb7⟩ := Sl.of_owned o7
      have HB7 := Lib.hid (show Bs w7 a7 S.length c7 S from hb7)
      clear o7 b7 hb7
      refine hK _ _ (flow_step kk ?_ ?_)
      · first | exact kp | exact Keep.refl _ _ | exact (Keep.refl _ _).alloc _
      clear kk hK; try clear kp
      intro kk
      refine flowe_take 4 (v := ?_) (a' := ?_) hps rfl (by kernel_rfl) rfl ?_ ?_ ?_
      rotate_left 2
      · intro w' hk; have hs := run_s w' (HB7.out.keep hk (fun _ _ h => h)); go_simp; try rfl
      · simp only [Act.put, List.setIfInBounds_toArray, List.set_cons_succ, List.set_cons_zero]; try rfl
      refine flowe_take 7 (v := ?_) (a' := ?_) hps rfl (by kernel_rfl) rfl ?_ ?_ ?_
      rotate_left 2
      · intro w' hk; go_simp; try rfl
      · simp only [Act.put, List.setIfInBounds_toArray, List.set_cons_succ, List.set_cons_zero]; try rfl
      refine flowe_take 8 (v := ?_) (a' := ?_) hps rfl (by kernel_rfl) rfl ?_ ?_ ?_
      rotate_left 2
      · intro w' hk; go_simp; try rfl
      · simp only [Act.put, List.setIfInBounds_toArray, List.set_cons_succ, List.set_cons_zero]; try rfl
      refine flowe_take 9 (v := ?_) (a' := ?_) hps rfl (by kernel_rfl) rfl ?_ ?_ ?_
      rotate_left 2
      · intro w' hk; go_simp; try rfl
      · simp only [Act.put, List.setIfInBounds_toArray, List.set_cons_succ, List.set_cons_zero]; try rfl
      refine flowe_take 10 (v := ?_) (a' := ?_) hps rfl (by kernel_rfl) rfl ?_ ?_ ?_
      rotate_left 2
      · intro w' hk; go_simp; try rfl
      · simp only [Act.put, List.setIfInBounds_toArray, List.set_cons_succ, List.set_cons_zero]; try rfl
      refine flowe_take 11 (v := ?_) (a' := ?_) hps rfl (by kernel_rfl) rfl ?_ ?_ ?_
      rotate_left 2
      · intro w' hk; go_simp; try rfl
      · simp only [Act.put, List.setIfInBounds_toArray, List.set_cons_succ, List.set_cons_zero]; try rfl
      refine flowe_take 12 (v := ?_) (a' := ?_) hps rfl (by kernel_rfl) rfl ?_ ?_ ?_
      rotate_left 2
      · intro w' hk; go_simp; try rfl
      · simp only [Act.put, List.setIfInBounds_toArray, List.set_cons_succ, List.set_cons_zero]; try rfl
      refine flowe_take 13 (v := ?_) (a' := ?_) hps rfl (by kernel_rfl) rfl ?_ ?_ ?_
      rotate_left 2
      · intro w' hk; go_simp; try rfl
      · simp only [Act.put, List.setIfInBounds_toArray, List.set_cons_succ, List.set_cons_zero]; try rfl
      refine flowe_take 14 (v := ?_) (a' := ?_) hps rfl (by kernel_rfl) rfl ?_ ?_ ?_
      rotate_left 2
      · intro w' hk; go_simp; try rfl
      · simp only [Act.put, List.setIfInBounds_toArray, List.set_cons_succ, List.set_cons_zero]; try rfl
      refine flowe_take 15 (v := ?_) (a' := ?_) hps rfl (by kernel_rfl) rfl ?_ ?_ ?_
      rotate_left 2
      · intro w' hk; go_simp; try rfl
      · simp only [Act.put, List.setIfInBounds_toArray, List.set_cons_succ, List.set_cons_zero]; try rfl
      refine flowe_skip 16 (a' := ?_) hps rfl (by kernel_rfl) rfl ?_ ?_
      rotate_left 1
      · simp only [Act.put, List.setIfInBounds_toArray, List.set_cons_succ, List.set_cons_zero]; try rfl
      refine flowe_skip 17 (a' := ?_) hps rfl (by kernel_rfl) rfl ?_ ?_
      rotate_left 1
      · simp only [Act.put, List.setIfInBounds_toArray, List.set_cons_succ, List.set_cons_zero]; try rfl
      refine flowe_skip 18 (a' := ?_) hps rfl (by kernel_rfl) rfl ?_ ?_
      rotate_left 1
      · simp only [Act.put, List.setIfInBounds_toArray, List.set_cons_succ, List.set_cons_zero]; try rfl
      refine flowe_skip 19 (a' := ?_) hps rfl (by kernel_rfl) rfl ?_ ?_
      rotate_left 1
      · simp only [Act.put, List.setIfInBounds_toArray, List.set_cons_succ, List.set_cons_zero]; try rfl
      refine flowe_skip 20 (a' := ?_) hps rfl (by kernel_rfl) rfl ?_ ?_
      rotate_left 1
      · simp only [Act.put, List.setIfInBounds_toArray, List.set_cons_succ, List.set_cons_zero]; try rfl
      refine flowe_skip 21 (a' := ?_) hps rfl (by kernel_rfl) rfl ?_ ?_
      rotate_left 1
      · simp only [Act.put, List.setIfInBounds_toArray, List.set_cons_succ, List.set_cons_zero]; try rfl
      refine flowe_skip 22 (a' := ?_) hps rfl (by kernel_rfl) rfl ?_ ?_
      rotate_left 1
      · simp only [Act.put, List.setIfInBounds_toArray, List.set_cons_succ, List.set_cons_zero]; try rfl
      refine flowe_take 23 (v := ?_) (a' := ?_) hps rfl (by kernel_rfl) rfl ?_ ?_ ?_
      rotate_left 2
      · intro w' hk; go_simp; try rfl
      · simp only [Act.put, List.setIfInBounds_toArray, List.set_cons_succ, List.set_cons_zero]; try rfl
      refine flowe_take 24 (v := ?_) (a' := ?_) hps rfl (by kernel_rfl) rfl ?_ ?_ ?_
      rotate_left 2
      · intro w' hk; go_simp; try rfl
      · simp only [Act.put, List.setIfInBounds_toArray, List.set_cons_succ, List.set_cons_zero]; try rfl
      refine flowe_take 25 (v := ?_) (a' := ?_) hps rfl (by kernel_rfl) rfl ?_ ?_ ?_
      rotate_left 2
      · intro w' hk; go_simp; try rfl
      · simp only [Act.put, List.setIfInBounds_toArray, List.set_cons_succ, List.set_cons_zero]; try rfl
      refine flowe_done hps (by kernel_rfl) ?_
      have BZ := Lib.hid (TK.out.below (kk.below (Nat.le_refl _) fun _ _ h => h)).end
      clear kk
      go_wp2
      go_ret
      exact ⟨rfl, BZ.out⟩
  · try rw [show errO (some X) = .nilIface from rfl]
    try rw [show errO (some Y) = .nilIface from rfl]
    try rw [show errW none = .iface 183 (.int .i64 3) from rfl]
    go_wp2_with (first | (refine bk_loadg TE.out 2 rfl rfl _ rfl rfl ?_) | (refine bk_loadg TE.out 3 rfl rfl _ rfl rfl ?_) | (refine bk_loadg TE.out 4 rfl rfl _ rfl rfl ?_) | (refine bk_loadg TE.out 5 rfl rfl _ rfl rfl ?_))
    have kc := law_Blocks _ a1 c1 LZ a2 c2 LZ HS1.out HS2.out
    rw [if_pos rfl] at kc
    with_reducible refine kc.mono ?_
    clear kc
    rintro e wf ⟨rfl, bf⟩
    have BF := Lib.hid bf
    clear bf
    have TI := Lib.hid (TE.out.below BF.out)
    clear BF TE HS1 HS2
    go_wp2_with (first | (refine bk_load TI.out 7 rfl rfl _ rfl rfl ?_) | ((with_reducible refine (code_of _ 3 (by decide) (by decide)).mono ?_); rintro e w' ⟨rfl, rfl⟩))
    cases S with
    | none =>
      have kc := blk_Set TI.out (i := 6) rfl xo xs xu
      rw [show ({ base := bn, cap := 16384, b := b } : Ar).b = b from rfl, ← HSS.out, show errS none = .iface 183 (.int .i64 1) from rfl] at kc
      with_reducible refine kc.mono ?_
      clear kc
      rintro e wj ⟨rfl, tj⟩
      have TJ := Lib.hid tj
      clear tj
      go_wp2_with (refine bk_load TJ.out 7 rfl rfl _ rfl rfl ?_)
      have kc := rb_Set_no TJ.out a _ c b (HRD.out _ _ TJ.out) xo xs xu HSS.out.symm
      with_reducible refine kc.mono ?_
      clear kc
      rintro e wk ⟨rfl, tk⟩
      have TK := Lib.hid tk
      clear tk
      have HB3 := Lib.hid (HRD.out _ _ TK.out.drew)
      obtain ⟨va, hva⟩ := TK.out.drew.ar (i := 6) rfl
      have HVA := Lib.hid (show ArA _ q { base := bn, cap := 16384, b := b } va from hva)
      clear hva TI TJ
      go_wp2
      refine flowe_begin (F := fun _ => False) hmixed 26 rfl (by repeat (first | with_reducible refine ps_then ?_ | with_reducible refine ps_block ?_ | with_reducible exact ps_body | refine ps_then ?_ | refine ps_block ?_ | exact ps_body)) (fun hps => ?_)
      simp only [List.replicate]
      have kk := (Keep.refl (fun _ => False) (wk)).drew
      refine flowe_take 0 (v := ?_) (a' := ?_) hps rfl (by kernel_rfl) rfl ?_ ?_ ?_
      rotate_left 2
      · intro w' hk; go_simp; try rfl
      · simp only [Act.put, List.setIfInBounds_toArray, List.set_cons_succ, List.set_cons_zero]; try rfl
      refine flowe_take 1 (v := ?_) (a' := ?_) hps rfl (by kernel_rfl) rfl ?_ ?_ ?_
      rotate_left 2
      · intro w' hk; go_simp; try rfl
      · simp only [Act.put, List.setIfInBounds_toArray, List.set_cons_succ, List.set_cons_zero]; try rfl
      refine flowe_take 2 (v := ?_) (a' := ?_) hps rfl (by kernel_rfl) rfl ?_ ?_ ?_
      rotate_left 2
      · intro w' hk; go_simp; try rfl
      · simp only [Act.put, List.setIfInBounds_toArray, List.set_cons_succ, List.set_cons_zero]; try rfl
      refine flowe_take 5 (v := ?_) (a' := ?_) hps rfl (by kernel_rfl) rfl ?_ ?_ ?_
      rotate_left 2
      · intro w' hk; go_simp; try rfl
      · simp only [Act.put, List.setIfInBounds_toArray, List.set_cons_succ, List.set_cons_zero]; try rfl
      refine flowe_take 6 (v := ?_) (a' := ?_) hps rfl (by kernel_rfl) rfl ?_ ?_ ?_
      rotate_left 2
      · intro w' hk; have hs := run_s w' (HB3.out.keep hk (fun _ _ h => h)); go_simp; try rfl
      · simp only [Act.put, List.setIfInBounds_toArray, List.set_cons_succ, List.set_cons_zero]; try rfl
      refine flowe_one 3 hps rfl (by kernel_rfl) rfl (wp_next (fun K hK => ?_))
      go_simp
      with_reducible refine (law_Bytes _ q { base := bn, cap := 16384, b := b } va HVA.out).mono ?_
      rintro e w7 ⟨v7, rfl, o7, b7⟩
      have kp := Keep.of_below (F := fun _ => False) b7
      obtain ⟨a7, c7, rfl, _, hb7⟩ := Sl.of_owned o7
      have HB7 := Lib.hid (show Bs w7 a7 b.length c7 b from hb7)
      clear o7 b7 hb7
      refine hK _ _ (flow_step kk ?_ ?_)
      · first | exact kp | exact Keep.refl _ _ | exact (Keep.refl _ _).alloc _
      clear kk hK; try clear kp
      intro kk
      refine flowe_take 4 (v := ?_) (a' := ?_) hps rfl (by kernel_rfl) rfl ?_ ?_ ?_
      rotate_left 2
      · intro w' hk; have hs := run_s w' (HB7.out.keep hk (fun _ _ h => h)); go_simp; try rfl
      · simp only [Act.put, List.setIfInBounds_toArray, List.set_cons_succ, List.set_cons_zero]; try rfl
      refine flowe_take 7 (v := ?_) (a' := ?_) hps rfl (by kernel_rfl) rfl ?_ ?_ ?_
      rotate_left 2
      · intro w' hk; go_simp; try rfl
      · simp only [Act.put, List.setIfInBounds_toArray, List.set_cons_succ, List.set_cons_zero]; try rfl
      refine flowe_take 8 (v := ?_) (a' := ?_) hps rfl (by kernel_rfl) rfl ?_ ?_ ?_
      rotate_left 2
      · intro w' hk; go_simp; try rfl
      · simp only [Act.put, List.setIfInBounds_toArray, List.set_cons_succ, List.set_cons_zero]; try rfl
      refine flowe_take 9 (v := ?_) (a' := ?_) hps rfl (by kernel_rfl) rfl ?_ ?_ ?_
      rotate_left 2
      · intro w' hk; go_simp; try rfl
      · simp only [Act.put, List.setIfInBounds_toArray, List.set_cons_succ, List.set_cons_zero]; try rfl
      refine flowe_take 10 (v := ?_) (a' := ?_) hps rfl (by kernel_rfl) rfl ?_ ?_ ?_
      rotate_left 2
      · intro w' hk; go_simp; try rfl
      · simp only [Act.put, List.setIfInBounds_toArray, List.set_cons_succ, List.set_cons_zero]; try rfl
      refine flowe_take 11 (v := ?_) (a' := ?_) hps rfl (by kernel_rfl) rfl ?_ ?_ ?_
      rotate_left 2
      · intro w' hk; go_simp; try rfl
      · simp only [Act.put, List.setIfInBounds_toArray, List.set_cons_succ, List.set_cons_zero]; try rfl
      refine flowe_skip 12 (a' := ?_) hps rfl (by kernel_rfl) rfl ?_ ?_
      rotate_left 1
      · simp only [Act.put, List.setIfInBounds_toArray, List.set_cons_succ, List.set_cons_zero]; try rfl
      refine flowe_skip 13 (a' := ?_) hps rfl (by kernel_rfl) rfl ?_ ?_
      rotate_left 1
      · simp only [Act.put, List.setIfInBounds_toArray, List.set_cons_succ, List.set_cons_zero]; try rfl
      refine flowe_take 14 (v := ?_) (a' := ?_) hps rfl (by kernel_rfl) rfl ?_ ?_ ?_
      rotate_left 2
      · intro w' hk; go_simp; try rfl
      · simp only [Act.put, List.setIfInBounds_toArray, List.set_cons_succ, List.set_cons_zero]; try rfl
      refine flowe_take 15 (v := ?_) (a' := ?_) hps rfl (by kernel_rfl) rfl ?_ ?_ ?_
      rotate_left 2
      · intro w' hk; go_simp; try rfl
      · simp only [Act.put, List.setIfInBounds_toArray, List.set_cons_succ, List.set_cons_zero]; try rfl
      refine flowe_take 16 (v := ?_) (a' := ?_) hps rfl (by kernel_rfl) rfl ?_ ?_ ?_
      rotate_left 2
      · intro w' hk; go_simp; try rfl
      · simp only [Act.put, List.setIfInBounds_toArray, List.set_cons_succ, List.set_cons_zero]; try rfl
      refine flowe_take 17 (v := ?_) (a' := ?_) hps rfl (by kernel_rfl) rfl ?_ ?_ ?_
      rotate_left 2
      · intro w' hk; go_simp; try rfl
      · simp only [Act.put, List.setIfInBounds_toArray, List.set_cons_succ, List.set_cons_zero]; try rfl
      refine flowe_take 18 (v := ?_) (a' := ?_) hps rfl (by kernel_rfl) rfl ?_ ?_ ?_
      rotate_left 2
      · intro w' hk; go_simp; try rfl
      · simp only [Act.put, List.setIfInBounds_toArray, List.set_cons_succ, List.set_cons_zero]; try rfl
      refine flowe_take 19 (v := ?_) (a' := ?_) hps rfl (by kernel_rfl) rfl ?_ ?_ ?_
      rotate_left 2
      · intro w' hk; go_simp; try rfl
      · simp only [Act.put, List.setIfInBounds_toArray, List.set_cons_succ, List.set_cons_zero]; try rfl
      refine flowe_one 20 hps rfl (by kernel_rfl) rfl (wp_next (fun K hK => ?_))
      go_simp
      with_reducible refine (code_of _ 1 (by decide) (by decide)).mono ?_
      rintro e w' ⟨rfl, rfl⟩
      refine hK _ _ (flow_step kk ?_ ?_)
      · first | exact kp | exact Keep.refl _ _ | exact (Keep.refl _ _).alloc _
      clear kk hK; try clear kp
      intro kk
      refine flowe_take 21 (v := ?_) (a' := ?_) hps rfl (by kernel_rfl) rfl ?_ ?_ ?_
      rotate_left 2
      · intro w' hk; go_simp; try rfl
      · simp only [Act.put, List.setIfInBounds_toArray, List.set_cons_succ, List.set_cons_zero]; try rfl
      refine flowe_take 22 (v := ?_) (a' := ?_) hps rfl (by kernel_rfl) rfl ?_ ?_ ?_
      rotate_left 2
      · intro w' hk; go_simp; try rfl
      · simp only [Act.put, List.setIfInBounds_toArray, List.set_cons_succ, List.set_cons_zero]; try rfl
      refine flowe_take 23 (v := ?_) (a' := ?_) hps rfl (by kernel_rfl) rfl ?_ ?_ ?_
      rotate_left 2
      · intro w' hk; go_simp; try rfl
      · simp only [Act.put, List.setIfInBounds_toArray, List.set_cons_succ, List.set_cons_zero]; try rfl
      refine flowe_take 24 (v := ?_) (a' := ?_) hps rfl (by kernel_rfl) rfl ?_ ?_ ?_
      rotate_left 2
      · intro w' hk; go_simp; try rfl
      · simp only [Act.put, List.setIfInBounds_toArray, List.set_cons_succ, List.set_cons_zero]; try rfl
      refine flowe_take 25 (v := ?_) (a' := ?_) hps rfl (by kernel_rfl) rfl ?_ ?_ ?_
      rotate_left 2
      · intro w' hk; go_simp; try rfl
      · simp only [Act.put, List.setIfInBounds_toArray, List.set_cons_succ, List.set_cons_zero]; try rfl
      refine flowe_done hps (by kernel_rfl) ?_
      have BZ := Lib.hid (TK.out.below (kk.below (Nat.le_refl _) fun _ _ h => h)).end
      clear kk
      go_wp2
      go_ret
      exact ⟨rfl, BZ.out⟩
    | some S =>
      have kc := blk_Set TI.out (i := 6) rfl xo xs xu
      rw [show ({ base := bn, cap := 16384, b := b } : Ar).b = b from rfl, ← HSS.out, show errS (some S) = .nilIface from rfl] at kc
      with_reducible refine kc.mono ?_
      clear kc
      rintro e wj ⟨rfl, tj⟩
      have TJ := Lib.hid tj
      clear tj
      go_wp2_with (refine bk_load TJ.out 7 rfl rfl _ rfl rfl ?_)
      have kc := rb_Set_ok TJ.out a _ c b (HRD.out _ _ TJ.out) (by omega) xo xs xu S HSS.out.symm
      with_reducible refine kc.mono ?_
      clear kc
      rintro e wk ⟨v3, rfl, tk⟩
      have TK := Lib.hid tk
      clear tk
      obtain ⟨a3, c3, rfl, _⟩ := TK.out.bsOwn (i := 0) rfl
      have HB3 := Lib.hid (TK.out.drew.bsV (i := 0) rfl)
      obtain ⟨va, hva⟩ := TK.out.drew.ar (i := 7) rfl
      have HVA := Lib.hid (show ArA _ q { base := bn, cap := 16384, b := S } va from hva)
      clear hva TI TJ
      go_wp2
      refine flowe_begin (F := fun _ => False) hmixed 26 rfl (by repeat (first | with_reducible refine ps_then ?_ | with_reducible refine ps_block ?_ | with_reducible exact ps_body | refine ps_then ?_ | refine ps_block ?_ | exact ps_body)) (fun hps => ?_)
      simp only [List.replicate]
      have kk := (Keep.refl (fun _ => False) (wk)).drew
      refine flowe_take 0 (v := ?_) (a' := ?_) hps rfl (by kernel_rfl) rfl ?_ ?_ ?_
      rotate_left 2
      · intro w' hk; go_simp; try rfl
      · simp only [Act.put, List.setIfInBounds_toArray, List.set_cons_succ, List.set_cons_zero]; try rfl
      refine flowe_take 1 (v := ?_) (a' := ?_) hps rfl (by kernel_rfl) rfl ?_ ?_ ?_
      rotate_left 2
      · intro w' hk; go_simp; try rfl
      · simp only [Act.put, List.setIfInBounds_toArray, List.set_cons_succ, List.set_cons_zero]; try rfl
      refine flowe_take 2 (v := ?_) (a' := ?_) hps rfl (by kernel_rfl) rfl ?_ ?_ ?_
      rotate_left 2
      · intro w' hk; go_simp; try rfl
      · simp only [Act.put, List.setIfInBounds_toArray, List.set_cons_succ, List.set_cons_zero]; try rfl
      refine flowe_take 5 (v := ?_) (a' := ?_) hps rfl (by kernel_rfl) rfl ?_ ?_ ?_
      rotate_left 2
      · intro w' hk; go_simp; try rfl
      · simp only [Act.put, List.setIfInBounds_toArray, List.set_cons_succ, List.set_cons_zero]; try rfl
      refine flowe_take 6 (v := ?_) (a' := ?_) hps rfl (by kernel_rfl) rfl ?_ ?_ ?_
      rotate_left 2
      · intro w' hk; have hs := run_s w' (HB3.out.keep hk (fun _ _ h => h)); go_simp; try rfl
      · simp only [Act.put, List.setIfInBounds_toArray, List.set_cons_succ, List.set_cons_zero]; try rfl
      refine flowe_one 3 hps rfl (by kernel_rfl) rfl (wp_next (fun K hK => ?_))
      go_simp
      with_reducible refine (law_Bytes _ q { base := bn, cap := 16384, b := S } va HVA.out).mono ?_
      rintro e w7 ⟨v7, rfl, o7, b7⟩
      have kp := Keep.of_below (F := fun _ => False) b7
      obtain ⟨a7, c7, rfl, _, hb7⟩ := Sl.of_owned o7
      have HB7 := Lib.hid (show Bs w7 a7 S.length c7 S from hb7)
      clear o7 b7 hb7
      refine hK _ _ (flow_step kk ?_ ?_)
      · first | exact kp | exact Keep.refl _ _ | exact (Keep.refl _ _).alloc _
      clear kk hK; try clear kp
      intro kk
      refine flowe_take 4 (v := ?_) (a' := ?_) hps rfl (by kernel_rfl) rfl ?_ ?_ ?_
      rotate_left 2
      · intro w' hk; have hs := run_s w' (HB7.out.keep hk (fun _ _ h => h)); go_simp; try rfl
      · simp only [Act.put, List.setIfInBounds_toArray, List.set_cons_succ, List.set_cons_zero]; try rfl
      refine flowe_take 7 (v := ?_) (a' := ?_) hps rfl (by kernel_rfl) rfl ?_ ?_ ?_
      rotate_left 2
      · intro w' hk; go_simp; try rfl
      · simp only [Act.put, List.setIfInBounds_toArray, List.set_cons_succ, List.set_cons_zero]; try rfl
      refine flowe_take 8 (v := ?_) (a' := ?_) hps rfl (by kernel_rfl) rfl ?_ ?_ ?_
      rotate_left 2
      · intro w' hk; go_simp; try rfl
      · simp only [Act.put, List.setIfInBounds_toArray, List.set_cons_succ, List.set_cons_zero]; try rfl
      refine flowe_take 9 (v := ?_) (a' := ?_) hps rfl (by kernel_rfl) rfl ?_ ?_ ?_
      rotate_left 2
      · intro w' hk; go_simp; try rfl
      · simp only [Act.put, List.setIfInBounds_toArray, List.set_cons_succ, List.set_cons_zero]; try rfl
      refine flowe_take 10 (v := ?_) (a' := ?_) hps rfl (by kernel_rfl) rfl ?_ ?_ ?_
      rotate_left 2
      · intro w' hk; go_simp; try rfl
      · simp only [Act.put, List.setIfInBounds_toArray, List.set_cons_succ, List.set_cons_zero]; try rfl
      refine flowe_take 11 (v := ?_) (a' := ?_) hps rfl (by kernel_rfl) rfl ?_ ?_ ?_
      rotate_left 2
      · intro w' hk; go_simp; try rfl
      · simp only [Act.put, List.setIfInBounds_toArray, List.set_cons_succ, List.set_cons_zero]; try rfl
      refine flowe_take 12 (v := ?_) (a' := ?_) hps rfl (by kernel_rfl) rfl ?_ ?_ ?_
      rotate_left 2
      · intro w' hk; go_simp; try rfl
      · simp only [Act.put, List.setIfInBounds_toArray, List.set_cons_succ, List.set_cons_zero]; try rfl
      refine flowe_take 13 (v := ?_) (a' := ?_) hps rfl (by kernel_rfl) rfl ?_ ?_ ?_
      rotate_left 2
      · intro w' hk; go_simp; try rfl
      · simp only [Act.put, List.setIfInBounds_toArray, List.set_cons_succ, List.set_cons_zero]; try rfl
      refine flowe_take 14 (v := ?_) (a' := ?_) hps rfl (by kernel_rfl) rfl ?_ ?_ ?_
      rotate_left 2
      · intro w' hk; go_simp; try rfl
      · simp only [Act.put, List.setIfInBounds_toArray, List.set_cons_succ, List.set_cons_zero]; try rfl
      refine flowe_take 15 (v := ?_) (a' := ?_) hps rfl (by kernel_rfl) rfl ?_ ?_ ?_
      rotate_left 2
      · intro w' hk; go_simp; try rfl
      · simp only [Act.put, List.setIfInBounds_toArray, List.set_cons_succ, List.set_cons_zero]; try rfl
      refine flowe_skip 16 (a' := ?_) hps rfl (by kernel_rfl) rfl ?_ ?_
      rotate_left 1
      · simp only [Act.put, List.setIfInBounds_toArray, List.set_cons_succ, List.set_cons_zero]; try rfl
      refine flowe_skip 17 (a' := ?_) hps rfl (by kernel_rfl) rfl ?_ ?_
      rotate_left 1
      · simp only [Act.put, List.setIfInBounds_toArray, List.set_cons_succ, List.set_cons_zero]; try rfl
      refine flowe_skip 18 (a' := ?_) hps rfl (by kernel_rfl) rfl ?_ ?_
      rotate_left 1
      · simp only [Act.put, List.setIfInBounds_toArray, List.set_cons_succ, List.set_cons_zero]; try rfl
      refine flowe_skip 19 (a' := ?_) hps rfl (by kernel_rfl) rfl ?_ ?_
      rotate_left 1
      · simp only [Act.put, List.setIfInBounds_toArray, List.set_cons_succ, List.set_cons_zero]; try rfl
      refine flowe_skip 20 (a' := ?_) hps rfl (by kernel_rfl) rfl ?_ ?_
      rotate_left 1
      · simp only [Act.put, List.setIfInBounds_toArray, List.set_cons_succ, List.set_cons_zero]; try rfl
      refine flowe_skip 21 (a' := ?_) hps rfl (by kernel_rfl) rfl ?_ ?_
      rotate_left 1
      · simp only [Act.put, List.setIfInBounds_toArray, List.set_cons_succ, List.set_cons_zero]; try rfl
      refine flowe_skip 22 (a' := ?_) hps rfl (by kernel_rfl) rfl ?_ ?_
      rotate_left 1
      · simp only [Act.put, List.setIfInBounds_toArray, List.set_cons_succ, List.set_cons_zero]; try rfl
      refine flowe_take 23 (v := ?_) (a' := ?_) hps rfl (by kernel_rfl) rfl ?_ ?_ ?_
      rotate_left 2
      · intro w' hk; go_simp; try rfl
      · simp only [Act.put, List.setIfInBounds_toArray, List.set_cons_succ, List.set_cons_zero]; try rfl
      refine flowe_take 24 (v := ?_) (a' := ?_) hps rfl (by kernel_rfl) rfl ?_ ?_ ?_
      rotate_left 2
      · intro w' hk; go_simp; try rfl
      · simp only [Act.put, List.setIfInBounds_toArray, List.set_cons_succ, List.set_cons_zero]; try rfl
      refine flowe_take 25 (v := ?_) (a' := ?_) hps rfl (by kernel_rfl) rfl ?_ ?_ ?_
      rotate_left 2
      · intro w' hk; go_simp; try rfl
      · simp only [Act.put, List.setIfInBounds_toArray, List.set_cons_succ, List.set_cons_zero]; try rfl
      refine flowe_done hps (by kernel_rfl) ?_
      have BZ := Lib.hid (TK.out.below (kk.below (Nat.le_refl _) fun _ _ h => h)).end
      clear kk
      go_wp2
      go_ret
      exact ⟨rfl, BZ.out⟩
  · try rw [show errO (some X) = .nilIface from rfl]
    try rw [show errO (some Y) = .nilIface from rfl]
    try rw [show errW (some Z) = .nilIface from rfl]
    go_wp2_with (first | (refine bk_loadg TE.out 2 rfl rfl _ rfl rfl ?_) | (refine bk_loadg TE.out 3 rfl rfl _ rfl rfl ?_) | (refine bk_loadg TE.out 4 rfl rfl _ rfl rfl ?_) | (refine bk_loadg TE.out 5 rfl rfl _ rfl rfl ?_))
    have kc := law_Blocks _ a1 c1 LZ a2 c2 LZ HS1.out HS2.out
    rw [if_pos rfl] at kc
    with_reducible refine kc.mono ?_
    clear kc
    rintro e wf ⟨rfl, bf⟩
    have BF := Lib.hid bf
    clear bf
    have TI := Lib.hid (TE.out.below BF.out)
    clear BF TE HS1 HS2
    go_wp2_with (first | (refine bk_load TI.out 7 rfl rfl _ rfl rfl ?_) | ((with_reducible refine (code_of _ 3 (by decide) (by decide)).mono ?_); rintro e w' ⟨rfl, rfl⟩))
    cases S with
    | none =>
      have kc := blk_Set TI.out (i := 6) rfl xo xs xu
      rw [show ({ base := bn, cap := 16384, b := b } : Ar).b = b from rfl, ← HSS.out, show errS none = .iface 183 (.int .i64 1) from rfl] at kc
      with_reducible refine kc.mono ?_
      clear kc
      rintro e wj ⟨rfl, tj⟩
      have TJ := Lib.hid tj
      clear tj
      go_wp2_with (refine bk_load TJ.out 7 rfl rfl _ rfl rfl ?_)
      have kc := rb_Set_no TJ.out a _ c b (HRD.out _ _ TJ.out) xo xs xu HSS.out.symm
      with_reducible refine kc.mono ?_
      clear kc
      rintro e wk ⟨rfl, tk⟩
      have TK := Lib.hid tk
      clear tk
      have HB3 := Lib.hid (HRD.out _ _ TK.out.drew)
      obtain ⟨va, hva⟩ := TK.out.drew.ar (i := 6) rfl
      have HVA := Lib.hid (show ArA _ q { base := bn, cap := 16384, b := b } va from hva)
      clear hva TI TJ
      go_wp2
      refine flowe_begin (F := fun _ => False) hmixed 26 rfl (by repeat (first | with_reducible refine ps_then ?_ | with_reducible refine ps_block ?_ | with_reducible exact ps_body | refine ps_then ?_ | refine ps_block ?_ | exact ps_body)) (fun hps => ?_)
      simp only [List.replicate]
      have kk := (Keep.refl (fun _ => False) (wk)).drew
      refine flowe_take 0 (v := ?_) (a' := ?_) hps rfl (by kernel_rfl) rfl ?_ ?_ ?_
      rotate_left 2
      · intro w' hk; go_simp; try rfl
      · simp only [Act.put, List.setIfInBounds_toArray, List.set_cons_succ, List.set_cons_zero]; try rfl
      refine flowe_take 1 (v := ?_) (a' := ?_) hps rfl (by kernel_rfl) rfl ?_ ?_ ?_
      rotate_left 2
      · intro w' hk; go_simp; try rfl
      · simp only [Act.put, List.setIfInBounds_toArray, List.set_cons_succ, List.set_cons_zero]; try rfl
      refine flowe_take 2 (v := ?_) (a' := ?_) hps rfl (by kernel_rfl) rfl ?_ ?_ ?_
      rotate_left 2
      · intro w' hk; go_simp; try rfl
      · simp only [Act.put, List.setIfInBounds_toArray, List.set_cons_succ, List.set_cons_zero]; try rfl
      refine flowe_take 5 (v := ?_) (a' := ?_) hps rfl (by kernel_rfl) rfl ?_ ?_ ?_
      rotate_left 2
      · intro w' hk; go_simp; try rfl
      · simp only [Act.put, List.setIfInBounds_toArray, List.set_cons_succ, List.set_cons_zero]; try rfl
      refine flowe_take 6 (v := ?_) (a' := ?_) hps rfl (by kernel_rfl) rfl ?_ ?_ ?_
      rotate_left 2
      · intro w' hk; have hs := run_s w' (HB3.out.keep hk (fun _ _ h => h)); go_simp; try rfl
      · simp only [Act.put, List.setIfInBounds_toArray, List.set_cons_succ, List.set_cons_zero]; try rfl
      refine flowe_one 3 hps rfl (by kernel_rfl) rfl (wp_next (fun K hK => ?_))
      go_simp
      with_reducible refine (law_Bytes _ q { base := bn, cap := 16384, b := b } va HVA.out).mono ?_
      rintro e w7 ⟨v7, rfl, o7, b7⟩
      have kp := Keep.of_below (F := fun _ => False) b7
      obtain ⟨a7, c7, rfl, _, hb7⟩ := Sl.of_owned o7
      have HB7 := Lib.hid (show Bs w7 a7 b.length c7 b from hb7)
      clear o7 b7 hb7
      refine hK _ _ (flow_step kk ?_ ?_)
      · first | exact kp | exact Keep.refl _ _ | exact (Keep.refl _ _).alloc _
      clear kk hK; try clear kp
      intro kk
      refine flowe_take 4 (v := ?_) (a' := ?_) hps rfl (by kernel_rfl) rfl ?_ ?_ ?_
      rotate_left 2
      · intro w' hk; have hs := run_s w' (HB7.out.keep hk (fun _ _ h => h)); go_simp; try rfl
      · simp only [Act.put, List.setIfInBounds_toArray, List.set_cons_succ, List.set_cons_zero]; try rfl
      refine flowe_take 7 (v := ?_) (a' := ?_) hps rfl (by kernel_rfl) rfl ?_ ?_ ?_
      rotate_left 2
      · intro w' hk; go_simp; try rfl
      · simp only [Act.put, List.setIfInBounds_toArray, List.set_cons_succ, List.set_cons_zero]; try rfl
      refine flowe_take 8 (v := ?_) (a' := ?_) hps rfl (by kernel_rfl) rfl ?_ ?_ ?_
      rotate_left 2
      · intro w' hk; go_simp; try rfl
      · simp only [Act.put, List.setIfInBounds_toArray, List.set_cons_succ, List.set_cons_zero]; try rfl
      refine flowe_take 9 (v := ?_) (a' := ?_) hps rfl (by kernel_rfl) rfl ?_ ?_ ?_
      rotate_left 2
      · intro w' hk; go_simp; try rfl
      · simp only [Act.put, List.setIfInBounds_toArray, List.set_cons_succ, List.set_cons_zero]; try rfl
      refine flowe_take 10 (v := ?_) (a' := ?_) hps rfl (by kernel_rfl) rfl ?_ ?_ ?_
      rotate_left 2
      · intro w' hk; go_simp; try rfl
      · simp only [Act.put, List.setIfInBounds_toArray, List.set_cons_succ, List.set_cons_zero]; try rfl
      refine flowe_take 11 (v := ?_) (a' := ?_) hps rfl (by kernel_rfl) rfl ?_ ?_ ?_
      rotate_left 2
      · intro w' hk; go_simp; try rfl
      · simp only [Act.put, List.setIfInBounds_toArray, List.set_cons_succ, List.set_cons_zero]; try rfl
      refine flowe_skip 12 (a' := ?_) hps rfl (by kernel_rfl) rfl ?_ ?_
      rotate_left 1
      · simp only [Act.put, List.setIfInBounds_toArray, List.set_cons_succ, List.set_cons_zero]; try rfl
      refine flowe_skip 13 (a' := ?_) hps rfl (by kernel_rfl) rfl ?_ ?_
      rotate_left 1
      · simp only [Act.put, List.setIfInBounds_toArray, List.set_cons_succ, List.set_cons_zero]; try rfl
      refine flowe_take 14 (v := ?_) (a' := ?_) hps rfl (by kernel_rfl) rfl ?_ ?_ ?_
      rotate_left 2
      · intro w' hk; go_simp; try rfl
      · simp only [Act.put, List.setIfInBounds_toArray, List.set_cons_succ, List.set_cons_zero]; try rfl
      refine flowe_take 15 (v := ?_) (a' := ?_) hps rfl (by kernel_rfl) rfl ?_ ?_ ?_
      rotate_left 2
      · intro w' hk; go_simp; try rfl
      · simp only [Act.put, List.setIfInBounds_toArray, List.set_cons_succ, List.set_cons_zero]; try rfl
      refine flowe_take 16 (v := ?_) (a' := ?_) hps rfl (by kernel_rfl) rfl ?_ ?_ ?_
      rotate_left 2
      · intro w' hk; go_simp; try rfl
      · simp only [Act.put, List.setIfInBounds_toArray, List.set_cons_succ, List.set_cons_zero]; try rfl
      refine flowe_take 17 (v := ?_) (a' := ?_) hps rfl (by kernel_rfl) rfl ?_ ?_ ?_
      rotate_left 2
      · intro w' hk; go_simp; try rfl
      · simp only [Act.put, List.setIfInBounds_toArray, List.set_cons_succ, List.set_cons_zero]; try rfl
      refine flowe_take 18 (v := ?_) (a' := ?_) hps rfl (by kernel_rfl) rfl ?_ ?_ ?_
      rotate_left 2
      · intro w' hk; go_simp; try rfl
      · simp only [Act.put, List.setIfInBounds_toArray, List.set_cons_succ, List.set_cons_zero]; try rfl
      refine flowe_take 19 (v := ?_) (a' := ?_) hps rfl (by kernel_rfl) rfl ?_ ?_ ?_
      rotate_left 2
      · intro w' hk; go_simp; try rfl
      · simp only [Act.put, List.setIfInBounds_toArray, List.set_cons_succ, List.set_cons_zero]; try rfl
      refine flowe_one 20 hps rfl (by kernel_rfl) rfl (wp_next (fun K hK => ?_))
      go_simp
      with_reducible refine (code_of _ 1 (by decide) (by decide)).mono ?_
      rintro e w' ⟨rfl, rfl⟩
      refine hK _ _ (flow_step kk ?_ ?_)
      · first | exact kp | exact Keep.refl _ _ | exact (Keep.refl _ _).alloc _
      clear kk hK; try clear kp
      intro kk
      refine flowe_take 21 (v := ?_) (a' := ?_) hps rfl (by kernel_rfl) rfl ?_ ?_ ?_
      rotate_left 2
      · intro w' hk; go_simp; try rfl
      · simp only [Act.put, List.setIfInBounds_toArray, List.set_cons_succ, List.set_cons_zero]; try rfl
      refine flowe_take 22 (v := ?_) (a' := ?_) hps rfl (by kernel_rfl) rfl ?_ ?_ ?_
      rotate_left 2
      · intro w' hk; go_simp; try rfl
      · simp only [Act.put, List.setIfInBounds_toArray, List.set_cons_succ, List.set_cons_zero]; try rfl
      refine flowe_take 23 (v := ?_) (a' := ?_) hps rfl (by kernel_rfl) rfl ?_ ?_ ?_
      rotate_left 2
      · intro w' hk; go_simp; try rfl
      · simp only [Act.put, List.setIfInBounds_toArray, List.set_cons_succ, List.set_cons_zero]; try rfl
      refine flowe_take 24 (v := ?_) (a' := ?_) hps rfl (by kernel_rfl) rfl ?_ ?_ ?_
      rotate_left 2
      · intro w' hk; go_simp; try rfl
      · simp only [Act.put, List.setIfInBounds_toArray, List.set_cons_succ, List.set_cons_zero]; try rfl
      refine flowe_take 25 (v := ?_) (a' := ?_) hps rfl (by kernel_rfl) rfl ?_ ?_ ?_
      rotate_left 2
      · intro w' hk; go_simp; try rfl
      · simp only [Act.put, List.setIfInBounds_toArray, List.set_cons_succ, List.set_cons_zero]; try rfl
      refine flowe_done hps (by kernel_rfl) ?_
      have BZ := Lib.hid (TK.out.below (kk.below (Nat.le_refl _) fun _ _ h => h)).end
      clear kk
      go_wp2
      go_ret
      exact ⟨rfl, BZ.out⟩
    | some S =>
      have kc := blk_Set TI.out (i := 6) rfl xo xs xu
      rw [show ({ base := bn, cap := 16384, b := b } : Ar).b = b from rfl, ← HSS.out, show errS (some S) = .nilIface from rfl] at kc
      with_reducible refine kc.mono ?_
      clear kc
      rintro e wj ⟨rfl, tj⟩
      have TJ := Lib.hid tj
      clear tj
      go_wp2_with (refine bk_load TJ.out 7 rfl rfl _ rfl rfl ?_)
      have kc := rb_Set_ok TJ.out a _ c b (HRD.out _ _ TJ.out) (by omega) xo xs xu S HSS.out.symm
      with_reducible refine kc.mono ?_
      clear kc
      rintro e wk ⟨v3, rfl, tk⟩
      have TK := Lib.hid tk
      clear tk
      obtain ⟨a3, c3, rfl, _⟩ := TK.out.bsOwn (i := 0) rfl
      have HB3 := Lib.hid (TK.out.drew.bsV (i := 0) rfl)
      obtain ⟨va, hva⟩ := TK.out.drew.ar (i := 7) rfl
      have HVA := Lib.hid (show ArA _ q { base := bn, cap := 16384, b := S } va from hva)
      clear hva TI TJ
      go_wp2
      refine flowe_begin (F := fun _ => False) hmixed 26 rfl (by repeat (first | with_reducible refine ps_then ?_ | with_reducible refine ps_block ?_ | with_reducible exact ps_body | refine ps_then ?_ | refine ps_block ?_ | exact ps_body)) (fun hps => ?_)
      simp only [List.replicate]
      have kk := (Keep.refl (fun _ => False) (wk)).drew
      refine flowe_take 0 (v := ?_) (a' := ?_) hps rfl (by kernel_rfl) rfl ?_ ?_ ?_
      rotate_left 2
      · intro w' hk; go_simp; try rfl
      · simp only [Act.put, List.setIfInBounds_toArray, List.set_cons_succ, List.set_cons_zero]; try rfl
      refine flowe_take 1 (v := ?_) (a' := ?_) hps rfl (by kernel_rfl) rfl ?_ ?_ ?_
      rotate_left 2
      · intro w' hk; go_simp; try rfl
      · simp only [Act.put, List.setIfInBounds_toArray, List.set_cons_succ, List.set_cons_zero]; try rfl
      refine flowe_take 2 (v := ?_) (a' := ?_) hps rfl (by kernel_rfl) rfl ?_ ?_ ?_
      rotate_left 2
      · intro w' hk; go_simp; try rfl
      · simp only [Act.put, List.setIfInBounds_toArray, List.set_cons_succ, List.set_cons_zero]; try rfl
      refine flowe_take 5 (v := ?_) (a' := ?_) hps rfl (by kernel_rfl) rfl ?_ ?_ ?_
      rotate_left 2
      · intro w' hk; go_simp; try rfl
      · simp only [Act.put, List.setIfInBounds_toArray, List.set_cons_succ, List.set_cons_zero]; try rfl
      refine flowe_take 6 (v := ?_) (a' := ?_) hps rfl (by kernel_rfl) rfl ?_ ?_ ?_
      rotate_left 2
      · intro w' hk; have hs := run_s w' (HB3.out.keep hk (fun _ _ h => h)); go_simp; try rfl
      · simp only [Act.put, List.setIfInBounds_toArray, List.set_cons_succ, List.set_cons_zero]; try rfl
      refine flowe_one 3 hps rfl (by kernel_rfl) rfl (wp_next (fun K hK => ?_))
      go_simp
      with_reducible refine (law_Bytes _ q { base := bn, cap := 16384, b := S } va HVA.out).mono ?_
      rintro e w7 ⟨v7, rfl, o7, b7⟩
      have kp := Keep.of_below (F := fun _ => False) b7
      obtain ⟨a7, c7, rfl, _, hb7⟩ := Sl.of_owned o7
      have HB7 := Lib.hid (show Bs w7 a7 S.length c7 S from hb7)
      clear o7 b7 hb7
      refine hK _ _ (flow_step kk ?_ ?_)
      · first | exact kp | exact Keep.refl _ _ | exact (Keep.refl _ _).alloc _
      clear kk hK; try clear kp
      intro kk
      refine flowe_take 4 (v := ?_) (a' := ?_) hps rfl (by kernel_rfl) rfl ?_ ?_ ?_
      rotate_left 2
      · intro w' hk; have hs := run_s w' (HB7.out.keep hk (fun _ _ h => h)); go_simp; try rfl
      · simp only [Act.put, List.setIfInBounds_toArray, List.set_cons_succ, List.set_cons_zero]; try rfl
      refine flowe_take 7 (v := ?_) (a' := ?_) hps rfl (by kernel_rfl) rfl ?_ ?_ ?_
      rotate_left 2
      · intro w' hk; go_simp; try rfl
      · simp only [Act.put, List.setIfInBounds_toArray, List.set_cons_succ, List.set_cons_zero]; try rfl
      refine flowe_take 8 (v := ?_) (a' := ?_) hps rfl (by kernel_rfl) rfl ?_ ?_ ?_
      rotate_left 2
      · intro w' hk; go_simp; try rfl
      · simp only [Act.put, List.setIfInBounds_toArray, List.set_cons_succ, List.set_cons_zero]; try rfl
      refine flowe_take 9 (v := ?_) (a' := ?_) hps rfl (by kernel_rfl) rfl ?_ ?_ ?_
      rotate_left 2
      · intro w' hk; go_simp; try rfl
      · simp only [Act.put, List.setIfInBounds_toArray, List.set_cons_succ, List.set_cons_zero]; try rfl
      refine flowe_take 10 (v := ?_) (a' := ?_) hps rfl (by kernel_rfl) rfl ?_ ?_ ?_
      rotate_left 2
      · intro w' hk; go_simp; try rfl
      · simp only [Act.put, List.setIfInBounds_toArray, List.set_cons_succ, List.set_cons_zero]; try rfl
      refine flowe_take 11 (v := ?_) (a' := ?_) hps rfl (by kernel_rfl) rfl ?_ ?_ ?_
      rotate_left 2
      · intro w' hk; go_simp; try rfl
      · simp only [Act.put, List.setIfInBounds_toArray, List.set_cons_succ, List.set_cons_zero]; try rfl
      refine flowe_take 12 (v := ?_) (a' := ?_) hps rfl (by kernel_rfl) rfl ?_ ?_ ?_
      rotate_left 2
      · intro w' hk; go_simp; try rfl
      · simp only [Act.put, List.setIfInBounds_toArray, List.set_cons_succ, List.set_cons_zero]; try rfl
      refine flowe_take 13 (v := ?_) (a' := ?_) hps rfl (by kernel_rfl) rfl ?_ ?_ ?_
      rotate_left 2
      · intro w' hk; go_simp; try rfl
      · simp only [Act.put, List.setIfInBounds_toArray, List.set_cons_succ, List.set_cons_zero]; try rfl
      refine flowe_take 14 (v := ?_) (a' := ?_) hps rfl (by kernel_rfl) rfl ?_ ?_ ?_
      rotate_left 2
      · intro w' hk; go_simp; try rfl
      · simp only [Act.put, List.setIfInBounds_toArray, List.set_cons_succ, List.set_cons_zero]; try rfl
      refine flowe_take 15 (v := ?_) (a' := ?_) hps rfl (by kernel_rfl) rfl ?_ ?_ ?_
      rotate_left 2
      · intro w' hk; go_simp; try rfl
      · simp only [Act.put, List.setIfInBounds_toArray, List.set_cons_succ, List.set_cons_zero]; try rfl
      refine flowe_skip 16 (a' := ?_) hps rfl (by kernel_rfl) rfl ?_ ?_
      rotate_left 1
      · simp only [Act.put, List.setIfInBounds_toArray, List.set_cons_succ, List.set_cons_zero]; try rfl
      refine flowe_skip 17 (a' := ?_) hps rfl (by kernel_rfl) rfl ?_ ?_
      rotate_left 1
      · simp only [Act.put, List.setIfInBounds_toArray, List.set_cons_succ, List.set_cons_zero]; try rfl
      refine flowe_skip 18 (a' := ?_) hps rfl (by kernel_rfl) rfl ?_ ?_
      rotate_left 1
      · simp only [Act.put, List.setIfInBounds_toArray, List.set_cons_succ, List.set_cons_zero]; try rfl
      refine flowe_skip 19 (a' := ?_) hps rfl (by kernel_rfl) rfl ?_ ?_
      rotate_left 1
      · simp only [Act.put, List.setIfInBounds_toArray, List.set_cons_succ, List.set_cons_zero]; try rfl
      refine flowe_skip 20 (a' := ?_) hps rfl (by kernel_rfl) rfl ?_ ?_
      rotate_left 1
      · simp only [Act.put, List.setIfInBounds_toArray, List.set_cons_succ, List.set_cons_zero]; try rfl
      refine flowe_skip 21 (a' := ?_) hps rfl (by kernel_rfl) rfl ?_ ?_
      rotate_left 1
      · simp only [Act.put, List.setIfInBounds_toArray, List.set_cons_succ, List.set_cons_zero]; try rfl
      refine flowe_skip 22 (a' := ?_) hps rfl (by kernel_rfl) rfl ?_ ?_
      rotate_left 1
      · simp only [Act.put, List.setIfInBounds_toArray, List.set_cons_succ, List.set_cons_zero]; try rfl
      refine flowe_take 23 (v := ?_) (a' := ?_) hps rfl (by kernel_rfl) rfl ?_ ?_ ?_
      rotate_left 2
      · intro w' hk; go_simp; try rfl
      · simp only [Act.put, List.setIfInBounds_toArray, List.set_cons_succ, List.set_cons_zero]; try rfl
      refine flowe_take 24 (v := ?_) (a' := ?_) hps rfl (by kernel_rfl) rfl ?_ ?_ ?_
      rotate_left 2
      · intro w' hk; go_simp; try rfl
      · simp only [Act.put, List.setIfInBounds_toArray, List.set_cons_succ, List.set_cons_zero]; try rfl
      refine flowe_take 25 (v := ?_) (a' := ?_) hps rfl (by kernel_rfl) rfl ?_ ?_ ?_
      rotate_left 2
      · intro w' hk; go_simp; try rfl
      · simp only [Act.put, List.setIfInBounds_toArray, List.set_cons_succ, List.set_cons_zero]; try rfl
      refine flowe_done hps (by kernel_rfl) ?_
      have BZ := Lib.hid (TK.out.below (kk.below (Nat.le_refl _) fun _ _ h => h)).end
      clear kk
      go_wp2
      go_ret
      exact ⟨rfl, BZ.out⟩
end Go.Proofs.Ytjijniillehfoaa

/- Words for the statements' walks: what comes in as lists of numbers, what lies in lists of blocks; an operation that stores a block. -/
namespace Go.Own
open Go Go.RowKit
theorem St.argCell {w0 w : World} {l : List Ob} (h : St w0.heap.size w0 w l) {b o : Nat} {v : Value} (hc : w0.cell? ⟨b, o, none⟩ = some v) : w.cell? ⟨b, o, none⟩ = some v := by
  have hb := World.block_lt_of_cell? w0 _ hc
  rw [cell_of_block (w := w0) (p := ⟨b, o, none⟩) (h.keep.block b hb (by show ¬ w0.heap.size ≤ b; simp only at hb; omega))]; exact hc
theorem Is.len {w : World} {k : IntKind} {a : Option Addr} {n c : Nat} {l : List Int} (h : Is w k a n c l) : n = l.length := by simpa using (Sl.len h.1).symm
theorem Ts.len {w : World} {a : Option Addr} {n c : Nat} {l : List Bool} (h : Ts w a n c l) : n = l.length := by simpa using (Sl.len h).symm
theorem Is.at {w : World} {k : IntKind} {a : Option Addr} {n c : Nat} {l : List Int} (h : Is w k a n c l) (i : Nat) (hi : i < l.length) :
    ∃ b o, a = some ⟨b, o, none⟩ ∧ w.cell? ⟨b, o + i, none⟩ = some (.int k l[i]) := Sl.cells h.1 i _ (by simp [hi])
theorem Ts.at {w : World} {a : Option Addr} {n c : Nat} {l : List Bool} (h : Ts w a n c l) (i : Nat) (hi : i < l.length) :
    ∃ b o, a = some ⟨b, o, none⟩ ∧ w.cell? ⟨b, o + i, none⟩ = some (.bool l[i]) := Sl.cells h i _ (by simp [hi])
theorem mid_cell {F : Nat → Prop} {w w' : World} (hk : Keep F w w') {b o : Nat} {v : Value} (hc : w.cell? ⟨b, o, none⟩ = some v) (hb : ¬ F b) : w'.cell? ⟨b, o, none⟩ = some v := by
  rw [cell_of_block (w := w) (p := ⟨b, o, none⟩) (hk.block b (World.block_lt_of_cell? w _ hc) hb)]; exact hc
/-- A block that is to be laid may be. -/
theorem chain_setI {b : List UInt8} {L : List Blk} (hc : Chain 184 L) (he : endOf 184 L ≤ b.length) {x : Blk} (hx : x ∈ L) : setI b x.off x.size x.used = some (setB b x) := by
  obtain ⟨h1, h2, h3⟩ := hc.mem hx
  obtain ⟨l1, l2, rfl⟩ := List.append_of_mem hx
  have hm := (Chain.append.1 hc).1.mod (by decide)
  have ho : x.off = endOf 184 l1 := (Chain.append.1 hc).2.1
  have hs := (isSize_iff _).1 h2
  unfold setI
  rw [if_pos ⟨h2, couldB_iff.2 (by omega)⟩]
  simp only [Int.toNat_natCast]
theorem byte_of {x : Int} (h : (Lit.int .u8 x).wf = true) : ∃ y : UInt8, x = (y.toNat : Nat) := by
  simp [Lit.wf, IntKind.min, IntKind.max, IntKind.bits, IntKind.signed] at h
  refine ⟨UInt8.ofNat x.toNat, ?_⟩
  rw [UInt8.toNat_ofNat']
  omega
end Go.Own
namespace Go.Proofs.Ytjijniillehfoaa
open Go Go.RowKit Go.Own
set_option linter.unusedVariables false
section
variable {B : Nat} {w0 w : World} {l : List Ob}
/-- A list of blocks of one's own: its value, its cells. -/
theorem bls_slice (h : St B w0 w l) {i : Nat} {v : Value} {L : List Blk} (hi : l[i]? = some (BlsO v L)) : ∃ a c, v = .slice a L.length c ∧ Sl w a L.length c 3 (L.map blC).flatten := by
  obtain ⟨a, c, e, _, hs⟩ := Sl.of_owned (h.own hi)
  exact ⟨a, c, e, hs⟩
theorem bls_sl (h : St B w0 w l) {i : Nat} {a : Option Addr} {n c : Nat} {L : List Blk} (hi : l[i]? = some (BlsO (.slice a n c) L)) : n = L.length ∧ Sl w a L.length c 3 (L.map blC).flatten := by
  obtain ⟨a, c, e, hs⟩ := bls_slice h hi
  cases e; exact ⟨rfl, hs⟩
/-- One of them, as its cells lie there. -/
theorem bl_at {a : Option Addr} {n c : Nat} {L : List Blk} (h : Sl w a n c 3 (L.map blC).flatten) (k : Nat) (hk : k < L.length) : ∃ b o, a = some ⟨b, o, none⟩ ∧ w.rangeAt b (o + k * 3) (blC L[k]) :=
  sl_at h blC_len (by decide) k hk
theorem range_keep {F : Nat → Prop} {w' : World} (hk : Keep F w w') {b o : Nat} {cs : List Value} (hr : w.rangeAt b o cs) (hb : ¬ F b) : w'.rangeAt b o cs := fun j v hj => mid_cell hk (hr j v hj) hb
theorem bl_cells {b o : Nat} {x : Blk} (hr : w.rangeAt b o (blC x)) : w.cell? ⟨b, o, none⟩ = some (.int .i64 x.off) ∧ w.cell? ⟨b, o + 1, none⟩ = some (.int .i64 x.size) ∧ w.cell? ⟨b, o + 2, none⟩ = some (.bool x.used) :=
  ⟨hr 0 _ rfl, hr 1 _ rfl, hr 2 _ rfl⟩
section
variable {ops : Array Oper} {rest : List Oper} {o : Oper} {a : Act} {Q : Exit → Act → World → Prop} {K : Act → World → Prop}
/-- 'v = l[k]'. -/
theorem bl_mid (hgd : Region.wanted o (yielded ops a.tmps) = true) (x : Operand) (ho : o.op = .load 77 x) (b o' : Nat) (hx : a.eval x = .pointer (some ⟨b, o', none⟩)) (y : Blk) (hr : w.rangeAt b o' (blC y))
    (hk : wpList Try.prog ops Q rest (a.put o.dst (.agg #[.int .i64 y.off, .int .i64 y.size, .bool y.used])) w) : wpList Try.prog ops Q (o :: rest) a w :=
  at_wanted hgd fun _ hK => wp_load_mid 77 x ho b o' hx (blC y) _ hr Try.underlying77 rfl size_bl (hK _ _ hk)
/-- 'x = v', at an operation. -/
theorem bk_store_at (h : St B w0 w l) (i : Nat) {g : Nat} {p q : Int} {r : Bool} (hi : l[i]? = some (BkO g p q r)) (x y : Operand) (ho : o.op = .store 77 x y)
    (hx : a.eval x = .pointer (some ⟨g, 0, none⟩)) (p' q' : Int) (r' : Bool) (hy : a.eval y = .agg #[.int .i64 p', .int .i64 q', .bool r'])
    (hk : ∀ w', St B w0 w' (l.set i (BkO g p' q' r')) → Keep (· = g) w w' → K (a.put o.dst undef) w') : o.wp Try.prog a w K Q := by
  have hg := h.row hi
  have hs : (Try.prog.info? 77).map (·.size) = some 3 := size_bl
  cases hinf : Try.prog.info? 77 with
  | none => rw [hinf] at hs; cases hs
  | some inf =>
    have hst := run_storeVar_row (P := Try.prog) w g 77 77 #[.int .i64 p, .int .i64 q, .bool r] #[.int .i64 p', .int .i64 q', .bool r'] hg (by rw [hinf] at hs ⊢; simpa using hs) rfl (by simp [Value.oneCell'])
    unfold Oper.wp execOp
    simp only [ho, hx, hy, Instr.storeAt, Instr.sureAddr]
    simp [Sem.run_bind, Result.andThen, hst]
    have hrow : Row (w.setRow g #[.int .i64 p', .int .i64 q', .bool r']) g 77 [.int .i64 p', .int .i64 q', .bool r'] := setRow_heap w g #[.int .i64 p, .int .i64 q, .bool r] #[.int .i64 p', .int .i64 q', .bool r'] 77 (0, 0) hg
    have hkp : Keep (· = g) w (w.setRow g #[.int .i64 p', .int .i64 q', .bool r']) := ⟨rfl, rfl, rfl, by simp, fun k _ hk => setRow_other w g k #[.int .i64 p', .int .i64 q', .bool r'] hk⟩
    exact hk _ (h.rowTo hi _ _ hrow hkp) hkp
end
end
end Go.Proofs.Ytjijniillehfoaa

/- Layer 7: blocks that are set one behind the other. -/
namespace Go.Proofs.Ytjijniillehfoaa
open Go Go.RowKit Go.Own
set_option linter.unusedVariables false
set_option maxRecDepth 100000
set_option maxHeartbeats 8000000 in
theorem blockBack (w : World) (bs : Int) (sa : Option Addr) (sn sc : Nat) (ua : Option Addr) (un uc : Nat) (fl : Int) (hbs : (Lit.int .u64 bs).wf = true) (hz : Rd w (.sl (.int .i64)) [.slice sa sn sc]) (hu : Rd w (.sl .bool) [.slice ua un uc]) (hf : (Lit.int .u8 fl).wf = true) :
    Calls Try.prog 8 #[.int .u64 bs, .slice sa sn sc, .slice ua un uc, .int .u8 fl] w (lawOk w) := by
  obtain ⟨zs, hzs⟩ := hz.ints
  obtain ⟨us, hus⟩ := hu.bools
  obtain ⟨fb, rfl⟩ := byte_of hf
  have hn := hzs.len; have hm := hus.len
  subst hn; subst hm
  have p1 := Sl.cap hzs.1; have r1 := Sl.room hzs.1; have p2 := Sl.cap hus; have r2 := Sl.room hus
  have HZ := Lib.hid hzs; have HU := Lib.hid hus
  clear hz hu hzs hus hf
  go_enter Try.func8, Try.ntmps8
  go_wp2_with fail
  refine (up07 w).mono ?_
  rintro e w1 ⟨rfl, bw1⟩
  have T1 := Lib.hid ((St.start w).below bw1)
  clear bw1
  by_cases hl : zs.length > 60
  · have B2 := Lib.hid T1.out.end
    go_wp2
    go_ret
    exact ⟨rfl, B2.out⟩
  have hl6 : zs.length ≤ 60 := by omega
  have T2 := Lib.hid (show St w.heap.size w w1 (BlsO (.slice none 0 0) [] :: []) from T1.out.addOwn (Below.refl _ _) (World.ownsRow_nil _ _ _ _))
  clear T1 hl
  go_wp2
  go_loopw [10, 11, 12] (fun vl vo vi wr => ∃ (k : Nat) (L : List Blk), k ≤ zs.length ∧ vi = .int .i64 k ∧ vo = .int .i64 (endOf 184 L : Nat) ∧ L.length = k ∧ Chain 184 L ∧ endOf 184 L ≤ 184 + 208 * k ∧ St w.heap.size w wr (BlsO vl L :: [])) (fun _ _ vi _ => zs.length - (intOf vi).toNat)
  case atStart => exact ⟨0, [], Nat.zero_le _, rfl, rfl, rfl, trivial, Nat.le_refl _, T2.out⟩
  case round =>
    clear T2
    obtain ⟨k, L, hk, rfl, rfl, hL, hch, hend, hS⟩ := hrel
    have HCH := Lib.hid hch
    clear hch
    by_cases hlt : k < zs.length
    · obtain ⟨zb, zo, rfl, hcz⟩ := HZ.out.at k hlt
      have hzw := wfI64 (HZ.out.2 zs[k] (List.getElem_mem hlt))
      have c1 := hS.argCell hcz
      generalize zs[k] = z at *
      have hL2 : L.length ≤ 1000000 := by omega
      have HS := Lib.hid hS; have HL := Lib.hid hL
      obtain ⟨E, hE⟩ : ∃ E, E = endOf 184 L := ⟨_, rfl⟩
      have HE := Lib.hid hE
      rw [← hE] at hend ⊢
      clear hS hcz hL hE
      go_wp2_with fail
      have kc := law_Pick wr z 12 hzw.1 hzw.2 (by decide) (by decide)
      have q0 := Int.emod_nonneg z (show (12 : Int) ≠ 0 by decide)
      have q1 := Int.emod_lt_of_pos z (show (0 : Int) < 12 by decide)
      obtain ⟨q, hq⟩ := Int.eq_ofNat_of_zero_le q0
      rw [hq] at kc q1
      with_reducible refine kc.mono ?_
      clear kc hq q0 hzw c1
      rintro e w' ⟨rfl, rfl⟩
      obtain ⟨N, hN⟩ : ∃ N : Nat, N = 32 + 16 * q := ⟨_, rfl⟩
      have m1 : IntKind.i64.wrap (16 * (q : Int)) = 16 * (q : Int) := IntWalk.i64_in _ (by omega)
      have m2 : IntKind.i64.wrap (32 + 16 * (q : Int)) = (N : Int) := by rw [IntWalk.i64_in _ (by omega)]; omega
      have m3 : IntKind.i64.wrap ((E : Int) + (N : Int)) = ((E + N : Nat) : Int) := by rw [IntWalk.i64_in _ (by omega)]; omega
      have hNs : isSize (N : Int) = true := isSize_yes (by omega)
      have hN2 : N ≤ 208 := by omega
      have HNS := Lib.hid hNs
      clear hN hNs
      have fin : ∀ (x : Blk) (v' : Value) (w' : World), x.off = E → x.size = N → St w.heap.size w w' (BlsO v' (L ++ [x]) :: []) →
          ∃ (k' : Nat) (L' : List Blk), k' ≤ zs.length ∧ (Value.int .i64 ((k + 1 : Nat) : Int)) = .int .i64 k' ∧ (Value.int .i64 ((E + N : Nat) : Int)) = .int .i64 (endOf 184 L' : Nat) ∧ L'.length = k' ∧ Chain 184 L' ∧ endOf 184 L' ≤ 184 + 208 * k' ∧ St w.heap.size w w' (BlsO v' L' :: []) := by
        intro x v' w' h1 h2 h3
        refine ⟨k + 1, L ++ [x], hlt, rfl, ?_, by rw [List.length_append, HL.out]; rfl, HCH.out.snoc (h1.trans HE.out) (by rw [h2]; exact HNS.out), ?_, h3⟩
        · rw [endOf_snoc, ← HE.out, h2]
        · rw [endOf_snoc, ← HE.out, h2]; omega
      have FIN := Lib.hid fin
      clear fin
      by_cases hku : k < us.length
      · obtain ⟨ub, uo, rfl, hcu⟩ := HU.out.at k hku
        have c2 := HS.out.argCell hcu
        generalize us[k] = u at *
        clear hcu
        go_wp2_with (at_builtin; go_must (refine bls_app HS.out 0 rfl rfl (.tmp 43) (.tmp 57) rfl rfl (E : Int) (N : Int) u ⟨E, N, u⟩ rfl rfl rfl rfl hL2 ?_; intro v6 w6 h6; have H6 := Lib.hid h6; clear h6))
        have F6 := FIN.out ⟨E, N, u⟩ v6 w6 rfl rfl H6.out
        exact ⟨F6, by simp [intOf]; omega⟩
      · go_wp2_with (at_builtin; go_must (refine bls_app HS.out 0 rfl rfl (.tmp 43) (.tmp 57) rfl rfl (E : Int) (N : Int) false ⟨E, N, false⟩ rfl rfl rfl rfl hL2 ?_; intro v6 w6 h6; have H6 := Lib.hid h6; clear h6))
        have F6 := FIN.out ⟨E, N, false⟩ v6 w6 rfl rfl H6.out
        exact ⟨F6, by simp [intOf]; omega⟩
    · obtain rfl : k = zs.length := by omega
      obtain ⟨E, hE⟩ : ∃ E, E = endOf 184 L := ⟨_, rfl⟩
      have HE := Lib.hid hE
      rw [← hE] at hend ⊢
      have hE1 : 184 ≤ E := by rw [hE]; exact endOf_ge L 184
      have hE2 : E ≤ 12664 := by omega
      obtain ⟨a1, c1, rfl, _⟩ := bls_slice hS (i := 0) rfl
      have HL := Lib.hid hL; have HS := Lib.hid hS
      have hL6 : L.length ≤ 60 := by omega
      clear hE hlt hk hl6 hend hL hS p1 r1 p2 r2
      obtain ⟨b0, b1⟩ := wfU64 hbs
      obtain ⟨g, W, hmk, t1⟩ := mk_st HS.out (E : Int) E rfl (by omega)
      have hz : (List.replicate E (0 : UInt8)).length = E := List.length_replicate ..
      generalize List.replicate E (0 : UInt8) = z0 at *
      have T1 := Lib.hid t1; have HZL := Lib.hid hz
      clear t1 HS hz hbs
      go_wp2
      rename ∀ (a : Act) (w : World), _ → _ => hkeep
      revert hkeep
      repeat (rename ∀ (a : Act) (w : World), _ → _ => hgx; clear hgx)
      repeat (rename Exit → Act → World → Prop => hgx; clear hgx)
      intro hkeep
      go_loopw [15] (fun vi wr => ∃ (k : Nat) (y : List UInt8), k ≤ E ∧ vi = .int .i64 k ∧ y.length = E ∧ St w.heap.size w wr (OwO 5 1 (.slice (some ⟨g, 0, none⟩) E E) y.length (y.map bv) :: BlsO (.slice a1 L.length c1) L :: [])) (fun vi _ => E - (intOf vi).toNat)
      case atStart => exact ⟨0, z0, Nat.zero_le _, rfl, HZL.out, T1.out⟩
      case round =>
        clear T1
        obtain ⟨k, y, hk, rfl, hy, hS⟩ := hrel
        by_cases hlt : k < E
        · obtain ⟨g', cap, e1, ⟨u, hu⟩, hfz, hset⟩ := hS.setByte (i := 0) rfl k (by omega)
          rw [hy] at e1
          cases e1
          have HSET := Lib.hid (hset fb)
          have hy2 : (y.set k fb).length = y.length := List.length_set
          have HY := Lib.hid hy; have HY2 := Lib.hid hy2
          clear hset hS hy hy2
          go_wp2
          refine ⟨⟨k + 1, y.set k fb, hlt, by go_num, HY2.out.trans HY.out, ?_⟩, by simp [intOf]; omega⟩
          rw [HY2.out]; exact HSET.out
        · obtain rfl : k = E := by omega
          have HY := Lib.hid hy; have HS := Lib.hid hS
          clear hlt hk hy hS
          go_wp2_with fail
          refine (law_Base wr bs b0 b1).mono ?_
          rintro e w' ⟨rfl, rfl⟩
          obtain ⟨bn, hbn⟩ : ∃ bn : Nat, bs % 288230376151711744 * 16 = bn := ⟨(bs % 288230376151711744 * 16).toNat, by omega⟩
          have hb16 : bn % 16 = 0 := by omega
          have hb62 : bn ≤ 4611686018427387904 := by omega
          rw [hbn]
          clear hbn
          have hbs1 := HS.out.bsV (i := 0) rfl
          go_wp2_with fail
          have kc := ar_Arena HS.out (bn : Int) bn rfl 16384 16384 rfl hb16 hb62 (by decide) (by decide) _ _ _ y hbs1 (by have := HY.out; omega)
          with_reducible refine kc.mono ?_
          clear kc
          rintro e w3 ⟨q, rfl, t3⟩
          have T3 := Lib.hid t3
          clear t3
          have T4 := Lib.hid (show St w.heap.size w w3 (ArT q ⟨bn, 16384, y⟩ :: BlsO (.slice a1 L.length c1) L :: []) from T3.out.sub (List.Sublist.cons_cons _ (List.sublist_cons_self ..)))
          clear T3 HS hbs1 b0 b1
          go_wp2
          rename ∀ (a : Act) (w : World), _ → _ => hkeep
          revert hkeep
          repeat (rename ∀ (a : Act) (w : World), _ → _ => hgx; clear hgx)
          repeat (rename Exit → Act → World → Prop => hgx; clear hgx)
          intro hkeep
          go_loopw [17] (fun vi wr => ∃ (k : Nat), k ≤ L.length ∧ vi = .int .i64 k ∧ St w.heap.size w wr (ArT q ⟨bn, 16384, setAll y (L.take k)⟩ :: BlsO (.slice a1 L.length c1) L :: [])) (fun vi _ => L.length - (intOf vi).toNat)
          case atStart => exact ⟨0, Nat.zero_le _, rfl, T4.out⟩
          case round =>
            clear T4
            obtain ⟨j, hj, rfl, hS⟩ := hrel
            by_cases hlt : j < L.length
            · obtain ⟨bb, bo, rfl, hr⟩ := bl_at (bls_sl hS (i := 1) rfl).2 j hlt
              have hx := List.getElem_mem hlt
              have hcs := (Chain.append.1 (show Chain 184 (L.take j ++ L.drop j) by rw [List.take_append_drop]; exact HCH.out)).1
              have hel : endOf 184 (L.take j) ≤ y.length := by have h1 := endOf_take_le L 184 j; have h2 := HE.out; have h3 := HY.out; omega
              have hset := chain_setI (b := setAll y (L.take j)) HCH.out (by rw [hcs.setAll_length hel]; have h2 := HE.out; have h3 := HY.out; omega) hx
              have hnew : setB (setAll y (L.take j)) L[j] = setAll y (L.take (j + 1)) := by
                rw [List.take_succ_eq_append_getElem hlt, setAll_append]; rfl
              rw [hnew] at hset
              generalize L[j] = x at *
              have HS := Lib.hid hS; have HR := Lib.hid hr; have HST := Lib.hid hset
              clear hS hr hset hnew hx hcs hel
              go_wp2_with (refine bl_mid rfl _ rfl bb (bo + j * 3) rfl x HR.out ?_)
              have kc := blk_Set HS.out (i := 0) rfl x.off x.size x.used
              rw [show ({ base := bn, cap := 16384, b := setAll y (L.take j) } : Ar).b = setAll y (L.take j) from rfl, HST.out, show errS (some (setAll y (L.take (j + 1)))) = .nilIface from rfl] at kc
              with_reducible refine kc.mono ?_
              clear kc
              rintro e w5 ⟨rfl, t5⟩
              have T5 := Lib.hid t5
              clear t5
              go_wp2
              exact ⟨⟨j + 1, hlt, by go_num, T5.out⟩, by simp [intOf]; omega⟩
            · obtain rfl : j = L.length := by omega
              rw [List.take_length] at hS
              have hey : endOf 184 L = y.length := by have h2 := HE.out; have h3 := HY.out; omega
              have htile := HCH.out.tile (b := y) (Nat.le_refl _) (by decide) hey
              have hlen := HCH.out.setAll_length (b := y) (Nat.le_of_eq hey)
              have hw := (walkB_tile (setAll y L) L).2 ⟨by have h3 := HY.out; omega, htile⟩
              have hget : ∀ x ∈ L, blkAt (setAll y L) x.off = some x := fun x hx => (htile.mem hx).2.1
              have hend : ∀ x ∈ L, x.off + x.size ≤ 16384 := fun x hx => by have := (htile.mem hx).2.2; have h3 := HY.out; omega
              generalize setAll y L = Y at *
              have HG := Lib.hid hget; have HW := Lib.hid hw; have HS := Lib.hid hS; have HEN := Lib.hid hend
              clear hS htile hlen hw hget hey hlt hj hend
              go_wp2_with fail
              have kc := blk_Walk HS.out (i := 0) rfl
              rw [show ({ base := bn, cap := 16384, b := Y } : Ar).b = Y from rfl, HW.out, show errW (some L) = .nilIface from rfl, show (some L).getD [] = L from rfl] at kc
              with_reducible refine kc.mono ?_
              clear kc
              rintro e w6 ⟨v6, rfl, t6⟩
              have T6 := Lib.hid t6
              clear t6
              obtain ⟨a6, c6, rfl, hs6⟩ := bls_slice T6.out (i := 0) rfl
              have HS6 := Lib.hid hs6
              have HS7 := Lib.hid (bls_sl T6.out (i := 2) rfl).2
              clear hs6
              go_wp2_with fail
              have kc := law_Blocks _ a6 c6 L a1 c1 L HS6.out HS7.out
              rw [if_pos rfl] at kc
              with_reducible refine kc.mono ?_
              clear kc
              rintro e w7 ⟨rfl, b7⟩
              have B7 := Lib.hid b7
              clear b7
              have T7 := Lib.hid (T6.out.tail.below B7.out)
              clear HS6 HS7 T6 B7 HS
              go_wp2
              rename ∀ (a : Act) (w : World), _ → _ => hkeep
              revert hkeep
              repeat (rename ∀ (a : Act) (w : World), _ → _ => hgx; clear hgx)
              repeat (rename Exit → Act → World → Prop => hgx; clear hgx)
              intro hkeep
              go_loopw [20] (fun vi wr => ∃ (k : Nat), k ≤ L.length ∧ vi = .int .i64 k ∧ St w.heap.size w wr (ArT q ⟨bn, 16384, Y⟩ :: BlsO (.slice a1 L.length c1) L :: [])) (fun vi _ => L.length - (intOf vi).toNat)
              case atStart => exact ⟨0, Nat.zero_le _, rfl, T7.out⟩
              case round =>
                clear T7
                obtain ⟨j, hj, rfl, hS⟩ := hrel
                by_cases hlt : j < L.length
                · obtain ⟨bb, bo, rfl, hr⟩ := bl_at (bls_sl hS (i := 1) rfl).2 j hlt
                  have hx := List.getElem_mem hlt
                  have hbx := HG.out L[j] hx
                  have hex := HEN.out L[j] hx
                  generalize hxe : L[j] = x at *
                  obtain ⟨xo, xs, xu⟩ := x
                  have HXE := Lib.hid hxe
                  clear hxe
                  have hbA := aheadB_of hbx
                  simp only at hbx hex hbA
                  have hi1 : blkI Y (xo : Int) = some ⟨xo, xs, xu⟩ := by unfold blkI; rw [if_pos (Int.natCast_nonneg _), Int.toNat_natCast]; exact hbx
                  have hi2 : aheadI Y ((xo : Int) + (xs : Int)) = some ⟨xo, xs, xu⟩ := by unfold aheadI; rw [← Int.natCast_add, if_pos (Int.natCast_nonneg _), Int.toNat_natCast]; exact hbA
                  have m1 : IntKind.i64.wrap ((xo : Int) + (xs : Int)) = ((xo + xs : Nat) : Int) := by rw [IntWalk.i64_in _ (by omega)]; omega
                  have HS := Lib.hid hS; have HR := Lib.hid hr; have HI1 := Lib.hid hi1; have HI2 := Lib.hid hi2
                  obtain ⟨k0, k1, k2⟩ := bl_cells hr
                  simp only at k0 k1 k2
                  clear hS hr hi1 hi2 hbx hbA hx hex
                  go_wp2_with fail
                  have kc := blk_Get HS.out (i := 0) rfl xo
                  rw [show ({ base := bn, cap := 16384, b := Y } : Ar).b = Y from rfl, HI1.out, show bkV (some ⟨xo, xs, xu⟩) = .agg #[.int .i64 xo, .int .i64 xs, .bool xu] from rfl, show errO (some ⟨xo, xs, xu⟩) = .nilIface from rfl] at kc
                  with_reducible refine kc.mono ?_
                  clear kc
                  rintro e w8 ⟨rfl, t8⟩
                  have T8 := Lib.hid t8
                  clear t8
                  clear HS
                  go_wp2_with (first | (refine bk_alloc T8.out rfl rfl ?_; intro g1 w9 h9; have T9 := Lib.hid h9; clear h9 T8) | (refine bk_store T9.out 0 rfl rfl _ _ rfl rfl xo xs xu rfl ?_; intro wa ta; have TA := Lib.hid ta; clear ta T9))
                  have cellsOf : ∀ (w' : World) (l : List Ob) (i : Nat), St w.heap.size w w' l → l[i]? = some (BlsO (.slice (some ⟨bb, bo, none⟩) L.length c1) L) → w'.cell? ⟨bb, bo + j * 3, none⟩ = some (.int .i64 xo) ∧ w'.cell? ⟨bb, bo + j * 3 + 1, none⟩ = some (.int .i64 xs) ∧ w'.cell? ⟨bb, bo + j * 3 + 2, none⟩ = some (.bool xu) := by
                    intro w' l i h hi
                    obtain ⟨b', o', e', hr'⟩ := bl_at (bls_sl h hi).2 j hlt
                    cases e'
                    rw [HXE.out] at hr'
                    exact bl_cells hr'
                  have CO := Lib.hid cellsOf
                  clear cellsOf k0 k1 k2 HR
                  have TX := Lib.hid TA.out.drew
                  go_wp2
                  refine flows_begin (S := fun w' => w'.cell? ⟨bb, bo + j * 3, none⟩ = some (.int .i64 xo) ∧ w'.cell? ⟨bb, bo + j * 3 + 1, none⟩ = some (.int .i64 xs) ∧ w'.cell? ⟨bb, bo + j * 3 + 2, none⟩ = some (.bool xu)) hmixed 19 rfl (by repeat (first | with_reducible refine ps_then ?_ | with_reducible refine ps_block ?_ | with_reducible exact ps_body | refine ps_then ?_ | refine ps_block ?_ | exact ps_body)) (CO.out _ _ 2 TX.out rfl) (fun hps => ?_)
                  simp only [List.replicate]
                  generalize wa.drew = wx at TX ⊢
                  refine flows_take 0 (v := ?_) (a' := ?_) hps rfl (by kernel_rfl) rfl ?_ ?_ ?_
                  rotate_left 2
                  · intro w' hk; go_simp; try rfl
                  · simp only [Act.put, List.setIfInBounds_toArray, List.set_cons_succ, List.set_cons_zero]; try rfl
                  refine flows_take 1 (v := ?_) (a' := ?_) hps rfl (by kernel_rfl) rfl ?_ ?_ ?_
                  rotate_left 2
                  · intro w' hk; go_simp; try rfl
                  · simp only [Act.put, List.setIfInBounds_toArray, List.set_cons_succ, List.set_cons_zero]; try rfl
                  refine flows_take 2 (v := ?_) (a' := ?_) hps rfl (by kernel_rfl) rfl ?_ ?_ ?_
                  rotate_left 2
                  · intro w' hk; go_simp; try rfl
                  · simp only [Act.put, List.setIfInBounds_toArray, List.set_cons_succ, List.set_cons_zero]; try rfl
                  refine flows_take 3 (v := ?_) (a' := ?_) hps rfl (by kernel_rfl) rfl ?_ ?_ ?_
                  rotate_left 2
                  · intro w' hk; go_simp; try rfl
                  · simp only [Act.put, List.setIfInBounds_toArray, List.set_cons_succ, List.set_cons_zero]; try rfl
                  refine flows_take 4 (v := ?_) (a' := ?_) hps rfl (by kernel_rfl) rfl ?_ ?_ ?_
                  rotate_left 2
                  · intro w' hk; go_simp; try rfl
                  · simp only [Act.put, List.setIfInBounds_toArray, List.set_cons_succ, List.set_cons_zero]; try rfl
                  refine flows_take 5 (v := ?_) (a' := ?_) hps rfl (by kernel_rfl) rfl ?_ ?_ ?_
                  rotate_left 2
                  · intro w' hk; have k0 := hk.1; go_simp; try rfl
                  · simp only [Act.put, List.setIfInBounds_toArray, List.set_cons_succ, List.set_cons_zero]; try rfl
                  refine flows_take 6 (v := ?_) (a' := ?_) hps rfl (by kernel_rfl) rfl ?_ ?_ ?_
                  rotate_left 2
                  · intro w' hk; go_simp; try rfl
                  · simp only [Act.put, List.setIfInBounds_toArray, List.set_cons_succ, List.set_cons_zero]; try rfl
                  refine flows_take 7 (v := ?_) (a' := ?_) hps rfl (by kernel_rfl) rfl ?_ ?_ ?_
                  rotate_left 2
                  · intro w' hk; go_simp; try rfl
                  · simp only [Act.put, List.setIfInBounds_toArray, List.set_cons_succ, List.set_cons_zero]; try rfl
                  refine flows_take 8 (v := ?_) (a' := ?_) hps rfl (by kernel_rfl) rfl ?_ ?_ ?_
                  rotate_left 2
                  · intro w' hk; go_simp; try rfl
                  · simp only [Act.put, List.setIfInBounds_toArray, List.set_cons_succ, List.set_cons_zero]; try rfl
                  refine flows_take 9 (v := ?_) (a' := ?_) hps rfl (by kernel_rfl) rfl ?_ ?_ ?_
                  rotate_left 2
                  · intro w' hk; go_simp; try rfl
                  · simp only [Act.put, List.setIfInBounds_toArray, List.set_cons_succ, List.set_cons_zero]; try rfl
                  refine flows_take 10 (v := ?_) (a' := ?_) hps rfl (by kernel_rfl) rfl ?_ ?_ ?_
                  rotate_left 2
                  · intro w' hk; have k0 := hk.2.1; go_simp; try rfl
                  · simp only [Act.put, List.setIfInBounds_toArray, List.set_cons_succ, List.set_cons_zero]; try rfl
                  refine flows_take 11 (v := ?_) (a' := ?_) hps rfl (by kernel_rfl) rfl ?_ ?_ ?_
                  rotate_left 2
                  · intro w' hk; go_simp; try rfl
                  · simp only [Act.put, List.setIfInBounds_toArray, List.set_cons_succ, List.set_cons_zero]; try rfl
                  refine flows_any [12, 16] hps (by kernel_rfl) (by simp) (fun i hi => ?_)
                  simp only [List.mem_cons, List.not_mem_nil, or_false] at hi
                  rcases hi with rfl | rfl
                  · refine ⟨_, rfl, rfl, wp_next (fun K hK => ?_)⟩
                    go_simp
                    first | have kc := blk_Ahead TX.out (i := 1) rfl ((xo : Int) + (xs : Int)) | have kc := blk_Ahead TX.out (i := 2) rfl ((xo : Int) + (xs : Int))
                    rw [show ({ base := bn, cap := 16384, b := Y } : Ar).b = Y from rfl, HI2.out, show bkV (some ⟨xo, xs, xu⟩) = .agg #[.int .i64 xo, .int .i64 xs, .bool xu] from rfl, show errO (some ⟨xo, xs, xu⟩) = .nilIface from rfl] at kc
                    with_reducible refine kc.mono ?_
                    clear kc
                    rintro e wb ⟨rfl, tb⟩
                    replace TX := Lib.hid tb
                    clear tb
                    first | have kp := CO.out _ _ 2 TX.out rfl | have kp := CO.out _ _ 3 TX.out rfl
                    refine hK _ _ ⟨kp, ?_⟩
                    clear kp hK
                    refine flows_take 13 (v := ?_) (a' := ?_) hps rfl (by kernel_rfl) rfl ?_ ?_ ?_
                    rotate_left 2
                    · intro w' hk; go_simp; try rfl
                    · simp only [Act.put, List.setIfInBounds_toArray, List.set_cons_succ, List.set_cons_zero]; try rfl
                    refine flows_take 14 (v := ?_) (a' := ?_) hps rfl (by kernel_rfl) rfl ?_ ?_ ?_
                    rotate_left 2
                    · intro w' hk; go_simp; try rfl
                    · simp only [Act.put, List.setIfInBounds_toArray, List.set_cons_succ, List.set_cons_zero]; try rfl
                    refine flows_take 15 (v := ?_) (a' := ?_) hps rfl (by kernel_rfl) rfl ?_ ?_ ?_
                    rotate_left 2
                    · intro w' hk; go_simp; try rfl
                    · simp only [Act.put, List.setIfInBounds_toArray, List.set_cons_succ, List.set_cons_zero]; try rfl
                    refine flows_one 16 hps rfl (by kernel_rfl) rfl (wp_next (fun K hK => ?_))
                    go_simp
                    replace TX := Lib.hid (TX.out.addRow 77 [.int .i64 0, .int .i64 0, .bool false])
                    have kp := CO.out _ _ 3 TX.out rfl
                    refine hK _ _ ⟨kp, ?_⟩
                    clear kp hK
                    refine flows_one 17 hps rfl (by kernel_rfl) rfl (wp_next (fun K hK => ?_))
                    refine bk_store_at TX.out 0 rfl _ _ rfl rfl xo xs xu rfl ?_
                    intro wd td _
                    replace TX := Lib.hid td
                    clear td
                    have kp := CO.out _ _ 3 TX.out rfl
                    refine hK _ _ ⟨kp, ?_⟩
                    clear kp hK
                    refine flows_take 18 (v := ?_) (a' := ?_) hps rfl (by kernel_rfl) rfl ?_ ?_ ?_
                    rotate_left 2
                    · intro w' hk; go_simp; try rfl
                    · simp only [Act.put, List.setIfInBounds_toArray, List.set_cons_succ, List.set_cons_zero]; try rfl
                    refine flows_done hps (by kernel_rfl) ?_
                    have TD := Lib.hid TX.out.drew
                    have D2 := Lib.hid (TD.out.row (i := 0) rfl); have D1 := Lib.hid (TD.out.row (i := 1) rfl)
                    have DL := Lib.hid (CO.out _ _ 3 TD.out rfl)
                    go_wp2
                    refine flowe_begin (F := fun _ => False) hmixed 22 rfl (by repeat (first | with_reducible refine ps_then ?_ | with_reducible refine ps_block ?_ | with_reducible exact ps_body | refine ps_then ?_ | refine ps_block ?_ | exact ps_body)) (fun hps => ?_)
                    simp only [List.replicate]
                    have kk := (Keep.refl (fun _ => False) (wd)).drew
                    refine flowe_take 0 (v := ?_) (a' := ?_) hps rfl (by kernel_rfl) rfl ?_ ?_ ?_
                    rotate_left 2
                    · intro w' hk; go_simp; try rfl
                    · simp only [Act.put, List.setIfInBounds_toArray, List.set_cons_succ, List.set_cons_zero]; try rfl
                    refine flowe_take 1 (v := ?_) (a' := ?_) hps rfl (by kernel_rfl) rfl ?_ ?_ ?_
                    rotate_left 2
                    · intro w' hk; go_simp; try rfl
                    · simp only [Act.put, List.setIfInBounds_toArray, List.set_cons_succ, List.set_cons_zero]; try rfl
                    refine flowe_take 2 (v := ?_) (a' := ?_) hps rfl (by kernel_rfl) rfl ?_ ?_ ?_
                    rotate_left 2
                    · intro w' hk; go_simp; try rfl
                    · simp only [Act.put, List.setIfInBounds_toArray, List.set_cons_succ, List.set_cons_zero]; try rfl
                    refine flowe_take 3 (v := ?_) (a' := ?_) hps rfl (by kernel_rfl) rfl ?_ ?_ ?_
                    rotate_left 2
                    · intro w' hk; go_simp; try rfl
                    · simp only [Act.put, List.setIfInBounds_toArray, List.set_cons_succ, List.set_cons_zero]; try rfl
                    refine flowe_take 4 (v := ?_) (a' := ?_) hps rfl (by kernel_rfl) rfl ?_ ?_ ?_
                    rotate_left 2
                    · intro w' hk; go_simp; try rfl
                    · simp only [Act.put, List.setIfInBounds_toArray, List.set_cons_succ, List.set_cons_zero]; try rfl
                    refine flowe_take 5 (v := ?_) (a' := ?_) hps rfl (by kernel_rfl) rfl ?_ ?_ ?_
                    rotate_left 2
                    · intro w' hk; go_simp; try rfl
                    · simp only [Act.put, List.setIfInBounds_toArray, List.set_cons_succ, List.set_cons_zero]; try rfl
                    refine flowe_take 6 (v := ?_) (a' := ?_) hps rfl (by kernel_rfl) rfl ?_ ?_ ?_
                    rotate_left 2
                    · intro w' hk; go_simp; try rfl
                    · simp only [Act.put, List.setIfInBounds_toArray, List.set_cons_succ, List.set_cons_zero]; try rfl
                    refine flowe_take 7 (v := ?_) (a' := ?_) hps rfl (by kernel_rfl) rfl ?_ ?_ ?_
                    rotate_left 2
                    · intro w' hk; have k0 := (D1.out.keep hk (fun h => h)).cell 0; have k1 := (D1.out.keep hk (fun h => h)).cell 1; have k2 := (D1.out.keep hk (fun h => h)).cell 2; simp only [List.getElem?_cons_succ, List.getElem?_cons_zero] at k0 k1 k2; go_simp; try rfl
                    · simp only [Act.put, List.setIfInBounds_toArray, List.set_cons_succ, List.set_cons_zero]; try rfl
                    refine flowe_take 8 (v := ?_) (a' := ?_) hps rfl (by kernel_rfl) rfl ?_ ?_ ?_
                    rotate_left 2
                    · intro w' hk; go_simp; try rfl
                    · simp only [Act.put, List.setIfInBounds_toArray, List.set_cons_succ, List.set_cons_zero]; try rfl
                    refine flowe_take 9 (v := ?_) (a' := ?_) hps rfl (by kernel_rfl) rfl ?_ ?_ ?_
                    rotate_left 2
                    · intro w' hk; go_simp; try rfl
                    · simp only [Act.put, List.setIfInBounds_toArray, List.set_cons_succ, List.set_cons_zero]; try rfl
                    refine flowe_take 10 (v := ?_) (a' := ?_) hps rfl (by kernel_rfl) rfl ?_ ?_ ?_
                    rotate_left 2
                    · intro w' hk; go_simp; try rfl
                    · simp only [Act.put, List.setIfInBounds_toArray, List.set_cons_succ, List.set_cons_zero]; try rfl
                    refine flowe_take 11 (v := ?_) (a' := ?_) hps rfl (by kernel_rfl) rfl ?_ ?_ ?_
                    rotate_left 2
                    · intro w' hk; have k0 := mid_cell hk DL.out.1 (fun h => h); have k1 := mid_cell hk DL.out.2.1 (fun h => h); have k2 := mid_cell hk DL.out.2.2 (fun h => h); go_simp; try rfl
                    · simp only [Act.put, List.setIfInBounds_toArray, List.set_cons_succ, List.set_cons_zero]; try rfl
                    refine flowe_take 12 (v := ?_) (a' := ?_) hps rfl (by kernel_rfl) rfl ?_ ?_ ?_
                    rotate_left 2
                    · intro w' hk; go_simp; try rfl
                    · simp only [Act.put, List.setIfInBounds_toArray, List.set_cons_succ, List.set_cons_zero]; try rfl
                    refine flowe_take 13 (v := ?_) (a' := ?_) hps rfl (by kernel_rfl) rfl ?_ ?_ ?_
                    rotate_left 2
                    · intro w' hk; go_simp; try rfl
                    · simp only [Act.put, List.setIfInBounds_toArray, List.set_cons_succ, List.set_cons_zero]; try rfl
                    refine flowe_take 14 (v := ?_) (a' := ?_) hps rfl (by kernel_rfl) rfl ?_ ?_ ?_
                    rotate_left 2
                    · intro w' hk; go_simp; try rfl
                    · simp only [Act.put, List.setIfInBounds_toArray, List.set_cons_succ, List.set_cons_zero]; try rfl
                    refine flowe_take 15 (v := ?_) (a' := ?_) hps rfl (by kernel_rfl) rfl ?_ ?_ ?_
                    rotate_left 2
                    · intro w' hk; have k0 := (D2.out.keep hk (fun h => h)).cell 0; have k1 := (D2.out.keep hk (fun h => h)).cell 1; have k2 := (D2.out.keep hk (fun h => h)).cell 2; simp only [List.getElem?_cons_succ, List.getElem?_cons_zero] at k0 k1 k2; go_simp; try rfl
                    · simp only [Act.put, List.setIfInBounds_toArray, List.set_cons_succ, List.set_cons_zero]; try rfl
                    refine flowe_take 16 (v := ?_) (a' := ?_) hps rfl (by kernel_rfl) rfl ?_ ?_ ?_
                    rotate_left 2
                    · intro w' hk; go_simp; try rfl
                    · simp only [Act.put, List.setIfInBounds_toArray, List.set_cons_succ, List.set_cons_zero]; try rfl
                    refine flowe_take 17 (v := ?_) (a' := ?_) hps rfl (by kernel_rfl) rfl ?_ ?_ ?_
                    rotate_left 2
                    · intro w' hk; go_simp; try rfl
                    · simp only [Act.put, List.setIfInBounds_toArray, List.set_cons_succ, List.set_cons_zero]; try rfl
                    refine flowe_take 18 (v := ?_) (a' := ?_) hps rfl (by kernel_rfl) rfl ?_ ?_ ?_
                    rotate_left 2
                    · intro w' hk; go_simp; try rfl
                    · simp only [Act.put, List.setIfInBounds_toArray, List.set_cons_succ, List.set_cons_zero]; try rfl
                    refine flowe_take 19 (v := ?_) (a' := ?_) hps rfl (by kernel_rfl) rfl ?_ ?_ ?_
                    rotate_left 2
                    · intro w' hk; have k0 := mid_cell hk DL.out.1 (fun h => h); have k1 := mid_cell hk DL.out.2.1 (fun h => h); have k2 := mid_cell hk DL.out.2.2 (fun h => h); go_simp; try rfl
                    · simp only [Act.put, List.setIfInBounds_toArray, List.set_cons_succ, List.set_cons_zero]; try rfl
                    refine flowe_take 20 (v := ?_) (a' := ?_) hps rfl (by kernel_rfl) rfl ?_ ?_ ?_
                    rotate_left 2
                    · intro w' hk; go_simp; try rfl
                    · simp only [Act.put, List.setIfInBounds_toArray, List.set_cons_succ, List.set_cons_zero]; try rfl
                    refine flowe_take 21 (v := ?_) (a' := ?_) hps rfl (by kernel_rfl) rfl ?_ ?_ ?_
                    rotate_left 2
                    · intro w' hk; go_simp; try rfl
                    · simp only [Act.put, List.setIfInBounds_toArray, List.set_cons_succ, List.set_cons_zero]; try rfl
                    refine flowe_done hps (by kernel_rfl) ?_
                    have TE := Lib.hid TD.out.tail.tail
                    clear kk TD TX TA D2 D1 DL
                    go_wp2
                    exact ⟨⟨j + 1, hlt, by go_num, TE.out⟩, by simp [intOf]; omega⟩
                  · refine ⟨_, rfl, rfl, wp_next (fun K hK => ?_)⟩
                    go_simp
                    replace TX := Lib.hid (TX.out.addRow 77 [.int .i64 0, .int .i64 0, .bool false])
                    have kp := CO.out _ _ 3 TX.out rfl
                    refine hK _ _ ⟨kp, ?_⟩
                    clear kp hK
                    refine flows_one 12 hps rfl (by kernel_rfl) rfl (wp_next (fun K hK => ?_))
                    go_simp
                    first | have kc := blk_Ahead TX.out (i := 1) rfl ((xo : Int) + (xs : Int)) | have kc := blk_Ahead TX.out (i := 2) rfl ((xo : Int) + (xs : Int))
                    rw [show ({ base := bn, cap := 16384, b := Y } : Ar).b = Y from rfl, HI2.out, show bkV (some ⟨xo, xs, xu⟩) = .agg #[.int .i64 xo, .int .i64 xs, .bool xu] from rfl, show errO (some ⟨xo, xs, xu⟩) = .nilIface from rfl] at kc
                    with_reducible refine kc.mono ?_
                    clear kc
                    rintro e wb ⟨rfl, tb⟩
                    replace TX := Lib.hid tb
                    clear tb
                    first | have kp := CO.out _ _ 2 TX.out rfl | have kp := CO.out _ _ 3 TX.out rfl
                    refine hK _ _ ⟨kp, ?_⟩
                    clear kp hK
                    refine flows_take 13 (v := ?_) (a' := ?_) hps rfl (by kernel_rfl) rfl ?_ ?_ ?_
                    rotate_left 2
                    · intro w' hk; go_simp; try rfl
                    · simp only [Act.put, List.setIfInBounds_toArray, List.set_cons_succ, List.set_cons_zero]; try rfl
                    refine flows_take 14 (v := ?_) (a' := ?_) hps rfl (by kernel_rfl) rfl ?_ ?_ ?_
                    rotate_left 2
                    · intro w' hk; go_simp; try rfl
                    · simp only [Act.put, List.setIfInBounds_toArray, List.set_cons_succ, List.set_cons_zero]; try rfl
                    refine flows_take 15 (v := ?_) (a' := ?_) hps rfl (by kernel_rfl) rfl ?_ ?_ ?_
                    rotate_left 2
                    · intro w' hk; go_simp; try rfl
                    · simp only [Act.put, List.setIfInBounds_toArray, List.set_cons_succ, List.set_cons_zero]; try rfl
                    refine flows_one 17 hps rfl (by kernel_rfl) rfl (wp_next (fun K hK => ?_))
                    refine bk_store_at TX.out 0 rfl _ _ rfl rfl xo xs xu rfl ?_
                    intro wd td _
                    replace TX := Lib.hid td
                    clear td
                    have kp := CO.out _ _ 3 TX.out rfl
                    refine hK _ _ ⟨kp, ?_⟩
                    clear kp hK
                    refine flows_take 18 (v := ?_) (a' := ?_) hps rfl (by kernel_rfl) rfl ?_ ?_ ?_
                    rotate_left 2
                    · intro w' hk; go_simp; try rfl
                    · simp only [Act.put, List.setIfInBounds_toArray, List.set_cons_succ, List.set_cons_zero]; try rfl
                    refine flows_done hps (by kernel_rfl) ?_
                    have TD := Lib.hid TX.out.drew
                    have D2 := Lib.hid (TD.out.row (i := 0) rfl); have D1 := Lib.hid (TD.out.row (i := 1) rfl)
                    have DL := Lib.hid (CO.out _ _ 3 TD.out rfl)
                    go_wp2
                    refine flowe_begin (F := fun _ => False) hmixed 22 rfl (by repeat (first | with_reducible refine ps_then ?_ | with_reducible refine ps_block ?_ | with_reducible exact ps_body | refine ps_then ?_ | refine ps_block ?_ | exact ps_body)) (fun hps => ?_)
                    simp only [List.replicate]
                    have kk := (Keep.refl (fun _ => False) (wd)).drew
                    refine flowe_take 0 (v := ?_) (a' := ?_) hps rfl (by kernel_rfl) rfl ?_ ?_ ?_
                    rotate_left 2
                    · intro w' hk; go_simp; try rfl
                    · simp only [Act.put, List.setIfInBounds_toArray, List.set_cons_succ, List.set_cons_zero]; try rfl
                    refine flowe_take 1 (v := ?_) (a' := ?_) hps rfl (by kernel_rfl) rfl ?_ ?_ ?_
                    rotate_left 2
                    · intro w' hk; go_simp; try rfl
                    · simp only [Act.put, List.setIfInBounds_toArray, List.set_cons_succ, List.set_cons_zero]; try rfl
                    refine flowe_take 2 (v := ?_) (a' := ?_) hps rfl (by kernel_rfl) rfl ?_ ?_ ?_
                    rotate_left 2
                    · intro w' hk; go_simp; try rfl
                    · simp only [Act.put, List.setIfInBounds_toArray, List.set_cons_succ, List.set_cons_zero]; try rfl
                    refine flowe_take 3 (v := ?_) (a' := ?_) hps rfl (by kernel_rfl) rfl ?_ ?_ ?_
                    rotate_left 2
                    · intro w' hk; go_simp; try rfl
                    · simp only [Act.put, List.setIfInBounds_toArray, List.set_cons_succ, List.set_cons_zero]; try rfl
                    refine flowe_take 4 (v := ?_) (a' := ?_) hps rfl (by kernel_rfl) rfl ?_ ?_ ?_
                    rotate_left 2
                    · intro w' hk; go_simp; try rfl
                    · simp only [Act.put, List.setIfInBounds_toArray, List.set_cons_succ, List.set_cons_zero]; try rfl
                    refine flowe_take 5 (v := ?_) (a' := ?_) hps rfl (by kernel_rfl) rfl ?_ ?_ ?_
                    rotate_left 2
                    · intro w' hk; go_simp; try rfl
                    · simp only [Act.put, List.setIfInBounds_toArray, List.set_cons_succ, List.set_cons_zero]; try rfl
                    refine flowe_take 6 (v := ?_) (a' := ?_) hps rfl (by kernel_rfl) rfl ?_ ?_ ?_
                    rotate_left 2
                    · intro w' hk; go_simp; try rfl
                    · simp only [Act.put, List.setIfInBounds_toArray, List.set_cons_succ, List.set_cons_zero]; try rfl
                    refine flowe_take 7 (v := ?_) (a' := ?_) hps rfl (by kernel_rfl) rfl ?_ ?_ ?_
                    rotate_left 2
                    · intro w' hk; have k0 := (D1.out.keep hk (fun h => h)).cell 0; have k1 := (D1.out.keep hk (fun h => h)).cell 1; have k2 := (D1.out.keep hk (fun h => h)).cell 2; simp only [List.getElem?_cons_succ, List.getElem?_cons_zero] at k0 k1 k2; go_simp; try rfl
                    · simp only [Act.put, List.setIfInBounds_toArray, List.set_cons_succ, List.set_cons_zero]; try rfl
                    refine flowe_take 8 (v := ?_) (a' := ?_) hps rfl (by kernel_rfl) rfl ?_ ?_ ?_
                    rotate_left 2
                    · intro w' hk; go_simp; try rfl
                    · simp only [Act.put, List.setIfInBounds_toArray, List.set_cons_succ, List.set_cons_zero]; try rfl
                    refine flowe_take 9 (v := ?_) (a' := ?_) hps rfl (by kernel_rfl) rfl ?_ ?_ ?_
                    rotate_left 2
                    · intro w' hk; go_simp; try rfl
                    · simp only [Act.put, List.setIfInBounds_toArray, List.set_cons_succ, List.set_cons_zero]; try rfl
                    refine flowe_take 10 (v := ?_) (a' := ?_) hps rfl (by kernel_rfl) rfl ?_ ?_ ?_
                    rotate_left 2
                    · intro w' hk; go_simp; try rfl
                    · simp only [Act.put, List.setIfInBounds_toArray, List.set_cons_succ, List.set_cons_zero]; try rfl
                    refine flowe_take 11 (v := ?_) (a' := ?_) hps rfl (by kernel_rfl) rfl ?_ ?_ ?_
                    rotate_left 2
                    · intro w' hk; have k0 := mid_cell hk DL.out.1 (fun h => h); have k1 := mid_cell hk DL.out.2.1 (fun h => h); have k2 := mid_cell hk DL.out.2.2 (fun h => h); go_simp; try rfl
                    · simp only [Act.put, List.setIfInBounds_toArray, List.set_cons_succ, List.set_cons_zero]; try rfl
                    refine flowe_take 12 (v := ?_) (a' := ?_) hps rfl (by kernel_rfl) rfl ?_ ?_ ?_
                    rotate_left 2
                    · intro w' hk; go_simp; try rfl
                    · simp only [Act.put, List.setIfInBounds_toArray, List.set_cons_succ, List.set_cons_zero]; try rfl
                    refine flowe_take 13 (v := ?_) (a' := ?_) hps rfl (by kernel_rfl) rfl ?_ ?_ ?_
                    rotate_left 2
                    · intro w' hk; go_simp; try rfl
                    · simp only [Act.put, List.setIfInBounds_toArray, List.set_cons_succ, List.set_cons_zero]; try rfl
                    refine flowe_take 14 (v := ?_) (a' := ?_) hps rfl (by kernel_rfl) rfl ?_ ?_ ?_
                    rotate_left 2
                    · intro w' hk; go_simp; try rfl
                    · simp only [Act.put, List.setIfInBounds_toArray, List.set_cons_succ, List.set_cons_zero]; try rfl
                    refine flowe_take 15 (v := ?_) (a' := ?_) hps rfl (by kernel_rfl) rfl ?_ ?_ ?_
                    rotate_left 2
                    · intro w' hk; have k0 := (D2.out.keep hk (fun h => h)).cell 0; have k1 := (D2.out.keep hk (fun h => h)).cell 1; have k2 := (D2.out.keep hk (fun h => h)).cell 2; simp only [List.getElem?_cons_succ, List.getElem?_cons_zero] at k0 k1 k2; go_simp; try rfl
                    · simp only [Act.put, List.setIfInBounds_toArray, List.set_cons_succ, List.set_cons_zero]; try rfl
                    refine flowe_take 16 (v := ?_) (a' := ?_) hps rfl (by kernel_rfl) rfl ?_ ?_ ?_
                    rotate_left 2
                    · intro w' hk; go_simp; try rfl
                    · simp only [Act.put, List.setIfInBounds_toArray, List.set_cons_succ, List.set_cons_zero]; try rfl
                    refine flowe_take 17 (v := ?_) (a' := ?_) hps rfl (by kernel_rfl) rfl ?_ ?_ ?_
                    rotate_left 2
                    · intro w' hk; go_simp; try rfl
                    · simp only [Act.put, List.setIfInBounds_toArray, List.set_cons_succ, List.set_cons_zero]; try rfl
                    refine flowe_take 18 (v := ?_) (a' := ?_) hps rfl (by kernel_rfl) rfl ?_ ?_ ?_
                    rotate_left 2
                    · intro w' hk; go_simp; try rfl
                    · simp only [Act.put, List.setIfInBounds_toArray, List.set_cons_succ, List.set_cons_zero]; try rfl
                    refine flowe_take 19 (v := ?_) (a' := ?_) hps rfl (by kernel_rfl) rfl ?_ ?_ ?_
                    rotate_left 2
                    · intro w' hk; have k0 := mid_cell hk DL.out.1 (fun h => h); have k1 := mid_cell hk DL.out.2.1 (fun h => h); have k2 := mid_cell hk DL.out.2.2 (fun h => h); go_simp; try rfl
                    · simp only [Act.put, List.setIfInBounds_toArray, List.set_cons_succ, List.set_cons_zero]; try rfl
                    refine flowe_take 20 (v := ?_) (a' := ?_) hps rfl (by kernel_rfl) rfl ?_ ?_ ?_
                    rotate_left 2
                    · intro w' hk; go_simp; try rfl
                    · simp only [Act.put, List.setIfInBounds_toArray, List.set_cons_succ, List.set_cons_zero]; try rfl
                    refine flowe_take 21 (v := ?_) (a' := ?_) hps rfl (by kernel_rfl) rfl ?_ ?_ ?_
                    rotate_left 2
                    · intro w' hk; go_simp; try rfl
                    · simp only [Act.put, List.setIfInBounds_toArray, List.set_cons_succ, List.set_cons_zero]; try rfl
                    refine flowe_done hps (by kernel_rfl) ?_
                    have TE := Lib.hid TD.out.tail.tail
                    clear kk TD TX TA D2 D1 DL
                    go_wp2
                    exact ⟨⟨j + 1, hlt, by go_num, TE.out⟩, by simp [intOf]; omega⟩
                · have B9 := Lib.hid hS.end
                  clear hS
                  go_wp2
                  go_ret
                  exact ⟨rfl, B9.out⟩
end Go.Proofs.Ytjijniillehfoaa

/- What comes in, opened: a slice of bytes as a list; whatever else as a value that reads. -/
namespace Go.Own
open Go Go.RowKit Go.ChangeShapes Go.WideShapes
theorem open_bytes {H : Type} {enc : TypeId × Value → H} {P : Program} {W : World} {t e : TypeId} {a : Option Addr} {len cap : Nat} {d : DataW H} {p : List MemPlace}
    (ht : P.underlying t = some (.slice e)) (he : P.underlying e = some (.int .u8)) (hc : P.cellsOf e = 1)
    (h : DataW.Trod enc P W 0 (fun _ => true) true t (.slice a len cap) d p) : ∃ l, Bs W a len cap l := by
  obtain ⟨fuel, hf⟩ := h
  rcases open_ints ht he hc hf with ⟨hcs, _⟩ | ⟨x, l, c, zs, hcs, _, hl, hm, hz, _, hcell, hwz⟩
  · simp [Value.cells] at hcs
    obtain ⟨rfl, rfl, rfl⟩ := hcs
    exact ⟨[], Bs.nil W⟩
  · simp [Value.cells] at hcs
    obtain ⟨rfl, rfl, rfl⟩ := hcs
    refine ⟨(zs.take len).map fun z => UInt8.ofNat z.toNat, ?_, hl, by unfold maxLen at hm; omega, fun h => (by cases h), ?_⟩
    · have : zs.length = cap := by simpa using hz
      simp; omega
    · intro i v hv
      have hz' : zs.length = cap := by simpa using hz
      simp only [List.getElem?_map, List.getElem?_take] at hv
      split at hv
      · rename_i hi
        have hlt : i < zs.length := by omega
        rw [List.getElem?_eq_getElem hlt] at hv
        simp only [Option.map_some, Option.some.injEq] at hv
        have hw := hwz zs[i] (List.getElem_mem hlt)
        have hcl := hcell i hlt
        simp [Lit.wf, IntKind.min, IntKind.max, IntKind.bits, IntKind.signed] at hw
        have h0 := hcell 0 (by omega)
        obtain ⟨b, o, sp⟩ := x
        have hsp : sp = none := by
          cases sp with
          | none => rfl
          | some s => exfalso; revert h0; simp [World.cell?, Addr.add]; split <;> simp
        subst hsp
        refine ⟨b, o, rfl, ?_⟩
        have hadd : (⟨b, o, none⟩ : Addr).add i = ⟨b, o + i, none⟩ := by unfold Addr.add; split <;> simp_all
        rw [hadd] at hcl
        rw [hcl, ← hv, bv]
        simp [List.getD, hlt]
        omega
      · cases hv
end Go.Own
