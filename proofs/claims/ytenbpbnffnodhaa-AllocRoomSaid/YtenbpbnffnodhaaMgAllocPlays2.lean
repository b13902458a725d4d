/- Texts of the proof of 'AllocPlays', part 2: words on memory, contracts of functions, plain laws. No condition. -/
import Derived.Test.YtenbpbnffnodhaaMgAllocPlays1
import Derived.Deep.Draws
import Derived.Deep.QuietTactic
import Derived.BigQuiet
import Derived.WalkSpells
import Derived.LaidEql
import Derived.WideLaws
set_option linter.unusedSimpArgs false
set_option linter.unusedVariables false
/- Arenas in memory: a pointer's block and the block of its bytes; and what reading and writing do to the bytes, in plain words. -/
namespace Go.Own
open Go Go.RowKit
/-- An arena: base, capacity, bytes. -/
structure Ar where
  base : Nat
  cap : Nat
  b : List UInt8
/-- Bytes laid at a place. -/
def lay (l : List UInt8) (i : Nat) (b : List UInt8) : List UInt8 := l.take i ++ b ++ l.drop (i + b.length)
theorem lay_length (l b : List UInt8) (i : Nat) (h : i + b.length ≤ l.length) : (lay l i b).length = l.length := by
  unfold lay; simp only [List.length_append, List.length_take, List.length_drop]; omega
/-- Of the block p an arena is told: base, capacity, and v, the slice of its bytes. -/
structure ArAt (T e : TypeId) (w : World) (p : Nat) (A : Ar) (v : Value) : Prop where
  row : Row w p T [.int .u64 A.base, .int .i64 A.cap, v]
  own : w.ownsRow 0 e 1 v A.b.length (A.b.map bv)
  hbase : A.base ≤ 4611686018427387904
  hmod : A.base % 16 = 0
  hcap : A.cap ≤ 16384
  hmin : 1024 ≤ A.cap
  hlen : A.b.length ≤ A.cap
/-- The blocks of an arena. -/
def arF (p : Nat) (v : Value) (k : Nat) : Prop := k = p ∨ v.ownBlock = some k
theorem own_block_lt {w : World} {base z n : Nat} {e : TypeId} {v : Value} {l : List Value} (h : w.ownsRow base e z v n l) {g : Nat} (hg : v.ownBlock = some g) : base ≤ g ∧ g < w.heap.size := h.lt g hg
theorem own_kept {F : Nat → Prop} {w w' : World} {base z n : Nat} {e : TypeId} {v : Value} {l : List Value} (h : w.ownsRow base e z v n l) (k : Keep F w w') (hf : ∀ g, v.ownBlock = some g → ¬ F g) : w'.ownsRow base e z v n l := by
  obtain ⟨h1, h2⟩ := h
  refine ⟨h1, ?_⟩
  rcases h2 with h2 | ⟨g, cap, cur, rfl, a1, a2, a3⟩
  · exact .inl h2
  · exact .inr ⟨g, cap, cur, rfl, a1, (k.block g (Array.getElem?_eq_some_iff.1 a2).1 (hf g rfl)).trans a2, a3⟩
theorem ArAt.kept {T e : TypeId} {F : Nat → Prop} {w w' : World} {p : Nat} {A : Ar} {v : Value} (h : ArAt T e w p A v) (k : Keep F w w') (hf : ∀ x, arF p v x → ¬ F x) : ArAt T e w' p A v :=
  ⟨h.row.keep k (hf p (.inl rfl)), own_kept h.own k (fun g hg => hf g (.inr hg)), h.hbase, h.hmod, h.hcap, h.hmin, h.hlen⟩
theorem ArAt.below {T e : TypeId} {w w' : World} {p : Nat} {A : Ar} {v : Value} (h : ArAt T e w p A v) (k : Below w.heap.size w w') : ArAt T e w' p A v :=
  h.kept (F := fun _ => False) (.of_below k) fun _ _ h => h
theorem ArAt.drew {T e : TypeId} {w : World} {p : Nat} {A : Ar} {v : Value} (h : ArAt T e w p A v) : ArAt T e w.drew p A v := ⟨h.row, h.own, h.hbase, h.hmod, h.hcap, h.hmin, h.hlen⟩
theorem ArAt.drewN {T e : TypeId} {w : World} {p : Nat} {A : Ar} {v : Value} (h : ArAt T e w p A v) (n : Nat) : ArAt T e (w.drewN n) p A v := ⟨h.row, h.own, h.hbase, h.hmod, h.hcap, h.hmin, h.hlen⟩
theorem Keep.drewN {F : Nat → Prop} {a w : World} (h : Keep F a w) (n : Nat) : Keep F a (w.drewN n) := ⟨h.os, h.tape, h.output, h.size, h.block⟩
theorem below_drewN {B : Nat} {a w : World} (h : Below B a w) (n : Nat) : Below B a (w.drewN n) := ⟨h.os, h.tape, h.output, h.size, h.block⟩
theorem ArAt.lt {T e : TypeId} {w : World} {p : Nat} {A : Ar} {v : Value} (h : ArAt T e w p A v) {k : Nat} (hk : arF p v k) : k < w.heap.size := by
  rcases hk with rfl | hk
  · exact h.row.lt
  · exact (own_block_lt h.own hk).2
/-- The bytes' slice as it stands. -/
theorem ArAt.form {T e : TypeId} {w : World} {p : Nat} {A : Ar} {v : Value} (h : ArAt T e w p A v) :
    ∃ a c, v = .slice a A.b.length c ∧ Bs w a A.b.length c A.b ∧ (∀ q, a = some q → v.ownBlock = some q.block) ∧ c ≤ 9223372036854775807 := by
  have h1 := h.own
  obtain ⟨a, c, rfl, _, hs⟩ := Sl.of_owned h1
  refine ⟨a, c, rfl, hs, fun q hq => ?_, hs.room⟩
  obtain ⟨_, h2⟩ := h1
  rcases h2 with ⟨h2, _⟩ | ⟨g, cap, cur, h2, _⟩
  · injection h2 with e1; rw [e1] at hq; cases hq
  · injection h2 with e1; rw [e1] at hq; cases hq; rw [e1]; rfl
theorem ArAt.apart {T e : TypeId} {w : World} {p : Nat} {A : Ar} {v : Value} (hne : e ≠ T) (h : ArAt T e w p A v) : ¬ v.ownBlock = some p := by
  intro hv
  obtain ⟨_, h2⟩ := h.own
  rcases h2 with ⟨rfl, _⟩ | ⟨g, cap, cur, rfl, _, a2, _⟩
  · cases hv
  · have h1 := h.row
    obtain rfl : g = p := by simpa [Value.ownBlock] using hv
    unfold Row at h1
    rw [a2] at h1
    simp only [Option.some.injEq, Obj.cells.injEq] at h1
    exact hne h1.2.1
/-- A place in the bytes. -/
theorem ArAt.at_ {T e : TypeId} {w : World} {p : Nat} {A : Ar} {a : Option Addr} {n c : Nat} (h : ArAt T e w p A (.slice a n c)) (i m : Nat) (hi : i + m ≤ A.b.length) (hm : 0 < m) :
    ∃ g, a = some ⟨g, 0, none⟩ := by
  obtain ⟨_, h2⟩ := h.own
  rcases h2 with ⟨h2, h3⟩ | ⟨g, cap, cur, h2, _⟩
  · rw [h3] at hi; simp at hi; omega
  · cases h2; exact ⟨g, rfl⟩
theorem setRow_keep {w : World} {g : Nat} {t : TypeId} {old : Array Value} (c : Array Value) (hg : w.heap[g]? = some (.cells old t (0, 0))) : Keep (· = g) w (w.setRow g c) :=
  ⟨rfl, rfl, rfl, by simp, fun k _ hk => setRow_other w g k c hk⟩
/-- Cells laid into a row of one's own. -/
theorem own_splice {w : World} {base n : Nat} {e : TypeId} {g cap : Nat} {l : List Value} (h : w.ownsRow base e 1 (.slice (some ⟨g, 0, none⟩) n cap) n l) (o : Nat) (cs : List Value) (hfit : o + cs.length ≤ n) :
    ∃ cur : Array Value, w.heap[g]? = some (.cells cur e (0, 0)) ∧ o + cs.length ≤ cur.size ∧
      (w.setRow g (cur.toList.take o ++ cs ++ cur.toList.drop (o + cs.length)).toArray).ownsRow base e 1 (.slice (some ⟨g, 0, none⟩) n cap) n (l.take o ++ cs ++ l.drop (o + cs.length)) := by
  obtain ⟨h1, h2⟩ := h
  rcases h2 with ⟨h2, _⟩ | ⟨g', cap', cur, h2, a1, a2, a3, a4, a5, a6⟩
  · cases h2
  · cases h2
    simp only [Nat.mul_one] at h1 a5 a6
    refine ⟨cur, a2, by omega, ?_, .inr ⟨g, cap, _, rfl, a1, setRow_heap w g cur _ e (0, 0) a2, a3, a4, ?_, ?_⟩⟩
    · simp only [List.length_append, List.length_take, List.length_drop, h1, Nat.mul_one]; omega
    · simp only [List.size_toArray, List.length_append, List.length_take, List.length_drop, Array.length_toList, Nat.mul_one]; omega
    · simp only [Nat.mul_one]
      rw [← a6]
      have hl : cur.toList.length = cur.size := Array.length_toList
      apply List.ext_getElem?
      intro i
      simp only [List.getElem?_take, List.getElem?_append, List.length_append, List.length_take, List.getElem?_drop, hl]
      grind
theorem map_lay (l b : List UInt8) (i : Nat) : (lay l i b).map bv = (l.map bv).take i ++ b.map bv ++ (l.map bv).drop (i + (b.map bv).length) := by
  unfold lay; simp [List.map_take, List.map_drop]
/-- 'copy(to, b)', 'to' a piece of the arena. -/
theorem ArAt.copied {T e : TypeId} {w : World} {p g : Nat} {A : Ar} {n cap : Nat} (hne : e ≠ T) (h : ArAt T e w p A (.slice (some ⟨g, 0, none⟩) n cap)) (i : Nat) (b : List UInt8) (hi : i + b.length ≤ A.b.length) :
    ∃ cur : Array Value, w.heap[g]? = some (.cells cur e (0, 0)) ∧ i + b.length ≤ cur.size ∧
      ArAt T e (w.setRow g (cur.toList.take i ++ b.map bv ++ cur.toList.drop (i + (b.map bv).length)).toArray) p { A with b := lay A.b i b } (.slice (some ⟨g, 0, none⟩) n cap) ∧
      Keep (· = g) w (w.setRow g (cur.toList.take i ++ b.map bv ++ cur.toList.drop (i + (b.map bv).length)).toArray) := by
  have hn : n = A.b.length := by
    obtain ⟨a, c, hv, _⟩ := h.form
    cases hv; rfl
  subst hn
  obtain ⟨cur, hg, hc, ho⟩ := own_splice h.own i (b.map bv) (by simpa using hi)
  have hk := setRow_keep (cur.toList.take i ++ b.map bv ++ cur.toList.drop (i + (b.map bv).length)).toArray hg
  have hpg : p ≠ g := by
    rintro rfl
    have h1 := h.row
    unfold Row at h1
    rw [hg] at h1
    simp only [Option.some.injEq, Obj.cells.injEq] at h1
    exact hne h1.2.1
  have hll := lay_length A.b b i hi
  refine ⟨cur, hg, by simpa using hc, ⟨h.row.keep hk hpg, ?_, h.hbase, h.hmod, h.hcap, h.hmin, by simpa [hll] using h.hlen⟩, hk⟩
  exact ownsRow_map ho hll.symm (map_lay A.b b i).symm
/-- 'copy(to, b)' at a walk's list. -/
theorem copy_at {P : Program} {ops : Array Oper} {rest : List Oper} {o : Oper} {a : Act} {w : World} {Q : Exit → Act → World → Prop} (hgd : o.guard = none) (x y : Operand) (t e T : TypeId)
    (ho : o.op = .call { callee := .builtin .copy, args := #[x, y], argTypes := #[t, t] }) (hu : P.underlying t = some (.slice e)) (hs : (P.info? e).map (·.size) = some 1) (hne : e ≠ T)
    {p g n cap : Nat} {A : Ar} (h : ArAt T e w p A (.slice (some ⟨g, 0, none⟩) n cap)) (i dLen dCap : Nat) (hx : a.eval x = .slice (some ⟨g, i, none⟩) dLen dCap)
    (ad : Option Addr) (m c : Nat) (b : List UInt8) (hy : a.eval y = .slice ad m c) (hb : Bs w ad m c b) (hm : m = dLen) (h0 : 0 < m) (hi : i + m ≤ A.b.length)
    (hk : ∀ w', ArAt T e w' p { A with b := lay A.b i b } (.slice (some ⟨g, 0, none⟩) n cap) → Keep (· = g) w w' → wpList P ops Q rest (a.put o.dst (.int .i64 b.length)) w') : wpList P ops Q (o :: rest) a w := by
  have hbl := hb.len
  obtain ⟨b0, o0, rfl, _⟩ := Sl.some hb (by omega) (by decide)
  obtain ⟨cur, hg, hc, h1, h2⟩ := h.copied hne i b (by omega)
  have hrun := run_copy_row (P := P) w t t o.type e g i dLen dCap ⟨b0, o0, none⟩ m c cur e (b.map bv) hu hs hg (by show _ = min m dLen; rw [← hm, Nat.min_self, List.length_map, hbl]) (fun j v hj => by
    obtain ⟨b1, o1, e1, hc1⟩ := Sl.cells hb j v hj
    cases e1
    have : (⟨b0, o0, none⟩ : Addr).add j = ⟨b0, o0 + j, none⟩ := by unfold Addr.add; split <;> simp_all
    rw [this]; exact hc1) (by simpa using hc) (bv_one b)
  refine wpList_plain hgd fun K hK => ?_
  unfold Oper.wp execOp
  simp only [ho, resolve, invoke, builtin, Sem.run_bind, Sem.run_pure, Result.andThen_ok, List.map_toArray, List.map_cons, List.map_nil, hx, hy, hrun]
  refine hK _ _ ?_
  have := hk _ h1 h2
  simpa [goInt] using this
theorem copy_none {P : Program} {ops : Array Oper} {rest : List Oper} {o : Oper} {a : Act} {w : World} {Q : Exit → Act → World → Prop} (hgd : o.guard = none) (x y : Operand) (t e : TypeId)
    (ho : o.op = .call { callee := .builtin .copy, args := #[x, y], argTypes := #[t, t] }) (hu : P.underlying t = some (.slice e)) (hs : (P.info? e).map (·.size) = some 1)
    (d : Option Addr) (dLen dCap : Nat) (hx : a.eval x = .slice d dLen dCap) (ad : Option Addr) (m c : Nat) (hy : a.eval y = .slice ad m c) (h0 : m = 0 ∨ dLen = 0)
    (hk : wpList P ops Q rest (a.put o.dst (.int .i64 0)) w) : wpList P ops Q (o :: rest) a w := by
  have hrun := run_copy_none (P := P) w t t o.type e d ad dLen dCap m c hu hs (by rcases h0 with h | h <;> simp [h])
  refine wpList_plain hgd fun K hK => ?_
  unfold Oper.wp execOp
  simp only [ho, resolve, invoke, builtin, Sem.run_bind, Sem.run_pure, Result.andThen_ok, List.map_toArray, List.map_cons, List.map_nil, hx, hy, hrun]
  exact hK _ _ (by simpa [goInt] using hk)
/-- 'append(s, make([]T, m)...)': just that row turns. -/
theorem app_zeros_own {P : Program} {w : World} {ops : Array Oper} {rest : List Oper} {o : Oper} {a : Act} {Q : Exit → Act → World → Prop} (hgd : Region.wanted o (yielded ops a.tmps) = true) (s x : Operand) (t ti : TypeId)
    (ho : o.op = .call { callee := .builtin .append, args := #[s, x], argTypes := #[t, ti] })
    (base : Nat) (e : TypeId) (z : Value) (bytes : Nat) (ht : P.underlying t = some (.slice e)) {k : IntKind} (hti : P.underlying ti = some (.int k)) (hi : Info P e z 1 bytes) (hz : z.cells = #[z]) (hz1 : z.oneCell' = true) (hb0 : 0 < bytes)
    (v : Value) (n : Nat) (xs : List Value) (hs : a.eval s = v) (hown : w.ownsRow base e 1 v n xs)
    (kx : IntKind) (mi : Int) (m : Nat) (hm : mi = m) (hx : a.eval x = .int kx mi)
    (hbytes : (n + m) * bytes ≤ 140737488355328) (hbase : base ≤ w.heap.size)
    (h : ∀ v' w', w'.ownsRow base e 1 v' (n + m) (xs ++ List.replicate m z) → Keep (fun k => v.ownBlock = some k) w w' → (v'.ownBlock = v.ownBlock ∨ v'.ownBlock = some w.heap.size) → wpList P ops Q rest (a.put o.dst v') w') : wpList P ops Q (o :: rest) a w := by
  refine at_wanted hgd fun K hK => ?_
  obtain ⟨i, hi, iz, his, hib⟩ := hi.parts
  subst hm
  have hr := run_append_zeros (P := P) w base t ti o.type e i z 1 bytes ht hti hi iz his hib (by rw [hz]; rfl) (by decide) hb0 v n xs hown kx m (by rw [hz, zeroCells_one]; intro u hu; rw [List.eq_of_mem_replicate hu]; exact hz1) hbytes hbase
  obtain ⟨v', w', h1, h2, h3, h4⟩ := hr
  rw [hz, zeroCells_one] at h2
  unfold Oper.wp
  simp [execOp, ho, resolve, invoke, builtin, hs, hx, h1, Result.andThen]
  exact hK _ _ (h _ _ h2 ⟨h3.os, h3.tape, h3.output, h3.size, fun k hk hne => h3.block k hk (fun e => hne e.symm)⟩ h4)
end Go.Own

namespace Go.Proofs.Ytenbpbnffnodhaa
open Go Go.RowKit Go.Own
set_option linter.unusedVariables false
/-- An arena of this program in memory. -/
abbrev ArA (w : World) (p : Nat) (A : Ar) (v : Value) : Prop := ArAt 199 5 w p A v
abbrev arP (p : Nat) : Value := .pointer (some ⟨p, 0, none⟩)
/-- An error: its code; 0: none. -/
def errV (c : Int) : Value := if c = 0 then .nilIface else .iface 183 (.int .i64 c)
/-- A piece of an arena: m bytes from i on. -/
def AtOk (A : Ar) (v : Value) (i m : Nat) (w : World) (e : Ending) (w' : World) : Prop :=
  ∃ a c, e = .returned (.tuple #[.slice a m c, .nilIface]) ∧ Bs w a m c ((A.b.drop i).take m) ∧ (0 < m → ∃ g cap, v = .slice (some ⟨g, 0, none⟩) A.b.length cap ∧ a = some ⟨g, i, none⟩) ∧ w = w'
set_option maxHeartbeats 1000000 in
theorem arena_at_ok (w : World) (p : Nat) (A : Ar) (v : Value) (h : ArA w p A v) (addr : Int) (i : Nat) (hi : addr = A.base + i) (n : Int) (m : Nat) (hn : n = m) (hf : i + m ≤ A.b.length) :
    Calls Try.prog 210 #[arP p, .int .u64 addr, .int .u64 n] w (AtOk A v i m w) := by
  subst hi; subst hn
  obtain ⟨a, c, rfl, hB, hg, hcr⟩ := h.form
  have hlc := Sl.cap hB
  have q0 : w.cell? ⟨p, 0, none⟩ = some (.int .u64 A.base) := h.row.cell 0
  have q2 : w.cell? ⟨p, 2, none⟩ = some (.slice a A.b.length c) := h.row.cell 2
  have hb := h.hbase; have hc1 := h.hcap; have hc2 := h.hlen
  by_cases hm : 0 < m
  · obtain ⟨g, rfl⟩ := h.at_ i m hf hm
    have hcut := hB.cut i (i + m) (by omega) (by omega)
    have hne : ¬ c = i := by omega
    rw [Nat.add_sub_cancel_left, List.drop_take] at hcut
    simp only [Nat.zero_add, Nat.add_sub_cancel_left] at hcut
    have HC := Lib.hid hcut; have H := Lib.hid h
    clear hcut h hB hg
    go_enter Try.func210, Try.ntmps210
    go_wp2
    go_ret2
    exact ⟨_, _, by simp [Nat.add_sub_cancel_left], HC.out, fun _ => ⟨_, _, rfl, rfl⟩, rfl⟩
  · obtain rfl : m = 0 := by omega
    have hz : Bs w none 0 0 ((A.b.drop i).take 0) := by rw [List.take_zero]; exact Bs.nil w
    have hz1 : ∀ (p : Addr) c', c' ≤ 9223372036854775807 → Bs w (some p) 0 c' ((A.b.drop i).take 0) := fun p c' hc' => by
      rw [List.take_zero]; exact Sl.mk rfl (Nat.zero_le _) hc' (fun h => by cases h) (fun i v h => by simp at h)
    have HZ := Lib.hid hz; have HZ1 := Lib.hid hz1
    clear hz hz1
    cases a with
    | none =>
      have h0 := hB.nilcap rfl
      have hi0 : i = 0 := by omega
      have hl0 : A.b.length = 0 := by omega
      subst hi0; subst h0
      rw [hl0] at q2
      clear h hB hg hl0 hc2 hf
      go_enter Try.func210, Try.ntmps210
      go_wp2
      go_ret2
      exact ⟨_, _, by simp, HZ.out, fun h => absurd h (by omega), rfl⟩
    | some p0 =>
      obtain ⟨pb, po, pc⟩ := p0
      by_cases hci : c = i
      · subst hci
        clear h hB hg
        go_enter Try.func210, Try.ntmps210
        go_wp2
        go_ret2
        refine ⟨_, _, by simp [Nat.add_sub_cancel_left]; exact ⟨rfl, rfl⟩, HZ1.out _ _ (by omega), fun h => absurd h (by omega), rfl⟩
      · clear h hB hg
        go_enter Try.func210, Try.ntmps210
        go_wp2
        go_ret2
        refine ⟨_, _, by simp [Nat.add_sub_cancel_left]; exact ⟨rfl, rfl⟩, HZ1.out _ _ (by omega), fun h => absurd h (by omega), rfl⟩

theorem arena_at_bad (w : World) (p : Nat) (A : Ar) (v : Value) (h : ArA w p A v) (addr n : Int) (h0 : 0 ≤ addr) (h1 : addr ≤ 18446744073709551615) (n0 : 0 ≤ n) (n1 : n ≤ 18446744073709551615) (hf : ¬ ((A.base : Int) ≤ addr ∧ addr - A.base + n ≤ A.b.length)) :
    Calls Try.prog 210 #[arP p, .int .u64 addr, .int .u64 n] w fun e w' => e = .returned (.tuple #[.slice none 0 0, .iface 183 (.int .i64 2)]) ∧ w = w' := by
  obtain ⟨a, c, rfl, hB, hg, hcr⟩ := h.form
  have hlc := Sl.cap hB
  have q0 : w.cell? ⟨p, 0, none⟩ = some (.int .u64 A.base) := h.row.cell 0
  have q2 : w.cell? ⟨p, 2, none⟩ = some (.slice a A.b.length c) := h.row.cell 2
  have hb := h.hbase; have hc1 := h.hcap; have hc2 := h.hlen
  clear h hB hg
  go_enter Try.func210, Try.ntmps210
  by_cases c1 : addr < A.base
  · go_wp2
    go_ret2
    exact ⟨rfl, rfl⟩
  · by_cases c2 : (A.b.length : Int) < addr - A.base
    · go_wp2
      go_ret2
      exact ⟨rfl, rfl⟩
    · have c3 : (A.b.length : Int) - (addr - A.base) < n := by omega
      clear hf
      go_wp2
      go_ret2
      exact ⟨rfl, rfl⟩
theorem arena_Base (w : World) (p : Nat) (A : Ar) (v : Value) (h : ArA w p A v) :
    Calls Try.prog 46 #[arP p] w fun e w' => e = .returned (.int .u64 A.base) ∧ w = w' := by
  have q0 : w.cell? ⟨p, 0, none⟩ = some (.int .u64 A.base) := h.row.cell 0
  clear h
  go_enter Try.func46, Try.ntmps46
  go_wp2
  go_ret
  exact ⟨rfl, rfl⟩
theorem arena_Len (w : World) (p : Nat) (A : Ar) (v : Value) (h : ArA w p A v) :
    Calls Try.prog 44 #[arP p] w fun e w' => e = .returned (.int .i64 A.b.length) ∧ w = w' := by
  obtain ⟨a, c, rfl, hB, hg, hcr⟩ := h.form
  have q2 : w.cell? ⟨p, 2, none⟩ = some (.slice a A.b.length c) := h.row.cell 2
  clear h hB hg
  go_enter Try.func44, Try.ntmps44
  go_wp2
  go_ret
  exact ⟨rfl, rfl⟩
end Go.Proofs.Ytenbpbnffnodhaa

namespace Go.Proofs.Ytenbpbnffnodhaa
open Go Go.RowKit Go.Own
set_option linter.unusedVariables false
/-- Bytes are laid. -/
def StoreOk (p : Nat) (A : Ar) (v : Value) (i : Nat) (b : List UInt8) (w : World) (e : Ending) (w' : World) : Prop :=
  e = .returned .nilIface ∧ ArA w' p { A with b := lay A.b i b } v ∧ Keep (fun k => v.ownBlock = some k) w w'
theorem lay_nil (l : List UInt8) (i : Nat) : lay l i [] = l := by simp [lay]
set_option maxHeartbeats 1000000 in
theorem arena_Store_ok (w : World) (p : Nat) (A : Ar) (v : Value) (h : ArA w p A v) (addr : Int) (i : Nat) (hi : addr = A.base + i) (a : Option Addr) (n c : Nat) (b : List UInt8) (hb : Bs w a n c b) (hf : i + b.length ≤ A.b.length) :
    Calls Try.prog 144 #[arP p, .int .u64 addr, .slice a n c] w (StoreOk p A v i b w) := by
  have hn := hb.len
  subst hn
  have k := arena_at_ok w p A v h addr i hi (b.length : Nat) b.length rfl hf
  have hl : b.length ≤ 16384 := by have := h.hlen; have := h.hcap; omega
  have K := Lib.hid k; have H := Lib.hid h; have HB := Lib.hid hb
  clear k h hb hi
  go_enter Try.func144, Try.ntmps144
  go_wp2_with fail
  refine K.out.mono ?_
  rintro e w' ⟨a1, c1, rfl, hB, hg, rfl⟩
  by_cases h0 : 0 < b.length
  · obtain ⟨g, cap, rfl, rfl⟩ := hg h0
    clear hB hg
    go_wp2_with (refine copy_at rfl (.tmp 18) (.tmp 19) 31 5 199 rfl Try.underlying31 (by kernel_rfl) (by decide) H.out i _ _ rfl _ _ _ b rfl HB.out rfl h0 hf ?_; intro w2 h2 k2)
    go_ret
    exact ⟨rfl, h2, k2.mono fun k _ e => by rw [e]; rfl⟩
  · have hb0 : b = [] := List.eq_nil_of_length_eq_zero (by omega)
    subst hb0
    clear hB hg
    go_wp2_with (refine copy_none rfl (.tmp 18) (.tmp 19) 31 5 rfl Try.underlying31 (by kernel_rfl) _ _ _ rfl _ _ _ rfl (Or.inl rfl) ?_)
    go_ret
    exact ⟨rfl, by rw [lay_nil]; exact H.out, Keep.refl _ _⟩
theorem arena_SetWord_ok (w : World) (p : Nat) (A : Ar) (v : Value) (h : ArA w p A v) (addr : Int) (i : Nat) (hi : addr = A.base + i) (x : Int) (X : Nat) (hx : x = X) (hX : X < 18446744073709551616) (hf : i + 8 ≤ A.b.length) :
    Calls Try.prog 138 #[arP p, .int .u64 addr, .int .u64 x] w (StoreOk p A v i (low X 8) w) := by
  subst hx
  have H := Lib.hid h; have HI := Lib.hid hi
  clear h hi
  go_enter Try.func138, Try.ntmps138
  go_wp2_with fail
  refine (word_Put w X (by omega) (by omega)).mono ?_
  rintro e w1 ⟨a1, n1, c1, rfl, hB1, hn1, hb1⟩
  go_wp2_with fail
  refine (arena_Store_ok w1 p A v (H.out.below hb1) addr i HI.out _ _ _ _ hB1 (by rw [low_length]; exact hf)).mono ?_
  rintro e w2 ⟨rfl, h2, k2⟩
  go_wp2
  go_ret
  exact ⟨rfl, h2, (Keep.of_below hb1).trans k2⟩
/-- A new arena without bytes. -/
def NewAr (base cap : Nat) (w : World) (e : Ending) (w' : World) : Prop :=
  e = .returned (arP w.heap.size) ∧ ArA w' w.heap.size ⟨base, cap, []⟩ (.slice none 0 0) ∧ Below w.heap.size w w'
theorem arena_New_ok (w : World) (b : Int) (B : Nat) (hB : b = B) (c : Int) (C : Nat) (hC : c = C) (h1 : B % 16 = 0) (h2 : B ≤ 4611686018427387904) (h3 : 1024 ≤ C) (h4 : C ≤ 16384) :
    Calls Try.prog 41 #[.int .u64 b, .int .i64 c] w (NewAr B C w) := by
  subst hB; subst hC
  have e1 : ((B : Int) % 16 != 0) = false := by rw [bne_eq_false_iff_eq]; omega
  go_enter Try.func41, Try.ntmps41
  go_wp2
  go_ret
  exact ⟨rfl, ⟨Row.made _ _ _, World.ownsRow_nil _ _ _ _, h2, h1, h4, h3, Nat.zero_le _⟩, (Below.refl _ _).alloc (Nat.le_refl _) _⟩
theorem arena_New_bad (w : World) (b c : Int) (b0 : 0 ≤ b) (b1 : b ≤ 18446744073709551615) (hf : ¬ (b % 16 = 0 ∧ b ≤ 4611686018427387904 ∧ 1024 ≤ c ∧ c ≤ 16384)) :
    Calls Try.prog 41 #[.int .u64 b, .int .i64 c] w fun e w' => e = .returned (.pointer none) ∧ w = w' := by
  by_cases c1 : b % 16 = 0
  · have e1 : (b % 16 != 0) = false := by rw [bne_eq_false_iff_eq]; exact c1
    by_cases c2 : b ≤ 4611686018427387904
    · by_cases c3 : 1024 ≤ c
      · have c4 : 16384 < c := by omega
        clear hf c1
        go_enter Try.func41, Try.ntmps41
        go_wp2
        go_ret
        exact ⟨rfl, rfl⟩
      · clear hf c1
        go_enter Try.func41, Try.ntmps41
        go_wp2
        go_ret
        exact ⟨rfl, rfl⟩
    · clear hf c1
      go_enter Try.func41, Try.ntmps41
      go_wp2
      go_ret
      exact ⟨rfl, rfl⟩
  · have e1 : (b % 16 != 0) = true := by rw [bne_iff_ne]; exact c1
    clear hf c1
    go_enter Try.func41, Try.ntmps41
    go_wp2
    go_ret
    exact ⟨rfl, rfl⟩
/-- More bytes, 0. -/
def GrowOk (p : Nat) (A : Ar) (v : Value) (m : Nat) (w : World) (e : Ending) (w' : World) : Prop :=
  ∃ v', e = .returned .nilIface ∧ ArA w' p { A with b := A.b ++ List.replicate m 0 } v' ∧ Keep (arF p v) w w' ∧ (v'.ownBlock = v.ownBlock ∨ v'.ownBlock = some w.heap.size)
set_option maxHeartbeats 1000000 in
theorem arena_Grow_ok (w : World) (p : Nat) (A : Ar) (v : Value) (h : ArA w p A v) (n : Int) (m : Nat) (hn : n = m) (hf : A.b.length + m ≤ A.cap) :
    Calls Try.prog 137 #[arP p, .int .i64 n] w (GrowOk p A v m w) := by
  subst hn
  obtain ⟨a, c, rfl, hB, hg, hcr⟩ := h.form
  have hlc := Sl.cap hB
  have q1 : w.cell? ⟨p, 1, none⟩ = some (.int .i64 A.cap) := h.row.cell 1
  have q2 : w.cell? ⟨p, 2, none⟩ = some (.slice a A.b.length c) := h.row.cell 2
  have hb := h.hbase; have hc1 := h.hcap; have hc2 := h.hlen
  have hs1 : IntKind.i64.wrap ((A.cap : Int) - (A.b.length : Int)) = (A.cap : Int) - (A.b.length : Int) := IntWalk.i64_in _ (by omega)
  have ht : decide ((A.cap : Int) - (A.b.length : Int) < (m : Int)) = false := by simp; omega
  have H := Lib.hid h
  clear h hB hg
  go_enter Try.func137, Try.ntmps137
  go_wp2
  go_quiet (fail)
  clear hs1 ht
  have H1 := H.out.drewN nq
  have k1 := (Keep.refl (arF p (.slice a A.b.length c)) w).drewN nq
  have r1 := H1.row
  have hap := H1.apart (by decide)
  have own0 := H1.own
  have HAP := Lib.hid hap
  clear hap H1
  go_wp2_with (at_builtin; go_must (refine app_zeros_own rfl (.tmp 27) (.tmp 28) 31 3 rfl 0 5 (.int .u8 0) 1 Try.underlying31 Try.underlying3 info_u8 rfl rfl (by decide) (.slice a A.b.length c) _ _ rfl own0 _ _ m rfl rfl (by omega) (Nat.zero_le _) ?_; intro v1 w1 own1 kp1 hbl1; obtain ⟨a1, c1, rfl, _, hs1⟩ := Sl.of_owned own1; have r2 := r1.keep kp1 HAP.out; have f2 := r2.frozen 2; have c2 : w1.cell? ⟨p, 2, none⟩ = some (.slice a A.b.length c) := r2.cell 2))
  go_ret
  have r3 := r2.set 2 (.slice a1 (A.b.length + m) c1)
  have k2 := (k1.trans (kp1.mono fun k _ hk => .inr hk)).setCell (p := ⟨p, 2, none⟩) (.inl (.inl rfl)) (.slice a1 (A.b.length + m) c1)
  have k3 := (Keep.refl (· = p) w1).setCell (p := ⟨p, 2, none⟩) (.inl rfl) (.slice a1 (A.b.length + m) c1)
  have hne : ∀ g, (Value.slice a1 (A.b.length + m) c1).ownBlock = some g → ¬ g = p := by
    rintro g hg rfl
    rcases hbl1 with h | h
    · rw [h] at hg; exact HAP.out hg
    · rw [h] at hg
      have : g = (w.drewN nq).heap.size := by simpa using hg.symm
      have := r1.lt
      omega
  exact ⟨_, rfl, ⟨r3, ownsRow_map (own_kept own1 k3 hne) (by simp) (by simp [bv]), H.out.hbase, H.out.hmod, H.out.hcap, H.out.hmin, by simp; omega⟩, k2, hbl1⟩
theorem arena_Grow_neg (w : World) (p : Nat) (n : Int) (hn : n < 0) :
    Calls Try.prog 137 #[arP p, .int .i64 n] w fun e w' => e = .returned (.iface 183 (.int .i64 1)) ∧ Below w.heap.size w w' := by
  go_enter Try.func137, Try.ntmps137
  go_wp2
  go_ret
  exact ⟨rfl, Below.refl _ _⟩
theorem arena_Grow_full (w : World) (p : Nat) (A : Ar) (v : Value) (h : ArA w p A v) (n : Int) (hn : 0 ≤ n) (hf : (A.cap : Int) < A.b.length + n) :
    Calls Try.prog 137 #[arP p, .int .i64 n] w fun e w' => e = .returned (.iface 183 (.int .i64 5)) ∧ Below w.heap.size w w' := by
  obtain ⟨a, c, rfl, hB, hg, hcr⟩ := h.form
  have hlc := Sl.cap hB
  have q1 : w.cell? ⟨p, 1, none⟩ = some (.int .i64 A.cap) := h.row.cell 1
  have q2 : w.cell? ⟨p, 2, none⟩ = some (.slice a A.b.length c) := h.row.cell 2
  have hc1 := h.hcap; have hc2 := h.hlen
  have hs1 : IntKind.i64.wrap ((A.cap : Int) - (A.b.length : Int)) = (A.cap : Int) - (A.b.length : Int) := IntWalk.i64_in _ (by omega)
  have ht : decide ((A.cap : Int) - (A.b.length : Int) < n) = true := by simp; omega
  clear h hB hg
  go_enter Try.func137, Try.ntmps137
  go_wp2
  go_quiet (fail)
  clear hs1 ht
  go_wp2
  go_ret
  exact ⟨rfl, below_drewN (Below.refl _ _) _⟩
end Go.Proofs.Ytenbpbnffnodhaa

namespace Go.Own
open Go
section
variable {P : Program} (w : World)
theorem run_equalIn_iface_int (d : Nat) {ti tn : TypeId} {ms : Array (String × TypeId)} {i : TypeInfo} {k : IntKind} (a b : Int)
    (hi : P.underlying ti = some (.interface ms)) (hn : P.underlying tn = some (.int k)) (hinfo : P.info? tn = some i) (hcomp : i.comparable = true) :
    (Op.equalIn (d + 2) ti (.iface tn (.int k a)) (.iface tn (.int k b))).run P w = .ok (a == b) w := by
  simp [Op.equalIn, run_underlying hi, run_underlying hn, typeInfo, hinfo, hcomp]
/-- 'x == y', both interface values of one integer type: as the numbers are. -/
theorem run_eql_iface_int {ti tn : TypeId} {ms : Array (String × TypeId)} {k : IntKind} (a b : Int)
    (hi : P.underlying ti = some (.interface ms)) (hn : P.underlying tn = some (.int k)) (hc : (P.info? tn).map (·.comparable) = some true) :
    (binOp .eql ti (.iface tn (.int k a)) (.iface tn (.int k b))).run P w = .ok (.bool (a == b)) w := by
  cases h : P.info? tn with
  | none => rw [h] at hc; cases hc
  | some i =>
    rw [h] at hc
    simp only [binOp]
    simp [Op.equal, Op.maxDepth, run_equalIn_iface_int w 9998 a b hi hn h (by simpa using hc)]
end
end Go.Own
namespace Go.Proofs.Ytenbpbnffnodhaa
open Go Go.RowKit Go.Own
set_option linter.unusedVariables false
theorem ee (w : World) (a b : Int) : (binOp .eql 28 (.iface 183 (.int .i64 a)) (.iface 183 (.int .i64 b))).run Try.prog w = .ok (.bool (a == b)) w :=
  run_eql_iface_int w a b Try.underlying28 Try.underlying183 (by kernel_rfl)
theorem code_nil (w : World) : Calls Try.prog 51 #[.nilIface] w fun e w' => e = .returned (.int .i64 0) ∧ w = w' := by
  go_enter Try.func51, Try.ntmps51
  go_wp2
  go_ret
  exact ⟨rfl, rfl⟩
theorem code_of (w : World) (K : Int) (h1 : 1 ≤ K) (h2 : K ≤ 10) : Calls Try.prog 51 #[.iface 183 (.int .i64 K)] w fun e w' => e = .returned (.int .i64 K) ∧ w = w' := by
  have he := ee w
  go_enter Try.func51, Try.ntmps51
  go_wp2
  go_loop [3] (fun c => ∃ k : Int, 1 ≤ k ∧ k ≤ K ∧ c = .int .i64 k) (fun c => (K - intOf c).toNat)
  case atStart => exact ⟨1, by omega, h1, rfl⟩
  case round =>
    obtain ⟨k, k1, k2, rfl⟩ := hrel
    by_cases hk : k = K
    · subst hk
      go_wp2
      go_ret
      exact ⟨rfl, rfl⟩
    · have hb : (K == k) = false := by rw [beq_eq_false_iff_ne]; omega
      clear hk
      have hk : k < K := by
        have := beq_eq_false_iff_ne.1 hb; omega
      go_wp2
      exact ⟨⟨k + 1, by omega, by omega, rfl⟩, by simp [intOf]; omega⟩
theorem law_Base (w : World) (n : Int) (h0 : 0 ≤ n) (h1 : n ≤ 18446744073709551615) :
    Calls Try.prog 60 #[.int .u64 n] w fun e w' => e = .returned (.int .u64 (n % 288230376151711744 * 16)) ∧ w = w' := by
  go_enter Try.func60, Try.ntmps60
  go_wp2
  go_ret
  exact ⟨rfl, rfl⟩
/-- An arena in new memory, on which these bytes stand. -/
def MadeAr (A : Ar) (w : World) (e : Ending) (w' : World) : Prop :=
  ∃ p v, e = .returned (arP p) ∧ ArA w' p A v ∧ (∀ k, arF p v k → w.heap.size ≤ k) ∧ Below w.heap.size w w'
theorem law_Arena_none (w : World) (b c : Int) (b0 : 0 ≤ b) (b1 : b ≤ 18446744073709551615) (a : Option Addr) (n cp : Nat) (hf : ¬ (b % 16 = 0 ∧ b ≤ 4611686018427387904 ∧ 1024 ≤ c ∧ c ≤ 16384)) :
    Calls Try.prog 59 #[.int .u64 b, .int .i64 c, .slice a n cp] w fun e w' => e = .returned (.pointer none) ∧ w = w' := by
  have k1 := arena_New_bad w b c b0 b1 hf
  have K1 := Lib.hid k1
  clear k1 hf
  go_enter Try.func59, Try.ntmps59
  go_wp2_with fail
  refine K1.out.mono ?_
  rintro e w' ⟨rfl, rfl⟩
  go_wp2
  go_ret
  exact ⟨rfl, rfl⟩
set_option maxHeartbeats 1000000 in
theorem law_Arena (w : World) (b : Int) (B : Nat) (hB : b = B) (c : Int) (C : Nat) (hC : c = C) (h1 : B % 16 = 0) (h2 : B ≤ 4611686018427387904) (h3 : 1024 ≤ C) (h4 : C ≤ 16384)
    (a : Option Addr) (n cp : Nat) (l : List UInt8) (hb : Bs w a n cp l) (hl : l.length ≤ C) :
    Calls Try.prog 59 #[.int .u64 b, .int .i64 c, .slice a n cp] w (MadeAr ⟨B, C, l⟩ w) := by
  have k1 := arena_New_ok w b B hB c C hC h1 h2 h3 h4
  have hn := hb.len
  have hcp := Sl.cap hb; have hr := Sl.room hb
  subst hn
  have hcl : (l.length : Int) ≤ c := by omega
  have K1 := Lib.hid k1; have HB := Lib.hid hb; have HBB := Lib.hid hB
  clear k1 hb hB hC
  go_enter Try.func59, Try.ntmps59
  go_wp2_with fail
  refine K1.out.mono ?_
  rintro e w1 ⟨rfl, hA1, hb1⟩
  have A1 := Lib.hid hA1
  have s1 := hb1.size
  clear hA1
  go_wp2_with fail
  refine (arena_Grow_ok w1 _ _ _ A1.out l.length l.length rfl (by show 0 + l.length ≤ C; omega)).mono ?_
  rintro e w2 ⟨v2, rfl, hA2, k2, g2⟩
  have b2 : Below w.heap.size w w2 := hb1.trans (k2.below hb1.size fun k hk hf => by
    rcases hf with rfl | hf
    · omega
    · cases hf)
  have hl0 : (([] : List UInt8) ++ List.replicate l.length 0).length = l.length := by simp
  have A2 := Lib.hid hA2; have G2 := Lib.hid g2; have HL := Lib.hid hl0
  clear hA2 g2 hl0 k2
  go_wp2_with fail
  refine (arena_Store_ok w2 _ _ _ A2.out b 0 (by simp [HBB.out]) _ _ _ l (HB.out.below b2) (by show 0 + l.length ≤ _; rw [HL.out]; omega)).mono ?_
  rintro e w3 ⟨rfl, hA3, k3⟩
  have ha : lay (([] : List UInt8) ++ List.replicate l.length 0) 0 l = l := by simp [lay]
  simp only at hA3
  rw [ha] at hA3
  have A3 := Lib.hid hA3
  clear hA3 ha
  have hv2 : ∀ g, v2.ownBlock = some g → w.heap.size ≤ g := by
    intro g hg
    rcases G2.out with e | e
    · rw [e] at hg; cases hg
    · rw [e] at hg; cases hg; exact s1
  have HV := Lib.hid hv2
  clear hv2
  go_wp2
  go_ret
  refine ⟨_, v2, rfl, A3.out, fun k hk => ?_, b2.trans (k3.below b2.size fun k hk hf => ?_)⟩
  · rcases hk with rfl | hk
    · exact Nat.le_refl _
    · exact HV.out k hk
  · have := HV.out k hf; omega
end Go.Proofs.Ytenbpbnffnodhaa

/- Sizes, tags and classes in plain words. No program. -/
namespace Go.Own
def isSize (s : Int) : Bool := decide (32 ≤ s ∧ s ≤ 16384 ∧ s % 16 = 0)
/-- The tag. -/
def tagOf (s : Int) (u : Bool) : Int := if isSize s then (if u then s + 1 else s) else 0
/-- What a number tells as a tag: is it one; the size; is it used. -/
def isTag (w : Int) : Bool := isSize (w - w % 2)
def tagS (w : Int) : Int := if isTag w then w - w % 2 else 0
def tagU (w : Int) : Bool := isTag w && decide (w % 2 = 1)
def cls (s : Int) : Int :=
  if isSize s then (if s ≤ 256 then s / 16 - 2 else if s < 512 then 15 else if s < 1024 then 16 else if s < 2048 then 17 else if s < 4096 then 18 else if s < 8192 then 19 else if s < 16384 then 20 else 21) else -1
theorem isSize_iff (s : Int) : isSize s = true ↔ 32 ≤ s ∧ s ≤ 16384 ∧ s % 16 = 0 := by unfold isSize; exact decide_eq_true_iff
theorem isSize_yes {s : Int} (h : 32 ≤ s ∧ s ≤ 16384 ∧ s % 16 = 0) : isSize s = true := (isSize_iff s).2 h
theorem isSize_no {s : Int} (h : ¬ (32 ≤ s ∧ s ≤ 16384 ∧ s % 16 = 0)) : isSize s = false := by
  rw [← Bool.not_eq_true, isSize_iff]; exact h
theorem tagOf_rng (s : Int) (u : Bool) : 0 ≤ tagOf s u ∧ tagOf s u ≤ 16385 := by
  unfold tagOf; split
  · rename_i h; rw [isSize_iff] at h; split <;> omega
  · omega
theorem isTag_tagOf {s : Int} {u : Bool} (h : isSize s = true) : isTag (tagOf s u) = true ∧ tagS (tagOf s u) = s ∧ tagU (tagOf s u) = u := by
  have h' := (isSize_iff s).1 h
  have e : tagOf s u - tagOf s u % 2 = s := by unfold tagOf; rw [h]; cases u <;> simp <;> omega
  have t : isTag (tagOf s u) = true := by unfold isTag; rw [e]; exact h
  refine ⟨t, by unfold tagS; rw [t, e]; rfl, ?_⟩
  unfold tagU
  rw [t]
  unfold tagOf
  rw [h]
  cases u <;> simp <;> omega
theorem tagOf_isTag {w : Int} (h : isTag w = true) : tagOf (tagS w) (tagU w) = w ∧ isSize (tagS w) = true := by
  have h0 := h
  unfold isTag at h
  have e : tagS w = w - w % 2 := by unfold tagS; rw [h0]; rfl
  refine ⟨?_, by rw [e]; exact h⟩
  unfold tagOf tagU
  rw [e, h, h0]
  by_cases p : w % 2 = 1
  · simp [p]
  · have : w % 2 = 0 := by omega
    simp [this]
theorem tagOf_zero {s : Int} {u : Bool} : tagOf s u = 0 ↔ isSize s = false := by
  unfold tagOf
  cases h : isSize s with
  | false => simp
  | true => rw [isSize_iff] at h; cases u <;> simp <;> omega
theorem noTag {w : Int} (h : isTag w = false) : tagS w = 0 ∧ tagU w = false := by unfold tagS tagU; rw [h]; exact ⟨rfl, rfl⟩
theorem isTag_rng {w : Int} (h : isTag w = true) : 32 ≤ w ∧ w ≤ 16385 := by unfold isTag at h; rw [isSize_iff] at h; omega
theorem andLow (W : Nat) : (W &&& 18446744073709551614) &&& 65535 = W % 65536 - W % 2 := by
  have e1 : (W &&& 18446744073709551614) &&& 65535 = W &&& 65534 := by rw [Nat.and_assoc]; rfl
  have e2 : W &&& 65535 = W % 65536 := Nat.and_two_pow_sub_one_eq_mod W 16
  have e3 : W &&& 1 = W % 2 := Nat.and_two_pow_sub_one_eq_mod W 1
  have e4 : W &&& 65535 = (W &&& 65534) ||| (W &&& 1) := by rw [← Nat.and_or_distrib_left]; rfl
  have e5 : (W &&& 65534) % 2 ^ 1 = 0 := by rw [Nat.and_mod_two_pow]; simp
  have e6 : W &&& 1 < 2 ^ 1 := by rw [e3]; omega
  rw [nat_join 1 _ _ e5 e6, e2, e3] at e4
  rw [e1]; omega
theorem andNot1 (w : Int) (h0 : 0 ≤ w) (h1 : w ≤ 18446744073709551615) : bits .andNot .u64 w 1 = ((w.toNat &&& 18446744073709551614 : Nat) : Int) := by
  rw [u64_andNot w 1 h0 (by omega) (by decide) (by decide)]
  have e : (18446744073709551615 - (1 : Int).toNat) = 18446744073709551614 := by decide
  rw [e]
theorem low_eq (w : Int) (h0 : 0 ≤ w) (h1 : w ≤ 18446744073709551615) : bits .and .u64 (bits .andNot .u64 w 1) 65535 = w % 65536 - w % 2 := by
  rw [andNot1 w h0 h1]
  have hb : ((w.toNat &&& 18446744073709551614 : Nat)) < 18446744073709551616 := by
    have : (w.toNat &&& 18446744073709551614 : Nat) ≤ w.toNat := Nat.and_le_left
    omega
  rw [u64_and _ _ (by omega) (by omega) (by decide) (by decide)]
  have := andLow w.toNat
  have e' : ((65535 : Int)).toNat = 65535 := by decide
  rw [e', Int.toNat_natCast, this]; omega
theorem odd_eq (w : Int) (h0 : 0 ≤ w) (h1 : w ≤ 18446744073709551615) : bits .and .u64 w 1 = w % 2 := by
  rw [u64_and w 1 h0 (by omega) (by decide) (by decide)]
  have e' : ((1 : Int)).toNat = 1 := by decide
  rw [e', nat_mask1]; omega
theorem or1 (w : Int) (h0 : 0 ≤ w) (h1 : w ≤ 18446744073709551615) (h2 : w % 2 = 0) : bits .or .u64 w 1 = w + 1 := by
  rw [u64_or w 1 h0 (by omega) (by decide) (by decide)]
  have e' : ((1 : Int)).toNat = 1 := by decide
  rw [e', nat_join 1 w.toNat 1 (by omega) (by decide)]; omega
/-- Unpack's own way. -/
theorem unpack_eq (w : Int) (h0 : 0 ≤ w) : (tagOf (w % 65536 - w % 2) (w % 2 == 1) != w) = !isTag w ∨ w = 0 := by
  by_cases hz : w = 0
  · exact .inr hz
  left
  unfold tagOf isTag
  by_cases hs : isSize (w % 65536 - w % 2) = true
  · have h' := (isSize_iff _).1 hs
    rw [hs]
    by_cases hw : w < 65536
    · have e : w % 65536 = w := by omega
      rw [e] at hs ⊢
      rw [hs]
      by_cases p : w % 2 = 1
      · simp [p]
      · have : w % 2 = 0 := by omega
        simp [this]
    · rw [isSize_no (by omega)]
      by_cases p : w % 2 = 1
      · simp [p]; omega
      · have : w % 2 = 0 := by omega
        simp [this]; omega
  · rw [Bool.not_eq_true] at hs
    rw [hs]
    have h2 : isSize (w - w % 2) = false := by
      by_cases hw : w < 65536
      · have e : w % 65536 = w := by omega
        rwa [e] at hs
      · exact isSize_no (by omega)
    rw [h2]; simp; omega
/-- The class, by the length of the number. -/
theorem cls_len {s : Int} (h : isSize s = true) (h2 : 256 < s) (b : Int) (hb : b = if s < 512 then 9 else if s < 1024 then 10 else if s < 2048 then 11 else if s < 4096 then 12 else if s < 8192 then 13 else if s < 16384 then 14 else 15) : cls s = 6 + b := by
  subst hb
  unfold cls
  rw [h]
  simp only [if_true]
  rw [if_neg (by omega)]
  repeat (split <;> try omega)
end Go.Own

/- Blocks and lists of an arena's bytes, in plain words. No program. -/
namespace Go.Own
/-- The number of eight bytes at a place; 0: they aren't there. -/
def numAt (b : List UInt8) (o : Nat) : Nat := if o + 8 ≤ b.length then num ((b.drop o).take 8) else 0
def layAt (b : List UInt8) (o v : Nat) : List UInt8 := lay b o (low v 8)
structure Blk where
  off : Nat
  size : Nat
  used : Bool
  deriving DecidableEq
def blkAt (b : List UInt8) (o : Nat) : Option Blk :=
  if 184 ≤ o ∧ o % 16 = 8 ∧ isTag (numAt b o) = true ∧ o + (tagS (numAt b o)).toNat ≤ b.length ∧ numAt b (o + (tagS (numAt b o)).toNat - 8) = numAt b o then
    some ⟨o, (tagS (numAt b o)).toNat, tagU (numAt b o)⟩ else none
def tagB (x : Blk) : Nat := (tagOf x.size x.used).toNat
/-- Both tags are laid. -/
def setB (b : List UInt8) (x : Blk) : List UInt8 := layAt (layAt b x.off (tagB x)) (x.off + x.size - 8) (tagB x)
def couldB (b : List UInt8) (o s : Int) : Bool := decide (184 ≤ o ∧ o % 16 = 8 ∧ o ≤ b.length ∧ s ≤ b.length - o)
def aheadB (b : List UInt8) (o : Nat) : Option Blk :=
  if 184 ≤ o ∧ o ≤ b.length ∧ isTag (numAt b (o - 8)) = true then
    match blkAt b (o - (tagS (numAt b (o - 8))).toNat) with
    | some x => if (tagS (numAt b (o - 8))).toNat ≤ o ∧ x.size = (tagS (numAt b (o - 8))).toNat ∧ x.used = tagU (numAt b (o - 8)) then some x else none
    | none => none
  else none
def walkFrom (b : List UInt8) : Nat → Nat → Option (List Blk)
  | 0, o => if o < b.length then none else some []
  | f + 1, o => if o < b.length then (match blkAt b o with
    | none => none
    | some x => (walkFrom b f (o + x.size)).map (x :: ·)) else some []
def walkB (b : List UInt8) : Option (List Blk) := if b.length < 184 then none else walkFrom b b.length 184
theorem numAt_lt (b : List UInt8) (o : Nat) : numAt b o < 18446744073709551616 := by
  unfold numAt; split
  · have h1 := num_lt ((b.drop o).take 8)
    have h2 : ((b.drop o).take 8).length ≤ 8 := List.length_take_le _ _
    have h3 := Nat.pow_le_pow_right (n := 256) (by decide) h2
    omega
  · decide
theorem tagS_isTag {w : Int} (h : isTag w = true) : 32 ≤ tagS w ∧ tagS w ≤ 16384 ∧ tagS w % 16 = 0 := by
  have := (tagOf_isTag h).2
  exact (isSize_iff _).1 this
theorem blkAt_some {b : List UInt8} {o : Nat} {x : Blk} (h : blkAt b o = some x) :
    x.off = o ∧ 184 ≤ o ∧ o % 16 = 8 ∧ 32 ≤ x.size ∧ x.size ≤ 16384 ∧ x.size % 16 = 0 ∧ o + x.size ≤ b.length ∧ isTag (numAt b o) = true ∧ (x.size : Int) = tagS (numAt b o) ∧ x.used = tagU (numAt b o) ∧ numAt b (o + x.size - 8) = numAt b o ∧ numAt b o = tagB x := by
  unfold blkAt at h
  split at h
  · rename_i hh
    obtain ⟨h1, h2, h3, h4, h5⟩ := hh
    have h6 := tagS_isTag h3
    simp only [Option.some.injEq] at h
    subst h
    simp only
    refine ⟨trivial, h1, h2, by omega, by omega, by omega, h4, h3, by omega, trivial, h5, ?_⟩
    unfold tagB
    have h7 := (tagOf_isTag h3).1
    simp only
    rw [show ((tagS (numAt b o)).toNat : Int) = tagS (numAt b o) by omega, h7]
    omega
  · cases h
theorem blkAt_mk {b : List UInt8} {o s : Nat} {u : Bool} (h1 : 184 ≤ o) (h2 : o % 16 = 8) (h3 : isSize s = true) (h4 : o + s ≤ b.length) (h5 : numAt b o = (tagOf s u).toNat) (h6 : numAt b (o + s - 8) = (tagOf s u).toNat) : blkAt b o = some ⟨o, s, u⟩ := by
  have hr := tagOf_rng s u
  have e : ((numAt b o : Nat) : Int) = tagOf s u := by omega
  obtain ⟨t1, t2, t3⟩ := isTag_tagOf (s := s) (u := u) h3
  unfold blkAt
  rw [e, t2, t3, t1, Int.toNat_natCast, if_pos ⟨h1, h2, rfl, h4, by rw [h6, h5]⟩]
theorem layAt_length (b : List UInt8) (o v : Nat) (h : o + 8 ≤ b.length) : (layAt b o v).length = b.length := lay_length _ _ _ (by rw [low_length]; exact h)
theorem lay_take {l b : List UInt8} {i : Nat} (h : i + b.length ≤ l.length) (j : Nat) (hj : j ≤ i) : (lay l i b).take j = l.take j := by
  have h1 : (l.take i).length = i := by rw [List.length_take]; omega
  unfold lay
  rw [List.append_assoc, List.take_append_of_le_length (by omega), List.take_take, Nat.min_eq_left hj]
theorem lay_drop {l b : List UInt8} {i : Nat} (h : i + b.length ≤ l.length) (j : Nat) (hj : i + b.length ≤ j) : (lay l i b).drop j = l.drop j := by
  have h1 : (l.take i ++ b).length = i + b.length := by rw [List.length_append, List.length_take]; omega
  unfold lay
  rw [List.drop_append, List.drop_of_length_le (by omega), List.nil_append, h1, List.drop_drop]
  congr 1
  omega
theorem lay_piece {l b : List UInt8} {i : Nat} (h : i + b.length ≤ l.length) : ((lay l i b).drop i).take b.length = b := by
  have h1 : (l.take i).length = i := by rw [List.length_take]; omega
  unfold lay
  rw [List.append_assoc, List.drop_append_of_le_length (by omega), List.drop_of_length_le (by omega), List.nil_append, List.take_left]
theorem lay_far {l b : List UInt8} {i : Nat} (h : i + b.length ≤ l.length) (o n : Nat) (hd : o + n ≤ i ∨ i + b.length ≤ o) : ((lay l i b).drop o).take n = (l.drop o).take n := by
  rcases hd with hd | hd
  · have e : ∀ m : List UInt8, (m.drop o).take n = ((m.take i).drop o).take n := fun m => by
      rw [List.drop_take, List.take_take, Nat.min_eq_left (by omega)]
    rw [e, e l, lay_take h i (Nat.le_refl _)]
  · rw [lay_drop h o hd]
theorem numAt_same (b : List UInt8) (o v : Nat) (h : o + 8 ≤ b.length) (hv : v < 18446744073709551616) : numAt (layAt b o v) o = v := by
  unfold numAt
  rw [layAt_length _ _ _ h, if_pos h]
  have := lay_piece (l := b) (b := low v 8) (i := o) (by rw [low_length]; exact h)
  rw [low_length] at this
  unfold layAt
  rw [this, num_low]
  exact Nat.mod_eq_of_lt (by simpa using hv)
theorem numAt_far (b : List UInt8) (o o' v : Nat) (h : o + 8 ≤ b.length) (hd : o' + 8 ≤ o ∨ o + 8 ≤ o') : numAt (layAt b o v) o' = numAt b o' := by
  unfold numAt
  rw [layAt_length _ _ _ h]
  split
  · unfold layAt
    rw [lay_far (by rw [low_length]; exact h) o' 8 (by rw [low_length]; omega)]
  · rfl
/-- At multiples of eight. -/
theorem numAt_lay (b : List UInt8) (o o' v : Nat) (h : o + 8 ≤ b.length) (hv : v < 18446744073709551616) (h8 : o % 8 = o' % 8) : numAt (layAt b o v) o' = if o' = o then v else numAt b o' := by
  split
  · rename_i e; subst e; exact numAt_same b o' v h hv
  · exact numAt_far b o o' v h (by omega)
theorem setB_length (b : List UInt8) (x : Blk) (h1 : 16 ≤ x.size) (h2 : x.off + x.size ≤ b.length) : (setB b x).length = b.length := by
  unfold setB
  rw [layAt_length _ _ _ (by rw [layAt_length _ _ _ (by omega)]; omega), layAt_length _ _ _ (by omega)]
/-! ### Lists -/
def headO (c : Nat) : Nat := 8 + 8 * c
def memberB (b : List UInt8) (at_ : Nat) (c : Nat) : Bool := match blkAt b at_ with
  | some x => !x.used && decide (cls x.size = c)
  | none => false
def freeB (b : List UInt8) (o : Nat) : Option Nat := match blkAt b o with
  | some x => if x.used then none else some (cls x.size).toNat
  | none => none
def bitAt (w c : Nat) : Bool := decide (w / 2 ^ c % 2 = 1)
def setBit (w c : Nat) (v : Bool) : Nat := if bitAt w c = v then w else w ^^^ 2 ^ c
def markB (b : List UInt8) (c : Nat) : List UInt8 := layAt b 0 (setBit (numAt b 0) c (decide (numAt b (headO c) ≠ 0)))
def putB (b : List UInt8) (o : Nat) : Option (List UInt8) := match freeB b o with
  | none => none
  | some c =>
    let first := numAt b (headO c)
    if first = o ∨ (first ≠ 0 ∧ memberB b first c = false) then none else
    let b1 := layAt (layAt b (o + 8) first) (o + 16) 0
    let b2 := if first = 0 then b1 else layAt b1 (first + 16) o
    some (markB (layAt b2 (headO c) o) c)
def takeB (b : List UInt8) (o : Nat) : Option (List UInt8) := match freeB b o with
  | none => none
  | some c =>
    let p := numAt b (o + 16)
    let n := numAt b (o + 8)
    if (p = 0 ∧ numAt b (headO c) ≠ o) ∨ (p ≠ 0 ∧ (memberB b p c = false ∨ numAt b (p + 8) ≠ o)) ∨ (n ≠ 0 ∧ (memberB b n c = false ∨ numAt b (n + 16) ≠ o)) then none else
    let b1 := if p = 0 then layAt b (headO c) n else layAt b (p + 8) n
    let b2 := if n = 0 then b1 else layAt b1 (n + 16) p
    some (markB b2 c)
def allFrom (b : List UInt8) (c : Nat) : Nat → Nat → Nat → Option (List Nat)
  | 0, at_, _ => if at_ = 0 then some [] else none
  | f + 1, at_, last => if at_ = 0 then some [] else
    if memberB b at_ c = false ∨ numAt b (at_ + 16) ≠ last then none else (allFrom b c f (numAt b (at_ + 8)) at_).map (at_ :: ·)
def allB (b : List UInt8) (c : Nat) : Option (List Nat) :=
  if b.length < 184 then none else if bitAt (numAt b 0) c ≠ decide (numAt b (headO c) ≠ 0) then none else allFrom b c 1024 (numAt b (headO c)) 0
/-- The first one of a list that is large enough. -/
def firstFit (b : List UInt8) (size : Nat) : List Nat → Option Nat
  | [] => none
  | o :: l => match blkAt b o with
    | some x => if size ≤ x.size then some o else firstFit b size l
    | none => firstFit b size l
/-- Of so many classes from c on: where a block stands (0: none); nothing: a list is amiss. -/
def findFrom (b : List UInt8) (size : Nat) : Nat → Nat → Option Nat
  | 0, _ => some 0
  | f + 1, c => match allB b c with
    | none => none
    | some l => match firstFit b size l with
      | some o => some o
      | none => findFrom b size f (c + 1)
def findB (b : List UInt8) (size : Nat) : Option Nat := findFrom b size (22 - (cls size).toNat) (cls size).toNat
end Go.Own

/- What an arena's calls come to, in plain words: an error's number, and the arena then. -/
namespace Go.Own
def Ar.there (A : Ar) (addr n : Int) : Bool := decide ((A.base : Int) ≤ addr ∧ addr - A.base + n ≤ A.b.length)
def Ar.at' (A : Ar) (addr : Int) : Nat := (addr - A.base).toNat
def Ar.grow (A : Ar) (n : Int) : Int × Ar := if n < 0 then (1, A) else if (A.cap : Int) < A.b.length + n then (5, A) else (0, { A with b := A.b ++ List.replicate n.toNat 0 })
def Ar.load (A : Ar) (addr n : Int) : Int × List UInt8 := if A.there addr n then (0, (A.b.drop (A.at' addr)).take n.toNat) else (2, [])
def Ar.store (A : Ar) (addr : Int) (b : List UInt8) : Int × Ar := if A.there addr b.length then (0, { A with b := lay A.b (A.at' addr) b }) else (2, A)
def Ar.copy (A : Ar) (to fr n : Int) : Int × Ar := if A.there fr n ∧ A.there to n then (0, { A with b := lay A.b (A.at' to) ((A.b.drop (A.at' fr)).take n.toNat) }) else (2, A)
end Go.Own

/- The arena's other calls: Cap, Word, Widen, Clone. -/
namespace Go.Proofs.Ytenbpbnffnodhaa
open Go Go.RowKit Go.Own
set_option linter.unusedVariables false
set_option maxRecDepth 100000
theorem arena_Cap (w : World) (p : Nat) (A : Ar) (v : Value) (h : ArA w p A v) :
    Calls Try.prog 45 #[arP p] w fun e w' => e = .returned (.int .i64 A.cap) ∧ w = w' := by
  have q1 : w.cell? ⟨p, 1, none⟩ = some (.int .i64 A.cap) := h.row.cell 1
  clear h
  go_enter Try.func45, Try.ntmps45
  go_wp2
  go_ret
  exact ⟨rfl, rfl⟩
theorem arena_Word_ok (w : World) (p : Nat) (A : Ar) (v : Value) (h : ArA w p A v) (addr : Int) (i : Nat) (hi : addr = A.base + i) (hf : i + 8 ≤ A.b.length) :
    Calls Try.prog 146 #[arP p, .int .u64 addr] w fun e w' => e = .returned (.tuple #[.int .u64 (numAt A.b i : Nat), .nilIface]) ∧ w = w' := by
  have k := arena_at_ok w p A v h addr i hi 8 8 rfl hf
  have K := Lib.hid k
  have hg : getV ((A.b.drop i).take 8) 0 8 = (numAt A.b i : Nat) := by
    have hl : ((A.b.drop i).take 8).length = 8 := by simp; omega
    unfold getV numAt
    rw [hl, if_pos (by decide), if_pos hf]
    simp [List.take_take]
  have HG := Lib.hid hg
  clear k h hi hf hg
  go_enter Try.func146, Try.ntmps146
  go_wp2_with fail
  refine K.out.mono ?_
  rintro e w' ⟨a1, c1, rfl, hB, hg, rfl⟩
  have HB := Lib.hid hB
  clear hB hg
  go_wp2_with fail
  refine (word_Get w a1 8 c1 _ 0 HB.out (by decide) (by decide)).mono ?_
  rintro e w' ⟨rfl, rfl⟩
  rw [HG.out]
  go_wp2
  go_ret2
  exact ⟨rfl, rfl⟩
theorem arena_Word_bad (w : World) (p : Nat) (A : Ar) (v : Value) (h : ArA w p A v) (addr : Int) (h0 : 0 ≤ addr) (h1 : addr ≤ 18446744073709551615) (hf : ¬ ((A.base : Int) ≤ addr ∧ addr - A.base + 8 ≤ A.b.length)) :
    Calls Try.prog 146 #[arP p, .int .u64 addr] w fun e w' => e = .returned (.tuple #[.int .u64 0, .iface 183 (.int .i64 2)]) ∧ w = w' := by
  have k := arena_at_bad w p A v h addr 8 h0 h1 (by decide) (by decide) hf
  have K := Lib.hid k
  clear k h hf
  go_enter Try.func146, Try.ntmps146
  go_wp2_with fail
  refine K.out.mono ?_
  rintro e w' ⟨rfl, rfl⟩
  go_wp2_with fail
  refine (word_Get w none 0 0 [] 0 (Bs.nil w) (by decide) (by decide)).mono ?_
  rintro e w' ⟨rfl, rfl⟩
  have hg : getV [] 0 8 = 0 := by unfold getV; rw [if_neg (by decide)]
  rw [hg]
  clear hg
  go_wp2
  go_ret2
  exact ⟨rfl, rfl⟩
end Go.Proofs.Ytenbpbnffnodhaa

/- Things in memory, side by side, each with blocks of its own: what one step does to one of them leaves the others. -/
namespace Go.Own
open Go Go.RowKit
/-- A kind of thing in memory: of a world and of its blocks. 'm': it may be turned, so its blocks are none of those that were there at first. -/
structure Ob where
  m : Bool
  p : World → (Nat → Prop) → Prop
  lt : ∀ {w : World} {F : Nat → Prop}, p w F → ∀ k, F k → k < w.heap.size
  kept : ∀ {w w' : World} {F G : Nat → Prop}, p w F → Keep G w w' → (∀ k, F k → ¬ G k) → p w' F
/-- All of these. U true: blocks of things that may be turned, ahead of these; U false: of things that are only read. What may be turned has no block in common with anything else. -/
def SL (B : Nat) (w : World) : List Ob → (Bool → Nat → Prop) → Prop
  | [], _ => True
  | P :: r, U => ∃ F, P.p w F ∧ (∀ k, F k → ¬ U true k ∧ (P.m = true → ¬ U false k ∧ B ≤ k)) ∧ SL B w r (fun m k => U m k ∨ (m = P.m ∧ F k))
theorem SL.move {B : Nat} {w w' : World} {G : Nat → Prop} (k : Keep G w w') : ∀ {l : List Ob} {U U' : Bool → Nat → Prop}, SL B w l U → (∀ x, G x → U true x) → (∀ m x, U' m x → U m x ∨ U true x ∨ w.heap.size ≤ x) → SL B w' l U'
  | [], _, _, _, _, _ => trivial
  | P :: r, U, U', h, hG, hU => by
    obtain ⟨F, h1, h2, h4⟩ := h
    refine ⟨F, P.kept h1 k fun x hx hg => (h2 x hx).1 (hG x hg), fun x hx => ⟨fun hu => ?_, fun hm => ⟨fun hu => ?_, ((h2 x hx).2 hm).2⟩⟩, SL.move k h4 (fun x hx => .inl (hG x hx)) (fun m x hx => ?_)⟩
    · rcases hU true x hu with h | h | h
      · exact (h2 x hx).1 h
      · exact (h2 x hx).1 h
      · have := P.lt h1 x hx; omega
    · rcases hU false x hu with h | h | h
      · exact ((h2 x hx).2 hm).1 h
      · exact (h2 x hx).1 h
      · have := P.lt h1 x hx; omega
    · rcases hx with hx | hx
      · rcases hU m x hx with h | h | h
        · exact .inl (.inl h)
        · exact .inr (.inl (.inl h))
        · exact .inr (.inr h)
      · exact .inl (.inr hx)
/-- One of them, and what may become of it. -/
theorem SL.at {B : Nat} {w : World} (hB : B ≤ w.heap.size) : ∀ {l : List Ob} {U : Bool → Nat → Prop} {i : Nat} {P : Ob}, SL B w l U → (∀ m x, U m x → x < w.heap.size) → l[i]? = some P →
    ∃ F, P.p w F ∧ (∀ x, F x → ¬ U true x ∧ (P.m = true → ¬ U false x ∧ B ≤ x)) ∧ ∀ (w' : World) (F' : Nat → Prop) (P' : Ob), (P'.m = true → P.m = true) → Keep (fun x => P.m = true ∧ F x) w w' → P'.p w' F' → (∀ x, F' x → F x ∨ w.heap.size ≤ x) → SL B w' (l.set i P') U
  | [], _, _, _, _, _, hi => by simp at hi
  | P0 :: r, U, 0, P, h, hU, hi => by
    obtain ⟨F, h1, h2, h4⟩ := h
    simp only [List.getElem?_cons_zero, Option.some.injEq] at hi
    subst hi
    refine ⟨F, h1, h2, fun w' F' P' hm k hp hF => ⟨F', hp, fun x hx => ⟨fun hu => ?_, fun hm' => ⟨fun hu => ?_, ?_⟩⟩, SL.move k h4 (fun x hx => .inr ⟨hx.1.symm, hx.2⟩) (fun m x hx => ?_)⟩⟩
    · rcases hF x hx with h | h
      · exact (h2 x h).1 hu
      · have := hU true x hu; omega
    · rcases hF x hx with h | h
      · exact ((h2 x h).2 (hm hm')).1 hu
      · have := hU false x hu; omega
    · rcases hF x hx with h | h
      · exact ((h2 x h).2 (hm hm')).2
      · omega
    · rcases hx with hx | ⟨rfl, hx⟩
      · exact .inl (.inl hx)
      · rcases hF x hx with h | h
        · cases hpm : P0.m with
          | true => exact .inr (.inl (.inr ⟨rfl, h⟩))
          | false =>
            cases hpm' : P'.m with
            | true => rw [hm hpm'] at hpm; cases hpm
            | false => exact .inl (.inr ⟨rfl, h⟩)
        · exact .inr (.inr h)
  | P0 :: r, U, i + 1, P, h, hU, hi => by
    obtain ⟨F0, h1, h2, h4⟩ := h
    rw [List.getElem?_cons_succ] at hi
    obtain ⟨F, a1, a2, a4⟩ := SL.at hB h4 (fun m x hx => hx.elim (hU m x) fun h => P0.lt h1 x h.2) hi
    refine ⟨F, a1, fun x hx => ⟨fun hu => (a2 x hx).1 (.inl hu), fun hm => ⟨fun hu => ((a2 x hx).2 hm).1 (.inl hu), ((a2 x hx).2 hm).2⟩⟩, fun w' F' P' hm k hp hF => ⟨F0, P0.kept h1 k fun x hx hf => ?_, h2, a4 w' F' P' hm k hp hF⟩⟩
    obtain ⟨hfm, hf⟩ := hf
    cases hpm : P0.m with
    | true => exact (a2 x hf).1 (.inr ⟨hpm.symm, hx⟩)
    | false => exact ((a2 x hf).2 hfm).1 (.inr ⟨hpm.symm, hx⟩)
theorem SL.mono {B : Nat} {w : World} : ∀ {l : List Ob} {U U' : Bool → Nat → Prop}, SL B w l U → (∀ m x, U' m x → U m x ∨ U true x) → SL B w l U'
  | [], _, _, _, _ => trivial
  | P :: r, U, U', h, hU => by
    obtain ⟨F, h1, h2, h4⟩ := h
    refine ⟨F, h1, fun x hx => ⟨fun hu => (h2 x hx).1 ((hU true x hu).elim id id), fun hm => ⟨fun hu => (hU false x hu).elim ((h2 x hx).2 hm).1 (h2 x hx).1, ((h2 x hx).2 hm).2⟩⟩, SL.mono h4 fun m x hx => ?_⟩
    rcases hx with hx | hx
    · exact (hU m x hx).imp .inl .inl
    · exact .inl (.inr hx)
/-- Fewer of them, in the same order. -/
theorem SL.sub {B : Nat} {w : World} {l l' : List Ob} (hs : l'.Sublist l) : ∀ {U : Bool → Nat → Prop}, SL B w l U → SL B w l' U := by
  induction hs with
  | slnil => intro U _; exact trivial
  | cons a _ ih =>
    intro U h
    obtain ⟨F, h1, h2, h4⟩ := h
    exact ih (SL.mono h4 fun m x hx => .inl (.inl hx))
  | cons_cons a _ ih =>
    intro U h
    obtain ⟨F, h1, h2, h4⟩ := h
    exact ⟨F, h1, h2, ih h4⟩
theorem SL.swap {B : Nat} {w : World} {P Q : Ob} {r : List Ob} {U : Bool → Nat → Prop} (h : SL B w (P :: Q :: r) U) : SL B w (Q :: P :: r) U := by
  obtain ⟨F, h1, h2, G, g1, g2, h4⟩ := h
  refine ⟨G, g1, fun x hx => ⟨fun hu => (g2 x hx).1 (.inl hu), fun hm => ⟨fun hu => ((g2 x hx).2 hm).1 (.inl hu), ((g2 x hx).2 hm).2⟩⟩, F, h1, fun x hx => ⟨fun hu => ?_, fun hm => ⟨fun hu => ?_, ((h2 x hx).2 hm).2⟩⟩, SL.mono h4 fun m x hx => .inl ?_⟩
  · rcases hu with hu | ⟨hq, hg⟩
    · exact (h2 x hx).1 hu
    · cases hpm : P.m with
      | true => exact (g2 x hg).1 (.inr ⟨hpm.symm, hx⟩)
      | false => exact ((g2 x hg).2 hq.symm).1 (.inr ⟨hpm.symm, hx⟩)
  · rcases hu with hu | ⟨hq, hg⟩
    · exact ((h2 x hx).2 hm).1 hu
    · exact (g2 x hg).1 (.inr ⟨hm.symm, hx⟩)
  · rcases hx with (h | h) | h
    · exact .inl (.inl h)
    · exact .inr h
    · exact .inl (.inr h)
theorem SL.perm {B : Nat} {w : World} {l l' : List Ob} (hs : l.Perm l') : ∀ {U : Bool → Nat → Prop}, SL B w l U → SL B w l' U := by
  induction hs with
  | nil => intro U _; exact trivial
  | cons a _ ih =>
    intro U h
    obtain ⟨F, h1, h2, h4⟩ := h
    exact ⟨F, h1, h2, ih h4⟩
  | swap a b l => intro U h; exact SL.swap h
  | trans _ _ ih1 ih2 => intro U h; exact ih2 (ih1 h)
/-- What is only read, and lies below B, is in nobody's way. -/
theorem SL.low {B : Nat} {w : World} : ∀ {l : List Ob} {U U' : Bool → Nat → Prop}, SL B w l U → (∀ m x, U' m x → U m x ∨ (m = false ∧ x < B)) → SL B w l U'
  | [], _, _, _, _ => trivial
  | P :: r, U, U', h, hU => by
    obtain ⟨F, h1, h2, h4⟩ := h
    refine ⟨F, h1, fun x hx => ⟨fun hu => ?_, fun hm => ⟨fun hu => ?_, ((h2 x hx).2 hm).2⟩⟩, SL.low h4 fun m x hx => ?_⟩
    · rcases hU true x hu with h | ⟨h, _⟩
      · exact (h2 x hx).1 h
      · cases h
    · rcases hU false x hu with h | ⟨_, h⟩
      · exact ((h2 x hx).2 hm).1 h
      · have := ((h2 x hx).2 hm).2; omega
    · rcases hx with hx | hx
      · exact (hU m x hx).imp .inl id
      · exact .inl (.inr hx)
/-- Two of them have no block in common, if one may be turned. -/
theorem SL.apart {B : Nat} {w : World} : ∀ {l : List Ob} {U : Bool → Nat → Prop} {j : Nat} {Q : Ob}, SL B w l U → l[j]? = some Q → ∃ G, Q.p w G ∧ ∀ k, G k → ¬ U true k ∧ (Q.m = true → ¬ U false k)
  | [], _, _, _, _, hj => by simp at hj
  | P0 :: r, U, 0, Q, h, hj => by
    obtain ⟨F, h1, h2, h4⟩ := h
    simp only [List.getElem?_cons_zero, Option.some.injEq] at hj
    subst hj
    exact ⟨F, h1, fun k hk => ⟨(h2 k hk).1, fun hm => ((h2 k hk).2 hm).1⟩⟩
  | P0 :: r, U, j + 1, Q, h, hj => by
    obtain ⟨F, h1, h2, h4⟩ := h
    rw [List.getElem?_cons_succ] at hj
    obtain ⟨G, g1, g2⟩ := SL.apart h4 hj
    exact ⟨G, g1, fun k hk => ⟨fun hu => (g2 k hk).1 (.inl hu), fun hm hu => (g2 k hk).2 hm (.inl hu)⟩⟩
theorem SL.two {B : Nat} {w : World} : ∀ {l : List Ob} {U : Bool → Nat → Prop} {i j : Nat} {P Q : Ob}, SL B w l U → l[i]? = some P → l[j]? = some Q → i < j → (P.m = true ∨ Q.m = true) → ∃ F G, P.p w F ∧ Q.p w G ∧ ∀ k, F k → ¬ G k
  | [], _, _, _, _, _, _, hi, _, _, _ => by simp at hi
  | P0 :: r, U, 0, 0, P, Q, h, hi, hj, hij, _ => by omega
  | P0 :: r, U, i + 1, 0, P, Q, h, hi, hj, hij, _ => by omega
  | P0 :: r, U, 0, j + 1, P, Q, h, hi, hj, hij, hm => by
    obtain ⟨F, h1, h2, h4⟩ := h
    simp only [List.getElem?_cons_zero, Option.some.injEq] at hi
    subst hi
    rw [List.getElem?_cons_succ] at hj
    obtain ⟨G, g1, g2⟩ := SL.apart h4 hj
    refine ⟨F, G, h1, g1, fun k hk hg => ?_⟩
    cases hpm : P0.m with
    | true => exact (g2 k hg).1 (.inr ⟨hpm.symm, hk⟩)
    | false =>
      rcases hm with hm | hm
      · rw [hm] at hpm; cases hpm
      · exact (g2 k hg).2 hm (.inr ⟨hpm.symm, hk⟩)
  | P0 :: r, U, i + 1, j + 1, P, Q, h, hi, hj, hij, hm => by
    obtain ⟨F, h1, h2, h4⟩ := h
    rw [List.getElem?_cons_succ] at hi hj
    exact SL.two h4 hi hj (by omega) hm
/-- What has become of the world w0: nothing below B turned; there are these things. -/
structure St (B : Nat) (w0 w : World) (l : List Ob) : Prop where
  base : B ≤ w0.heap.size
  keep : Keep (fun k => B ≤ k) w0 w
  sl : SL B w l (fun _ _ => False)
theorem St.size {B : Nat} {w0 w : World} {l : List Ob} (h : St B w0 w l) : B ≤ w.heap.size := Nat.le_trans h.base h.keep.size
theorem St.start (w : World) : St w.heap.size w w [] := ⟨Nat.le_refl _, Keep.refl _ _, trivial⟩
theorem St.end {w0 w : World} {l : List Ob} (h : St w0.heap.size w0 w l) : Below w0.heap.size w0 w := h.keep.below (Nat.le_refl _) fun k hk hf => by omega
theorem St.below {B : Nat} {w0 w w' : World} {l : List Ob} (h : St B w0 w l) (k : Below w.heap.size w w') : St B w0 w' l :=
  ⟨h.base, h.keep.trans (Keep.of_below k), SL.move (G := fun _ => False) (Keep.of_below k) h.sl (fun _ h => h.elim) (fun _ _ h => h.elim)⟩
theorem St.drewN {B : Nat} {w0 w : World} {l : List Ob} (h : St B w0 w l) (n : Nat) : St B w0 (w.drewN n) l := h.below (below_drewN (Below.refl _ _) n)
theorem St.drew {B : Nat} {w0 w : World} {l : List Ob} (h : St B w0 w l) : St B w0 w.drew l := h.below ⟨rfl, rfl, rfl, Nat.le_refl _, fun _ _ => rfl⟩
theorem St.alloc {B : Nat} {w0 w : World} {l : List Ob} (h : St B w0 w l) (o : Obj) : St B w0 (w.alloc o) l := h.below ((Below.refl _ _).alloc (Nat.le_refl _) o)
/-- A new thing. -/
theorem St.add {B : Nat} {w0 w w' : World} {l : List Ob} {F : Nat → Prop} {P : Ob} (h : St B w0 w l) (k : Below w.heap.size w w') (hp : P.p w' F) (hF : ∀ x, F x → w.heap.size ≤ x) : St B w0 w' (P :: l) := by
  have h' := h.below k
  refine ⟨h'.base, h'.keep, F, hp, fun x hx => ⟨fun h => h, fun _ => ⟨fun h => h, Nat.le_trans h.size (hF x hx)⟩⟩, SL.move (G := fun _ => False) (Keep.of_below k) h.sl (fun _ h => h.elim) fun m x hx => .inr (.inr ?_)⟩
  rcases hx with hx | hx
  · exact hx.elim
  · exact hF x hx.2
/-- One of them turns, or tells of something. -/
theorem St.at {B : Nat} {w0 w : World} {l : List Ob} {i : Nat} {P : Ob} (h : St B w0 w l) (hi : l[i]? = some P) :
    ∃ F, P.p w F ∧ (∀ x, F x → x < w.heap.size) ∧ (P.m = true → ∀ x, F x → B ≤ x) ∧
      ∀ (w' : World) (F' : Nat → Prop) (P' : Ob), P.m = true → Keep F w w' → P'.p w' F' → (∀ x, F' x → F x ∨ w.heap.size ≤ x) → St B w0 w' (l.set i P') := by
  obtain ⟨F, h1, h3, h4⟩ := SL.at h.size h.sl (fun _ _ h => h.elim) hi
  exact ⟨F, h1, P.lt h1, fun hm x hx => ((h3 x hx).2 hm).2, fun w' F' P' hm k hp hF => ⟨h.base, h.keep.trans (k.mono fun x _ hx => ((h3 x hx).2 hm).2), h4 w' F' P' (fun _ => hm) (k.mono fun x _ hx => ⟨hm, hx⟩) hp hF⟩⟩
theorem St.two {B : Nat} {w0 w : World} {l : List Ob} {i j : Nat} {P Q : Ob} (h : St B w0 w l) (hi : l[i]? = some P) (hj : l[j]? = some Q) (hij : i < j) (hm : P.m = true ∨ Q.m = true := by exact .inl rfl) : ∃ F G, P.p w F ∧ Q.p w G ∧ ∀ k, F k → ¬ G k := SL.two h.sl hi hj hij hm
theorem St.sub {B : Nat} {w0 w : World} {l l' : List Ob} (h : St B w0 w l) (hs : l'.Sublist l) : St B w0 w l' := ⟨h.base, h.keep, SL.sub hs h.sl⟩
theorem St.perm {B : Nat} {w0 w : World} {l l' : List Ob} (h : St B w0 w l) (hs : l.Perm l') : St B w0 w l' := ⟨h.base, h.keep, SL.perm hs h.sl⟩
theorem St.tail {B : Nat} {w0 w : World} {l : List Ob} {P : Ob} (h : St B w0 w (P :: l)) : St B w0 w l := h.sub (List.sublist_cons_self ..)
theorem St.swap {B : Nat} {w0 w : World} {l : List Ob} {P Q : Ob} (h : St B w0 w (P :: Q :: l)) : St B w0 w (Q :: P :: l) := ⟨h.base, h.keep, SL.swap h.sl⟩
/-- What lay below B reads as it did. -/
theorem St.bs {B : Nat} {w0 w : World} {l : List Ob} (h : St B w0 w l) {a : Option Addr} {n c : Nat} {b : List UInt8} (hb : Bs w0 a n c b) (ha : ∀ q, a = some q → 0 < b.length → q.block < B) : Bs w a n c b where
  len := Sl.len hb
  cap := Sl.cap hb
  room := Sl.room hb
  nilcap := Sl.nilcap hb
  cells := fun i v hi => by
    obtain ⟨b', o, e, hc⟩ := Sl.cells hb i v hi
    have hl : 0 < b.length := by
      have := (List.getElem?_eq_some_iff.1 hi).1
      simp at this; omega
    refine ⟨b', o, e, ?_⟩
    rw [cell_of_block (w := w0) (p := ⟨b', o + i, none⟩) (h.keep.block b' (World.block_lt_of_cell? w0 _ hc) (by have := ha _ e hl; show ¬ B ≤ b'; simp at this; omega))]
    exact hc
/-- A row of one's own: a slice that may be appended to. -/
def OwO (e : TypeId) (z : Nat) (v : Value) (n : Nat) (cs : List Value) : Ob where
  m := true
  p := fun w F => w.ownsRow 0 e z v n cs ∧ (∀ g, v.ownBlock = some g → F g) ∧ ∀ k, F k → k < w.heap.size
  lt := fun h => h.2.2
  kept := fun {w w' F G} h k hd => ⟨own_kept h.1 k fun g hg => hd g (h.2.1 g hg), h.2.1, fun x hx => Nat.lt_of_lt_of_le (h.2.2 x hx) k.size⟩
/-- A variable, or a struct behind a pointer. -/
def RowO (b : Nat) (e : TypeId) (cs : List Value) : Ob where
  m := true
  p := fun w F => Row w b e cs ∧ F b ∧ ∀ k, F k → k < w.heap.size
  lt := fun h => h.2.2
  kept := fun {w w' F G} h k hd => ⟨h.1.keep k (hd b h.2.1), h.2.1, fun x hx => Nat.lt_of_lt_of_le (h.2.2 x hx) k.size⟩
/-- An arena. -/
def ArO (T e : TypeId) (p : Nat) (A : Ar) : Ob where
  m := true
  p := fun w F => ∃ v, ArAt T e w p A v ∧ (∀ k, arF p v k → F k) ∧ ∀ k, F k → k < w.heap.size
  lt := fun ⟨_, h⟩ => h.2.2
  kept := fun {w w' F G} ⟨v, h⟩ k hd => ⟨v, h.1.kept k fun x hx => hd x (h.2.1 x hx), h.2.1, fun x hx => Nat.lt_of_lt_of_le (h.2.2 x hx) k.size⟩
theorem St.row {B : Nat} {w0 w : World} {l : List Ob} {i : Nat} {b : Nat} {e : TypeId} {cs : List Value} (h : St B w0 w l) (hi : l[i]? = some (RowO b e cs)) : Row w b e cs := by
  obtain ⟨F, h1, _⟩ := h.at hi
  exact h1.1
theorem St.own {B : Nat} {w0 w : World} {l : List Ob} {i : Nat} {e : TypeId} {z : Nat} {v : Value} {n : Nat} {cs : List Value} (h : St B w0 w l) (hi : l[i]? = some (OwO e z v n cs)) : w.ownsRow 0 e z v n cs := by
  obtain ⟨F, h1, _⟩ := h.at hi
  exact h1.1
theorem St.ar {B : Nat} {w0 w : World} {l : List Ob} {i : Nat} {T e : TypeId} {p : Nat} {A : Ar} (h : St B w0 w l) (hi : l[i]? = some (ArO T e p A)) : ∃ v, ArAt T e w p A v := by
  obtain ⟨F, ⟨v, h1⟩, _⟩ := h.at hi
  exact ⟨v, h1.1⟩
/-- An arena that turns. -/
theorem St.arTo {B : Nat} {w0 w : World} {l : List Ob} {i : Nat} {T e : TypeId} {p : Nat} {A : Ar} (h : St B w0 w l) (hi : l[i]? = some (ArO T e p A)) :
    ∃ v, ArAt T e w p A v ∧ ∀ (w' : World) (A' : Ar) (v' : Value), ArAt T e w' p A' v' → Keep (arF p v) w w' → (v'.ownBlock = v.ownBlock ∨ v'.ownBlock = some w.heap.size) → St B w0 w' (l.set i (ArO T e p A')) := by
  obtain ⟨F, ⟨v, h1, h2, h3⟩, _, _, h4⟩ := h.at hi
  refine ⟨v, h1, fun w' A' v' ha k hv => h4 w' (arF p v') _ rfl (k.mono fun x _ hx => h2 x hx) ⟨v', ha, fun _ h => h, fun x hx => ha.lt hx⟩ fun x hx => ?_⟩
  rcases hx with rfl | hx
  · exact .inl (h2 _ (.inl rfl))
  · rcases hv with hv | hv
    · exact .inl (h2 _ (.inr (by rw [← hv]; exact hx)))
    · rw [hv] at hx; cases hx; exact .inr (Nat.le_refl _)
/-- A new row of one's own. -/
theorem St.addOwn {B : Nat} {w0 w w' : World} {l : List Ob} {e : TypeId} {z : Nat} {v : Value} {n : Nat} {cs : List Value} (h : St B w0 w l) (k : Below w.heap.size w w') (hp : w'.ownsRow w.heap.size e z v n cs) : St B w0 w' (OwO e z v n cs :: l) :=
  h.add (F := fun x => v.ownBlock = some x) k ⟨own_base hp (Nat.zero_le _), fun _ h => h, fun x hx => (own_block_lt hp hx).2⟩ fun x hx => (own_block_lt hp hx).1
theorem St.addRow {B : Nat} {w0 w : World} {l : List Ob} (h : St B w0 w l) (e : TypeId) (cs : List Value) : St B w0 (w.alloc (.cells cs.toArray e (0, 0))) (RowO w.heap.size e cs :: l) :=
  h.add (F := fun x => x = w.heap.size) ((Below.refl _ _).alloc (Nat.le_refl _) _) ⟨Row.made _ _ _, rfl, fun x hx => by rw [hx]; simp⟩ fun x hx => by rw [hx]; exact Nat.le_refl _
end Go.Own
