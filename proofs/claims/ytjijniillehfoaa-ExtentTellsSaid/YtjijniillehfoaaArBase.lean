/- Arenas in memory: a pointer's block and the block of its bytes; and what reading and writing do to the bytes, in plain words. -/
import Derived.Test.YtjijniillehfoaaFlow2
import Derived.Deep.Draws
namespace Go.Own
open Go Go.RowKit
/-- An arena: base, capacity, bytes. -/
structure Ar where
  base : Nat
  cap : Nat
  b : List UInt8
/-- Bytes laid at a place. -/
def lay (l : List UInt8) (i : Nat) (b : List UInt8) : List UInt8 := l.take i ++ b ++ l.drop (i + b.length)
theorem lay_length (l b : List UInt8) (i : Nat) (h : i + b.length ≤ l.length) : (lay l i b).length = l.length := by
  unfold lay; simp only [List.length_append, List.length_take, List.length_drop]; omega
/-- Of the block p an arena is told: base, capacity, and v, the slice of its bytes. -/
structure ArAt (T e : TypeId) (w : World) (p : Nat) (A : Ar) (v : Value) : Prop where
  row : Row w p T [.int .u64 A.base, .int .i64 A.cap, v]
  own : w.ownsRow 0 e 1 v A.b.length (A.b.map bv)
  hbase : A.base ≤ 4611686018427387904
  hmod : A.base % 16 = 0
  hcap : A.cap ≤ 16384
  hmin : 1024 ≤ A.cap
  hlen : A.b.length ≤ A.cap
/-- The blocks of an arena. -/
def arF (p : Nat) (v : Value) (k : Nat) : Prop := k = p ∨ v.ownBlock = some k
theorem own_block_lt {w : World} {base z n : Nat} {e : TypeId} {v : Value} {l : List Value} (h : w.ownsRow base e z v n l) {g : Nat} (hg : v.ownBlock = some g) : base ≤ g ∧ g < w.heap.size := h.lt g hg
theorem own_kept {F : Nat → Prop} {w w' : World} {base z n : Nat} {e : TypeId} {v : Value} {l : List Value} (h : w.ownsRow base e z v n l) (k : Keep F w w') (hf : ∀ g, v.ownBlock = some g → ¬ F g) : w'.ownsRow base e z v n l := by
  obtain ⟨h1, h2⟩ := h
  refine ⟨h1, ?_⟩
  rcases h2 with h2 | ⟨g, cap, cur, rfl, a1, a2, a3⟩
  · exact .inl h2
  · exact .inr ⟨g, cap, cur, rfl, a1, (k.block g (Array.getElem?_eq_some_iff.1 a2).1 (hf g rfl)).trans a2, a3⟩
theorem ArAt.kept {T e : TypeId} {F : Nat → Prop} {w w' : World} {p : Nat} {A : Ar} {v : Value} (h : ArAt T e w p A v) (k : Keep F w w') (hf : ∀ x, arF p v x → ¬ F x) : ArAt T e w' p A v :=
  ⟨h.row.keep k (hf p (.inl rfl)), own_kept h.own k (fun g hg => hf g (.inr hg)), h.hbase, h.hmod, h.hcap, h.hmin, h.hlen⟩
theorem ArAt.below {T e : TypeId} {w w' : World} {p : Nat} {A : Ar} {v : Value} (h : ArAt T e w p A v) (k : Below w.heap.size w w') : ArAt T e w' p A v :=
  h.kept (F := fun _ => False) (.of_below k) fun _ _ h => h
theorem ArAt.drew {T e : TypeId} {w : World} {p : Nat} {A : Ar} {v : Value} (h : ArAt T e w p A v) : ArAt T e w.drew p A v := ⟨h.row, h.own, h.hbase, h.hmod, h.hcap, h.hmin, h.hlen⟩
theorem ArAt.drewN {T e : TypeId} {w : World} {p : Nat} {A : Ar} {v : Value} (h : ArAt T e w p A v) (n : Nat) : ArAt T e (w.drewN n) p A v := ⟨h.row, h.own, h.hbase, h.hmod, h.hcap, h.hmin, h.hlen⟩
theorem Keep.drewN {F : Nat → Prop} {a w : World} (h : Keep F a w) (n : Nat) : Keep F a (w.drewN n) := ⟨h.os, h.tape, h.output, h.size, h.block⟩
theorem below_drewN {B : Nat} {a w : World} (h : Below B a w) (n : Nat) : Below B a (w.drewN n) := ⟨h.os, h.tape, h.output, h.size, h.block⟩
theorem ArAt.lt {T e : TypeId} {w : World} {p : Nat} {A : Ar} {v : Value} (h : ArAt T e w p A v) {k : Nat} (hk : arF p v k) : k < w.heap.size := by
  rcases hk with rfl | hk
  · exact h.row.lt
  · exact (own_block_lt h.own hk).2
theorem row_ne {w : World} {a b : Nat} {e e' : TypeId} {l l' : List Value} (h : Row w a e l) (h' : Row w b e' l') (hne : e ≠ e') : a ≠ b := by
  rintro rfl
  unfold Row at h h'
  rw [h] at h'
  simp only [Option.some.injEq, Obj.cells.injEq] at h'
  exact hne h'.2.1
/-- The bytes' slice as it stands. -/
theorem ArAt.form {T e : TypeId} {w : World} {p : Nat} {A : Ar} {v : Value} (h : ArAt T e w p A v) :
    ∃ a c, v = .slice a A.b.length c ∧ Bs w a A.b.length c A.b ∧ (∀ q, a = some q → v.ownBlock = some q.block) ∧ c ≤ 9223372036854775807 := by
  have h1 := h.own
  obtain ⟨a, c, rfl, _, hs⟩ := Sl.of_owned h1
  refine ⟨a, c, rfl, hs, fun q hq => ?_, hs.room⟩
  obtain ⟨_, h2⟩ := h1
  rcases h2 with ⟨h2, _⟩ | ⟨g, cap, cur, h2, _⟩
  · injection h2 with e1; rw [e1] at hq; cases hq
  · injection h2 with e1; rw [e1] at hq; cases hq; rw [e1]; rfl
theorem ArAt.apart {T e : TypeId} {w : World} {p : Nat} {A : Ar} {v : Value} (hne : e ≠ T) (h : ArAt T e w p A v) : ¬ v.ownBlock = some p := by
  intro hv
  obtain ⟨_, h2⟩ := h.own
  rcases h2 with ⟨rfl, _⟩ | ⟨g, cap, cur, rfl, _, a2, _⟩
  · cases hv
  · have h1 := h.row
    obtain rfl : g = p := by simpa [Value.ownBlock] using hv
    unfold Row at h1
    rw [a2] at h1
    simp only [Option.some.injEq, Obj.cells.injEq] at h1
    exact hne h1.2.1
/-- A place in the bytes. -/
theorem ArAt.at_ {T e : TypeId} {w : World} {p : Nat} {A : Ar} {a : Option Addr} {n c : Nat} (h : ArAt T e w p A (.slice a n c)) (i m : Nat) (hi : i + m ≤ A.b.length) (hm : 0 < m) :
    ∃ g, a = some ⟨g, 0, none⟩ := by
  obtain ⟨_, h2⟩ := h.own
  rcases h2 with ⟨h2, h3⟩ | ⟨g, cap, cur, h2, _⟩
  · rw [h3] at hi; simp at hi; omega
  · cases h2; exact ⟨g, rfl⟩
theorem setRow_keep {w : World} {g : Nat} {t : TypeId} {old : Array Value} (c : Array Value) (hg : w.heap[g]? = some (.cells old t (0, 0))) : Keep (· = g) w (w.setRow g c) :=
  ⟨rfl, rfl, rfl, by simp, fun k _ hk => setRow_other w g k c hk⟩
/-- Cells laid into a row of one's own. -/
theorem own_splice {w : World} {base n : Nat} {e : TypeId} {g cap : Nat} {l : List Value} (h : w.ownsRow base e 1 (.slice (some ⟨g, 0, none⟩) n cap) n l) (o : Nat) (cs : List Value) (hfit : o + cs.length ≤ n) :
    ∃ cur : Array Value, w.heap[g]? = some (.cells cur e (0, 0)) ∧ o + cs.length ≤ cur.size ∧
      (w.setRow g (cur.toList.take o ++ cs ++ cur.toList.drop (o + cs.length)).toArray).ownsRow base e 1 (.slice (some ⟨g, 0, none⟩) n cap) n (l.take o ++ cs ++ l.drop (o + cs.length)) := by
  obtain ⟨h1, h2⟩ := h
  rcases h2 with ⟨h2, _⟩ | ⟨g', cap', cur, h2, a1, a2, a3, a4, a5, a6⟩
  · cases h2
  · cases h2
    simp only [Nat.mul_one] at h1 a5 a6
    refine ⟨cur, a2, by omega, ?_, .inr ⟨g, cap, _, rfl, a1, setRow_heap w g cur _ e (0, 0) a2, a3, a4, ?_, ?_⟩⟩
    · simp only [List.length_append, List.length_take, List.length_drop, h1, Nat.mul_one]; omega
    · simp only [List.size_toArray, List.length_append, List.length_take, List.length_drop, Array.length_toList, Nat.mul_one]; omega
    · simp only [Nat.mul_one]
      rw [← a6]
      have hl : cur.toList.length = cur.size := Array.length_toList
      apply List.ext_getElem?
      intro i
      simp only [List.getElem?_take, List.getElem?_append, List.length_append, List.length_take, List.getElem?_drop, hl]
      grind
theorem map_lay (l b : List UInt8) (i : Nat) : (lay l i b).map bv = (l.map bv).take i ++ b.map bv ++ (l.map bv).drop (i + (b.map bv).length) := by
  unfold lay; simp [List.map_take, List.map_drop]
/-- 'copy(to, b)', 'to' a piece of the arena. -/
theorem ArAt.copied {T e : TypeId} {w : World} {p g : Nat} {A : Ar} {n cap : Nat} (hne : e ≠ T) (h : ArAt T e w p A (.slice (some ⟨g, 0, none⟩) n cap)) (i : Nat) (b : List UInt8) (hi : i + b.length ≤ A.b.length) :
    ∃ cur : Array Value, w.heap[g]? = some (.cells cur e (0, 0)) ∧ i + b.length ≤ cur.size ∧
      ArAt T e (w.setRow g (cur.toList.take i ++ b.map bv ++ cur.toList.drop (i + (b.map bv).length)).toArray) p { A with b := lay A.b i b } (.slice (some ⟨g, 0, none⟩) n cap) ∧
      Keep (· = g) w (w.setRow g (cur.toList.take i ++ b.map bv ++ cur.toList.drop (i + (b.map bv).length)).toArray) := by
  have hn : n = A.b.length := by
    obtain ⟨a, c, hv, _⟩ := h.form
    cases hv; rfl
  subst hn
  obtain ⟨cur, hg, hc, ho⟩ := own_splice h.own i (b.map bv) (by simpa using hi)
  have hk := setRow_keep (cur.toList.take i ++ b.map bv ++ cur.toList.drop (i + (b.map bv).length)).toArray hg
  have hpg : p ≠ g := by
    rintro rfl
    have h1 := h.row
    unfold Row at h1
    rw [hg] at h1
    simp only [Option.some.injEq, Obj.cells.injEq] at h1
    exact hne h1.2.1
  have hll := lay_length A.b b i hi
  refine ⟨cur, hg, by simpa using hc, ⟨h.row.keep hk hpg, ?_, h.hbase, h.hmod, h.hcap, h.hmin, by simpa [hll] using h.hlen⟩, hk⟩
  exact ownsRow_map ho hll.symm (map_lay A.b b i).symm
/-- 'copy(to, b)' at a walk's list. -/
theorem copy_at {P : Program} {ops : Array Oper} {rest : List Oper} {o : Oper} {a : Act} {w : World} {Q : Exit → Act → World → Prop} (hgd : o.guard = none) (x y : Operand) (t e T : TypeId)
    (ho : o.op = .call { callee := .builtin .copy, args := #[x, y], argTypes := #[t, t] }) (hu : P.underlying t = some (.slice e)) (hs : (P.info? e).map (·.size) = some 1) (hne : e ≠ T)
    {p g n cap : Nat} {A : Ar} (h : ArAt T e w p A (.slice (some ⟨g, 0, none⟩) n cap)) (i dLen dCap : Nat) (hx : a.eval x = .slice (some ⟨g, i, none⟩) dLen dCap)
    (ad : Option Addr) (m c : Nat) (b : List UInt8) (hy : a.eval y = .slice ad m c) (hb : Bs w ad m c b) (hm : m = dLen) (h0 : 0 < m) (hi : i + m ≤ A.b.length)
    (hk : ∀ w', ArAt T e w' p { A with b := lay A.b i b } (.slice (some ⟨g, 0, none⟩) n cap) → Keep (· = g) w w' → wpList P ops Q rest (a.put o.dst (.int .i64 b.length)) w') : wpList P ops Q (o :: rest) a w := by
  have hbl := hb.len
  obtain ⟨b0, o0, rfl, _⟩ := Sl.some hb (by omega) (by decide)
  obtain ⟨cur, hg, hc, h1, h2⟩ := h.copied hne i b (by omega)
  have hrun := run_copy_row (P := P) w t t o.type e g i dLen dCap ⟨b0, o0, none⟩ m c cur e (b.map bv) hu hs hg (by show _ = min m dLen; rw [← hm, Nat.min_self, List.length_map, hbl]) (fun j v hj => by
    obtain ⟨b1, o1, e1, hc1⟩ := Sl.cells hb j v hj
    cases e1
    have : (⟨b0, o0, none⟩ : Addr).add j = ⟨b0, o0 + j, none⟩ := by unfold Addr.add; split <;> simp_all
    rw [this]; exact hc1) (by simpa using hc) (bv_one b)
  refine wpList_plain hgd fun K hK => ?_
  unfold Oper.wp execOp
  simp only [ho, resolve, invoke, builtin, Sem.run_bind, Sem.run_pure, Result.andThen_ok, List.map_toArray, List.map_cons, List.map_nil, hx, hy, hrun]
  refine hK _ _ ?_
  have := hk _ h1 h2
  simpa [goInt] using this
theorem copy_none {P : Program} {ops : Array Oper} {rest : List Oper} {o : Oper} {a : Act} {w : World} {Q : Exit → Act → World → Prop} (hgd : o.guard = none) (x y : Operand) (t e : TypeId)
    (ho : o.op = .call { callee := .builtin .copy, args := #[x, y], argTypes := #[t, t] }) (hu : P.underlying t = some (.slice e)) (hs : (P.info? e).map (·.size) = some 1)
    (d : Option Addr) (dLen dCap : Nat) (hx : a.eval x = .slice d dLen dCap) (ad : Option Addr) (m c : Nat) (hy : a.eval y = .slice ad m c) (h0 : m = 0 ∨ dLen = 0)
    (hk : wpList P ops Q rest (a.put o.dst (.int .i64 0)) w) : wpList P ops Q (o :: rest) a w := by
  have hrun := run_copy_none (P := P) w t t o.type e d ad dLen dCap m c hu hs (by rcases h0 with h | h <;> simp [h])
  refine wpList_plain hgd fun K hK => ?_
  unfold Oper.wp execOp
  simp only [ho, resolve, invoke, builtin, Sem.run_bind, Sem.run_pure, Result.andThen_ok, List.map_toArray, List.map_cons, List.map_nil, hx, hy, hrun]
  exact hK _ _ (by simpa [goInt] using hk)
/-- 'append(s, make([]T, m)...)': just that row turns. -/
theorem app_zeros_own {P : Program} {w : World} {ops : Array Oper} {rest : List Oper} {o : Oper} {a : Act} {Q : Exit → Act → World → Prop} (hgd : Region.wanted o (yielded ops a.tmps) = true) (s x : Operand) (t ti : TypeId)
    (ho : o.op = .call { callee := .builtin .append, args := #[s, x], argTypes := #[t, ti] })
    (base : Nat) (e : TypeId) (z : Value) (bytes : Nat) (ht : P.underlying t = some (.slice e)) {k : IntKind} (hti : P.underlying ti = some (.int k)) (hi : Info P e z 1 bytes) (hz : z.cells = #[z]) (hz1 : z.oneCell' = true) (hb0 : 0 < bytes)
    (v : Value) (n : Nat) (xs : List Value) (hs : a.eval s = v) (hown : w.ownsRow base e 1 v n xs)
    (kx : IntKind) (mi : Int) (m : Nat) (hm : mi = m) (hx : a.eval x = .int kx mi)
    (hbytes : (n + m) * bytes ≤ 140737488355328) (hbase : base ≤ w.heap.size)
    (h : ∀ v' w', w'.ownsRow base e 1 v' (n + m) (xs ++ List.replicate m z) → Keep (fun k => v.ownBlock = some k) w w' → (v'.ownBlock = v.ownBlock ∨ v'.ownBlock = some w.heap.size) → wpList P ops Q rest (a.put o.dst v') w') : wpList P ops Q (o :: rest) a w := by
  refine at_wanted hgd fun K hK => ?_
  obtain ⟨i, hi, iz, his, hib⟩ := hi.parts
  subst hm
  have hr := run_append_zeros (P := P) w base t ti o.type e i z 1 bytes ht hti hi iz his hib (by rw [hz]; rfl) (by decide) hb0 v n xs hown kx m (by rw [hz, zeroCells_one]; intro u hu; rw [List.eq_of_mem_replicate hu]; exact hz1) hbytes hbase
  obtain ⟨v', w', h1, h2, h3, h4⟩ := hr
  rw [hz, zeroCells_one] at h2
  unfold Oper.wp
  simp [execOp, ho, resolve, invoke, builtin, hs, hx, h1, Result.andThen]
  exact hK _ _ (h _ _ h2 ⟨h3.os, h3.tape, h3.output, h3.size, fun k hk hne => h3.block k hk (fun e => hne e.symm)⟩ h4)
end Go.Own
