/- Texts of the proof of 'AllocPlays', part 3: words on memory, contracts of functions, plain laws. No condition. -/
import Derived.Test.YtenbpbnffnodhaaMgAllocPlays1
import Derived.Test.YtenbpbnffnodhaaMgAllocPlays2
import Derived.Maps.AppendAt
import Derived.Laws.OwnMore
import Derived.WalkKit
import Derived.DeepKeys4
import Derived.WideKeyElems
import Derived.Carry
import Derived.Maps.OwnSet
set_option linter.unusedSimpArgs false
set_option linter.unusedVariables false
/- The arena's contracts, all cases in one, beside whatever else there is. -/
namespace Go.Proofs.Ytenbpbnffnodhaa
open Go Go.RowKit Go.Own
set_option linter.unusedVariables false
abbrev ArT (p : Nat) (A : Ar) : Ob := ArO 199 5 p A
abbrev OwB (v : Value) (b : List UInt8) : Ob := OwO 5 1 v b.length (b.map bv)
section
variable {B : Nat} {w0 w : World} {l : List Ob} {i p : Nat} {A : Ar}
theorem errV_0 : errV 0 = .nilIface := by unfold errV; rw [if_pos rfl]
theorem ar_Base (h : St B w0 w l) (hi : l[i]? = some (ArT p A)) : Calls Try.prog 46 #[arP p] w fun e w' => e = .returned (.int .u64 A.base) ∧ w = w' := by
  obtain ⟨v, ha⟩ := h.ar hi
  exact arena_Base w p A v ha
theorem ar_Len (h : St B w0 w l) (hi : l[i]? = some (ArT p A)) : Calls Try.prog 44 #[arP p] w fun e w' => e = .returned (.int .i64 A.b.length) ∧ w = w' := by
  obtain ⟨v, ha⟩ := h.ar hi
  exact arena_Len w p A v ha
theorem ar_Cap (h : St B w0 w l) (hi : l[i]? = some (ArT p A)) : Calls Try.prog 45 #[arP p] w fun e w' => e = .returned (.int .i64 A.cap) ∧ w = w' := by
  obtain ⟨v, ha⟩ := h.ar hi
  exact arena_Cap w p A v ha
/-- The word at an offset that is there. -/
theorem ar_WordAt (h : St B w0 w l) (hi : l[i]? = some (ArT p A)) (addr : Int) (o : Nat) (ho : addr = A.base + o) (hf : o + 8 ≤ A.b.length) :
    Calls Try.prog 146 #[arP p, .int .u64 addr] w fun e w' => e = .returned (.tuple #[.int .u64 (numAt A.b o : Nat), .nilIface]) ∧ w = w' := by
  obtain ⟨v, ha⟩ := h.ar hi
  exact arena_Word_ok w p A v ha addr o ho hf
theorem ar_WordNo (h : St B w0 w l) (hi : l[i]? = some (ArT p A)) (addr : Int) (o : Nat) (ho : addr = A.base + o) (h2 : o ≤ 1000000) (hf : A.b.length < o + 8) :
    Calls Try.prog 146 #[arP p, .int .u64 addr] w fun e w' => e = .returned (.tuple #[.int .u64 0, .iface 183 (.int .i64 2)]) ∧ w = w' := by
  obtain ⟨v, ha⟩ := h.ar hi
  have hb := ha.hbase
  exact arena_Word_bad w p A v ha addr (by omega) (by omega) (by omega)
/-- A word laid at an offset that is there. -/
theorem ar_SetAt (h : St B w0 w l) (hi : l[i]? = some (ArT p A)) (addr : Int) (o : Nat) (ho : addr = A.base + o) (hf : o + 8 ≤ A.b.length) (x : Int) (X : Nat) (hx : x = X) (hX : X < 18446744073709551616) :
    Calls Try.prog 138 #[arP p, .int .u64 addr, .int .u64 x] w fun e w' => e = .returned .nilIface ∧ St B w0 w' (l.set i (ArT p { A with b := layAt A.b o X })) := by
  obtain ⟨v, ha, hto⟩ := h.arTo hi
  refine (arena_SetWord_ok w p A v ha addr o ho x X hx hX hf).mono ?_
  rintro e w' ⟨rfl, h2, k2⟩
  exact ⟨rfl, hto w' _ v h2 (k2.mono fun _ _ h => .inr h) (.inl rfl)⟩
theorem ar_Grow (h : St B w0 w l) (hi : l[i]? = some (ArT p A)) (n : Int) :
    Calls Try.prog 137 #[arP p, .int .i64 n] w fun e w' => e = .returned (errV (A.grow n).1) ∧ St B w0 w' (l.set i (ArT p (A.grow n).2)) := by
  obtain ⟨v, ha, hto⟩ := h.arTo hi
  unfold Ar.grow
  split
  · rename_i ht
    refine (arena_Grow_neg w p n ht).mono ?_
    rintro e w' ⟨rfl, hb⟩
    exact ⟨rfl, hto w' _ v (ha.below hb) (Keep.of_below hb) (.inl rfl)⟩
  · rename_i ht
    split
    · rename_i hc
      refine (arena_Grow_full w p A v ha n (by omega) hc).mono ?_
      rintro e w' ⟨rfl, hb⟩
      exact ⟨rfl, hto w' _ v (ha.below hb) (Keep.of_below hb) (.inl rfl)⟩
    · rename_i hc
      refine (arena_Grow_ok w p A v ha n n.toNat (by omega) (by omega)).mono ?_
      rintro e w' ⟨v', rfl, h2, k2, g2⟩
      exact ⟨rfl, hto w' _ v' h2 k2 g2⟩
/-- A new arena. -/
def NewA (B : Nat) (w0 : World) (l : List Ob) (A : Ar) (e : Ending) (w' : World) : Prop := ∃ q, e = .returned (arP q) ∧ St B w0 w' (ArT q A :: l)
theorem made_St {A' : Ar} (h : St B w0 w l) {e : Ending} {w' : World} (hm : MadeAr A' w e w') : NewA B w0 l A' e w' := by
  obtain ⟨q, v, rfl, ha, hF, hb⟩ := hm
  exact ⟨q, rfl, h.add (F := arF q v) hb ⟨v, ha, fun _ h => h, fun x hx => ha.lt hx⟩ hF⟩
theorem ar_Arena (h : St B w0 w l) (b : Int) (bn : Nat) (hB : b = bn) (c : Int) (C : Nat) (hC : c = C) (h1 : bn % 16 = 0) (h2 : bn ≤ 4611686018427387904) (h3 : 1024 ≤ C) (h4 : C ≤ 16384)
    (a : Option Addr) (n cp : Nat) (x : List UInt8) (hb : Bs w a n cp x) (hl : x.length ≤ C) : Calls Try.prog 59 #[.int .u64 b, .int .i64 c, .slice a n cp] w (NewA B w0 l ⟨bn, C, x⟩) :=
  (law_Arena w b bn hB c C hC h1 h2 h3 h4 a n cp x hb hl).mono fun e w' hm => made_St h hm
end
end Go.Proofs.Ytenbpbnffnodhaa

/- 'append' onto a row of one's own: just that row turns, and where the new one lies. -/
namespace Go.Own
open Go Go.RowKit
theorem add_none' (b o q : Nat) : (⟨b, o, none⟩ : Addr).add q = ⟨b, o + q, none⟩ := by unfold Addr.add; split <;> simp_all
section
variable {P : Program}
theorem run_app {w : World} (base : Nat) (t ty e : TypeId) (z : Value) (size bytes : Nat) (ht : P.underlying t = some (.slice e)) (hi : Info P e z size bytes) (hzs : z.cells.size = size) (hsz : 0 < size)
    (v : Value) (n : Nat) (xs : List Value) (hown : w.ownsRow base e size v n xs) (ad : Option Addr) (m c : Nat) (news : List Value) (hb : Sl w ad m c size news) (h1 : ∀ u ∈ news, u.oneCell' = true)
    (hbytes : (n + m) * bytes ≤ 140737488355328) (h63 : n + m ≤ 9223372036854775807) (hbase : base ≤ w.heap.size) :
    ∃ v' w', (Builtin.append_ #[t, t] ty #[v, .slice ad m c]).run P w = .ok v' w' ∧ w'.ownsRow base e size v' (n + m) (xs ++ news) ∧ Keep (fun k => v.ownBlock = some k) w w' ∧ (v'.ownBlock = v.ownBlock ∨ v'.ownBlock = some w.heap.size) := by
  obtain ⟨i, hi, hz, his, hib⟩ := hi.parts
  cases ad with
  | none =>
    have hc := hb.nilcap rfl
    have hcap := hb.cap
    obtain rfl : m = 0 := by omega
    subst hc
    have hnil : news = [] := List.eq_nil_of_length_eq_zero (by simpa using hb.len)
    subst hnil
    exact ⟨v, w, run_append_owned_none (P := P) w base t ty e i size ht hi v n xs hown, by simpa using hown, Keep.refl _ _, .inl rfl⟩
  | some p =>
    obtain ⟨v', w', hrun, h2, h3, _, h5⟩ := run_append_own_at (P := P) w base t ty e i z size bytes ht hi hz his hib hzs hsz v n xs hown p m c news hb.len (fun j u hj => by
      obtain ⟨b, o, e1, hc⟩ := hb.cells j u hj
      cases e1
      rw [add_none']; exact hc) h1 (by simp only [maxLen]; exact h63) hbytes hbase
    exact ⟨v', w', hrun, h2, ⟨h3.os, h3.tape, h3.output, h3.size, fun k hk hne => h3.block k hk fun e => hne e.symm⟩, h5⟩
/-- At an operation. -/
theorem app_at {w : World} {o : Oper} {a : Act} {K : Act → World → Prop} {Q : Exit → Act → World → Prop} (s x : Operand) (t : TypeId)
    (ho : o.op = .call { callee := .builtin .append, args := #[s, x], argTypes := #[t, t] })
    (base : Nat) (e : TypeId) (z : Value) (size bytes : Nat) (ht : P.underlying t = some (.slice e)) (hi : Info P e z size bytes) (hzs : z.cells.size = size) (hsz : 0 < size)
    (v : Value) (n : Nat) (xs : List Value) (hs : a.eval s = v) (hown : w.ownsRow base e size v n xs)
    (ad : Option Addr) (m c : Nat) (news : List Value) (hx : a.eval x = .slice ad m c) (hb : Sl w ad m c size news) (h1 : ∀ u ∈ news, u.oneCell' = true)
    (hbytes : (n + m) * bytes ≤ 140737488355328) (h63 : n + m ≤ 9223372036854775807) (hbase : base ≤ w.heap.size)
    (h : ∀ v' w', w'.ownsRow base e size v' (n + m) (xs ++ news) → Keep (fun k => v.ownBlock = some k) w w' → (v'.ownBlock = v.ownBlock ∨ v'.ownBlock = some w.heap.size) → K (a.put o.dst v') w') : o.wp P a w K Q := by
  obtain ⟨v', w', hrun, h2, h3, h4⟩ := run_app (P := P) base t o.type e z size bytes ht hi hzs hsz v n xs hown ad m c news hb h1 hbytes h63 hbase
  unfold Oper.wp
  simp [execOp, ho, resolve, invoke, builtin, hs, hx, hrun, Result.andThen]
  exact h _ _ h2 h3 h4
/-- In a walk. -/
theorem app_in {w : World} {ops : Array Oper} {rest : List Oper} {o : Oper} {a : Act} {Q : Exit → Act → World → Prop} (hgd : Region.wanted o (yielded ops a.tmps) = true) (s x : Operand) (t : TypeId)
    (ho : o.op = .call { callee := .builtin .append, args := #[s, x], argTypes := #[t, t] })
    (base : Nat) (e : TypeId) (z : Value) (size bytes : Nat) (ht : P.underlying t = some (.slice e)) (hi : Info P e z size bytes) (hzs : z.cells.size = size) (hsz : 0 < size)
    (v : Value) (n : Nat) (xs : List Value) (hs : a.eval s = v) (hown : w.ownsRow base e size v n xs)
    (ad : Option Addr) (m c : Nat) (news : List Value) (hx : a.eval x = .slice ad m c) (hb : Sl w ad m c size news) (h1 : ∀ u ∈ news, u.oneCell' = true)
    (hbytes : (n + m) * bytes ≤ 140737488355328) (h63 : n + m ≤ 9223372036854775807) (hbase : base ≤ w.heap.size)
    (h : ∀ v' w', w'.ownsRow base e size v' (n + m) (xs ++ news) → Keep (fun k => v.ownBlock = some k) w w' → (v'.ownBlock = v.ownBlock ∨ v'.ownBlock = some w.heap.size) → wpList P ops Q rest (a.put o.dst v') w') : wpList P ops Q (o :: rest) a w :=
  at_wanted hgd fun _ hK => app_at s x t ho base e z size bytes ht hi hzs hsz v n xs hs hown ad m c news hx hb h1 hbytes h63 hbase fun v' w' h2 h3 h4 => hK _ _ (h v' w' h2 h3 h4)
end
end Go.Own

/- More on rows of one's own. -/
namespace Go.Own
open Go Go.RowKit
theorem own_some {w : World} {B z n : Nat} {e : TypeId} {v : Value} {l : List Value} (h : w.ownsRow B e z v n l) (h0 : 0 < l.length) :
    ∃ g cap cur, v = .slice (some ⟨g, 0, none⟩) n cap ∧ B ≤ g ∧ w.heap[g]? = some (.cells cur e (0, 0)) ∧ n ≤ cap ∧ cap ≤ 9223372036854775807 ∧ cur.size = cap * z ∧ cur.toList.take (n * z) = l := by
  obtain ⟨h1, h2⟩ := h
  rcases h2 with ⟨rfl, h2⟩ | ⟨g, cap, cur, a0, a1, a2, a3, a4, a5, a6⟩
  · subst h2; simp at h1; subst h1; simp at h0
  · exact ⟨g, cap, cur, a0, a1, a2, a3, a4, a5, a6⟩
end Go.Own

/- 'b[i:j]' of bytes: some slice that reads as the piece, whatever the capacity. -/
namespace Go.Own
open Go Go.RowKit
section
variable {P : Program} {t e : TypeId} (ht : P.underlying t = some (.slice e)) (he : (P.info? e).map (·.size) = some 1)
include ht he
end
theorem Bs.drewN {w : World} {a : Option Addr} {n c : Nat} {l : List UInt8} (h : Bs w a n c l) (k : Nat) : Bs (w.drewN k) a n c l := Sl.keep (F := fun _ => False) h ((Keep.refl _ w).drewN k) fun _ _ h => h
end Go.Own

/- Disks in plain words: sectors that stand, writes that wait. No program. -/
namespace Go.Own
/-- Sectors that stand, writes that wait, whether the power is off, how many writes are left. -/
structure Dk where
  L : List (List UInt8)
  wait : List (Nat × List UInt8)
  off : Bool
  left : Int
def Secs (L : List (List UInt8)) : Prop := ∀ s ∈ L, s.length = 512
def Dk.cut (D : Dk) (n : Int) : Dk := { D with left := max n (-1) }
/-- A disk as it may be. -/
structure Dk.Good (D : Dk) : Prop where
  secs : Secs D.L
  many : 2 ≤ D.L.length ∧ D.L.length ≤ 128
  waits : ∀ x ∈ D.wait, x.1 < D.L.length ∧ x.2.length = 512
  left : -1 ≤ D.left ∧ D.left ≤ 9223372036854775807
theorem Dk.Good.cut {D : Dk} (h : D.Good) (n : Int) (hn : n ≤ 9223372036854775807) : (D.cut n).Good := ⟨h.secs, h.many, h.waits, by show -1 ≤ max n (-1) ∧ max n (-1) ≤ _; omega⟩
end Go.Own

namespace Go.Proofs.Ytenbpbnffnodhaa
open Go Go.RowKit Go.Own
set_option linter.unusedVariables false
/-- A write that waits, and the slice of its bytes. -/
structure Wt where
  i : Nat
  b : List UInt8
  v : Value
def Wt.cells (x : Wt) : List Value := [.int .i64 x.i, x.v]
def Wt.of (x : Wt) : Nat × List UInt8 := (x.i, x.b)
/-- Of the block p a disk is told. -/
structure DkAt (w : World) (p : Nat) (D : Dk) (vb vw : Value) (it : List Wt) : Prop where
  row : Row w p 189 [vb, vw, .bool D.off, .int .i64 D.left]
  ownb : w.ownsRow 0 5 1 vb (512 * D.L.length) (D.L.flatten.map bv)
  ownw : w.ownsRow 0 192 2 vw it.length (it.map Wt.cells).flatten
  wait : D.wait = it.map Wt.of
  items : ∀ x ∈ it, w.ownsRow 0 5 1 x.v 512 (x.b.map bv) ∧ x.v.ownBlock ≠ vb.ownBlock
  good : D.Good
def dkF (p : Nat) (vb vw : Value) (it : List Wt) (k : Nat) : Prop := k = p ∨ vb.ownBlock = some k ∨ vw.ownBlock = some k ∨ ∃ x ∈ it, x.v.ownBlock = some k
/-- A disk in memory, all of its blocks among F. -/
def DkRep (w : World) (p : Nat) (D : Dk) (F : Nat → Prop) : Prop := ∃ vb vw it, DkAt w p D vb vw it ∧ ∀ k, dkF p vb vw it k → F k
theorem DkAt.kept {F : Nat → Prop} {w w' : World} {p : Nat} {D : Dk} {vb vw : Value} {it : List Wt} (h : DkAt w p D vb vw it) (k : Keep F w w') (hf : ∀ x, dkF p vb vw it x → ¬ F x) : DkAt w' p D vb vw it :=
  ⟨h.row.keep k (hf p (.inl rfl)), own_kept h.ownb k (fun g hg => hf g (.inr (.inl hg))), own_kept h.ownw k (fun g hg => hf g (.inr (.inr (.inl hg)))), h.wait,
   fun x hx => ⟨own_kept (h.items x hx).1 k (fun g hg => hf g (.inr (.inr (.inr ⟨x, hx, hg⟩)))), (h.items x hx).2⟩, h.good⟩
theorem DkAt.lt {w : World} {p : Nat} {D : Dk} {vb vw : Value} {it : List Wt} (h : DkAt w p D vb vw it) {k : Nat} (hk : dkF p vb vw it k) : k < w.heap.size := by
  rcases hk with rfl | hk | hk | ⟨x, hx, hk⟩
  · exact h.row.lt
  · exact (own_block_lt h.ownb hk).2
  · exact (own_block_lt h.ownw hk).2
  · exact (own_block_lt (h.items x hx).1 hk).2
theorem DkRep.kept {F G : Nat → Prop} {w w' : World} {p : Nat} {D : Dk} (h : DkRep w p D F) (k : Keep G w w') (hf : ∀ x, F x → ¬ G x) : DkRep w' p D F := by
  obtain ⟨vb, vw, it, h, hF⟩ := h
  exact ⟨vb, vw, it, h.kept k fun x hx => hf x (hF x hx), hF⟩
theorem DkRep.below {F : Nat → Prop} {w w' : World} {p : Nat} {D : Dk} (h : DkRep w p D F) (k : Below w.heap.size w w') : DkRep w' p D F := by
  obtain ⟨vb, vw, it, h, hF⟩ := h
  exact ⟨vb, vw, it, h.kept (F := fun _ => False) (.of_below k) fun _ _ h => h, hF⟩
theorem DkRep.good {F : Nat → Prop} {w : World} {p : Nat} {D : Dk} (h : DkRep w p D F) : D.Good := by
  obtain ⟨vb, vw, it, h, hF⟩ := h; exact h.good
theorem mkBytes (w : World) (m : Int) (n : Nat) (hm : m = n) (hn : n ≤ 281474976710656) :
    (Instr.makeSlice 31 (.int .i64 m) (.int .i64 m)).run Try.prog w = .ok (.slice (some ⟨w.heap.size, 0, none⟩) n n) (w.alloc (.cells ((List.replicate n (0 : UInt8)).map bv).toArray 5 (0, 0))) := by
  have e : (List.replicate n (0 : UInt8)).map bv = List.replicate n (.int .u8 0) := by simp [bv]
  rw [e]
  exact run_mk1 (P := Try.prog) 31 5 _ _ Try.underlying31 info_u8 rfl m n hm (by omega) (by omega) w
end Go.Proofs.Ytenbpbnffnodhaa

/- Bytes of one's own beside whatever else there is: rules for walks. -/
namespace Go.Own
open Go Go.RowKit
section
variable {B : Nat} {w0 w : World} {l : List Ob} {i : Nat}
theorem St.ownTo {e : TypeId} {z : Nat} {v : Value} {n : Nat} {cs : List Value} (h : St B w0 w l) (hi : l[i]? = some (OwO e z v n cs)) (w' : World) (v' : Value) (n' : Nat) (cs' : List Value)
    (hp : w'.ownsRow 0 e z v' n' cs') (k : Keep (fun k => v.ownBlock = some k) w w') (hv : v'.ownBlock = v.ownBlock ∨ v'.ownBlock = some w.heap.size) : St B w0 w' (l.set i (OwO e z v' n' cs')) := by
  obtain ⟨F, ⟨h1, h2, h3⟩, _, _, h4⟩ := h.at hi
  refine h4 w' (fun x => v'.ownBlock = some x) _ rfl (k.mono fun x _ hx => h2 x hx) ⟨hp, fun _ h => h, fun x hx => (own_block_lt hp hx).2⟩ fun x hx => ?_
  rcases hv with hv | hv
  · exact .inl (h2 _ (by rw [← hv]; exact hx))
  · rw [hv] at hx; cases hx; exact .inr (Nat.le_refl _)
theorem St.bsOwn {e : TypeId} {v : Value} {n : Nat} {b : List UInt8} (h : St B w0 w l) (hi : l[i]? = some (OwO e 1 v n (b.map bv))) : ∃ a c, v = .slice a n c ∧ Bs w a n c b := by
  obtain ⟨a, c, e1, _, hb⟩ := Sl.of_owned (h.own hi)
  exact ⟨a, c, e1, hb⟩
theorem set_same {P : Ob} (hi : l[i]? = some P) : l.set i P = l := by
  obtain ⟨hlt, e⟩ := List.getElem?_eq_some_iff.1 hi
  rw [← e]; exact List.set_getElem_self hlt
end
end Go.Own
namespace Go.Proofs.Ytenbpbnffnodhaa
open Go Go.RowKit Go.Own
set_option linter.unusedVariables false
section
variable {B : Nat} {w0 w : World} {l : List Ob}
/-- 'make([]byte, n)'. -/
theorem mk_st (h : St B w0 w l) (m : Int) (n : Nat) (hm : m = n) (hn : n ≤ 281474976710656) :
    ∃ g W, (Instr.makeSlice 31 (.int .i64 m) (.int .i64 m)).run Try.prog w = .ok (.slice (some ⟨g, 0, none⟩) n n) W ∧ St B w0 W (OwB (.slice (some ⟨g, 0, none⟩) n n) (List.replicate n 0) :: l) := by
  refine ⟨_, _, mkBytes w m n hm hn, ?_⟩
  have ho : (w.alloc (.cells ((List.replicate n (0 : UInt8)).map bv).toArray 5 (0, 0))).ownsRow w.heap.size 5 1 (.slice (some ⟨w.heap.size, 0, none⟩) n n) n ((List.replicate n (0 : UInt8)).map bv) :=
    ⟨by simp, .inr ⟨w.heap.size, n, _, rfl, Nat.le_refl _, by show (w.heap.push _)[w.heap.size]? = _; simp, Nat.le_refl _, Nat.le_trans hn (by decide), by simp, List.take_of_length_le (by simp)⟩⟩
  have hs := h.addOwn ((Below.refl _ _).alloc (Nat.le_refl _) (.cells ((List.replicate n (0 : UInt8)).map bv).toArray 5 (0, 0))) ho
  unfold OwB
  rw [List.length_replicate]
  exact hs
section
variable {v : Value} {b : List UInt8}
end
end
end Go.Proofs.Ytenbpbnffnodhaa

/- A map whose keys are places (two numbers), each told true: rules for walks. -/
namespace Go.Own
open Go Go.WideMaps
theorem key_gen (P : Program) (k t : TypeId) (fs : Array Field) (hu : P.underlying k = some (.struct fs)) (ht : P.underlying t = some (.int .i64)) (hk : P.keyType k = true) (hc : P.cellsOf k = 2) (hct : P.cellsOf t = 1) (hsz : ∃ n, P.types.size = n + 1)
    (f1 f2 : Field) (hfs : fs = #[f1, f2]) (ht1 : f1.type = t) (ht2 : f2.type = t) (ho1 : f1.offset = 0) (ho2 : f2.offset = 1) (hname : #[f1, f2].all (·.name != "_") = true) (a b : Int) (wa : (Lit.int .i64 a).wf = true) (wb : (Lit.int .i64 b).wf = true) :
    ∃ kl, keyOf P k (.agg #[.int .i64 a, .int .i64 b]) = some kl := by
  obtain ⟨n, hn⟩ := hsz
  subst hfs
  refine ⟨.string (keyBytes [.int .i64 a, .int .i64 b]), ?_⟩
  unfold keyOf
  rw [hu]
  have e1 : ∀ x : Int, (Lit.int .i64 x).wf = true → P.keyLits (n + 1) t [.int .i64 x] = some [.int .i64 x] := fun x hx => by
    unfold Program.keyLits; rw [ht]; simp [hx]
  have e2 : P.keyLits (n + 2) k [.int .i64 a, .int .i64 b] = some [.int .i64 a, .int .i64 b] := by
    unfold Program.keyLits
    rw [hu]
    simp only [hc, List.length_cons, List.length_nil, hname, ht1, ht2, ho1, ho2, hct, List.drop_zero, List.take_succ_cons, List.take_zero, List.drop_succ_cons, List.mapM_cons, List.mapM_nil, e1 a wa, e1 b wb, and_self, if_true]
    rfl
  simp only [hk, Value.formed, hu, hc, hn, Value.cells, e2]
  rfl
end Go.Own
namespace Go.Proofs.Ytenbpbnffnodhaa
open Go Go.RowKit Go.Own Go.WideMaps
open Go.ChangeMaps (setBlock heap_setBlock_same heap_setBlock_other)
set_option linter.unusedVariables false
set_option maxRecDepth 100000
abbrev plT : TypeId := 237
abbrev mpT : TypeId := 232
theorem pl_row : (plT : TypeId) < Try.prog.types.size := of_decide_eq_true (by kernel_rfl)
theorem pl_wide : (match Try.prog.underlying plT with | some (.array _ _) | some (.struct _) => true | _ => false) = true := by kernel_rfl
theorem pl_law : KeyLaw Try.prog plT := deep_law_laid Facts.laidOut (m := 2) (by omega) pl_row (by kernel_rfl) pl_wide
def keyV (q : Nat × Nat) : Value := .agg #[.int .i64 (q.1 : Nat), .int .i64 (q.2 : Nat)]
theorem keyV_inj {p q : Nat × Nat} (h : keyV p = keyV q) : p = q := by
  unfold keyV at h
  simp only [Value.agg.injEq, Array.mk.injEq, List.cons.injEq, Value.int.injEq, true_and, and_true] at h
  exact Prod.ext (by omega) (by omega)
theorem pl_cells : Try.prog.cellsOf plT = 2 := by kernel_rfl
theorem int_cells : Try.prog.cellsOf 3 = 1 := by kernel_rfl
theorem pl_keyT : Try.prog.keyType plT = true := by kernel_rfl
theorem pl_sz : ∃ n, Try.prog.types.size = n + 1 := ⟨Try.prog.types.size - 1, (Nat.sub_add_cancel (Nat.lt_of_le_of_lt (Nat.zero_le _) pl_row)).symm⟩
theorem key_of (q : Nat × Nat) (h1 : q.1 ≤ 65536) (h2 : q.2 ≤ 65536) : ∃ kl, keyOf Try.prog plT (keyV q) = some kl := by
  have w1 : (Lit.int .i64 (q.1 : Nat)).wf = true := by simp [Lit.wf, IntKind.min, IntKind.max, IntKind.bits, IntKind.signed]; omega
  have w2 : (Lit.int .i64 (q.2 : Nat)).wf = true := by simp [Lit.wf, IntKind.min, IntKind.max, IntKind.bits, IntKind.signed]; omega
  exact key_gen Try.prog plT 3 _ Try.underlying237 Try.underlying3 pl_keyT pl_cells int_cells pl_sz _ _ rfl rfl rfl rfl rfl (by kernel_rfl) _ _ w1 w2
/-- Block b is a map with these keys, each with the value true. -/
def MpAt (w : World) (b : Nat) (ks : List (Nat × Nat)) : Prop := ∃ es clock, w.heap[b]? = some (.map es clock) ∧ es.toList.map (fun e => (e.key, e.val)) = ks.map (fun q => (keyV q, Value.bool true)) ∧ ∀ q ∈ ks, q.1 ≤ 65536 ∧ q.2 ≤ 65536
section
variable {w : World} {b : Nat} {ks : List (Nat × Nat)} {q : Nat × Nat}
theorem MpAt.lt (h : MpAt w b ks) : b < w.heap.size := by obtain ⟨es, c, hb, _⟩ := h; exact (Array.getElem?_eq_some_iff.1 hb).1
theorem MpAt.keep {F : Nat → Prop} {w' : World} (h : MpAt w b ks) (k : Keep F w w') (hf : ¬ F b) : MpAt w' b ks := by
  have hl := h.lt
  obtain ⟨es, c, hb, h2, h3⟩ := h
  exact ⟨es, c, (k.block b hl hf).trans hb, h2, h3⟩
theorem mp_keys {es : Array MapEntry} (h2 : es.toList.map (fun e => (e.key, e.val)) = ks.map (fun q => (keyV q, Value.bool true))) (h3 : ∀ q ∈ ks, q.1 ≤ 65536 ∧ q.2 ≤ 65536) : ∀ e ∈ es.toList, ∃ l, keyOf Try.prog plT e.key = some l := fun e he => by
  have : (e.key, e.val) ∈ ks.map (fun q => (keyV q, Value.bool true)) := by rw [← h2]; exact List.mem_map.2 ⟨e, he, rfl⟩
  obtain ⟨p, hp, e1⟩ := List.mem_map.1 this
  have e2 : keyV p = e.key := congrArg Prod.fst e1
  rw [← e2]
  exact key_of p (h3 p hp).1 (h3 p hp).2
theorem mp_find (w : World) {es : Array MapEntry} (h2 : es.toList.map (fun e => (e.key, e.val)) = ks.map (fun q => (keyV q, Value.bool true))) (h3 : ∀ q ∈ ks, q.1 ≤ 65536 ∧ q.2 ≤ 65536) (hq : q.1 ≤ 65536 ∧ q.2 ≤ 65536) :
    ((Instr.findKey plT (keyV q) es.toList).run Try.prog w = .ok none w ∧ q ∉ ks) ∨ ∃ j, (Instr.findKey plT (keyV q) es.toList).run Try.prog w = .ok (some (j, .bool true)) w ∧ ks[j]? = some q := by
  obtain ⟨kl, hkl⟩ := key_of q hq.1 hq.2
  rcases pl_law.find w hkl es.toList (mp_keys h2 h3) with ⟨f1, f2⟩ | ⟨j, e0, f1, f2, f3⟩
  · refine .inl ⟨f1, fun hm => ?_⟩
    have : (keyV q, Value.bool true) ∈ es.toList.map (fun e => (e.key, e.val)) := by rw [h2]; exact List.mem_map.2 ⟨q, hm, rfl⟩
    obtain ⟨e, he, e1⟩ := List.mem_map.1 this
    exact f2 e he (congrArg Prod.fst e1)
  · have hj : (es.toList.map (fun e => (e.key, e.val)))[j]? = some (e0.key, e0.val) := by rw [List.getElem?_map, f2]; rfl
    rw [h2, List.getElem?_map] at hj
    cases hkj : ks[j]? with
    | none => rw [hkj] at hj; cases hj
    | some p =>
      rw [hkj] at hj
      simp only [Option.map_some, Option.some.injEq, Prod.mk.injEq] at hj
      obtain ⟨hk, hv⟩ := hj
      rw [← hv] at f1
      rw [f3] at hk
      exact .inr ⟨j, f1, by rw [keyV_inj hk] at hkj; exact hkj⟩
theorem mp_zero (w : World) : (zeroValue 4).run Try.prog w = .ok (.bool false) w := by kernel_rfl
theorem mp_lookup (h : MpAt w b ks) (hq : q.1 ≤ 65536 ∧ q.2 ≤ 65536) : (Instr.lookup mpT (.map (some b)) (keyV q) false).run Try.prog w = .ok (.bool (decide (q ∈ ks))) w := by
  obtain ⟨es, c, hb, h2, h3⟩ := h
  obtain ⟨kl, hkl⟩ := key_of q hq.1 hq.2
  rcases mp_find w h2 h3 hq with ⟨f1, f2⟩ | ⟨j, f1, f2⟩
  · rw [decide_eq_false f2]
    simp [Instr.lookup, run_underlying Try.underlying232, MapKept.run_getObj_map hb, pl_law.check w _ hkl, f1, mp_zero, Result.andThen]
  · rw [decide_eq_true (List.mem_of_getElem? f2)]
    simp [Instr.lookup, run_underlying Try.underlying232, MapKept.run_getObj_map hb, pl_law.check w _ hkl, f1, Result.andThen]
theorem setBlock_keep {es es' : Array MapEntry} {c c' : Nat} (hb : w.heap[b]? = some (.map es c)) : Keep (· = b) w (setBlock w b (.map es' c')) :=
  ⟨rfl, rfl, rfl, by simp [setBlock], fun k _ hk => heap_setBlock_other hb _ hk⟩
theorem mp_update (h : MpAt w b ks) (hq : q.1 ≤ 65536 ∧ q.2 ≤ 65536) (hn : q ∉ ks) : ∃ w', (Instr.mapUpdate mpT (.map (some b)) (keyV q) (.bool true)).run Try.prog w = .ok () w' ∧ MpAt w' b (ks ++ [q]) ∧ Keep (· = b) w w' := by
  obtain ⟨es, c, hb, h2, h3⟩ := h
  obtain ⟨kl, hkl⟩ := key_of q hq.1 hq.2
  rcases mp_find w h2 h3 hq with ⟨f1, f2⟩ | ⟨j, f1, f2⟩
  · refine ⟨setBlock w b (.map (es.push ⟨keyV q, .bool true, c⟩) (c + 1)), ?_, ⟨es.push ⟨keyV q, .bool true, c⟩, c + 1, heap_setBlock_same hb _, ?_, fun p hp => ?_⟩, setBlock_keep hb⟩
    · simp [Instr.mapUpdate, run_underlying Try.underlying232, MapKept.run_getObj_map hb, pl_law.check w false hkl, f1, MapKept.run_setObj_map _ hb, Result.andThen, setBlock]
    · rw [Array.toList_push, List.map_append, List.map_append, h2]; rfl
    · rcases List.mem_append.1 hp with hp | hp
      · exact h3 p hp
      · rw [List.mem_singleton.1 hp]; exact hq
  · exact absurd (List.mem_of_getElem? f2) hn
theorem map_erase_filter {ks : List (Nat × Nat)} {j : Nat} (hn : ks.Nodup) (hj : ks[j]? = some q) : ks.eraseIdx j = ks.filter (· ≠ q) := by
  induction ks generalizing j with
  | nil => simp at hj
  | cons p r ih =>
    obtain ⟨h1, h2⟩ := List.nodup_cons.1 hn
    cases j with
    | zero =>
      simp only [List.getElem?_cons_zero, Option.some.injEq] at hj
      subst hj
      rw [List.eraseIdx_cons_zero, List.filter_cons_of_neg (by simp)]
      exact (List.filter_eq_self.2 fun x hx => by simp; rintro rfl; exact h1 hx).symm
    | succ j =>
      rw [List.getElem?_cons_succ] at hj
      have hpq : p ≠ q := fun e => h1 (e ▸ List.mem_of_getElem? hj)
      rw [List.eraseIdx_cons_succ, List.filter_cons_of_pos (by simpa using hpq), ih h2 hj]
theorem mp_delete (h : MpAt w b ks) (hq : q.1 ≤ 65536 ∧ q.2 ≤ 65536) (hn : ks.Nodup) (hm : q ∈ ks) (ty : TypeId) : ∃ w', (Builtin.delete_ #[mpT, plT] ty #[.map (some b), keyV q]).run Try.prog w = .ok (.tuple #[]) w' ∧ MpAt w' b (ks.filter (· ≠ q)) ∧ Keep (· = b) w w' := by
  obtain ⟨es, c, hb, h2, h3⟩ := h
  obtain ⟨kl, hkl⟩ := key_of q hq.1 hq.2
  rcases mp_find w h2 h3 hq with ⟨f1, f2⟩ | ⟨j, f1, f2⟩
  · exact absurd hm f2
  · have hjl : j < es.size := by
      have := congrArg List.length h2
      have h4 := (List.getElem?_eq_some_iff.1 f2).1
      simp at this; omega
    have hsub : (es.eraseIdxIfInBounds j).toList = es.toList.eraseIdx j := by
      unfold Array.eraseIdxIfInBounds
      rw [dif_pos hjl]; simp
    refine ⟨setBlock w b (.map (es.eraseIdxIfInBounds j) c), ?_, ⟨es.eraseIdxIfInBounds j, c, heap_setBlock_same hb _, ?_, fun p hp => h3 p ((List.mem_filter.1 hp).1)⟩, setBlock_keep hb⟩
    · simp [Builtin.delete_, run_underlying Try.underlying232, MapKept.run_getObj_map hb, pl_law.check w _ hkl, f1, MapKept.run_setObj_map _ hb, Result.andThen, setBlock]
    · rw [hsub, ← map_erase_filter hn f2, ChangeMaps.map_eraseIdx, h2, ChangeMaps.map_eraseIdx]
theorem mp_len (h : MpAt w b ks) (ty : TypeId) : (Builtin.len_ #[mpT] ty #[.map (some b)]).run Try.prog w = .ok (.int .i64 (ks.length : Nat)) w := by
  obtain ⟨es, c, hb, h2, h3⟩ := h
  have : es.size = ks.length := by have := congrArg List.length h2; simpa using this
  simp [Builtin.len_, run_underlying Try.underlying232, MapKept.run_getObj_map hb, goInt, Result.andThen, this]
end
/-- A map of places. -/
def MpO (b : Nat) (ks : List (Nat × Nat)) : Ob where
  m := true
  p := fun w F => MpAt w b ks ∧ F b ∧ ∀ k, F k → k < w.heap.size
  lt := fun h => h.2.2
  kept := fun {w w' F G} h k hd => ⟨h.1.keep k (hd b h.2.1), h.2.1, fun x hx => Nat.lt_of_lt_of_le (h.2.2 x hx) k.size⟩
section
variable {B : Nat} {w0 w : World} {l : List Ob} {i b : Nat} {ks : List (Nat × Nat)} {q : Nat × Nat}
theorem _root_.Go.Own.St.mp (h : St B w0 w l) (hi : l[i]? = some (MpO b ks)) : MpAt w b ks := by
  obtain ⟨F, h1, _⟩ := h.at hi
  exact h1.1
theorem _root_.Go.Own.St.mpTo (h : St B w0 w l) (hi : l[i]? = some (MpO b ks)) (w' : World) (ks' : List (Nat × Nat)) (hp : MpAt w' b ks') (k : Keep (· = b) w w') : St B w0 w' (l.set i (MpO b ks')) := by
  obtain ⟨F, ⟨h1, h2, h3⟩, _, _, h4⟩ := h.at hi
  exact h4 w' (fun x => x = b) _ rfl (k.mono fun x _ hx => by rw [hx]; exact h2) ⟨hp, rfl, fun x hx => by rw [hx]; exact hp.lt⟩ fun x hx => .inl (by rw [hx]; exact h2)
/-- 'map[place]bool{}'. -/
theorem mp_make (h : St B w0 w l) : St B w0 (w.alloc (.map #[] 0)) (MpO w.heap.size [] :: l) :=
  h.add (F := fun x => x = w.heap.size) ((Below.refl _ _).alloc (Nat.le_refl _) _) ⟨⟨#[], 0, heap_alloc_new w _, rfl, fun q hq => by cases hq⟩, rfl, fun x hx => by rw [hx]; simp⟩ fun x hx => by rw [hx]; exact Nat.le_refl _
section
variable {ops : Array Oper} {rest : List Oper} {o : Oper} {a : Act} {Q : Exit → Act → World → Prop} {K : Act → World → Prop}
theorem mp_update_at (h : St B w0 w l) (i : Nat) (hi : l[i]? = some (MpO b ks)) (m x v : Operand) (ho : o.op = .mapUpdate mpT m x v) (hm : a.eval m = .map (some b)) (hx : a.eval x = keyV q) (hv : a.eval v = .bool true)
    (hq : q.1 ≤ 65536 ∧ q.2 ≤ 65536) (hn : q ∉ ks) (hk : ∀ w', St B w0 w' (l.set i (MpO b (ks ++ [q]))) → K (a.put o.dst undef) w') : o.wp Try.prog a w K Q := by
  obtain ⟨w', hrun, h1, h2⟩ := mp_update (h.mp hi) hq hn
  unfold Oper.wp
  simp [execOp, ho, hm, hx, hv, hrun, Result.andThen]
  exact hk _ (h.mpTo hi w' _ h1 h2)
theorem mp_lookup_st (h : St B w0 w l) (i : Nat) (hi : l[i]? = some (MpO b ks)) (hgd : o.guard = none) (m x : Operand) (ho : o.op = .lookup mpT m x false) (hm : a.eval m = .map (some b)) (hx : a.eval x = keyV q)
    (hq : q.1 ≤ 65536 ∧ q.2 ≤ 65536) (hk : wpList Try.prog ops Q rest (a.put o.dst (.bool (decide (q ∈ ks)))) w) : wpList Try.prog ops Q (o :: rest) a w := by
  refine wpList_plain hgd fun K hK => ?_
  have hrun := mp_lookup (h.mp hi) hq
  unfold Oper.wp
  simp [execOp, ho, hm, hx, hrun, Result.andThen]
  exact hK _ _ hk
theorem mp_delete_st (h : St B w0 w l) (i : Nat) (hi : l[i]? = some (MpO b ks)) (hgd : o.guard = none) (m x : Operand) (ho : o.op = Op.call { callee := Callee.builtin Builtin.delete, args := #[m, x], argTypes := #[mpT, plT] }) (hm : a.eval m = .map (some b)) (hx : a.eval x = keyV q)
    (hq : q.1 ≤ 65536 ∧ q.2 ≤ 65536) (hnd : ks.Nodup) (hmem : q ∈ ks) (hk : ∀ w', St B w0 w' (l.set i (MpO b (ks.filter (· ≠ q)))) → wpList Try.prog ops Q rest (a.put o.dst (.tuple #[])) w') : wpList Try.prog ops Q (o :: rest) a w := by
  refine wpList_plain hgd fun K hK => ?_
  obtain ⟨w', hrun, h1, h2⟩ := mp_delete (h.mp hi) hq hnd hmem o.type
  unfold Oper.wp
  simp [execOp, ho, resolve, invoke, builtin, hm, hx, hrun, Result.andThen]
  exact hK _ _ (hk _ (h.mpTo hi w' _ h1 h2))
theorem mp_len_st (h : St B w0 w l) (i : Nat) (hi : l[i]? = some (MpO b ks)) (hgd : o.guard = none) (m : Operand) (ho : o.op = Op.call { callee := Callee.builtin Builtin.len, args := #[m], argTypes := #[mpT] }) (hm : a.eval m = .map (some b))
    (hk : wpList Try.prog ops Q rest (a.put o.dst (.int .i64 (ks.length : Nat))) w) : wpList Try.prog ops Q (o :: rest) a w := by
  refine wpList_plain hgd fun K hK => ?_
  have hrun := mp_len (h.mp hi) o.type
  unfold Oper.wp
  simp [execOp, ho, resolve, invoke, builtin, hm, hrun, Result.andThen]
  exact hK _ _ hk
end
end
end Go.Proofs.Ytenbpbnffnodhaa

/- Variables of a struct type, lists of structs, beside whatever else there is: rules for walks. -/
namespace Go.Own
open Go Go.RowKit
theorem results_row2 {P : Program} {fn : Func} {p u : Tmp} {ty : TypeId} (h : fn.results = #[.cell p ty, .tmp u]) (tmps : Array Value) (w : World) (g : Nat) (t : TypeId) (cs : List Value) (d : TypeDesc)
    (hp : tmps.getD p undef = .pointer (some ⟨g, 0, none⟩)) (hg : Row w g t cs)
    (hu : P.underlying ty = some d) (hd : (match d with | .struct _ | .array _ _ => true | _ => false) = true) (hi : (P.info? ty).map (·.size) = some cs.length) :
    (results fn tmps).run P w = .ok (.tuple #[.agg cs.toArray, tmps.getD u undef]) w := by
  have hp' : tmps[p]?.getD undef = .pointer (some ⟨g, 0, none⟩) := by simpa using hp
  simp [results, h, hp', asAddr, run_loadVar_row w g t ty cs.toArray (0, 0) d hg hu hd (by simpa using hi)]
section
variable {B : Nat} {w0 w : World} {l : List Ob} {i : Nat} {g : Nat} {e : TypeId} {cs : List Value}
theorem St.rowTo (h : St B w0 w l) (hi : l[i]? = some (RowO g e cs)) (w' : World) (cs' : List Value) (hp : Row w' g e cs') (k : Keep (· = g) w w') : St B w0 w' (l.set i (RowO g e cs')) := by
  obtain ⟨F, ⟨h1, h2, h3⟩, _, _, h4⟩ := h.at hi
  exact h4 w' (fun x => x = g) _ rfl (k.mono fun x _ hx => by rw [hx]; exact h2) ⟨hp, rfl, fun x hx => by rw [hx]; exact hp.lt⟩ fun x hx => .inl (by rw [hx]; exact h2)
section
variable {P : Program} {ops : Array Oper} {rest : List Oper} {o : Oper} {a : Act} {Q : Exit → Act → World → Prop}
theorem alloc_st (h : St B w0 w l) (hgd : o.guard = none) (t : TypeId) (ho : o.op = .alloc t) (z : Value) (s b : Nat) (hi : Info P t z s b) (cs : List Value) (hc : z.cells = cs.toArray)
    (hk : ∀ g w', St B w0 w' (RowO g t cs :: l) → wpList P ops Q rest (a.put o.dst (.pointer (some ⟨g, 0, none⟩))) w') : wpList P ops Q (o :: rest) a w :=
  alloc_row hgd t ho z s b hi cs hc (hk _ _ (h.addRow t cs))
theorem store_st (h : St B w0 w l) (i : Nat) {g : Nat} {e : TypeId} {old : List Value} (hi : l[i]? = some (RowO g e old)) (hgd : o.guard = none) (t : TypeId) (x y : Operand) (ho : o.op = .store t x y)
    (hx : a.eval x = .pointer (some ⟨g, 0, none⟩)) (cs : List Value) (hy : a.eval y = .agg cs.toArray) (hs : (P.info? t).map (·.size) = some cs.length) (hl : old.length = cs.length)
    (h1 : ∀ u ∈ cs, u.oneCell' = true) (hk : ∀ w', St B w0 w' (l.set i (RowO g e cs)) → wpList P ops Q rest (a.put o.dst undef) w') : wpList P ops Q (o :: rest) a w :=
  store_row hgd t x y ho g hx cs hy e old (h.row hi) hs hl h1 fun w' hr k => hk w' (h.rowTo hi w' cs hr k)
theorem load_st (h : St B w0 w l) (i : Nat) {g : Nat} {e : TypeId} {cs : List Value} (hi : l[i]? = some (RowO g e cs)) (hgd : o.guard = none) (t : TypeId) (x : Operand) (ho : o.op = .load t x)
    (hx : a.eval x = .pointer (some ⟨g, 0, none⟩)) (d : TypeDesc) (hu : P.underlying t = some d) (hd : (match d with | .struct _ | .array _ _ => true | _ => false) = true) (hs : (P.info? t).map (·.size) = some cs.length)
    (hk : wpList P ops Q rest (a.put o.dst (.agg cs.toArray)) w) : wpList P ops Q (o :: rest) a w :=
  load_row hgd t x ho g hx e cs d (h.row hi) hu hd hs hk
end
end
/-- A block's cells. -/
def blC (x : Blk) : List Value := [.int .i64 x.off, .int .i64 x.size, .bool x.used]
theorem blC_len (x : Blk) : (blC x).length = 3 := rfl
theorem blC_one (x : Blk) : ∀ u ∈ blC x, u.oneCell' = true := by
  intro u hu
  simp only [blC, List.mem_cons, List.not_mem_nil, or_false] at hu
  rcases hu with rfl | rfl | rfl <;> rfl
end Go.Own
namespace Go.Proofs.Ytenbpbnffnodhaa
open Go Go.RowKit Go.Own
set_option linter.unusedVariables false
theorem info_bl : Info Try.prog 77 (.agg #[.int .i64 0, .int .i64 0, .bool false]) 3 24 := by unfold Info; kernel_rfl
theorem size_bl : (Try.prog.info? 77).map (·.size) = some 3 := by kernel_rfl
/-- A block as a function tells it. -/
def bkV : Option Blk → Value
  | none => .agg #[.int .i64 0, .int .i64 0, .bool false]
  | some x => .agg #[.int .i64 x.off, .int .i64 x.size, .bool x.used]
/-- A variable that holds a block. -/
abbrev BkO (g : Nat) (o s : Int) (u : Bool) : Ob := RowO g 77 [.int .i64 o, .int .i64 s, .bool u]
/-- A list of blocks of one's own. -/
abbrev BlsO (v : Value) (L : List Blk) : Ob := OwO 77 3 v L.length (L.map blC).flatten
section
variable {B : Nat} {w0 w : World} {l : List Ob} {ops : Array Oper} {rest : List Oper} {o : Oper} {a : Act} {Q : Exit → Act → World → Prop}
theorem bk_alloc (h : St B w0 w l) (hgd : o.guard = none) (ho : o.op = .alloc 77)
    (hk : ∀ g w', St B w0 w' (BkO g 0 0 false :: l) → wpList Try.prog ops Q rest (a.put o.dst (.pointer (some ⟨g, 0, none⟩))) w') : wpList Try.prog ops Q (o :: rest) a w :=
  alloc_st h hgd _ ho _ _ _ info_bl [.int .i64 0, .int .i64 0, .bool false] rfl hk
theorem bk_store (h : St B w0 w l) (i : Nat) {g : Nat} {p q : Int} {r : Bool} (hi : l[i]? = some (BkO g p q r)) (hgd : o.guard = none) (x y : Operand) (ho : o.op = .store 77 x y)
    (hx : a.eval x = .pointer (some ⟨g, 0, none⟩)) (p' q' : Int) (r' : Bool) (hy : a.eval y = .agg #[.int .i64 p', .int .i64 q', .bool r'])
    (hk : ∀ w', St B w0 w' (l.set i (BkO g p' q' r')) → wpList Try.prog ops Q rest (a.put o.dst undef) w') : wpList Try.prog ops Q (o :: rest) a w :=
  store_st h i hi hgd _ x y ho hx [.int .i64 p', .int .i64 q', .bool r'] hy size_bl rfl (by simp [Value.oneCell']) hk
theorem bk_load (h : St B w0 w l) (i : Nat) {g : Nat} {p q : Int} {r : Bool} (hi : l[i]? = some (BkO g p q r)) (hgd : o.guard = none) (x : Operand) (ho : o.op = .load 77 x)
    (hx : a.eval x = .pointer (some ⟨g, 0, none⟩)) (hk : wpList Try.prog ops Q rest (a.put o.dst (.agg #[.int .i64 p, .int .i64 q, .bool r])) w) : wpList Try.prog ops Q (o :: rest) a w :=
  load_st h i hi hgd _ x ho hx _ Try.underlying77 rfl size_bl hk
/-- 'append(l, x)'. -/
theorem bls_app (h : St B w0 w l) (i : Nat) {v : Value} {L : List Blk} (hi : l[i]? = some (BlsO v L)) (hgd : Region.wanted o (yielded ops a.tmps) = true) (s x : Operand)
    (ho : o.op = .call { callee := .builtin .append, args := #[s, x], argTypes := #[75, 75] }) (hs : a.eval s = v) (p q : Int) (r : Bool) (y : Blk) (hp : p = y.off) (hq : q = y.size) (hr : r = y.used)
    (hx : a.eval x = .slice (some ⟨w.heap.size, 0, none⟩) 1 1) (hL : L.length ≤ 1000000)
    (hk : ∀ v' w', St B w0 w' (l.set i (BlsO v' (L ++ [y]))) → wpList Try.prog ops Q rest (a.put o.dst v') w') : wpList Try.prog ops Q (o :: rest) a (w.alloc (.cells #[.int .i64 p, .int .i64 q, .bool r] 77 (0, 0))) := by
  subst hp; subst hq; subst hr
  have h' := h.alloc (.cells #[.int .i64 y.off, .int .i64 y.size, .bool y.used] 77 (0, 0))
  refine app_in hgd s x 75 ho 0 77 _ 3 24 Try.underlying75 info_bl rfl (by decide) v L.length _ hs (h'.own hi) _ 1 1 (blC y) hx (Sl.lit w 77 (blC y) 1 3 rfl (by decide)) (blC_one y) (by omega) (by omega) (Nat.zero_le _) fun v' w' h1 h2 h3 => hk v' w' ?_
  have := h'.ownTo hi w' v' _ _ h1 h2 h3
  unfold BlsO
  rw [List.length_append, List.map_append, List.flatten_append]
  simpa using this
end
end Go.Proofs.Ytenbpbnffnodhaa

namespace Go.Proofs.Ytenbpbnffnodhaa
open Go Go.RowKit Go.Own
set_option linter.unusedVariables false
theorem rem16 (s : Int) (h : 0 ≤ s) : s.tmod 16 = s % 16 := Int.tmod_eq_emod_of_nonneg h
theorem ref_IsSize (w : World) (s : Int) : Calls Try.prog 160 #[.int .i64 s] w fun e w' => e = .returned (.bool (isSize s)) ∧ w = w' := by
  by_cases h1 : 32 ≤ s
  · by_cases h2 : s ≤ 16384
    · go_enter Try.func160, Try.ntmps160
      go_wp2
      go_ret
      refine ⟨rB ?_, rfl⟩
      simp [isSize, h1, h2, Bool.beq_eq_decide_eq]
    · go_enter Try.func160, Try.ntmps160
      go_wp2
      go_ret
      exact ⟨rB (isSize_no (by omega)).symm, rfl⟩
  · go_enter Try.func160, Try.ntmps160
    go_wp2
    go_ret
    exact ⟨rB (isSize_no (by omega)).symm, rfl⟩
theorem tag_Pack (w : World) (s : Int) (u : Bool) : Calls Try.prog 154 #[.int .i64 s, .bool u] w fun e w' => e = .returned (.int .u64 (tagOf s u)) ∧ w = w' := by
  by_cases h : isSize s = true
  · have h' := (isSize_iff s).1 h
    obtain ⟨h1, h2, h3⟩ := h'
    have hor := or1 s (by omega) (by omega) (by omega)
    have hne : (s % 16 != 0) = false := by rw [bne_eq_false_iff_eq]; exact h3
    have ht : tagOf s u = if u then s + 1 else s := by unfold tagOf; rw [h]; rfl
    have HT := Lib.hid ht
    clear ht h h3
    cases u with
    | true =>
      go_enter Try.func154, Try.ntmps154
      go_wp2
      go_ret
      exact ⟨rI (by rw [HT.out]; rfl), rfl⟩
    | false =>
      go_enter Try.func154, Try.ntmps154
      go_wp2
      go_ret
      exact ⟨rI (by rw [HT.out]; rfl), rfl⟩
  · have hn : s < 32 ∨ 16384 < s ∨ (32 ≤ s ∧ s ≤ 16384 ∧ (s % 16 != 0) = true) := by
      have h4 : ¬ (32 ≤ s ∧ s ≤ 16384 ∧ s % 16 = 0) := fun hh => h (isSize_yes hh)
      rw [bne_iff_ne]; omega
    have ht : tagOf s u = 0 := by unfold tagOf; rw [Bool.not_eq_true] at h; rw [h]; rfl
    have HT := Lib.hid ht
    clear ht h
    rcases hn with hn | hn | ⟨h1, h2, h3⟩
    all_goals
      go_enter Try.func154, Try.ntmps154
      go_wp2
      go_ret
      exact ⟨rI HT.out.symm, rfl⟩
theorem tag_Unpack (w : World) (v : Int) (h0 : 0 ≤ v) (h1 : v ≤ 18446744073709551615) :
    Calls Try.prog 156 #[.int .u64 v] w fun e w' => e = .returned (.tuple #[.int .i64 (tagS v), .bool (tagU v), .bool (isTag v)]) ∧ w = w' := by
  have e1 := low_eq v h0 h1
  have e2 := odd_eq v h0 h1
  have hw := wrapI64 (n := v % 65536 - v % 2) (by omega) (by omega)
  by_cases hz : v = 0
  · subst hz
    go_enter Try.func156, Try.ntmps156
    go_wp2
    go_ret3
    exact ⟨by rw [show tagS 0 = 0 from by decide, show tagU 0 = false from by decide, show isTag 0 = false from by decide]; rfl, rfl⟩
  · have hz' : (v == 0) = false := by rw [beq_eq_false_iff_ne]; exact hz
    have hq := (unpack_eq v h0).resolve_right hz
    cases ht : isTag v with
    | true =>
      rw [ht] at hq
      have hs : v % 65536 - v % 2 = tagS v := by have := isTag_rng ht; unfold tagS; rw [ht]; simp; omega
      have hu : (v % 2 == 1) = tagU v := by unfold tagU; rw [ht]; rw [Bool.eq_iff_iff]; simp
      have HS := Lib.hid hs; have HU := Lib.hid hu
      clear hs hu ht hz
      go_enter Try.func156, Try.ntmps156
      go_wp2_with fail
      with_reducible refine (tag_Pack _ _ _).mono ?_
      rintro e w' ⟨rfl, rfl⟩
      go_wp2
      go_ret3
      exact ⟨by rw [← HS.out, ← HU.out]; rfl, rfl⟩
    | false =>
      rw [ht] at hq
      obtain ⟨n1, n2⟩ := noTag ht
      have N1 := Lib.hid n1; have N2 := Lib.hid n2
      clear n1 n2 ht hz
      go_enter Try.func156, Try.ntmps156
      go_wp2_with fail
      with_reducible refine (tag_Pack _ _ _).mono ?_
      rintro e w' ⟨rfl, rfl⟩
      go_wp2
      go_ret3
      exact ⟨by rw [N1.out, N2.out]; rfl, rfl⟩
end Go.Proofs.Ytenbpbnffnodhaa

/- Blocks of an arena: the program's calls. -/
namespace Go.Own
def blkI (b : List UInt8) (o : Int) : Option Blk := if 0 ≤ o then blkAt b o.toNat else none
def aheadI (b : List UInt8) (o : Int) : Option Blk := if 0 ≤ o then aheadB b o.toNat else none
theorem couldB_iff {b : List UInt8} {o s : Int} : couldB b o s = true ↔ 184 ≤ o ∧ o % 16 = 8 ∧ o ≤ b.length ∧ s ≤ b.length - o := by unfold couldB; exact decide_eq_true_iff
theorem couldB_no {b : List UInt8} {o s : Int} (h : ¬ (184 ≤ o ∧ o % 16 = 8 ∧ o ≤ b.length ∧ s ≤ b.length - o)) : couldB b o s = false := by unfold couldB; exact decide_eq_false h
theorem blkI_none {b : List UInt8} {o : Int} (h : couldB b o 32 = false) : blkI b o = none := by
  unfold blkI
  split
  · rename_i h0
    cases hx : blkAt b o.toNat with
    | none => rfl
    | some x =>
      obtain ⟨_, h1, h2, h3, _, _, h6, _⟩ := blkAt_some hx
      have : couldB b o 32 = true := couldB_iff.2 ⟨by omega, by omega, by omega, by omega⟩
      rw [this] at h; cases h
  · rfl
end Go.Own
namespace Go.Proofs.Ytenbpbnffnodhaa
open Go Go.RowKit Go.Own
set_option linter.unusedVariables false
set_option maxRecDepth 100000
def errO (x : Option Blk) : Value := match x with | none => .iface 183 (.int .i64 3) | some _ => .nilIface
section
variable {B : Nat} {w0 w : World} {l : List Ob} {i p : Nat} {A : Ar}
theorem ar_small (h : St B w0 w l) (hi : l[i]? = some (ArT p A)) : A.b.length ≤ 16384 ∧ A.base ≤ 4611686018427387904 := by
  obtain ⟨v, ha⟩ := h.ar hi
  have h1 := ha.hbase; have h2 := ha.hcap; have h3 := ha.hlen
  omega
theorem blk_fits (h : St B w0 w l) (hi : l[i]? = some (ArT p A)) (o s : Int) :
    Calls Try.prog 155 #[arP p, .int .i64 o, .int .i64 s] w fun e w' => e = .returned (.bool (couldB A.b o s)) ∧ w = w' := by
  have hsm := (ar_small h hi).1
  have KL := Lib.hid (ar_Len h hi)
  clear h hi
  by_cases g1 : 184 ≤ o
  · have ht := rem16 o (by omega)
    have d1 : decide (184 ≤ o) = true := decide_eq_true g1
    by_cases g2 : o % 16 = 8
    · have d2 : (o % 16 == 8) = true := by rw [beq_iff_eq]; exact g2
      by_cases g3 : o ≤ A.b.length
      · have d3 : decide (o ≤ (A.b.length : Int)) = true := decide_eq_true g3
        have e4 : IntKind.i64.wrap ((A.b.length : Int) - o) = (A.b.length : Int) - o := IntWalk.i64_in _ (by omega)
        have hc : couldB A.b o s = decide (s ≤ (A.b.length : Int) - o) := by
          unfold couldB; rw [decide_eq_decide]; omega
        rw [hc]
        clear g1 g2 hc
        go_enter Try.func155, Try.ntmps155
        go_wp2_with fail
        with_reducible refine KL.out.mono ?_
        rintro e w' ⟨rfl, rfl⟩
        go_wp2_with fail
        with_reducible refine KL.out.mono ?_
        rintro e w' ⟨rfl, rfl⟩
        go_wp2
        go_ret
        exact ⟨rfl, rfl⟩
      · have d3 : decide (o ≤ (A.b.length : Int)) = false := decide_eq_false g3
        rw [couldB_no (by omega)]
        clear g1 g2
        go_enter Try.func155, Try.ntmps155
        go_wp2_with fail
        with_reducible refine KL.out.mono ?_
        rintro e w' ⟨rfl, rfl⟩
        go_wp2
        go_ret
        exact ⟨rfl, rfl⟩
    · have d2 : (o % 16 == 8) = false := by rw [beq_eq_false_iff_ne]; exact g2
      rw [couldB_no (by omega)]
      clear g1
      go_enter Try.func155, Try.ntmps155
      go_wp2
      go_ret
      exact ⟨rfl, rfl⟩
  · have d1 : decide (184 ≤ o) = false := decide_eq_false g1
    rw [couldB_no (by omega)]
    go_enter Try.func155, Try.ntmps155
    go_wp2
    go_ret
    exact ⟨rfl, rfl⟩
end
end Go.Proofs.Ytenbpbnffnodhaa

/- Blocks of an arena: the program's Get and Ahead. -/
namespace Go.Proofs.Ytenbpbnffnodhaa
open Go Go.RowKit Go.Own
set_option linter.unusedVariables false
set_option maxRecDepth 100000
section
variable {B : Nat} {w0 w : World} {l : List Ob} {i p : Nat} {A : Ar}
set_option maxHeartbeats 4000000 in
theorem blk_Get (h : St B w0 w l) (hi : l[i]? = some (ArT p A)) (o : Int) :
    Calls Try.prog 64 #[arP p, .int .i64 o] w fun e w' => e = .returned (.tuple #[bkV (blkI A.b o), errO (blkI A.b o)]) ∧ St B w0 w' l := by
  obtain ⟨hsm, hbs⟩ := ar_small h hi
  have H := Lib.hid h; have HI := Lib.hid hi
  clear h hi
  by_cases hc : couldB A.b o 32 = true
  · obtain ⟨c1, c2, c3, c4⟩ := couldB_iff.1 hc
    obtain ⟨O, rfl⟩ := Int.eq_ofNat_of_zero_le (show 0 ≤ o by omega)
    have hgi : blkI A.b (O : Int) = blkAt A.b O := by unfold blkI; rw [if_pos (Int.natCast_nonneg _), Int.toNat_natCast]
    rw [hgi]
    have hw := numAt_lt A.b O
    obtain ⟨W, hW⟩ : ∃ W, W = numAt A.b O := ⟨_, rfl⟩
    rw [← hW] at hw
    have hO : O ≤ 16384 := by omega
    have hO2 : 184 ≤ O := by omega
    have HO := Lib.hid (And.intro c1 (And.intro c2 (And.intro c3 c4)))
    have HWE := Lib.hid hW
    clear c1 c2 c3 c4 hgi hW
    cases ht : isTag (W : Int) with
    | false =>
      have hn : blkAt A.b O = none := by
        unfold blkAt; rw [if_neg]; intro hh; rw [← HWE.out, ht] at hh; exact absurd hh.2.2.1 Bool.false_ne_true
      rw [hn]
      clear hn
      go_enter Try.func64, Try.ntmps64
      go_wp2_with (refine bk_alloc H.out rfl rfl ?_; intro g w1 h1; have H1 := Lib.hid h1; clear h1)
      have kc := blk_fits H1.out (i := i + 1) HI.out (O : Int) 32
      rw [hc] at kc
      with_reducible refine kc.mono ?_
      clear kc
      rintro e w' ⟨rfl, rfl⟩
      go_wp2_with fail
      have kc := ar_Base (p := p) (A := A) H1.out (i := i + 1) HI.out
      with_reducible refine kc.mono ?_
      clear kc
      rintro e w' ⟨rfl, rfl⟩
      go_wp2_with fail
      have kc := ar_WordAt H1.out (i := i + 1) HI.out ((A.base : Int) + O) O rfl (by have := HO.out; omega)
      rw [← HWE.out] at kc
      with_reducible refine kc.mono ?_
      clear kc
      rintro e w' ⟨rfl, rfl⟩
      go_wp2_with fail
      have kc := tag_Unpack w1 (W : Int) (Int.natCast_nonneg _) (by omega)
      rw [ht] at kc
      with_reducible refine kc.mono ?_
      clear kc
      rintro e w' ⟨rfl, rfl⟩
      clear ht hc
      go_wp2_with (refine bk_store H1.out 0 rfl rfl _ _ rfl rfl 0 0 false rfl ?_; intro w2 h2; have H2 := Lib.hid h2; clear h2)
      refine bodyPost_ret (results_row2 rfl _ _ g _ _ _ rfl (H2.out.row (i := 0) rfl) Try.underlying77 rfl size_bl) rfl ⟨rfl, H2.out.tail⟩
    | true =>
      obtain ⟨t1, t2, t3⟩ := tagS_isTag ht
      obtain ⟨S, hS⟩ := Int.eq_ofNat_of_zero_le (show 0 ≤ tagS W by omega)
      rw [hS] at t1 t2 t3
      have HT := Lib.hid (And.intro t1 (And.intro t2 t3))
      have hS2 : S ≤ 16384 := by omega
      have hSn : (tagS ((numAt A.b O : Nat) : Int)).toNat = S := by rw [← HWE.out, hS, Int.toNat_natCast]
      have HSN := Lib.hid hSn
      have HTT := Lib.hid ht
      have hb : blkAt A.b O = if O + S ≤ A.b.length ∧ numAt A.b (O + S - 8) = W then some ⟨O, S, tagU W⟩ else none := by
        have := HO.out
        unfold blkAt
        rw [hSn, ← HWE.out, ht]
        by_cases hh : O + S ≤ A.b.length ∧ numAt A.b (O + S - 8) = W
        · rw [if_pos ⟨by omega, by omega, rfl, hh⟩, if_pos hh]
        · rw [if_neg (fun h => hh h.2.2.2), if_neg hh]
      obtain ⟨R, hR⟩ : ∃ R, R = blkAt A.b O := ⟨_, rfl⟩
      rw [← hR]
      have HR := Lib.hid (hR.trans hb)
      clear hb t1 t2 t3 hSn hR
      go_enter Try.func64, Try.ntmps64
      go_wp2_with (refine bk_alloc H.out rfl rfl ?_; intro g w1 h1; have H1 := Lib.hid h1; clear h1)
      have kc := blk_fits H1.out (i := i + 1) HI.out (O : Int) 32
      rw [hc] at kc
      with_reducible refine kc.mono ?_
      clear kc
      rintro e w' ⟨rfl, rfl⟩
      go_wp2_with fail
      have kc := ar_Base (p := p) (A := A) H1.out (i := i + 1) HI.out
      with_reducible refine kc.mono ?_
      clear kc
      rintro e w' ⟨rfl, rfl⟩
      go_wp2_with fail
      have kc := ar_WordAt H1.out (i := i + 1) HI.out ((A.base : Int) + O) O rfl (by have := HO.out; omega)
      rw [← HWE.out] at kc
      with_reducible refine kc.mono ?_
      clear kc
      rintro e w' ⟨rfl, rfl⟩
      go_wp2_with fail
      have kc := tag_Unpack w1 (W : Int) (Int.natCast_nonneg _) (by omega)
      rw [ht, hS] at kc
      with_reducible refine kc.mono ?_
      clear kc
      rintro e w' ⟨rfl, rfl⟩
      clear ht hc hS
      go_wp2_with fail
      have kc := blk_fits H1.out (i := i + 1) HI.out (O : Int) (S : Int)
      by_cases hf : O + S ≤ A.b.length
      · have hyes : couldB A.b (O : Int) (S : Int) = true := couldB_iff.2 (by have := HO.out; omega)
        rw [hyes] at kc
        clear hyes
        with_reducible refine kc.mono ?_
        clear kc
        rintro e w' ⟨rfl, rfl⟩
        go_wp2_with fail
        have kc := ar_Base (p := p) (A := A) H1.out (i := i + 1) HI.out
        with_reducible refine kc.mono ?_
        clear kc
        rintro e w' ⟨rfl, rfl⟩
        go_wp2_with fail
        have kc := ar_WordAt H1.out (i := i + 1) HI.out ((A.base : Int) + ((O : Int) + S - 8)) (O + S - 8) (by have := HO.out; omega) (by have := HT.out; omega)
        have hv := numAt_lt A.b (O + S - 8)
        obtain ⟨V, hV⟩ : ∃ V, V = numAt A.b (O + S - 8) := ⟨_, rfl⟩
        rw [← hV] at kc hv
        have HV := Lib.hid hV
        clear hV
        with_reducible refine kc.mono ?_
        clear kc
        rintro e w' ⟨rfl, rfl⟩
        by_cases hv2 : V = W
        · subst hv2
          go_wp2_with (refine bk_store H1.out 0 rfl rfl _ _ rfl rfl (O : Int) (S : Int) (tagU V) rfl ?_; intro w2 h2; have H2 := Lib.hid h2; clear h2)
          refine bodyPost_ret (results_row2 rfl _ _ g _ _ _ rfl (H2.out.row (i := 0) rfl) Try.underlying77 rfl size_bl) rfl ⟨by rw [HR.out, if_pos ⟨hf, HV.out.symm⟩]; rfl, H2.out.tail⟩
        · skip
          go_wp2_with (refine bk_store H1.out 0 rfl rfl _ _ rfl rfl 0 0 false rfl ?_; intro w2 h2; have H2 := Lib.hid h2; clear h2)
          refine bodyPost_ret (results_row2 rfl _ _ g _ _ _ rfl (H2.out.row (i := 0) rfl) Try.underlying77 rfl size_bl) rfl ⟨by rw [HR.out, if_neg (fun h => hv2 (HV.out.trans h.2))]; rfl, H2.out.tail⟩
      · have hno : couldB A.b (O : Int) (S : Int) = false := couldB_no (by intro h; omega)
        rw [hno] at kc
        clear hno
        with_reducible refine kc.mono ?_
        clear kc
        rintro e w' ⟨rfl, rfl⟩
        go_wp2_with (refine bk_store H1.out 0 rfl rfl _ _ rfl rfl 0 0 false rfl ?_; intro w2 h2; have H2 := Lib.hid h2; clear h2)
        refine bodyPost_ret (results_row2 rfl _ _ g _ _ _ rfl (H2.out.row (i := 0) rfl) Try.underlying77 rfl size_bl) rfl ⟨by rw [HR.out, if_neg (fun h => hf h.1)]; rfl, H2.out.tail⟩
  · have hc : couldB A.b o 32 = false := by cases hx : couldB A.b o 32 <;> simp_all
    rw [blkI_none hc]
    go_enter Try.func64, Try.ntmps64
    go_wp2_with (refine bk_alloc H.out rfl rfl ?_; intro g w1 h1; have H1 := Lib.hid h1; clear h1)
    have kc := blk_fits H1.out (i := i + 1) HI.out o 32
    rw [hc] at kc
    with_reducible refine kc.mono ?_
    clear kc hc
    rintro e w' ⟨rfl, rfl⟩
    go_wp2_with (refine bk_store H1.out 0 rfl rfl _ _ rfl rfl 0 0 false rfl ?_; intro w2 h2; have H2 := Lib.hid h2; clear h2)
    refine bodyPost_ret (results_row2 rfl _ _ g _ _ _ rfl (H2.out.row (i := 0) rfl) Try.underlying77 rfl size_bl) rfl ⟨rfl, H2.out.tail⟩
end
end Go.Proofs.Ytenbpbnffnodhaa

/- Blocks of an arena: the program's Ahead. -/
namespace Go.Own
theorem ahead_eq {b : List UInt8} {O S W : Nat} (h1 : 184 ≤ O) (h2 : O ≤ b.length) (hW : W = numAt b (O - 8)) (ht : isTag (W : Int) = true) (hS : tagS (W : Int) = S) :
    aheadI b (O : Int) = match blkI b ((O : Int) - S) with | some x => (if x.size = S ∧ x.used = tagU (W : Int) then some x else none) | none => none := by
  subst hW
  unfold aheadI
  rw [if_pos (Int.natCast_nonneg _), Int.toNat_natCast]
  have hn : (tagS ((numAt b (O - 8) : Nat) : Int)).toNat = S := by rw [hS, Int.toNat_natCast]
  have hg : blkI b ((O : Int) - S) = blkAt b (O - S) := by
    unfold blkI
    split
    · rw [show ((O : Int) - S).toNat = O - S by omega]
    · cases hx : blkAt b (O - S) with
      | none => rfl
      | some x => have := (blkAt_some hx).2.1; omega
  unfold aheadB
  rw [if_pos ⟨h1, h2, ht⟩, hn, hg]
  cases hx : blkAt b (O - S) with
  | none => rfl
  | some x =>
    have := (blkAt_some hx).2.1
    simp only
    by_cases hh : x.size = S ∧ x.used = tagU ((numAt b (O - 8) : Nat) : Int)
    · rw [if_pos ⟨by omega, hh⟩, if_pos hh]
    · rw [if_neg (fun h => hh h.2), if_neg hh]
theorem ahead_none {b : List UInt8} {O W : Nat} (hW : W = numAt b (O - 8)) (ht : isTag (W : Int) = false) : aheadI b (O : Int) = none := by
  subst hW
  unfold aheadI aheadB
  rw [if_pos (Int.natCast_nonneg _), Int.toNat_natCast, if_neg (fun h => by rw [ht] at h; exact Bool.false_ne_true h.2.2)]
theorem ahead_out {b : List UInt8} {o : Int} (h : ¬ (184 ≤ o ∧ o ≤ b.length)) : aheadI b o = none := by
  unfold aheadI
  split
  · unfold aheadB
    rw [if_neg (fun hh => h (by omega))]
  · rfl
end Go.Own
namespace Go.Proofs.Ytenbpbnffnodhaa
open Go Go.RowKit Go.Own
set_option linter.unusedVariables false
set_option maxRecDepth 100000
section
variable {B : Nat} {w0 w : World} {l : List Ob} {i p : Nat} {A : Ar}
set_option maxHeartbeats 4000000 in
theorem blk_Ahead (h : St B w0 w l) (hi : l[i]? = some (ArT p A)) (o : Int) :
    Calls Try.prog 65 #[arP p, .int .i64 o] w fun e w' => e = .returned (.tuple #[bkV (aheadI A.b o), errO (aheadI A.b o)]) ∧ St B w0 w' l := by
  obtain ⟨hsm, hbs⟩ := ar_small h hi
  have H := Lib.hid h; have HI := Lib.hid hi
  clear h hi
  by_cases c1 : 184 ≤ o
  · by_cases c2 : o ≤ A.b.length
    · obtain ⟨O, rfl⟩ := Int.eq_ofNat_of_zero_le (show 0 ≤ o by omega)
      have hO1 : 184 ≤ O := by omega
      have hO2 : O ≤ A.b.length := by omega
      have hw := numAt_lt A.b (O - 8)
      obtain ⟨W, hW⟩ : ∃ W, W = numAt A.b (O - 8) := ⟨_, rfl⟩
      rw [← hW] at hw
      have HWE := Lib.hid hW
      clear c1 c2 hW
      cases ht : isTag (W : Int) with
      | false =>
        rw [ahead_none HWE.out ht]
        go_enter Try.func65, Try.ntmps65
        go_wp2_with (refine bk_alloc H.out rfl rfl ?_; intro g w1 h1; have H1 := Lib.hid h1; clear h1)
        have kc := ar_Len (p := p) (A := A) H1.out (i := i + 1) HI.out
        with_reducible refine kc.mono ?_
        clear kc
        rintro e w' ⟨rfl, rfl⟩
        go_wp2_with fail
        have kc := ar_Base (p := p) (A := A) H1.out (i := i + 1) HI.out
        with_reducible refine kc.mono ?_
        clear kc
        rintro e w' ⟨rfl, rfl⟩
        go_wp2_with fail
        have kc := ar_WordAt H1.out (i := i + 1) HI.out ((A.base : Int) + ((O : Int) - 8)) (O - 8) (by omega) (by omega)
        rw [← HWE.out] at kc
        with_reducible refine kc.mono ?_
        clear kc
        rintro e w' ⟨rfl, rfl⟩
        go_wp2_with fail
        have kc := tag_Unpack w1 (W : Int) (Int.natCast_nonneg _) (by omega)
        rw [ht] at kc
        with_reducible refine kc.mono ?_
        clear kc
        rintro e w' ⟨rfl, rfl⟩
        clear ht
        go_wp2_with (refine bk_store H1.out 0 rfl rfl _ _ rfl rfl 0 0 false rfl ?_; intro w2 h2; have H2 := Lib.hid h2; clear h2)
        refine bodyPost_ret (results_row2 rfl _ _ g _ _ _ rfl (H2.out.row (i := 0) rfl) Try.underlying77 rfl size_bl) rfl ⟨rfl, H2.out.tail⟩
      | true =>
        obtain ⟨t1, t2, t3⟩ := tagS_isTag ht
        obtain ⟨S, hS⟩ := Int.eq_ofNat_of_zero_le (show 0 ≤ tagS W by omega)
        rw [hS] at t1 t2 t3
        have hS2 : S ≤ 16384 := by omega
        obtain ⟨U, hU⟩ : ∃ U, U = tagU (W : Int) := ⟨_, rfl⟩
        have HU := Lib.hid hU
        obtain ⟨R, hR⟩ : ∃ R, R = aheadI A.b (O : Int) := ⟨_, rfl⟩
        rw [← hR]
        have hR2 := hR.trans (ahead_eq hO1 hO2 HWE.out ht hS)
        obtain ⟨X, hX⟩ : ∃ X, X = blkI A.b ((O : Int) - S) := ⟨_, rfl⟩
        rw [← hX, ← hU] at hR2
        clear hU
        have HX := Lib.hid hX
        clear hR t1 t2 t3 hX
        cases X with
        | none =>
          simp only at hR2
          subst hR2
          go_enter Try.func65, Try.ntmps65
          go_wp2_with (refine bk_alloc H.out rfl rfl ?_; intro g w1 h1; have H1 := Lib.hid h1; clear h1)
          have kc := ar_Len (p := p) (A := A) H1.out (i := i + 1) HI.out
          with_reducible refine kc.mono ?_
          clear kc
          rintro e w' ⟨rfl, rfl⟩
          go_wp2_with fail
          have kc := ar_Base (p := p) (A := A) H1.out (i := i + 1) HI.out
          with_reducible refine kc.mono ?_
          clear kc
          rintro e w' ⟨rfl, rfl⟩
          go_wp2_with fail
          have kc := ar_WordAt H1.out (i := i + 1) HI.out ((A.base : Int) + ((O : Int) - 8)) (O - 8) (by omega) (by omega)
          rw [← HWE.out] at kc
          with_reducible refine kc.mono ?_
          clear kc
          rintro e w' ⟨rfl, rfl⟩
          go_wp2_with fail
          have kc := tag_Unpack w1 (W : Int) (Int.natCast_nonneg _) (by omega)
          rw [ht, hS] at kc
          with_reducible refine kc.mono ?_
          clear kc
          rintro e w' ⟨rfl, rfl⟩
          clear ht hS
          go_wp2_with fail
          have kc := blk_Get H1.out (i := i + 1) HI.out ((O : Int) - S)
          rw [← HX.out, show bkV none = .agg #[.int .i64 0, .int .i64 0, .bool false] from rfl, show errO none = .iface 183 (.int .i64 3) from rfl] at kc
          with_reducible refine kc.mono ?_
          clear kc
          rintro e w3 ⟨rfl, h3⟩
          have H3 := Lib.hid h3
          clear h3
          go_wp2_with (first | (refine bk_alloc H3.out rfl rfl ?_; intro g4 w4 h4; have H4 := Lib.hid h4; clear h4) | (refine bk_store H4.out 0 rfl rfl _ _ rfl rfl 0 0 false rfl ?_; intro w5 h5; have H5 := Lib.hid h5; clear h5 H4) | (refine bk_store H5.out 1 rfl rfl _ _ rfl rfl 0 0 false rfl ?_; intro w2 h2; have H2 := Lib.hid h2; clear h2))
          refine bodyPost_ret (results_row2 rfl _ _ g _ _ _ rfl (H2.out.row (i := 1) rfl) Try.underlying77 rfl size_bl) rfl ⟨rfl, H2.out.tail.tail⟩
        | some x =>
          have hx := HX.out
          have hxb : 0 ≤ (x.off : Int) ∧ x.size ≤ 16384 := by
            unfold blkI at hx
            split at hx
            · have := blkAt_some hx.symm; omega
            · cases hx
          obtain ⟨hxb1, hxb2⟩ := hxb
          clear hx
          have HR := Lib.hid hR2
          clear hR2
          go_enter Try.func65, Try.ntmps65
          go_wp2_with (refine bk_alloc H.out rfl rfl ?_; intro g w1 h1; have H1 := Lib.hid h1; clear h1)
          have kc := ar_Len (p := p) (A := A) H1.out (i := i + 1) HI.out
          with_reducible refine kc.mono ?_
          clear kc
          rintro e w' ⟨rfl, rfl⟩
          go_wp2_with fail
          have kc := ar_Base (p := p) (A := A) H1.out (i := i + 1) HI.out
          with_reducible refine kc.mono ?_
          clear kc
          rintro e w' ⟨rfl, rfl⟩
          go_wp2_with fail
          have kc := ar_WordAt H1.out (i := i + 1) HI.out ((A.base : Int) + ((O : Int) - 8)) (O - 8) (by omega) (by omega)
          rw [← HWE.out] at kc
          with_reducible refine kc.mono ?_
          clear kc
          rintro e w' ⟨rfl, rfl⟩
          go_wp2_with fail
          have kc := tag_Unpack w1 (W : Int) (Int.natCast_nonneg _) (by omega)
          rw [ht, hS, ← HU.out] at kc
          with_reducible refine kc.mono ?_
          clear kc
          rintro e w' ⟨rfl, rfl⟩
          clear ht hS
          go_wp2_with fail
          have kc := blk_Get H1.out (i := i + 1) HI.out ((O : Int) - S)
          rw [← HX.out, show bkV (some x) = .agg #[.int .i64 x.off, .int .i64 x.size, .bool x.used] from rfl, show errO (some x) = .nilIface from rfl] at kc
          with_reducible refine kc.mono ?_
          clear kc
          rintro e w3 ⟨rfl, h3⟩
          have H3 := Lib.hid h3
          clear h3
          by_cases q1 : x.size = S
          · subst q1
            by_cases q2 : x.used = U
            · subst q2
              go_wp2_with (first | (refine bk_alloc H3.out rfl rfl ?_; intro g4 w4 h4; have H4 := Lib.hid h4; clear h4) | (refine bk_store H4.out 0 rfl rfl _ _ rfl rfl (x.off : Int) (x.size : Int) x.used rfl ?_; intro w5 h5; have H5 := Lib.hid h5; clear h5 H4; have k1 : w5.cell? ⟨g4, 1, none⟩ = some (.int .i64 x.size) := (H5.out.row (i := 0) rfl).cell 1; have k2 : w5.cell? ⟨g4, 2, none⟩ = some (.bool x.used) := (H5.out.row (i := 0) rfl).cell 2) | (refine bk_load H5.out 0 rfl rfl _ rfl rfl ?_) | (refine bk_store H5.out 1 rfl rfl _ _ rfl rfl (x.off : Int) (x.size : Int) x.used rfl ?_; intro w2 h2; have H2 := Lib.hid h2; clear h2))
              refine bodyPost_ret (results_row2 rfl _ _ g _ _ _ rfl (H2.out.row (i := 1) rfl) Try.underlying77 rfl size_bl) rfl ⟨by rw [HR.out]; simp only; rw [if_pos ⟨trivial, trivial⟩]; rfl, H2.out.tail.tail⟩
            · have hq : U = !x.used := by revert q2; cases x.used <;> cases U <;> simp
              subst hq
              have HQ := Lib.hid q2
              clear q2
              go_wp2_with (first | (refine bk_alloc H3.out rfl rfl ?_; intro g4 w4 h4; have H4 := Lib.hid h4; clear h4) | (refine bk_store H4.out 0 rfl rfl _ _ rfl rfl (x.off : Int) (x.size : Int) x.used rfl ?_; intro w5 h5; have H5 := Lib.hid h5; clear h5 H4; have k1 : w5.cell? ⟨g4, 1, none⟩ = some (.int .i64 x.size) := (H5.out.row (i := 0) rfl).cell 1; have k2 : w5.cell? ⟨g4, 2, none⟩ = some (.bool x.used) := (H5.out.row (i := 0) rfl).cell 2) | (refine bk_store H5.out 1 rfl rfl _ _ rfl rfl 0 0 false rfl ?_; intro w2 h2; have H2 := Lib.hid h2; clear h2))
              refine bodyPost_ret (results_row2 rfl _ _ g _ _ _ rfl (H2.out.row (i := 1) rfl) Try.underlying77 rfl size_bl) rfl ⟨by rw [HR.out]; simp only; rw [if_neg (fun h => HQ.out h.2)]; rfl, H2.out.tail.tail⟩
          · have q1i : ¬ ((x.size : Int) = (S : Int)) := by omega
            have HQ := Lib.hid q1
            clear q1
            go_wp2_with (first | (refine bk_alloc H3.out rfl rfl ?_; intro g4 w4 h4; have H4 := Lib.hid h4; clear h4) | (refine bk_store H4.out 0 rfl rfl _ _ rfl rfl (x.off : Int) (x.size : Int) x.used rfl ?_; intro w5 h5; have H5 := Lib.hid h5; clear h5 H4; have k1 : w5.cell? ⟨g4, 1, none⟩ = some (.int .i64 x.size) := (H5.out.row (i := 0) rfl).cell 1; have k2 : w5.cell? ⟨g4, 2, none⟩ = some (.bool x.used) := (H5.out.row (i := 0) rfl).cell 2) | (refine bk_store H5.out 1 rfl rfl _ _ rfl rfl 0 0 false rfl ?_; intro w2 h2; have H2 := Lib.hid h2; clear h2))
            refine bodyPost_ret (results_row2 rfl _ _ g _ _ _ rfl (H2.out.row (i := 1) rfl) Try.underlying77 rfl size_bl) rfl ⟨by rw [HR.out]; simp only; rw [if_neg (fun h => HQ.out h.1)]; rfl, H2.out.tail.tail⟩
    · rw [ahead_out (fun h => c2 h.2)]
      have c3 : (A.b.length : Int) < o := by omega
      clear c2
      go_enter Try.func65, Try.ntmps65
      go_wp2_with (refine bk_alloc H.out rfl rfl ?_; intro g w1 h1; have H1 := Lib.hid h1; clear h1)
      have kc := ar_Len (p := p) (A := A) H1.out (i := i + 1) HI.out
      with_reducible refine kc.mono ?_
      clear kc
      rintro e w' ⟨rfl, rfl⟩
      go_wp2_with (refine bk_store H1.out 0 rfl rfl _ _ rfl rfl 0 0 false rfl ?_; intro w2 h2; have H2 := Lib.hid h2; clear h2)
      refine bodyPost_ret (results_row2 rfl _ _ g _ _ _ rfl (H2.out.row (i := 0) rfl) Try.underlying77 rfl size_bl) rfl ⟨rfl, H2.out.tail⟩
  · rw [ahead_out (fun h => c1 h.1)]
    have c3 : o < 184 := by omega
    clear c1
    go_enter Try.func65, Try.ntmps65
    go_wp2_with (first | (refine bk_alloc H.out rfl rfl ?_; intro g w1 h1; have H1 := Lib.hid h1; clear h1) | (refine bk_store H1.out 0 rfl rfl _ _ rfl rfl 0 0 false rfl ?_; intro w2 h2; have H2 := Lib.hid h2; clear h2))
    refine bodyPost_ret (results_row2 rfl _ _ g _ _ _ rfl (H2.out.row (i := 0) rfl) Try.underlying77 rfl size_bl) rfl ⟨rfl, H2.out.tail⟩
end
end Go.Proofs.Ytenbpbnffnodhaa
