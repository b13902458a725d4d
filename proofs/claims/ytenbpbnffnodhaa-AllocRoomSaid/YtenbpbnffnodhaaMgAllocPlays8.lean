/- Texts of the proof of 'AllocPlays', part 8: words on memory, contracts of functions, plain laws. No condition. -/
import Derived.Test.YtenbpbnffnodhaaMgAllocPlays1
import Derived.Test.YtenbpbnffnodhaaMgAllocPlays2
import Derived.Test.YtenbpbnffnodhaaMgAllocPlays3
import Derived.Test.YtenbpbnffnodhaaMgAllocPlays6
import Derived.Test.YtenbpbnffnodhaaMgAllocPlays7
set_option linter.unusedSimpArgs false
set_option linter.unusedVariables false
/- Whether an arena's bytes are right, in plain words. No program. -/
namespace Go.Own
/-- No two free blocks stand next to each other. -/
def Apart : List Blk → Prop
  | [] => True
  | x :: r => (∀ y, r.head? = some y → x.used = true ∨ y.used = true) ∧ Apart r
theorem Apart.append : ∀ {l1 l2 : List Blk}, Apart (l1 ++ l2) ↔ Apart l1 ∧ Apart l2 ∧ ∀ x y, l1.getLast? = some x → l2.head? = some y → x.used = true ∨ y.used = true
  | [], l2 => by simp [Apart]
  | [x], l2 => by
    simp only [List.cons_append, List.nil_append, Apart, List.getLast?_singleton, Option.some.injEq, List.head?_nil]
    constructor
    · intro h; exact ⟨⟨fun _ h => by simp at h, trivial⟩, h.2, fun a y e hy => e ▸ h.1 y hy⟩
    · intro h; exact ⟨fun y hy => h.2.2 x y rfl hy, h.2.1⟩
  | x :: z :: l1, l2 => by
    have ih := Apart.append (l1 := z :: l1) (l2 := l2)
    simp only [List.cons_append] at ih ⊢
    rw [Apart, ih, Apart, List.getLast?_cons_cons]
    simp only [List.head?_cons]
    constructor
    · rintro ⟨h1, h2, h3, h4⟩; exact ⟨⟨h1, h2⟩, h3, h4⟩
    · rintro ⟨⟨h1, h2⟩, h3, h4⟩; exact ⟨h1, h2, h3, h4⟩
theorem Apart.snoc {l : List Blk} {x : Blk} : Apart (l ++ [x]) ↔ Apart l ∧ ∀ y, l.getLast? = some y → y.used = true ∨ x.used = true := by
  rw [Apart.append]
  simp only [Apart, List.head?_nil, List.head?_cons, Option.some.injEq]
  constructor
  · rintro ⟨h1, _, h3⟩; exact ⟨h1, fun y hy => h3 y x hy rfl⟩
  · rintro ⟨h1, h3⟩; exact ⟨h1, ⟨fun _ h => (by cases h), trivial⟩, fun y z hy hz => hz ▸ h3 y hy⟩
theorem Apart.take {l : List Blk} (h : Apart l) (k : Nat) : Apart (l.take k) := by
  rw [← List.take_append_drop k l] at h
  exact (Apart.append.1 h).1
theorem take_last {α : Type} {l : List α} {k : Nat} (hk : k < l.length) : (l.take (k + 1)).getLast? = some l[k] := by
  rw [List.take_succ_eq_append_getElem hk, List.getLast?_concat]
/-- The next one: no free one behind a free one. -/
theorem Apart.step {l : List Blk} {k : Nat} (hk : k < l.length) (h : Apart (l.take k)) (hn : ∀ j, k = j + 1 → ∀ hj : j < l.length, l[j].used = true ∨ l[k].used = true) : Apart (l.take (k + 1)) := by
  rw [List.take_succ_eq_append_getElem hk]
  refine Apart.snoc.2 ⟨h, fun y hy => ?_⟩
  cases k with
  | zero => simp at hy
  | succ j =>
    rw [take_last (by omega)] at hy
    cases hy
    exact hn j rfl (by omega)
theorem Apart.not {l : List Blk} {k : Nat} (hk : k + 1 < l.length) (h1 : l[k].used = false) (h2 : l[k + 1].used = false) : ¬ Apart l := by
  intro h
  have h := h.take (k + 2)
  rw [List.take_succ_eq_append_getElem hk] at h
  have := (Apart.snoc.1 h).2 _ (take_last (by omega))
  rw [h1, h2] at this
  simp at this
/-- An arena that Check finds right. -/
def IsRight (b : List UInt8) : Prop := ∃ bs ls, Right b bs ls ∧ Apart bs
theorem Right.walk {b : List UInt8} {bs : List Blk} {ls : Nat → List Nat} (h : Right b bs ls) : walkB b = some bs := (walkB_tile b bs).2 ⟨h.len, tile_to.2 h.tile⟩
theorem Right.all {b : List UInt8} {bs : List Blk} {ls : Nat → List Nat} (h : Right b bs ls) {c : Nat} (hc : c < 22) : allB b c = some (ls c) := h.lists.all h.good h.len h.max hc
theorem memberB_some {b : List UInt8} {o c : Nat} (h : memberB b o c = true) : ∃ x, blkAt b o = some x ∧ x.off = o ∧ x.used = false ∧ cls x.size = c := by
  unfold memberB at h
  cases hb : blkAt b o with
  | none => rw [hb] at h; cases h
  | some x =>
    rw [hb] at h
    simp only [Bool.and_eq_true, Bool.not_eq_true', decide_eq_true_eq] at h
    exact ⟨x, rfl, (blkAt_some hb).1, h.1, h.2⟩
theorem allFrom_inv {b : List UInt8} {c : Nat} : ∀ (f at_ last : Nat) (l : List Nat), allFrom b c f at_ last = some l → (∃ z, Seg b last at_ l z 0) ∧ (∀ o ∈ l, o ≠ 0 ∧ memberB b o c = true) ∧ l.length ≤ f
  | 0, at_, last, l, h => by
    unfold allFrom at h
    split at h
    · rename_i h0; cases h; exact ⟨⟨last, rfl, h0.symm⟩, fun o ho => (by cases ho), Nat.le_refl _⟩
    · cases h
  | f + 1, at_, last, l, h => by
    unfold allFrom at h
    split at h
    · rename_i h0; cases h; exact ⟨⟨last, rfl, h0.symm⟩, fun o ho => (by cases ho), Nat.zero_le _⟩
    · rename_i h0
      split at h
      · cases h
      · rename_i h1
        simp only [not_or, Bool.not_eq_false, Decidable.not_not] at h1
        cases hr : allFrom b c f (numAt b (at_ + 8)) at_ with
        | none => rw [hr] at h; cases h
        | some r =>
          rw [hr] at h
          cases h
          obtain ⟨⟨z, i1⟩, i2, i3⟩ := allFrom_inv f _ _ r hr
          exact ⟨⟨z, rfl, h1.2, i1⟩, fun o ho => by
            rcases List.mem_cons.1 ho with rfl | ho
            · exact ⟨h0, h1.1⟩
            · exact i2 o ho, by simpa using i3⟩
theorem allB_inv {b : List UInt8} {c : Nat} {l : List Nat} (h : allB b c = some l) : 184 ≤ b.length ∧ bitAt (numAt b 0) c = decide (l ≠ []) ∧ (∃ z, Seg b 0 (numAt b (headO c)) l z 0) ∧ ∀ o ∈ l, o ≠ 0 ∧ memberB b o c = true := by
  unfold allB at h
  split at h
  · cases h
  · split at h
    · cases h
    · rename_i h1 h2
      obtain ⟨⟨z, i1⟩, i2, _⟩ := allFrom_inv _ _ _ _ h
      refine ⟨by omega, ?_, ⟨z, i1⟩, i2⟩
      have h2 : bitAt (numAt b 0) c = decide (numAt b (headO c) ≠ 0) := by
        cases hq : bitAt (numAt b 0) c <;> cases hr : decide (numAt b (headO c) ≠ 0) <;> simp_all
      rw [h2]
      cases l with
      | nil => have := i1.2; simp [← this]
      | cons o r => have := i1.1; have h0 := (i2 o (List.mem_cons_self ..)).1; simp [this, h0]
/-- What Check looks at makes an arena right. -/
theorem right_mk {b : List UInt8} {bs : List Blk} {ls : Nat → List Nat} (hm : b.length ≤ 16384) (hw : walkB b = some bs) (h0 : numAt b 0 < 4194304) (ha : ∀ c, c < 22 → allB b c = some (ls c))
    (hin : ∀ c, c < 22 → ∀ o ∈ ls c, ∃ x ∈ bs, x.off = o ∧ x.used = false) (hnd : ∀ c, c < 22 → (ls c).Nodup) (hc : ∀ y ∈ bs, y.used = false → y.off ∈ ls (clsN y.size)) : Right b bs ls := by
  obtain ⟨hlen, ht⟩ := (walkB_tile b bs).1 hw
  refine ⟨hm, tile_to.1 ht, ⟨h0, fun c hc => (allB_inv (ha c hc)).2.1, fun c hc => (allB_inv (ha c hc)).2.2.1, fun c hc o ho => ?_, hnd⟩, hc⟩
  obtain ⟨x, hx, rfl, hu⟩ := hin c hc o ho
  obtain ⟨y, hy, _, _, hcl⟩ := memberB_some ((allB_inv (ha c hc)).2.2.2 _ ho).2
  have := (ht.mem hx).2.1
  rw [hy] at this
  cases this
  exact ⟨x, hx, rfl, hu, hcl⟩
theorem walk_len {b : List UInt8} {L : List Blk} (h : walkB b = some L) (hm : b.length ≤ 16384) : L.length ≤ 16384 := by
  obtain ⟨hlen, ht⟩ := (walkB_tile b L).1 h
  have := nodup_len b.length (L.map (·.off)) (List.Pairwise.map _ (fun _ _ h => h) ht.offs) fun x hx => by
    obtain ⟨y, hy, rfl⟩ := List.mem_map.1 hx
    have := ht.mem hy; have := blkAt_some this.2.1; omega
  rw [List.length_map] at this; omega
theorem isTag_head {w : Nat} (h : w = 0 ∨ w % 16 = 8) : isTag w = false := by
  cases ht : isTag w with
  | false => rfl
  | true =>
    exfalso
    unfold isTag at ht
    rw [isSize_iff] at ht
    omega
/-! ### The program's way: the free blocks, by place and class, struck out one by one -/
def freeOf (bs : List Blk) : List Blk := bs.filter fun x => !x.used
theorem mem_freeOf {bs : List Blk} {x : Blk} : x ∈ freeOf bs ↔ x ∈ bs ∧ x.used = false := by unfold freeOf; rw [List.mem_filter]; simp
def keyOf' (x : Blk) : Nat × Nat := (x.off, clsN x.size)
/-- What is left of the free blocks once the classes below c are done, and of class c those of l. -/
def leftK (bs : List Blk) (ls : Nat → List Nat) (c : Nat) (l : List Nat) : List (Nat × Nat) := ((freeOf bs).map keyOf').filter fun q => !(decide (q.2 < c) && decide (q.1 ∈ ls q.2)) && !(decide (q.2 = c) && decide (q.1 ∈ l))
theorem mem_leftK {bs : List Blk} {ls : Nat → List Nat} {c : Nat} {l : List Nat} {q : Nat × Nat} : q ∈ leftK bs ls c l ↔ (∃ x ∈ bs, x.used = false ∧ keyOf' x = q) ∧ ¬ (q.2 < c ∧ q.1 ∈ ls q.2) ∧ ¬ (q.2 = c ∧ q.1 ∈ l) := by
  unfold leftK
  rw [List.mem_filter, List.mem_map]
  simp only [mem_freeOf, Bool.and_eq_true, Bool.not_eq_true', Bool.and_eq_false_imp, decide_eq_true_eq, decide_eq_false_iff_not, not_and, and_assoc]
theorem leftK_start {bs : List Blk} {ls : Nat → List Nat} : leftK bs ls 0 [] = (freeOf bs).map keyOf' := by
  unfold leftK
  rw [List.filter_eq_self]
  intro q _
  simp
theorem leftK_next {bs : List Blk} {ls : Nat → List Nat} {c : Nat} : leftK bs ls c (ls c) = leftK bs ls (c + 1) [] := by
  unfold leftK
  congr 1
  funext q
  by_cases h : q.2 = c
  · subst h; simp
  · have : decide (q.2 < c + 1) = decide (q.2 < c) := by
      by_cases h2 : q.2 < c
      · rw [decide_eq_true h2, decide_eq_true (by omega)]
      · rw [decide_eq_false h2, decide_eq_false (by omega)]
    rw [this]; simp [h]
theorem leftK_congr {bs : List Blk} {ls ls' : Nat → List Nat} {c : Nat} {l : List Nat} (h : ∀ d, d < c → ls d = ls' d) : leftK bs ls c l = leftK bs ls' c l := by
  unfold leftK
  congr 1
  funext q
  by_cases hq : q.2 < c
  · rw [h q.2 hq]
  · rw [decide_eq_false hq]; rfl
theorem leftK_nodup {b : List UInt8} {bs : List Blk} {ls : Nat → List Nat} {c : Nat} {l : List Nat} (ht : Tile b 184 bs) : (leftK bs ls c l).Nodup := by
  unfold leftK freeOf
  refine List.Pairwise.filter _ (List.Pairwise.map keyOf' (fun x y h => ?_) (List.Pairwise.filter _ ht.offs))
  intro e
  exact h (congrArg Prod.fst e)
theorem leftK_erase {b : List UInt8} {bs : List Blk} {ls : Nat → List Nat} {c o : Nat} {l : List Nat} (ht : Tile b 184 bs) : (leftK bs ls c l).filter (· ≠ (o, c)) = leftK bs ls c (l ++ [o]) := by
  unfold leftK
  rw [List.filter_filter]
  congr 1
  funext q
  obtain ⟨p, d⟩ := q
  by_cases h1 : d = c
  · subst h1
    by_cases h2 : p = o
    · subst h2; simp
    · simp [h2]
  · simp [h1]
/-- An arena that is right leaves nothing; each one of its lists is struck out. -/
theorem Right.left {b : List UInt8} {bs : List Blk} {ls : Nat → List Nat} (h : Right b bs ls) {c : Nat} (hc : c < 22) {k : Nat} (hk : k < (ls c).length) : ((ls c)[k], c) ∈ leftK bs ls c ((ls c).take k) := by
  obtain ⟨x, hx, h1, h2, h3⟩ := h.lists.mem c hc _ (List.getElem_mem hk)
  refine mem_leftK.2 ⟨⟨x, hx, h2, by unfold keyOf'; rw [h1]; unfold clsN; rw [h3]; rfl⟩, fun h => Nat.lt_irrefl _ h.1, fun h4 => ?_⟩
  obtain ⟨j, hj, he⟩ := List.mem_iff_getElem.1 h4.2
  rw [List.length_take] at hj
  rw [List.getElem_take] at he
  exact (List.pairwise_iff_getElem.1 (h.lists.nodup c hc)) j k (by omega) hk (by omega) he
theorem Right.leftNil {b : List UInt8} {bs : List Blk} {ls : Nat → List Nat} (h : Right b bs ls) : leftK bs ls 22 [] = [] := by
  rw [List.eq_nil_iff_forall_not_mem]
  intro q hq
  obtain ⟨⟨x, hx, h1, rfl⟩, h3, _⟩ := mem_leftK.1 hq
  exact h3 ⟨(clsN_lt (h.good.mem hx).2.1).1, h.cover x hx h1⟩
/-- The lists that were struck out, and nothing left: the arena is right. -/
theorem right_struck {b : List UInt8} {bs : List Blk} {ls : Nat → List Nat} (hm : b.length ≤ 16384) (hw : walkB b = some bs) (h0 : numAt b 0 < 4194304) (ha : ∀ c, c < 22 → allB b c = some (ls c))
    (hin : ∀ c, c < 22 → ∀ k, (hk : k < (ls c).length) → ((ls c)[k], c) ∈ leftK bs ls c ((ls c).take k)) (hn : leftK bs ls 22 [] = []) : Right b bs ls := by
  obtain ⟨hlen, ht⟩ := (walkB_tile b bs).1 hw
  refine right_mk hm hw h0 ha (fun c hc o ho => ?_) (fun c hc => ?_) fun y hy hu => ?_
  · obtain ⟨k, hk, rfl⟩ := List.mem_iff_getElem.1 ho
    obtain ⟨⟨x, hx, h1, h2⟩, _⟩ := mem_leftK.1 (hin c hc k hk)
    exact ⟨x, hx, congrArg Prod.fst h2, h1⟩
  · refine List.pairwise_iff_getElem.2 fun i j hi hj hij e => ?_
    have := (mem_leftK.1 (hin c hc j hj)).2.2
    refine this ⟨rfl, ?_⟩
    rw [← e]
    exact List.mem_iff_getElem.2 ⟨i, by rw [List.length_take]; omega, by rw [List.getElem_take]⟩
  · have hcy := clsN_lt (ht.mem hy).2.1
    exact Classical.byContradiction fun hne => (List.eq_nil_iff_forall_not_mem.1 hn (keyOf' y)) (mem_leftK.2 ⟨⟨y, hy, hu, rfl⟩, fun h1 => hne h1.2, fun h => by cases h.2⟩)
end Go.Own

/- Lists of free blocks of bytes: the reference's Find and Rebuild. -/
namespace Go.Proofs.Ytenbpbnffnodhaa
open Go Go.RowKit Go.Own
set_option linter.unusedVariables false
set_option maxRecDepth 100000
section
variable {B : Nat} {w0 w : World} {l : List Ob} {i n cp : Nat} {a : Option Addr} {b : List UInt8}
end
end Go.Proofs.Ytenbpbnffnodhaa

/- Is an arena right: the reference's Check. -/
namespace Go.Own
open Go Go.RowKit
end Go.Own
namespace Go.Proofs.Ytenbpbnffnodhaa
open Go Go.RowKit Go.Own
set_option linter.unusedVariables false
set_option maxRecDepth 100000
section
variable {B : Nat} {w0 w : World} {l : List Ob} {i n cp : Nat} {a : Option Addr} {b : List UInt8}
theorem ints_at (h : St B w0 w l) {i : Nat} {a : Option Addr} {c : Nat} {n : Nat} {L : List Nat} (hi : l[i]? = some (IntsO (.slice a n c) L)) (k : Nat) (hk : k < L.length) : ∃ b o, a = some ⟨b, o, none⟩ ∧ w.cell? ⟨b, o + k, none⟩ = some (.int .i64 (L[k] : Nat)) := by
  obtain ⟨a5, c5, e5, hs5⟩ := ints_slice h hi
  cases e5
  exact Sl.cells hs5 k (.int .i64 (L[k] : Nat)) (by simp [hk])
/-- What Check tells. -/
def ChkR (b : List UInt8) (r : Bool) : Prop := r = true ↔ IsRight b
theorem chk_no {b : List UInt8} (h : ¬ IsRight b) : ChkR b false := ⟨fun e => (by cases e), fun e => absurd e h⟩
theorem chk_yes {b : List UInt8} (h : IsRight b) : ChkR b true := ⟨fun _ => h, fun _ => rfl⟩
end
end Go.Proofs.Ytenbpbnffnodhaa

/- Is an arena right: the program's free and Check. -/
namespace Go.Own
theorem freeKeys_snoc (L : List Blk) (x : Blk) : (freeOf (L ++ [x])).map keyOf' = (freeOf L).map keyOf' ++ (if x.used then [] else [keyOf' x]) := by
  unfold freeOf
  rw [List.filter_append, List.map_append]
  cases hu : x.used <;> simp [hu]
end Go.Own
namespace Go.Proofs.Ytenbpbnffnodhaa
open Go Go.RowKit Go.Own
set_option linter.unusedVariables false
set_option maxRecDepth 100000
section
variable {B : Nat} {w0 w : World} {l : List Ob} {i p bs cp : Nat} {b : List UInt8}
/-- What free tells. -/
def FreR (B : Nat) (w0 : World) (l : List Ob) (L : List Blk) (v : Value) (r : Bool) (w' : World) : Prop :=
  (r = true → Apart L ∧ ∃ g, v = .map (some g) ∧ St B w0 w' (MpO g ((freeOf L).map keyOf') :: l)) ∧ (r = false → ¬ Apart L ∧ St B w0 w' l)
set_option maxHeartbeats 16000000 in
theorem chk_free (h : St B w0 w l) {a : Option Addr} {c : Nat} {L : List Blk} (hi : l[i]? = some (BlsO (.slice a L.length c) L)) (hW : walkB b = some L) (hsm : b.length ≤ 16384) :
    Calls Try.prog 182 #[.slice a L.length c] w fun e w' => ∃ v r, e = .returned (.tuple #[v, .bool r]) ∧ FreR B w0 l L v r w' := by
  have hLs := walk_len hW hsm
  obtain ⟨hlen, ht⟩ := (walkB_tile b L).1 hW
  have hoffs := ht.offs
  have hmem : ∀ x ∈ L, x.off ≤ 16384 ∧ x.size ≤ 16384 ∧ isSize x.size = true := fun x hx => by
    have h1 := ht.mem hx; have h2 := blkAt_some h1.2.1
    exact ⟨by omega, by omega, blkAt_isSize h1.2.1⟩
  have H0 := Lib.hid (mp_make h); have HI := Lib.hid hi; have HM := Lib.hid hmem; have HO := Lib.hid hoffs
  have hmk : (Instr.makeMap mpT none).run Try.prog w = .ok (.map (some w.heap.size)) (w.alloc (.map #[] 0)) := run_makeMap _ _
  generalize w.alloc (.map #[] 0) = w1 at *
  generalize w.heap.size = g at *
  clear h hi hmem hoffs ht hW
  go_enter Try.func182, Try.ntmps182
  go_wp2
  go_loopw [10] (fun vi wr => ∃ k : Nat, k ≤ L.length ∧ vi = .int .i64 k ∧ Apart (L.take k) ∧ St B w0 wr (MpO g ((freeOf (L.take k)).map keyOf') :: l)) (fun vi _ => L.length - (intOf vi).toNat)
  case atStart => exact ⟨0, Nat.zero_le _, rfl, trivial, H0.out⟩
  case round =>
    obtain ⟨k, hk, rfl, hAp, hS⟩ := hrel
    clear H0
    by_cases hlt : k < L.length
    · have d2 : decide ((k : Int) < (L.length : Int)) = true := decide_eq_true (by omega)
      obtain ⟨bb, bo, rfl, hr⟩ := bl_at (bls_sl hS (i := i + 1) HI.out).2 k hlt
      have hprev : ∀ w', St B w0 w' (MpO g ((freeOf (L.take k)).map keyOf') :: l) → ∀ j, k = j + 1 → ∃ hj : j < L.length, w'.cell? ⟨bb, bo + j * 3 + 2, none⟩ = some (.bool L[j].used) := fun w' hS' j hj => by
        have hj2 : j < L.length := by omega
        obtain ⟨bb2, bo2, e2, hr2⟩ := bl_at (bls_sl hS' (i := i + 1) HI.out).2 j hj2
        cases e2
        exact ⟨hj2, (bl_cells hr2).2.2⟩
      have hstep := fun hn => Apart.step hlt hAp hn
      have hnot : ∀ j, (hj : k = j + 1) → (hj2 : j < L.length) → L[j].used = false → L[k].used = false → ¬ Apart L := fun j hj hj2 h1 h2 => by
        subst hj; exact Apart.not hlt h1 h2
      have hsn := freeKeys_snoc (L.take k) L[k]
      rw [← List.take_succ_eq_append_getElem hlt] at hsn
      have hxm := HM.out L[k] (List.getElem_mem hlt)
      have hnk : L[k].used = false → keyOf' L[k] ∉ (freeOf (L.take k)).map keyOf' := fun _ hmm => by
        obtain ⟨y, hy, e⟩ := List.mem_map.1 hmm
        have hy := (mem_freeOf.1 hy).1
        have hp := HO.out
        rw [← List.take_append_drop k L] at hp
        have hd : L[k] ∈ L.drop k := by rw [List.drop_eq_getElem_cons hlt]; exact List.mem_cons_self ..
        exact (List.pairwise_append.1 hp).2.2 y hy _ hd (congrArg Prod.fst e)
      generalize L[k] = x at *
      generalize hks : (freeOf (L.take k)).map keyOf' = ks at *
      have HS := Lib.hid hS; have HST := Lib.hid hstep; have HSN := Lib.hid hsn; have HPREV := Lib.hid hprev; have HR := Lib.hid hr; have HNOT := Lib.hid hnot
      clear hS hr hstep hsn hAp hprev hnot hks
      cases hu : x.used with
      | true =>
        have hst : Apart (L.take (k + 1)) := HST.out fun _ _ _ => .inr hu
        have hsn : (freeOf (L.take (k + 1))).map keyOf' = ks := by rw [HSN.out, hu]; simp
        have HA := Lib.hid hst; have HQ := Lib.hid hsn
        clear hst hsn hnk
        go_wp2_with (first | (refine bl_mid rfl _ rfl bb (bo + k * 3) rfl x HR.out ?_) | (refine bk_alloc HS.out rfl rfl ?_; intro g4 w4 h4; have T4 := Lib.hid h4; clear h4) | (refine bk_store T4.out 0 rfl rfl _ _ rfl rfl x.off x.size true rfl ?_; intro w5 h5; have T5 := Lib.hid h5; clear h5 T4; have k2 : w5.cell? ⟨g4, 2, none⟩ = some (.bool true) := (T5.out.row (i := 0) rfl).cell 2))
        exact ⟨⟨k + 1, hlt, by go_num, HA.out, by rw [HQ.out]; exact T5.out.tail⟩, by simp [intOf]; omega⟩
      | false =>
        have hq2 : x.off ≤ 65536 ∧ clsN x.size ≤ 65536 := ⟨by omega, by have := clsN_lt22 hxm.2.2; omega⟩
        have hnk := hnk hu
        have hsn : (freeOf (L.take (k + 1))).map keyOf' = ks ++ [(x.off, clsN x.size)] := by rw [HSN.out, hu]; rfl
        have hcy := cls_size hxm.2.2
        have hC : cls x.size = ((clsN x.size : Nat) : Int) := by unfold clsN; omega
        have KC : Hid (∀ w, _) := Lib.hid fun w => class_Class w (x.size : Int) (by omega) (by omega)
        rw [hC] at KC
        unfold keyOf' at hnk
        have HQ := Lib.hid hsn; have HNK := Lib.hid hnk; have HQ2 := Lib.hid hq2
        generalize clsN x.size = cz at *
        have fin : Apart (L.take (k + 1)) → ∀ w', St B w0 w' (MpO g (ks ++ [(x.off, cz)]) :: l) → ∃ k_1 : Nat, k_1 ≤ L.length ∧ Value.int .i64 ((k + 1 : Nat) : Int) = .int .i64 k_1 ∧ Apart (L.take k_1) ∧ St B w0 w' (MpO g ((freeOf (L.take k_1)).map keyOf') :: l) :=
          fun hA w' hw => ⟨k + 1, hlt, rfl, hA, by rw [HQ.out]; exact hw⟩
        have FIN := Lib.hid fin
        clear hsn hnk hq2 hC hcy fin
        have go : ∀ (hok : Apart (L.take (k + 1))), True := fun _ => trivial
        clear go
        by_cases hk0 : k = 0
        · subst hk0
          have HA := Lib.hid (HST.out fun j hj _ => by omega)
          go_wp2_with (first | (refine bl_mid rfl _ rfl bb (bo + 0 * 3) rfl x HR.out ?_) | (refine bk_alloc HS.out rfl rfl ?_; intro g4 w4 h4; have T4 := Lib.hid h4; clear h4) | (refine bk_store T4.out 0 rfl rfl _ _ rfl rfl x.off x.size false rfl ?_; intro w5 h5; have T5 := Lib.hid h5; clear h5 T4; have k2 : w5.cell? ⟨g4, 2, none⟩ = some (.bool false) := (T5.out.row (i := 0) rfl).cell 2))
          clear k2
          refine flows_begin (S := fun w' => ∃ ks', St B w0 w' (BkO g4 x.off x.size false :: MpO g ks' :: l)) hmixed 8 rfl (by repeat (first | with_reducible refine ps_then ?_ | with_reducible refine ps_block ?_ | with_reducible exact ps_body | refine ps_then ?_ | refine ps_block ?_ | exact ps_body)) ⟨_, T5.out.drew⟩ (fun hps => ?_)
          simp only [List.replicate]
          refine flows_take 0 (v := ?_) (a' := ?_) hps rfl (by kernel_rfl) rfl ?_ ?_ ?_
          rotate_left 2
          · intro w' hk; go_simp; try rfl
          · simp only [Act.put, List.setIfInBounds_toArray, List.set_cons_succ, List.set_cons_zero]; try rfl
          refine flows_take 1 (v := ?_) (a' := ?_) hps rfl (by kernel_rfl) rfl ?_ ?_ ?_
          rotate_left 2
          · intro w' hk; go_simp; try rfl
          · simp only [Act.put, List.setIfInBounds_toArray, List.set_cons_succ, List.set_cons_zero]; try rfl
          refine flows_take 2 (v := ?_) (a' := ?_) hps rfl (by kernel_rfl) rfl ?_ ?_ ?_
          rotate_left 2
          · intro w' hk; obtain ⟨_, hq⟩ := hk; have c0 := (hq.row (i := 0) rfl).cell 0; simp only [List.getElem?_cons_succ, List.getElem?_cons_zero] at c0; go_simp; try rfl
          · simp only [Act.put, List.setIfInBounds_toArray, List.set_cons_succ, List.set_cons_zero]; try rfl
          refine flows_take 3 (v := ?_) (a' := ?_) hps rfl (by kernel_rfl) rfl ?_ ?_ ?_
          rotate_left 2
          · intro w' hk; go_simp; try rfl
          · simp only [Act.put, List.setIfInBounds_toArray, List.set_cons_succ, List.set_cons_zero]; try rfl
          refine flows_take 4 (v := ?_) (a' := ?_) hps rfl (by kernel_rfl) rfl ?_ ?_ ?_
          rotate_left 2
          · intro w' hk; obtain ⟨_, hq⟩ := hk; have c0 := (hq.row (i := 0) rfl).cell 1; simp only [List.getElem?_cons_succ, List.getElem?_cons_zero] at c0; go_simp; try rfl
          · simp only [Act.put, List.setIfInBounds_toArray, List.set_cons_succ, List.set_cons_zero]; try rfl
          refine flows_one 5 hps rfl (by kernel_rfl) rfl (wp_next (fun K hK => ?_))
          go_simp
          with_reducible refine (KC.out _).mono ?_
          rintro e w' ⟨rfl, rfl⟩
          have kp : ∃ ks', St B w0 w5.drew (BkO g4 x.off x.size false :: MpO g ks' :: l) := ⟨_, T5.out.drew⟩
          refine hK _ _ ⟨kp, ?_⟩
          clear kp hK
          refine flows_take 6 (v := ?_) (a' := ?_) hps rfl (by kernel_rfl) rfl ?_ ?_ ?_
          rotate_left 2
          · intro w' hk; go_simp; try rfl
          · simp only [Act.put, List.setIfInBounds_toArray, List.set_cons_succ, List.set_cons_zero]; try rfl
          refine flows_one 7 hps rfl (by kernel_rfl) rfl (wp_next (fun K hK => ?_))
          refine mp_update_at T5.out.drew 1 rfl (q := (x.off, cz)) _ _ _ rfl rfl rfl rfl HQ2.out HNK.out ?_
          intro w6 h6
          have T6 := Lib.hid h6
          have kp : ∃ ks', St B w0 w6 (BkO g4 x.off x.size false :: MpO g ks' :: l) := ⟨_, h6⟩
          clear h6
          refine hK _ _ ⟨kp, ?_⟩
          clear kp hK
          refine flows_done hps (by kernel_rfl) ?_
          go_wp2
          exact ⟨FIN.out HA.out _ T6.out.tail, by simp [intOf]; omega⟩
        · obtain ⟨j, rfl⟩ : ∃ j, k = j + 1 := ⟨k - 1, by omega⟩
          have u2 : IntKind.i64.wrap (((j + 1 : Nat) : Int) - 1) = (j : Int) := by rw [IntWalk.i64_in _ (by omega)]; omega
          have u3 : IntKind.i64.wrap ((j : Int) + 1 - 1) = (j : Int) := by rw [IntWalk.i64_in _ (by omega)]; omega
          obtain ⟨hj, _⟩ := HPREV.out _ HS.out j rfl
          have hst := fun (hh : L[j].used = true) => HST.out (fun j' hj' hj2 => by cases hj'; exact .inl hh)
          have hnot := fun (hh : L[j].used = false) => HNOT.out j rfl hj hh hu
          have hpv : ∀ w', St B w0 w' (MpO g ks :: l) → w'.cell? ⟨bb, bo + j * 3 + 2, none⟩ = some (.bool L[j].used) := fun w' hw => (HPREV.out w' hw j rfl).2
          generalize L[j] = y at *
          have HST2 := Lib.hid hst; have HNOT2 := Lib.hid hnot; have HPV := Lib.hid hpv
          clear hst hnot hpv
          cases hy : y.used with
          | true =>
            have HA := Lib.hid (HST2.out hy)
            rw [hy] at HPV
            clear hy
            go_wp2_with (first | (refine bl_mid rfl _ rfl bb (bo + (j + 1) * 3) rfl x HR.out ?_) | (refine bk_alloc HS.out rfl rfl ?_; intro g4 w4 h4; have T4 := Lib.hid h4; clear h4) | (refine bk_store T4.out 0 rfl rfl _ _ rfl rfl x.off x.size false rfl ?_; intro w5 h5; have T5 := Lib.hid h5; clear h5 T4; have k2 : w5.cell? ⟨g4, 2, none⟩ = some (.bool false) := (T5.out.row (i := 0) rfl).cell 2; have k3 := HPV.out w5 T5.out.tail))
            clear k2 k3
            refine flows_begin (S := fun w' => ∃ ks', St B w0 w' (BkO g4 x.off x.size false :: MpO g ks' :: l)) hmixed 8 rfl (by repeat (first | with_reducible refine ps_then ?_ | with_reducible refine ps_block ?_ | with_reducible exact ps_body | refine ps_then ?_ | refine ps_block ?_ | exact ps_body)) ⟨_, T5.out.drew⟩ (fun hps => ?_)
            simp only [List.replicate]
            refine flows_take 0 (v := ?_) (a' := ?_) hps rfl (by kernel_rfl) rfl ?_ ?_ ?_
            rotate_left 2
            · intro w' hk; go_simp; try rfl
            · simp only [Act.put, List.setIfInBounds_toArray, List.set_cons_succ, List.set_cons_zero]; try rfl
            refine flows_take 1 (v := ?_) (a' := ?_) hps rfl (by kernel_rfl) rfl ?_ ?_ ?_
            rotate_left 2
            · intro w' hk; go_simp; try rfl
            · simp only [Act.put, List.setIfInBounds_toArray, List.set_cons_succ, List.set_cons_zero]; try rfl
            refine flows_take 2 (v := ?_) (a' := ?_) hps rfl (by kernel_rfl) rfl ?_ ?_ ?_
            rotate_left 2
            · intro w' hk; obtain ⟨_, hq⟩ := hk; have c0 := (hq.row (i := 0) rfl).cell 0; simp only [List.getElem?_cons_succ, List.getElem?_cons_zero] at c0; go_simp; try rfl
            · simp only [Act.put, List.setIfInBounds_toArray, List.set_cons_succ, List.set_cons_zero]; try rfl
            refine flows_take 3 (v := ?_) (a' := ?_) hps rfl (by kernel_rfl) rfl ?_ ?_ ?_
            rotate_left 2
            · intro w' hk; go_simp; try rfl
            · simp only [Act.put, List.setIfInBounds_toArray, List.set_cons_succ, List.set_cons_zero]; try rfl
            refine flows_take 4 (v := ?_) (a' := ?_) hps rfl (by kernel_rfl) rfl ?_ ?_ ?_
            rotate_left 2
            · intro w' hk; obtain ⟨_, hq⟩ := hk; have c0 := (hq.row (i := 0) rfl).cell 1; simp only [List.getElem?_cons_succ, List.getElem?_cons_zero] at c0; go_simp; try rfl
            · simp only [Act.put, List.setIfInBounds_toArray, List.set_cons_succ, List.set_cons_zero]; try rfl
            refine flows_one 5 hps rfl (by kernel_rfl) rfl (wp_next (fun K hK => ?_))
            go_simp
            with_reducible refine (KC.out _).mono ?_
            rintro e w' ⟨rfl, rfl⟩
            have kp : ∃ ks', St B w0 w5.drew (BkO g4 x.off x.size false :: MpO g ks' :: l) := ⟨_, T5.out.drew⟩
            refine hK _ _ ⟨kp, ?_⟩
            clear kp hK
            refine flows_take 6 (v := ?_) (a' := ?_) hps rfl (by kernel_rfl) rfl ?_ ?_ ?_
            rotate_left 2
            · intro w' hk; go_simp; try rfl
            · simp only [Act.put, List.setIfInBounds_toArray, List.set_cons_succ, List.set_cons_zero]; try rfl
            refine flows_one 7 hps rfl (by kernel_rfl) rfl (wp_next (fun K hK => ?_))
            refine mp_update_at T5.out.drew 1 rfl (q := (x.off, cz)) _ _ _ rfl rfl rfl rfl HQ2.out HNK.out ?_
            intro w6 h6
            have T6 := Lib.hid h6
            have kp : ∃ ks', St B w0 w6 (BkO g4 x.off x.size false :: MpO g ks' :: l) := ⟨_, h6⟩
            clear h6
            refine hK _ _ ⟨kp, ?_⟩
            clear kp hK
            refine flows_done hps (by kernel_rfl) ?_
            go_wp2
            exact ⟨FIN.out HA.out _ T6.out.tail, by simp [intOf]; omega⟩
          | false =>
            have HN := Lib.hid (HNOT2.out hy)
            rw [hy] at HPV
            clear hy
            go_wp2_with (first | (refine bl_mid rfl _ rfl bb (bo + (j + 1) * 3) rfl x HR.out ?_) | (refine bk_alloc HS.out rfl rfl ?_; intro g4 w4 h4; have T4 := Lib.hid h4; clear h4) | (refine bk_store T4.out 0 rfl rfl _ _ rfl rfl x.off x.size false rfl ?_; intro w5 h5; have T5 := Lib.hid h5; clear h5 T4; have k2 : w5.cell? ⟨g4, 2, none⟩ = some (.bool false) := (T5.out.row (i := 0) rfl).cell 2; have k3 := HPV.out w5 T5.out.tail))
            go_ret2
            exact ⟨_, false, rfl, fun e => (by cases e), fun _ => ⟨HN.out, T5.out.tail.tail⟩⟩
    · obtain rfl : k = L.length := by omega
      rw [List.take_length] at hAp hS
      have d2 : decide ((L.length : Int) < (L.length : Int)) = false := decide_eq_false (by omega)
      have HAP := Lib.hid hAp; have HS := Lib.hid hS
      clear hAp hS
      go_wp2
      go_ret2
      exact ⟨_, true, rfl, fun _ => ⟨HAP.out, g, rfl, HS.out⟩, fun e => by cases e⟩
end
end Go.Proofs.Ytenbpbnffnodhaa

/- Is an arena right: the program's Check. -/
namespace Go.Proofs.Ytenbpbnffnodhaa
open Go Go.RowKit Go.Own
set_option linter.unusedVariables false
set_option maxRecDepth 100000
section
variable {B : Nat} {w0 w : World} {l : List Ob} {i p bs cp : Nat} {b : List UInt8}
/-- What Check tells, as an error. -/
def chkV (r : Bool) : Value := if r then .nilIface else .iface 183 (.int .i64 3)
theorem shr22 (V : Nat) (h : V < 18446744073709551616) : ((V : Int) / 4194304 != 0) = decide (4194304 ≤ V) := by
  rw [Bool.eq_iff_iff, bne_iff_ne, decide_eq_true_iff]; omega
set_option maxHeartbeats 16000000 in
theorem chk_Check (h : St B w0 w (l.set i (ArT p ⟨bs, cp, b⟩))) (hil : i < l.length) :
    Calls Try.prog 83 #[arP p] w fun e w' => ∃ r, e = .returned (chkV r) ∧ ChkR b r ∧ St B w0 w' (l.set i (ArT p ⟨bs, cp, b⟩)) := by
  obtain ⟨hsm, hbs⟩ := ls_small h hil
  have kw := blk_Walk h (at_set hil _)
  simp only at kw
  have H := Lib.hid h; have HSM := Lib.hid hsm; have HIL := Lib.hid hil
  clear h
  cases hW : walkB b with
  | none =>
    have hr : ¬ IsRight b := fun ⟨bs, ls, hR, _⟩ => by rw [hR.walk] at hW; cases hW
    have HR := Lib.hid (chk_no hr)
    rw [hW, show errW none = .iface 183 (.int .i64 3) from rfl] at kw
    have KW := Lib.hid kw
    clear kw hr hW hil
    go_enter Try.func83, Try.ntmps83
    go_wp2_with fail
    have kc := KW.out
    with_reducible refine kc.mono ?_
    clear kc
    rintro e w3 ⟨v3', rfl, t3⟩
    have T3 := Lib.hid t3
    clear t3
    go_wp2
    go_ret
    exact ⟨false, rfl, HR.out, T3.out.tail⟩
  | some L =>
    rw [hW, show errW (some L) = .nilIface from rfl, Option.getD_some] at kw
    have hLs := walk_len hW hsm
    have KW := Lib.hid kw; have HW := Lib.hid hW
    have htile := ((walkB_tile b L).1 hW).2
    have h184 : 184 ≤ b.length := ((walkB_tile b L).1 hW).1
    have hV := numAt_lt b 0
    have HTI := Lib.hid htile
    have kn := fun w' (l' : List Ob) (h' : St B w0 w' l') (j : Nat) (hj : l'[j]? = some (ArT p ⟨bs, cp, b⟩)) => ar_WordAt h' hj (bs : Int) 0 (by show (bs : Int) = (bs : Int) + 0; omega) (by show 0 + 8 ≤ b.length; omega)
    obtain ⟨V, hVe⟩ : ∃ V, V = numAt b 0 := ⟨_, rfl⟩
    simp only at kn
    rw [← hVe] at hV kn
    have KN := Lib.hid kn; have HVE := Lib.hid hVe
    clear kw hW kn hVe h184 htile
    have hset : (l.set i (ArT p ⟨bs, cp, b⟩))[i]? = some (ArT p ⟨bs, cp, b⟩) := at_set hil _
    have HSET := Lib.hid hset
    generalize l.set i (ArT p ⟨bs, cp, b⟩) = la at *
    clear hset hil
    go_enter Try.func83, Try.ntmps83
    go_wp2_with fail
    have kc := KW.out
    with_reducible refine kc.mono ?_
    clear kc
    rintro e w3 ⟨v3', rfl, t3⟩
    have T3 := Lib.hid t3
    clear t3
    obtain ⟨a3, c3, e3, _⟩ := bls_slice T3.out (i := 0) rfl
    subst e3
    go_wp2_with fail
    have kc := chk_free T3.out (i := 0) rfl HW.out HSM.out
    with_reducible refine kc.mono ?_
    clear kc
    rintro e w4 ⟨vm', rm', rfl, t4⟩
    have T4 := Lib.hid t4
    clear t4
    go_wp2_with fail
    have kc := ar_Base (i := i + 1) (l := BlsO (.slice a3 L.length c3) L :: la) (A := ⟨bs, cp, b⟩) (by cases rm'; exact (T4.out.2 rfl).2; obtain ⟨_, _, _, q⟩ := T4.out.1 rfl; exact q.tail) HSET.out
    with_reducible refine kc.mono ?_
    clear kc
    rintro e w' ⟨rfl, rfl⟩
    go_wp2_with fail
    have kc := KN.out w4 (BlsO (.slice a3 L.length c3) L :: la) (by cases rm'; exact (T4.out.2 rfl).2; obtain ⟨_, _, _, q⟩ := T4.out.1 rfl; exact q.tail) (i + 1) HSET.out
    with_reducible refine kc.mono ?_
    clear kc
    rintro e w' ⟨rfl, rfl⟩
    cases hrm : rm' with
    | false =>
      subst hrm
      obtain ⟨hnap, hs4⟩ := T4.out.2 rfl
      have hr : ¬ IsRight b := fun ⟨bs, ls, hR, hap⟩ => by
        have e := hR.walk
        rw [HW.out] at e
        cases e
        exact hnap hap
      have HR := Lib.hid (chk_no hr); have S4 := Lib.hid hs4
      clear hnap hr hs4 T4
      go_wp2
      go_ret
      exact ⟨false, rfl, HR.out, S4.out.tail⟩
    | true =>
      subst hrm
      obtain ⟨hap, g, hvm, hs4⟩ := T4.out.1 rfl
      subst hvm
      have HAP := Lib.hid hap; have S4 := Lib.hid hs4
      clear hap hs4 T4
      have hsh := shr22 V hV
      by_cases hV2 : 4194304 ≤ V
      · rw [decide_eq_true hV2] at hsh
        have hr : ¬ IsRight b := fun ⟨bs, ls, hR, _⟩ => by have := hR.lists.w0; rw [← HVE.out] at this; omega
        have HR := Lib.hid (chk_no hr)
        clear hr
        go_wp2
        go_ret
        exact ⟨false, rfl, HR.out, S4.out.tail.tail⟩
      rw [decide_eq_false hV2] at hsh
      go_wp2
      clear hsh
      go_loopw [46] (fun vc wr => ∃ (c : Nat) (ls : Nat → List Nat), c ≤ 22 ∧ vc = .int .i64 c ∧ (∀ d, d < c → allB b d = some (ls d)) ∧ (∀ d, d < c → ∀ k, (hk : k < (ls d).length) → ((ls d)[k], d) ∈ leftK L ls d ((ls d).take k)) ∧ St B w0 wr (MpO g (leftK L ls c []) :: BlsO (.slice a3 L.length c3) L :: la)) (fun vc _ => 22 - (intOf vc).toNat)
      case atStart => exact ⟨0, fun _ => [], Nat.zero_le _, rfl, fun d hd => by omega, fun d hd => by omega, by rw [leftK_start]; exact S4.out⟩
      case round =>
        obtain ⟨c, ls, hc, rfl, hall, hin, hS⟩ := hrel
        clear S4
        by_cases hlt : c < 22
        · have d2 : decide ((c : Int) < 22) = true := decide_eq_true (by omega)
          have ka := ls_All (l := MpO g (leftK L ls c []) :: BlsO (.slice a3 L.length c3) L :: la) (i := i + 2) (bs := bs) (cp := cp) (p := p) (b := b) (by rw [set_same (l := MpO g (leftK L ls c []) :: BlsO (.slice a3 L.length c3) L :: la) (i := i + 2) HSET.out]; exact hS) (by have := (List.getElem?_eq_some_iff.1 HSET.out).1; simp only [List.length_cons]; omega) c hlt
          rw [set_same (i := i + 2) (l := MpO g (leftK L ls c []) :: BlsO (.slice a3 L.length c3) L :: la) HSET.out] at ka
          cases hA : allB b c with
          | none =>
            have hr : ¬ IsRight b := fun ⟨bs, ls, hR, hap⟩ => by
              have e := hR.all hlt
              rw [hA] at e; cases e
            have HR := Lib.hid (chk_no hr)
            rw [hA, show errA none = .iface 183 (.int .i64 3) from rfl] at ka
            have KA := Lib.hid ka
            clear hS ka hA hr hall hin
            go_wp2_with fail
            have kc := KA.out
            with_reducible refine kc.mono ?_
            clear kc
            rintro e w4 ⟨v4', rfl, t4⟩
            have T4 := Lib.hid t4
            clear t4
            go_wp2
            go_ret
            exact ⟨false, rfl, HR.out, T4.out.tail.tail.tail⟩
          | some A =>
            rw [hA, show errA (some A) = .nilIface from rfl, Option.getD_some] at ka
            obtain ⟨ls', hls'⟩ : ∃ ls' : Nat → List Nat, ls' = fun d => if d = c then A else ls d := ⟨_, rfl⟩
            have hc1 : ls' c = A := by rw [hls']; simp
            have hc2 : ∀ d, d < c → ls d = ls' d := fun d hd => by rw [hls']; simp; omega
            rw [leftK_congr hc2] at ka
            have hall' : ∀ d, d < c + 1 → allB b d = some (ls' d) := fun d hd => by
              by_cases hdc : d = c
              · subst hdc; rw [hc1]; exact hA
              · rw [← hc2 d (by omega)]; exact hall d (by omega)
            have hin' : ∀ d, d < c → ∀ k, (hk : k < (ls' d).length) → ((ls' d)[k], d) ∈ leftK L ls' d ((ls' d).take k) := fun d hd k hk => by
              have h1 : k < (ls d).length := by rw [hc2 d hd]; exact hk
              have := hin d hd k h1
              rw [leftK_congr (ls' := ls') fun e he => hc2 e (by omega)] at this
              have e := hc2 d hd
              simp only [e] at this
              exact this
            have hkey : ∀ k, (hk : k < A.length) → A[k] ≤ 65536 := fun k hk => by
              obtain ⟨x, hx, _⟩ := memberB_some ((allB_inv hA).2.2.2 _ (List.getElem_mem hk)).2
              have := blkAt_some hx; have := HSM.out; omega
            have hAr : ∀ bs ls'', Right b bs ls'' → bs = L ∧ ls'' c = A ∧ ∀ d, d < c → ls'' d = ls' d := fun bs ls'' hR => by
              have e1 := hR.walk
              rw [HW.out] at e1
              cases e1
              refine ⟨rfl, ?_, fun d hd => ?_⟩
              · have e2 := hR.all hlt
                rw [hA] at e2
                exact (Option.some.inj e2).symm
              · have e2 := hR.all (c := d) (by omega)
                rw [hall' d (by omega)] at e2
                exact (Option.some.inj e2).symm
            have hAl : A.length ≤ 1000000 := by
              have := hA
              unfold allB at this
              split at this
              · cases this
              · split at this
                · cases this
                · have := (allFrom_inv _ _ _ _ this).2.2; omega
            have KA := Lib.hid ka; have HJ := Lib.hid (And.intro hall' (And.intro hin' (And.intro hc1 (And.intro hkey hAr))))
            clear hS ka hA hall' hin' hc1 hc2 hkey hAr hls' hall hin
            go_wp2_with fail
            have kc := KA.out
            with_reducible refine kc.mono ?_
            clear kc
            rintro e w4 ⟨v4', rfl, t4⟩
            have T4 := Lib.hid t4
            clear t4
            obtain ⟨a4, c4, e4, hs4⟩ := ints_slice T4.out (i := 0) rfl
            subst e4
            clear hs4
            go_wp2
            clear d2
            go_loopw [60] (fun vk wr => ∃ k : Nat, k ≤ A.length ∧ vk = .int .i64 k ∧ (∀ j, j < k → (hj : j < A.length) → (A[j], c) ∈ leftK L ls' c (A.take j)) ∧ St B w0 wr (IntsO (.slice a4 A.length c4) A :: MpO g (leftK L ls' c (A.take k)) :: BlsO (.slice a3 L.length c3) L :: la)) (fun vk _ => A.length - (intOf vk).toNat)
            case atStart => exact ⟨0, Nat.zero_le _, rfl, fun j hj => by omega, T4.out⟩
            case round =>
              obtain ⟨k, hk, rfl, hok, hS⟩ := hrel
              clear T4
              by_cases hltk : k < A.length
              · have d2 : decide ((k : Int) < (A.length : Int)) = true := decide_eq_true (by omega)
                obtain ⟨b2, o2, rfl, c2⟩ := ints_at hS (i := 0) rfl k hltk
                have hq := HJ.out.2.2.2.1 k hltk
                have hex : (A[k], c) ∉ leftK L ls' c (A.take k) → ¬ IsRight b := fun hn ⟨bs, ls'', hR, _⟩ => by
                  obtain ⟨rfl, e2, e3⟩ := HJ.out.2.2.2.2 bs ls'' hR
                  have := hR.left hlt (k := k) (by rw [e2]; exact hltk)
                  rw [leftK_congr e3] at this
                  simp only [e2] at this
                  exact hn this
                have hnx : (leftK L ls' c (A.take k)).filter (· ≠ (A[k], c)) = leftK L ls' c (A.take (k + 1)) := by
                  rw [leftK_erase HTI.out, List.take_succ_eq_append_getElem hltk]
                have hnd : (leftK L ls' c (A.take k)).Nodup := leftK_nodup HTI.out
                have hstep : (A[k], c) ∈ leftK L ls' c (A.take k) → ∀ j, j < k + 1 → (hj : j < A.length) → (A[j], c) ∈ leftK L ls' c (A.take j) := fun hm j hj hj2 => by
                  by_cases hjk : j = k
                  · subst hjk; exact hm
                  · exact hok j (by omega) hj2
                generalize A[k] = O at *
                generalize leftK L ls' c (A.take k) = lf at *
                generalize hlf2 : leftK L ls' c (A.take (k + 1)) = lf2 at *
                have HX := Lib.hid (And.intro hex (And.intro hnx hnd)); have HST := Lib.hid hstep
                have HS := Lib.hid hS; have HLF2 := Lib.hid hlf2
                clear hex hnx hnd hok hS hstep hlf2
                by_cases hm : (O, c) ∈ lf
                · have HM := Lib.hid hm
                  have dm : decide ((O, c) ∈ lf) = true := decide_eq_true hm
                  clear hm
                  go_wp2_with (first | (refine mp_lookup_st HS.out 1 rfl rfl _ _ rfl rfl (q := (O, c)) rfl ⟨hq, by omega⟩ ?_; rw [dm]) | (refine mp_delete_st HS.out 1 rfl rfl _ _ rfl rfl (q := (O, c)) rfl ⟨hq, by omega⟩ HX.out.2.2 HM.out ?_; intro w6 h6; rw [HX.out.2.1] at h6; have H6 := Lib.hid h6; clear h6))
                  exact ⟨⟨k + 1, hltk, by go_num, HST.out HM.out, by rw [HLF2.out]; exact H6.out⟩, by simp [intOf]; omega⟩
                · have HR := Lib.hid (chk_no (HX.out.1 hm))
                  have dm : decide ((O, c) ∈ lf) = false := decide_eq_false hm
                  clear hm
                  go_wp2_with (refine mp_lookup_st HS.out 1 rfl rfl _ _ rfl rfl (q := (O, c)) rfl ⟨hq, by omega⟩ ?_; rw [dm])
                  go_ret
                  exact ⟨false, rfl, HR.out, HS.out.tail.tail.tail⟩
              · obtain rfl : k = A.length := by omega
                rw [List.take_length] at hS
                have d2 : decide ((A.length : Int) < (A.length : Int)) = false := decide_eq_false (by omega)
                have HS := Lib.hid hS; have HOK := Lib.hid hok
                clear hS hok
                go_wp2
                refine ⟨⟨c + 1, ls', hlt, by go_num, HJ.out.1, fun d hd k hk => ?_, ?_⟩, by simp [intOf]; omega⟩
                · by_cases hdc : d = c
                  · subst hdc
                    have e := HJ.out.2.2.1
                    simp only [e] at hk ⊢
                    exact HOK.out k hk hk
                  · exact HJ.out.2.1 d (by omega) k hk
                · rw [← leftK_next, HJ.out.2.2.1]; exact HS.out.tail
        · obtain rfl : c = 22 := by omega
          have d2 : decide ((22 : Int) < 22) = false := by decide
          have hfin : leftK L ls 22 [] = [] → IsRight b := fun hn => ⟨L, ls, right_struck HSM.out HW.out (by rw [← HVE.out]; omega) hall hin hn, HAP.out⟩
          have hbad : leftK L ls 22 [] ≠ [] → ¬ IsRight b := fun hn ⟨bs, ls'', hR, _⟩ => by
            have e1 := hR.walk
            rw [HW.out] at e1
            cases e1
            refine hn ?_
            rw [leftK_congr (ls' := ls'') fun d hd => by
              have e2 := hR.all hd
              rw [hall d hd] at e2
              exact Option.some.inj e2]
            exact hR.leftNil
          generalize leftK L ls 22 [] = lf at *
          have HS := Lib.hid hS; have HF := Lib.hid (And.intro hfin hbad)
          clear hS hfin hbad hall hin
          cases lf with
          | nil =>
            have HR := Lib.hid (chk_yes (HF.out.1 rfl))
            go_wp2_with (at_len; refine mp_len_st HS.out 0 rfl rfl _ rfl rfl ?_; rw [show ((([] : List (Nat × Nat)).length : Nat) : Int) = 0 from rfl])
            go_ret
            exact .inr ⟨rfl, HR.out, HS.out.tail.tail⟩
          | cons q r =>
            have HR := Lib.hid (chk_no (HF.out.2 (by simp)))
            obtain ⟨N, hn⟩ : ∃ N, (q :: r).length = N := ⟨_, rfl⟩
            have hN : 0 < N := by rw [← hn, List.length_cons]; omega
            have d3 : decide (0 < N) = true := decide_eq_true hN
            go_wp2_with (at_len; refine mp_len_st HS.out 0 rfl rfl _ rfl rfl ?_; rw [hn])
            go_ret
            exact ⟨false, rfl, HR.out, HS.out.tail.tail⟩
end
end Go.Proofs.Ytenbpbnffnodhaa

/- Layer 11's statements: what Check's verdict comes to. -/
namespace Go.Own
theorem numAt_zero {n t : Nat} (h : t + 8 ≤ n) : numAt (List.replicate n (0 : UInt8)) t = 0 := by
  unfold numAt
  rw [List.length_replicate, if_pos h, List.drop_replicate, List.take_replicate, show min 8 (n - t) = 8 by omega]
  rfl
end Go.Own
namespace Go.Proofs.Ytenbpbnffnodhaa
open Go Go.RowKit Go.Own
set_option linter.unusedVariables false
set_option maxRecDepth 100000
theorem chkV_true {b : List UInt8} {r : Bool} (h : ChkR b r) (hb : IsRight b) : r = true := h.2 hb
end Go.Proofs.Ytenbpbnffnodhaa

/- What comes of taking blocks and giving them back, on blocks and lists alone. No program. -/
namespace Go.Own
abbrev Ls := Nat → List Nat
/-- A block, and what the reference's memory has as what it holds: a slice's value. -/
structure Bd where
  b : Blk
  d : Value
abbrev none0 : Value := .slice none 0 0
def bsOf (m : List Bd) : List Blk := m.map (·.b)
theorem bsOf_append (m n : List Bd) : bsOf (m ++ n) = bsOf m ++ bsOf n := List.map_append
theorem bsOf_cons (x : Bd) (m : List Bd) : bsOf (x :: m) = x.b :: bsOf m := rfl
/-- A gap of s bytes, and what is behind it: the next one, if it is free, comes to it. -/
def joinN (post : List Bd) (s : Nat) (ls : Ls) : List Bd × Nat × Ls := match post with
  | y :: r => if y.b.used then (y :: r, s, ls) else (r, s + y.b.size, outL ls (clsN y.b.size) y.b.off)
  | [] => ([], s, ls)
def joinP (pre : List Bd) (o s : Nat) (ls : Ls) : List Bd × Nat × Nat × Ls := match pre.getLast? with
  | some y => if y.b.used then (pre, o, s, ls) else (pre.dropLast, y.b.off, y.b.size + s, outL ls (clsN y.b.size) y.b.off)
  | none => (pre, o, s, ls)
/-- A gap is given back. -/
def freeM (pre : List Bd) (o s : Nat) (post : List Bd) (ls : Ls) : List Bd × Ls :=
  let n := joinN post s ls
  let q := joinP pre o n.2.1 n.2.2
  (q.1 ++ ⟨⟨q.2.1, q.2.2.1, false⟩, none0⟩ :: n.1, inL q.2.2.2 (clsN q.2.2.1) q.2.1)
/-- A gap of s bytes is used, but for what is left of n. -/
def cutM (pre : List Bd) (o s : Nat) (d : Value) (post : List Bd) (n : Nat) (ls : Ls) : List Bd × Ls :=
  if s < n + 32 then (pre ++ ⟨⟨o, s, true⟩, d⟩ :: post, ls) else freeM (pre ++ [⟨⟨o, n, true⟩, d⟩]) (o + n) (s - n) post ls
/-- The same list of gaps, but for free blocks next to each other. -/
theorem apart_join {l1 l2 : List Blk} {x : Blk} (h1 : Apart l1) (h2 : Apart l2) (hx : x.used = false → (∀ y, l1.getLast? = some y → y.used = true) ∧ ∀ y, l2.head? = some y → y.used = true) : Apart (l1 ++ x :: l2) := by
  refine Apart.append.2 ⟨h1, ⟨fun y hy => ?_, h2⟩, fun y z hy hz => ?_⟩
  · cases hu : x.used with
    | true => exact .inl rfl
    | false => exact .inr ((hx hu).2 y hy)
  · simp only [List.head?_cons, Option.some.injEq] at hz
    subst hz
    cases hu : x.used with
    | true => exact .inr rfl
    | false => exact .inl ((hx hu).1 y hy)
theorem bsOf_getLast (m : List Bd) : (bsOf m).getLast? = m.getLast?.map (·.b) := by unfold bsOf; rw [List.getLast?_map]
theorem joinN_apart {post : List Bd} {s : Nat} {ls : Ls} (h : Apart (bsOf post)) : Apart (bsOf (joinN post s ls).1) ∧ ∀ y, (bsOf (joinN post s ls).1).head? = some y → y.used = true := by
  unfold joinN
  cases post with
  | nil => exact ⟨trivial, fun y hy => by simp [bsOf] at hy⟩
  | cons y r =>
    simp only
    cases hu : y.b.used with
    | true =>
      rw [if_pos rfl]
      exact ⟨h, fun z hz => by simp [bsOf] at hz; rw [← hz]; exact hu⟩
    | false =>
      rw [if_neg (by decide)]
      refine ⟨h.2, fun z hz => ?_⟩
      rcases h.1 z hz with h3 | h3
      · rw [hu] at h3; cases h3
      · exact h3
theorem joinP_apart {pre : List Bd} {o s : Nat} {ls : Ls} (h : Apart (bsOf pre)) : Apart (bsOf (joinP pre o s ls).1) ∧ ∀ y, (bsOf (joinP pre o s ls).1).getLast? = some y → y.used = true := by
  unfold joinP
  cases hl : pre.getLast? with
  | none => exact ⟨h, fun y hy => by rw [bsOf_getLast, hl] at hy; cases hy⟩
  | some y =>
    simp only
    cases hu : y.b.used with
    | true =>
      rw [if_pos rfl]
      exact ⟨h, fun z hz => by rw [bsOf_getLast, hl] at hz; cases hz; exact hu⟩
    | false =>
      rw [if_neg (by decide)]
      obtain ⟨p, rfl⟩ : ∃ p, pre = p ++ [y] := ⟨pre.dropLast, by
        have hne : pre ≠ [] := fun e => by rw [e] at hl; cases hl
        have := List.getLast?_eq_some_getLast hne
        rw [hl] at this
        cases this
        exact (List.dropLast_concat_getLast hne).symm⟩
      rw [List.dropLast_concat]
      rw [bsOf_append] at h
      have h2 := Apart.append.1 h
      refine ⟨h2.1, fun z hz => ?_⟩
      rcases h2.2.2 z y.b hz rfl with h3 | h3
      · exact h3
      · rw [hu] at h3; cases h3
theorem freeM_apart {pre post : List Bd} {o s : Nat} {ls : Ls} (h1 : Apart (bsOf pre)) (h2 : Apart (bsOf post)) : Apart (bsOf (freeM pre o s post ls).1) := by
  have hn := joinN_apart (s := s) (ls := ls) h2
  have hp := joinP_apart (o := o) (s := (joinN post s ls).2.1) (ls := (joinN post s ls).2.2) h1
  unfold freeM
  simp only
  rw [bsOf_append, bsOf_cons]
  exact apart_join hp.1 hn.1 fun _ => ⟨hp.2, hn.2⟩
theorem cutM_apart {pre post : List Bd} {o s n : Nat} {d : Value} {ls : Ls} (h1 : Apart (bsOf pre)) (h2 : Apart (bsOf post)) : Apart (bsOf (cutM pre o s d post n ls).1) := by
  unfold cutM
  split
  · rw [bsOf_append, bsOf_cons]
    exact apart_join h1 h2 fun h => by cases h
  · refine freeM_apart ?_ h2
    rw [bsOf_append]
    exact Apart.snoc.2 ⟨h1, fun _ _ => .inr rfl⟩
/-- A block is taken: where it stands; what stands then. Nothing: there is no room. -/
def tailM (m : List Bd) (cap n : Nat) (ls : Ls) : Option (Nat × List Bd × Ls) :=
  if endOf 184 (bsOf m) + n ≤ cap then some (endOf 184 (bsOf m), m ++ [⟨⟨endOf 184 (bsOf m), n, true⟩, none0⟩], ls) else none
/-- A block at the end: the last one, if it is free, grows. -/
def takeTail (m : List Bd) (cap n : Nat) (ls : Ls) : Option (Nat × List Bd × Ls) := match m.getLast? with
  | some x => if x.b.used then tailM m cap n ls else
    if endOf 184 (bsOf m) + n ≤ cap + x.b.size then some (x.b.off, m.dropLast ++ [⟨⟨x.b.off, n, true⟩, x.d⟩], outL ls (clsN x.b.size) x.b.off) else none
  | none => tailM m cap n ls
def atI (m : List Bd) (o : Nat) : Option Nat := m.findIdx? fun x => x.b.off == o
def cutAt (m : List Bd) (i n : Nat) (ls : Ls) : List Bd × Ls := match m[i]? with
  | some x => cutM (m.take i) x.b.off x.b.size x.d (m.drop (i + 1)) n ls
  | none => (m, ls)
def giveAt (m : List Bd) (i : Nat) (ls : Ls) : List Bd × Ls := match m[i]? with
  | some x => freeM (m.take i) x.b.off x.b.size (m.drop (i + 1)) ls
  | none => (m, ls)
def takeM (m : List Bd) (cap n : Nat) (ls : Ls) : Option (Nat × List Bd × Ls) := match findL (bsOf m) ls n with
  | some o => match atI m o with
    | some i => match m[i]? with
      | some x => let q := cutAt m i n (outL ls (clsN x.b.size) o)
        some (o, q.1, q.2)
      | none => none
    | none => none
  | none => takeTail m cap n ls
/-- Which used block stands there. -/
def usedI (m : List Bd) (o : Nat) : Option Nat := match atI m o with
  | some i => match m[i]? with
    | some x => if x.b.used then some i else none
    | none => none
  | none => none
/-! ### A gap's neighbours, in the arena's bytes -/
theorem aheadB_start {b : List UInt8} {bs : List Blk} {ls : Ls} (h : Lists b bs ls) (hg : Good b bs) : aheadB b 184 = none := by
  have h1 := h.head (c := 21) (by decide)
  have h2 : isTag ((numAt b 176 : Nat) : Int) = false := by
    refine isTag_head ?_
    rw [show (176 : Nat) = headO 21 from rfl, h1]
    cases hl : ls 21 with
    | nil => exact .inl rfl
    | cons o r => exact .inr (h.place hg (c := 21) (by decide) (o := o) (by rw [hl]; exact List.mem_cons_self ..)).2.1
  unfold aheadB
  rw [show (184 - 8 : Nat) = 176 from rfl, if_neg (by rw [h2]; simp)]
section
variable {b : List UInt8} {pre post : List Blk} {o s : Nat} {ls : Ls}
theorem ahead_tile {e : Nat} (h : Lists b (pre ++ post) ls) (hg : Good b (pre ++ post)) (ht : TileTo b e 184 pre) : aheadB b e = pre.getLast? := by
  rcases List.eq_nil_or_concat pre with rfl | ⟨p, y, rfl⟩
  · have : 184 = e := ht
    rw [← this, aheadB_start h hg]; rfl
  · rw [List.concat_eq_append] at *
    obtain ⟨m, h1, h2, h3⟩ := TileTo.append.1 ht
    have h3 : m + y.size = e := h3
    rw [List.getLast?_concat, ← h3]
    exact aheadB_of h2
theorem Hole.ahead (h : Hole b pre o s post ls) : aheadB b o = pre.getLast? := ahead_tile h.lists h.good h.tpre
theorem next_tile {e : Nat} (ht : TileTo b b.length e post) : blkAt b e = post.head? := by
  cases post with
  | nil =>
    have : e = b.length := ht
    cases hb : blkAt b e with
    | none => rfl
    | some y => have := blkAt_some hb; omega
  | cons y r => exact ht.1
theorem Hole.nextAt (h : Hole b pre o s post ls) : blkAt b (o + s) = post.head? := next_tile h.tpost
theorem Right.aheadEnd {bs : List Blk} (h : Right b bs ls) : aheadB b b.length = bs.getLast? := by
  have := ahead_tile (post := []) (by rw [List.append_nil]; exact h.lists) (by rw [List.append_nil]; exact h.good) h.tile
  exact this
end
/-! ### More bytes at the end -/
theorem numAt_more {b z : List UInt8} {t : Nat} (h : t + 8 ≤ b.length) : numAt (b ++ z) t = numAt b t := by
  unfold numAt
  rw [if_pos h, if_pos (by rw [List.length_append]; omega), List.drop_append_of_le_length (by omega), List.take_append_of_le_length (by rw [List.length_drop]; omega)]
theorem blkAt_more {b z : List UInt8} {o : Nat} {x : Blk} (h : blkAt b o = some x) : blkAt (b ++ z) o = some x := by
  obtain ⟨x1, x2, x3, x4, x5, x6, x7, x8, x9, x10, x11, x12⟩ := blkAt_some h
  have := blkAt_isSize h
  have hx : x = ⟨o, x.size, x.used⟩ := by cases x; simp only at x1; rw [x1]
  rw [hx]
  have ht : numAt b o = (tagOf x.size x.used).toNat := x12
  exact blkAt_mk x2 x3 this (by rw [List.length_append]; omega) (by rw [numAt_more (by omega)]; exact ht) (by rw [numAt_more (by omega), x11]; exact ht)
theorem TileTo.more {b z : List UInt8} {e : Nat} : ∀ {l : List Blk} {o : Nat}, TileTo b e o l → TileTo (b ++ z) e o l
  | [], _, h => h
  | _ :: _, _, h => ⟨blkAt_more h.1, TileTo.more h.2⟩
theorem Lists.more {b z : List UInt8} {bs : List Blk} {ls : Ls} (h : Lists b bs ls) (hg : Good b bs) (hl : 184 ≤ b.length) : Lists (b ++ z) bs ls :=
  h.frame (fun t h1 _ => numAt_more (by omega)) (fun c hc o ho => by have := h.place hg hc ho; exact ⟨numAt_more (by omega), numAt_more (by omega)⟩) h.mem
theorem sameU_more {b z : List UInt8} {us : List Blk} (h : ∀ y ∈ us, y.off + y.size ≤ b.length) : SameU us b (b ++ z) := fun y hy => by
  have := h y hy
  rw [List.drop_append_of_le_length (by omega), List.take_append_of_le_length (by rw [List.length_drop]; omega)]
theorem Right.grow {b z : List UInt8} {bs : List Blk} {ls : Ls} (h : Right b bs ls) (hz : 32 ≤ z.length) (h16 : z.length % 16 = 0) (hm : b.length + z.length ≤ 16384) :
    Hole (b ++ z) bs b.length z.length [] ls ∧ SameU (usedOf bs) b (b ++ z) :=
  ⟨⟨by rw [List.length_append]; exact hm, h.tile.more, ⟨hz, h16⟩, by show _ = _; rw [List.length_append], by rw [List.append_nil]; exact h.lists.more h.good h.len, by rw [List.append_nil]; exact h.cover⟩,
    sameU_more fun y hy => (h.good.mem (mem_usedOf.1 hy).1).2.2⟩
theorem Hole.grow {b z : List UInt8} {pre : List Blk} {o s : Nat} {ls : Ls} (h : Hole b pre o s [] ls) (h16 : z.length % 16 = 0) (hm : b.length + z.length ≤ 16384) :
    Hole (b ++ z) pre o (s + z.length) [] ls ∧ SameU (usedOf pre) b (b ++ z) := by
  have he : o + s = b.length := h.tpost
  have hs := h.size
  have hg := h.good
  have hli := h.lists
  rw [List.append_nil] at hg hli
  exact ⟨⟨by rw [List.length_append]; exact hm, h.tpre.more, ⟨by omega, by omega⟩, by show _ = _; rw [List.length_append]; omega, by rw [List.append_nil]; exact hli.more hg h.at.2.2.2, h.cover⟩,
    sameU_more fun y hy => (hg.mem (mem_usedOf.1 hy).1).2.2⟩
end Go.Own

/- The reference's arena: its contracts. -/
namespace Go.Proofs.Ytenbpbnffnodhaa
open Go Go.RowKit Go.Own
set_option linter.unusedVariables false
set_option maxRecDepth 100000
section
variable {B : Nat} {w0 w : World} {l : List Ob} {i p : Nat} {A : Ar}
end
end Go.Proofs.Ytenbpbnffnodhaa

/- The reference's arena: Store, Copy, Fill, Grow, Widen. -/
namespace Go.Proofs.Ytenbpbnffnodhaa
open Go Go.RowKit Go.Own
set_option linter.unusedVariables false
set_option maxRecDepth 100000
section
variable {B : Nat} {w0 w : World} {l : List Ob} {i p : Nat} {A : Ar}
end
end Go.Proofs.Ytenbpbnffnodhaa

/- The example of layer 3's statements. -/
namespace Go.Proofs.Ytenbpbnffnodhaa
open Go Go.RowKit Go.Own
set_option linter.unusedVariables false
def lawOk (w : World) (e : Ending) (w' : World) : Prop := e = .returned (.bool true) ∧ Below w.heap.size w w'
end Go.Proofs.Ytenbpbnffnodhaa

/- Layer 3's deeds: what they are, and their helpers' contracts. -/
namespace Go.Own
open Go Go.RowKit
/-- A deed of layer 3. -/
structure De3 where
  what : Int
  addr : Int
  fr : Int
  n : Int
  v : Int
  x : UInt8
  ba : Option Addr
  bn : Nat
  bc : Nat
  b : List UInt8
def De3.cells (d : De3) : List Value := [.int .i64 d.what, .int .u64 d.addr, .int .u64 d.fr, .int .u64 d.n, .int .u64 d.v, .int .u8 (d.x.toNat : Nat), .slice d.ba d.bn d.bc]
structure De3.Ok (w : World) (d : De3) : Prop where
  what : -9223372036854775808 ≤ d.what ∧ d.what ≤ 9223372036854775807
  addr : 0 ≤ d.addr ∧ d.addr ≤ 18446744073709551615
  fr : 0 ≤ d.fr ∧ d.fr ≤ 18446744073709551615
  n : 0 ≤ d.n ∧ d.n ≤ 18446744073709551615
  v : 0 ≤ d.v ∧ d.v ≤ 18446744073709551615
  b : Bs w d.ba d.bn d.bc d.b
end Go.Own
namespace Go.Proofs.Ytenbpbnffnodhaa
open Go Go.RowKit Go.Own
set_option linter.unusedVariables false
set_option maxRecDepth 100000
end Go.Proofs.Ytenbpbnffnodhaa

/- The statements' Ints; the example of layer 10's statements. -/
namespace Go.Own
open Go Go.RowKit
end Go.Own
namespace Go.Proofs.Ytenbpbnffnodhaa
open Go Go.RowKit Go.Own
set_option linter.unusedVariables false
set_option maxRecDepth 100000
set_option maxHeartbeats 4000000 in
theorem law_Ints (w : World) (a : Option Addr) (c : Nat) (L : List Nat) (a2 : Option Addr) (c2 : Nat) (L2 : List Nat) (h1 : Sl w a L.length c 1 (L.map fun o => .int .i64 (o : Nat))) (h2 : Sl w a2 L2.length c2 1 (L2.map fun o => .int .i64 (o : Nat))) :
    Calls Try.prog 91 #[.slice a L.length c, .slice a2 L2.length c2] w fun e w' => e = .returned (.int .i64 (if L = L2 then 1 else 0)) ∧ Below w.heap.size w w' := by
  have p1 := h1.cap; have p2 := h1.room
  have q1 := h2.cap; have q2 := h2.room
  have H1 := Lib.hid h1; have H2 := Lib.hid h2
  clear h1 h2
  by_cases hl : L.length = L2.length
  · obtain ⟨R, hR⟩ : ∃ R : Int, R = (if L = L2 then 1 else 0) := ⟨_, rfl⟩
    rw [← hR]
    have HR := Lib.hid hR; have HLL := Lib.hid hl
    obtain ⟨N, hN⟩ : ∃ N, N = L.length := ⟨_, rfl⟩
    rw [← hl, ← hN]
    rw [← hN] at p1
    have HN := Lib.hid hN
    clear hR hl q1 hN
    go_enter Try.func91, Try.ntmps91
    go_wp2
    go_loopw [5] (fun vi wr => ∃ k : Nat, k ≤ N ∧ vi = .int .i64 k ∧ L.take k = L2.take k ∧ Below w.heap.size w wr) (fun vi _ => N - (intOf vi).toNat)
    case atStart => exact ⟨0, Nat.zero_le _, rfl, rfl, Below.refl _ _⟩
    case round =>
      obtain ⟨k, hk, rfl, ht, hb⟩ := hrel
      by_cases hlt : k < N
      · have l1 : k < L.length := by rw [← HN.out]; exact hlt
        have l2 : k < L2.length := by rw [← HLL.out]; exact l1
        obtain ⟨b1, o1, rfl, r1⟩ := H1.out.cells k (.int .i64 (L[k] : Nat)) (by simp [l1])
        obtain ⟨b2, o2, rfl, r2⟩ := H2.out.cells k (.int .i64 (L2[k] : Nat)) (by simp [l2])
        have hx : L[k] = L2[k] ↔ L.take (k + 1) = L2.take (k + 1) := by
          rw [List.take_succ_eq_append_getElem l1, List.take_succ_eq_append_getElem l2, ht]
          constructor
          · intro h; rw [h]
          · intro h; exact List.singleton_inj.1 (List.append_cancel_left h)
        have hne : L[k] ≠ L2[k] → L ≠ L2 := fun h e => by subst e; exact h rfl
        generalize L[k] = x at *
        generalize L2[k] = y at *
        have kd := (Keep.of_below (F := fun _ => False) hb).drew
        have X0 := Lib.hid (mid_keep kd r1 (fun h => h)); have Y0 := Lib.hid (mid_keep kd r2 (fun h => h))
        have HB := Lib.hid hb; have HX := Lib.hid hx; have HNE := Lib.hid hne
        clear r1 r2 hx hne hb ht kd l1 l2
        by_cases hxy : x = y
        · subst hxy
          have HT := Lib.hid (HX.out.1 rfl)
          go_wp2
          refine flowe_begin (F := fun _ => False) hmixed 9 rfl (by repeat (first | with_reducible refine ps_then ?_ | with_reducible refine ps_block ?_ | with_reducible exact ps_body | refine ps_then ?_ | refine ps_block ?_ | exact ps_body)) (fun hps => ?_)
          simp only [List.replicate]
          have kk := (Keep.refl (fun _ => False) (wr)).drew
          refine flowe_take 0 (v := ?_) (a' := ?_) hps rfl (by kernel_rfl) rfl ?_ ?_ ?_
          rotate_left 2
          · intro w' hk; go_simp; try rfl
          · simp only [Act.put, List.setIfInBounds_toArray, List.set_cons_succ, List.set_cons_zero]; try rfl
          refine flowe_take 1 (v := ?_) (a' := ?_) hps rfl (by kernel_rfl) rfl ?_ ?_ ?_
          rotate_left 2
          · intro w' hk; go_simp; try rfl
          · simp only [Act.put, List.setIfInBounds_toArray, List.set_cons_succ, List.set_cons_zero]; try rfl
          refine flowe_take 2 (v := ?_) (a' := ?_) hps rfl (by kernel_rfl) rfl ?_ ?_ ?_
          rotate_left 2
          · intro w' hk; go_simp; try rfl
          · simp only [Act.put, List.setIfInBounds_toArray, List.set_cons_succ, List.set_cons_zero]; try rfl
          refine flowe_take 3 (v := ?_) (a' := ?_) hps rfl (by kernel_rfl) rfl ?_ ?_ ?_
          rotate_left 2
          · intro w' hk; have c0 := mid_keep hk X0.out (fun h => h); go_simp; try rfl
          · simp only [Act.put, List.setIfInBounds_toArray, List.set_cons_succ, List.set_cons_zero]; try rfl
          refine flowe_take 4 (v := ?_) (a' := ?_) hps rfl (by kernel_rfl) rfl ?_ ?_ ?_
          rotate_left 2
          · intro w' hk; go_simp; try rfl
          · simp only [Act.put, List.setIfInBounds_toArray, List.set_cons_succ, List.set_cons_zero]; try rfl
          refine flowe_take 5 (v := ?_) (a' := ?_) hps rfl (by kernel_rfl) rfl ?_ ?_ ?_
          rotate_left 2
          · intro w' hk; go_simp; try rfl
          · simp only [Act.put, List.setIfInBounds_toArray, List.set_cons_succ, List.set_cons_zero]; try rfl
          refine flowe_take 6 (v := ?_) (a' := ?_) hps rfl (by kernel_rfl) rfl ?_ ?_ ?_
          rotate_left 2
          · intro w' hk; go_simp; try rfl
          · simp only [Act.put, List.setIfInBounds_toArray, List.set_cons_succ, List.set_cons_zero]; try rfl
          refine flowe_take 7 (v := ?_) (a' := ?_) hps rfl (by kernel_rfl) rfl ?_ ?_ ?_
          rotate_left 2
          · intro w' hk; have c0 := mid_keep hk Y0.out (fun h => h); go_simp; try rfl
          · simp only [Act.put, List.setIfInBounds_toArray, List.set_cons_succ, List.set_cons_zero]; try rfl
          refine flowe_take 8 (v := ?_) (a' := ?_) hps rfl (by kernel_rfl) rfl ?_ ?_ ?_
          rotate_left 2
          · intro w' hk; go_simp; try rfl
          · simp only [Act.put, List.setIfInBounds_toArray, List.set_cons_succ, List.set_cons_zero]; try rfl
          refine flowe_done hps (by kernel_rfl) ?_
          have HB2 := Lib.hid (HB.out.trans ((kk.below (Nat.le_refl _) fun _ _ h => h).mono HB.out.size))
          clear kk
          go_wp2
          exact ⟨⟨k + 1, hlt, by go_num, HT.out, HB2.out⟩, by simp [intOf]; omega⟩
        · have HXY := Lib.hid hxy
          have d1 : ((x : Int) != (y : Int)) = true := by rw [bne_iff_ne]; omega
          go_wp2
          refine flowe_begin (F := fun _ => False) hmixed 9 rfl (by repeat (first | with_reducible refine ps_then ?_ | with_reducible refine ps_block ?_ | with_reducible exact ps_body | refine ps_then ?_ | refine ps_block ?_ | exact ps_body)) (fun hps => ?_)
          simp only [List.replicate]
          have kk := (Keep.refl (fun _ => False) (wr)).drew
          refine flowe_take 0 (v := ?_) (a' := ?_) hps rfl (by kernel_rfl) rfl ?_ ?_ ?_
          rotate_left 2
          · intro w' hk; go_simp; try rfl
          · simp only [Act.put, List.setIfInBounds_toArray, List.set_cons_succ, List.set_cons_zero]; try rfl
          refine flowe_take 1 (v := ?_) (a' := ?_) hps rfl (by kernel_rfl) rfl ?_ ?_ ?_
          rotate_left 2
          · intro w' hk; go_simp; try rfl
          · simp only [Act.put, List.setIfInBounds_toArray, List.set_cons_succ, List.set_cons_zero]; try rfl
          refine flowe_take 2 (v := ?_) (a' := ?_) hps rfl (by kernel_rfl) rfl ?_ ?_ ?_
          rotate_left 2
          · intro w' hk; go_simp; try rfl
          · simp only [Act.put, List.setIfInBounds_toArray, List.set_cons_succ, List.set_cons_zero]; try rfl
          refine flowe_take 3 (v := ?_) (a' := ?_) hps rfl (by kernel_rfl) rfl ?_ ?_ ?_
          rotate_left 2
          · intro w' hk; have c0 := mid_keep hk X0.out (fun h => h); go_simp; try rfl
          · simp only [Act.put, List.setIfInBounds_toArray, List.set_cons_succ, List.set_cons_zero]; try rfl
          refine flowe_take 4 (v := ?_) (a' := ?_) hps rfl (by kernel_rfl) rfl ?_ ?_ ?_
          rotate_left 2
          · intro w' hk; go_simp; try rfl
          · simp only [Act.put, List.setIfInBounds_toArray, List.set_cons_succ, List.set_cons_zero]; try rfl
          refine flowe_take 5 (v := ?_) (a' := ?_) hps rfl (by kernel_rfl) rfl ?_ ?_ ?_
          rotate_left 2
          · intro w' hk; go_simp; try rfl
          · simp only [Act.put, List.setIfInBounds_toArray, List.set_cons_succ, List.set_cons_zero]; try rfl
          refine flowe_take 6 (v := ?_) (a' := ?_) hps rfl (by kernel_rfl) rfl ?_ ?_ ?_
          rotate_left 2
          · intro w' hk; go_simp; try rfl
          · simp only [Act.put, List.setIfInBounds_toArray, List.set_cons_succ, List.set_cons_zero]; try rfl
          refine flowe_take 7 (v := ?_) (a' := ?_) hps rfl (by kernel_rfl) rfl ?_ ?_ ?_
          rotate_left 2
          · intro w' hk; have c0 := mid_keep hk Y0.out (fun h => h); go_simp; try rfl
          · simp only [Act.put, List.setIfInBounds_toArray, List.set_cons_succ, List.set_cons_zero]; try rfl
          refine flowe_take 8 (v := ?_) (a' := ?_) hps rfl (by kernel_rfl) rfl ?_ ?_ ?_
          rotate_left 2
          · intro w' hk; go_simp; try rfl
          · simp only [Act.put, List.setIfInBounds_toArray, List.set_cons_succ, List.set_cons_zero]; try rfl
          refine flowe_done hps (by kernel_rfl) ?_
          have HB2 := Lib.hid (HB.out.trans ((kk.below (Nat.le_refl _) fun _ _ h => h).mono HB.out.size))
          clear kk
          go_wp2
          go_ret
          exact ⟨by rw [HR.out, if_neg (HNE.out HXY.out)]; rfl, HB2.out⟩
      · have hkN : k = N := by omega
        subst hkN
        have hLL : L = L2 := by
          rw [List.take_of_length_le (by rw [HN.out]; exact Nat.le_refl _), List.take_of_length_le (by rw [HN.out, HLL.out]; exact Nat.le_refl _)] at ht
          exact ht
        have HB := Lib.hid hb; have HE := Lib.hid hLL
        clear ht hb hLL
        go_wp2
        go_ret
        refine ⟨?_, HB.out⟩
        rw [HR.out, if_pos HE.out]
        rfl
  · have hne : L ≠ L2 := fun h => hl (by rw [h])
    rw [if_neg hne]
    have h3 : ¬ (L.length : Int) = (L2.length : Int) := by omega
    clear hl
    go_enter Try.func91, Try.ntmps91
    go_wp2
    go_ret
    exact ⟨rfl, Below.refl _ _⟩
end Go.Proofs.Ytenbpbnffnodhaa
