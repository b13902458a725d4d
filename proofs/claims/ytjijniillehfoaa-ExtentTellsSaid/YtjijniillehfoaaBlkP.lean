/- Blocks and lists of an arena's bytes, in plain words. No program. -/
import Derived.Test.YtjijniillehfoaaArBase
import Derived.Test.YtjijniillehfoaaSizeP
namespace Go.Own
/-- The number of eight bytes at a place; 0: they aren't there. -/
def numAt (b : List UInt8) (o : Nat) : Nat := if o + 8 ≤ b.length then num ((b.drop o).take 8) else 0
def layAt (b : List UInt8) (o v : Nat) : List UInt8 := lay b o (low v 8)
structure Blk where
  off : Nat
  size : Nat
  used : Bool
  deriving DecidableEq
def blkAt (b : List UInt8) (o : Nat) : Option Blk :=
  if 184 ≤ o ∧ o % 16 = 8 ∧ isTag (numAt b o) = true ∧ o + (tagS (numAt b o)).toNat ≤ b.length ∧ numAt b (o + (tagS (numAt b o)).toNat - 8) = numAt b o then
    some ⟨o, (tagS (numAt b o)).toNat, tagU (numAt b o)⟩ else none
def tagB (x : Blk) : Nat := (tagOf x.size x.used).toNat
/-- Both tags are laid. -/
def setB (b : List UInt8) (x : Blk) : List UInt8 := layAt (layAt b x.off (tagB x)) (x.off + x.size - 8) (tagB x)
def couldB (b : List UInt8) (o s : Int) : Bool := decide (184 ≤ o ∧ o % 16 = 8 ∧ o ≤ b.length ∧ s ≤ b.length - o)
def aheadB (b : List UInt8) (o : Nat) : Option Blk :=
  if 184 ≤ o ∧ o ≤ b.length ∧ isTag (numAt b (o - 8)) = true then
    match blkAt b (o - (tagS (numAt b (o - 8))).toNat) with
    | some x => if (tagS (numAt b (o - 8))).toNat ≤ o ∧ x.size = (tagS (numAt b (o - 8))).toNat ∧ x.used = tagU (numAt b (o - 8)) then some x else none
    | none => none
  else none
def walkFrom (b : List UInt8) : Nat → Nat → Option (List Blk)
  | 0, o => if o < b.length then none else some []
  | f + 1, o => if o < b.length then (match blkAt b o with
    | none => none
    | some x => (walkFrom b f (o + x.size)).map (x :: ·)) else some []
def walkB (b : List UInt8) : Option (List Blk) := if b.length < 184 then none else walkFrom b b.length 184
theorem numAt_lt (b : List UInt8) (o : Nat) : numAt b o < 18446744073709551616 := by
  unfold numAt; split
  · have h1 := num_lt ((b.drop o).take 8)
    have h2 : ((b.drop o).take 8).length ≤ 8 := List.length_take_le _ _
    have h3 := Nat.pow_le_pow_right (n := 256) (by decide) h2
    omega
  · decide
theorem tagS_isTag {w : Int} (h : isTag w = true) : 32 ≤ tagS w ∧ tagS w ≤ 16384 ∧ tagS w % 16 = 0 := by
  have := (tagOf_isTag h).2
  exact (isSize_iff _).1 this
theorem blkAt_some {b : List UInt8} {o : Nat} {x : Blk} (h : blkAt b o = some x) :
    x.off = o ∧ 184 ≤ o ∧ o % 16 = 8 ∧ 32 ≤ x.size ∧ x.size ≤ 16384 ∧ x.size % 16 = 0 ∧ o + x.size ≤ b.length ∧ isTag (numAt b o) = true ∧ (x.size : Int) = tagS (numAt b o) ∧ x.used = tagU (numAt b o) ∧ numAt b (o + x.size - 8) = numAt b o ∧ numAt b o = tagB x := by
  unfold blkAt at h
  split at h
  · rename_i hh
    obtain ⟨h1, h2, h3, h4, h5⟩ := hh
    have h6 := tagS_isTag h3
    simp only [Option.some.injEq] at h
    subst h
    simp only
    refine ⟨trivial, h1, h2, by omega, by omega, by omega, h4, h3, by omega, trivial, h5, ?_⟩
    unfold tagB
    have h7 := (tagOf_isTag h3).1
    simp only
    rw [show ((tagS (numAt b o)).toNat : Int) = tagS (numAt b o) by omega, h7]
    omega
  · cases h
theorem blkAt_mk {b : List UInt8} {o s : Nat} {u : Bool} (h1 : 184 ≤ o) (h2 : o % 16 = 8) (h3 : isSize s = true) (h4 : o + s ≤ b.length) (h5 : numAt b o = (tagOf s u).toNat) (h6 : numAt b (o + s - 8) = (tagOf s u).toNat) : blkAt b o = some ⟨o, s, u⟩ := by
  have hr := tagOf_rng s u
  have e : ((numAt b o : Nat) : Int) = tagOf s u := by omega
  obtain ⟨t1, t2, t3⟩ := isTag_tagOf (s := s) (u := u) h3
  unfold blkAt
  rw [e, t2, t3, t1, Int.toNat_natCast, if_pos ⟨h1, h2, rfl, h4, by rw [h6, h5]⟩]
theorem layAt_length (b : List UInt8) (o v : Nat) (h : o + 8 ≤ b.length) : (layAt b o v).length = b.length := lay_length _ _ _ (by rw [low_length]; exact h)
theorem lay_take {l b : List UInt8} {i : Nat} (h : i + b.length ≤ l.length) (j : Nat) (hj : j ≤ i) : (lay l i b).take j = l.take j := by
  have h1 : (l.take i).length = i := by rw [List.length_take]; omega
  unfold lay
  rw [List.append_assoc, List.take_append_of_le_length (by omega), List.take_take, Nat.min_eq_left hj]
theorem lay_drop {l b : List UInt8} {i : Nat} (h : i + b.length ≤ l.length) (j : Nat) (hj : i + b.length ≤ j) : (lay l i b).drop j = l.drop j := by
  have h1 : (l.take i ++ b).length = i + b.length := by rw [List.length_append, List.length_take]; omega
  unfold lay
  rw [List.drop_append, List.drop_of_length_le (by omega), List.nil_append, h1, List.drop_drop]
  congr 1
  omega
theorem lay_piece {l b : List UInt8} {i : Nat} (h : i + b.length ≤ l.length) : ((lay l i b).drop i).take b.length = b := by
  have h1 : (l.take i).length = i := by rw [List.length_take]; omega
  unfold lay
  rw [List.append_assoc, List.drop_append_of_le_length (by omega), List.drop_of_length_le (by omega), List.nil_append, List.take_left]
theorem lay_far {l b : List UInt8} {i : Nat} (h : i + b.length ≤ l.length) (o n : Nat) (hd : o + n ≤ i ∨ i + b.length ≤ o) : ((lay l i b).drop o).take n = (l.drop o).take n := by
  rcases hd with hd | hd
  · have e : ∀ m : List UInt8, (m.drop o).take n = ((m.take i).drop o).take n := fun m => by
      rw [List.drop_take, List.take_take, Nat.min_eq_left (by omega)]
    rw [e, e l, lay_take h i (Nat.le_refl _)]
  · rw [lay_drop h o hd]
theorem numAt_same (b : List UInt8) (o v : Nat) (h : o + 8 ≤ b.length) (hv : v < 18446744073709551616) : numAt (layAt b o v) o = v := by
  unfold numAt
  rw [layAt_length _ _ _ h, if_pos h]
  have := lay_piece (l := b) (b := low v 8) (i := o) (by rw [low_length]; exact h)
  rw [low_length] at this
  unfold layAt
  rw [this, num_low]
  exact Nat.mod_eq_of_lt (by simpa using hv)
theorem numAt_far (b : List UInt8) (o o' v : Nat) (h : o + 8 ≤ b.length) (hd : o' + 8 ≤ o ∨ o + 8 ≤ o') : numAt (layAt b o v) o' = numAt b o' := by
  unfold numAt
  rw [layAt_length _ _ _ h]
  split
  · unfold layAt
    rw [lay_far (by rw [low_length]; exact h) o' 8 (by rw [low_length]; omega)]
  · rfl
/-- At multiples of eight. -/
theorem numAt_lay (b : List UInt8) (o o' v : Nat) (h : o + 8 ≤ b.length) (hv : v < 18446744073709551616) (h8 : o % 8 = o' % 8) : numAt (layAt b o v) o' = if o' = o then v else numAt b o' := by
  split
  · rename_i e; subst e; exact numAt_same b o' v h hv
  · exact numAt_far b o o' v h (by omega)
theorem lay_idem (l : List UInt8) (i n : Nat) (h : i + n ≤ l.length) : lay l i ((l.drop i).take n) = l := by
  have hl : ((l.drop i).take n).length = n := by rw [List.length_take, List.length_drop]; omega
  unfold lay
  rw [hl, List.append_assoc, ← List.drop_drop, List.take_append_drop, List.take_append_drop]
theorem layAt_idem (b : List UInt8) (o : Nat) (h : o + 8 ≤ b.length) : layAt b o (numAt b o) = b := by
  unfold layAt numAt
  rw [if_pos h]
  have hl : ((b.drop o).take 8).length = 8 := by rw [List.length_take, List.length_drop]; omega
  have := low_num ((b.drop o).take 8)
  rw [hl] at this
  rw [this]
  exact lay_idem b o 8 h
theorem setB_length (b : List UInt8) (x : Blk) (h1 : 16 ≤ x.size) (h2 : x.off + x.size ≤ b.length) : (setB b x).length = b.length := by
  unfold setB
  rw [layAt_length _ _ _ (by rw [layAt_length _ _ _ (by omega)]; omega), layAt_length _ _ _ (by omega)]
/-! ### Lists -/
def headO (c : Nat) : Nat := 8 + 8 * c
def memberB (b : List UInt8) (at_ : Nat) (c : Nat) : Bool := match blkAt b at_ with
  | some x => !x.used && decide (cls x.size = c)
  | none => false
def freeB (b : List UInt8) (o : Nat) : Option Nat := match blkAt b o with
  | some x => if x.used then none else some (cls x.size).toNat
  | none => none
def bitAt (w c : Nat) : Bool := decide (w / 2 ^ c % 2 = 1)
def setBit (w c : Nat) (v : Bool) : Nat := if bitAt w c = v then w else w ^^^ 2 ^ c
def markB (b : List UInt8) (c : Nat) : List UInt8 := layAt b 0 (setBit (numAt b 0) c (decide (numAt b (headO c) ≠ 0)))
def putB (b : List UInt8) (o : Nat) : Option (List UInt8) := match freeB b o with
  | none => none
  | some c =>
    let first := numAt b (headO c)
    if first = o ∨ (first ≠ 0 ∧ memberB b first c = false) then none else
    let b1 := layAt (layAt b (o + 8) first) (o + 16) 0
    let b2 := if first = 0 then b1 else layAt b1 (first + 16) o
    some (markB (layAt b2 (headO c) o) c)
def takeB (b : List UInt8) (o : Nat) : Option (List UInt8) := match freeB b o with
  | none => none
  | some c =>
    let p := numAt b (o + 16)
    let n := numAt b (o + 8)
    if (p = 0 ∧ numAt b (headO c) ≠ o) ∨ (p ≠ 0 ∧ (memberB b p c = false ∨ numAt b (p + 8) ≠ o)) ∨ (n ≠ 0 ∧ (memberB b n c = false ∨ numAt b (n + 16) ≠ o)) then none else
    let b1 := if p = 0 then layAt b (headO c) n else layAt b (p + 8) n
    let b2 := if n = 0 then b1 else layAt b1 (n + 16) p
    some (markB b2 c)
def allFrom (b : List UInt8) (c : Nat) : Nat → Nat → Nat → Option (List Nat)
  | 0, at_, _ => if at_ = 0 then some [] else none
  | f + 1, at_, last => if at_ = 0 then some [] else
    if memberB b at_ c = false ∨ numAt b (at_ + 16) ≠ last then none else (allFrom b c f (numAt b (at_ + 8)) at_).map (at_ :: ·)
def allB (b : List UInt8) (c : Nat) : Option (List Nat) :=
  if b.length < 184 then none else if bitAt (numAt b 0) c ≠ decide (numAt b (headO c) ≠ 0) then none else allFrom b c 1024 (numAt b (headO c)) 0
/-- The first one of a list that is large enough. -/
def firstFit (b : List UInt8) (size : Nat) : List Nat → Option Nat
  | [] => none
  | o :: l => match blkAt b o with
    | some x => if size ≤ x.size then some o else firstFit b size l
    | none => firstFit b size l
/-- Of so many classes from c on: where a block stands (0: none); nothing: a list is amiss. -/
def findFrom (b : List UInt8) (size : Nat) : Nat → Nat → Option Nat
  | 0, _ => some 0
  | f + 1, c => match allB b c with
    | none => none
    | some l => match firstFit b size l with
      | some o => some o
      | none => findFrom b size f (c + 1)
def findB (b : List UInt8) (size : Nat) : Option Nat := findFrom b size (22 - (cls size).toNat) (cls size).toNat
def putAll (b : List UInt8) : List Blk → List UInt8
  | [] => b
  | x :: l => if x.used then putAll b l else putAll ((putB b x.off).getD b) l
def clearB (b : List UInt8) : List UInt8 := List.replicate 184 0 ++ b.drop 184
def rebuildB (b : List UInt8) : Option (List UInt8) := (walkB b).map fun l => putAll (clearB b) l
end Go.Own
