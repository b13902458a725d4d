/- What a dump's head says, word by word: so that the kernel needn't read a long head sign by sign. -/
import Derived.ProofKit
namespace Go.Own
open Go
theorem words_step (p r : List Char) (h : p.all (fun c => !(c == Char.ofNat 32)) = true) : wordsSigns (p ++ Char.ofNat 32 :: r) = p :: wordsSigns r := by
  induction p with
  | nil => rfl
  | cons c p ih =>
    simp only [List.all_cons, Bool.and_eq_true, Bool.not_eq_true', beq_eq_false_iff_ne] at h
    have hne := h.1
    have e := ih h.2
    generalize wordsSigns r = ws at e ⊢
    rw [List.cons_append]
    unfold wordsSigns
    split
    · rename_i e; cases e
    · rename_i e; injection e with e1 e2; exact absurd e1 hne
    · rename_i e3
      injection e3 with e1 e2
      subst e1; subst e2
      rw [e]
/-- A head of three words, and more. -/
theorem head_words {s : String} {a b c r : List Nat} (hs : s = String.ofList ((a ++ 32 :: (b ++ 32 :: (c ++ 32 :: r))).map Char.ofNat))
    (ha : (a.map Char.ofNat).all (fun c => !(c == Char.ofNat 32)) = true) (hb : (b.map Char.ofNat).all (fun c => !(c == Char.ofNat 32)) = true) (hc : (c.map Char.ofNat).all (fun c => !(c == Char.ofNat 32)) = true) :
    wordsSigns s.toList = a.map Char.ofNat :: b.map Char.ofNat :: c.map Char.ofNat :: wordsSigns (r.map Char.ofNat) := by
  rw [hs, String.toList_ofList]
  simp only [List.map_append, List.map_cons]
  rw [words_step _ _ ha, words_step _ _ hb, words_step _ _ hc]
section
variable {P : Program} {a b r : List Nat}
def cutW : List Nat := [99, 117, 116]
theorem behind_words (w : List Char) (h1 : (a.map Char.ofNat == "harness".toList) = true) (h2 : isSumSigns (b.map Char.ofNat) = true) (rest : List (List Char)) : behindMainWord (a.map Char.ofNat :: b.map Char.ofNat :: w :: rest) = w :: rest := by
  show (if ((a.map Char.ofNat == "harness".toList || a.map Char.ofNat == "ownmain".toList) && isSumSigns (b.map Char.ofNat)) = true then w :: rest else _) = _
  rw [h1, h2]
  rfl
theorem make_head (hw : wordsSigns P.initOrder.toList = a.map Char.ofNat :: b.map Char.ofNat :: cutW.map Char.ofNat :: wordsSigns (r.map Char.ofNat)) (h1 : (a.map Char.ofNat == "harness".toList) = true) (h2 : isSumSigns (b.map Char.ofNat) = true) : P.make = some .cut := by
  unfold Program.make
  rw [hw, behind_words _ h1 h2]
  generalize wordsSigns (r.map Char.ofNat) = ws
  kernel_rfl
theorem strip_cut (ws : List (List Char)) : stripLifts liftWords (cutW.map Char.ofNat :: ws) = ([], cutW.map Char.ofNat :: ws) := by kernel_rfl
theorem lifts_head (hw : wordsSigns P.initOrder.toList = a.map Char.ofNat :: b.map Char.ofNat :: cutW.map Char.ofNat :: wordsSigns (r.map Char.ofNat)) (h1 : (a.map Char.ofNat == "harness".toList) = true) (h2 : isSumSigns (b.map Char.ofNat) = true) : P.liftsFinal = false := by
  unfold Program.liftsFinal Program.headLifts
  rw [hw, behind_words _ h1 h2]
  generalize wordsSigns (r.map Char.ofNat) = ws
  rw [strip_cut]
  kernel_rfl
theorem enter_head (hw : wordsSigns P.initOrder.toList = a.map Char.ofNat :: b.map Char.ofNat :: cutW.map Char.ofNat :: wordsSigns (r.map Char.ofNat)) (h1 : (a.map Char.ofNat == "harness".toList) = true) (h2 : isSumSigns (b.map Char.ofNat) = true)
    (hl : P.laysLater = false) (hb : P.bearsReflect = false) (hd : P.doorFits [] = true) : P.mayEnter = true := by
  unfold Program.mayEnter
  rw [hw, behind_words _ h1 h2]
  generalize wordsSigns (r.map Char.ofNat) = ws
  simp only
  rw [strip_cut, hl, hb]
  simp only
  rw [hd]
  have e1 : ((cutW.map Char.ofNat) == "gc".toList) = false := by kernel_rfl
  have e2 : ((cutW.map Char.ofNat) == "spec".toList) = false := by kernel_rfl
  have e3 : ((cutW.map Char.ofNat) == "carried".toList) = false := by kernel_rfl
  have e4 : ((cutW.map Char.ofNat :: ws).head? == some "cut".toList) = true := by kernel_rfl
  rw [e1, e2, e3, e4]
  rfl
end
end Go.Own
