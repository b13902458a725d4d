/- What an arena's calls come to, in plain words: an error's number, and the arena then. -/
import Derived.Test.YtjijniillehfoaaBlkP
namespace Go.Own
def Ar.there (A : Ar) (addr n : Int) : Bool := decide ((A.base : Int) ≤ addr ∧ addr - A.base + n ≤ A.b.length)
def Ar.at' (A : Ar) (addr : Int) : Nat := (addr - A.base).toNat
def Ar.grow (A : Ar) (n : Int) : Int × Ar := if n < 0 then (1, A) else if (A.cap : Int) < A.b.length + n then (5, A) else (0, { A with b := A.b ++ List.replicate n.toNat 0 })
def Ar.widen (A : Ar) (n : Int) : Int × Ar := if (A.cap : Int) ≤ n ∧ n ≤ 16384 then (0, { A with cap := n.toNat }) else (1, A)
def Ar.load (A : Ar) (addr n : Int) : Int × List UInt8 := if A.there addr n then (0, (A.b.drop (A.at' addr)).take n.toNat) else (2, [])
def Ar.store (A : Ar) (addr : Int) (b : List UInt8) : Int × Ar := if A.there addr b.length then (0, { A with b := lay A.b (A.at' addr) b }) else (2, A)
def Ar.word (A : Ar) (addr : Int) : Int × Nat := if A.there addr 8 then (0, numAt A.b (A.at' addr)) else (2, 0)
def Ar.copy (A : Ar) (to fr n : Int) : Int × Ar := if A.there fr n ∧ A.there to n then (0, { A with b := lay A.b (A.at' to) ((A.b.drop (A.at' fr)).take n.toNat) }) else (2, A)
def Ar.fill (A : Ar) (addr n : Int) (x : UInt8) : Int × Ar := if A.there addr n then (0, { A with b := lay A.b (A.at' addr) (List.replicate n.toNat x) }) else (2, A)
theorem Ar.there_iff {A : Ar} {addr n : Int} : A.there addr n = true ↔ (A.base : Int) ≤ addr ∧ addr - A.base + n ≤ A.b.length := by unfold Ar.there; exact decide_eq_true_iff
theorem Ar.there_at {A : Ar} {addr n : Int} (h : A.there addr n = true) : addr = A.base + (A.at' addr : Nat) := by
  have := Ar.there_iff.1 h; unfold Ar.at'; omega
theorem Ar.there_le {A : Ar} {addr n : Int} {m : Nat} (h : A.there addr n = true) (hm : n = m) : A.at' addr + m ≤ A.b.length := by
  have := Ar.there_iff.1 h; unfold Ar.at'; omega
theorem Ar.there_no {A : Ar} {addr n : Int} (h : ¬ A.there addr n = true) : ¬ ((A.base : Int) ≤ addr ∧ addr - A.base + n ≤ A.b.length) := fun h' => h (Ar.there_iff.2 h')
theorem lay_rep_succ (l : List UInt8) (i k : Nat) (x : UInt8) (h : i + k < l.length) : (lay l i (List.replicate k x)).set (i + k) x = lay l i (List.replicate (k + 1) x) := by
  unfold lay
  apply List.ext_getElem?
  intro j
  simp only [List.getElem?_set, List.getElem?_append, List.getElem?_take, List.getElem?_drop, List.getElem?_replicate, List.length_append, List.length_take, List.length_replicate, List.length_drop]
  grind
theorem lay_snoc (l b : List UInt8) (i k : Nat) (h : i + k < l.length) (hk : k < b.length) : (lay l i (b.take k)).set (i + k) b[k] = lay l i (b.take (k + 1)) := by
  unfold lay
  apply List.ext_getElem?
  intro j
  simp only [List.getElem?_set, List.getElem?_append, List.getElem?_take, List.getElem?_drop, List.length_append, List.length_take, List.length_drop]
  grind
end Go.Own
