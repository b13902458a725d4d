/- What comes in, opened: a slice of bytes as a list; whatever else as a value that reads. -/
import Derived.Test.YtjijniillehfoaaBase
import Derived.ProofKit
import Derived.OpenShut
namespace Go.Own
open Go Go.RowKit Go.ChangeShapes Go.WideShapes
theorem open_bytes {H : Type} {enc : TypeId × Value → H} {P : Program} {W : World} {t e : TypeId} {a : Option Addr} {len cap : Nat} {d : DataW H} {p : List MemPlace}
    (ht : P.underlying t = some (.slice e)) (he : P.underlying e = some (.int .u8)) (hc : P.cellsOf e = 1)
    (h : DataW.Trod enc P W 0 (fun _ => true) true t (.slice a len cap) d p) : ∃ l, Bs W a len cap l := by
  obtain ⟨fuel, hf⟩ := h
  rcases open_ints ht he hc hf with ⟨hcs, _⟩ | ⟨x, l, c, zs, hcs, _, hl, hm, hz, _, hcell, hwz⟩
  · simp [Value.cells] at hcs
    obtain ⟨rfl, rfl, rfl⟩ := hcs
    exact ⟨[], Bs.nil W⟩
  · simp [Value.cells] at hcs
    obtain ⟨rfl, rfl, rfl⟩ := hcs
    refine ⟨(zs.take len).map fun z => UInt8.ofNat z.toNat, ?_, hl, by unfold maxLen at hm; omega, fun h => (by cases h), ?_⟩
    · have : zs.length = cap := by simpa using hz
      simp; omega
    · intro i v hv
      have hz' : zs.length = cap := by simpa using hz
      simp only [List.getElem?_map, List.getElem?_take] at hv
      split at hv
      · rename_i hi
        have hlt : i < zs.length := by omega
        rw [List.getElem?_eq_getElem hlt] at hv
        simp only [Option.map_some, Option.some.injEq] at hv
        have hw := hwz zs[i] (List.getElem_mem hlt)
        have hcl := hcell i hlt
        simp [Lit.wf, IntKind.min, IntKind.max, IntKind.bits, IntKind.signed] at hw
        have h0 := hcell 0 (by omega)
        obtain ⟨b, o, sp⟩ := x
        have hsp : sp = none := by
          cases sp with
          | none => rfl
          | some s => exfalso; revert h0; simp [World.cell?, Addr.add]; split <;> simp
        subst hsp
        refine ⟨b, o, rfl, ?_⟩
        have hadd : (⟨b, o, none⟩ : Addr).add i = ⟨b, o + i, none⟩ := by unfold Addr.add; split <;> simp_all
        rw [hadd] at hcl
        rw [hcl, ← hv, bv]
        simp [List.getD, hlt]
        omega
      · cases hv
end Go.Own
