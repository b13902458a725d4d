/- The disks' contracts, all cases in one: as Dk.read, Dk.write, Dk.flush tell. -/
import Derived.Test.YtjijniillehfoaaLDisk4
namespace Go.Proofs.Ytjijniillehfoaa
open Go Go.RowKit Go.Own
set_option linter.unusedVariables false
set_option maxRecDepth 100000
/-- An error, by its number. -/
def errN (k : Int) : Value := if k = 0 then .nilIface else .iface 183 (.int .i64 k)
theorem code_err (w : World) (k : Int) (h0 : 0 ≤ k) (h1 : k ≤ 10) : Calls Try.prog 51 #[errN k] w fun e w' => e = .returned (.int .i64 k) ∧ w = w' := by
  unfold errN
  split
  · subst k; exact code_nil w
  · exact code_of w k (by omega) h1
theorem Dk.write_code (D : Dk) (i : Int) (b : List UInt8) : 0 ≤ (D.write i b).1 ∧ (D.write i b).1 ≤ 10 := by
  unfold Dk.write
  split
  · exact ⟨by show (0:Int) ≤ 1; decide, by show (1:Int) ≤ 10; decide⟩
  · split
    · exact ⟨by show (0:Int) ≤ 6; decide, by show (6:Int) ≤ 10; decide⟩
    · exact ⟨by show (0:Int) ≤ 0; decide, by show (0:Int) ≤ 10; decide⟩
theorem Dk.read_code (D : Dk) (i : Int) : 0 ≤ (D.read i).1 ∧ (D.read i).1 ≤ 10 := by
  unfold Dk.read
  split
  · exact ⟨by show (0:Int) ≤ 1; decide, by show (1:Int) ≤ 10; decide⟩
  · split
    · exact ⟨by show (0:Int) ≤ 6; decide, by show (6:Int) ≤ 10; decide⟩
    · exact ⟨by show (0:Int) ≤ 0; decide, by show (0:Int) ≤ 10; decide⟩
theorem Dk.flush_code (D : Dk) : 0 ≤ (D.flush).1 ∧ (D.flush).1 ≤ 10 := by
  unfold Dk.flush
  split
  · exact ⟨by show (0:Int) ≤ 6; decide, by show (6:Int) ≤ 10; decide⟩
  · exact ⟨by show (0:Int) ≤ 0; decide, by show (0:Int) ≤ 10; decide⟩
theorem DkTo.refl {p : Nat} {D : Dk} {F : Nat → Prop} {w : World} (h : DkRep w p D F) : DkTo p D F w w := ⟨F, h, Keep.refl _ _, fun k hk => .inl hk⟩
theorem RdTo.refl {p : Nat} {D : Dk} {F : Nat → Prop} {w : World} (h : RdRep w p D F) : RdTo p D F w w := ⟨F, h, Keep.refl _ _, fun k hk => .inl hk⟩
theorem disk_Write (w : World) (p : Nat) (D : Dk) (F : Nat → Prop) (h : DkRep w p D F) (i : Int) (a : Option Addr) (n c : Nat) (b : List UInt8) (hb : Bs w a n c b) (hmany : D.wait.length ≤ 1000000) :
    Calls Try.prog 28 #[.pointer (some ⟨p, 0, none⟩), .int .i64 i, .slice a n c] w fun e w' => e = .returned (errN (D.write i b).1) ∧ DkTo p (D.write i b).2 F w w' := by
  unfold Dk.write
  split
  · rename_i hf
    refine (disk_Write_arg w p D F h i a n c b hb hf).mono ?_
    rintro e w' ⟨rfl, rfl⟩
    exact ⟨rfl, .refl h⟩
  · rename_i hf
    have hf := Classical.not_not.1 hf
    split
    · rename_i hd
      refine (disk_Write_down w p D F h i a n c b hb hf.1 hf.2.1 hf.2.2 hd).mono ?_
      rintro e w' ⟨rfl, h'⟩
      exact ⟨rfl, h'⟩
    · rename_i hd
      have ho : D.off = false := by cases hx : D.off; rfl; exact absurd (.inl hx) hd
      refine (disk_Write_ok w p D F h i i.toNat (by omega) a n c b hb (by omega) hf.2.2 ho (fun e => hd (.inr e)) hmany).mono ?_
      rintro e w' ⟨rfl, h'⟩
      exact ⟨rfl, h'⟩
theorem rd_Write (w : World) (p : Nat) (D : Dk) (F : Nat → Prop) (h : RdRep w p D F) (i : Int) (a : Option Addr) (n c : Nat) (b : List UInt8) (hb : Bs w a n c b) (hmany : D.wait.length ≤ 1000000) :
    Calls Try.prog 136 #[.pointer (some ⟨p, 0, none⟩), .int .i64 i, .slice a n c] w fun e w' => e = .returned (.int .i64 (D.write i b).1) ∧ RdTo p (D.write i b).2 F w w' := by
  unfold Dk.write
  split
  · rename_i hf
    refine (rd_Write_arg w p D F h i a n c b hb hf).mono ?_
    rintro e w' ⟨rfl, rfl⟩
    exact ⟨rfl, .refl h⟩
  · rename_i hf
    have hf := Classical.not_not.1 hf
    split
    · rename_i hd
      refine (rd_Write_down w p D F h i a n c b hb hf.1 hf.2.1 hf.2.2 hd).mono ?_
      rintro e w' ⟨rfl, h'⟩
      exact ⟨rfl, h'⟩
    · rename_i hd
      have ho : D.off = false := by cases hx : D.off; rfl; exact absurd (.inl hx) hd
      refine (rd_Write_ok w p D F h i i.toNat (by omega) a n c b hb (by omega) hf.2.2 ho (fun e => hd (.inr e)) hmany).mono ?_
      rintro e w' ⟨rfl, h'⟩
      exact ⟨rfl, h'⟩
theorem disk_Flush (w : World) (p : Nat) (D : Dk) (F : Nat → Prop) (h : DkRep w p D F) (hmany : D.wait.length ≤ 1000000) :
    Calls Try.prog 31 #[.pointer (some ⟨p, 0, none⟩)] w fun e w' => e = .returned (errN D.flush.1) ∧ DkTo p D.flush.2 F w w' := by
  unfold Dk.flush
  cases ho : D.off with
  | true =>
    refine (disk_Flush_off w p D F h ho).mono ?_
    rintro e w' ⟨rfl, rfl⟩
    exact ⟨rfl, .refl h⟩
  | false =>
    refine (disk_Flush_ok w p D F h ho hmany).mono ?_
    rintro e w' ⟨rfl, h'⟩
    exact ⟨rfl, h'⟩
theorem rd_Flush (w : World) (p : Nat) (D : Dk) (F : Nat → Prop) (h : RdRep w p D F) (hmany : D.wait.length ≤ 1000000) :
    Calls Try.prog 135 #[.pointer (some ⟨p, 0, none⟩)] w fun e w' => e = .returned (.int .i64 D.flush.1) ∧ RdTo p D.flush.2 F w w' := by
  unfold Dk.flush
  cases ho : D.off with
  | true =>
    refine (rd_Flush_off w p D F h ho).mono ?_
    rintro e w' ⟨rfl, rfl⟩
    exact ⟨rfl, .refl h⟩
  | false =>
    refine (rd_Flush_ok w p D F h ho hmany).mono ?_
    rintro e w' ⟨rfl, h'⟩
    exact ⟨rfl, h'⟩
/-- What was read, and an error. -/
def ReadOk (l : List UInt8) (err : Value) (w : World) (e : Ending) (w' : World) : Prop :=
  ∃ a n c, e = .returned (.tuple #[.slice a n c, err]) ∧ Bs w' a n c l ∧ Below w.heap.size w w'
theorem disk_Read (w : World) (p : Nat) (D : Dk) (F : Nat → Prop) (h : DkRep w p D F) (i : Int) (hmany : D.wait.length ≤ 1000000) :
    Calls Try.prog 129 #[.pointer (some ⟨p, 0, none⟩), .int .i64 i] w (ReadOk (D.read i).2 (errN (D.read i).1) w) := by
  unfold Dk.read
  split
  · rename_i hf
    refine (disk_Read_arg w p D F h i hf).mono ?_
    rintro e w' ⟨rfl, rfl⟩
    exact ⟨_, _, _, rfl, Bs.nil _, .refl _ _⟩
  · rename_i hf
    have hf := Classical.not_not.1 hf
    cases ho : D.off with
    | true =>
      refine (disk_Read_off w p D F h i hf.1 hf.2 ho).mono ?_
      rintro e w' ⟨rfl, rfl⟩
      exact ⟨_, _, _, rfl, Bs.nil _, .refl _ _⟩
    | false =>
      refine (disk_Read_ok w p D F h i i.toNat (by omega) (by omega) ho hmany).mono ?_
      rintro e w' ⟨v, rfl, hv, hb⟩
      obtain ⟨a, c, rfl, _, hs⟩ := Sl.of_owned hv
      exact ⟨_, _, _, rfl, hs, hb⟩
theorem rd_Read (w : World) (p : Nat) (D : Dk) (F : Nat → Prop) (h : RdRep w p D F) (i : Int) (hmany : D.wait.length ≤ 1000000) :
    Calls Try.prog 134 #[.pointer (some ⟨p, 0, none⟩), .int .i64 i] w (ReadOk (D.read i).2 (.int .i64 (D.read i).1) w) := by
  unfold Dk.read
  split
  · rename_i hf
    refine (rd_Read_arg w p D F h i hf).mono ?_
    rintro e w' ⟨rfl, rfl⟩
    exact ⟨_, _, _, rfl, Bs.nil _, .refl _ _⟩
  · rename_i hf
    have hf := Classical.not_not.1 hf
    cases ho : D.off with
    | true =>
      refine (rd_Read_off w p D F h i hf.1 hf.2 ho).mono ?_
      rintro e w' ⟨rfl, rfl⟩
      exact ⟨_, _, _, rfl, Bs.nil _, .refl _ _⟩
    | false =>
      refine (rd_Read_ok w p D F h i i.toNat (by omega) (by omega) ho hmany).mono ?_
      rintro e w' ⟨v, rfl, hv, hb⟩
      obtain ⟨a, c, rfl, _, hs⟩ := Sl.of_owned hv
      exact ⟨_, _, _, rfl, hs, hb⟩
end Go.Proofs.Ytjijniillehfoaa
