/- Disks beside whatever else there is: their contracts. -/
import Derived.Test.YtjijniillehfoaaLDisk5
import Derived.Test.YtjijniillehfoaaLAr1
import Derived.Test.YtjijniillehfoaaFlow3
namespace Go.Proofs.Ytjijniillehfoaa
open Go Go.RowKit Go.Own
set_option linter.unusedVariables false
set_option maxRecDepth 100000
def DkO (p : Nat) (D : Dk) : Ob where
  m := true
  p := fun w F => DkRep w p D F ∧ ∀ k, F k → k < w.heap.size
  lt := fun h => h.2
  kept := fun {w w' F G} h k hd => ⟨h.1.kept k hd, fun x hx => Nat.lt_of_lt_of_le (h.2 x hx) k.size⟩
def RdO (p : Nat) (D : Dk) : Ob where
  m := true
  p := fun w F => RdRep w p D F ∧ ∀ k, F k → k < w.heap.size
  lt := fun h => h.2
  kept := fun {w w' F G} h k hd => ⟨h.1.kept k hd, fun x hx => Nat.lt_of_lt_of_le (h.2 x hx) k.size⟩
abbrev ptr (p : Nat) : Value := .pointer (some ⟨p, 0, none⟩)
section
variable {B : Nat} {w0 w : World} {l : List Ob} {i p : Nat} {D : Dk}
theorem dk_of (h : St B w0 w l) (hi : l[i]? = some (DkO p D)) : ∃ F, DkRep w p D F ∧ (∀ k, F k → B ≤ k) ∧ ∀ (w' : World) (D' : Dk), DkTo p D' F w w' → St B w0 w' (l.set i (DkO p D')) := by
  obtain ⟨F, h1, h2, h3, h4⟩ := h.at hi
  refine ⟨F, h1.1, h3 rfl, fun w' D' ht => ?_⟩
  obtain ⟨F', t1, t2, t3⟩ := ht
  exact h4 w' _ _ rfl t2 ⟨t1.tight, fun k hk => hk.2⟩ fun x hx => t3 x hx.1
theorem rd_of (h : St B w0 w l) (hi : l[i]? = some (RdO p D)) : ∃ F, RdRep w p D F ∧ (∀ k, F k → B ≤ k) ∧ ∀ (w' : World) (D' : Dk), RdTo p D' F w w' → St B w0 w' (l.set i (RdO p D')) := by
  obtain ⟨F, h1, h2, h3, h4⟩ := h.at hi
  refine ⟨F, h1.1, h3 rfl, fun w' D' ht => ?_⟩
  obtain ⟨F', t1, t2, t3⟩ := ht
  exact h4 w' _ _ rfl t2 ⟨t1.tight, fun k hk => hk.2⟩ fun x hx => t3 x hx.1
theorem dk_Sectors (h : St B w0 w l) (hi : l[i]? = some (DkO p D)) : Calls Try.prog 36 #[ptr p] w fun e w' => e = .returned (.int .i64 D.L.length) ∧ w = w' := by
  obtain ⟨F, hd, _⟩ := dk_of h hi
  exact disk_Sectors w p D F hd
theorem dk_Waiting (h : St B w0 w l) (hi : l[i]? = some (DkO p D)) : Calls Try.prog 34 #[ptr p] w fun e w' => e = .returned (.int .i64 D.wait.length) ∧ w = w' := by
  obtain ⟨F, hd, _⟩ := dk_of h hi
  exact disk_Waiting w p D F hd
theorem dk_Bytes (h : St B w0 w l) (hi : l[i]? = some (DkO p D)) : Calls Try.prog 32 #[ptr p] w fun e w' => ∃ v, e = .returned v ∧ St B w0 w' (OwB v D.L.flatten :: l) := by
  obtain ⟨F, hd, _⟩ := dk_of h hi
  refine (disk_Bytes w p D F hd).mono ?_
  rintro e w' ⟨v1, rfl, ho, hb⟩
  exact ⟨v1, rfl, h.addOwn hb ho⟩
theorem rdk_Bytes (h : St B w0 w l) (hi : l[i]? = some (RdO p D)) : Calls Try.prog 39 #[ptr p] w fun e w' => ∃ v, e = .returned v ∧ St B w0 w' (OwB v D.L.flatten :: l) := by
  obtain ⟨F, hd, _⟩ := rd_of h hi
  refine (rd_Bytes w p D F hd).mono ?_
  rintro e w' ⟨v1, rfl, ho, hb⟩
  exact ⟨v1, rfl, h.addOwn hb ho⟩
theorem dk_Write (h : St B w0 w l) (hi : l[i]? = some (DkO p D)) (j : Int) (a : Option Addr) (n c : Nat) (b : List UInt8) (hb : Bs w a n c b) (hm : D.wait.length ≤ 1000000) :
    Calls Try.prog 28 #[ptr p, .int .i64 j, .slice a n c] w fun e w' => e = .returned (errN (D.write j b).1) ∧ St B w0 w' (l.set i (DkO p (D.write j b).2)) := by
  obtain ⟨F, hd, _, hto⟩ := dk_of h hi
  refine (disk_Write w p D F hd j a n c b hb hm).mono ?_
  rintro e w' ⟨rfl, ht⟩
  exact ⟨rfl, hto _ _ ht⟩
theorem rdk_Write (h : St B w0 w l) (hi : l[i]? = some (RdO p D)) (j : Int) (a : Option Addr) (n c : Nat) (b : List UInt8) (hb : Bs w a n c b) (hm : D.wait.length ≤ 1000000) :
    Calls Try.prog 136 #[ptr p, .int .i64 j, .slice a n c] w fun e w' => e = .returned (.int .i64 (D.write j b).1) ∧ St B w0 w' (l.set i (RdO p (D.write j b).2)) := by
  obtain ⟨F, hd, _, hto⟩ := rd_of h hi
  refine (rd_Write w p D F hd j a n c b hb hm).mono ?_
  rintro e w' ⟨rfl, ht⟩
  exact ⟨rfl, hto _ _ ht⟩
theorem dk_Flush (h : St B w0 w l) (hi : l[i]? = some (DkO p D)) (hm : D.wait.length ≤ 1000000) :
    Calls Try.prog 31 #[ptr p] w fun e w' => e = .returned (errN D.flush.1) ∧ St B w0 w' (l.set i (DkO p D.flush.2)) := by
  obtain ⟨F, hd, _, hto⟩ := dk_of h hi
  refine (disk_Flush w p D F hd hm).mono ?_
  rintro e w' ⟨rfl, ht⟩
  exact ⟨rfl, hto _ _ ht⟩
theorem rdk_Flush (h : St B w0 w l) (hi : l[i]? = some (RdO p D)) (hm : D.wait.length ≤ 1000000) :
    Calls Try.prog 135 #[ptr p] w fun e w' => e = .returned (.int .i64 D.flush.1) ∧ St B w0 w' (l.set i (RdO p D.flush.2)) := by
  obtain ⟨F, hd, _, hto⟩ := rd_of h hi
  refine (rd_Flush w p D F hd hm).mono ?_
  rintro e w' ⟨rfl, ht⟩
  exact ⟨rfl, hto _ _ ht⟩
theorem dk_Read (h : St B w0 w l) (hi : l[i]? = some (DkO p D)) (j : Int) (hm : D.wait.length ≤ 1000000) :
    Calls Try.prog 129 #[ptr p, .int .i64 j] w fun e w' => ∃ a n c, e = .returned (.tuple #[.slice a n c, errN (D.read j).1]) ∧ Bs w' a n c (D.read j).2 ∧ Below w.heap.size w w' := by
  obtain ⟨F, hd, _, hto⟩ := dk_of h hi
  exact disk_Read w p D F hd j hm
theorem rdk_Read (h : St B w0 w l) (hi : l[i]? = some (RdO p D)) (j : Int) (hm : D.wait.length ≤ 1000000) :
    Calls Try.prog 134 #[ptr p, .int .i64 j] w fun e w' => ∃ a n c, e = .returned (.tuple #[.slice a n c, .int .i64 (D.read j).1]) ∧ Bs w' a n c (D.read j).2 ∧ Below w.heap.size w w' := by
  obtain ⟨F, hd, _, hto⟩ := rd_of h hi
  exact rd_Read w p D F hd j hm
theorem dk_Cut (h : St B w0 w l) (hi : l[i]? = some (DkO p D)) (n : Int) (h0 : -9223372036854775808 ≤ n) (h1 : n ≤ 9223372036854775807) :
    Calls Try.prog 49 #[ptr p, .int .i64 n] w fun e w' => e = .returned (.tuple #[]) ∧ St B w0 w' (l.set i (DkO p (D.cut n))) := by
  obtain ⟨F, hd, _, hto⟩ := dk_of h hi
  refine (disk_Cut w p D F hd n h0 h1).mono ?_
  rintro e w' ⟨rfl, ht⟩
  exact ⟨rfl, hto _ _ ht⟩
theorem rdk_Cut (h : St B w0 w l) (hi : l[i]? = some (RdO p D)) (n : Int) (h0 : -9223372036854775808 ≤ n) (h1 : n ≤ 9223372036854775807) :
    Calls Try.prog 50 #[ptr p, .int .i64 n] w fun e w' => e = .returned (.tuple #[]) ∧ St B w0 w' (l.set i (RdO p (D.cut n))) := by
  obtain ⟨F, hd, _, hto⟩ := rd_of h hi
  refine (rd_Cut w p D F hd n h0 h1).mono ?_
  rintro e w' ⟨rfl, ht⟩
  exact ⟨rfl, hto _ _ ht⟩
/-- What came in: truth values. -/
theorem St.ts (h : St B w0 w l) {a : Option Addr} {n c : Nat} {b : List Bool} (hb : Ts w0 a n c b) (ha : ∀ q, a = some q → 0 < b.length → q.block < B) : Ts w a n c b :=
  ts_keep2 hb h.keep fun q h1 h2 hf => by have := ha q h1 h2; have hf : B ≤ q.block := hf; omega
theorem dk_Boot (h : St B w0 w l) (hi : l[i]? = some (DkO p D)) (ka : Option Addr) (kn kc : Nat) (kl : List Bool) (hk : Ts w0 ka kn kc kl) (ha : ∀ q, ka = some q → 0 < kl.length → q.block < B) (hm : D.wait.length ≤ 1000000) :
    Calls Try.prog 33 #[ptr p, .slice ka kn kc] w fun e w' => e = .returned (.tuple #[]) ∧ St B w0 w' (l.set i (DkO p (D.boot kl))) := by
  obtain ⟨F, hd, hF, hto⟩ := dk_of h hi
  refine (disk_Boot w p D F hd hm ka kn kc kl (St.ts h hk ha) fun q h1 h2 hf => ?_).mono ?_
  · have := ha q h1 h2; have := hF _ hf; omega
  · rintro e w' ⟨rfl, ht⟩
    exact ⟨rfl, hto _ _ ht⟩
theorem rdk_Boot (h : St B w0 w l) (hi : l[i]? = some (RdO p D)) (ka : Option Addr) (kn kc : Nat) (kl : List Bool) (hk : Ts w0 ka kn kc kl) (ha : ∀ q, ka = some q → 0 < kl.length → q.block < B) (hm : D.wait.length ≤ 1000000) :
    Calls Try.prog 56 #[ptr p, .slice ka kn kc] w fun e w' => e = .returned (.tuple #[]) ∧ St B w0 w' (l.set i (RdO p (D.boot kl))) := by
  obtain ⟨F, hd, hF, hto⟩ := rd_of h hi
  refine (rd_Boot w p D F hd hm ka kn kc kl (St.ts h hk ha) fun q h1 h2 hf => ?_).mono ?_
  · have := ha q h1 h2; have := hF _ hf; omega
  · rintro e w' ⟨rfl, ht⟩
    exact ⟨rfl, hto _ _ ht⟩
def NewD (B : Nat) (w0 : World) (l : List Ob) (D : Dk) (e : Ending) (w' : World) : Prop := ∃ q, e = .returned (ptr q) ∧ St B w0 w' (DkO q D :: l)
def NewR (B : Nat) (w0 : World) (l : List Ob) (D : Dk) (e : Ending) (w' : World) : Prop := ∃ q, e = .returned (ptr q) ∧ St B w0 w' (RdO q D :: l)
theorem dk_new (h : St B w0 w l) {e : Ending} {w' : World} (hn : NewDk D w e w') : NewD B w0 l D e w' := by
  obtain ⟨q, rfl, h1, h2, h3⟩ := hn
  exact ⟨q, rfl, h.add h3 ⟨h1.tight, fun k hk => hk.2⟩ fun x hx => hx.1⟩
theorem dk_New (h : St B w0 w l) (s : Int) (n : Nat) (hs : s = n) (h2 : 2 ≤ n) (h3 : n ≤ 128) : Calls Try.prog 27 #[.int .i64 s] w (NewD B w0 l ⟨zeroL n, [], false, -1⟩) :=
  (disk_New w s n hs h2 h3).mono fun e w' hn => dk_new h hn
theorem dk_Of (h : St B w0 w l) (a : Option Addr) (n c : Nat) (b : List UInt8) (hb : Bs w a n c b) (L : List (List UInt8)) (hs : Secs L) (hL : L.flatten = b) (h2 : 2 ≤ L.length) (h3 : L.length ≤ 128) :
    Calls Try.prog 35 #[.slice a n c] w (NewD B w0 l ⟨L, [], false, -1⟩) :=
  (disk_Of w a n c b hb L hs hL h2 h3).mono fun e w' hn => dk_new h hn
theorem rdk_New (h : St B w0 w l) (a : Option Addr) (n c : Nat) (b : List UInt8) (hb : Bs w a n c b) (L : List (List UInt8)) (hs : Secs L) (hL : L.flatten = b) (h2 : 2 ≤ L.length) (h3 : L.length ≤ 128) :
    Calls Try.prog 37 #[.slice a n c] w (NewR B w0 l ⟨L, [], false, -1⟩) := by
  refine (rd_New w a n c b hb L hs hL h2 h3).mono ?_
  rintro e w' ⟨q, rfl, h1, h2, h3⟩
  exact ⟨q, rfl, h.add h3 ⟨h1.tight, fun k hk => hk.2⟩ fun x hx => hx.1⟩
/-- The reference's disk: how many sectors, how many writes wait. -/
theorem rd_cells (h : St B w0 w l) (hi : l[i]? = some (RdO p D)) : ∃ aL cL aW cW, w.cell? ⟨p, 0, none⟩ = some (.slice aL D.L.length cL) ∧ w.cell? ⟨p, 1, none⟩ = some (.slice aW D.wait.length cW) := by
  obtain ⟨F, hd, _⟩ := rd_of h hi
  obtain ⟨vL, vW, ss, it, hr, _, _⟩ := hd
  obtain ⟨aL, cL, rfl, _, _⟩ := hr.formL
  obtain ⟨aW, cW, rfl, _, _⟩ := hr.formW
  obtain ⟨l1, l2⟩ := hr.len
  exact ⟨aL, cL, aW, cW, by rw [l1]; exact hr.row.cell 0, by rw [l2]; exact hr.row.cell 1⟩
end
end Go.Proofs.Ytjijniillehfoaa
