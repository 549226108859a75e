/- Plain lemmas on numbers, lists and bytes that this seat's proofs share; no condition. -/
import Derived.Test.YtihdnoobcpkgaaaWMore
import Derived.Test.YtihdnoobcpkgaaaWLast
import Derived.Laws.BitsLemmas
namespace Go.Proofs.Ytihdnoobcpkgaaa.B
open Go.RowKit Go.Proofs.YtihdnoobcpkgaaaW.PrintWords Go.Proofs.YtihdnoobcpkgaaaW.PrintLast Go.Proofs.YtihdnoobcpkgaaaW.PrintMore
set_option linter.unusedVariables false
set_option linter.unusedSimpArgs false

theorem w64 {n : Int} (h0 : -9223372036854775808 ≤ n) (h1 : n < 9223372036854775808) : wrap64 n = n := by
  unfold wrap64; omega

theorem tmod_nn {a b : Int} (h0 : 0 ≤ a) (h1 : 0 < b) : 0 ≤ Int.tmod a b ∧ Int.tmod a b < b :=
  ⟨Int.tmod_nonneg _ h0, Int.tmod_lt_of_pos _ h1⟩

theorem tdiv_nn {a b : Int} (h0 : 0 ≤ a) (h1 : 0 < b) : 0 ≤ Int.tdiv a b ∧ Int.tdiv a b ≤ a := by
  rw [Int.tdiv_eq_ediv_of_nonneg h0]
  exact ⟨Int.ediv_nonneg h0 (by omega), Int.ediv_le_self _ h0⟩

theorem xor_nn {a b : Int} (h0 : 0 ≤ a) (h1 : a < 2 ^ 62) (h2 : 0 ≤ b) (h3 : b < 2 ^ 62) :
    0 ≤ Go.bits .xor .i64 a b ∧ Go.bits .xor .i64 a b < 2 ^ 62 := by
  obtain ⟨x, rfl⟩ := Int.eq_ofNat_of_zero_le h0
  obtain ⟨y, rfl⟩ := Int.eq_ofNat_of_zero_le h2
  have hx : x < 2 ^ 62 := by exact_mod_cast h1
  have hy : y < 2 ^ 62 := by exact_mod_cast h3
  have hx' : x % 2 ^ IntKind.i64.bits = x := Nat.mod_eq_of_lt (Nat.lt_of_lt_of_le hx (by decide))
  have hy' : y % 2 ^ IntKind.i64.bits = y := Nat.mod_eq_of_lt (Nat.lt_of_lt_of_le hy (by decide))
  have hz : x ^^^ y < 2 ^ 62 := Nat.xor_lt_two_pow hx hy
  have e : Go.bits .xor .i64 (x : Int) (y : Int) = ((x ^^^ y : Nat) : Int) := by
    simp only [Go.bits, BitVec.ofInt_natCast, BitVec.toNat_xor, BitVec.toNat_ofNat, hx', hy']
    rw [IntKind.wrap_i64]
    have : ((x ^^^ y : Nat) : Int) < 2 ^ 62 := by exact_mod_cast hz
    omega
  rw [e]
  exact ⟨Int.natCast_nonneg _, by exact_mod_cast hz⟩

theorem rd_byte {b : List Int} (hb : ∀ x ∈ b, 0 ≤ x ∧ x ≤ 255) (i : Int) : 0 ≤ rd b i ∧ rd b i ≤ 255 := by
  unfold rd
  rw [List.getD_eq_getElem?_getD]
  cases h : b[i.toNat]? with
  | none => simp
  | some v => simpa using hb v (List.mem_of_getElem? h)

theorem wf_u8 {x : Int} (h : (Lit.int .u8 x).wf = true) : 0 ≤ x ∧ x ≤ 255 := by
  simp [Lit.wf, IntKind.min, IntKind.max, IntKind.signed, IntKind.bits] at h
  omega

theorem wf_i64 {x : Int} (h : (Lit.int .i64 x).wf = true) : -9223372036854775808 ≤ x ∧ x < 9223372036854775808 := by
  simp [Lit.wf, IntKind.min, IntKind.max, IntKind.signed, IntKind.bits] at h
  omega

end Go.Proofs.Ytihdnoobcpkgaaa.B
