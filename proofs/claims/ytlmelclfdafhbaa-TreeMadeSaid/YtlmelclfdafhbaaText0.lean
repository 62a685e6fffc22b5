/- Plain functions: what package text computes. -/
import Derived.Test.YtlmelclfdafhbaaBytes
import Derived.Test.YtlmelclfdafhbaaUtf0
import Derived.Lib.ItoaNum
import Derived.Lib.ItoaLen
namespace Go.Proofs.Ytlmelclfdafhbaa
open Go.RowKit Go.PlainAid
set_option linter.unusedVariables false
set_option linter.unusedSimpArgs false
def foldN (c : Int) : Int := if 65 ≤ c ∧ c ≤ 90 then c + 32 else c
def foldZ (s : ByteArray) (n : Nat) : List Int := (List.range n).map fun j => foldN (bt s j)
def foldS (s : ByteArray) : ByteArray := strOfNums (foldZ s s.size)
theorem foldZ_succ (s : ByteArray) (n : Nat) : foldZ s (n + 1) = foldZ s n ++ [foldN (bt s n)] := by
  unfold foldZ; rw [List.range_succ, List.map_append]; rfl
theorem foldZ_len (s : ByteArray) (n : Nat) : (foldZ s n).length = n := by simp [foldZ]
theorem foldS_size (s : ByteArray) : (foldS s).size = s.size := by
  unfold foldS; rw [strOfNums_size, foldZ_len]
theorem foldN_up {c : Int} (h0 : 65 ≤ c) (h1 : c ≤ 90) : foldN c = c + 32 := by unfold foldN; rw [if_pos ⟨h0, h1⟩]
theorem foldN_no {c : Int} (h : c < 65 ∨ 90 < c) : foldN c = c := by unfold foldN; rw [if_neg (by omega)]
/-- a number in decimal digits -/
def digS (n : Int) : ByteArray := ⟨(Lib.itoa (max n 0)).toArray⟩
/-- the number that digits are -/
def numZ (s : ByteArray) : Nat → Int
  | 0 => 0
  | i + 1 => numZ s i * 10 + (bt s i - 48)
def digitsB (s : ByteArray) : Nat → Bool
  | 0 => true
  | i + 1 => digitsB s i && (decide (48 ≤ bt s i) && decide (bt s i ≤ 57))
def numB (s : ByteArray) : Int × Bool :=
  if s.size = 0 ∨ 10 < s.size ∨ (bt s 0 = 48 ∧ 1 < s.size) then (0, false)
  else if digitsB s s.size = false then (0, false) else if 4294967295 < numZ s s.size then (0, false) else (numZ s s.size, true)
theorem numZ_bound (s : ByteArray) : ∀ i, i ≤ 10 → digitsB s i = true → 0 ≤ numZ s i ∧ numZ s i < 10 ^ i := by
  intro i
  induction i with
  | zero => intro _ _; simp [numZ]
  | succ i ih =>
    intro hi hd
    simp only [digitsB, Bool.and_eq_true, decide_eq_true_eq] at hd
    obtain ⟨h1, h2, h3⟩ := hd
    have := ih (by omega) h1
    simp only [numZ]
    rw [show (10 : Int) ^ (i + 1) = 10 ^ i * 10 from Int.pow_succ ..]
    omega
theorem numZ_small (s : ByteArray) (i : Nat) (hi : i ≤ 10) (hd : digitsB s i = true) : 0 ≤ numZ s i ∧ numZ s i < 10000000000 := by
  have h := numZ_bound s i hi hd
  have hp := Nat.pow_le_pow_right (n := 10) (by omega) hi
  have : (10 : Int) ^ i ≤ 10 ^ 10 := by exact_mod_cast hp
  omega
def atomCh (c : Int) : Bool := decide (33 ≤ c) && decide (c ≤ 126) && !(c == 40 || c == 41 || c == 123 || c == 125 || c == 37 || c == 42 || c == 34 || c == 92 || c == 93)
def atomsB (s : ByteArray) : Nat → Bool
  | 0 => true
  | i + 1 => atomsB s i && atomCh (bt s i)
def atomB (s : ByteArray) : Bool := atomsB s s.size && !(s.size == 0)
def plainsB (s : ByteArray) : Nat → Bool
  | 0 => true
  | i + 1 => plainsB s i && (decide (32 ≤ bt s i) && decide (bt s i ≤ 126))
def plainB (s : ByteArray) : Bool := plainsB s s.size && decide (s.size ≤ 200)
def escN (c : Int) : List Int := if c = 34 ∨ c = 92 then [92, c] else [c]
def escZ (s : ByteArray) : Nat → List Int
  | 0 => [34]
  | i + 1 => escZ s i ++ escN (bt s i)
theorem escZ_len (s : ByteArray) : ∀ n, (escZ s n).length ≤ 1 + 2 * n
  | 0 => by simp [escZ]
  | n + 1 => by
    have := escZ_len s n
    simp only [escZ, List.length_append]
    unfold escN
    split <;> simp <;> omega
def strS (s : ByteArray) : ByteArray := if plainB s = true then strOfNums (escZ s s.size ++ [34]) else ⟨#[123]⟩ ++ digS s.size ++ ⟨#[125, 13, 10]⟩ ++ s
end Go.Proofs.Ytlmelclfdafhbaa
