/- Plain functions: whether a pattern matches a path. -/
import Derived.Test.YtlmelclfdafhbaaMem
import Derived.PlainAid
namespace Go.Proofs.Ytlmelclfdafhbaa
open Go.RowKit Go.PlainAid
set_option linter.unusedVariables false
set_option linter.unusedSimpArgs false
def stepT (c : Int) (s : ByteArray) (f : Nat → Bool) : Nat → Bool
  | 0 => (c == 42 || c == 37) && f 0
  | k + 1 => if (c == 42 || c == 37) = true then f (k + 1) || (stepT c s f k && (c == 42 || bt s k != 47)) else f k && (bt s k == c)
def rowT (p s : ByteArray) : Nat → Nat → Bool
  | 0 => fun k => k == 0
  | i + 1 => stepT (bt p i) s (rowT p s i)
def matchB (p s : ByteArray) : Bool := rowT p s p.size s.size
def flagV (f : Nat → Bool) (j : Nat) : Value := .bool (f j)
def untilV (g : Nat → Bool) (k j : Nat) : Value := .bool (decide (j < k) && g j)
theorem until_succ (n : Nat) (g : Nat → Bool) (k : Nat) (v : Bool) (h : v = g k) : rowV n (fun j => if j = k then .bool v else untilV g k j) = rowV n (untilV g (k + 1)) := by
  apply rowV_congr
  intro j hj
  unfold untilV
  by_cases e : j = k
  · subst e; simp [h]
  · rw [if_neg e]
    congr 1
    congr 1
    rw [Bool.eq_iff_iff, decide_eq_true_iff, decide_eq_true_iff]
    omega
theorem until_all (n : Nat) (g : Nat → Bool) : rowV n (untilV g n) = rowV n (flagV g) := by
  apply rowV_congr
  intro j hj
  simp [untilV, flagV, hj]
theorem until_none (n : Nat) (g : Nat → Bool) : rowV n (fun _ => .bool false) = rowV n (untilV g 0) := by
  apply rowV_congr
  intro j hj
  simp [untilV]
theorem flag_start (n : Nat) (p s : ByteArray) : rowV n (fun j => if j = 0 then .bool true else .bool false) = rowV n (flagV (rowT p s 0)) := by
  apply rowV_congr
  intro j hj
  simp only [flagV, rowT]
  by_cases e : j = 0
  · subst e; rfl
  · rw [if_neg e]; simp [e]
/-! the reference's way: byte by byte of the path -/
def rstart (p : ByteArray) : Nat → Bool
  | 0 => true
  | i + 1 => (bt p i == 42 || bt p i == 37) && rstart p i
def rstepT (p : ByteArray) (c : Int) (f : Nat → Bool) : Nat → Bool
  | 0 => false
  | i + 1 => if (bt p i == 42) = true then f i || f (i + 1) || rstepT p c f i else if (bt p i == 37) = true then (f i || f (i + 1)) && (c != 47) || rstepT p c f i else f i && (bt p i == c)
def rowR (p s : ByteArray) : Nat → Nat → Bool
  | 0 => rstart p
  | k + 1 => rstepT p (bt s k) (rowR p s k)
theorem rowT_mono (p s : ByteArray) (i k : Nat) (h : (bt p i == 42 || bt p i == 37) = true) (hf : rowT p s i k = true) : rowT p s (i + 1) k = true := by
  cases k with
  | zero => simp only [rowT, stepT, h, hf, Bool.and_self]
  | succ k => simp only [rowT, stepT, h, hf, if_true, Bool.true_or]
theorem rowR_eq (p s : ByteArray) : ∀ k i, rowR p s k i = rowT p s i k := by
  intro k
  induction k with
  | zero =>
    intro i
    induction i with
    | zero => rfl
    | succ i ih =>
      simp only [rowR, rstart] at ih ⊢
      rw [ih]
      simp only [rowT, stepT]
  | succ k ihk =>
    intro i
    induction i with
    | zero => rfl
    | succ i ih =>
      have e : rowR p s (k + 1) (i + 1) = if (bt p i == 42) = true then rowR p s k i || rowR p s k (i + 1) || rowR p s (k + 1) i else if (bt p i == 37) = true then (rowR p s k i || rowR p s k (i + 1)) && (bt s k != 47) || rowR p s (k + 1) i else rowR p s k i && (bt p i == bt s k) := rfl
      rw [e, ihk i, ihk (i + 1), ih]
      have e2 : rowT p s (i + 1) (k + 1) = if (bt p i == 42 || bt p i == 37) = true then rowT p s i (k + 1) || (rowT p s (i + 1) k && (bt p i == 42 || bt s k != 47)) else rowT p s i k && (bt s k == bt p i) := rfl
      rw [e2]
      have hm := rowT_mono p s i k
      have hcomm : (bt s k == bt p i) = (bt p i == bt s k) := by rw [Bool.eq_iff_iff, beq_iff_eq, beq_iff_eq]; exact eq_comm
      rw [hcomm]
      generalize rowT p s i k = a at *
      generalize rowT p s (i + 1) k = b at *
      generalize rowT p s i (k + 1) = c at *
      generalize (bt s k != 47) = d at *
      generalize (bt p i == bt s k) = x at *
      generalize (bt p i == 42) = y at *
      generalize (bt p i == 37) = z at *
      clear e e2 ih ihk hcomm
      revert hm
      revert a b c d x y z
      decide
theorem start_succ (n : Nat) (i : Nat) : rowV n (fun j => if j = i + 1 then .bool true else .bool (decide (j ≤ i))) = rowV n (fun j => .bool (decide (j ≤ i + 1))) := by
  apply rowV_congr
  intro j hj
  by_cases e : j = i + 1
  · subst e; simp
  · rw [if_neg e]
    congr 1
    rw [Bool.eq_iff_iff, decide_eq_true_iff, decide_eq_true_iff]
    omega
theorem start_zero (n : Nat) : rowV n (fun j => if j = 0 then .bool true else .bool false) = rowV n (fun j => .bool (decide (j ≤ 0))) := by
  apply rowV_congr
  intro j hj
  by_cases e : j = 0
  · subst e; simp
  · rw [if_neg e]
    congr 1
    rw [Bool.eq_iff_iff, decide_eq_true_iff]
    simp; omega
theorem rstart_all (p : ByteArray) (i : Nat) (h : ∀ j, j < i → (bt p j == 42 || bt p j == 37) = true) : rstart p i = true := by
  induction i with
  | zero => rfl
  | succ i ih =>
    simp only [rstart]
    rw [h i (by omega), ih fun j hj => h j (by omega)]; rfl
theorem rstart_stop (p : ByteArray) (i : Nat) (h : (bt p i == 42 || bt p i == 37) = false) : ∀ d, rstart p (i + 1 + d) = false
  | 0 => by simp only [rstart]; rw [h]; rfl
  | d + 1 => by
    show rstart p (i + 1 + d + 1) = false
    simp only [rstart]
    rw [rstart_stop p i h d, Bool.and_false]
theorem start_end (p : ByteArray) (i : Nat) (hi : i ≤ p.size) (h : ∀ j, j < i → (bt p j == 42 || bt p j == 37) = true) (he : i = p.size ∨ (bt p i == 42 || bt p i == 37) = false) : rowV (p.size + 1) (fun j => .bool (decide (j ≤ i))) = rowV (p.size + 1) (flagV (rstart p)) := by
  apply rowV_congr
  intro j hj
  unfold flagV
  congr 1
  by_cases hji : j ≤ i
  · rw [rstart_all p j fun t ht => h t (by omega)]; simp [hji]
  · rcases he with he | he
    · omega
    · obtain ⟨d, rfl⟩ : ∃ d, j = i + 1 + d := ⟨j - (i + 1), by omega⟩
      rw [rstart_stop p i he d]; simp; omega
theorem until_first (n : Nat) (g : Nat → Bool) (h : g 0 = false) : rowV n (fun _ => .bool false) = rowV n (untilV g 1) := by
  apply rowV_congr
  intro j hj
  unfold untilV
  by_cases e : j = 0
  · subst e; simp [h]
  · congr 1
    have : ¬ j < 1 := by omega
    simp [this]
end Go.Proofs.Ytlmelclfdafhbaa
