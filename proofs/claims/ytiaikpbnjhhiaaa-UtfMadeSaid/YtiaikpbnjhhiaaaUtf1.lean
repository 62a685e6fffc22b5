/- Plain laws of the bytes of code points: their order. -/
import Derived.Test.YtiaikpbnjhhiaaaUtf0
namespace Go.Proofs.Ytiaikpbnjhhiaaa
open Go.RowKit Go.PlainAid
set_option linter.unusedVariables false
set_option linter.unusedSimpArgs false
theorem u8_lt (a b : Int) (h0 : 0 ≤ a) (h1 : a < 256) (g0 : 0 ≤ b) (g1 : b < 256) : decide (UInt8.ofNat a.toNat < UInt8.ofNat b.toNat) = decide (a < b) := by
  have e1 := toNat_ofNat a h0 h1
  have e2 := toNat_ofNat b g0 g1
  rw [Bool.eq_iff_iff, decide_eq_true_iff, decide_eq_true_iff, UInt8.lt_iff_toNat_lt]
  omega
theorem u8_beq (a b : Int) (h0 : 0 ≤ a) (h1 : a < 256) (g0 : 0 ≤ b) (g1 : b < 256) : (UInt8.ofNat a.toNat == UInt8.ofNat b.toNat) = decide (a = b) := by
  have e1 := toNat_ofNat a h0 h1
  have e2 := toNat_ofNat b g0 g1
  rw [Bool.eq_iff_iff, decide_eq_true_iff, beq_iff_eq]
  constructor
  · intro h; rw [h] at e1; omega
  · rintro rfl; rfl
def lessN : List Int → List Int → Bool
  | _, [] => false
  | [], _ :: _ => true
  | a :: x, b :: y => decide (a < b) || (decide (a = b) && lessN x y)
theorem less_map : ∀ (x y : List Int), (∀ a ∈ x, 0 ≤ a ∧ a < 256) → (∀ a ∈ y, 0 ≤ a ∧ a < 256) → Op.bytesLess (x.map fun n => UInt8.ofNat n.toNat) (y.map fun n => UInt8.ofNat n.toNat) = lessN x y
  | x, [], _, _ => by cases x <;> rfl
  | [], _ :: _, _, _ => rfl
  | a :: x, b :: y, hx, hy => by
    have ha := hx a (by simp)
    have hb := hy b (by simp)
    simp only [List.map_cons, Op.bytesLess, lessN]
    rw [u8_lt a b ha.1 ha.2 hb.1 hb.2, u8_beq a b ha.1 ha.2 hb.1 hb.2, less_map x y (fun c hc => hx c (by simp [hc])) (fun c hc => hy c (by simp [hc]))]
def GoodP (r : Int) : Prop := 0 ≤ r ∧ r ≤ 1114111 ∧ (r < 55296 ∨ 57343 < r)
theorem good_iff (r : Int) : putB r ≠ [] ↔ GoodP r := by
  unfold GoodP
  rw [ne_eq, putB_nil]
  omega
theorem putN_range (r : Int) : ∀ a ∈ putN r, 0 ≤ a ∧ a < 256 := by
  unfold putN
  repeat' split
  all_goals intro a ha
  all_goals simp only [List.mem_cons, List.not_mem_nil, or_false] at ha
  all_goals omega
theorem putN_cases (r : Int) (h : GoodP r) : (r < 128 ∧ putN r = [r]) ∨ (128 ≤ r ∧ r < 2048 ∧ putN r = [192 + r / 64, 128 + r % 64]) ∨ (2048 ≤ r ∧ r < 65536 ∧ putN r = [224 + r / 4096, 128 + r / 64 % 64, 128 + r % 64]) ∨ (65536 ≤ r ∧ putN r = [240 + r / 262144, 128 + r / 4096 % 64, 128 + r / 64 % 64, 128 + r % 64]) := by
  obtain ⟨h1, h2, h3⟩ := h
  have h0 : ¬ (r < 0 ∨ 1114111 < r ∨ (55296 ≤ r ∧ r ≤ 57343)) := by omega
  unfold putN
  rw [if_neg h0]
  by_cases a1 : r < 128
  · left; exact ⟨a1, if_pos a1⟩
  rw [if_neg a1]
  by_cases a2 : r < 2048
  · right; left; exact ⟨by omega, a2, if_pos a2⟩
  rw [if_neg a2]
  by_cases a3 : r < 65536
  · right; right; left; exact ⟨by omega, a3, if_pos a3⟩
  rw [if_neg a3]
  right; right; right; exact ⟨by omega, rfl⟩
theorem putB_less (x y : Int) (hx : GoodP x) (hy : GoodP y) : Op.bytesLess (putB x) (putB y) = decide (x < y) := by
  unfold putB
  rw [less_map _ _ (putN_range x) (putN_range y)]
  have ux := hx
  have uy := hy
  unfold GoodP at ux uy
  rcases putN_cases x hx with ⟨a, e⟩ | ⟨a, a', e⟩ | ⟨a, a', e⟩ | ⟨a, e⟩ <;> rcases putN_cases y hy with ⟨b, f⟩ | ⟨b, b', f⟩ | ⟨b, b', f⟩ | ⟨b, f⟩ <;> rw [e, f] <;> simp only [lessN] <;> rw [Bool.eq_iff_iff] <;> simp only [Bool.or_eq_true, Bool.and_eq_true, decide_eq_true_eq, Bool.false_eq_true, and_false, or_false, and_true] <;> omega
theorem less_irrefl : ∀ l : List UInt8, Op.bytesLess l l = false
  | [] => rfl
  | a :: l => by simp [Op.bytesLess, less_irrefl l]
theorem putB_inj (x y : Int) (hx : GoodP x) (hy : GoodP y) (h : putB x = putB y) : x = y := by
  have h1 := putB_less x y hx hy
  have h2 := putB_less y x hy hx
  rw [h, less_irrefl] at h1
  rw [h, less_irrefl] at h2
  simp at h1 h2
  omega
theorem putB_len_le (x y : Int) (hx : GoodP x) (hy : GoodP y) (h : x ≤ y) : (putB x).length ≤ (putB y).length := by
  unfold putB
  simp only [List.length_map]
  rcases putN_cases x hx with ⟨a, e⟩ | ⟨a, a', e⟩ | ⟨a, a', e⟩ | ⟨a, e⟩ <;> rcases putN_cases y hy with ⟨b, f⟩ | ⟨b, b', f⟩ | ⟨b, b', f⟩ | ⟨b, f⟩ <;> rw [e, f] <;> simp only [List.length_cons, List.length_nil] <;> omega
theorem put_size (x : Int) : (put x).size = (putB x).length := by
  rw [← put_toList, ByteArray.toList_eq]; simp
end Go.Proofs.Ytiaikpbnjhhiaaa
