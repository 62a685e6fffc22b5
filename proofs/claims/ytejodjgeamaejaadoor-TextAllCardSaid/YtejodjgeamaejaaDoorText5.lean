/- Plain laws of digits; the walks of awake and TextNumbers. -/
import Derived.Test.YtejodjgeamaejaaDoorText4
namespace Go.Proofs.YtejodjgeamaejaaDoor
open Go.RowKit Go.PlainAid
set_option linter.unusedVariables false
set_option linter.unusedSimpArgs false
theorem tl_len (s : ByteArray) : s.toList.length = s.size := by rw [ByteArray.toList_eq]; simp
theorem bt_at (s : ByteArray) (k : Nat) (h : k < s.toList.length) : bt s k = (s.toList[k].toNat : Int) := bt_eq s k _ (List.getElem?_eq_getElem h)
theorem bt_left (a b : ByteArray) (k : Nat) (h : k < a.size) : bt (a ++ b) k = bt a k := by
  have h' : k < a.toList.length := by rw [tl_len]; exact h
  rw [bt_at a k h']
  refine bt_eq _ _ _ ?_
  rw [app_toList, List.getElem?_append_left h', List.getElem?_eq_getElem h']
theorem bt_right (a b : ByteArray) (k : Nat) (h : k < b.size) : bt (a ++ b) (a.size + k) = bt b k := by
  have h' : k < b.toList.length := by rw [tl_len]; exact h
  rw [bt_at b k h']
  refine bt_eq _ _ _ ?_
  rw [app_toList, List.getElem?_append_right (by rw [tl_len]; omega), tl_len, Nat.add_sub_cancel_left, List.getElem?_eq_getElem h']
theorem bt_strOf (l : List Int) (k : Nat) (x : Int) (h : l[k]? = some x) (h0 : 0 ≤ x) (h1 : x < 256) : bt (strOfNums l) k = x := by
  have e := bt_eq (strOfNums l) k (UInt8.ofNat x.toNat) (by rw [nums_toList, List.getElem?_map, h]; rfl)
  rw [e]
  simp only [UInt8.toNat_ofNat']
  omega
theorem numZ_left (a b : ByteArray) : ∀ i, i ≤ a.size → numZ (a ++ b) i = numZ a i ∧ digitsB (a ++ b) i = digitsB a i
  | 0, _ => ⟨rfl, rfl⟩
  | i + 1, h => by
    obtain ⟨h1, h2⟩ := numZ_left a b i (by omega)
    simp only [numZ, digitsB]
    rw [h1, h2, bt_left a b i (by omega)]
    exact ⟨rfl, rfl⟩
theorem size_one (x : Int) : (strOfNums [x]).size = 1 := by rw [strOfNums_size]; rfl
theorem digS_facts (k : Nat) : ∀ (n : Int), 0 ≤ n → n ≤ k → 1 ≤ (digS n).size ∧ numZ (digS n) (digS n).size = n ∧ digitsB (digS n) (digS n).size = true ∧ (1 ≤ n → bt (digS n) 0 ≠ 48) ∧ (10 ≤ n → 2 ≤ (digS n).size) := by
  induction k with
  | zero =>
    intro n h0 h1
    obtain rfl : n = 0 := by omega
    exact ⟨by decide +kernel, by decide +kernel, by decide +kernel, by omega, by omega⟩
  | succ k ih =>
    intro n h0 h1
    by_cases h10 : n < 10
    · rw [digS_one n h0 h10, size_one]
      have e : bt (strOfNums [48 + n]) 0 = 48 + n := bt_strOf _ 0 _ rfl (by omega) (by omega)
      simp only [numZ, digitsB, e]
      exact ⟨by omega, by omega, by simp; omega, by omega, by omega⟩
    · obtain ⟨a1, a2, a3, a4, _⟩ := ih (n / 10) (by omega) (by omega)
      rw [digS_more n (by omega), ByteArray.size_append, size_one]
      have e := bt_right (digS (n / 10)) (strOfNums [48 + n % 10]) 0 (by rw [size_one]; omega)
      rw [bt_strOf [48 + n % 10] 0 (48 + n % 10) rfl (by omega) (by omega), Nat.add_zero] at e
      obtain ⟨b1, b2⟩ := numZ_left (digS (n / 10)) (strOfNums [48 + n % 10]) _ (Nat.le_refl _)
      simp only [numZ, digitsB, e, b1, b2, a2, a3]
      refine ⟨by omega, by omega, by simp; omega, fun _ => ?_, fun _ => by omega⟩
      rw [bt_left _ _ 0 (by omega)]
      exact a4 (by omega)
theorem digS_short (k : Nat) : ∀ (n : Int), 0 ≤ n → n < (10 : Int) ^ (k + 1) → (digS n).size ≤ k + 1 := by
  induction k with
  | zero =>
    intro n h0 h1
    rw [digS_one n h0 (by simpa using h1), size_one]
    omega
  | succ k ih =>
    intro n h0 h1
    by_cases h10 : n < 10
    · rw [digS_one n h0 h10, size_one]; omega
    · have := ih (n / 10) (by omega) (by rw [Int.pow_succ] at h1; omega)
      rw [digS_more n (by omega), ByteArray.size_append, size_one]
      omega
theorem numB_digS (n : Int) (h0 : 0 ≤ n) (h1 : n ≤ 4294967295) : numB (digS n) = (n, true) := by
  obtain ⟨a1, a2, a3, a4, a5⟩ := digS_facts n.toNat n h0 (by omega)
  have a6 := digS_short 9 n h0 (by omega)
  have a7 : n < 10 → (digS n).size = 1 := fun h => by rw [digS_one n h0 h, size_one]
  unfold numB
  rw [if_neg (by
    rintro (h | h | ⟨h, h'⟩)
    · omega
    · omega
    · by_cases e : 1 ≤ n
      · exact a4 e h
      · have := a7 (by omega); omega), if_neg (by rw [a3]; decide), if_neg (by rw [a2]; omega), a2]
theorem numB_big (n : Int) (h1 : 4294967296 ≤ n) : numB (digS n) = (0, false) := by
  obtain ⟨a1, a2, a3, a4, a5⟩ := digS_facts n.toNat n (by omega) (by omega)
  unfold numB
  by_cases h : (digS n).size = 0 ∨ 10 < (digS n).size ∨ (bt (digS n) 0 = 48 ∧ 1 < (digS n).size)
  · rw [if_pos h]
  · rw [if_neg h, if_neg (by rw [a3]; decide), if_pos (by rw [a2]; omega)]
theorem numB_nought (s : ByteArray) (h : 1 ≤ s.size) : numB (⟨#[48]⟩ ++ s) = (0, false) := by
  unfold numB
  rw [if_pos]
  refine .inr (.inr ⟨?_, ?_⟩)
  · rw [bt_left _ _ 0 (by decide)]; decide +kernel
  · rw [ByteArray.size_append]; have : (⟨#[48]⟩ : ByteArray).size = 1 := rfl; omega
def NumOf (s : ByteArray) (n : Int) (b : Bool) : Prop := ∀ w, Calls Tryd.prog 11 #[.string s] w fun e w' => e = .returned (.tuple #[.int .i64 n, .bool b]) ∧ w = w'
theorem num_of (s : ByteArray) (n : Int) (b : Bool) (hs : s.size ≤ 9223372036854775807) (h : numB s = (n, b)) : NumOf s n b := fun w => (number_any s w hs).mono fun e w' hh => by
  have h2 := hh
  unfold NumEnd at h2
  rw [h] at h2
  exact h2
def StrOf (f : Nat) (s t : ByteArray) : Prop := ∀ w, TabOK w → Calls Tryd.prog f #[.string s] w fun e w' => e = .returned (.string t) ∧ Below w.heap.size w w'
theorem str_of (s t : ByteArray) (hs : s.size ≤ 1099511627776) (h : strS s = t) : StrOf 14 s t := fun w hT => by rw [← h]; exact string_any s w hs hT
theorem fold_of (s t : ByteArray) (hs : s.size ≤ 1099511627) (h : foldS s = t) : StrOf 15 s t := fun w hT => by rw [← h]; exact fold_any s w hs
theorem awake1_any (w : World) (hT : TabOK w) : Calls Tryd.prog 13 #[] w fun e w' => e = .returned (.bool true) ∧ Below w.heap.size w w' := by
  have hW := Below.refl w.heap.size w
  have M1 : Hid (NumOf ⟨#[48, 49]⟩ 0 false) := num_of _ _ _ (by decide) (by decide +kernel)
  have M2 : Hid (StrOf 14 ⟨#[97, 34, 98]⟩ ⟨#[34, 97, 92, 34, 98, 34]⟩) := str_of _ _ (by decide) (by decide +kernel)
  have M3 : Hid (StrOf 15 ⟨#[97, 66]⟩ ⟨#[97, 98]⟩) := fold_of _ _ (by decide) (by decide +kernel)
  go_enter Tryd.func13, Tryd.ntmps13
  go_wp2_with (first
    | (go_at_call 11; refine (M1.out _).mono ?_; rintro e w1 ⟨rfl, hw⟩; obtain rfl : _ = w1 := hw)
    | (go_at_call 14; refine (M2.out _ (hT.below hW)).mono ?_; rintro e w1 ⟨rfl, hw1⟩; (first | replace hW := nextB hW hw1 | replace hW := nextA hW hw1 | replace hW := nextB hW.drew hw1 | replace hW := nextAA hW hw1 | replace hW := nextAD hW hw1); clear hw1)
    | (go_at_call 15; refine (M3.out _ (hT.below hW)).mono ?_; rintro e w1 ⟨rfl, hw1⟩; (first | replace hW := nextB hW hw1 | replace hW := nextA hW hw1 | replace hW := nextB hW.drew hw1 | replace hW := nextAA hW hw1 | replace hW := nextAD hW hw1); clear hw1))
  go_ret
  exact ⟨rfl, hW⟩
set_option maxHeartbeats 2000000 in
theorem numbers_walk (n m : Int) (w0 : (Lit.int .u32 n).wf = true) (w1 : (Lit.int .u16 m).wf = true) (w : World) (hT : TabOK w) : Calls Tryd.prog 3 #[.int .u32 n, .int .u16 m] w fun e w' => e = .returned (.bool true) ∧ Below w.heap.size w w' := by
  obtain ⟨a0, a1⟩ : 0 ≤ n ∧ n < 4294967296 := by
    simp [Lit.wf, IntKind.min, IntKind.max, IntKind.signed, IntKind.bits] at w0; omega
  obtain ⟨b0, b1⟩ : 0 ≤ m ∧ m < 65536 := by
    simp [Lit.wf, IntKind.min, IntKind.max, IntKind.signed, IntKind.bits] at w1; omega
  clear w0 w1
  have hW := Below.refl w.heap.size w
  have z1 := itoa_len n a0 (by omega)
  have z2 := itoa_len (4294967296 + m) (by omega) (by omega)
  have z3 : (⟨#[48]⟩ ++ digS n : ByteArray).size ≤ 22 := by rw [ByteArray.size_append]; have : (⟨#[48]⟩ : ByteArray).size = 1 := rfl; omega
  have z4 : (⟨#[48]⟩ : ByteArray).size ≤ 1 := by decide
  have M1 : Hid (NumOf (digS n) n true) := num_of _ _ _ (by omega) (numB_digS n a0 (by omega))
  have M2 : Hid (NumOf (digS (4294967296 + m)) 0 false) := num_of _ _ _ (by omega) (numB_big _ (by omega))
  have M3 : Hid (NumOf (⟨#[48]⟩ ++ digS n) 0 false) := num_of _ _ _ (by omega) (numB_nought _ (digS_facts n.toNat n a0 (by omega)).1)
  go_enter Tryd.func3, Tryd.ntmps3
  go_wp2_with (go_at_call 12; refine (digits_any _ _ (by omega) (by omega) (hT.below hW)).mono ?_; rintro e w1 ⟨rfl, hw1⟩; (first | replace hW := nextB hW hw1 | replace hW := nextA hW hw1 | replace hW := nextB hW.drew hw1 | replace hW := nextAA hW hw1 | replace hW := nextAD hW hw1); clear hw1)
  refine (M1.out _).mono ?_; rintro e w1 ⟨rfl, hw⟩; obtain rfl : _ = w1 := hw
  go_wp2_with (go_at_call 12; refine (digits_any _ _ (by omega) (by omega) (hT.below hW)).mono ?_; rintro e w1 ⟨rfl, hw1⟩; (first | replace hW := nextB hW hw1 | replace hW := nextA hW hw1 | replace hW := nextB hW.drew hw1 | replace hW := nextAA hW hw1 | replace hW := nextAD hW hw1); clear hw1)
  refine (M2.out _).mono ?_; rintro e w1 ⟨rfl, hw⟩; obtain rfl : _ = w1 := hw
  go_wp2_with (go_at_call 12; refine (digits_any _ _ (by omega) (by omega) (hT.below hW)).mono ?_; rintro e w1 ⟨rfl, hw1⟩; (first | replace hW := nextB hW hw1 | replace hW := nextA hW hw1 | replace hW := nextB hW.drew hw1 | replace hW := nextAA hW hw1 | replace hW := nextAD hW hw1); clear hw1)
  refine (M3.out _).mono ?_; rintro e w1 ⟨rfl, hw⟩; obtain rfl : _ = w1 := hw
  go_wp2_with (go_at_call 13; refine (awake1_any _ (hT.below hW)).mono ?_; rintro e w1 ⟨rfl, hw1⟩; (first | replace hW := nextB hW hw1 | replace hW := nextA hW hw1 | replace hW := nextB hW.drew hw1 | replace hW := nextAA hW hw1 | replace hW := nextAD hW hw1); clear hw1)
  go_ret
  exact ⟨rfl, hW⟩
end Go.Proofs.YtejodjgeamaejaaDoor
