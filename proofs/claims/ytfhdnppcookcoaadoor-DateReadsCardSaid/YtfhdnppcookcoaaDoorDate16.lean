/- What was told is read back: plain laws. -/
import Derived.Test.YtfhdnppcookcoaaDoorDate8
import Derived.Test.YtfhdnppcookcoaaDoorDate9
import Derived.Test.YtfhdnppcookcoaaDoorDateW
import Derived.Test.YtfhdnppcookcoaaDoorDate12
namespace Go.Proofs.YtfhdnppcookcoaaDoor
open Go.RowKit Go.PlainAid
set_option linter.unusedVariables false
set_option linter.unusedSimpArgs false
def Byts (l : List Int) : Prop := ∀ c ∈ l, 0 ≤ c ∧ c < 256
theorem Byts.nil_ : Byts [] := fun c h => by cases h
theorem Byts.cons_ {a : Int} {l : List Int} (h : 0 ≤ a ∧ a < 256) (k : Byts l) : Byts (a :: l) := fun c hc => by
  rcases List.mem_cons.1 hc with rfl | hc
  · exact h
  · exact k c hc
theorem bt_nums (l : List Int) (h : Byts l) (i : Nat) (c : Int) (hi : l[i]? = some c) : bt (strOfNums l) i = c := by
  have hm := List.mem_of_getElem? hi
  have hc := h c hm
  rw [bt_eq (strOfNums l) i (UInt8.ofNat c.toNat) (by rw [nums_toList, List.getElem?_map, hi]; rfl)]
  exact toNat_ofNat c hc.1 hc.2
theorem nums_ext (l : List Int) (i j : Nat) (h : i ≤ j) : (strOfNums l).extract i j = strOfNums ((l.drop i).take (j - i)) := by
  apply ba_ext'
  have e := extract_toList (strOfNums l) i (j - i)
  rw [show i + (j - i) = j by omega] at e
  rw [e, nums_toList, nums_toList, List.map_take, List.map_drop]
theorem dnum_two (a b : Int) (h0 : 0 ≤ a) (h1 : a ≤ 9) (h2 : 0 ≤ b) (h3 : b ≤ 9) : dnumV (strOfNums [48 + a, 48 + b]) = (10 * a + b, true) := by
  have hB : Byts [48 + a, 48 + b] := Byts.cons_ (by omega) (Byts.cons_ (by omega) Byts.nil_)
  have e0 := bt_nums _ hB 0 _ rfl
  have e1 := bt_nums _ hB 1 _ rfl
  have es : (strOfNums [48 + a, 48 + b]).size = 2 := by rw [strOfNums_size]; rfl
  have hd : digitsB (strOfNums [48 + a, 48 + b]) 2 = true := by
    simp only [digitsB, e0, e1, Bool.true_and, Bool.and_eq_true, decide_eq_true_eq]; omega
  unfold dnumV
  rw [es, if_pos hd]
  simp only [numZ, e0, e1]
  refine Prod.ext ?_ rfl
  show (0 * 10 + (48 + a - 48)) * 10 + (48 + b - 48) = _
  omega
theorem dnum_four' (a b c d : Int) (h0 : 0 ≤ a ∧ a ≤ 9) (h1 : 0 ≤ b ∧ b ≤ 9) (h2 : 0 ≤ c ∧ c ≤ 9) (h3 : 0 ≤ d ∧ d ≤ 9) : dnumV (strOfNums [48 + a, 48 + b, 48 + c, 48 + d]) = (1000 * a + 100 * b + 10 * c + d, true) := by
  have hB : Byts [48 + a, 48 + b, 48 + c, 48 + d] := Byts.cons_ (by omega) (Byts.cons_ (by omega) (Byts.cons_ (by omega) (Byts.cons_ (by omega) Byts.nil_)))
  have e0 := bt_nums _ hB 0 _ rfl
  have e1 := bt_nums _ hB 1 _ rfl
  have e2 := bt_nums _ hB 2 _ rfl
  have e3 := bt_nums _ hB 3 _ rfl
  have es : (strOfNums [48 + a, 48 + b, 48 + c, 48 + d]).size = 4 := by rw [strOfNums_size]; rfl
  have hd : digitsB (strOfNums [48 + a, 48 + b, 48 + c, 48 + d]) 4 = true := by
    simp only [digitsB, e0, e1, e2, e3, Bool.true_and, Bool.and_eq_true, decide_eq_true_eq]; omega
  unfold dnumV
  rw [es, if_pos hd]
  simp only [numZ, e0, e1, e2, e3]
  refine Prod.ext ?_ rfl
  show (((0 * 10 + (48 + a - 48)) * 10 + (48 + b - 48)) * 10 + (48 + c - 48)) * 10 + (48 + d - 48) = _
  omega
def twoL (n : Int) : List Int := [48 + n / 10, 48 + n % 10]
theorem dnum_twoL (n : Int) (h0 : 0 ≤ n) (h1 : n < 100) : dnumV (strOfNums (twoL n)) = (n, true) := by
  unfold twoL
  rw [dnum_two _ _ (by omega) (by omega) (by omega) (by omega)]
  refine Prod.ext ?_ rfl
  show 10 * (n / 10) + n % 10 = n
  omega
theorem clock_told (h m s : Int) (h0 : 0 ≤ h) (h1 : h < 24) (m0 : 0 ≤ m) (m1 : m < 60) (s0 : 0 ≤ s) (s1 : s < 60) :
    clockV (strOfNums [48 + h / 10, 48 + h % 10, 58, 48 + m / 10, 48 + m % 10, 58, 48 + s / 10, 48 + s % 10]) = (h * 3600 + m * 60 + s, true) := by
  have hB : Byts [48 + h / 10, 48 + h % 10, 58, 48 + m / 10, 48 + m % 10, 58, 48 + s / 10, 48 + s % 10] :=
    Byts.cons_ (by omega) (Byts.cons_ (by omega) (Byts.cons_ (by omega) (Byts.cons_ (by omega) (Byts.cons_ (by omega) (Byts.cons_ (by omega) (Byts.cons_ (by omega) (Byts.cons_ (by omega) Byts.nil_)))))))
  have e2 := bt_nums _ hB 2 _ rfl
  have e5 := bt_nums _ hB 5 _ rfl
  have es : (strOfNums [48 + h / 10, 48 + h % 10, 58, 48 + m / 10, 48 + m % 10, 58, 48 + s / 10, 48 + s % 10]).size = 8 := by rw [strOfNums_size]; rfl
  have x1 : (strOfNums [48 + h / 10, 48 + h % 10, 58, 48 + m / 10, 48 + m % 10, 58, 48 + s / 10, 48 + s % 10]).extract 0 2 = strOfNums (twoL h) := by rw [nums_ext _ _ _ (by omega)]; rfl
  have x2 : (strOfNums [48 + h / 10, 48 + h % 10, 58, 48 + m / 10, 48 + m % 10, 58, 48 + s / 10, 48 + s % 10]).extract 3 5 = strOfNums (twoL m) := by rw [nums_ext _ _ _ (by omega)]; rfl
  have x3 : (strOfNums [48 + h / 10, 48 + h % 10, 58, 48 + m / 10, 48 + m % 10, 58, 48 + s / 10, 48 + s % 10]).extract 6 8 = strOfNums (twoL s) := by rw [nums_ext _ _ _ (by omega)]; rfl
  unfold clockV
  rw [if_pos ⟨es, e2, e5⟩, x1, x2, x3, dnum_twoL h h0 (by omega), dnum_twoL m m0 (by omega), dnum_twoL s s0 (by omega)]
  refine Prod.ext rfl ?_
  simp; omega
theorem zone_told (g h m : Int) (hg : g = 43 ∨ g = 45) (h0 : 0 ≤ h) (h1 : h < 24) (m0 : 0 ≤ m) (m1 : m < 60) :
    zoneV (strOfNums [g, 48 + h / 10, 48 + h % 10, 48 + m / 10, 48 + m % 10]) = (if g = 45 then -(h * 3600 + m * 60) else h * 3600 + m * 60, true) := by
  have hB : Byts [g, 48 + h / 10, 48 + h % 10, 48 + m / 10, 48 + m % 10] :=
    Byts.cons_ (by omega) (Byts.cons_ (by omega) (Byts.cons_ (by omega) (Byts.cons_ (by omega) (Byts.cons_ (by omega) Byts.nil_))))
  have e0 := bt_nums _ hB 0 _ rfl
  have es : (strOfNums [g, 48 + h / 10, 48 + h % 10, 48 + m / 10, 48 + m % 10]).size = 5 := by rw [strOfNums_size]; rfl
  have x1 : (strOfNums [g, 48 + h / 10, 48 + h % 10, 48 + m / 10, 48 + m % 10]).extract 1 3 = strOfNums (twoL h) := by rw [nums_ext _ _ _ (by omega)]; rfl
  have x2 : (strOfNums [g, 48 + h / 10, 48 + h % 10, 48 + m / 10, 48 + m % 10]).extract 3 5 = strOfNums (twoL m) := by rw [nums_ext _ _ _ (by omega)]; rfl
  unfold zoneV
  rw [e0, if_pos ⟨es, hg⟩, x1, x2, dnum_twoL h h0 (by omega), dnum_twoL m m0 (by omega)]
  refine Prod.ext rfl ?_
  simp; omega
theorem mon_letters (m : Int) (m0 : 1 ≤ m) (m1 : m ≤ 12) : ∃ a b c : Int, (65 ≤ a ∧ a < 256) ∧ (65 ≤ b ∧ b < 256) ∧ (65 ≤ c ∧ c < 256) ∧ monthsS.extract (3 * m - 3).toNat (3 * m).toNat = strOfNums [a, b, c] ∧ monV (strOfNums [a, b, c]) = m := by
  have hc : m = 1 ∨ m = 2 ∨ m = 3 ∨ m = 4 ∨ m = 5 ∨ m = 6 ∨ m = 7 ∨ m = 8 ∨ m = 9 ∨ m = 10 ∨ m = 11 ∨ m = 12 := by omega
  rcases hc with rfl | rfl | rfl | rfl | rfl | rfl | rfl | rfl | rfl | rfl | rfl | rfl
  · exact ⟨74, 97, 110, by omega, by omega, by omega, by decide +kernel, by decide +kernel⟩
  · exact ⟨70, 101, 98, by omega, by omega, by omega, by decide +kernel, by decide +kernel⟩
  · exact ⟨77, 97, 114, by omega, by omega, by omega, by decide +kernel, by decide +kernel⟩
  · exact ⟨65, 112, 114, by omega, by omega, by omega, by decide +kernel, by decide +kernel⟩
  · exact ⟨77, 97, 121, by omega, by omega, by omega, by decide +kernel, by decide +kernel⟩
  · exact ⟨74, 117, 110, by omega, by omega, by omega, by decide +kernel, by decide +kernel⟩
  · exact ⟨74, 117, 108, by omega, by omega, by omega, by decide +kernel, by decide +kernel⟩
  · exact ⟨65, 117, 103, by omega, by omega, by omega, by decide +kernel, by decide +kernel⟩
  · exact ⟨83, 101, 112, by omega, by omega, by omega, by decide +kernel, by decide +kernel⟩
  · exact ⟨79, 99, 116, by omega, by omega, by omega, by decide +kernel, by decide +kernel⟩
  · exact ⟨78, 111, 118, by omega, by omega, by omega, by decide +kernel, by decide +kernel⟩
  · exact ⟨68, 101, 99, by omega, by omega, by omega, by decide +kernel, by decide +kernel⟩
end Go.Proofs.YtfhdnppcookcoaaDoor
