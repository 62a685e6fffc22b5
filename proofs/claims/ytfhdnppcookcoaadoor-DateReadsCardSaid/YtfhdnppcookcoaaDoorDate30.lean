/- The reference's readers say what the program's say: dates as IMAP has them. -/
import Derived.Test.YtfhdnppcookcoaaDoorDate28
namespace Go.Proofs.YtfhdnppcookcoaaDoor
open Go.RowKit Go.PlainAid
set_option linter.unusedVariables false
set_option linter.unusedSimpArgs false
theorem bt_get (s : ByteArray) (k : Nat) (h : k < s.toList.length) : bt s k = (s.toList[k]).toNat := bt_eq s k _ (List.getElem?_eq_getElem h)
theorem tl_size (s : ByteArray) : s.toList.length = s.size := by rw [ByteArray.toList_eq]; simp
theorem bt_app_left (a b : ByteArray) (k : Nat) (h : k < a.size) : bt (a ++ b) k = bt a k := by
  have h1 : k < a.toList.length := by rw [tl_size]; exact h
  rw [bt_get a k h1]
  refine bt_eq _ _ _ ?_
  rw [app_toList, List.getElem?_append_left h1, List.getElem?_eq_getElem h1]
theorem bt_app_right (a b : ByteArray) (k : Nat) (h : k < b.size) : bt (a ++ b) (a.size + k) = bt b k := by
  have h1 : k < b.toList.length := by rw [tl_size]; exact h
  rw [bt_get b k h1]
  refine bt_eq _ _ _ ?_
  rw [app_toList, List.getElem?_append_right (by rw [tl_size]; omega), tl_size, Nat.add_sub_cancel_left, List.getElem?_eq_getElem h1]
theorem ext_ext (s : ByteArray) (i j a b : Nat) (h1 : i ≤ j) (h2 : j ≤ s.size) (h3 : a ≤ b) (h4 : i + b ≤ j) : (s.extract i j).extract a b = s.extract (i + a) (i + b) := by
  apply ba_ext'
  have e1 := extract_toList (s.extract i j) a (b - a)
  rw [show a + (b - a) = b by omega] at e1
  have e2 := extract_toList s i (j - i)
  rw [show i + (j - i) = j by omega] at e2
  have e3 := extract_toList s (i + a) (b - a)
  rw [show i + a + (b - a) = i + b by omega] at e3
  rw [e1, e2, e3, List.drop_take, List.take_take, List.drop_drop]
  congr 1
  omega
theorem num_rel (t : ByteArray) (h0 : 0 < t.size) (h1 : t.size ≤ 4) : (rnumV t = -1 ∧ dnumV t = (0, false)) ∨ (0 ≤ rnumV t ∧ rnumV t ≤ 9999 ∧ dnumV t = (rnumV t, true)) := by
  have hb := rnumV_le t h1
  unfold rnumV dnumV at *
  by_cases hd : digitsB t t.size = true
  · rw [if_pos hd] at hb ⊢
    have h2 := numZ_bound t t.size (by omega) hd
    rw [if_pos hd]
    refine .inr ⟨h2.1, hb.2, ?_⟩
    have : (t.size == 0) = false := by rw [beq_eq_false_iff_ne]; omega
    rw [this]; rfl
  · rw [if_neg hd, if_neg hd]; exact .inl ⟨rfl, rfl⟩
theorem zero_ahead (t : ByteArray) (h : t.size = 1) : dnumV (⟨#[48]⟩ ++ t) = dnumV t := by
  have h48 : (⟨#[48]⟩ : ByteArray).size = 1 := rfl
  have e0 : bt (⟨#[48]⟩ ++ t) 0 = 48 := by rw [bt_app_left _ _ 0 (by omega)]; rfl
  have e1 : bt (⟨#[48]⟩ ++ t) 1 = bt t 0 := bt_app_right ⟨#[48]⟩ t 0 (by omega)
  have es : (⟨#[48]⟩ ++ t : ByteArray).size = 2 := by rw [ByteArray.size_append]; omega
  unfold dnumV
  rw [es, h]
  have hd : digitsB (⟨#[48]⟩ ++ t) 2 = digitsB t 1 := by simp only [digitsB, e0, e1]; rfl
  have hz : numZ (⟨#[48]⟩ ++ t) 2 = numZ t 1 := by simp only [numZ, e0, e1]; omega
  rw [hd, hz]; rfl
theorem sec_date (day mon year rday : ByteArray) (h1 : (rnumV rday = -1 ∧ dnumV day = (0, false)) ∨ (0 ≤ rnumV rday ∧ rnumV rday ≤ 9999 ∧ dnumV day = (rnumV rday, true))) (h2 : year.size = 4) :
    secV (rnumV year) (monV mon) (rnumV rday) = if (dateV day mon year).2 = true then (86400 * (dateV day mon year).1, true) else (0, false) := by
  have hm := monV_le mon
  have h3 := num_rel year (by omega) (by omega)
  rcases h1 with ⟨e1, e1'⟩ | ⟨e1, e1b, e1'⟩
  · have hd : dateV day mon year = (0, false) := by unfold dateV; rw [e1']; exact if_neg (by simp)
    rw [hd, e1, if_neg (by simp)]
    exact if_neg (by omega)
  · rcases h3 with ⟨e3, e3'⟩ | ⟨e3, e3b, e3'⟩
    · have hd : dateV day mon year = (0, false) := by unfold dateV; rw [e3']; exact if_neg (by simp)
      rw [hd, e3, if_neg (by simp)]
      exact if_neg (by omega)
    · by_cases hc : 1 ≤ monV mon ∧ 1 ≤ rnumV rday ∧ rnumV rday ≤ mdays (rnumV year) (monV mon)
      · have hd : dateV day mon year = (dayNum (rnumV year) (monV mon) (rnumV rday), true) := by
          unfold dateV; rw [e1', e3']; exact if_pos ⟨rfl, rfl, h2, by omega, hc.2.1, hc.2.2⟩
        rw [hd, if_pos rfl]
        exact if_pos ⟨e3, hc.1, hc.2.1, hc.2.2⟩
      · have hd : dateV day mon year = (0, false) := by
          unfold dateV; rw [e1', e3']; exact if_neg (fun q => hc ⟨by have := q.2.2.2.1; omega, q.2.2.2.2⟩)
        rw [hd, if_neg (by simp)]
        exact if_neg (fun q => hc ⟨q.2.1, q.2.2⟩)
end Go.Proofs.YtfhdnppcookcoaaDoor
