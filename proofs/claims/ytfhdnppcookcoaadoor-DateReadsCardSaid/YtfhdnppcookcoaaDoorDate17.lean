/- What Imap told is read back. -/
import Derived.Test.YtfhdnppcookcoaaDoorDate16
namespace Go.Proofs.YtfhdnppcookcoaaDoor
open Go.RowKit Go.PlainAid
set_option linter.unusedVariables false
set_option linter.unusedSimpArgs false
/-- the 26 signs of a date -/
def told (p d a b c y h mi se g zh zm : Int) : List Int :=
  [p, 48 + d % 10, 45, a, b, c, 45, 48 + y / 1000, 48 + y / 100 % 10, 48 + y / 10 % 10, 48 + y % 10, 32, 48 + h / 10, 48 + h % 10, 58, 48 + mi / 10, 48 + mi % 10, 58, 48 + se / 10, 48 + se % 10, 32, g, 48 + zh / 10, 48 + zh % 10, 48 + zm / 10, 48 + zm % 10]
def dayP (d : Int) : Int := if d < 10 then 32 else 48 + d / 10
theorem dayS_nums (d : Int) (h0 : 1 ≤ d) (h1 : d ≤ 31) : dayS d = strOfNums [dayP d, 48 + d % 10] := by
  unfold dayS dayP
  by_cases h : d < 10
  · rw [if_pos h, if_pos h, digS_one d (by omega) h]
    have e : (⟨#[32]⟩ : ByteArray) = strOfNums [32] := by decide +kernel
    have e2 : d % 10 = d := by omega
    rw [e, nums_app, e2]; rfl
  · rw [if_neg h, if_neg h, digS_two d (by omega) (by omega)]
theorem told_ok (p d a b c y h mi se g zh zm m : Int) (hp : p = 48 + d / 10 ∨ (p = 32 ∧ d < 10)) (d0 : 1 ≤ d) (d1 : d ≤ 31) (ha : 0 ≤ a ∧ a < 256) (hb : 0 ≤ b ∧ b < 256) (hc : 0 ≤ c ∧ c < 256) (y0 : 1000 ≤ y) (y1 : y ≤ 9999)
    (h0 : 0 ≤ h) (h1 : h < 24) (m0 : 0 ≤ mi) (m1 : mi < 60) (s0 : 0 ≤ se) (s1 : se < 60) (hg : g = 43 ∨ g = 45) (z0 : 0 ≤ zh) (z1 : zh < 24) (k0 : 0 ≤ zm) (k1 : zm < 60)
    (hm : monV (strOfNums [a, b, c]) = m) (v : Valid y m d) :
    readImapV (strOfNums (told p d a b c y h mi se g zh zm)) =
      if 0 ≤ dayNum y m d * 86400 + (h * 3600 + mi * 60 + se) - (if g = 45 then -(zh * 3600 + zm * 60) else zh * 3600 + zm * 60) ∧ dayNum y m d * 86400 + (h * 3600 + mi * 60 + se) - (if g = 45 then -(zh * 3600 + zm * 60) else zh * 3600 + zm * 60) ≤ 253402300799 then
        (dayNum y m d * 86400 + (h * 3600 + mi * 60 + se) - (if g = 45 then -(zh * 3600 + zm * 60) else zh * 3600 + zm * 60), 0) else (0, 3) := by
  have hB : Byts (told p d a b c y h mi se g zh zm) := by
    unfold told
    exact Byts.cons_ (by omega) (Byts.cons_ (by omega) (Byts.cons_ (by omega) (Byts.cons_ ha (Byts.cons_ hb (Byts.cons_ hc (Byts.cons_ (by omega) (Byts.cons_ (by omega) (Byts.cons_ (by omega) (Byts.cons_ (by omega) (Byts.cons_ (by omega) (Byts.cons_ (by omega)
      (Byts.cons_ (by omega) (Byts.cons_ (by omega) (Byts.cons_ (by omega) (Byts.cons_ (by omega) (Byts.cons_ (by omega) (Byts.cons_ (by omega) (Byts.cons_ (by omega) (Byts.cons_ (by omega) (Byts.cons_ (by omega) (Byts.cons_ (by omega) (Byts.cons_ (by omega) (Byts.cons_ (by omega) (Byts.cons_ (by omega) (Byts.cons_ (by omega) Byts.nil_)))))))))))))))))))))))))
  have es : (strOfNums (told p d a b c y h mi se g zh zm)).size = 26 := by rw [strOfNums_size]; rfl
  have e0 := bt_nums _ hB 0 p rfl
  have e2 := bt_nums _ hB 2 45 rfl
  have e6 := bt_nums _ hB 6 45 rfl
  have e11 := bt_nums _ hB 11 32 rfl
  have e20 := bt_nums _ hB 20 32 rfl
  have x1 : (strOfNums (told p d a b c y h mi se g zh zm)).extract 3 6 = strOfNums [a, b, c] := by rw [nums_ext _ _ _ (by omega)]; rfl
  have x2 : (strOfNums (told p d a b c y h mi se g zh zm)).extract 7 11 = strOfNums [48 + y / 1000, 48 + y / 100 % 10, 48 + y / 10 % 10, 48 + y % 10] := by rw [nums_ext _ _ _ (by omega)]; rfl
  have x3 : (strOfNums (told p d a b c y h mi se g zh zm)).extract 12 20 = strOfNums [48 + h / 10, 48 + h % 10, 58, 48 + mi / 10, 48 + mi % 10, 58, 48 + se / 10, 48 + se % 10] := by rw [nums_ext _ _ _ (by omega)]; rfl
  have x4 : (strOfNums (told p d a b c y h mi se g zh zm)).extract 21 26 = strOfNums [g, 48 + zh / 10, 48 + zh % 10, 48 + zm / 10, 48 + zm % 10] := by rw [nums_ext _ _ _ (by omega)]; rfl
  have x0 : (strOfNums (told p d a b c y h mi se g zh zm)).extract 0 2 = strOfNums [p, 48 + d % 10] := by rw [nums_ext _ _ _ (by omega)]; rfl
  have xd : dayW (strOfNums (told p d a b c y h mi se g zh zm)) = strOfNums (twoL d) := by
    unfold dayW
    rw [e0, x0]
    rcases hp with rfl | ⟨rfl, hd⟩
    · rw [if_neg (by omega)]; rfl
    · rw [if_pos rfl, nums_ext _ _ _ (by omega)]
      have e : (⟨#[48]⟩ : ByteArray) = strOfNums [48] := by decide +kernel
      have e3 : 48 + d / 10 = 48 := by omega
      rw [e, nums_app]
      unfold twoL
      rw [e3]; rfl
  have ey : dnumV (strOfNums [48 + y / 1000, 48 + y / 100 % 10, 48 + y / 10 % 10, 48 + y % 10]) = (y, true) := by
    rw [dnum_four' _ _ _ _ (by omega) (by omega) (by omega) (by omega)]
    refine Prod.ext ?_ rfl
    show 1000 * (y / 1000) + 100 * (y / 100 % 10) + 10 * (y / 10 % 10) + y % 10 = y
    omega
  have ed : dateV (strOfNums (twoL d)) (strOfNums [a, b, c]) (strOfNums [48 + y / 1000, 48 + y / 100 % 10, 48 + y / 10 % 10, 48 + y % 10]) = (dayNum y m d, true) := by
    unfold dateV
    rw [ey, hm, dnum_twoL d (by omega) (by omega)]
    obtain ⟨v1, v2, v3, v4⟩ := v
    exact if_pos ⟨rfl, rfl, by rw [strOfNums_size]; rfl, by omega, v3, v4⟩
  unfold readImapV
  rw [if_pos ⟨es, e2, e6, e11, e20⟩, xd, x1, x2, x3, x4, ed, clock_told h mi se h0 h1 m0 m1 s0 s1, zone_told g zh zm hg z0 z1 k0 k1]
  simp only [true_and]
theorem imapV_nums (y m d s a b c : Int) (y0 : 1000 ≤ y) (y1 : y ≤ 9999) (d0 : 1 ≤ d) (d1 : d ≤ 31) (s0 : 0 ≤ s) (s1 : s < 86400) (hx : monthsS.extract (3 * m - 3).toNat (3 * m).toNat = strOfNums [a, b, c]) :
    imapV y m d s = strOfNums (told (dayP d) d a b c y (s / 3600) (s / 60 % 60) (s % 60) 43 0 0) := by
  unfold imapV
  rw [hx, dayS_nums d d0 d1, wideS_four y (by omega) (by omega), wideS_two _ (by omega) (by omega), wideS_two _ (by omega) (by omega), wideS_two _ (by omega) (by omega)]
  have e1 : (⟨#[45]⟩ : ByteArray) = strOfNums [45] := by decide +kernel
  have e2 : (⟨#[32]⟩ : ByteArray) = strOfNums [32] := by decide +kernel
  have e3 : (⟨#[58]⟩ : ByteArray) = strOfNums [58] := by decide +kernel
  have e4 : (⟨#[32, 43, 48, 48, 48, 48]⟩ : ByteArray) = strOfNums [32, 43, 48, 48, 48, 48] := by decide +kernel
  rw [e1, e2, e3, e4]
  simp only [nums_app]
  rfl
/-- the signs of a second's text, by what stands in it -/
theorem imapS_nums (x : Int) (h0 : 0 ≤ x) (h1 : x ≤ 253402300799) : ∃ p d a b c y m h mi se : Int, imapS x = strOfNums (told p d a b c y h mi se 43 0 0) ∧ (p = 48 + d / 10 ∨ (p = 32 ∧ d < 10)) ∧ 1 ≤ d ∧ d ≤ 31 ∧ (65 ≤ a ∧ a < 256) ∧ (65 ≤ b ∧ b < 256) ∧ (65 ≤ c ∧ c < 256) ∧ 1000 ≤ y ∧ y ≤ 9999 ∧
    0 ≤ h ∧ h < 24 ∧ 0 ≤ mi ∧ mi < 60 ∧ 0 ≤ se ∧ se < 60 ∧ monV (strOfNums [a, b, c]) = m ∧ Valid y m d ∧ dayNum y m d = x / 86400 ∧ h * 3600 + mi * 60 + se = x % 86400 := by
  obtain ⟨v, e⟩ := civ_valid (x / 86400) (by omega)
  have yy := civ_year (x / 86400) (by omega) (by omega)
  have hl := mdays_le (civ (x / 86400)).1 (civ (x / 86400)).2.1
  obtain ⟨a, b, c, ha, hb, hc, hx, hm⟩ := mon_letters (civ (x / 86400)).2.1 v.1 v.2.1
  have v3 := v.2.2.1
  have v4 := v.2.2.2
  refine ⟨dayP (civ (x / 86400)).2.2, (civ (x / 86400)).2.2, a, b, c, (civ (x / 86400)).1, (civ (x / 86400)).2.1, x % 86400 / 3600, x % 86400 / 60 % 60, x % 86400 % 60, ?_, ?_, v3, by omega, ha, hb, hc, by omega, by omega,
    by omega, by omega, by omega, by omega, by omega, by omega, hm, v, e, by omega⟩
  · unfold imapS
    rw [show secs x = x by unfold secs; omega]
    exact imapV_nums _ _ _ _ a b c (by omega) (by omega) v3 (by omega) (by omega) (by omega) hx
  · unfold dayP
    split
    · rename_i hd; exact .inr ⟨rfl, hd⟩
    · exact .inl rfl
end Go.Proofs.YtfhdnppcookcoaaDoor
