/- What was told is read back, in all forms: plain laws. -/
import Derived.Test.YtfhdnppcookcoaaDoorDate24
import Derived.Test.YtfhdnppcookcoaaDoorDate14
namespace Go.Proofs.YtfhdnppcookcoaaDoor
open Go.RowKit Go.PlainAid
set_option linter.unusedVariables false
set_option linter.unusedSimpArgs false
theorem read_back (k : Int) (h0 : 0 ≤ k) (h1 : k ≤ 253402300799) : readImapV (imapS k) = (k, 0) ∧ (imapS k).size = 26 := by
  obtain ⟨p, d, a, b, c, y, mo, hr, mi, se, e, hp, d0, d1, ha, hb, hc, y0, y1, r0, r1, i0, i1, s0, s1, hm, v, hd, hs⟩ := imapS_nums k h0 h1
  refine ⟨?_, by rw [e, strOfNums_size]; rfl⟩
  rw [e, told_ok p d a b c y hr mi se 43 0 0 mo hp d0 d1 ⟨by omega, ha.2⟩ ⟨by omega, hb.2⟩ ⟨by omega, hc.2⟩ y0 y1 r0 r1 i0 i1 s0 s1 (.inl rfl) (by omega) (by omega) (by omega) (by omega) hm v, hd, hs]
  have g45 : ¬ ((43 : Int) = 45) := by omega
  simp only [if_neg g45]
  have ek : k / 86400 * 86400 + k % 86400 - (0 * 3600 + 0 * 60) = k := by omega
  rw [ek, if_pos ⟨h0, h1⟩]
/-- the 20 signs of the other form -/
def rfcL (y m d h mi se : Int) : List Int :=
  [48 + y / 1000, 48 + y / 100 % 10, 48 + y / 10 % 10, 48 + y % 10, 45, 48 + m / 10, 48 + m % 10, 45, 48 + d / 10, 48 + d % 10, 84, 48 + h / 10, 48 + h % 10, 58, 48 + mi / 10, 48 + mi % 10, 58, 48 + se / 10, 48 + se % 10, 90]
theorem year_four (y : Int) (y0 : 0 ≤ y) (y1 : y ≤ 9999) : dnumV (strOfNums [48 + y / 1000, 48 + y / 100 % 10, 48 + y / 10 % 10, 48 + y % 10]) = (y, true) := by
  rw [dnum_four' _ _ _ _ (by omega) (by omega) (by omega) (by omega)]
  refine Prod.ext ?_ rfl
  show 1000 * (y / 1000) + 100 * (y / 100 % 10) + 10 * (y / 10 % 10) + y % 10 = y
  omega
theorem readRfc_told (y m d h mi se : Int) (y0 : 1000 ≤ y) (y1 : y ≤ 9999) (m0 : 0 ≤ m) (m1 : m < 100) (d0 : 0 ≤ d) (d1 : d < 100) (h0 : 0 ≤ h) (h1 : h < 24) (i0 : 0 ≤ mi) (i1 : mi < 60) (s0 : 0 ≤ se) (s1 : se < 60) :
    readRfcV (strOfNums (rfcL y m d h mi se)) = rfcRead true true true true y m d (mdays y m) (dayNum y m d * 86400 + (h * 3600 + mi * 60 + se)) ((rfcS (dayNum y m d * 86400 + (h * 3600 + mi * 60 + se))).toList == (strOfNums (rfcL y m d h mi se)).toList) := by
  have es : (strOfNums (rfcL y m d h mi se)).size = 20 := by rw [strOfNums_size]; rfl
  have x1 : (strOfNums (rfcL y m d h mi se)).extract 0 4 = strOfNums [48 + y / 1000, 48 + y / 100 % 10, 48 + y / 10 % 10, 48 + y % 10] := by rw [nums_ext _ _ _ (by omega)]; rfl
  have x2 : (strOfNums (rfcL y m d h mi se)).extract 5 7 = strOfNums (twoL m) := by rw [nums_ext _ _ _ (by omega)]; rfl
  have x3 : (strOfNums (rfcL y m d h mi se)).extract 8 10 = strOfNums (twoL d) := by rw [nums_ext _ _ _ (by omega)]; rfl
  have x4 : (strOfNums (rfcL y m d h mi se)).extract 11 19 = strOfNums [48 + h / 10, 48 + h % 10, 58, 48 + mi / 10, 48 + mi % 10, 58, 48 + se / 10, 48 + se % 10] := by rw [nums_ext _ _ _ (by omega)]; rfl
  unfold readRfcV
  rw [if_pos es, x1, x2, x3, x4, year_four y (by omega) y1, dnum_twoL m m0 m1, dnum_twoL d d0 d1, clock_told h mi se h0 h1 i0 i1 s0 s1]
theorem dayNum_range (y m d : Int) (y0 : 1970 ≤ y) (y1 : y ≤ 9999) (v : Valid y m d) : 0 ≤ dayNum y m d ∧ dayNum y m d ≤ 2932896 := by
  obtain ⟨m0, m1, d0, d1⟩ := v
  have b := bef_bound y m m0 m1
  have s := ahead_succ0 y (by omega)
  have h1 := ahead_mono 1970 y (by omega) y0
  have h2 := ahead_mono (y + 1) 10000 (by omega) (by omega)
  rw [show ahead 1970 = 719528 by decide +kernel] at h1
  rw [show ahead 10000 = 3652425 by decide +kernel] at h2
  unfold dayNum
  omega
theorem rfc_of_date (y m d h mi se : Int) (y0 : 1970 ≤ y) (y1 : y ≤ 9999) (v : Valid y m d) (h0 : 0 ≤ h) (h1 : h < 24) (i0 : 0 ≤ mi) (i1 : mi < 60) (s0 : 0 ≤ se) (s1 : se < 60) :
    rfcS (dayNum y m d * 86400 + (h * 3600 + mi * 60 + se)) = strOfNums (rfcL y m d h mi se) := by
  obtain ⟨r0, r1⟩ := dayNum_range y m d y0 y1 v
  have hl := mdays_le y m
  obtain ⟨m0, m1, d0, d1⟩ := id v
  have hc := civ_is (dayNum y m d) y m d r0 r1 (by omega) v rfl
  have e1 : secs (dayNum y m d * 86400 + (h * 3600 + mi * 60 + se)) = dayNum y m d * 86400 + (h * 3600 + mi * 60 + se) := secs_in _ (by omega) (by omega)
  have e2 : (dayNum y m d * 86400 + (h * 3600 + mi * 60 + se)) / 86400 = dayNum y m d := by omega
  have e3 : (dayNum y m d * 86400 + (h * 3600 + mi * 60 + se)) % 86400 = h * 3600 + mi * 60 + se := by omega
  unfold rfcS
  rw [e1, e2, e3, hc]
  unfold rfcV
  dsimp only
  have e4 : (h * 3600 + mi * 60 + se) / 3600 = h := by omega
  have e5 : (h * 3600 + mi * 60 + se) / 60 % 60 = mi := by omega
  have e6 : (h * 3600 + mi * 60 + se) % 60 = se := by omega
  rw [e4, e5, e6, wideS_four y (by omega) (by omega), wideS_two m (by omega) (by omega), wideS_two d (by omega) (by omega), wideS_two h (by omega) (by omega), wideS_two mi (by omega) (by omega), wideS_two se (by omega) (by omega)]
  have e7 : (⟨#[45]⟩ : ByteArray) = strOfNums [45] := by decide +kernel
  have e8 : (⟨#[84]⟩ : ByteArray) = strOfNums [84] := by decide +kernel
  have e9 : (⟨#[58]⟩ : ByteArray) = strOfNums [58] := by decide +kernel
  have e10 : (⟨#[90]⟩ : ByteArray) = strOfNums [90] := by decide +kernel
  rw [e7, e8, e9, e10]
  simp only [nums_app]
  rfl
theorem rfc_back (k : Int) (h0 : 0 ≤ k) (h1 : k ≤ 253402300799) : readRfcV (rfcS k) = (k, 0) := by
  obtain ⟨v, e⟩ := civ_valid (k / 86400) (by omega)
  have yy := civ_year (k / 86400) (by omega) (by omega)
  have hl := mdays_le (civ (k / 86400)).1 (civ (k / 86400)).2.1
  generalize (civ (k / 86400)).1 = y at *
  generalize (civ (k / 86400)).2.1 = m at *
  generalize (civ (k / 86400)).2.2 = d at *
  obtain ⟨m0, m1, d0, d1⟩ := id v
  have ek : dayNum y m d * 86400 + (k % 86400 / 3600 * 3600 + k % 86400 / 60 % 60 * 60 + k % 86400 % 60) = k := by omega
  have hf := rfc_of_date y m d (k % 86400 / 3600) (k % 86400 / 60 % 60) (k % 86400 % 60) yy.1 yy.2 v (by omega) (by omega) (by omega) (by omega) (by omega) (by omega)
  have ht := readRfc_told y m d (k % 86400 / 3600) (k % 86400 / 60 % 60) (k % 86400 % 60) (by omega) yy.2 (by omega) (by omega) (by omega) (by omega) (by omega) (by omega) (by omega) (by omega) (by omega) (by omega)
  rw [ek] at hf ht
  rw [← hf] at ht
  rw [ht, beq_self_eq_true]
  exact if_pos ⟨rfl, rfl, rfl, rfl, yy.1, m0, m1, d0, d1, rfl⟩
theorem nb_dash (c : Int) (h0 : 0 ≤ c) (h1 : c < 256) (h : c ≠ 45) : (45 : UInt8) ≠ UInt8.ofNat c.toNat := by
  intro e
  have := toNat_ofNat c h0 h1
  rw [← e] at this
  have e2 : (((45 : UInt8).toNat : Nat) : Int) = 45 := rfl
  omega
theorem no_dash (l : List Int) (h : ∀ c ∈ l, 0 ≤ c ∧ c < 256 ∧ c ≠ 45) : (45 : UInt8) ∉ (strOfNums l).toList := by
  rw [nums_toList]
  intro hm
  obtain ⟨c, hc, e⟩ := List.mem_map.1 hm
  obtain ⟨h0, h1, h2⟩ := h c hc
  exact nb_dash c h0 h1 h2 e.symm
theorem parts_told (A B C : List Int) (hA : ∀ c ∈ A, 0 ≤ c ∧ c < 256 ∧ c ≠ 45) (hB : ∀ c ∈ B, 0 ≤ c ∧ c < 256 ∧ c ≠ 45) (hC : ∀ c ∈ C, 0 ≤ c ∧ c < 256 ∧ c ≠ 45) :
    dsplit (strOfNums (A ++ 45 :: (B ++ 45 :: C))).toList = [(strOfNums A).toList, (strOfNums B).toList, (strOfNums C).toList] := by
  have e : (strOfNums (A ++ 45 :: (B ++ 45 :: C))).toList = (strOfNums A).toList ++ 45 :: ((strOfNums B).toList ++ 45 :: (strOfNums C).toList) := by
    simp only [nums_toList, List.map_append, List.map_cons]
    rfl
  rw [e, dsplit_hit _ _ (no_dash A hA), dsplit_hit _ _ (no_dash B hB), dsplit_none _ (no_dash C hC)]
/-- what a day's text says -/
theorem readDay_told (D : List Int) (d a b c y m : Int) (hD : (∀ c ∈ D, 0 ≤ c ∧ c < 256 ∧ c ≠ 45)) (hn : dnumV (strOfNums D) = (d, true)) (hl : D.length ≤ 2) (ha : 65 ≤ a ∧ a < 256) (hb : 65 ≤ b ∧ b < 256) (hc : 65 ≤ c ∧ c < 256) (hm : monV (strOfNums [a, b, c]) = m) (m0 : 1 ≤ m) (m1 : m ≤ 12) (y0 : 1970 ≤ y) (y1 : y ≤ 9999) :
    readDayV (strOfNums (D ++ 45 :: ([a, b, c] ++ 45 :: [48 + y / 1000, 48 + y / 100 % 10, 48 + y / 10 % 10, 48 + y % 10]))) = if 1 ≤ d ∧ d ≤ mdays y m then (dayNum y m d * 86400, 0) else (0, 3) := by
  have hp := parts_told D [a, b, c] [48 + y / 1000, 48 + y / 100 % 10, 48 + y / 10 % 10, 48 + y % 10] hD
    (by intro x hx; simp only [List.mem_cons, List.not_mem_nil, or_false] at hx; rcases hx with rfl | rfl | rfl <;> omega)
    (by intro x hx; simp only [List.mem_cons, List.not_mem_nil, or_false] at hx; rcases hx with rfl | rfl | rfl | rfl <;> omega)
  rw [readDay_parts _ _ _ _ hp, if_pos (by rw [strOfNums_size]; exact hl)]
  have hd : dateV (strOfNums D) (strOfNums [a, b, c]) (strOfNums [48 + y / 1000, 48 + y / 100 % 10, 48 + y / 10 % 10, 48 + y % 10]) = if 1 ≤ d ∧ d ≤ mdays y m then (dayNum y m d, true) else (0, false) := by
    unfold dateV
    rw [hn, hm, year_four y (by omega) y1]
    have es : (strOfNums [48 + y / 1000, 48 + y / 100 % 10, 48 + y / 10 % 10, 48 + y % 10]).size = 4 := by rw [strOfNums_size]; rfl
    by_cases h : 1 ≤ d ∧ d ≤ mdays y m
    · rw [if_pos h, if_pos ⟨rfl, rfl, es, by omega, h.1, h.2⟩]
    · rw [if_neg h, if_neg (fun q => h q.2.2.2.2)]
  rw [hd]
  by_cases h : 1 ≤ d ∧ d ≤ mdays y m
  · simp only [if_pos h]
    have := dayNum_range y m d y0 y1 ⟨m0, m1, h.1, h.2⟩
    rw [if_pos ⟨trivial, this.1⟩]
  · simp only [if_neg h]
    rw [if_neg (by simp)]
theorem dnum_one (d : Int) (h0 : 0 ≤ d) (h1 : d ≤ 9) : dnumV (strOfNums [48 + d]) = (d, true) := by
  have hB : Byts [48 + d] := Byts.cons_ (by omega) Byts.nil_
  have e0 := bt_nums _ hB 0 _ rfl
  have es : (strOfNums [48 + d]).size = 1 := by rw [strOfNums_size]; rfl
  have hd : digitsB (strOfNums [48 + d]) 1 = true := by
    simp only [digitsB, e0, Bool.true_and, Bool.and_eq_true, decide_eq_true_eq]; omega
  unfold dnumV
  rw [es, if_pos hd]
  simp only [numZ, e0]
  refine Prod.ext ?_ rfl
  show 0 * 10 + (48 + d - 48) = _
  omega
/-- the day's part of a second's text says the day's first second -/
theorem day_back (k : Int) (h0 : 0 ≤ k) (h1 : k ≤ 253402300799) :
    (bt ((imapS k).extract 0 11) 0 = 32 ∧ readDayV (((imapS k).extract 0 11).extract 1 11) = (k / 86400 * 86400, 0)) ∨
    ((bt ((imapS k).extract 0 11) 0 == 32) = false ∧ readDayV ((imapS k).extract 0 11) = (k / 86400 * 86400, 0)) := by
  obtain ⟨p, d, a, b, c, y, mo, hr, mi, se, e, hp, d0, d1, ha, hb, hc, y0, y1, r0, r1, i0, i1, s0, s1, hm, v, hd, hs⟩ := imapS_nums k h0 h1
  have y2 : 1970 ≤ y := by
    by_cases q : 1970 ≤ y
    · exact q
    · have b := bef_bound y mo v.1 v.2.1
      have s := ahead_succ0 y (by omega)
      have h2 := ahead_mono (y + 1) 1970 (by omega) (by omega)
      rw [show ahead 1970 = 719528 by decide +kernel] at h2
      have v4 := v.2.2.2
      unfold dayNum at hd
      omega
  have x0 : (imapS k).extract 0 11 = strOfNums [p, 48 + d % 10, 45, a, b, c, 45, 48 + y / 1000, 48 + y / 100 % 10, 48 + y / 10 % 10, 48 + y % 10] := by rw [e, nums_ext _ _ _ (by omega)]; rfl
  have hB : Byts [p, 48 + d % 10, 45, a, b, c, 45, 48 + y / 1000, 48 + y / 100 % 10, 48 + y / 10 % 10, 48 + y % 10] :=
    Byts.cons_ (by omega) (Byts.cons_ (by omega) (Byts.cons_ (by omega) (Byts.cons_ (by omega) (Byts.cons_ (by omega) (Byts.cons_ (by omega) (Byts.cons_ (by omega) (Byts.cons_ (by omega) (Byts.cons_ (by omega) (Byts.cons_ (by omega) (Byts.cons_ (by omega) Byts.nil_))))))))))
  have e0 := bt_nums _ hB 0 p rfl
  rw [x0, e0, ← hd]
  rcases hp with rfl | ⟨rfl, hd10⟩
  · refine .inr ⟨by rw [beq_eq_false_iff_ne]; omega, ?_⟩
    have := readDay_told [48 + d / 10, 48 + d % 10] d a b c y mo (by intro x hx; simp only [List.mem_cons, List.not_mem_nil, or_false] at hx; rcases hx with rfl | rfl <;> omega) (dnum_twoL d (by omega) (by omega)) (by simp) ha hb hc hm v.1 v.2.1 y2 y1
    rw [if_pos ⟨v.2.2.1, v.2.2.2⟩] at this
    exact this
  · refine .inl ⟨rfl, ?_⟩
    rw [nums_ext _ _ _ (by omega)]
    have e2 : d % 10 = d := by omega
    have := readDay_told [48 + d] d a b c y mo (by intro x hx; simp only [List.mem_cons, List.not_mem_nil, or_false] at hx; subst hx; omega) (dnum_one d (by omega) (by omega)) (by simp) ha hb hc hm v.1 v.2.1 y2 y1
    rw [if_pos ⟨v.2.2.1, v.2.2.2⟩] at this
    rw [e2]
    exact this
end Go.Proofs.YtfhdnppcookcoaaDoor
