/- The reference's ReadDay says what the program's says. -/
import Derived.Test.YtfhdnppcookcoaaDoorDate35
namespace Go.Proofs.YtfhdnppcookcoaaDoor
open Go.RowKit Go.PlainAid
set_option linter.unusedVariables false
set_option linter.unusedSimpArgs false
def BA (l : List UInt8) : ByteArray := ⟨l.toArray⟩
theorem BA_list (l : List UInt8) : (BA l).toList = l := by rw [ByteArray.toList_eq]; rfl
theorem BA_size (l : List UInt8) : (BA l).size = l.length := by rw [← tl_size, BA_list]
theorem BA_of (X : ByteArray) : X = BA X.toList := by apply ba_ext'; rw [BA_list]
theorem BA_app (a b : List UInt8) : BA a ++ BA b = BA (a ++ b) := by apply ba_ext'; rw [app_toList, BA_list, BA_list, BA_list]
theorem BA_ext (l : List UInt8) (i j : Nat) (h : i ≤ j) : (BA l).extract i j = BA ((l.drop i).take (j - i)) := by
  apply ba_ext'
  have e := extract_toList (BA l) i (j - i)
  rw [show i + (j - i) = j by omega] at e
  rw [e, BA_list, BA_list]
theorem BA_bt (l : List UInt8) (k : Nat) (c : UInt8) (h : l[k]? = some c) : bt (BA l) k = c.toNat := bt_eq _ _ _ (by rw [BA_list]; exact h)
theorem dateV_ok (a b c : ByteArray) (h : (dateV a b c).2 = true) : (dnumV a).2 = true ∧ (dnumV c).2 = true ∧ c.size = 4 ∧ monV b ≠ 0 := by
  unfold dateV at h
  split at h
  · rename_i q; exact ⟨q.1, q.2.1, q.2.2.1, q.2.2.2.1⟩
  · cases h
/-- a text of the form dd-mon-year, by its parts -/
theorem day_parts (X : ByteArray) (A B C : List UInt8) (hX : X = BA (A ++ 45 :: (B ++ 45 :: C))) (hA : A.length = 2) (hB : B.length = 3) (hC : C.length = 4) :
    X.size = 11 ∧ bt X 2 = 45 ∧ bt X 6 = 45 ∧ X.extract 0 2 = BA A ∧ X.extract 3 6 = BA B ∧ X.extract 7 11 = BA C := by
  match A, hA, B, hB, C, hC with
  | [a0, a1], _, [b0, b1, b2], _, [c0, c1, c2, c3], _ =>
    subst hX
    exact ⟨rfl, BA_bt _ 2 45 rfl, BA_bt _ 6 45 rfl, BA_ext _ 0 2 (by omega), BA_ext _ 3 6 (by omega), BA_ext _ 7 11 (by omega)⟩
theorem day_shape (X : ByteArray) (h : X.size = 11) (c2 : bt X 2 = 45) (c6 : bt X 6 = 45) : ∃ A B C : List UInt8, X = BA (A ++ 45 :: (B ++ 45 :: C)) ∧ A.length = 2 ∧ B.length = 3 ∧ C.length = 4 := by
  obtain ⟨l, hl⟩ : ∃ l, l = X.toList := ⟨_, rfl⟩
  have hX : X = BA l := by rw [hl]; exact BA_of X
  have hlen : l.length = 11 := by rw [hl, tl_size]; exact h
  match l, hlen with
  | [x0, x1, x2, x3, x4, x5, x6, x7, x8, x9, x10], _ =>
    subst hX
    have e2 := BA_bt [x0, x1, x2, x3, x4, x5, x6, x7, x8, x9, x10] 2 x2 rfl
    have e6 := BA_bt [x0, x1, x2, x3, x4, x5, x6, x7, x8, x9, x10] 6 x6 rfl
    have f : ∀ x : UInt8, ((x.toNat : Int)) = 45 → x = 45 := fun x hx => by
      apply UInt8.toNat_inj.1
      have : ((45 : UInt8).toNat : Int) = 45 := rfl
      omega
    have g2 := f x2 (by omega)
    have g6 := f x6 (by omega)
    subst g2 g6
    exact ⟨[x0, x1], [x3, x4, x5], [x7, x8, x9, x10], rfl, rfl, rfl, rfl⟩
def dayOk (s a b c : ByteArray) : Prop := dsplit s.toList = [a.toList, b.toList, c.toList] ∧ a.size ≤ 2 ∧ (dateV a b c).2 = true ∧ 0 ≤ (dateV a b c).1
theorem day_not (s : ByteArray) (h : ¬ ∃ a b c, dayOk s a b c) : readDayV s = (0, 3) := by
  obtain ⟨parts, _, hl, hd⟩ := split_parts s
  by_cases h3 : parts.length = 3
  · match parts, h3, hd with
    | [a, b, c], _, hd =>
      rw [readDay_parts s a b c hd.symm]
      by_cases h2 : a.size ≤ 2
      · rw [if_pos h2]
        exact if_neg (fun q => h ⟨a, b, c, hd.symm, h2, q.1, q.2⟩)
      · exact if_neg h2
  · exact readDay_other s (by rw [← hd, List.length_map]; exact h3)
theorem ref_day (s X : ByteArray) (hX : rDayX s = X) (h : X.size = 11 ∧ bt X 2 = 45 ∧ bt X 6 = 45) :
    rReadDayV s = if (secV (rnumV (X.extract 7 11)) (monV (X.extract 3 6)) (rnumV (X.extract 0 2))).2 = true ∧ 0 ≤ (secV (rnumV (X.extract 7 11)) (monV (X.extract 3 6)) (rnumV (X.extract 0 2))).1 then
      ((secV (rnumV (X.extract 7 11)) (monV (X.extract 3 6)) (rnumV (X.extract 0 2))).1, 0) else (0, 3) := by
  unfold rReadDayV
  rw [hX]
  exact if_pos h
/-- the day's number with a nought ahead -/
theorem num_zero (A : List UInt8) (h : A.length = 1) : (rnumV (BA (48 :: A)) = -1 ∧ dnumV (BA A) = (0, false)) ∨ (0 ≤ rnumV (BA (48 :: A)) ∧ rnumV (BA (48 :: A)) ≤ 9999 ∧ dnumV (BA A) = (rnumV (BA (48 :: A)), true)) := by
  have e : BA (48 :: A) = ⟨#[48]⟩ ++ BA A := by
    have : (⟨#[48]⟩ : ByteArray) = BA [48] := rfl
    rw [this, BA_app]; rfl
  have hz := zero_ahead (BA A) (by rw [BA_size]; exact h)
  have hn := num_rel (BA (48 :: A)) (by rw [BA_size]; simp) (by rw [BA_size]; simp; omega)
  rw [← e] at hz
  rw [hz] at hn
  exact hn
theorem day_eq (s : ByteArray) : rReadDayV s = readDayV s := by
  by_cases hP : ∃ a b c, dayOk s a b c
  · obtain ⟨a, b, c, h1, h2, h3, h4⟩ := hP
    have hv : readDayV s = ((dateV a b c).1 * 86400, 0) := by rw [readDay_parts _ _ _ _ h1, if_pos h2, if_pos ⟨h3, h4⟩]
    obtain ⟨d1, d2, d3, d4⟩ := dateV_ok a b c h3
    have hb := (monV_size b d4).1
    have ha := (dnum_nodash a d1).2
    have hl := dash_join _ _ _ _ h1
    have hs : s = BA (a.toList ++ 45 :: (b.toList ++ 45 :: c.toList)) := by rw [← hl]; exact BA_of s
    have hlb : b.toList.length = 3 := by rw [tl_size]; exact hb
    have hlc : c.toList.length = 4 := by rw [tl_size]; exact d3
    have hla : a.toList.length = a.size := tl_size a
    rw [hv]
    by_cases h22 : a.size = 2
    · have hsz : s.size = 11 := by rw [hs, BA_size]; simp; omega
      obtain ⟨p1, p2, p3, p4, p5, p6⟩ := day_parts s a.toList b.toList c.toList hs (by omega) hlb hlc
      rw [← BA_of] at p4 p5 p6
      have hX : rDayX s = s := if_neg (by omega)
      rw [ref_day s s hX ⟨p1, p2, p3⟩, p4, p5, p6]
      have hsec := sec_date a b c a (num_rel a (by omega) (by omega)) d3
      rw [if_pos h3] at hsec
      rw [hsec, if_pos ⟨rfl, by show 0 ≤ 86400 * _; omega⟩]
      refine Prod.ext ?_ rfl
      show 86400 * _ = _
      omega
    · have h11 : a.size = 1 := by omega
      have hsz : s.size = 10 := by rw [hs, BA_size]; simp; omega
      have hX : rDayX s = BA ((48 :: a.toList) ++ 45 :: (b.toList ++ 45 :: c.toList)) := by
        rw [show rDayX s = ⟨#[48]⟩ ++ s from if_pos hsz]
        have : (⟨#[48]⟩ : ByteArray) = BA [48] := rfl
        rw [this]
        conv => lhs; rw [hs]
        rw [BA_app]; rfl
      obtain ⟨p1, p2, p3, p4, p5, p6⟩ := day_parts _ (48 :: a.toList) b.toList c.toList rfl (by simp; omega) hlb hlc
      rw [← BA_of] at p5 p6
      rw [ref_day s _ hX ⟨p1, p2, p3⟩, p4, p5, p6]
      have hz := num_zero a.toList (by omega)
      rw [← BA_of] at hz
      have hsec := sec_date a b c (BA (48 :: a.toList)) hz d3
      rw [if_pos h3] at hsec
      rw [hsec, if_pos ⟨rfl, by show 0 ≤ 86400 * _; omega⟩]
      refine Prod.ext ?_ rfl
      show 86400 * _ = _
      omega
  · rw [day_not s hP]
    by_cases hf : (rDayX s).size = 11 ∧ bt (rDayX s) 2 = 45 ∧ bt (rDayX s) 6 = 45
    rotate_left
    · exact if_neg hf
    rw [ref_day s _ rfl hf]
    refine if_neg (fun q => hP ?_)
    obtain ⟨A, B, C, hX, hA, hB, hC⟩ := day_shape _ hf.1 hf.2.1 hf.2.2
    obtain ⟨p1, p2, p3, p4, p5, p6⟩ := day_parts _ A B C hX hA hB hC
    rw [p4, p5, p6] at q
    obtain ⟨q1, q2⟩ := q
    have hC4 : (BA C).size = 4 := by rw [BA_size]; exact hC
    by_cases h10 : s.size = 10
    · have e : rDayX s = ⟨#[48]⟩ ++ s := if_pos h10
      rw [hX] at e
      have e2 := congrArg ByteArray.toList e
      rw [BA_list, app_toList] at e2
      have e3 : (⟨#[48]⟩ : ByteArray).toList = [48] := BA_list [48]
      rw [e3] at e2
      match A, hA with
      | [x0, x1], _ =>
        simp only [List.cons_append, List.nil_append, List.cons.injEq] at e2
        obtain ⟨rfl, e4⟩ := e2
        have hz := num_zero [x1] rfl
        have hsec := sec_date (BA [x1]) (BA B) (BA C) (BA [48, x1]) hz hC4
        by_cases ho : (dateV (BA [x1]) (BA B) (BA C)).2 = true
        · obtain ⟨d1, d2, d3, d4⟩ := dateV_ok _ _ _ ho
          have n1 := (dnum_nodash _ d1).1
          have n2 := (monV_size _ d4).2
          have n3 := (dnum_nodash _ d2).1
          rw [BA_list] at n1 n2 n3
          rw [if_pos ho] at hsec
          rw [hsec] at q2
          dsimp only at q2
          refine ⟨BA [x1], BA B, BA C, ?_, by rw [BA_size]; simp, ho, by omega⟩
          rw [BA_list, BA_list, BA_list, ← e4]
          have := dsplit_hit [x1] (B ++ 45 :: C) n1
          rw [dsplit_hit B C n2, dsplit_none C n3] at this
          exact this
        · rw [if_neg ho] at hsec
          rw [hsec] at q1
          cases q1
    · have e : rDayX s = s := if_neg h10
      rw [e] at hX
      have hsec := sec_date (BA A) (BA B) (BA C) (BA A) (num_rel (BA A) (by rw [BA_size]; omega) (by rw [BA_size]; omega)) hC4
      by_cases ho : (dateV (BA A) (BA B) (BA C)).2 = true
      · obtain ⟨d1, d2, d3, d4⟩ := dateV_ok _ _ _ ho
        have n1 := (dnum_nodash _ d1).1
        have n2 := (monV_size _ d4).2
        have n3 := (dnum_nodash _ d2).1
        rw [BA_list] at n1 n2 n3
        rw [if_pos ho] at hsec
        rw [hsec] at q2
        dsimp only at q2
        refine ⟨BA A, BA B, BA C, ?_, by rw [BA_size]; omega, ho, by omega⟩
        rw [BA_list, BA_list, BA_list]
        conv => lhs; rw [hX, BA_list]
        have := dsplit_hit A (B ++ 45 :: C) n1
        rw [dsplit_hit B C n2, dsplit_none C n3] at this
        exact this
      · rw [if_neg ho] at hsec
        rw [hsec] at q1
        cases q1
end Go.Proofs.YtfhdnppcookcoaaDoor
