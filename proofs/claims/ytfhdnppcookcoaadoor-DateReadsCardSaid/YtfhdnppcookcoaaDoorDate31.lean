/- The reference's ReadImap says what the program's says. -/
import Derived.Test.YtfhdnppcookcoaaDoorDateR
import Derived.Test.YtfhdnppcookcoaaDoorDate30
namespace Go.Proofs.YtfhdnppcookcoaaDoor
open Go.RowKit Go.PlainAid
set_option linter.unusedVariables false
set_option linter.unusedSimpArgs false
theorem day_rel (s : ByteArray) (h26 : 2 ≤ s.size) : (rnumV (rdayW s) = -1 ∧ dnumV (dayW s) = (0, false)) ∨ (0 ≤ rnumV (rdayW s) ∧ rnumV (rdayW s) ≤ 9999 ∧ dnumV (dayW s) = (rnumV (rdayW s), true)) := by
  have e2 : (s.extract 0 2).size = 2 := by rw [ByteArray.size_extract]; omega
  unfold rdayW dayW
  by_cases h : bt s 0 = 32
  · have e1 : ((s.extract 0 2).extract 1 2).size = 1 := by rw [ByteArray.size_extract]; omega
    rw [if_pos h, if_pos h, zero_ahead _ e1]
    exact num_rel _ (by omega) (by omega)
  · rw [if_neg h, if_neg h]
    exact num_rel _ (by omega) (by omega)
theorem num2 (t : ByteArray) (h : t.size = 2) : (rnumV t = -1 ∧ dnumV t = (0, false)) ∨ (0 ≤ rnumV t ∧ rnumV t ≤ 9999 ∧ dnumV t = (rnumV t, true)) := num_rel t (by omega) (by omega)
theorem clock_rel (s : ByteArray) (i : Nat) (hi : i + 8 ≤ s.size) (c2 : bt s (i + 2) = 58) (c5 : bt s (i + 5) = 58) :
    let h := rnumV (s.extract i (i + 2)); let m := rnumV (s.extract (i + 3) (i + 5)); let e := rnumV (s.extract (i + 6) (i + 8))
    if 0 ≤ h ∧ h ≤ 23 ∧ 0 ≤ m ∧ m ≤ 59 ∧ 0 ≤ e ∧ e ≤ 59 then clockV (s.extract i (i + 8)) = (h * 3600 + m * 60 + e, true) else (clockV (s.extract i (i + 8))).2 = false := by
  intro h m e
  have es : (s.extract i (i + 8)).size = 8 := by rw [ByteArray.size_extract]; omega
  have b2 : bt (s.extract i (i + 8)) 2 = 58 := by rw [bt_ext s i (i + 8) 2 (by omega) (by omega)]; exact c2
  have b5 : bt (s.extract i (i + 8)) 5 = 58 := by rw [bt_ext s i (i + 8) 5 (by omega) (by omega)]; exact c5
  have x1 : (s.extract i (i + 8)).extract 0 2 = s.extract i (i + 2) := ext_ext s i (i + 8) 0 2 (by omega) (by omega) (by omega) (by omega)
  have x2 : (s.extract i (i + 8)).extract 3 5 = s.extract (i + 3) (i + 5) := ext_ext s i (i + 8) 3 5 (by omega) (by omega) (by omega) (by omega)
  have x3 : (s.extract i (i + 8)).extract 6 8 = s.extract (i + 6) (i + 8) := ext_ext s i (i + 8) 6 8 (by omega) (by omega) (by omega) (by omega)
  have n1 := num2 (s.extract i (i + 2)) (by rw [ByteArray.size_extract]; omega)
  have n2 := num2 (s.extract (i + 3) (i + 5)) (by rw [ByteArray.size_extract]; omega)
  have n3 := num2 (s.extract (i + 6) (i + 8)) (by rw [ByteArray.size_extract]; omega)
  have hv : clockV (s.extract i (i + 8)) = ((dnumV (s.extract i (i + 2))).1 * 3600 + (dnumV (s.extract (i + 3) (i + 5))).1 * 60 + (dnumV (s.extract (i + 6) (i + 8))).1, (dnumV (s.extract i (i + 2))).2 && (dnumV (s.extract (i + 3) (i + 5))).2 && (dnumV (s.extract (i + 6) (i + 8))).2 && decide ((dnumV (s.extract i (i + 2))).1 < 24) && decide ((dnumV (s.extract (i + 3) (i + 5))).1 < 60) && decide ((dnumV (s.extract (i + 6) (i + 8))).1 < 60)) := by
    unfold clockV
    rw [if_pos ⟨es, b2, b5⟩, x1, x2, x3]
  rw [hv]
  show if 0 ≤ h ∧ h ≤ 23 ∧ 0 ≤ m ∧ m ≤ 59 ∧ 0 ≤ e ∧ e ≤ 59 then _ else _
  change (h = -1 ∧ _) ∨ (0 ≤ h ∧ h ≤ 9999 ∧ _ = (h, true)) at n1
  change (m = -1 ∧ _) ∨ (0 ≤ m ∧ m ≤ 9999 ∧ _ = (m, true)) at n2
  change (e = -1 ∧ _) ∨ (0 ≤ e ∧ e ≤ 9999 ∧ _ = (e, true)) at n3
  generalize h = h' at *
  generalize m = m' at *
  generalize e = e' at *
  rcases n1 with ⟨r1, d1⟩ | ⟨r1, r1b, d1⟩ <;> rcases n2 with ⟨r2, d2⟩ | ⟨r2, r2b, d2⟩ <;> rcases n3 with ⟨r3, d3⟩ | ⟨r3, r3b, d3⟩ <;> rw [d1, d2, d3]
  all_goals first | (rw [if_neg (by omega)]; simp; done) | skip
  by_cases hc : 0 ≤ h' ∧ h' ≤ 23 ∧ 0 ≤ m' ∧ m' ≤ 59 ∧ 0 ≤ e' ∧ e' ≤ 59
  · rw [if_pos hc]
    refine Prod.ext rfl ?_
    simp; omega
  · rw [if_neg hc]
    simp; omega
theorem zone_form (g a b : Int) : (if g = 45 then -(a * 3600 + b * 60) else a * 3600 + b * 60) = rZone g a b := by unfold rZone; split <;> omega
theorem zone_rel (s : ByteArray) (i : Nat) (hi : i + 5 ≤ s.size) (c : bt s i = 43 ∨ bt s i = 45) :
    let h := rnumV (s.extract (i + 1) (i + 3)); let m := rnumV (s.extract (i + 3) (i + 5))
    if 0 ≤ h ∧ h ≤ 23 ∧ 0 ≤ m ∧ m ≤ 59 then zoneV (s.extract i (i + 5)) = (rZone (bt s i) h m, true) else (zoneV (s.extract i (i + 5))).2 = false := by
  intro h m
  have es : (s.extract i (i + 5)).size = 5 := by rw [ByteArray.size_extract]; omega
  have b0 : bt (s.extract i (i + 5)) 0 = bt s i := bt_ext s i (i + 5) 0 (by omega) (by omega)
  have x1 : (s.extract i (i + 5)).extract 1 3 = s.extract (i + 1) (i + 3) := ext_ext s i (i + 5) 1 3 (by omega) (by omega) (by omega) (by omega)
  have x2 : (s.extract i (i + 5)).extract 3 5 = s.extract (i + 3) (i + 5) := ext_ext s i (i + 5) 3 5 (by omega) (by omega) (by omega) (by omega)
  have n1 := num2 (s.extract (i + 1) (i + 3)) (by rw [ByteArray.size_extract]; omega)
  have n2 := num2 (s.extract (i + 3) (i + 5)) (by rw [ByteArray.size_extract]; omega)
  have hv : zoneV (s.extract i (i + 5)) = (if bt s i = 45 then -((dnumV (s.extract (i + 1) (i + 3))).1 * 3600 + (dnumV (s.extract (i + 3) (i + 5))).1 * 60) else (dnumV (s.extract (i + 1) (i + 3))).1 * 3600 + (dnumV (s.extract (i + 3) (i + 5))).1 * 60, (dnumV (s.extract (i + 1) (i + 3))).2 && (dnumV (s.extract (i + 3) (i + 5))).2 && decide ((dnumV (s.extract (i + 1) (i + 3))).1 < 24) && decide ((dnumV (s.extract (i + 3) (i + 5))).1 < 60)) := by
    unfold zoneV
    rw [b0, if_pos ⟨es, c⟩, x1, x2]
  rw [hv]
  show if 0 ≤ h ∧ h ≤ 23 ∧ 0 ≤ m ∧ m ≤ 59 then _ else _
  change (h = -1 ∧ _) ∨ (0 ≤ h ∧ h ≤ 9999 ∧ _ = (h, true)) at n1
  change (m = -1 ∧ _) ∨ (0 ≤ m ∧ m ≤ 9999 ∧ _ = (m, true)) at n2
  generalize h = h' at *
  generalize m = m' at *
  rcases n1 with ⟨r1, d1⟩ | ⟨r1, r1b, d1⟩ <;> rcases n2 with ⟨r2, d2⟩ | ⟨r2, r2b, d2⟩ <;> rw [d1, d2]
  all_goals first | (rw [if_neg (by omega)]; simp; done) | skip
  by_cases hc : 0 ≤ h' ∧ h' ≤ 23 ∧ 0 ≤ m' ∧ m' ≤ 59
  · rw [if_pos hc]
    refine Prod.ext ?_ (by simp; omega)
    exact zone_form _ h' m'
  · rw [if_neg hc]
    simp; omega
theorem rimap_eq (s : ByteArray) : rReadImapV s = readImapV s := by
  by_cases hf : s.size = 26 ∧ bt s 2 = 45 ∧ bt s 6 = 45 ∧ bt s 11 = 32 ∧ bt s 20 = 32
  · obtain ⟨h26, c2, c6, c11, c20⟩ := hf
    unfold readImapV
    rw [if_pos ⟨h26, c2, c6, c11, c20⟩]
    by_cases hc : bt s 14 = 58 ∧ bt s 17 = 58
    · have hk := clock_rel s 12 (by omega) hc.1 hc.2
      by_cases hz : bt s 21 = 43 ∨ bt s 21 = 45
      · have hz2 := zone_rel s 21 (by omega) hz
        have hs := sec_date (dayW s) (s.extract 3 6) (s.extract 7 11) (rdayW s) (day_rel s (by omega)) (by rw [ByteArray.size_extract]; omega)
        unfold rReadImapV
        rw [if_pos ⟨h26, c2, c6, c11, hc.1, hc.2, c20, hz⟩, hs]
        dsimp only at hk hz2
        rw [show 12 + 2 = 14 from rfl, show 12 + 3 = 15 from rfl, show 12 + 5 = 17 from rfl, show 12 + 6 = 18 from rfl, show 12 + 8 = 20 from rfl] at hk
        rw [show 21 + 1 = 22 from rfl, show 21 + 3 = 24 from rfl, show 21 + 5 = 26 from rfl] at hz2
        generalize rnumV (s.extract 12 14) = h at *
        generalize rnumV (s.extract 15 17) = mi at *
        generalize rnumV (s.extract 18 20) = se at *
        generalize rnumV (s.extract 22 24) = zh at *
        generalize rnumV (s.extract 24 26) = zm at *
        generalize rZone (bt s 21) zh zm = Z at *
        generalize clockV (s.extract 12 20) = C at *
        generalize zoneV (s.extract 21 26) = ZZ at *
        generalize dateV (dayW s) (s.extract 3 6) (s.extract 7 11) = DD at *
        obtain ⟨D, o⟩ := DD
        obtain ⟨t, b⟩ := C
        obtain ⟨z, f⟩ := ZZ
        dsimp only at *
        clear hs
        cases o with
        | false => refine Eq.trans ?_ (Eq.symm (if_neg (by simp))); rw [if_neg (by simp)]; exact if_neg (by simp)
        | true =>
          rw [if_pos rfl]
          dsimp only
          split at hk
          · rename_i q1
            obtain ⟨rfl, rfl⟩ := Prod.mk.inj hk
            split at hz2
            · rename_i q2
              obtain ⟨rfl, rfl⟩ := Prod.mk.inj hz2
              have en : 86400 * D + 3600 * h + 60 * mi + se - z = D * 86400 + (h * 3600 + mi * 60 + se) - z := by omega
              unfold rEnd
              rw [en]
              by_cases qn : 0 ≤ D * 86400 + (h * 3600 + mi * 60 + se) - z ∧ D * 86400 + (h * 3600 + mi * 60 + se) - z ≤ 253402300799
              · rw [if_pos ⟨rfl, q1.1, q1.2.1, q1.2.2.1, q1.2.2.2.1, q1.2.2.2.2.1, q1.2.2.2.2.2, q2.1, q2.2.1, q2.2.2.1, q2.2.2.2, qn.1, qn.2⟩, if_pos ⟨rfl, rfl, rfl, qn.1, qn.2⟩]
              · rw [if_neg (fun x => qn x.2.2.2.2.2.2.2.2.2.2.2), if_neg (fun x => qn x.2.2.2)]
            · rename_i q2
              subst hz2
              refine Eq.trans ?_ (Eq.symm (if_neg (by simp)))
              exact if_neg (fun x => q2 ⟨x.2.2.2.2.2.2.2.1, x.2.2.2.2.2.2.2.2.1, x.2.2.2.2.2.2.2.2.2.1, x.2.2.2.2.2.2.2.2.2.2.1⟩)
          · rename_i q1
            subst hk
            refine Eq.trans ?_ (Eq.symm (if_neg (by simp)))
            exact if_neg (fun x => q1 ⟨x.2.1, x.2.2.1, x.2.2.2.1, x.2.2.2.2.1, x.2.2.2.2.2.1, x.2.2.2.2.2.2.1⟩)
      · have hz3 : (zoneV (s.extract 21 26)).2 = false := by
          unfold zoneV
          rw [if_neg (fun x => hz (by rw [bt_ext s 21 26 0 (by omega) (by omega)] at x; exact x.2))]
        refine Eq.trans ?_ (Eq.symm (if_neg (by rw [hz3]; simp)))
        exact if_neg (fun x => hz x.2.2.2.2.2.2.2)
    · have hc3 : (clockV (s.extract 12 20)).2 = false := by
        unfold clockV
        rw [if_neg (fun x => hc (by rw [bt_ext s 12 20 2 (by omega) (by omega), bt_ext s 12 20 5 (by omega) (by omega)] at x; exact x.2))]
      refine Eq.trans ?_ (Eq.symm (if_neg (by rw [hc3]; simp)))
      exact if_neg (fun x => hc ⟨x.2.2.2.2.1, x.2.2.2.2.2.1⟩)
  · rw [show readImapV s = (0, 3) from if_neg hf]
    exact if_neg (fun x => hf ⟨x.1, x.2.1, x.2.2.1, x.2.2.2.1, x.2.2.2.2.2.2.1⟩)
end Go.Proofs.YtfhdnppcookcoaaDoor
