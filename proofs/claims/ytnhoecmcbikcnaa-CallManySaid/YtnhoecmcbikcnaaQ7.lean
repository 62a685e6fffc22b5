/- Texts of one seat, one behind the other: Jmany2, Jval6, Rp5, Jval7, Jpar0, Jpar1, Pj5, Pj6, Pj7, Rput, Rprint, Jlaw0, Perr, Rp6. No condition. -/
import Derived.Test.YtnhoecmcbikcnaaQ6
import Derived.Defers
import Derived.Recover
import Derived.Laws.Pointers
import Derived.OpenShut
import Derived.Lib.SlBytesConst
import Derived.Lib.SmallJoins
import Derived.Deep.DeepCutAuto
/-! The walk of many, with the closure number 2. -/
namespace Go.Proofs.Ytnhoecmcbikcnaa
open Go.RowKit Go.PlainAid
set_option linter.unusedVariables false
set_option linter.unusedSimpArgs false
set_option maxRecDepth 100000 in
set_option maxHeartbeats 4000000 in
theorem many2_any {σ : Type} (P : σ → List UInt8 → Except Int (σ × List UInt8)) (fin : σ → Nd) (c : UInt8) (F : σ → List UInt8 → Except Int (Nd × List UInt8)) (I : σ → World → Prop) (N : σ → Nat) (rb : Nat) (s : ByteArray) (k0 : Nat) (w0 : World) (x1 x2 x3 : Addr) (t : ByteArray) (ht : t.toList = [c])
    (hF : Hid (ManyEq P fin c F)) (hP : ∀ st l st' r, P st l = .ok (st', r) → Rest r l) (hN : ∀ st l st' r, P st l = .ok (st', r) → N st' ≤ N st + 1) (hI : ∀ st w w', I st w → w.grownBy w' (some rb) → I st w') (hI0 : ∀ st w, I st w → w0.grownBy w (some rb))
    (hC : ∀ st k w, I st w → RdSt w rb s k → k0 ≤ k → k ≤ s.size → N st ≤ k → Calls Try.prog 42 #[.pointer (some x1), .pointer (some x2), .pointer (some x3)] w (PartE rb s w0 I (P st (s.toList.drop k))))
    (st0 : σ) (k : Nat) (w : World) (h0 : I st0 w) (hst : RdSt w rb s k) (hk0 : k0 ≤ k) (hn0 : N st0 ≤ k) (hk : k ≤ s.size) (hs : s.size ≤ 1000000) :
    Calls Try.prog 40 #[.pointer (some ⟨rb, 0, none⟩), .string t, .func (.func 42) #[] #[.pointer (some x1), .pointer (some x2), .pointer (some x3)]] w (ManyEnd rb s w0 I fin (if (blanksL (s.toList.drop k)).head? = some c then .ok (fin st0, (blanksL (s.toList.drop k)).tail) else F st0 (blanksL (s.toList.drop k)))) := by
  have hts : t.size = 1 := by have := tl_len' t; rw [ht] at this; simpa using this.symm
  have HP := Lib.hid hP
  have HN := Lib.hid hN
  have HI := Lib.hid hI
  have HI0 := Lib.hid hI0
  have HC := Lib.hid hC
  have H0 := Lib.hid h0
  have HST := Lib.hid hst
  clear hP hN hI hI0 hC h0 hst
  by_cases hc : (blanksL (s.toList.drop k)).head? = some c
  · simp only [hc, if_true]
    go_enter Try.func40, Try.ntmps40
    go_wp2_with fail
    refine (blanks_any rb s k w HST.out hk hs).mono ?_
    rintro e w1 ⟨rfl, k1, g1, g2, g3, g4⟩
    have G1 : Hid (w.grownBy w1 (some rb)) := g4
    have R1 : Hid (RdSt w1 rb s k1) := g3
    have L1 : Hid (s.toList.drop k1 = blanksL (s.toList.drop k)) := g2
    clear g2 g3 g4
    go_wp2_with fail
    refine (may_yes rb s t k1 w1 R1.out g1 hs (by rw [L1.out, ht]; exact take_one hts hc)).mono ?_
    rintro e w2 ⟨rfl, k2, g1, g2, g3, g4⟩
    go_wp2_with fail
    go_end0
    refine ⟨rfl, ⟨st0, rfl, HI.out _ _ _ (HI.out _ _ _ H0.out G1.out) g4⟩, k2, g1, ?_, g3⟩
    rw [g2, L1.out, hts, List.drop_one]
  rw [if_neg hc]
  obtain ⟨V, hV⟩ : ∃ V, V = F st0 (blanksL (s.toList.drop k)) := ⟨_, rfl⟩
  rw [← hV]
  have HV := Lib.hid hV
  have HNC := Lib.hid hc
  have HT1 := Lib.hid ht
  clear hV hc ht
  go_enter Try.func40, Try.ntmps40
  go_wp2_with fail
  refine (blanks_any rb s k w HST.out hk hs).mono ?_
  rintro e w1 ⟨rfl, k1, g1, g2, g3, g4⟩
  have hkk : k ≤ k1 := le_of_drop g1 hk (by rw [g2]; exact blanksL_le _)
  have I1 : Hid (I st0 w1) := HI.out _ _ _ H0.out g4
  have R1 : Hid (RdSt w1 rb s k1) := g3
  have L1 : Hid (s.toList.drop k1 = blanksL (s.toList.drop k)) := g2
  clear g2 g3 g4
  go_wp2_with fail
  refine (may_no rb s t k1 w1 R1.out g1 hs (by omega) (by rw [L1.out, HT1.out]; exact take_not hts HNC.out)).mono ?_
  rintro e w2 ⟨rfl, g3, g4⟩
  have I2 : Hid (I st0 w2) := HI.out _ _ _ I1.out g4
  have R2 : Hid (RdSt w2 rb s k1) := g3
  have V2 : Hid (V = F st0 (s.toList.drop k1)) := Lib.hid (by rw [HV.out, L1.out])
  have hk1 : k0 ≤ k1 := by omega
  clear g3 g4 I1 R1 L1 HV HNC HST H0
  go_wp2_with fail
  go_loopg [] (s.size - k1) (fun g wr => ∃ (st : σ) (j : Nat), k0 ≤ j ∧ j ≤ s.size ∧ s.size - j ≤ g ∧ N st ≤ j ∧ Hid (V = F st (s.toList.drop j)) ∧ Hid (RdSt wr rb s j) ∧ Hid (I st wr))
  case atStart => exact ⟨st0, k1, hk1, g1, Nat.le_refl _, by omega, V2, R2, I2⟩
  case round =>
    clear I2 R2 V2
    obtain ⟨st, j, hj0, hj, hg, hnj, hv, hr, hi⟩ := hrel
    obtain ⟨wo, rfl⟩ : ∃ wo : World, wo = wr := ⟨_, rfl⟩
    obtain ⟨L, hL⟩ : ∃ L, L = blanksL (s.toList.drop j) := ⟨_, rfl⟩
    have hLl : L.length ≤ s.size - j := by rw [hL]; have := blanksL_le (s.toList.drop j); simpa [tl_len'] using this
    have HL := Lib.hid hL
    have HE : Hid (V = match P st L with
      | .error e => .error e
      | .ok (st', r) => if (blanksL r).head? = some c then .ok (fin st', (blanksL r).tail) else if (blanksL r).head? = some 44 then F st' (blanksL r).tail else .error 3) := Lib.hid (by rw [hv.out, hF.out st (s.toList.drop j), ← hL] <;> (rcases P st L with _ | ⟨_, _⟩ <;> rfl))
    clear hL hv
    have HC1 : Hid (∀ w' k', I st w' → RdSt w' rb s k' → k0 ≤ k' → k' ≤ s.size → N st ≤ k' → s.toList.drop k' = L → Calls Try.prog 42 #[.pointer (some x1), .pointer (some x2), .pointer (some x3)] w' (PartE rb s w0 I (P st L))) := fun w' k' a1 a2 a3 a4 a6 a5 => by
      have := HC.out st k' w' a1 a2 a3 a4 a6
      rw [a5] at this
      exact this
    cases hp : P st L with
    | error e0 =>
      rw [hp] at HC1
      have HX : Hid (V = .error e0) := Lib.hid (by rw [HE.out, hp])
      clear HE hp
      go_wp2_with fail
      refine (blanks_any rb s j wo hr.out hj hs).mono ?_
      rintro e w3 ⟨rfl, k3, g1, g2, g3, g4⟩
      have hjk : j ≤ k3 := le_of_drop g1 hj (by rw [g2]; exact blanksL_le _)
      have I3 : Hid (I st w3) := HI.out _ _ _ hi.out g4
      have R3 : Hid (RdSt w3 rb s k3) := g3
      have L3 : Hid (s.toList.drop k3 = L) := Lib.hid (by rw [g2, HL.out])
      clear g2 g3 g4
      go_wp2_with fail
      refine (HC1.out w3 k3 I3.out R3.out (by omega) g1 (by omega) L3.out).mono ?_
      rintro e w4 ⟨rfl, g2, g3⟩
      go_wp2_with fail
      rw [HX.out]
      exact ⟨rfl, rfl, g2, g3⟩
    | ok p =>
      obtain ⟨st2, r⟩ := p
      rw [hp] at HC1
      have hrl : r.length < L.length := (HP.out _ _ _ _ hp).2
      have hn2 : N st2 ≤ N st + 1 := HN.out _ _ _ _ hp
      have HX : Hid (V = if (blanksL r).head? = some c then .ok (fin st2, (blanksL r).tail) else if (blanksL r).head? = some 44 then F st2 (blanksL r).tail else .error 3) := Lib.hid (by rw [HE.out, hp])
      clear HE hp
      have hbr := blanksL_le r
      by_cases hq : (blanksL r).head? = some c
      · have HY : Hid (V = .ok (fin st2, (blanksL r).tail)) := Lib.hid (by rw [HX.out, if_pos hq])
        have HQ := Lib.hid hq
        clear HX hq
        go_wp2_with fail
        refine (blanks_any rb s j wo hr.out hj hs).mono ?_
        rintro e w3 ⟨rfl, k3, g1, g2, g3, g4⟩
        have hjk : j ≤ k3 := le_of_drop g1 hj (by rw [g2]; exact blanksL_le _)
        have I3 : Hid (I st w3) := HI.out _ _ _ hi.out g4
        have R3 : Hid (RdSt w3 rb s k3) := g3
        have L3 : Hid (s.toList.drop k3 = L) := Lib.hid (by rw [g2, HL.out])
        clear g2 g3 g4
        go_wp2_with fail
        refine (HC1.out w3 k3 I3.out R3.out (by omega) g1 (by omega) L3.out).mono ?_
        rintro e w4 ⟨rfl, g2, k4, g3, g4, g5⟩
        have I4 : Hid (I st2 w4) := g2
        have R4 : Hid (RdSt w4 rb s k4) := g5
        have L4 : Hid (s.toList.drop k4 = r) := g4
        have h4 : k4 ≤ s.size := g3
        clear g2 g3 g4 g5
        go_wp2_with fail
        refine (blanks_any rb s k4 w4 R4.out h4 hs).mono ?_
        rintro e w5 ⟨rfl, k5, h5, g2, g3, g4⟩
        have I5 : Hid (I st2 w5) := HI.out _ _ _ I4.out g4
        have R5 : Hid (RdSt w5 rb s k5) := g3
        have L5 : Hid (s.toList.drop k5 = blanksL r) := Lib.hid (by rw [g2, L4.out])
        clear g2 g3 g4
        go_wp2_with fail
        refine (may_yes rb s t k5 w5 R5.out h5 hs (by rw [L5.out, HT1.out]; exact take_one hts HQ.out)).mono ?_
        rintro e w6 ⟨rfl, k6, g1, g2, g3, g4⟩
        go_wp2_with fail
        rw [HY.out]
        go_end0
        refine ⟨rfl, ⟨st2, rfl, HI.out _ _ _ I5.out g4⟩, k6, g1, ?_, g3⟩
        rw [g2, L5.out, hts, List.drop_one]
      have HQ := Lib.hid hq
      by_cases hm : (blanksL r).head? = some 44
      · have HY : Hid (V = F st2 (blanksL r).tail) := Lib.hid (by rw [HX.out, if_neg hq, if_pos hm])
        have HM := Lib.hid hm
        clear HX hq hm
        go_wp2_with fail
        refine (blanks_any rb s j wo hr.out hj hs).mono ?_
        rintro e w3 ⟨rfl, k3, g1, g2, g3, g4⟩
        have hjk : j ≤ k3 := le_of_drop g1 hj (by rw [g2]; exact blanksL_le _)
        have I3 : Hid (I st w3) := HI.out _ _ _ hi.out g4
        have R3 : Hid (RdSt w3 rb s k3) := g3
        have L3 : Hid (s.toList.drop k3 = L) := Lib.hid (by rw [g2, HL.out])
        clear g2 g3 g4
        go_wp2_with fail
        refine (HC1.out w3 k3 I3.out R3.out (by omega) g1 (by omega) L3.out).mono ?_
        rintro e w4 ⟨rfl, g2, k4, g3, g4, g5⟩
        have I4 : Hid (I st2 w4) := g2
        have R4 : Hid (RdSt w4 rb s k4) := g5
        have L4 : Hid (s.toList.drop k4 = r) := g4
        have h4 : k4 ≤ s.size := g3
        clear g2 g3 g4 g5
        go_wp2_with fail
        refine (blanks_any rb s k4 w4 R4.out h4 hs).mono ?_
        rintro e w5 ⟨rfl, k5, h5, g2, g3, g4⟩
        have I5 : Hid (I st2 w5) := HI.out _ _ _ I4.out g4
        have R5 : Hid (RdSt w5 rb s k5) := g3
        have L5 : Hid (s.toList.drop k5 = blanksL r) := Lib.hid (by rw [g2, L4.out])
        clear g2 g3 g4
        go_wp2_with fail
        refine (may_no rb s t k5 w5 R5.out h5 hs (by omega) (by rw [L5.out, HT1.out]; exact take_not hts HQ.out)).mono ?_
        rintro e w6 ⟨rfl, g3, g4⟩
        have I6 : Hid (I st2 w6) := HI.out _ _ _ I5.out g4
        have R6 : Hid (RdSt w6 rb s k5) := g3
        clear g3 g4
        go_wp2_with fail
        refine (must_yes rb s ⟨#[44]⟩ k5 w6 R6.out h5 hs (by rw [L5.out, one_lit]; exact take_one rfl HM.out)).mono ?_
        rintro e w7 ⟨rfl, k7, g1, g2, g3, g4⟩
        have I7 : Hid (I st2 w7) := HI.out _ _ _ I6.out g4
        have R7 : Hid (RdSt w7 rb s k7) := g3
        have L7 : s.toList.drop k7 = (blanksL r).tail := by rw [g2, L5.out]; exact List.drop_one
        have V7 : Hid (V = F st2 (s.toList.drop k7)) := Lib.hid (by rw [HY.out, L7])
        have hlt : s.size - k7 < s.size - j := by
          have e1 := congrArg List.length L7
          have e2 := tail_le (blanksL r)
          simp only [List.length_drop, tl_len'] at e1
          omega
        clear g2 g3 g4 L7
        go_wp2_with fail
        go_roundg (gk - 1)
        case measure => omega
        case rel => exact ⟨st2, k7, by omega, g1, by omega, by omega, V7, R7, I7⟩
      have HY : Hid (V = .error 3) := Lib.hid (by rw [HX.out, if_neg hq, if_neg hm])
      have HM := Lib.hid hm
      clear HX hq hm
      go_wp2_with fail
      refine (blanks_any rb s j wo hr.out hj hs).mono ?_
      rintro e w3 ⟨rfl, k3, g1, g2, g3, g4⟩
      have hjk : j ≤ k3 := le_of_drop g1 hj (by rw [g2]; exact blanksL_le _)
      have I3 : Hid (I st w3) := HI.out _ _ _ hi.out g4
      have R3 : Hid (RdSt w3 rb s k3) := g3
      have L3 : Hid (s.toList.drop k3 = L) := Lib.hid (by rw [g2, HL.out])
      clear g2 g3 g4
      go_wp2_with fail
      refine (HC1.out w3 k3 I3.out R3.out (by omega) g1 (by omega) L3.out).mono ?_
      rintro e w4 ⟨rfl, g2, k4, g3, g4, g5⟩
      have I4 : Hid (I st2 w4) := g2
      have R4 : Hid (RdSt w4 rb s k4) := g5
      have L4 : Hid (s.toList.drop k4 = r) := g4
      have h4 : k4 ≤ s.size := g3
      clear g2 g3 g4 g5
      go_wp2_with fail
      refine (blanks_any rb s k4 w4 R4.out h4 hs).mono ?_
      rintro e w5 ⟨rfl, k5, h5, g2, g3, g4⟩
      have I5 : Hid (I st2 w5) := HI.out _ _ _ I4.out g4
      have R5 : Hid (RdSt w5 rb s k5) := g3
      have L5 : Hid (s.toList.drop k5 = blanksL r) := Lib.hid (by rw [g2, L4.out])
      clear g2 g3 g4
      go_wp2_with fail
      refine (may_no rb s t k5 w5 R5.out h5 hs (by omega) (by rw [L5.out, HT1.out]; exact take_not hts HQ.out)).mono ?_
      rintro e w6 ⟨rfl, g3, g4⟩
      have I6 : Hid (I st2 w6) := HI.out _ _ _ I5.out g4
      have R6 : Hid (RdSt w6 rb s k5) := g3
      clear g3 g4
      go_wp2_with fail
      refine (must_no rb s ⟨#[44]⟩ k5 w6 R6.out h5 hs (by decide) (by rw [L5.out, one_lit]; exact take_not rfl HM.out)).mono ?_
      rintro e w7 ⟨rfl, g2, g3⟩
      go_wp2_with fail
      rw [HY.out]
      exact ⟨rfl, rfl, g2, (HI0.out _ _ I6.out).trans g3⟩
end Go.Proofs.Ytnhoecmcbikcnaa
/-! The walk of json's value: objects. -/
namespace Go.Proofs.Ytnhoecmcbikcnaa
open Go.RowKit Go.PlainAid
set_option linter.unusedVariables false
set_option linter.unusedSimpArgs false
/-- one key and kid more -/
def objP (deep : Nat) (st : List ByteArray × List Nd) (l : List UInt8) : Except Int ((List ByteArray × List Nd) × List UInt8) :=
  match kidL deep l st.1 with
  | .error e => .error e
  | .ok (t, n, r) => .ok ((st.1 ++ [⟨t.toArray⟩], st.2 ++ [n]), r)
def objN (st : List ByteArray × List Nd) : Nat := max st.1.length st.2.length
theorem obj_many (deep : Nat) : ManyEq (objP deep) (fun st : List ByteArray × List Nd => .mk 7 0 ⟨#[]⟩ st.1 st.2) 125 (fun (st : List ByteArray × List Nd) l => objL deep l st.1 st.2) := by
  intro st l
  show objL deep l st.1 st.2 = _
  rw [objL_eq]
  unfold objP kidL
  cases textL (blanksL l) with
  | none => rfl
  | some p =>
    obtain ⟨k, r⟩ := p
    simp only
    split
    · rfl
    split
    · cases valL (deep + 1) (blanksL (blanksL r).tail) with
      | error e => rfl
      | ok p => rfl
    · rfl
theorem kid_rest {deep : Nat} {l : List UInt8} {ks : List ByteArray} {t : List UInt8} {n : Nd} {r : List UInt8} (h : kidL deep l ks = .ok (t, n, r)) : Rest r l := by
  unfold kidL at h
  cases ht : textL l with
  | none => rw [ht] at h; cases h
  | some p =>
    obtain ⟨k, r0⟩ := p
    rw [ht] at h
    simp only at h
    split at h
    · cases h
    split at h
    · rename_i h58
      cases hv : valL (deep + 1) (blanksL (blanksL r0).tail) with
      | error e => rw [hv] at h; cases h
      | ok p =>
        obtain ⟨x, r1⟩ := p
        rw [hv] at h
        simp only [Except.ok.injEq, Prod.mk.injEq] at h
        obtain ⟨rfl, rfl, rfl⟩ := h
        have h1 : Rest r0 l := textL_le ht
        have h2 := (valL_le hv).blanks
        exact h2.trans (((List.tail_suffix _).trans (blanksL_suf r0)).trans h1.1)
    · cases h
theorem obj_rest (deep : Nat) (st : List ByteArray × List Nd) (l : List UInt8) (ms : List ByteArray × List Nd) (r : List UInt8) (h : objP deep st l = .ok (ms, r)) : Rest r l ∧ objN ms ≤ objN st + 1 := by
  unfold objP at h
  cases hv : kidL deep l st.1 with
  | error e => rw [hv] at h; cases h
  | ok p =>
    obtain ⟨t, n, r'⟩ := p
    rw [hv] at h
    simp only [Except.ok.injEq, Prod.mk.injEq] at h
    obtain ⟨rfl, rfl⟩ := h
    refine ⟨kid_rest hv, ?_⟩
    unfold objN
    simp only [List.length_append, List.length_cons, List.length_nil]
    omega
theorem key_le : ∀ (ms : List Nd) (kk : List ByteArray), kk.length = ms.length → ∀ k ∈ kk, k.size ≤ (putL true kk ms true).length
  | [], [], _, k, hk => by simp at hk
  | [], _ :: _, h, _, _ => by simp at h
  | n :: ms, [], h, _, _ => by simp at h
  | n :: ms, a :: kk, h, k, hk => by
    rw [putL_len, if_pos rfl, List.headD_cons, List.tail_cons]
    rcases List.mem_cons.1 hk with rfl | hk
    · have := quote_ge k.toList
      rw [tl_len'] at this
      omega
    · have := key_le ms kk (by simpa using h) k hk
      have hne : ms ≠ [] := by
        rintro rfl
        have : kk = [] := List.eq_nil_of_length_eq_zero (by simpa using h)
        subst this; simp at hk
      rw [if_neg hne]
      omega
theorem obj_keys {deep : Nat} {l : List UInt8} {ks : List ByteArray} {ns : List Nd} {r : List UInt8} (hd : deep < 24) (h : objL deep l [] [] = .ok (.mk 7 0 ⟨#[]⟩ ks ns, r)) : ∀ k ∈ ks, k.size ≤ l.length := by
  obtain ⟨kk, ms, _, h2, h3, _, _, _, h4⟩ := (val_ok _).2.2 deep l [] [] _ r (Nat.le_refl _) hd h
  simp only [List.nil_append, Nd.mk.injEq, true_and] at h3
  obtain ⟨rfl, rfl⟩ := h3
  intro k hk
  have := key_le ns ks h2 k hk
  omega
theorem obj_node {w0 w1 w7 WF : World} {nb rB dB rb h : Nat} {deep : Int} {ks : List ByteArray} {ns : List Nd} {K : Option Addr} {kc : Nat} {A : Option Addr} {c : Nat} {ys : List Value} (hI : OInv w1 nb rB dB rb h deep ks ns w7 K kc A c ys) (hks : ∀ k ∈ ks, k.size ≤ 1000000000) (hh : w0.heap.size + 3 ≤ h) (hot : ∀ g, g ≠ w0.heap.size + 1 + 1 → WF.heap[g]? = w7.heap[g]?) (hsz : WF.heap.size = w7.heap.size) :
    NdIn WF (Since w0 WF) (.mk 7 0 ⟨#[]⟩ ks ns) [.int .i64 7, .int .i64 0, .string ⟨#[]⟩, .slice K ks.length kc, .slice A ns.length c] := by
  unfold NdIn
  refine ⟨K, kc, A, c, ys, rfl, ?_, ?_, ?_, by unfold I64; omega, by unfold I64; omega, by decide, fun k hk => by have := hks k hk; simp only [maxLen]; omega, own_len hI.keys, own_len hI.own⟩
  · refine ((own_RS hI.keys).keep (fun p hp => World.cell?_of_block (hot p.block (by have := hp.1; omega)))).mono (fun b hb => ⟨by have := hb.1; omega, by rw [hsz]; exact hb.2⟩)
  · refine ((own_RS hI.own).keep (fun p hp => World.cell?_of_block (hot p.block (by have := hp.1; omega)))).mono (fun b hb => ⟨by have := hb.1; omega, by rw [hsz]; exact hb.2⟩)
  · exact NdsIn.keep (fun p hp => World.cell?_of_block (hot p.block (by have := hp.1.1; omega))) (fun b hb => ⟨by have := hb.1.1; omega, by rw [hsz]; exact hb.1.2.1⟩) _ _ hI.kids
theorem obj_start {w w2 : World} {rb : Nat} {deep : Int} (h : VInv w rb deep w2) : OIs w2 w2.heap.size w.heap.size (w.heap.size + 1) rb (w2.heap.size + 1) deep [] [] (w2.alloc (.cells #[.int .i64 7, .int .i64 0, .string ⟨#[]⟩, .slice none 0 0, .slice none 0 0] 27)) :=
  ⟨none, 0, none, 0, [], Blk.new _ _ _, World.ownsRow_nil _ _ _ _, World.ownsRow_nil _ _ _ _, NdsIn.nil, h.rbox.alloc _, h.dbox.alloc _, grown_alloc (grown_refl _ _) _, by simp⟩
set_option maxRecDepth 100000 in
set_option maxHeartbeats 4000000 in
theorem value_obj (rb : Nat) (s : ByteArray) (deep k : Nat) (w : World) (h : RdSt w rb s k) (hk : k ≤ s.size) (hs : s.size ≤ 1000000) (hlt : k < s.size) (hdp : deep < 24) (q : bt s k = 123) (u : UInt8) (rest : List UInt8) (hd : s.toList.drop k = u :: rest) (hu : bt s k = u.toNat) (HV : Hid (∀ k' w', k < k' → k' ≤ s.size → RdSt w' rb s k' → ValC rb s (deep + 1) k' w')) (r : Except Int (Nd × List UInt8)) (hy : (s.toList.drop k).take 1 = [123])
    (hr : r = if (blanksL ((s.toList.drop k).drop 1)).head? = some 125 then .ok (.mk 7 0 ⟨#[]⟩ [] [], (blanksL ((s.toList.drop k).drop 1)).tail) else objL deep (blanksL ((s.toList.drop k).drop 1)) [] []) :
    Calls Try.prog 25 #[.pointer (some ⟨rb, 0, none⟩), .int .i64 deep] w (ValEnd rb s r w) := by
  have HR := Lib.hid hr
  have HY := Lib.hid hy
  have une : ∀ c : UInt8, ¬ bt s k = c.toNat → u ≠ c := fun c h e => h (by rw [hu, e])
  have q91 : ¬ bt s k = 91 := by omega
  have HU91 := Lib.hid (une 91 q91)
  have HD := Lib.hid hd
  clear hr hy hd hu une
  have n91 : (bt s k == 91) = false := by rw [beq_eq_false_iff_ne]; exact q91
  have hdI : ¬ (24 : Int) ≤ (deep : Int) := by omega
  have ne1 : ((k : Int) == (s.size : Int)) = false := by rw [beq_eq_false_iff_ne]; omega
  have i1 : (k : Int) < (s.size : Int) := by omega
  have b0 := bt_nonneg s k
  have b1 := bt_le s k
  have hb := get_bt s
  have V0 := Lib.hid (VInv.start w rb deep h.lt)
  have R0 : Hid (RdSt (((w.alloc (.cells #[.pointer (some ⟨rb, 0, none⟩)] 53)).alloc (.cells #[.int .i64 deep] 3)).alloc (.cells #[.int .i64 0, .int .i64 0, .string ⟨#[]⟩, .slice none 0 0, .slice none 0 0] 27)) rb s k) := ((h.alloc _).alloc _).alloc _
  have hrb : rb < w.heap.size := h.lt
  have i0 : (0 : Int) ≤ (k : Int) := by omega
  clear h
  go_enter Try.func25, Try.ntmps25
  go_wp2_with fail
  generalize (((w.alloc (.cells #[.pointer (some ⟨rb, 0, none⟩)] 53)).alloc (.cells #[.int .i64 deep] 3)).alloc (.cells #[.int .i64 0, .int .i64 0, .string ⟨#[]⟩, .slice none 0 0, .slice none 0 0] 27)) = W at *
  have r0 : W.cell? ⟨w.heap.size, 0, none⟩ = some (.pointer (some ⟨rb, 0, none⟩)) := V0.out.rbox.cell 0
  have d0 : W.cell? ⟨w.heap.size + 1, 0, none⟩ = some (.int .i64 deep) := V0.out.dbox.cell 0
  obtain ⟨c0, c1, c2⟩ := R0.out.cells3
  go_quiet (fail)
  go_wp2_with fail
  go_quiet (fail)
  go_wp2_with fail
  clear r0 d0 c0 c1 c2
  have V1 : Hid (∀ n, VInv w rb deep (W.drewN n)) := fun n => V0.out.drewN n
  have R1 : Hid (∀ n, RdSt (W.drewN n) rb s k) := fun n => R0.out
  refine (may_no rb s ⟨#[91]⟩ k _ (R1.out _) hk hs (by decide) (by rw [lit_toList [91]]; exact fst_ne HD.out HU91.out)).mono ?_; rintro e w2 ⟨rfl, h9, g9⟩
  have V2 : Hid (VInv w rb deep w2) := (V1.out _).next g9
  have R2 := Lib.hid h9
  clear h9 g9
  have r2 : w2.cell? ⟨w.heap.size, 0, none⟩ = some (.pointer (some ⟨rb, 0, none⟩)) := V2.out.rbox.cell 0
  have d2 : w2.cell? ⟨w.heap.size + 1, 0, none⟩ = some (.int .i64 deep) := V2.out.dbox.cell 0
  go_wp2_with fail
  refine (may_yes rb s ⟨#[123]⟩ k _ R2.out hk hs (by rw [lit_toList [123]]; exact HY.out)).mono ?_; rintro e w3 ⟨rfl, k3, hk3, e3, h9, g9⟩
  have V3 : Hid (VInv w rb deep w3) := V2.out.next g9
  have R3 := Lib.hid h9
  have E3 := Lib.hid e3
  clear h9 g9 e3
  clear r2 d2
  have r3 : w3.cell? ⟨w.heap.size, 0, none⟩ = some (.pointer (some ⟨rb, 0, none⟩)) := V3.out.rbox.cell 0
  have d3 : w3.cell? ⟨w.heap.size + 1, 0, none⟩ = some (.int .i64 deep) := V3.out.dbox.cell 0
  have hmf : ∀ (fn : Fn) (first cap : Array Value) (w : World), (Instr.makeFunc fn first cap).run Try.prog w = .ok (.func fn first cap) w := fun _ _ _ _ => rfl
  have hk2k : k < k3 := by
    have e := congrArg List.length E3.out
    simp only [List.length_drop, tl_len'] at e
    have e1 : (⟨#[123]⟩ : ByteArray).size = 1 := rfl
    omega
  have z2 := V3.out.size
  have HKS0 : Hid (∀ ks ns l, r = .ok (.mk 7 0 ⟨#[]⟩ ks ns, l) → ∀ q ∈ ks, q.size ≤ 1000000000) := Lib.hid (by
    intro ks ns l e q hq
    rw [HR.out] at e
    split at e
    · simp only [Except.ok.injEq, Prod.mk.injEq, Nd.mk.injEq, true_and] at e
      rw [← e.1.1] at hq
      cases hq
    · have h1 := obj_keys hdp e q hq
      have h2 := blanksL_le ((s.toList.drop k).drop 1)
      simp only [List.length_drop, tl_len'] at h2
      omega)
  have HM : Hid (Calls Try.prog 40 #[.pointer (some ⟨rb, 0, none⟩), .string ⟨#[125]⟩, .func (.func 42) #[] #[.pointer (some ⟨w.heap.size, 0, none⟩), .pointer (some ⟨w3.heap.size, 0, none⟩), .pointer (some ⟨w.heap.size + 1, 0, none⟩)]] (w3.alloc (.cells #[.int .i64 7, .int .i64 0, .string ⟨#[]⟩, .slice none 0 0, .slice none 0 0] 27)) (ManyEnd rb s w3 (fun st : List ByteArray × List Nd => OIs w3 w3.heap.size w.heap.size (w.heap.size + 1) rb (w3.heap.size + 1) deep st.1 st.2) (fun st : List ByteArray × List Nd => .mk 7 0 ⟨#[]⟩ st.1 st.2) r)) := by
    have := many2_any (objP deep) (fun st : List ByteArray × List Nd => .mk 7 0 ⟨#[]⟩ st.1 st.2) 125 (fun (st : List ByteArray × List Nd) l => objL deep l st.1 st.2) (fun st : List ByteArray × List Nd => OIs w3 w3.heap.size w.heap.size (w.heap.size + 1) rb (w3.heap.size + 1) deep st.1 st.2) objN rb s k3 w3 ⟨w.heap.size, 0, none⟩ ⟨w3.heap.size, 0, none⟩ ⟨w.heap.size + 1, 0, none⟩ ⟨#[125]⟩ (lit_toList [125])
      (obj_many deep) (fun ns l ms r h => (obj_rest deep ns l ms r h).1) (fun ns l ms r h => (obj_rest deep ns l ms r h).2)
      (fun st w9 w9' ⟨K, kc, A, c, ys, hI⟩ g => ⟨K, kc, A, c, ys, hI.next g (by omega) (by omega) (by omega) (by omega)⟩) (fun st w9 ⟨K, kc, A, c, ys, hI⟩ => hI.grow)
      (fun st k9 w9 ⟨K, kc, A, c, ys, hI⟩ hr9 hk9 hk9s hn9 => by
        have hn9' : max st.1.length st.2.length ≤ k9 := hn9
        refine (value2_any w3 w3.heap.size w.heap.size (w.heap.size + 1) rb (w3.heap.size + 1) deep st.1 st.2 s k9 w9 K kc A c ys hI hr9 hk9s hs (by omega) (by omega) (by omega) (by omega) (by omega) (by omega) (by omega) (by omega) (by omega) (by omega) (by omega) (by omega) (by omega) (Lib.hid fun k' w' hkk hk's hw' => HV.out k' w' (by omega) hk's hw')).mono ?_
        intro e w' hp
        unfold PartE objP
        unfold PartO at hp
        cases hv : kidL deep (s.toList.drop k9) st.1 with
        | error c => rw [hv] at hp; exact hp
        | ok p => obtain ⟨t, n, l⟩ := p; rw [hv] at hp; exact hp)
      ([], []) k3 _ (obj_start V3.out) (R3.out.alloc _) (Nat.le_refl _) (Nat.zero_le _) hk3 hs
    rw [E3.out] at this
    show Calls _ _ _ _ _
    rw [HR.out]
    exact this
  have ra : (w3.alloc (.cells #[.int .i64 7, .int .i64 0, .string ⟨#[]⟩, .slice none 0 0, .slice none 0 0] 27)).cell? ⟨w.heap.size, 0, none⟩ = some (.pointer (some ⟨rb, 0, none⟩)) := (V3.out.rbox.alloc _).cell 0
  clear HR
  cases r with
  | error c9 =>
    go_wp2_with fail
    refine HM.out.mono ?_; rintro e w9 ⟨rfl, h9, g9⟩
    have H9 := Lib.hid h9
    have G9 := Lib.hid g9
    clear h9 g9
    go_wp2_with fail
    exact ⟨rfl, ValEnd.bad rfl ⟨rfl, H9.out, G9.out⟩ V3.out.grow⟩
  | ok p =>
    obtain ⟨n, l⟩ := p
    go_wp2_with fail
    refine HM.out.mono ?_; rintro e w7 ⟨rfl, ⟨⟨ks, ns⟩, hn, K, kc, A, c, ys, hI⟩, k7, hk7, e7, h9⟩
    subst hn
    have HKS := Lib.hid (HKS0.out ks ns l rfl)
    have HI := Lib.hid hI
    have V7 : Hid (VInv w rb deep w7) := V3.out.next hI.grow
    have R7 := Lib.hid h9
    have E7 := Lib.hid e7
    obtain ⟨a0, a1, a2, a3, a4⟩ := hI.node.cells5
    clear h9 e7 hI r3 d3 ra
    have f0 := V7.out.frozen 0
    have f1 := V7.out.frozen 1
    have f2 := V7.out.frozen 2
    have f3 := V7.out.frozen 3
    have f4 := V7.out.frozen 4
    obtain ⟨z0, z1, z2, z3, z4⟩ := V7.out.res.cells5
    obtain ⟨hfin, hgr, hsz, hot⟩ := V7.out.laid (.int .i64 7) (.int .i64 0) (.string ⟨#[]⟩) (.slice K ks.length kc) (.slice A ns.length c)
    have HFIN := Lib.hid hfin
    have HGR := Lib.hid hgr
    have HSZ := Lib.hid hsz
    have HOT := Lib.hid hot
    clear hfin hgr hsz hot
    go_wp2_with fail
    clear a0 a1 a2 a3 a4
    clear f0 f1 f2 f3 f4 z0 z1 z2 z3 z4
    generalize (((((w7.setCell ⟨w.heap.size + 1 + 1, 0, none⟩ (.int .i64 7)).setCell ⟨w.heap.size + 1 + 1, 1, none⟩ (.int .i64 0)).setCell ⟨w.heap.size + 1 + 1, 2, none⟩ (.string ⟨#[]⟩)).setCell ⟨w.heap.size + 1 + 1, 3, none⟩ (.slice K ks.length kc)).setCell ⟨w.heap.size + 1 + 1, 4, none⟩ (.slice A ns.length c)) = WF at *
    obtain ⟨q0, q1, q2, q3, q4⟩ := HFIN.out.cells5
    refine bodyPost_ret (v := .agg #[.int .i64 7, .int .i64 0, .string ⟨#[]⟩, .slice K ks.length kc, .slice A ns.length c]) (by simp [results, Try.results25, go_sem, q0, q1, q2, q3, q4]) rfl ?_
    exact ValEnd.good _ _ _ _ _ _ _ _ _ rfl rfl (obj_node HI.out HKS.out (by have := V3.out.size; omega) HOT.out HSZ.out) ⟨k7, hk7, E7.out, (HOT.out rb (by omega)).trans R7.out, HGR.out⟩
end Go.Proofs.Ytnhoecmcbikcnaa
/-! The reference's reader: numbers, whole; what its list keeps while it is read. -/
namespace Go.Proofs.Ytnhoecmcbikcnaa
open Go.RowKit Go.PlainAid
set_option linter.unusedVariables false
set_option linter.unusedSimpArgs false
theorem rnumber_any (rb : Nat) (s : ByteArray) (k d : Nat) (w : World) (h : RSt w rb s k d 0) (hk : k ≤ s.size) (hs : s.size ≤ 1000000) :
    Calls Try.prog 50 #[.pointer (some ⟨rb, 0, none⟩)] w (RNum rb s d (numL (s.toList.drop k)) w) := by
  have hrb := h.lt
  have ha : RSt (w.alloc (.cells #[.int .i64 0, .int .i64 0, .string ⟨#[]⟩, .slice none 0 0, .slice none 0 0] 27)) rb s k d 0 := h.alloc _
  by_cases h45 : k < s.size ∧ bt s k = 45
  · obtain ⟨u, hu, hd⟩ := drop_cons s k h45.1
    have hu45 : u = 45 := UInt8.toNat_inj.1 (by have e : ((45 : UInt8).toNat) = 45 := rfl; have := h45.2; omega)
    have e : numL (s.toList.drop k) = numTail true (s.toList.drop (k + 1)) := by
      unfold numL
      rw [hd, hu45]; simp
    rw [e]
    have HM := Lib.hid (ris_yes rb s k d 45 _ ha h45.1 hs h45.2)
    by_cases hc : ((s.toList.drop (k + 1)).takeWhile digB).length ≤ 1
    · exact rnumber_a rb s (k + 1) d w hrb (by omega) hs (Lib.hid hc) HM
    · exact rnumber_b rb s (k + 1) d w hrb (by omega) hs (Lib.hid (by omega)) HM
  · have e : numL (s.toList.drop k) = numTail false (s.toList.drop k) := by
      unfold numL
      rw [if_neg]
      intro hh
      apply h45
      rcases Nat.lt_or_ge k s.size with hl | hl
      · obtain ⟨u, hu, hd⟩ := drop_cons s k hl
        rw [hd] at hh
        injection hh with hh
        exact ⟨hl, by rw [hu, hh]; rfl⟩
      · rw [drop_end s k hl] at hh; cases hh
    rw [e]
    have HM := Lib.hid (ris_no rb s k d 45 _ ha (fun hl => by rw [beq_eq_false_iff_ne]; exact fun e => h45 ⟨hl, e⟩))
    by_cases hc : ((s.toList.drop k).takeWhile digB).length ≤ 1
    · exact rnumber_c rb s k d w hrb hk hs (Lib.hid hc) HM
    · exact rnumber_d rb s k d w hrb hk hs (Lib.hid (by omega)) HM
/-- a value, or an error and any node -/
def RVal (rb : Nat) (s : ByteArray) (d : Nat) (r : Except Int (Nd × List UInt8)) (w : World) (e : Ending) (w' : World) : Prop :=
  match r with
  | .error c => RAny e ∧ RBad rb s d c w w'
  | .ok (n, l) => RNode n w w' e ∧ RTo rb s d l w w'
theorem RVal.no {rb : Nat} {s : ByteArray} {d : Nat} {c : Int} {r : Except Int (Nd × List UInt8)} {w : World} {e : Ending} {w' : World} (hr : r = .error c) (h1 : RAny e) (h2 : RBad rb s d c w w') : RVal rb s d r w e w' := by subst hr; exact ⟨h1, h2⟩
theorem RVal.yes {rb : Nat} {s : ByteArray} {d : Nat} {r : Except Int (Nd × List UInt8)} {n : Nd} {l : List UInt8} {w : World} {e : Ending} {w' : World} (hr : r = .ok (n, l)) (h1 : RNode n w w' e) (h2 : RTo rb s d l w w') : RVal rb s d r w e w' := by subst hr; exact ⟨h1, h2⟩
def VCall (rb : Nat) (s : ByteArray) (d k : Nat) (w : World) : Prop := Calls Try.prog 27 #[.pointer (some ⟨rb, 0, none⟩)] w (RVal rb s d (valL d (blanksL (s.toList.drop k))) w)
/-- a list's parse under way -/
structure LInv (w0 : World) (rb : Nat) (kd : Int) (ks : List ByteArray) (ns : List Nd) (w : World) (K : Option Addr) (kc : Nat) (A : Option Addr) (c : Nat) (ys : List Value) : Prop where
  node : Blk w (w0.heap.size + 1) 27 #[.int .i64 kd, .int .i64 0, .string ⟨#[]⟩, .slice K ks.length kc, .slice A ns.length c]
  keys : w.ownsRow (w0.heap.size + 2) 9 1 (.slice K ks.length kc) ks.length (ks.map Value.string)
  own : w.ownsRow (w0.heap.size + 2) 27 5 (.slice A ns.length c) ns.length ys
  kids : NdsIn w (fun b => SK (w0.heap.size + 2) w (.slice A ns.length c) b ∧ (Value.slice K ks.length kc).ownBlock ≠ some b) ns ys
  res : Blk w w0.heap.size 27 #[.int .i64 0, .int .i64 0, .string ⟨#[]⟩, .slice none 0 0, .slice none 0 0]
  grow : w0.grownBy w (some rb)
  size : w0.heap.size + 2 ≤ w.heap.size
/-- a list's parse that has met an error -/
def EInv (w0 : World) (rb : Nat) (kd : Int) (w : World) : Prop := (∃ (K : Option Addr) (a kc : Nat) (A : Option Addr) (b c : Nat), Blk w (w0.heap.size + 1) 27 #[.int .i64 kd, .int .i64 0, .string ⟨#[]⟩, .slice K a kc, .slice A b c]) ∧
  Blk w w0.heap.size 27 #[.int .i64 0, .int .i64 0, .string ⟨#[]⟩, .slice none 0 0, .slice none 0 0] ∧ w0.grownBy w (some rb)
theorem LInv.bad {w0 : World} {rb : Nat} {kd : Int} {ks : List ByteArray} {ns : List Nd} {w : World} {K : Option Addr} {kc : Nat} {A : Option Addr} {c : Nat} {ys : List Value} (h : LInv w0 rb kd ks ns w K kc A c ys) : EInv w0 rb kd w := ⟨⟨_, _, _, _, _, _, h.node⟩, h.res, h.grow⟩
theorem EInv.next {w0 : World} {rb : Nat} {kd : Int} {w w' : World} (h : EInv w0 rb kd w) (hg : w.grownBy w' (some rb)) (hrb : rb < w0.heap.size) : EInv w0 rb kd w' := by
  obtain ⟨⟨K, a, kc, A, b, c, h1⟩, h2, h3⟩ := h
  exact ⟨⟨K, a, kc, A, b, c, h1.grown hg (by intro e; injection e with e; omega)⟩, h2.grown hg (by intro e; injection e with e; omega), h3.trans hg⟩
theorem LInv.next {w0 : World} {rb : Nat} {kd : Int} {ks : List ByteArray} {ns : List Nd} {w w' : World} {K : Option Addr} {kc : Nat} {A : Option Addr} {c : Nat} {ys : List Value} (hI : LInv w0 rb kd ks ns w K kc A c ys) (hg : w.grownBy w' (some rb)) (hrb : rb < w0.heap.size) : LInv w0 rb kd ks ns w' K kc A c ys := by
  have ho : ∀ g, (Value.slice A ns.length c).ownBlock = some g → w0.heap.size + 2 ≤ g ∧ g < w.heap.size := fun g hg => own_lt hI.own hg
  have hk : ∀ g, (Value.slice K ks.length kc).ownBlock = some g → w0.heap.size + 2 ≤ g ∧ g < w.heap.size := fun g hg => own_lt hI.keys hg
  refine ⟨hI.node.grown hg (by intro e; injection e with e; omega), World.ownsRow.kept hI.keys hg (Or.inr (fun e => by have := (hk rb e).1; omega)), World.ownsRow.kept hI.own hg (Or.inr (fun e => by have := (ho rb e).1; omega)), ?_, hI.res.grown hg (by intro e; injection e with e; omega), hI.grow.trans hg, Nat.le_trans hI.size hg.size⟩
  exact NdsIn.keep (fun p hp => World.cell?_of_block (hg.block p.block hp.1.2.1 (fun e => by injection e with e; have := hp.1.1; omega))) (fun b hb => ⟨⟨hb.1.1, Nat.lt_of_lt_of_le hb.1.2.1 hg.size, hb.1.2.2⟩, hb.2⟩) _ _ hI.kids
/-- the node's cells written anew: what lay elsewhere is as it was -/
theorem set_far {w3 : World} {nb i : Nat} {v : Value} {b : Nat} (h : b ≠ nb) : (w3.setCell ⟨nb, i, none⟩ v).heap[b]? = w3.heap[b]? := Below.heap_setCell _ _ _ _ h
/-- one node more -/
theorem LInv.push {w0 : World} {rb : Nat} {kd : Int} {ks : List ByteArray} {ns : List Nd} {w2 w3 : World} {K : Option Addr} {kc : Nat} {A : Option Addr} {c : Nat} {ys : List Value} (hI : LInv w0 rb kd ks ns w2 K kc A c ys) (hrb : rb < w0.heap.size)
    {n : Nd} {cs : List Value} {W : Nat} (hW : ∀ g, (Value.slice A ns.length c).ownBlock = some g → g < W) (hWk : ∀ g, (Value.slice K ks.length kc).ownBlock = some g → g < W) (hWh : w0.heap.size + 2 ≤ W) (hN : NdIn w2 (fun b => W ≤ b ∧ b < w2.heap.size) n cs)
    {g c3 : Nat} (hown : w3.ownsRow (w0.heap.size + 2) 27 5 (.slice (some ⟨g, 0, none⟩) (ns.length + 1) c3) (ns.length + 1) (ys ++ cs)) (hgh : w0.heap.size + 2 ≤ g)
    (p2 : w2.grownBy w3 (Value.slice A ns.length c).ownBlock) (p3 : (Value.slice (some ⟨g, 0, none⟩) (ns.length + 1) c3).ownBlock = (Value.slice A ns.length c).ownBlock ∨ ∃ g1, (Value.slice (some ⟨g, 0, none⟩) (ns.length + 1) c3).ownBlock = some g1 ∧ w2.heap.size ≤ g1) :
    LInv w0 rb kd ks (ns ++ [n]) (w3.setCell ⟨w0.heap.size + 1, 4, none⟩ (.slice (some ⟨g, 0, none⟩) (ns.length + 1) c3)) K kc (some ⟨g, 0, none⟩) c3 (ys ++ cs) ∧ ∀ b, b < w0.heap.size + 2 → b ≠ w0.heap.size + 1 → (w3.setCell ⟨w0.heap.size + 1, 4, none⟩ (.slice (some ⟨g, 0, none⟩) (ns.length + 1) c3)).heap[b]? = w2.heap[b]? := by
  have p3 : some g = (Value.slice A ns.length c).ownBlock ∨ w2.heap.size ≤ g := by
    rcases p3 with e | ⟨g1, e, hge⟩
    · exact .inl e
    · simp only [Value.ownBlock] at e; injection e with e; subst e; exact .inr hge
  have ho : ∀ g, (Value.slice A ns.length c).ownBlock = some g → w0.heap.size + 2 ≤ g ∧ g < w2.heap.size := fun g hg => own_lt hI.own hg
  have hk : ∀ g, (Value.slice K ks.length kc).ownBlock = some g → w0.heap.size + 2 ≤ g ∧ g < w2.heap.size := fun g hg => own_lt hI.keys hg
  have s2 := hI.size
  have s3 := p2.size
  have hn3 : Blk w3 (w0.heap.size + 1) 27 #[.int .i64 kd, .int .i64 0, .string ⟨#[]⟩, .slice K ks.length kc, .slice A ns.length c] := hI.node.grown p2 (fun e => by have := (ho (w0.heap.size + 1) e.symm).1; omega)
  generalize hw4 : w3.setCell ⟨w0.heap.size + 1, 4, none⟩ (.slice (some ⟨g, 0, none⟩) (ns.length + 1) c3) = w4
  have hs : w4.heap.size = w3.heap.size := by rw [← hw4]; simp
  have h34 : ∀ b, b ≠ w0.heap.size + 1 → w4.heap[b]? = w3.heap[b]? := fun b hb => by rw [← hw4]; exact set_far hb
  have hb : ∀ b, b < w2.heap.size → b ≠ w0.heap.size + 1 → (Value.slice A ns.length c).ownBlock ≠ some b → w4.heap[b]? = w2.heap[b]? := fun b hb1 hb2' hb3 =>
    (h34 b hb2').trans (p2.block b (by omega) (fun e => hb3 e.symm))
  have hlow : ∀ b, b < w0.heap.size + 2 → b ≠ w0.heap.size + 1 → w4.heap[b]? = w2.heap[b]? := fun b b1 b2 => hb b (by omega) b2 (fun e => by have := (ho b e).1; omega)
  refine ⟨⟨?_, ?_, ?_, ?_, ?_, ?_, by omega⟩, hlow⟩
  · have := hn3.set_ 4 (.slice (some ⟨g, 0, none⟩) (ns.length + 1) c3)
    rw [hw4] at this
    simpa using this
  · exact own_moved hI.keys (fun b e => hb b (hk b e).2 (by have := (hk b e).1; omega) (own_apart hI.keys hI.own (by decide) e)) (by omega)
  · have := ownsRow_setCell_below hown (a := ⟨w0.heap.size + 1, 4, none⟩) (show w0.heap.size + 1 < w0.heap.size + 2 by omega) (.slice (some ⟨g, 0, none⟩) (ns.length + 1) c3)
    rw [hw4] at this
    simpa using this
  · have k1 : NdsIn w2 (fun b => SK (w0.heap.size + 2) w2 (.slice A ns.length c) b ∧ (Value.slice K ks.length kc).ownBlock ≠ some b) (ns ++ [n]) (ys ++ cs) := NdsIn.app _ _ _ _ hI.kids (NdIn.keep (fun _ _ => rfl) (fun b hb1 => ⟨⟨by omega, hb1.2, fun e => by have := hW b e; omega⟩, fun e => by have := hWk b e; omega⟩) _ _ hN)
    refine NdsIn.keep (fun p hp => World.cell?_of_block (hb p.block hp.1.2.1 (by have := hp.1.1; omega) hp.1.2.2)) (fun b hp => ⟨⟨hp.1.1, by have := hp.1.2.1; omega, ?_⟩, hp.2⟩) _ _ k1
    intro e
    have e2 : g = b := by simpa [Value.ownBlock] using e
    subst e2
    rcases p3 with e | e
    · exact hp.1.2.2 e.symm
    · have := hp.1.2.1; omega
  · exact (hlow w0.heap.size (by omega) (by omega)).trans hI.res
  · refine ⟨?_, ?_, ?_, ?_, ?_⟩
    · rw [← hw4]; exact p2.os.trans hI.grow.os
    · rw [← hw4]; exact p2.tape.trans hI.grow.tape
    · rw [← hw4]; exact p2.output.trans hI.grow.output
    · have := hI.grow.size; omega
    · intro b hb1 hb2
      have := hI.grow.size
      exact (hb b (by omega) (by omega) (fun e => by have := (ho b e).1; omega)).trans (hI.grow.block b hb1 hb2)
/-- one node more, behind an error -/
theorem EInv.push {w0 : World} {rb : Nat} {kd : Int} {ks : List ByteArray} {ns : List Nd} {w2 w3 : World} {K : Option Addr} {kc : Nat} {A : Option Addr} {c : Nat} {ys : List Value} (hI : LInv w0 rb kd ks ns w2 K kc A c ys) (hrb : rb < w0.heap.size)
    {g c3 : Nat} (p2 : w2.grownBy w3 (Value.slice A ns.length c).ownBlock) :
    EInv w0 rb kd (w3.setCell ⟨w0.heap.size + 1, 4, none⟩ (.slice (some ⟨g, 0, none⟩) (ns.length + 1) c3)) ∧ ∀ b, b < w0.heap.size + 2 → b ≠ w0.heap.size + 1 → (w3.setCell ⟨w0.heap.size + 1, 4, none⟩ (.slice (some ⟨g, 0, none⟩) (ns.length + 1) c3)).heap[b]? = w2.heap[b]? := by
  have ho : ∀ g, (Value.slice A ns.length c).ownBlock = some g → w0.heap.size + 2 ≤ g ∧ g < w2.heap.size := fun g hg => own_lt hI.own hg
  have s2 := hI.size
  have s3 := p2.size
  have hn3 : Blk w3 (w0.heap.size + 1) 27 #[.int .i64 kd, .int .i64 0, .string ⟨#[]⟩, .slice K ks.length kc, .slice A ns.length c] := hI.node.grown p2 (fun e => by have := (ho (w0.heap.size + 1) e.symm).1; omega)
  have hr3 := hI.res.grown p2 (fun e => by have := (ho w0.heap.size e.symm).1; omega)
  refine ⟨⟨⟨K, ks.length, kc, some ⟨g, 0, none⟩, ns.length + 1, c3, hn3.set_ 4 _⟩, (set_far (by omega)).trans hr3, ?_⟩, fun b b1 b2 => (set_far b2).trans (p2.block b (by omega) (fun e => by have := (ho b e.symm).1; omega))⟩
  refine ⟨p2.os.trans hI.grow.os, p2.tape.trans hI.grow.tape, p2.output.trans hI.grow.output, by have := hI.grow.size; simp; omega, fun b hb1 hb2 => ?_⟩
  have := hI.grow.size
  exact (set_far (by omega)).trans ((p2.block b (by omega) (fun e => by have := (ho b e.symm).1; omega)).trans (hI.grow.block b hb1 hb2))
/-- a node appended behind an error: the node's parts lie anywhere -/
theorem EInv.push2 {w0 : World} {rb : Nat} {kd : Int} {w2 w3 : World} {K : Option Addr} {a kc : Nat} {A : Option Addr} {b c : Nat} {v : Value} (hn : Blk w2 (w0.heap.size + 1) 27 #[.int .i64 kd, .int .i64 0, .string ⟨#[]⟩, .slice K a kc, .slice A b c]) (hr : Blk w2 w0.heap.size 27 #[.int .i64 0, .int .i64 0, .string ⟨#[]⟩, .slice none 0 0, .slice none 0 0]) (hg : w0.grownBy w2 (some rb))
    (ho : ∀ g, v.ownBlock = some g → w0.heap.size + 2 ≤ g) (p2 : w2.grownBy w3 v.ownBlock) (A' : Option Addr) (b' c' : Nat) :
    EInv w0 rb kd (w3.setCell ⟨w0.heap.size + 1, 4, none⟩ (.slice A' b' c')) ∧ ∀ b, b < w0.heap.size + 2 → b ≠ w0.heap.size + 1 → b < w2.heap.size → (w3.setCell ⟨w0.heap.size + 1, 4, none⟩ (.slice A' b' c')).heap[b]? = w2.heap[b]? := by
  have s3 := p2.size
  have sg := hg.size
  refine ⟨⟨⟨K, a, kc, A', b', c', (hn.grown p2 (fun e => by have := ho _ e.symm; omega)).set_ 4 _⟩, (set_far (by omega)).trans (hr.grown p2 (fun e => by have := ho _ e.symm; omega)), ?_⟩, fun b b1 b2 b3 => (set_far b2).trans (p2.block b b3 (fun e => by have := ho b e.symm; omega))⟩
  refine ⟨p2.os.trans hg.os, p2.tape.trans hg.tape, p2.output.trans hg.output, by simp; omega, fun b hb1 hb2 => ?_⟩
  exact (set_far (by omega)).trans ((p2.block b (by omega) (fun e => by have := ho b e.symm; omega)).trans (hg.block b hb1 hb2))
/-- one key more -/
theorem LInv.key {w0 : World} {rb : Nat} {kd : Int} {ks : List ByteArray} {ns : List Nd} {w2 w3 : World} {K : Option Addr} {kc : Nat} {A : Option Addr} {c : Nat} {ys : List Value} (hI : LInv w0 rb kd ks ns w2 K kc A c ys) (hrb : rb < w0.heap.size)
    {t : ByteArray} {g c3 : Nat} (hown : w3.ownsRow (w0.heap.size + 2) 9 1 (.slice (some ⟨g, 0, none⟩) (ks.length + 1) c3) (ks.length + 1) (ks.map Value.string ++ [.string t])) (hgh : w0.heap.size + 2 ≤ g)
    (p2 : w2.grownBy w3 (Value.slice K ks.length kc).ownBlock) (p3 : (Value.slice (some ⟨g, 0, none⟩) (ks.length + 1) c3).ownBlock = (Value.slice K ks.length kc).ownBlock ∨ ∃ g1, (Value.slice (some ⟨g, 0, none⟩) (ks.length + 1) c3).ownBlock = some g1 ∧ w2.heap.size ≤ g1) :
    LInv w0 rb kd (ks ++ [t]) ns (w3.setCell ⟨w0.heap.size + 1, 3, none⟩ (.slice (some ⟨g, 0, none⟩) (ks.length + 1) c3)) (some ⟨g, 0, none⟩) c3 A c ys ∧ ∀ b, b < w0.heap.size + 2 → b ≠ w0.heap.size + 1 → (w3.setCell ⟨w0.heap.size + 1, 3, none⟩ (.slice (some ⟨g, 0, none⟩) (ks.length + 1) c3)).heap[b]? = w2.heap[b]? := by
  have p3 : some g = (Value.slice K ks.length kc).ownBlock ∨ w2.heap.size ≤ g := by
    rcases p3 with e | ⟨g1, e, hge⟩
    · exact .inl e
    · simp only [Value.ownBlock] at e; injection e with e; subst e; exact .inr hge
  have ho : ∀ g, (Value.slice A ns.length c).ownBlock = some g → w0.heap.size + 2 ≤ g ∧ g < w2.heap.size := fun g hg => own_lt hI.own hg
  have hk : ∀ g, (Value.slice K ks.length kc).ownBlock = some g → w0.heap.size + 2 ≤ g ∧ g < w2.heap.size := fun g hg => own_lt hI.keys hg
  have s2 := hI.size
  have s3 := p2.size
  have hn3 : Blk w3 (w0.heap.size + 1) 27 #[.int .i64 kd, .int .i64 0, .string ⟨#[]⟩, .slice K ks.length kc, .slice A ns.length c] := hI.node.grown p2 (fun e => by have := (hk (w0.heap.size + 1) e.symm).1; omega)
  generalize hw4 : w3.setCell ⟨w0.heap.size + 1, 3, none⟩ (.slice (some ⟨g, 0, none⟩) (ks.length + 1) c3) = w4
  have hs : w4.heap.size = w3.heap.size := by rw [← hw4]; simp
  have h34 : ∀ b, b ≠ w0.heap.size + 1 → w4.heap[b]? = w3.heap[b]? := fun b hb => by rw [← hw4]; exact set_far hb
  have hb : ∀ b, b < w2.heap.size → b ≠ w0.heap.size + 1 → (Value.slice K ks.length kc).ownBlock ≠ some b → w4.heap[b]? = w2.heap[b]? := fun b hb1 hb2' hb3 =>
    (h34 b hb2').trans (p2.block b (by omega) (fun e => hb3 e.symm))
  have hlow : ∀ b, b < w0.heap.size + 2 → b ≠ w0.heap.size + 1 → w4.heap[b]? = w2.heap[b]? := fun b b1 b2 => hb b (by omega) b2 (fun e => by have := (hk b e).1; omega)
  refine ⟨⟨?_, ?_, ?_, ?_, ?_, ?_, by omega⟩, hlow⟩
  · have := hn3.set_ 3 (.slice (some ⟨g, 0, none⟩) (ks.length + 1) c3)
    rw [hw4] at this
    simpa using this
  · have := ownsRow_setCell_below hown (a := ⟨w0.heap.size + 1, 3, none⟩) (show w0.heap.size + 1 < w0.heap.size + 2 by omega) (.slice (some ⟨g, 0, none⟩) (ks.length + 1) c3)
    rw [hw4] at this
    simpa using this
  · exact own_moved hI.own (fun b e => hb b (ho b e).2 (by have := (ho b e).1; omega) (own_apart hI.own hI.keys (by decide) e)) (by omega)
  · refine NdsIn.keep (fun p hp => World.cell?_of_block (hb p.block hp.1.2.1 (by have := hp.1.1; omega) hp.2)) (fun b hp => ⟨⟨hp.1.1, by have := hp.1.2.1; omega, hp.1.2.2⟩, ?_⟩) _ _ hI.kids
    intro e
    have e2 : g = b := by simpa [Value.ownBlock] using e
    subst e2
    rcases p3 with e | e
    · exact hp.2 e.symm
    · have := hp.1.2.1; omega
  · exact (hlow w0.heap.size (by omega) (by omega)).trans hI.res
  · refine ⟨?_, ?_, ?_, ?_, ?_⟩
    · rw [← hw4]; exact p2.os.trans hI.grow.os
    · rw [← hw4]; exact p2.tape.trans hI.grow.tape
    · rw [← hw4]; exact p2.output.trans hI.grow.output
    · have := hI.grow.size; omega
    · intro b hb1 hb2
      have := hI.grow.size
      exact (hb b (by omega) (by omega) (fun e => by have := (hk b e).1; omega)).trans (hI.grow.block b hb1 hb2)
/-- the node is done: its parts lie in new memory -/
theorem LInv.node_in {w0 : World} {rb : Nat} {kd : Int} {ks : List ByteArray} {ns : List Nd} {w WF : World} {K : Option Addr} {kc : Nat} {A : Option Addr} {c : Nat} {ys : List Value} (hI : LInv w0 rb kd ks ns w K kc A c ys) (hkd : I64 kd) (hks : ∀ t ∈ ks, t.size ≤ maxLen) (hrb : rb < w0.heap.size)
    (hot : ∀ g, g ≠ w0.heap.size → g ≠ rb → WF.heap[g]? = w.heap[g]?) (hsz : WF.heap.size = w.heap.size) :
    NdIn WF (Since w0 WF) (.mk kd 0 ⟨#[]⟩ ks ns) [.int .i64 kd, .int .i64 0, .string ⟨#[]⟩, .slice K ks.length kc, .slice A ns.length c] := by
  unfold NdIn
  refine ⟨K, kc, A, c, ys, rfl, ?_, ?_, ?_, hkd, by unfold I64; omega, by decide, hks, own_len hI.keys, own_len hI.own⟩
  · refine ((own_RS hI.keys).keep (fun p hp => World.cell?_of_block (hot p.block (by have := hp.1; omega) (by have := hp.1; omega)))).mono (fun b hb => ⟨by have := hb.1; omega, by rw [hsz]; exact hb.2⟩)
  · refine ((own_RS hI.own).keep (fun p hp => World.cell?_of_block (hot p.block (by have := hp.1; omega) (by have := hp.1; omega)))).mono (fun b hb => ⟨by have := hb.1; omega, by rw [hsz]; exact hb.2⟩)
  · exact NdsIn.keep (fun p hp => World.cell?_of_block (hot p.block (by have := hp.1.1; omega) (by have := hp.1.1; omega))) (fun b hb => ⟨by have := hb.1.1; omega, by rw [hsz]; exact hb.1.2.1⟩) _ _ hI.kids
end Go.Proofs.Ytnhoecmcbikcnaa
/-! The walk of json's value, whole. -/
namespace Go.Proofs.Ytnhoecmcbikcnaa
open Go.RowKit Go.PlainAid
set_option linter.unusedVariables false
set_option linter.unusedSimpArgs false
theorem valL_nil (deep : Nat) : valL deep [] = .error 3 := by
  have hn : numL [] = none := by
    unfold numL numTail
    rw [if_neg (by simp), if_pos (.inl rfl)]
  rw [valL_else _ _ (by simp) (by simp) (by simp), if_neg (by simp), if_neg (by simp), if_neg (by simp), hn]
theorem value_any (rb : Nat) (s : ByteArray) (hs : s.size ≤ 1000000) : ∀ (m k deep : Nat) (w : World), s.size - k < m → deep ≤ 24 → k ≤ s.size → RdSt w rb s k → ValC rb s deep k w := by
  intro m
  induction m with
  | zero => intro k deep w hm; omega
  | succ m ih =>
    intro k deep w hm hd24 hk h
    by_cases hlt : k < s.size
    case neg => exact value_end rb s deep k w h hk hs hlt _ (by rw [drop_end s k (by omega)]; exact valL_nil deep)
    obtain ⟨u, hu, hd⟩ := drop_cons s k hlt
    have hne : ∀ c : UInt8, ¬ bt s k = c.toNat → (s.toList.drop k).head? ≠ some c := fun c h e => by
      rw [hd] at e
      simp at e
      exact h (by rw [hu, e])
    have heq : ∀ c : UInt8, bt s k = c.toNat → (s.toList.drop k).head? = some c := fun c h => by
      rw [hd]
      have : u = c := UInt8.toNat_inj.1 (by omega)
      rw [this]; rfl
    have IH : ∀ (deep : Nat), deep < 24 → Hid (∀ k' w', k < k' → k' ≤ s.size → RdSt w' rb s k' → ValC rb s (deep + 1) k' w') := fun deep hd k' w' h1 h2 h3 => ih k' (deep + 1) w' (by omega) (by omega) h2 h3
    by_cases q91 : bt s k = 91
    · have hh := heq 91 q91
      by_cases hdp : 24 ≤ deep
      · exact value_deep_arr rb s deep k w h hk hs hlt hdp hd24 q91 _ (valL_deep deep _ (.inl hh) hdp)
      · exact value_arr rb s deep k w h hk hs hlt (by omega) q91 (IH deep (by omega)) _ (take_one rfl hh) (by rw [valL_arr deep _ hh hdp, List.drop_one])
    by_cases q123 : bt s k = 123
    · have hh := heq 123 q123
      by_cases hdp : 24 ≤ deep
      · exact value_deep_obj rb s deep k w h hk hs hlt hdp hd24 q123 _ (valL_deep deep _ (.inr hh) hdp)
      · exact value_obj rb s deep k w h hk hs hlt (by omega) q123 u _ hd hu (IH deep (by omega)) _ (take_one rfl hh) (by rw [valL_obj deep _ hh hdp, List.drop_one])
    by_cases q34 : bt s k = 34
    · exact value_str rb s deep k w h hk hs hlt q34 u _ hd hu _ (valL_str deep _ (heq 34 q34))
    have hr := valL_else deep _ (hne 91 q91) (hne 123 q123) (hne 34 q34)
    by_cases t1 : (s.toList.drop k).take 4 = [110, 117, 108, 108]
    · exact value_null rb s deep k w h hk hs hlt q91 q123 q34 u _ hd hu t1 _ (by rw [hr, if_pos t1])
    rw [if_neg t1] at hr
    by_cases t2 : (s.toList.drop k).take 5 = [102, 97, 108, 115, 101]
    · exact value_false rb s deep k w h hk hs hlt q91 q123 q34 u _ hd hu t1 t2 _ (by rw [hr, if_pos t2])
    rw [if_neg t2] at hr
    by_cases t3 : (s.toList.drop k).take 4 = [116, 114, 117, 101]
    · exact value_true rb s deep k w h hk hs hlt q91 q123 q34 u _ hd hu t1 t2 t3 _ (by rw [hr, if_pos t3])
    rw [if_neg t3] at hr
    exact value_num rb s deep k w h hk hs hlt q91 q123 q34 u _ hd hu t1 t2 t3 _ hr
end Go.Proofs.Ytnhoecmcbikcnaa
/-! The walk of Parse's deferred closure. -/
namespace Go.Proofs.Ytnhoecmcbikcnaa
open Go.RowKit Go.PlainAid
set_option linter.unusedVariables false
set_option linter.unusedSimpArgs false
theorem catch_idle (p q r : Addr) (w : World) :
    CallsD Try.prog 23 #[.pointer (some p), .pointer (some q), .pointer (some r)] .returning w fun e u' w' => e = .returned (.tuple #[]) ∧ u' = .returning ∧ w' = w := by
  refine callsD_of_wpS Try.func23 rfl fun c₀ cs hu => ?_
  apply wpS_seq
  apply wpS_region
  simp [wpOpsS, go_sem, recoverD, hu, Try.ntmps23, Exit.thenS]
  refine wpS_cond (t := false) (by simp [Act.eval, Array.replicate]) ?_
  simp only [Bool.false_eq_true, if_false]
  refine wpS_of_wp (wp_skip ?_)
  cases c₀
  simp_all [bodyPostS, results, Try.results23]
set_option maxRecDepth 100000 in
set_option maxHeartbeats 2000000 in
theorem catch_bad (pb rb g h : Nat) (c : Int) (u : TypeId) (pv : Value) (older : List PanicEntry) (s : Value) (k : Value) (v0 v1 v2 v3 v4 x : Value) (w : World)
    (hp : Blk w pb 53 #[.pointer (some ⟨rb, 0, none⟩)]) (hr : Blk w rb 55 #[s, k, .int .i64 c]) (hg : Blk w g 27 #[v0, v1, v2, v3, v4]) (hh : Blk w h 28 #[x]) :
    CallsD Try.prog 23 #[.pointer (some ⟨pb, 0, none⟩), .pointer (some ⟨g, 0, none⟩), .pointer (some ⟨h, 0, none⟩)] (.panicking ({ v := .iface u pv, recovered := false } :: older)) w fun e u' w' =>
      e = .returned (.tuple #[]) ∧ u' = .panicking ({ v := .iface u pv, recovered := true } :: older) ∧ w' = (((((w.setCell ⟨g, 0, none⟩ (.int .i64 0)).setCell ⟨g, 1, none⟩ (.int .i64 0)).setCell ⟨g, 2, none⟩ (.string ⟨#[]⟩)).setCell ⟨g, 3, none⟩ (.slice none 0 0)).setCell ⟨g, 4, none⟩ (.slice none 0 0)).setCell ⟨h, 0, none⟩ (.int .i64 c) := by
  have p0 : w.cell? ⟨pb, 0, none⟩ = some (.pointer (some ⟨rb, 0, none⟩)) := hp.cell 0
  have r2 : w.cell? ⟨rb, 2, none⟩ = some (.int .i64 c) := hr.cell 2
  obtain ⟨g0, g1, g2, g3, g4⟩ := hg.cells5
  have f0 := hg.frozen 0
  have f1 := hg.frozen 1
  have f2 := hg.frozen 2
  have f3 := hg.frozen 3
  have f4 := hg.frozen 4
  have hne : h ≠ g := (hh.ne_ hg (by decide))
  have h0 : w.cell? ⟨h, 0, none⟩ = some x := hh.cell 0
  have e0 := hh.frozen 0
  refine callsD_of_wpS Try.func23 rfl fun c₀ cs hu => ?_
  apply wpS_seq
  apply wpS_region
  simp [wpOpsS, go_sem, recoverD, hu, Try.ntmps23, Exit.thenS]
  refine wpS_cond (t := true) (by simp [Act.eval, Array.replicate]) ?_
  simp only [if_true]
  refine wpS_of_wp ?_
  go_wp2
  simp [bodyPostS, results, Try.results23]
end Go.Proofs.Ytnhoecmcbikcnaa
/-! The walk of json's Parse. -/
namespace Go.Proofs.Ytnhoecmcbikcnaa
open Go.RowKit Go.PlainAid
set_option linter.unusedVariables false
set_option linter.unusedSimpArgs false
/-- what Parse ends with -/
def ParseEnd (r : Except Int Nd) (w : World) (e : Ending) (w' : World) : Prop :=
  match r with
  | .error c => e = .returned (.tuple #[.agg #[.int .i64 0, .int .i64 0, .string ⟨#[]⟩, .slice none 0 0, .slice none 0 0], .int .i64 c]) ∧ Below w.heap.size w w'
  | .ok n => ∃ (c0 c1 : Int) (c2 : ByteArray) (c3 : Option Addr) (c4 c5 : Nat) (c6 : Option Addr) (c7 c8 : Nat),
      e = .returned (.tuple #[.agg #[.int .i64 c0, .int .i64 c1, .string c2, .slice c3 c4 c5, .slice c6 c7 c8], .int .i64 0]) ∧ NdIn w' (Since w w') n [.int .i64 c0, .int .i64 c1, .string c2, .slice c3 c4 c5, .slice c6 c7 c8] ∧ Below w.heap.size w w'
/-- Parse under way -/
structure PInv (w0 : World) (vs : Array Value) (w : World) : Prop where
  res : Blk w w0.heap.size 27 vs
  err : Blk w (w0.heap.size + 1) 28 #[.int .i64 0]
  ptr : Blk w (w0.heap.size + 1 + 1 + 1) 53 #[.pointer (some ⟨w0.heap.size + 1 + 1, 0, none⟩)]
  low : Below w0.heap.size w0 w
  size : w0.heap.size + 4 ≤ w.heap.size
theorem PInv.start (w : World) (s : ByteArray) : PInv w #[.int .i64 0, .int .i64 0, .string ⟨#[]⟩, .slice none 0 0, .slice none 0 0] ((((w.alloc (.cells #[.int .i64 0, .int .i64 0, .string ⟨#[]⟩, .slice none 0 0, .slice none 0 0] 27)).alloc (.cells #[.int .i64 0] 28)).alloc (.cells #[.string s, .int .i64 0, .int .i64 0] 55)).alloc (.cells #[.pointer (some ⟨w.heap.size + 1 + 1, 0, none⟩)] 53)) ∧
    RdSt ((((w.alloc (.cells #[.int .i64 0, .int .i64 0, .string ⟨#[]⟩, .slice none 0 0, .slice none 0 0] 27)).alloc (.cells #[.int .i64 0] 28)).alloc (.cells #[.string s, .int .i64 0, .int .i64 0] 55)).alloc (.cells #[.pointer (some ⟨w.heap.size + 1 + 1, 0, none⟩)] 53)) (w.heap.size + 1 + 1) s 0 := by
  have e1 := Blk.new w 27 #[.int .i64 0, .int .i64 0, .string ⟨#[]⟩, .slice none 0 0, .slice none 0 0]
  generalize hw1 : w.alloc (.cells #[.int .i64 0, .int .i64 0, .string ⟨#[]⟩, .slice none 0 0, .slice none 0 0] 27) = w1 at *
  have s1 : w1.heap.size = w.heap.size + 1 := by rw [← hw1]; simp
  have l1 : Below w.heap.size w w1 := by rw [← hw1]; exact (Below.refl _ _).alloc (Nat.le_refl _) _
  have e2 := Blk.new w1 28 #[.int .i64 0]
  have e1' := e1.alloc (.cells #[.int .i64 0] 28)
  have l2 := l1.alloc l1.size (.cells #[.int .i64 0] 28)
  generalize hw2 : w1.alloc (.cells #[.int .i64 0] 28) = w2 at *
  have s2 : w2.heap.size = w.heap.size + 1 + 1 := by rw [← hw2]; simp [s1]
  have e3 := Blk.new w2 55 #[.string s, .int .i64 0, .int .i64 0]
  have e2' := e2.alloc (.cells #[.string s, .int .i64 0, .int .i64 0] 55)
  have e1'' := e1'.alloc (.cells #[.string s, .int .i64 0, .int .i64 0] 55)
  have l3 := l2.alloc l2.size (.cells #[.string s, .int .i64 0, .int .i64 0] 55)
  generalize hw3 : w2.alloc (.cells #[.string s, .int .i64 0, .int .i64 0] 55) = w3 at *
  have s3 : w3.heap.size = w.heap.size + 1 + 1 + 1 := by rw [← hw3]; simp [s2]
  have e4 := Blk.new w3 53 #[.pointer (some ⟨w.heap.size + 1 + 1, 0, none⟩)]
  have e3' := e3.alloc (.cells #[.pointer (some ⟨w.heap.size + 1 + 1, 0, none⟩)] 53)
  have e2'' := e2'.alloc (.cells #[.pointer (some ⟨w.heap.size + 1 + 1, 0, none⟩)] 53)
  have e1''' := e1''.alloc (.cells #[.pointer (some ⟨w.heap.size + 1 + 1, 0, none⟩)] 53)
  have l4 := l3.alloc l3.size (.cells #[.pointer (some ⟨w.heap.size + 1 + 1, 0, none⟩)] 53)
  rw [s3] at e4
  rw [s2] at e3'
  rw [s1] at e2''
  exact ⟨⟨e1''', e2'', e4, l4, by simp [s3]⟩, e3'⟩
theorem PInv.next {w0 w w' : World} {vs : Array Value} (h : PInv w0 vs w) (g : w.grownBy w' (some (w0.heap.size + 1 + 1))) : PInv w0 vs w' := by
  refine ⟨h.res.grown g (by intro e; injection e with e; omega), h.err.grown g (by intro e; injection e with e; omega), h.ptr.grown g (by intro e; injection e with e; omega), ?_, Nat.le_trans h.size g.size⟩
  exact h.low.trans ⟨g.os, g.tape, g.output, by have := h.size; have := g.size; omega, fun i hi => g.block i (by have := h.size; omega) (by intro e; injection e with e; omega)⟩
theorem PInv.drewN {w0 w : World} {vs : Array Value} (h : PInv w0 vs w) (n : Nat) : PInv w0 vs (w.drewN n) := h.next (grown_drewN (grown_refl _ _) n)
theorem PInv.laid {w0 w : World} {v0 v1 v2 v3 v4 : Value} (h : PInv w0 #[v0, v1, v2, v3, v4] w) (a b c d e : Value) :
    PInv w0 #[a, b, c, d, e] (((((w.setCell ⟨w0.heap.size, 0, none⟩ a).setCell ⟨w0.heap.size, 1, none⟩ b).setCell ⟨w0.heap.size, 2, none⟩ c).setCell ⟨w0.heap.size, 3, none⟩ d).setCell ⟨w0.heap.size, 4, none⟩ e) ∧
    (((((w.setCell ⟨w0.heap.size, 0, none⟩ a).setCell ⟨w0.heap.size, 1, none⟩ b).setCell ⟨w0.heap.size, 2, none⟩ c).setCell ⟨w0.heap.size, 3, none⟩ d).setCell ⟨w0.heap.size, 4, none⟩ e).heap.size = w.heap.size ∧
    ∀ g, g ≠ w0.heap.size → (((((w.setCell ⟨w0.heap.size, 0, none⟩ a).setCell ⟨w0.heap.size, 1, none⟩ b).setCell ⟨w0.heap.size, 2, none⟩ c).setCell ⟨w0.heap.size, 3, none⟩ d).setCell ⟨w0.heap.size, 4, none⟩ e).heap[g]? = w.heap[g]? := by
  have hot : ∀ g, g ≠ w0.heap.size → (((((w.setCell ⟨w0.heap.size, 0, none⟩ a).setCell ⟨w0.heap.size, 1, none⟩ b).setCell ⟨w0.heap.size, 2, none⟩ c).setCell ⟨w0.heap.size, 3, none⟩ d).setCell ⟨w0.heap.size, 4, none⟩ e).heap[g]? = w.heap[g]? := fun g hg => by
    rw [Below.heap_setCell _ _ _ _ hg, Below.heap_setCell _ _ _ _ hg, Below.heap_setCell _ _ _ _ hg, Below.heap_setCell _ _ _ _ hg, Below.heap_setCell _ _ _ _ hg]
  have hb : Blk (((((w.setCell ⟨w0.heap.size, 0, none⟩ a).setCell ⟨w0.heap.size, 1, none⟩ b).setCell ⟨w0.heap.size, 2, none⟩ c).setCell ⟨w0.heap.size, 3, none⟩ d).setCell ⟨w0.heap.size, 4, none⟩ e) w0.heap.size 27 #[a, b, c, d, e] := (((((h.res.set_ 0 a).set_ 1 b).set_ 2 c).set_ 3 d).set_ 4 e)
  have hs : (((((w.setCell ⟨w0.heap.size, 0, none⟩ a).setCell ⟨w0.heap.size, 1, none⟩ b).setCell ⟨w0.heap.size, 2, none⟩ c).setCell ⟨w0.heap.size, 3, none⟩ d).setCell ⟨w0.heap.size, 4, none⟩ e).heap.size = w.heap.size := by simp
  have hg := grown_new (grown_new (grown_new (grown_new (grown_new (grown_refl w (some 0)) (g := w.heap.size) (Nat.le_refl _) 0 a) (g := w.heap.size) (Nat.le_refl _) 1 b) (g := w.heap.size) (Nat.le_refl _) 2 c) (g := w.heap.size) (Nat.le_refl _) 3 d) (g := w.heap.size) (Nat.le_refl _) 4 e
  have hos : (((((w.setCell ⟨w0.heap.size, 0, none⟩ a).setCell ⟨w0.heap.size, 1, none⟩ b).setCell ⟨w0.heap.size, 2, none⟩ c).setCell ⟨w0.heap.size, 3, none⟩ d).setCell ⟨w0.heap.size, 4, none⟩ e).os = w.os := (grown_set (grown_set (grown_set (grown_set (grown_set (grown_refl w (some w0.heap.size)) 0 a) 1 b) 2 c) 3 d) 4 e).os
  have htp : (((((w.setCell ⟨w0.heap.size, 0, none⟩ a).setCell ⟨w0.heap.size, 1, none⟩ b).setCell ⟨w0.heap.size, 2, none⟩ c).setCell ⟨w0.heap.size, 3, none⟩ d).setCell ⟨w0.heap.size, 4, none⟩ e).tape = w.tape := (grown_set (grown_set (grown_set (grown_set (grown_set (grown_refl w (some w0.heap.size)) 0 a) 1 b) 2 c) 3 d) 4 e).tape
  have hop : (((((w.setCell ⟨w0.heap.size, 0, none⟩ a).setCell ⟨w0.heap.size, 1, none⟩ b).setCell ⟨w0.heap.size, 2, none⟩ c).setCell ⟨w0.heap.size, 3, none⟩ d).setCell ⟨w0.heap.size, 4, none⟩ e).output = w.output := (grown_set (grown_set (grown_set (grown_set (grown_set (grown_refl w (some w0.heap.size)) 0 a) 1 b) 2 c) 3 d) 4 e).output
  generalize (((((w.setCell ⟨w0.heap.size, 0, none⟩ a).setCell ⟨w0.heap.size, 1, none⟩ b).setCell ⟨w0.heap.size, 2, none⟩ c).setCell ⟨w0.heap.size, 3, none⟩ d).setCell ⟨w0.heap.size, 4, none⟩ e) = W at *
  have hz := h.size
  refine ⟨⟨hb, (hot _ (by omega)).trans h.err, (hot _ (by omega)).trans h.ptr, ?_, by omega⟩, hs, hot⟩
  exact ⟨hos.trans h.low.os, htp.trans h.low.tape, hop.trans h.low.output, by omega, fun i hi => (hot i (by omega)).trans (h.low.block i hi)⟩
theorem PInv.set_err {w0 w : World} {vs : Array Value} (h : PInv w0 vs w) (x : Value) :
    Blk (w.setCell ⟨w0.heap.size + 1, 0, none⟩ x) w0.heap.size 27 vs ∧ Blk (w.setCell ⟨w0.heap.size + 1, 0, none⟩ x) (w0.heap.size + 1) 28 #[x] ∧ Below w0.heap.size w0 (w.setCell ⟨w0.heap.size + 1, 0, none⟩ x) ∧ (w.setCell ⟨w0.heap.size + 1, 0, none⟩ x).heap.size = w.heap.size ∧
    ∀ g, g ≠ w0.heap.size + 1 → (w.setCell ⟨w0.heap.size + 1, 0, none⟩ x).heap[g]? = w.heap[g]? := by
  have hg := grown_set (grown_refl w (some (w0.heap.size + 1))) 0 x
  have hot : ∀ g, g ≠ w0.heap.size + 1 → (w.setCell ⟨w0.heap.size + 1, 0, none⟩ x).heap[g]? = w.heap[g]? := fun g hg => Below.heap_setCell _ _ _ _ hg
  have hs : (w.setCell ⟨w0.heap.size + 1, 0, none⟩ x).heap.size = w.heap.size := by simp
  have hz := h.size
  refine ⟨(hot _ (by omega)).trans h.res, h.err.set_ 0 x, ?_, hs, hot⟩
  exact ⟨hg.os.trans h.low.os, hg.tape.trans h.low.tape, hg.output.trans h.low.output, by omega, fun i hi => (hot i (by omega)).trans (h.low.block i hi)⟩
theorem Blk.cells1 {w : World} {g : Nat} {t : TypeId} {a : Value} (h : Blk w g t #[a]) : w.cell? ⟨g, 0, none⟩ = some a := h.cell 0
theorem parse_low {s : ByteArray} {k r : List UInt8} {n : Nd} (hl : s.size ≤ 65536) : parseL s.toList = match valL 0 (blanksL s.toList) with
    | .error e => .error e
    | .ok (n, r) => if blanksL r = [] then .ok n else .error 3 := by
  unfold parseL
  rw [if_neg (by rw [tl_len']; omega)]
  rcases valL 0 (blanksL s.toList) with _ | ⟨_, _⟩ <;> rfl
set_option maxRecDepth 100000 in
set_option maxHeartbeats 8000000 in
theorem Parse_any (s : ByteArray) (A : Option Addr) (c : Nat) (w : World)
   (HC : ∀ w', Below w.heap.size w w' → (convert 22 9 (.slice A s.size c)).run Try.prog w' = .ok (.string s) w') :
    Calls Try.prog 9 #[.slice A s.size c] w (ParseEnd (parseL s.toList) w) := by
  have hmf : ∀ (fn : Fn) (first cap : Array Value) (w : World), (Instr.makeFunc fn first cap).run Try.prog w = .ok (.func fn first cap) w := fun _ _ _ _ => rfl
  by_cases hl : s.size ≤ 65536
  case neg =>
    have hp : parseL s.toList = .error 2 := by unfold parseL; rw [if_pos (by rw [tl_len']; omega)]
    rw [hp]
    have hnl : (65536 : Int) < (s.size : Int) := by omega
    have HW := Lib.hid (((Below.refl w.heap.size w).alloc (Nat.le_refl _) (.cells #[.int .i64 0, .int .i64 0, .string ⟨#[]⟩, .slice none 0 0, .slice none 0 0] 27)).alloc (by simp) (.cells #[.int .i64 2] 28))
    have b1 := (Blk.new w 27 #[.int .i64 0, .int .i64 0, .string ⟨#[]⟩, .slice none 0 0, .slice none 0 0]).alloc (.cells #[.int .i64 2] 28)
    have b2 := Blk.new (w.alloc (.cells #[.int .i64 0, .int .i64 0, .string ⟨#[]⟩, .slice none 0 0, .slice none 0 0] 27)) 28 #[.int .i64 2]
    rw [show (w.alloc (.cells #[.int .i64 0, .int .i64 0, .string ⟨#[]⟩, .slice none 0 0, .slice none 0 0] 27)).heap.size = w.heap.size + 1 by simp] at b2
    have B1 := Lib.hid b1
    have B2 := Lib.hid b2
    clear HC hp hl b1 b2
    go_enter_defers Try.func9, Try.ntmps9
    go_wp2
    generalize (w.alloc (.cells #[.int .i64 0, .int .i64 0, .string ⟨#[]⟩, .slice none 0 0, .slice none 0 0] 27)).alloc (.cells #[.int .i64 2] 28) = WF at *
    obtain ⟨q0, q1, q2, q3, q4⟩ := B1.out.cells5
    have x0 := B2.out.cells1
    simp [bodyPostD, Leaves, settle, results, Try.results9, go_sem, q0, q1, q2, q3, q4, x0]
    exact ⟨rfl, HW.out⟩
  have hcv := HC _ (((Below.refl w.heap.size w).alloc (Nat.le_refl _) (.cells #[.int .i64 0, .int .i64 0, .string ⟨#[]⟩, .slice none 0 0, .slice none 0 0] 27)).alloc (by simp) (.cells #[.int .i64 0] 28))
  have hnl : ¬ (65536 : Int) < (s.size : Int) := by omega
  obtain ⟨p0, q0⟩ := PInv.start w s
  have P0 := Lib.hid p0
  have R0 := Lib.hid q0
  have HL := Lib.hid hl
  have HPL := Lib.hid (parse_low (k := []) (r := []) (n := nd0 0) hl)
  generalize parseL s.toList = V at *
  clear HC p0 q0
  go_enter_defers Try.func9, Try.ntmps9
  go_wp2_with fail
  generalize ((((w.alloc (.cells #[.int .i64 0, .int .i64 0, .string ⟨#[]⟩, .slice none 0 0, .slice none 0 0] 27)).alloc (.cells #[.int .i64 0] 28)).alloc (.cells #[.string s, .int .i64 0, .int .i64 0] 55)).alloc (.cells #[.pointer (some ⟨w.heap.size + 1 + 1, 0, none⟩)] 53)) = W at *
  clear hcv
  refine (blanks_any _ s 0 W R0.out (Nat.zero_le _) (by have := HL.out; omega)).mono ?_
  rintro e w1 ⟨rfl, k1, hk1, e1, h1, g1⟩
  have P1 := Lib.hid (P0.out.next g1)
  have R1 := Lib.hid h1
  have E1 : Hid (s.toList.drop k1 = blanksL s.toList) := e1
  have hp1 := P1.out.ptr.cells1
  clear h1 g1 e1
  have HV : Hid (Calls Try.prog 25 #[.pointer (some ⟨w.heap.size + 1 + 1, 0, none⟩), .int .i64 0] w1 (ValEnd (w.heap.size + 1 + 1) s (valL 0 (blanksL s.toList)) w1)) := by
    have := value_any (w.heap.size + 1 + 1) s (by have := HL.out; omega) (s.size + 1) k1 0 w1 (by omega) (by omega) hk1 R1.out
    unfold ValC at this
    rw [E1.out] at this
    exact this
  cases hv : valL 0 (blanksL s.toList) with
  | error c9 =>
    have HE : Hid (V = .error c9) := Lib.hid (by rw [HPL.out, hv])
    rw [hv] at HV
    clear hv HPL
    go_wp2_with fail
    refine HV.out.mono ?_; rintro e w9 ⟨rfl, ⟨k9, h9⟩, g9⟩
    have P9 := Lib.hid (P1.out.next g9)
    have H9 := Lib.hid h9
    clear h9 g9 hp1
    go_wp2_with fail
    refine leaves_cons (f := 23) (args := #[.pointer (some ⟨w.heap.size + 1 + 1 + 1, 0, none⟩), .pointer (some ⟨w.heap.size, 0, none⟩), .pointer (some ⟨w.heap.size + 1, 0, none⟩)]) (by simp) (by simp [go_sem]) ?_
    refine (catch_bad _ _ _ _ c9 _ _ [] _ _ _ _ _ _ _ _ w9 P9.out.ptr H9.out P9.out.res P9.out.err).mono ?_
    rintro e u' w'' ⟨rfl, rfl, hw⟩
    obtain ⟨pl, _, _⟩ := P9.out.laid (.int .i64 0) (.int .i64 0) (.string ⟨#[]⟩) (.slice none 0 0) (.slice none 0 0)
    obtain ⟨b1, b2, b3, _, _⟩ := pl.set_err (.int .i64 c9)
    rw [← hw] at b1 b2 b3
    clear hw pl
    obtain ⟨q0, q1, q2, q3, q4⟩ := b1.cells5
    have x0 := b2.cells1
    simp [Leaves, settle, results, Try.results9, go_sem, q0, q1, q2, q3, q4, x0]
    rw [HE.out]
    exact ⟨rfl, b3⟩
  | ok p =>
    obtain ⟨n, r⟩ := p
    have HE : Hid (V = if blanksL r = [] then .ok n else .error 3) := Lib.hid (by rw [HPL.out, hv])
    rw [hv] at HV
    clear hv HPL
    go_wp2_with fail
    refine HV.out.mono ?_
    rintro e w2 ⟨c0, c1, c2, c3, c4, c5, c6, c7, c8, rfl, hn, k2, hk2, e2, h2, g2⟩
    have P2 := Lib.hid (P1.out.next g2)
    have R2 := Lib.hid h2
    have E2 : Hid (s.toList.drop k2 = r) := e2
    have HN := Lib.hid hn
    have Z1 := Lib.hid P1.out.size
    clear hn h2 g2 e2 hp1
    have hp2 : (((((w2.setCell ⟨w.heap.size, 0, none⟩ (.int .i64 c0)).setCell ⟨w.heap.size, 1, none⟩ (.int .i64 c1)).setCell ⟨w.heap.size, 2, none⟩ (.string c2)).setCell ⟨w.heap.size, 3, none⟩ (.slice c3 c4 c5)).setCell ⟨w.heap.size, 4, none⟩ (.slice c6 c7 c8)).cell? ⟨w.heap.size + 1 + 1 + 1, 0, none⟩ = some (.pointer (some ⟨w.heap.size + 1 + 1, 0, none⟩)) := (P2.out.laid _ _ _ _ _).1.ptr.cells1
    obtain ⟨p3, s3, o3⟩ := P2.out.laid (.int .i64 c0) (.int .i64 c1) (.string c2) (.slice c3 c4 c5) (.slice c6 c7 c8)
    have P3 := Lib.hid p3
    have S3 := Lib.hid s3
    have O3 := Lib.hid o3
    obtain ⟨z0, z1, z2, z3, z4⟩ := P2.out.res.cells5
    have f0 := P2.out.res.frozen 0
    have f1 := P2.out.res.frozen 1
    have f2 := P2.out.res.frozen 2
    have f3 := P2.out.res.frozen 3
    have f4 := P2.out.res.frozen 4
    clear p3 s3 o3
    go_wp2_with fail
    clear z0 z1 z2 z3 z4 f0 f1 f2 f3 f4
    generalize (((((w2.setCell ⟨w.heap.size, 0, none⟩ (.int .i64 c0)).setCell ⟨w.heap.size, 1, none⟩ (.int .i64 c1)).setCell ⟨w.heap.size, 2, none⟩ (.string c2)).setCell ⟨w.heap.size, 3, none⟩ (.slice c3 c4 c5)).setCell ⟨w.heap.size, 4, none⟩ (.slice c6 c7 c8)) = w3 at *
    have R3 : Hid (RdSt w3 (w.heap.size + 1 + 1) s k2) := (O3.out _ (by omega)).trans R2.out
    refine (blanks_any _ s k2 w3 R3.out hk2 (by have := HL.out; omega)).mono ?_
    rintro e w4 ⟨rfl, k4, hk4, e4, h4, g4⟩
    rw [E2.out] at e4
    have P4 := Lib.hid (P3.out.next g4)
    have R4 := Lib.hid h4
    have E4 := Lib.hid e4
    have HN4 : Hid (NdIn w4 (fun b => w1.heap.size ≤ b ∧ b < w4.heap.size) n [.int .i64 c0, .int .i64 c1, .string c2, .slice c3 c4 c5, .slice c6 c7 c8]) := by
      have hz := Z1.out
      have hs3 := S3.out
      have hs4 := g4.size
      refine NdIn.keep (fun p hp => World.cell?_of_block ?_) (fun b hb => ⟨hb.1, by have := hb.2; omega⟩) _ _ HN.out
      have hp1 := hp.1
      have hp2 := hp.2
      exact (g4.block p.block (by omega) (by intro e; injection e with e; omega)).trans (O3.out p.block (by omega))
    have G4 := Lib.hid g4
    have hp4 := P4.out.ptr.cells1
    obtain ⟨y0, y1, y2⟩ := R4.out.cells3
    clear h4 g4 e4 hp2
    by_cases hr : blanksL r = []
    · have HX : Hid (V = .ok n) := Lib.hid (by rw [HE.out, if_pos hr])
      have k4s : ¬ (k4 : Int) < (s.size : Int) := by
        have e := congrArg List.length E4.out
        rw [hr, List.length_drop, tl_len'] at e
        simp at e; omega
      clear hr
      go_wp2_with fail
      go_quiet (fail)
      clear y0 y1 y2 hp4
      have P5 : Hid (∀ m, PInv w #[.int .i64 c0, .int .i64 c1, .string c2, .slice c3 c4 c5, .slice c6 c7 c8] (w4.drewN m)) := fun m => P4.out.drewN m
      obtain ⟨z0, z1, z2, z3, z4⟩ := P4.out.res.cells5
      have f0 := P4.out.res.frozen 0
      have f1 := P4.out.res.frozen 1
      have f2 := P4.out.res.frozen 2
      have f3 := P4.out.res.frozen 3
      have f4 := P4.out.res.frozen 4
      have x0 := P4.out.err.cells1
      have fe := P4.out.err.frozen 0
      have k4n : ¬ k4 < s.size := by omega
      go_wp2_with fail
      clear z0 z1 z2 z3 z4 f0 f1 f2 f3 f4 x0 fe
      refine leaves_cons (f := 23) (args := #[.pointer (some ⟨w.heap.size + 1 + 1 + 1, 0, none⟩), .pointer (some ⟨w.heap.size, 0, none⟩), .pointer (some ⟨w.heap.size + 1, 0, none⟩)]) (by simp) (by simp [go_sem]) ?_
      refine (catch_idle _ _ _ _).mono ?_
      rintro e u' w'' ⟨rfl, rfl, hw⟩
      obtain ⟨pl, s5, o5⟩ := (P5.out _).laid (.int .i64 c0) (.int .i64 c1) (.string c2) (.slice c3 c4 c5) (.slice c6 c7 c8)
      obtain ⟨b1, b2, b3, s6, o6⟩ := pl.set_err (.int .i64 0)
      rw [← hw] at b1 b2 b3 s6 o6
      have hnd : NdIn w'' (Since w w'') n [.int .i64 c0, .int .i64 c1, .string c2, .slice c3 c4 c5, .slice c6 c7 c8] := by
        have hz := Z1.out
        refine NdIn.keep (fun p hp => World.cell?_of_block ?_) (fun b hb => ⟨by have := hb.1; omega, by rw [s6, s5]; exact hb.2⟩) _ _ HN4.out
        have hp1 := hp.1
        exact (o6 p.block (by omega)).trans (o5 p.block (by omega))
      clear hw pl s5 o5 s6 o6
      obtain ⟨q0, q1, q2, q3, q4⟩ := b1.cells5
      have x0 := b2.cells1
      simp [Leaves, settle, results, Try.results9, go_sem, q0, q1, q2, q3, q4, x0]
      rw [HX.out]
      exact ⟨c0, c1, c2, c3, c4, c5, c6, c7, c8, rfl, hnd, b3⟩
    · have HX : Hid (V = .error 3) := Lib.hid (by rw [HE.out, if_neg hr])
      have k4s : (k4 : Int) < (s.size : Int) := by
        have e := congrArg List.length E4.out
        rw [List.length_drop, tl_len'] at e
        have := List.length_pos_iff.2 hr
        omega
      have k4n : k4 < s.size := by omega
      clear hr
      go_wp2_with fail
      go_quiet (fail)
      clear y0 y1 y2
      have P5 : Hid (∀ m, PInv w #[.int .i64 c0, .int .i64 c1, .string c2, .slice c3 c4 c5, .slice c6 c7 c8] (w4.drewN m)) := fun m => P4.out.drewN m
      have R5 : Hid (∀ m, RdSt (w4.drewN m) (w.heap.size + 1 + 1) s k4) := fun m => R4.out
      go_wp2_with fail
      refine (fail_any _ s k4 3 _ (R5.out _)).mono ?_; rintro e w9 ⟨rfl, ⟨k9, h9⟩, g9⟩
      have P9 := Lib.hid ((P5.out _).next g9)
      have H9 := Lib.hid h9
      clear h9 g9 hp4
      go_wp2_with fail
      refine leaves_cons (f := 23) (args := #[.pointer (some ⟨w.heap.size + 1 + 1 + 1, 0, none⟩), .pointer (some ⟨w.heap.size, 0, none⟩), .pointer (some ⟨w.heap.size + 1, 0, none⟩)]) (by simp) (by simp [go_sem]) ?_
      refine (catch_bad _ _ _ _ 3 _ _ [] _ _ _ _ _ _ _ _ w9 P9.out.ptr H9.out P9.out.res P9.out.err).mono ?_
      rintro e u' w'' ⟨rfl, rfl, hw⟩
      obtain ⟨pl, _, _⟩ := P9.out.laid (.int .i64 0) (.int .i64 0) (.string ⟨#[]⟩) (.slice none 0 0) (.slice none 0 0)
      obtain ⟨b1, b2, b3, _, _⟩ := pl.set_err (.int .i64 3)
      rw [← hw] at b1 b2 b3
      clear hw pl
      obtain ⟨q0, q1, q2, q3, q4⟩ := b1.cells5
      have x0 := b2.cells1
      simp [Leaves, settle, results, Try.results9, go_sem, q0, q1, q2, q3, q4, x0]
      rw [HX.out]
      exact ⟨rfl, b3⟩
end Go.Proofs.Ytnhoecmcbikcnaa
/-! Plain laws of reading JSON: what stands behind what is read. -/
namespace Go.Proofs.Ytnhoecmcbikcnaa
open Go.RowKit Go.PlainAid
set_option linter.unusedVariables false
set_option linter.unusedSimpArgs false
def ext {α : Type} (z : List UInt8) (p : α × List UInt8) : α × List UInt8 := (p.1, p.2 ++ z)
def Bz (z : List UInt8) : Prop := ∀ c ∈ z, blankB c = true
theorem blank_cases {c : UInt8} (h : blankB c = true) : c = 32 ∨ c = 9 ∨ c = 10 ∨ c = 13 := by
  unfold blankB at h
  simp only [Bool.or_eq_true, beq_iff_eq] at h
  rcases h with ((h | h) | h) | h <;> simp [h]
theorem dw_nil {p : UInt8 → Bool} (l : List UInt8) : l.dropWhile p = [] ↔ ∀ c ∈ l, p c = true := by
  induction l with
  | nil => simp
  | cons a l ih =>
    rw [List.dropWhile_cons]
    split
    · rename_i ha
      rw [ih]
      simp [ha]
    · rename_i ha
      simp [ha]
theorem Bz.numEnd {z : List UInt8} (h : Bz z) : numEnd z := by
  cases z with
  | nil => exact numEnd_nil
  | cons c z => exact numEnd_sep c z (by rcases blank_cases (h c (by simp)) with h | h | h | h <;> simp [h])
theorem bl_all {z : List UInt8} (h : Bz z) : blanksL z = [] := by
  unfold blanksL
  exact (dw_nil z).2 (fun c hc => h c hc)
theorem bl_app {l z : List UInt8} (h : blanksL l ≠ []) : blanksL (l ++ z) = blanksL l ++ z := by
  induction l with
  | nil => exact absurd rfl h
  | cons c l ih =>
    unfold blanksL at h ih ⊢
    rw [List.dropWhile_cons] at h
    rw [List.cons_append, List.dropWhile_cons, List.dropWhile_cons]
    split
    · rename_i hc
      rw [if_pos hc] at h
      exact ih h
    · rfl
theorem bl_none {l z : List UInt8} (h : blanksL l = []) (hz : Bz z) : blanksL (l ++ z) = [] := by
  unfold blanksL at h ⊢
  rw [dw_nil] at h ⊢
  intro c hc
  rcases List.mem_append.1 hc with hc | hc
  · exact h c hc
  · exact hz c hc
theorem take_bl {l z w : List UInt8} {n : Nat} (hz : Bz z) (hw : ∀ c ∈ w, blankB c = false) (hn : w.length = n) (h : (l ++ z).take n = w) : n ≤ l.length := by
  by_cases hle : n ≤ l.length
  · exact hle
  exfalso
  cases z with
  | nil => have := congrArg List.length h; simp at this; omega
  | cons c z =>
    have hc : c ∈ w := by
      rw [← h]
      refine List.mem_of_getElem? (i := l.length) ?_
      rw [List.getElem?_take, if_pos (by omega), List.getElem?_append_right (Nat.le_refl _), Nat.sub_self]
      rfl
    have h1 := hw c hc
    have h2 := hz c (by simp)
    rw [h1] at h2; cases h2
theorem take_app {l z w : List UInt8} {n : Nat} (hn : w.length = n) (h : l.take n = w) : (l ++ z).take n = w ∧ (l ++ z).drop n = l.drop n ++ z := by
  have : n ≤ l.length := by
    have := congrArg List.length h
    rw [List.length_take] at this; omega
  exact ⟨by rw [List.take_append_of_le_length this, h], List.drop_append_of_le_length this⟩
/-! success -/
theorem unitL_S (z : List UInt8) : ∀ (k : Nat) (n : Int) (l : List UInt8) (p : Int × List UInt8), unitL k n l = some p → unitL k n (l ++ z) = some (ext z p)
  | 0, n, l, p, h => by unfold unitL at h ⊢; cases h; rfl
  | k + 1, n, [], p, h => by unfold unitL at h; cases h
  | k + 1, n, c :: l, p, h => by
    unfold unitL at h
    rw [List.cons_append]
    unfold unitL
    cases hc : hexD c with
    | none => rw [hc] at h; cases h
    | some x => rw [hc] at h; exact unitL_S z k _ l p h
theorem pointL_S (z : List UInt8) (l : List UInt8) (p : Int × List UInt8) (h : pointL l = some p) : pointL (l ++ z) = some (ext z p) := by
  unfold pointL at h ⊢
  cases h1 : unitL 4 0 l with
  | none => rw [h1] at h; cases h
  | some q =>
    obtain ⟨n, r⟩ := q
    rw [h1] at h
    rw [show unitL 4 0 (l ++ z) = some (n, r ++ z) from unitL_S z _ _ _ _ h1]
    dsimp only at h ⊢
    by_cases c1 : n < 55296 ∨ 57343 < n
    · rw [if_pos c1] at h ⊢; cases h; rfl
    rw [if_neg c1] at h ⊢
    by_cases c2 : 56320 ≤ n
    · rw [if_pos c2] at h; cases h
    rw [if_neg c2] at h ⊢
    by_cases c3 : r.take 2 = [92, 117]
    · obtain ⟨e1, e2⟩ := take_app (z := z) (n := 2) (w := [92, 117]) rfl c3
      rw [if_pos c3] at h
      rw [if_pos e1, e2]
      cases h2 : unitL 4 0 (r.drop 2) with
      | none => rw [h2] at h; cases h
      | some q =>
        obtain ⟨low, r2⟩ := q
        rw [h2] at h
        rw [show unitL 4 0 (r.drop 2 ++ z) = some (low, r2 ++ z) from unitL_S z _ _ _ _ h2]
        dsimp only at h ⊢
        by_cases c4 : low < 56320 ∨ 57343 < low
        · rw [if_pos c4] at h; cases h
        rw [if_neg c4] at h ⊢
        cases h; rfl
    · rw [if_neg c3] at h; cases h
theorem escL_S (z : List UInt8) (l : List UInt8) (p : List UInt8 × List UInt8) (h : escL l = some p) : escL (l ++ z) = some (ext z p) := by
  cases l with
  | nil => unfold escL at h; cases h
  | cons c l =>
    rw [List.cons_append]
    unfold escL at h ⊢
    simp only at h ⊢
    by_cases c1 : c = 34 ∨ c = 92 ∨ c = 47
    · rw [if_pos c1] at h ⊢; cases h; rfl
    rw [if_neg c1] at h ⊢
    by_cases c2 : c = 98
    · rw [if_pos c2] at h ⊢; cases h; rfl
    rw [if_neg c2] at h ⊢
    by_cases c3 : c = 102
    · rw [if_pos c3] at h ⊢; cases h; rfl
    rw [if_neg c3] at h ⊢
    by_cases c4 : c = 110
    · rw [if_pos c4] at h ⊢; cases h; rfl
    rw [if_neg c4] at h ⊢
    by_cases c5 : c = 114
    · rw [if_pos c5] at h ⊢; cases h; rfl
    rw [if_neg c5] at h ⊢
    by_cases c6 : c = 116
    · rw [if_pos c6] at h ⊢; cases h; rfl
    rw [if_neg c6] at h ⊢
    by_cases c7 : c = 117
    · rw [if_pos c7] at h ⊢
      cases hp : pointL l with
      | none => rw [hp] at h; cases h
      | some q => rw [hp] at h; rw [pointL_S z l q hp]; cases h; rfl
    · rw [if_neg c7] at h; cases h
theorem decL_S (z : List UInt8) {l : List UInt8} {x : Int} {m : Nat} (h : decL l = some (x, m)) : decL (l ++ z) = some (x, m) := by
  obtain ⟨h1, h2, h3⟩ := decL_some l x m h
  rw [h3, List.append_assoc, decL_put x _ h1, h2]
theorem textT_S (z : List UInt8) : ∀ (k : Nat) (l acc : List UInt8) (p : List UInt8 × List UInt8), l.length ≤ k → textT l acc = some p → textT (l ++ z) acc = some (ext z p)
  | 0, l, acc, p, hk, h => by
    have : l = [] := List.eq_nil_of_length_eq_zero (by omega)
    subst this
    rw [textT_nil] at h; cases h
  | k + 1, [], acc, p, hk, h => by rw [textT_nil] at h; cases h
  | k + 1, c :: l, acc, p, hk, h => by
    simp only [List.length_cons] at hk
    rw [textT_cons] at h
    rw [List.cons_append, textT_cons]
    by_cases c1 : c < 32
    · rw [if_pos c1] at h; cases h
    rw [if_neg c1] at h ⊢
    by_cases c2 : c = 34
    · rw [if_pos c2] at h ⊢; cases h; rfl
    rw [if_neg c2] at h ⊢
    by_cases c3 : c = 92
    · rw [if_pos c3] at h ⊢
      cases he : escL l with
      | none => rw [he] at h; cases h
      | some q =>
        obtain ⟨b, r2⟩ := q
        have := (escL_le he).2
        rw [he] at h
        rw [show escL (l ++ z) = some (b, r2 ++ z) from escL_S z l _ he]
        exact textT_S z k _ _ p (by omega) h
    rw [if_neg c3] at h ⊢
    cases hd : decL (c :: l) with
    | none => rw [hd] at h; cases h
    | some q =>
      obtain ⟨x, m⟩ := q
      rw [hd] at h
      have hz := decL_S z hd
      rw [List.cons_append] at hz
      rw [hz]
      have hm := dec_le _ _ _ hd
      have hdl := List.length_drop (l := c :: l) (i := m)
      simp only [List.length_cons] at hdl hm
      have e1 : (c :: (l ++ z)).drop m = (c :: l).drop m ++ z := by rw [← List.cons_append]; exact List.drop_append_of_le_length (by simp; omega)
      have e2 : (c :: (l ++ z)).take m = (c :: l).take m := by rw [← List.cons_append]; exact List.take_append_of_le_length (by simp; omega)
      simp only
      rw [e1, e2]
      exact textT_S z k _ _ p (by omega) h
theorem head_app {l : List UInt8} {c : UInt8} (h : l.head? = some c) (z : List UInt8) : (l ++ z).head? = some c := by
  cases l with
  | nil => cases h
  | cons a l => exact h
theorem head_app_ne {l : List UInt8} (h : l ≠ []) (z : List UInt8) : (l ++ z).head? = l.head? ∧ (l ++ z).tail = l.tail ++ z := by
  cases l with
  | nil => exact absurd rfl h
  | cons a l => exact ⟨rfl, rfl⟩
theorem ne_of_head {l : List UInt8} {c : UInt8} (h : l.head? = some c) : l ≠ [] := fun e => by rw [e] at h; cases h
theorem textL_S (z : List UInt8) {l : List UInt8} {p : List UInt8 × List UInt8} (h : textL l = some p) : textL (l ++ z) = some (ext z p) := by
  unfold textL at h ⊢
  by_cases hh : l.head? = some 34
  · rw [if_pos hh] at h
    rw [if_pos (head_app hh z), (head_app_ne (ne_of_head hh) z).2]
    exact textT_S z _ _ _ p (Nat.le_refl _) h
  · rw [if_neg hh] at h; cases h
theorem tw_app (z : List UInt8) : ∀ (l : List UInt8), (l.dropWhile digB ≠ [] ∨ ∀ c, z.head? = some c → digB c = false) → (l ++ z).takeWhile digB = l.takeWhile digB ∧ (l ++ z).dropWhile digB = l.dropWhile digB ++ z
  | [], h => by
    rcases h with h | h
    · exact absurd rfl h
    · cases z with
      | nil => exact ⟨rfl, rfl⟩
      | cons c z =>
        have := h c rfl
        simp [List.takeWhile_cons, List.dropWhile_cons, this]
  | a :: l, h => by
    by_cases ha : digB a = true
    · have := tw_app z l (by
        rcases h with h | h
        · left; simpa [List.dropWhile_cons, ha] using h
        · exact .inr h)
      simp [List.takeWhile_cons, List.dropWhile_cons, ha, this.1, this.2]
    · simp [List.takeWhile_cons, List.dropWhile_cons, ha]
theorem numTail_app (neg : Bool) (l z : List UInt8) (h : l.dropWhile digB ≠ [] ∨ numEnd z) : numTail neg (l ++ z) = (numTail neg l).map (ext z) := by
  obtain ⟨e1, e2⟩ := tw_app z l (by rcases h with h | h; exact .inl h; exact .inr (fun c hc => (h c hc).1))
  unfold numTail
  rw [e1, e2]
  have e3 : pointB (l.dropWhile digB ++ z) = pointB (l.dropWhile digB) := by
    cases hd : l.dropWhile digB with
    | nil =>
      rcases h with h | h
      · exact absurd hd h
      · rw [List.nil_append, point_end h]; rfl
    | cons a d => rfl
  rw [e3]
  by_cases hl : l = []
  · subst hl
    rw [if_pos (.inl rfl), if_pos (.inl rfl)]; rfl
  rw [(head_app_ne hl z).1]
  split
  · rfl
  · rfl
theorem numL_app (l z : List UInt8) (hl : l ≠ []) (h : numEnd z ∨ ∀ p, numL l = some p → p.2 ≠ []) : numL (l ++ z) = (numL l).map (ext z) ∨ numL l = none := by
  unfold numL at h ⊢
  rw [(head_app_ne hl z).1, (head_app_ne hl z).2]
  have key : ∀ (neg : Bool) (t : List UInt8), (numEnd z ∨ ∀ p, numTail neg t = some p → p.2 ≠ []) → numTail neg (t ++ z) = (numTail neg t).map (ext z) ∨ numTail neg t = none := by
    intro neg t h
    cases hn : numTail neg t with
    | none => exact .inr rfl
    | some p =>
      left
      rw [numTail_app neg t z, hn]
      rcases h with h | h
      · exact .inr h
      · left
        have := h p hn
        unfold numTail at hn
        split at hn
        · cases hn
        · cases hn; exact this
  split
  · rename_i hh
    rw [if_pos hh] at h
    exact key true _ h
  · rename_i hh
    rw [if_neg hh] at h
    exact key false _ h
theorem numL_nil : numL [] = none := by
  unfold numL numTail
  rw [if_neg (by simp), if_pos (.inl rfl)]
def kindN : Nd → Int
  | .mk k _ _ _ _ => k
def tailOk (n : Nd) (r z : List UInt8) : Prop := r ≠ [] ∨ kindN n ≠ 4 ∨ numEnd z
theorem numL_head {l : List UInt8} {p : Int × List UInt8} (h : numL l = some p) : ∃ c, l.head? = some c ∧ (c = 45 ∨ digB c = true) := by
  cases l with
  | nil => rw [numL_nil] at h; cases h
  | cons c l =>
    refine ⟨c, rfl, ?_⟩
    by_cases hc : c = 45
    · exact .inl hc
    · right
      unfold numL at h
      rw [if_neg (by simpa using hc)] at h
      unfold numTail at h
      cases hd : digB c with
      | true => rfl
      | false =>
        rw [if_pos (.inl (by simp [List.takeWhile_cons, hd]))] at h
        cases h
theorem val_S (z : List UInt8) : ∀ (N : Nat),
    (∀ deep l n r, 2 * l.length ≤ N → valL deep l = .ok (n, r) → tailOk n r z → valL deep (l ++ z) = .ok (n, r ++ z)) ∧
    (∀ deep l ns n r, 2 * l.length + 1 ≤ N → arrL deep l ns = .ok (n, r) → arrL deep (l ++ z) ns = .ok (n, r ++ z)) ∧
    (∀ deep l ks ns n r, 2 * l.length + 1 ≤ N → objL deep l ks ns = .ok (n, r) → objL deep (l ++ z) ks ns = .ok (n, r ++ z)) := by
  intro N
  induction N using Nat.strongRecOn with
  | _ N ih =>
    refine ⟨?_, ?_, ?_⟩
    · intro deep l n r hN h hT
      by_cases h91 : l.head? = some 91
      · by_cases h24 : 24 ≤ deep
        · rw [valL_deep deep l (.inl h91) h24] at h; cases h
        rw [valL_arr deep l h91 h24] at h
        rw [valL_arr deep _ (head_app h91 z) h24, (head_app_ne (ne_of_head h91) z).2]
        have ht := tail_lt h91
        have hb := blanksL_le l.tail
        by_cases hbe : blanksL l.tail = []
        · rw [hbe] at h
          rw [if_neg (by simp), arrL_eq] at h
          have : valL (deep + 1) (blanksL []) = .error 3 := by
            show valL (deep + 1) [] = _
            rw [valL_else _ _ (by simp) (by simp) (by simp), if_neg (by simp), if_neg (by simp), if_neg (by simp), numL_nil]
          rw [this] at h; cases h
        rw [bl_app hbe, (head_app_ne hbe z).1, (head_app_ne hbe z).2]
        split
        · rename_i h93
          rw [if_pos h93] at h
          cases h; rfl
        · rename_i h93
          rw [if_neg h93] at h
          exact (ih (2 * (blanksL l.tail).length + 1) (by omega)).2.1 deep _ _ n r (Nat.le_refl _) h
      by_cases h123 : l.head? = some 123
      · by_cases h24 : 24 ≤ deep
        · rw [valL_deep deep l (.inr h123) h24] at h; cases h
        rw [valL_obj deep l h123 h24] at h
        rw [valL_obj deep _ (head_app h123 z) h24, (head_app_ne (ne_of_head h123) z).2]
        have ht := tail_lt h123
        have hb := blanksL_le l.tail
        by_cases hbe : blanksL l.tail = []
        · rw [hbe] at h
          rw [if_neg (by simp), objL_eq] at h
          have : textL (blanksL []) = none := by
            show textL [] = none
            unfold textL
            rw [if_neg (by simp)]
          rw [this] at h; cases h
        rw [bl_app hbe, (head_app_ne hbe z).1, (head_app_ne hbe z).2]
        split
        · rename_i h93
          rw [if_pos h93] at h
          cases h; rfl
        · rename_i h93
          rw [if_neg h93] at h
          exact (ih (2 * (blanksL l.tail).length + 1) (by omega)).2.2 deep _ _ _ n r (Nat.le_refl _) h
      by_cases h34 : l.head? = some 34
      · rw [valL_str deep l h34] at h
        rw [valL_str deep _ (head_app h34 z)]
        cases ht : textL l with
        | none => rw [ht] at h; cases h
        | some p =>
          obtain ⟨t, r'⟩ := p
          rw [ht] at h
          rw [show textL (l ++ z) = some (t, r' ++ z) from textL_S z ht]
          simp only [Except.ok.injEq, Prod.mk.injEq] at h
          obtain ⟨rfl, rfl⟩ := h
          rfl
      rw [valL_else deep l h91 h123 h34] at h
      by_cases t1 : l.take 4 = [110, 117, 108, 108]
      · rw [if_pos t1] at h
        obtain ⟨e1, e2⟩ := take_app (z := z) (n := 4) (w := [110, 117, 108, 108]) rfl t1
        have hh := take_head e1
        rw [valL_else deep _ (by rw [hh]; simp) (by rw [hh]; simp) (by rw [hh]; simp), if_pos e1, e2]
        cases h; rfl
      rw [if_neg t1] at h
      by_cases t2 : l.take 5 = [102, 97, 108, 115, 101]
      · rw [if_pos t2] at h
        obtain ⟨e1, e2⟩ := take_app (z := z) (n := 5) (w := [102, 97, 108, 115, 101]) rfl t2
        have hh := take_head e1
        rw [valL_else deep _ (by rw [hh]; simp) (by rw [hh]; simp) (by rw [hh]; simp), if_neg (fun e => by have := take_head e; rw [hh] at this; simp at this), if_pos e1, e2]
        cases h; rfl
      rw [if_neg t2] at h
      by_cases t3 : l.take 4 = [116, 114, 117, 101]
      · rw [if_pos t3] at h
        obtain ⟨e1, e2⟩ := take_app (z := z) (n := 4) (w := [116, 114, 117, 101]) rfl t3
        have hh := take_head e1
        rw [valL_else deep _ (by rw [hh]; simp) (by rw [hh]; simp) (by rw [hh]; simp), if_neg (fun e => by have := take_head e; rw [hh] at this; simp at this), if_neg (fun e => by have := take_head e; rw [hh] at this; simp at this), if_pos e1, e2]
        cases h; rfl
      rw [if_neg t3] at h
      cases ht : numL l with
      | none => rw [ht] at h; cases h
      | some p =>
        obtain ⟨m, r'⟩ := p
        obtain ⟨c, hc, hd⟩ := numL_head ht
        rw [ht] at h
        simp only [Except.ok.injEq, Prod.mk.injEq] at h
        obtain ⟨rfl, rfl⟩ := h
        rw [valL_num deep _ c (head_app hc z) hd]
        rcases numL_app l z (ne_of_head hc) (by
          rcases hT with h | h | h
          · right; intro p hp; rw [ht] at hp; cases hp; exact h
          · exact absurd rfl h
          · exact .inl h) with e | e
        · rw [e, ht]; rfl
        · rw [e] at ht; cases ht
    · intro deep l ns n r hN h
      rw [arrL_eq] at h ⊢
      have hb := blanksL_le l
      cases hv : valL (deep + 1) (blanksL l) with
      | error e => rw [hv] at h; cases h
      | ok p =>
        obtain ⟨x, r1⟩ := p
        have hr1 := (valL_le hv).2
        have hbe : blanksL l ≠ [] := fun e => by rw [e] at hr1; simp at hr1
        rw [hv] at h
        simp only at h
        have hb1 := blanksL_le r1
        have hr1e : blanksL r1 ≠ [] := fun e => by rw [e] at h; simp at h
        have hr1n : r1 ≠ [] := fun e => hr1e (by rw [e]; rfl)
        rw [bl_app hbe, (ih (2 * (blanksL l).length) (by omega)).1 (deep + 1) _ x r1 (Nat.le_refl _) hv (.inl hr1n)]
        simp only
        rw [bl_app hr1e, (head_app_ne hr1e z).1, (head_app_ne hr1e z).2]
        split
        · rename_i h93
          rw [if_pos h93] at h
          cases h; rfl
        · rename_i h93
          rw [if_neg h93] at h
          split
          · rename_i h44
            rw [if_pos h44] at h
            have ht := tail_lt h44
            exact (ih (2 * (blanksL r1).tail.length + 1) (by omega)).2.1 deep _ _ n r (Nat.le_refl _) h
          · rename_i h44
            rw [if_neg h44] at h; cases h
    · intro deep l ks ns n r hN h
      rw [objL_eq] at h ⊢
      have hb := blanksL_le l
      cases ht : textL (blanksL l) with
      | none => rw [ht] at h; cases h
      | some p =>
        obtain ⟨k, r0⟩ := p
        rw [ht] at h
        simp only at h
        have hr0 := (textL_le ht).2
        have hbe : blanksL l ≠ [] := fun e => by rw [e] at hr0; simp at hr0
        have hb0 := blanksL_le r0
        rw [bl_app hbe, show textL (blanksL l ++ z) = some (k, r0 ++ z) from textL_S z ht]
        simp only
        split
        · rename_i hany
          rw [if_pos hany] at h; cases h
        rename_i hany
        rw [if_neg hany] at h
        have hr0e : blanksL r0 ≠ [] := fun e => by rw [e] at h; simp at h
        rw [bl_app hr0e, (head_app_ne hr0e z).1, (head_app_ne hr0e z).2]
        by_cases h58 : (blanksL r0).head? = some 58
        · rw [if_pos h58] at h ⊢
          have h58 := tail_lt h58
          have hb2 := blanksL_le (blanksL r0).tail
          cases hv : valL (deep + 1) (blanksL (blanksL r0).tail) with
          | error e => rw [hv] at h; cases h
          | ok p =>
            obtain ⟨x, r1⟩ := p
            rw [hv] at h
            simp only at h
            have hr1 := (valL_le hv).2
            have hb1 := blanksL_le r1
            have hte : blanksL (blanksL r0).tail ≠ [] := fun e => by rw [e] at hr1; simp at hr1
            have hr1e : blanksL r1 ≠ [] := fun e => by rw [e] at h; simp at h
            have hr1n : r1 ≠ [] := fun e => hr1e (by rw [e]; rfl)
            rw [bl_app hte, (ih (2 * (blanksL (blanksL r0).tail).length) (by omega)).1 (deep + 1) _ x r1 (Nat.le_refl _) hv (.inl hr1n)]
            simp only
            rw [bl_app hr1e, (head_app_ne hr1e z).1, (head_app_ne hr1e z).2]
            split
            · rename_i h93
              rw [if_pos h93] at h
              cases h; rfl
            · rename_i h93
              rw [if_neg h93] at h
              split
              · rename_i h44
                rw [if_pos h44] at h
                have ht := tail_lt h44
                exact (ih (2 * (blanksL r1).tail.length + 1) (by omega)).2.2 deep _ _ _ n r (Nat.le_refl _) h
              · rename_i h44
                rw [if_neg h44] at h; cases h
        · rw [if_neg h58] at h; cases h
end Go.Proofs.Ytnhoecmcbikcnaa
/-! Plain laws of reading JSON: blanks behind what cannot be read change nothing. -/
namespace Go.Proofs.Ytnhoecmcbikcnaa
open Go.RowKit Go.PlainAid
set_option linter.unusedVariables false
set_option linter.unusedSimpArgs false
theorem unitL_F {z : List UInt8} (hz : Bz z) : ∀ (k : Nat) (n : Int) (l : List UInt8), unitL k n l = none → unitL k n (l ++ z) = none
  | 0, n, l, h => by unfold unitL at h; cases h
  | k + 1, n, [], h => by
    cases z with
    | nil => exact h
    | cons c z =>
      have : hexD c = none := by rcases blank_cases (hz c (by simp)) with rfl | rfl | rfl | rfl <;> decide
      rw [List.nil_append]
      unfold unitL
      rw [this]
  | k + 1, n, c :: l, h => by
    unfold unitL at h
    rw [List.cons_append]
    unfold unitL
    cases hc : hexD c with
    | none => rfl
    | some x => rw [hc] at h; exact unitL_F hz k _ l h
theorem pointL_F {z : List UInt8} (hz : Bz z) (l : List UInt8) (h : pointL l = none) : pointL (l ++ z) = none := by
  unfold pointL at h ⊢
  cases h1 : unitL 4 0 l with
  | none => rw [unitL_F hz _ _ _ h1]
  | some q =>
    obtain ⟨n, r⟩ := q
    rw [h1] at h
    rw [show unitL 4 0 (l ++ z) = some (n, r ++ z) from unitL_S z _ _ _ _ h1]
    dsimp only at h ⊢
    by_cases c1 : n < 55296 ∨ 57343 < n
    · rw [if_pos c1] at h; cases h
    rw [if_neg c1] at h ⊢
    by_cases c2 : 56320 ≤ n
    · rw [if_pos c2]
    rw [if_neg c2] at h ⊢
    by_cases c3 : r.take 2 = [92, 117]
    · obtain ⟨e1, e2⟩ := take_app (z := z) (n := 2) (w := [92, 117]) rfl c3
      rw [if_pos c3] at h
      rw [if_pos e1, e2]
      cases h2 : unitL 4 0 (r.drop 2) with
      | none => rw [unitL_F hz _ _ _ h2]
      | some q =>
        obtain ⟨low, r2⟩ := q
        rw [h2] at h
        rw [show unitL 4 0 (r.drop 2 ++ z) = some (low, r2 ++ z) from unitL_S z _ _ _ _ h2]
        dsimp only at h ⊢
        by_cases c4 : low < 56320 ∨ 57343 < low
        · rw [if_pos c4]
        rw [if_neg c4] at h
        cases h
    · rw [if_neg]
      intro e
      have := take_bl (w := [92, 117]) (n := 2) hz (by decide) rfl e
      rw [List.take_append_of_le_length this] at e
      exact c3 e
theorem escL_F {z : List UInt8} (hz : Bz z) (l : List UInt8) (h : escL l = none) : escL (l ++ z) = none := by
  cases l with
  | nil =>
    cases z with
    | nil => exact h
    | cons c z =>
      rcases blank_cases (hz c (by simp)) with rfl | rfl | rfl | rfl <;> rfl
  | cons c l =>
    rw [List.cons_append]
    unfold escL at h ⊢
    simp only at h ⊢
    by_cases c1 : c = 34 ∨ c = 92 ∨ c = 47
    · rw [if_pos c1] at h; cases h
    rw [if_neg c1] at h ⊢
    by_cases c2 : c = 98
    · rw [if_pos c2] at h; cases h
    rw [if_neg c2] at h ⊢
    by_cases c3 : c = 102
    · rw [if_pos c3] at h; cases h
    rw [if_neg c3] at h ⊢
    by_cases c4 : c = 110
    · rw [if_pos c4] at h; cases h
    rw [if_neg c4] at h ⊢
    by_cases c5 : c = 114
    · rw [if_pos c5] at h; cases h
    rw [if_neg c5] at h ⊢
    by_cases c6 : c = 116
    · rw [if_pos c6] at h; cases h
    rw [if_neg c6] at h ⊢
    by_cases c7 : c = 117
    · rw [if_pos c7] at h ⊢
      cases hp : pointL l with
      | none => rw [pointL_F hz l hp]
      | some q => rw [hp] at h; cases h
    · rw [if_neg c7]
theorem decL_F {z : List UInt8} (hz : Bz z) {l : List UInt8} (hl : l ≠ []) (h : decL l = none) : decL (l ++ z) = none := by
  cases hd : decL (l ++ z) with
  | none => rfl
  | some p =>
    exfalso
    obtain ⟨x, m⟩ := p
    obtain ⟨h1, h2, h3⟩ := decL_some _ x m hd
    have hm := dec_le _ _ _ hd
    by_cases hle : m ≤ l.length
    · have : l = putB x ++ l.drop m := by
        have e : (l ++ z).take m = putB x := by rw [h3, h2]; simp
        rw [List.take_append_of_le_length hle] at e
        rw [← e]; exact (List.take_append_drop m l).symm
      rw [this, decL_put x _ h1] at h; cases h
    · cases z with
      | nil => simp at hm; omega
      | cons c z =>
        have hc : c ∈ putB x := by
          have e : (l ++ c :: z).take m = putB x := by rw [h3, h2]; simp
          rw [← e]
          refine List.mem_of_getElem? (i := l.length) ?_
          rw [List.getElem?_take, if_pos (by omega), List.getElem?_append_right (Nat.le_refl _), Nat.sub_self]
          rfl
        have hb : c.toNat < 128 := by rcases blank_cases (hz c (by simp)) with rfl | rfl | rfl | rfl <;> decide
        by_cases hx : x < 128
        · obtain ⟨d, e1, e2⟩ := low_one x h1 hx
          rw [e1] at h2
          have := List.length_pos_iff.2 hl
          simp at h2; omega
        · have := high_all x h1 (by omega) c hc; omega
theorem textT_bz : ∀ (z acc : List UInt8), Bz z → textT z acc = none
  | [], acc, _ => textT_nil acc
  | c :: z, acc, h => by
    rw [textT_cons]
    rcases blank_cases (h c (by simp)) with rfl | rfl | rfl | rfl
    · rw [if_neg (by decide), if_neg (by decide), if_neg (by decide)]
      have : decL (32 :: z) = some (32, 1) := decL_put 32 z (by decide)
      rw [this]
      exact textT_bz z _ (fun x hx => h x (by simp [hx]))
    · rw [if_pos (by decide)]
    · rw [if_pos (by decide)]
    · rw [if_pos (by decide)]
theorem textT_F {z : List UInt8} (hz : Bz z) : ∀ (k : Nat) (l acc : List UInt8), l.length ≤ k → textT l acc = none → textT (l ++ z) acc = none
  | 0, l, acc, hk, h => by
    have : l = [] := List.eq_nil_of_length_eq_zero (by omega)
    subst this
    exact textT_bz z acc hz
  | k + 1, [], acc, hk, h => textT_bz z acc hz
  | k + 1, c :: l, acc, hk, h => by
    simp only [List.length_cons] at hk
    rw [textT_cons] at h
    rw [List.cons_append, textT_cons]
    by_cases c1 : c < 32
    · rw [if_pos c1]
    rw [if_neg c1] at h ⊢
    by_cases c2 : c = 34
    · rw [if_pos c2] at h; cases h
    rw [if_neg c2] at h ⊢
    by_cases c3 : c = 92
    · rw [if_pos c3] at h ⊢
      cases he : escL l with
      | none => rw [escL_F hz l he]
      | some q =>
        obtain ⟨b, r2⟩ := q
        have := (escL_le he).2
        rw [he] at h
        rw [show escL (l ++ z) = some (b, r2 ++ z) from escL_S z l _ he]
        exact textT_F hz k _ _ (by omega) h
    rw [if_neg c3] at h ⊢
    cases hd : decL (c :: l) with
    | none =>
      have := decL_F hz (by simp) hd
      rw [List.cons_append] at this
      rw [this]
    | some q =>
      obtain ⟨x, m⟩ := q
      rw [hd] at h
      have hz' := decL_S z hd
      rw [List.cons_append] at hz'
      rw [hz']
      have hm := dec_le _ _ _ hd
      have hdl := List.length_drop (l := c :: l) (i := m)
      simp only [List.length_cons] at hdl hm
      have e1 : (c :: (l ++ z)).drop m = (c :: l).drop m ++ z := by rw [← List.cons_append]; exact List.drop_append_of_le_length (by simp; omega)
      have e2 : (c :: (l ++ z)).take m = (c :: l).take m := by rw [← List.cons_append]; exact List.take_append_of_le_length (by simp; omega)
      simp only
      rw [e1, e2]
      exact textT_F hz k _ _ (by omega) h
theorem textL_F {z : List UInt8} (hz : Bz z) {l : List UInt8} (h : textL l = none) : textL (l ++ z) = none := by
  unfold textL at h ⊢
  by_cases hh : l.head? = some 34
  · rw [if_pos hh] at h
    rw [if_pos (head_app hh z), (head_app_ne (ne_of_head hh) z).2]
    exact textT_F hz _ _ _ (Nat.le_refl _) h
  · rw [if_neg]
    intro e
    cases l with
    | nil =>
      cases z with
      | nil => cases e
      | cons c z =>
        have hb := hz c (by simp)
        simp at e; subst e
        revert hb; decide
    | cons a l => exact hh e
theorem head_bz {z : List UInt8} (hz : Bz z) {c : UInt8} (hc : blankB c = false) : z.head? ≠ some c := by
  intro e
  cases z with
  | nil => cases e
  | cons a z => simp at e; subst e; have := hz a (by simp); rw [hc] at this; cases this
theorem numL_bz {z : List UInt8} (hz : Bz z) : numL z = none := by
  cases h : numL z with
  | none => rfl
  | some p =>
    obtain ⟨c, hc, hd⟩ := numL_head h
    exact absurd hc (head_bz hz (dig_no hd).1)
theorem numL_F {z : List UInt8} (hz : Bz z) {l : List UInt8} (h : numL l = none) : numL (l ++ z) = none := by
  by_cases hl : l = []
  · subst hl; exact numL_bz hz
  unfold numL at h ⊢
  rw [(head_app_ne hl z).1, (head_app_ne hl z).2]
  split
  · rename_i hh
    rw [if_pos hh] at h
    rw [numTail_app _ _ _ (.inr hz.numEnd), h]; rfl
  · rename_i hh
    rw [if_neg hh] at h
    rw [numTail_app _ _ _ (.inr hz.numEnd), h]; rfl
theorem valL_bz {z : List UInt8} (hz : Bz z) (deep : Nat) : valL deep z = .error 3 := by
  have hn : ∀ (n : Nat) (w : List UInt8) (c : UInt8) (t : List UInt8), w = c :: t → blankB c = false → z.take n ≠ w := fun n w c t e hc h => head_bz hz hc (take_head (h.trans e))
  rw [valL_else deep z (head_bz hz (by decide)) (head_bz hz (by decide)) (head_bz hz (by decide)), if_neg (hn _ _ _ _ rfl (by decide)), if_neg (hn _ _ _ _ rfl (by decide)), if_neg (hn _ _ _ _ rfl (by decide)), numL_bz hz]
theorem val_F {z : List UInt8} (hz : Bz z) : ∀ (N : Nat),
    (∀ deep l e, 2 * l.length ≤ N → valL deep l = .error e → valL deep (l ++ z) = .error e) ∧
    (∀ deep l ns e, 2 * l.length + 1 ≤ N → arrL deep l ns = .error e → arrL deep (l ++ z) ns = .error e) ∧
    (∀ deep l ks ns e, 2 * l.length + 1 ≤ N → objL deep l ks ns = .error e → objL deep (l ++ z) ks ns = .error e) := by
  intro N
  induction N using Nat.strongRecOn with
  | _ N ih =>
    have hnil : Bz [] := fun c hc => by simp at hc
    refine ⟨?_, ?_, ?_⟩
    · intro deep l e hN h
      by_cases hl : l = []
      · subst hl
        rw [valL_bz hnil deep] at h
        rw [List.nil_append, valL_bz hz deep]
        exact h
      by_cases h91 : l.head? = some 91
      · by_cases h24 : 24 ≤ deep
        · rw [valL_deep deep l (.inl h91) h24] at h
          rw [valL_deep deep _ (.inl (head_app h91 z)) h24]; exact h
        rw [valL_arr deep l h91 h24] at h
        rw [valL_arr deep _ (head_app h91 z) h24, (head_app_ne hl z).2]
        have ht := tail_lt h91
        have hb := blanksL_le l.tail
        by_cases hbe : blanksL l.tail = []
        · rw [bl_none hbe hz]
          rw [hbe] at h
          exact h
        rw [bl_app hbe, (head_app_ne hbe z).1, (head_app_ne hbe z).2]
        split
        · rename_i h93
          rw [if_pos h93] at h
          cases h
        · rename_i h93
          rw [if_neg h93] at h
          exact (ih (2 * (blanksL l.tail).length + 1) (by omega)).2.1 deep _ _ e (Nat.le_refl _) h
      by_cases h123 : l.head? = some 123
      · by_cases h24 : 24 ≤ deep
        · rw [valL_deep deep l (.inr h123) h24] at h
          rw [valL_deep deep _ (.inr (head_app h123 z)) h24]; exact h
        rw [valL_obj deep l h123 h24] at h
        rw [valL_obj deep _ (head_app h123 z) h24, (head_app_ne hl z).2]
        have ht := tail_lt h123
        have hb := blanksL_le l.tail
        by_cases hbe : blanksL l.tail = []
        · rw [bl_none hbe hz]
          rw [hbe] at h
          exact h
        rw [bl_app hbe, (head_app_ne hbe z).1, (head_app_ne hbe z).2]
        split
        · rename_i h93
          rw [if_pos h93] at h
          cases h
        · rename_i h93
          rw [if_neg h93] at h
          exact (ih (2 * (blanksL l.tail).length + 1) (by omega)).2.2 deep _ _ _ e (Nat.le_refl _) h
      by_cases h34 : l.head? = some 34
      · rw [valL_str deep l h34] at h
        rw [valL_str deep _ (head_app h34 z)]
        cases ht : textL l with
        | none => rw [ht] at h; rw [textL_F hz ht]; exact h
        | some p => rw [ht] at h; cases h
      rw [valL_else deep l h91 h123 h34] at h
      have hh := (head_app_ne hl z).1
      rw [valL_else deep (l ++ z) (by rw [hh]; exact h91) (by rw [hh]; exact h123) (by rw [hh]; exact h34)]
      have tk : ∀ (n : Nat) (w : List UInt8), (∀ c ∈ w, blankB c = false) → w.length = n → l.take n ≠ w → (l ++ z).take n ≠ w := fun n w hw hn hne e => by
        have := take_bl hz hw hn e
        rw [List.take_append_of_le_length this] at e
        exact hne e
      by_cases t1 : l.take 4 = [110, 117, 108, 108]
      · rw [if_pos t1] at h; cases h
      rw [if_neg t1] at h
      rw [if_neg (tk 4 _ (by decide) rfl t1)]
      by_cases t2 : l.take 5 = [102, 97, 108, 115, 101]
      · rw [if_pos t2] at h; cases h
      rw [if_neg t2] at h
      rw [if_neg (tk 5 _ (by decide) rfl t2)]
      by_cases t3 : l.take 4 = [116, 114, 117, 101]
      · rw [if_pos t3] at h; cases h
      rw [if_neg t3] at h
      rw [if_neg (tk 4 _ (by decide) rfl t3)]
      cases ht : numL l with
      | none => rw [ht] at h; rw [numL_F hz ht]; exact h
      | some p => rw [ht] at h; cases h
    · intro deep l ns e hN h
      have hb := blanksL_le l
      have hv2 : valL (deep + 1) (blanksL (l ++ z)) = match valL (deep + 1) (blanksL l) with | .error e => .error e | .ok (n, r) => if blanksL l = [] then .ok (n, r) else valL (deep + 1) (blanksL l ++ z) := by
        by_cases hbe : blanksL l = []
        · rw [bl_none hbe hz, hbe, valL_bz hnil]
        · rw [bl_app hbe]
          cases hv : valL (deep + 1) (blanksL l) with
          | error e => exact (ih (2 * (blanksL l).length) (by omega)).1 _ _ e (Nat.le_refl _) hv
          | ok p => simp only; rw [if_neg hbe]
      rw [arrL_eq] at h ⊢
      rw [hv2]
      cases hv : valL (deep + 1) (blanksL l) with
      | error e => rw [hv] at h; exact h
      | ok p =>
        obtain ⟨x, r1⟩ := p
        have hr1 := (valL_le hv).2
        have hbe : blanksL l ≠ [] := fun e => by rw [e] at hr1; simp at hr1
        rw [hv] at h
        simp only at h ⊢
        rw [if_neg hbe, (val_S z _).1 (deep + 1) _ x r1 (Nat.le_refl _) hv (.inr (.inr hz.numEnd))]
        have hb1 := blanksL_le r1
        simp only
        by_cases hr1e : blanksL r1 = []
        · rw [bl_none hr1e hz]
          rw [hr1e] at h
          exact h
        rw [bl_app hr1e, (head_app_ne hr1e z).1, (head_app_ne hr1e z).2]
        split
        · rename_i h93
          rw [if_pos h93] at h
          cases h
        · rename_i h93
          rw [if_neg h93] at h
          split
          · rename_i h44
            rw [if_pos h44] at h
            have ht := tail_lt h44
            exact (ih (2 * (blanksL r1).tail.length + 1) (by omega)).2.1 deep _ _ e (Nat.le_refl _) h
          · rename_i h44
            rw [if_neg h44] at h; exact h
    · intro deep l ks ns e hN h
      have hb := blanksL_le l
      rw [objL_eq] at h ⊢
      cases ht : textL (blanksL l) with
      | none =>
        rw [ht] at h
        have : textL (blanksL (l ++ z)) = none := by
          by_cases hbe : blanksL l = []
          · rw [bl_none hbe hz, ← hbe]; exact ht
          · rw [bl_app hbe]; exact textL_F hz ht
        rw [this]; exact h
      | some p =>
        obtain ⟨k, r0⟩ := p
        rw [ht] at h
        simp only at h
        have hr0 := (textL_le ht).2
        have hbe : blanksL l ≠ [] := fun e => by rw [e] at hr0; simp at hr0
        have hb0 := blanksL_le r0
        rw [bl_app hbe, show textL (blanksL l ++ z) = some (k, r0 ++ z) from textL_S z ht]
        simp only
        split
        · rename_i hany
          rw [if_pos hany] at h; exact h
        rename_i hany
        rw [if_neg hany] at h
        by_cases hr0e : blanksL r0 = []
        · rw [bl_none hr0e hz]
          rw [hr0e] at h
          exact h
        rw [bl_app hr0e, (head_app_ne hr0e z).1, (head_app_ne hr0e z).2]
        by_cases h58 : (blanksL r0).head? = some 58
        · rw [if_pos h58] at h ⊢
          have h58 := tail_lt h58
          have hb2 := blanksL_le (blanksL r0).tail
          cases hv : valL (deep + 1) (blanksL (blanksL r0).tail) with
          | error e' =>
            rw [hv] at h
            have : valL (deep + 1) (blanksL ((blanksL r0).tail ++ z)) = .error e' := by
              by_cases hte : blanksL (blanksL r0).tail = []
              · rw [bl_none hte hz, ← hte]; exact hv
              · rw [bl_app hte]
                exact (ih (2 * (blanksL (blanksL r0).tail).length) (by omega)).1 _ _ e' (Nat.le_refl _) hv
            rw [this]; exact h
          | ok p =>
            obtain ⟨x, r1⟩ := p
            rw [hv] at h
            simp only at h
            have hr1 := (valL_le hv).2
            have hb1 := blanksL_le r1
            have hte : blanksL (blanksL r0).tail ≠ [] := fun e => by rw [e] at hr1; simp at hr1
            rw [bl_app hte, (val_S z _).1 (deep + 1) _ x r1 (Nat.le_refl _) hv (.inr (.inr hz.numEnd))]
            simp only
            by_cases hr1e : blanksL r1 = []
            · rw [bl_none hr1e hz]
              rw [hr1e] at h
              exact h
            rw [bl_app hr1e, (head_app_ne hr1e z).1, (head_app_ne hr1e z).2]
            split
            · rename_i h93
              rw [if_pos h93] at h
              cases h
            · rename_i h93
              rw [if_neg h93] at h
              split
              · rename_i h44
                rw [if_pos h44] at h
                have ht := tail_lt h44
                exact (ih (2 * (blanksL r1).tail.length + 1) (by omega)).2.2 deep _ _ _ e (Nat.le_refl _) h
              · rename_i h44
                rw [if_neg h44] at h; exact h
        · rw [if_neg h58] at h ⊢; exact h
/-- blanks around a value change nothing -/
theorem parse_blanks (a l z : List UInt8) (ha : Bz a) (hz : Bz z) (hl : a.length + l.length + z.length ≤ 65536) : parseL (a ++ l ++ z) = parseL l := by
  have e0 : blanksL (a ++ l ++ z) = blanksL (l ++ z) := by
    rw [List.append_assoc]
    clear hl
    induction a with
    | nil => rfl
    | cons c a ih =>
      have : blanksL (c :: a ++ (l ++ z)) = blanksL (a ++ (l ++ z)) := by
        unfold blanksL
        rw [List.cons_append, List.dropWhile_cons, if_pos (ha c (by simp))]
      rw [this]
      exact ih (fun x hx => ha x (by simp [hx]))
  unfold parseL
  rw [if_neg (by simp; omega), if_neg (by omega), e0]
  by_cases hbe : blanksL l = []
  · rw [bl_none hbe hz, hbe]
  rw [bl_app hbe]
  cases hv : valL 0 (blanksL l) with
  | error e => rw [(val_F hz _).1 0 _ e (Nat.le_refl _) hv]
  | ok p =>
    obtain ⟨n, r⟩ := p
    rw [(val_S z _).1 0 _ n r (Nat.le_refl _) hv (.inr (.inr hz.numEnd))]
    simp only
    by_cases hr : blanksL r = []
    · rw [bl_none hr hz, hr]
    · rw [bl_app hr, if_neg hr, if_neg (by simp [hr])]
/-- another byte behind a value that is no number -/
theorem parse_more (l : List UInt8) (n : Nd) (c : UInt8) (h : parseL l = .ok n) (hk : kindN n ≠ 4) (hc : blankB c = false) (hl : l.length + 1 ≤ 65536) : parseL (l ++ [c]) = .error 3 := by
  unfold parseL at h ⊢
  rw [if_neg (by omega)] at h
  rw [if_neg (by simp; omega)]
  cases hv : valL 0 (blanksL l) with
  | error e => rw [hv] at h; cases h
  | ok p =>
    obtain ⟨m, r⟩ := p
    rw [hv] at h
    simp only at h
    split at h
    · rename_i hr
      cases h
      have hr1 := (valL_le hv).2
      have hbe : blanksL l ≠ [] := fun e => by rw [e] at hr1; simp at hr1
      rw [bl_app hbe, (val_S [c] _).1 0 _ n r (Nat.le_refl _) hv (.inr (.inl hk))]
      simp only
      rw [if_neg]
      unfold blanksL
      intro e
      rw [dw_nil] at e
      have := e c (by simp)
      rw [hc] at this; cases this
    · cases h
end Go.Proofs.Ytnhoecmcbikcnaa
/-! Plain laws of reading JSON: a value whose text is short is no great one. -/
namespace Go.Proofs.Ytnhoecmcbikcnaa
open Go.RowKit Go.PlainAid
set_option linter.unusedVariables false
set_option linter.unusedSimpArgs false
theorem putU_pos (n : Nd) : 1 ≤ (putU n).length := by
  obtain ⟨c, t, h, _⟩ := putU_head n []
  rw [List.append_nil] at h
  rw [h]; simp
theorem key_len : ∀ (ms : List Nd) (kk : List ByteArray), kk.length = ms.length → ∀ k ∈ kk, k.size ≤ (putL true kk ms true).length
  | [], [], _, k, hk => by simp at hk
  | [], _ :: _, h, _, _ => by simp at h
  | n :: ms, [], h, _, _ => by simp at h
  | n :: ms, a :: kk, h, k, hk => by
    rw [putL_len, if_pos rfl, List.headD_cons, List.tail_cons]
    rcases List.mem_cons.1 hk with rfl | hk
    · have := quote_ge k.toList
      rw [tl_len'] at this
      omega
    · have := key_len ms kk (by simpa using h) k hk
      have hne : ms ≠ [] := by
        rintro rfl
        have : kk = [] := List.eq_nil_of_length_eq_zero (by simpa using h)
        subst this; simp at hk
      rw [if_neg hne]
      omega
mutual
theorem gN_put : ∀ (n : Nd) (deep : Int), rightD n deep = true → gN n + 10 ≤ 60 * (putU n).length ∧ ((putU n).length ≤ 1000000000 → goodN n)
  | .mk k num t ks ns, deep, hr => by
    unfold rightD rightN bareF at hr
    simp only [Bool.and_eq_true, Bool.or_eq_true, beq_iff_eq, decide_eq_true_eq] at hr
    obtain ⟨⟨⟨⟨b1, b2⟩, b3⟩, b4⟩, hr⟩ := hr
    have hp := putU_pos (.mk k num t ks ns)
    have nokid : ¬ (k = 6 ∨ k = 7) → ks = [] ∧ ns = [] := fun h => ⟨List.eq_nil_of_length_eq_zero (by rcases b3 with h' | h'; omega; exact h'), List.eq_nil_of_length_eq_zero (by rcases b4 with (h' | h') | h'; omega; omega; exact h')⟩
    have ht : k ≠ 5 → t = ⟨#[]⟩ := fun h => by rcases b2 with h' | h'; exact absurd h' h; exact h'
    have hnum : -9223372036854775808 ≤ num ∧ num ≤ 9223372036854775807 := by
      rcases hr with ((((rfl | rfl) | rfl) | ⟨rfl, h1, h2⟩) | ⟨rfl, hv⟩) | ⟨⟨⟨h67, hdp⟩, hk⟩, hkid⟩ <;> omega
    by_cases h67 : k = 6 ∨ k = 7
    · have hkid : rightL 9007199254740991 24 ns (deep + 1) = true ∧ (k = 6 ∨ ks.length = ns.length ∧ keysB ks = true) := by
        rcases hr with ((((rfl | rfl) | rfl) | ⟨rfl, _⟩) | ⟨rfl, _⟩) | ⟨⟨⟨_, _⟩, hk⟩, hkid⟩
        · omega
        · omega
        · omega
        · omega
        · omega
        · exact ⟨hkid, hk⟩
      have e2 := ht (by omega)
      subst e2
      have hks : k = 6 → ks = [] := fun h => List.eq_nil_of_length_eq_zero (by rcases b3 with h' | h'; omega; exact h')
      obtain ⟨g1, g2⟩ := gL_put (k == 7) ks ns (deep + 1) hkid.1 (by
        intro h
        have : k = 7 := by simpa using h
        rcases hkid.2 with h' | h'
        · omega
        · exact h'.1) (by
        intro h
        have : k ≠ 7 := by simpa using h
        exact hks (by omega))
      have hput : (putU (.mk k num ⟨#[]⟩ ks ns)).length = 2 + (putL (k == 7) ks ns true).length := by
        unfold putU
        rw [if_neg (by omega), if_neg (by omega), if_neg (by omega), if_neg (by omega), if_neg (by omega)]
        split <;> (simp; omega)
      rw [hput]
      unfold gN goodN
      refine ⟨?_, fun hl => ⟨hnum, fun h => ?_, by decide, ?_, g2 (by omega)⟩⟩
      · have : (⟨#[]⟩ : ByteArray).size = 0 := rfl
        omega
      · rcases hkid.2 with h' | h'
        · omega
        · exact h'.1
      · intro s hs
        by_cases h6 : k = 6
        · rw [hks h6] at hs; cases hs
        · have h7 : k = 7 := by omega
          have hb : (k == 7) = true := by simp [h7]
          rw [hb] at hput hl
          have hlen : ks.length = ns.length := by
            rcases hkid.2 with h' | h'
            · omega
            · exact h'.1
          obtain ⟨i, hi⟩ := List.getElem?_of_mem hs
          have := key_len ns ks hlen s hs
          omega
    · obtain ⟨rfl, rfl⟩ := nokid h67
      unfold gN goodN gL goodL
      by_cases h5 : k = 5
      · subst h5
        have hput : (putU (.mk 5 num t [] [])).length = (quoteU t.toList).length := by
          unfold putU
          rw [if_neg (by omega), if_neg (by omega), if_neg (by omega), if_neg (by omega), if_pos rfl]
        have hq := quote_ge t.toList
        rw [tl_len'] at hq
        rw [hput]
        exact ⟨by omega, fun hl => ⟨hnum, by omega, by omega, by simp, trivial⟩⟩
      · have e2 := ht h5
        subst e2
        have : (⟨#[]⟩ : ByteArray).size = 0 := rfl
        exact ⟨by omega, fun hl => ⟨hnum, by omega, by omega, by simp, trivial⟩⟩
theorem gL_put : ∀ (obj : Bool) (ks : List ByteArray) (ns : List Nd) (deep : Int), rightL 9007199254740991 24 ns deep = true → (obj = true → ks.length = ns.length) → (obj = false → ks = []) →
    gL ks ns ≤ 60 * (putL obj ks ns true).length ∧ ((putL obj ks ns true).length ≤ 1000000000 → goodL ns)
  | obj, ks, [], deep, hr, h1, h2 => by unfold gL goodL; exact ⟨by omega, fun _ => trivial⟩
  | obj, ks, n :: ns, deep, hr, h1, h2 => by
    unfold rightL at hr
    rw [Bool.and_eq_true] at hr
    obtain ⟨g1, g2⟩ := gN_put n deep hr.1
    obtain ⟨g3, g4⟩ := gL_put obj ks.tail ns deep hr.2 (fun h => by have := h1 h; simp at this ⊢; omega) (fun h => by rw [h2 h]; rfl)
    have hl := putL_len obj ks n ns
    have hns : ns = [] → (putL obj ks.tail ns true).length = 0 := fun h => by rw [h]; unfold putL; rfl
    have hle : (putL obj ks.tail ns true).length ≤ (if ns = [] then 0 else 1 + (putL obj ks.tail ns true).length) := by
      split
      · rename_i h; rw [hns h]; exact Nat.le_refl _
      · omega
    unfold gL goodL
    cases obj with
    | true =>
      have hq := quote_ge (ks.headD ⟨#[]⟩).toList
      rw [tl_len'] at hq
      rw [if_pos rfl] at hl
      exact ⟨by omega, fun h => ⟨g2 (by omega), g4 (by omega)⟩⟩
    | false =>
      rw [h2 rfl] at hl ⊢
      rw [if_neg (by simp)] at hl
      have : ([].headD (⟨#[]⟩ : ByteArray)).size = 0 := rfl
      rw [h2 rfl] at g3 g4 hle
      exact ⟨by simp only [List.tail_nil] at *; omega, fun h => ⟨g2 (by omega), g4 (by simp only [List.tail_nil] at *; omega)⟩⟩
end
end Go.Proofs.Ytnhoecmcbikcnaa
/-! The walk of the reference's put. -/
namespace Go.Proofs.Ytnhoecmcbikcnaa
open Go.RowKit Go.PlainAid
set_option linter.unusedVariables false
set_option linter.unusedSimpArgs false
theorem KU.reads {B : Nat} {w w' : World} (h : KU B w w') {size n : Nat} {A : Option Addr} {xs : List Value} (hr : Reads w B size A n xs) : Reads w' B size A n xs := hr.keep fun p hp => h.1.cell hp
theorem KU.nds {B : Nat} {w w' : World} (h : KU B w w') {ns : List Nd} {xs : List Value} (hr : NdsIs w B ns xs) : NdsIs w' B ns xs := NdsIs.keep (fun p hp => h.1.cell hp) _ _ hr
theorem digS_itoa (n : Int) (h : 0 ≤ n) : (digS n).toList = Lib.itoa n := by
  unfold digS
  rw [ByteArray.toList_eq, show max n 0 = n by omega]
theorem itoa_neg' (n : Int) (h : n < 0) : Lib.itoa n = 45 :: Lib.itoa (-n) := by
  unfold Lib.itoa
  rw [if_pos h, if_neg (by omega)]
  congr 2
  omega
end Go.Proofs.Ytnhoecmcbikcnaa
/-! The walk of the reference's Print. -/
namespace Go.Proofs.Ytnhoecmcbikcnaa
open Go.RowKit Go.PlainAid
set_option linter.unusedVariables false
set_option linter.unusedSimpArgs false
theorem OwnU.form {w : World} {B : Nat} {v : Value} {l : List UInt8} (h : OwnU w B v l) : ∃ A c, v = .slice A l.length c := by
  rcases h.2 with ⟨rfl, hx⟩ | ⟨g, cap, cur, rfl, _⟩
  · rw [nums_len] at hx; rw [hx]; exact ⟨_, _, rfl⟩
  · rw [nums_len]; exact ⟨_, _, rfl⟩
end Go.Proofs.Ytnhoecmcbikcnaa
/-! What the laws of json call themselves: bytes that are parsed, the example. -/
namespace Go.Proofs.Ytnhoecmcbikcnaa
open Go.RowKit Go.PlainAid
set_option linter.unusedVariables false
set_option linter.unusedSimpArgs false
theorem jnum_any (n : Int) (w : World) : Calls Try.prog 12 #[.int .i64 n] w fun e w' => e = .returned (.int .i64 n) ∧ w = w' := by
  go_enter Try.func12, Try.ntmps12
  go_wp2_with fail
  go_ret
  exact ⟨rfl, rfl⟩
/-- a slice of bytes reads as this text, from here on -/
def BytesAt (w : World) (A : Option Addr) (c : Nat) (s : ByteArray) : Prop := ∀ w', Below w.heap.size w w' → (convert 22 9 (.slice A s.size c)).run Try.prog w' = .ok (.string s) w'
theorem BytesAt.later {w w' : World} {A : Option Addr} {c : Nat} {s : ByteArray} (h : BytesAt w A c s) (hb : Below w.heap.size w w') : BytesAt w' A c s := fun w2 h2 => h w2 (nextB hb h2)
theorem bt_all (s : ByteArray) : strOfNums ((List.range s.size).map (bt s)) = s := by
  apply ba_ext'
  rw [nums_toList, List.map_map]
  apply List.ext_getElem?
  intro i
  rw [List.getElem?_map]
  by_cases hi : i < s.size
  · rw [List.getElem?_range hi]
    have h := get_bt s i hi
    rw [ByteArray.toList_eq]
    have hl : i < s.data.toList.length := by simpa using hi
    rw [List.getElem?_eq_getElem hl]
    simp only [Option.map_some, Function.comp, Option.some.injEq]
    rw [← h]
    simp
    rfl
  · rw [List.getElem?_eq_none (by simpa using hi), List.getElem?_eq_none (by rw [toList_len]; omega)]
    rfl
theorem BytesAt.of_cells {w : World} {b off c : Nat} {s : ByteArray} (hb : 0 < s.size → b < w.heap.size) (h : ∀ i, i < s.size → w.cell? ⟨b, off + i, none⟩ = some (.int .u8 (bt s i))) : BytesAt w (some ⟨b, off, none⟩) c s := by
  intro w' hw
  have := run_convert_bytes_arg w' 22 5 Try.underlying22 Try.underlying5 b off s.size c ((List.range s.size).map (bt s)) (by simp) (fun i hi => by
    rw [hw.cell (by show b < _; exact hb (by omega)), h i hi]
    simp [List.getD, hi]) 9 Try.underlying9
  rw [bt_all] at this
  exact this
theorem BytesAt.of_row {w : World} {g c : Nat} {s : ByteArray} (hg : g < w.heap.size) (h : RowF w g s.size (bt s)) : BytesAt w (some ⟨g, 0, none⟩) c s :=
  BytesAt.of_cells (fun _ => hg) (fun i hi => by rw [Nat.zero_add]; exact (h i hi).1)
theorem BytesAt.of_nil (w : World) (c : Nat) : BytesAt w none c ⟨#[]⟩ := fun w' _ => by
  have := run_convert_bytes_nil w' 22 5 Try.underlying22 Try.underlying5 0 c 9 Try.underlying9
  exact this
theorem bt_nums (zs : List Int) (i : Nat) (hi : i < zs.length) (h0 : 0 ≤ zs.getD i 0) (h1 : zs.getD i 0 ≤ 255) : bt (strOfNums zs) i = zs.getD i 0 := by
  have hz : zs.getD i 0 = zs[i] := by simp [List.getD, hi]
  rw [hz] at h0 h1 ⊢
  rw [bt_eq (strOfNums zs) i (UInt8.ofNat (zs[i]).toNat) (by rw [nums_toList, List.getElem?_map, List.getElem?_eq_getElem hi]; rfl)]
  exact toNat_ofNat _ h0 (by omega)
/-- a slice of bytes that came in -/
theorem BytesAt.of_arg {w : World} {a : Option Addr} {len cap : Nat} {zs : List Int} (h : IsRow .u8 w a len cap zs) : ∃ s : ByteArray, s.size = len ∧ BytesAt w a cap s ∧ len ≤ cap ∧ cap ≤ maxLen ∧ (∀ i, i < len → 0 ≤ zs.getD i 0 ∧ zs.getD i 0 ≤ 255 ∧ bt s i = zs.getD i 0) ∧ (0 < len → ∃ b off, a = some ⟨b, off, none⟩ ∧ b < w.heap.size ∧ ∀ i, i < len → w.cell? ⟨b, off + i, none⟩ = some (.int .u8 (bt s i))) := by
  rcases h with ⟨rfl, rfl, rfl, rfl⟩ | ⟨x, rfl, h1, h2, h3, h4, h5⟩
  · exact ⟨⟨#[]⟩, rfl, BytesAt.of_nil w 0, Nat.le_refl _, by simp, fun i hi => by omega, fun h => by omega⟩
  · have hlen : (strOfNums (zs.take len)).size = len := by rw [strOfNums_size, List.length_take]; omega
    have hv : ∀ i, i < len → 0 ≤ zs.getD i 0 ∧ zs.getD i 0 ≤ 255 ∧ bt (strOfNums (zs.take len)) i = zs.getD i 0 := fun i hi => by
      have hm := h5 (zs.getD i 0) (by simp [List.getD, show i < zs.length by omega])
      have hr : 0 ≤ zs.getD i 0 ∧ zs.getD i 0 ≤ 255 := by
        simp [Lit.wf] at hm
        have e1 : IntKind.u8.min = 0 := rfl
        have e2 : IntKind.u8.max = 255 := rfl
        rw [e1, e2] at hm
        simpa [List.getD] using hm
      have e : (zs.take len).getD i 0 = zs.getD i 0 := by simp [List.getD, List.getElem?_take, hi]
      have := bt_nums (zs.take len) i (by rw [List.length_take]; omega) (by rw [e]; exact hr.1) (by rw [e]; exact hr.2)
      rw [e] at this
      exact ⟨hr.1, hr.2, this⟩
    by_cases h0 : len = 0
    · subst h0
      refine ⟨⟨#[]⟩, rfl, ?_, h1, h2, fun i hi => by omega, fun h => by omega⟩
      intro w' hw
      have hl : (loadCells x 0).run Try.prog w' = .ok #[] w' := by
        have := run_loadCells_list (P := Try.prog) w' x [] (fun j v hj => by simp at hj)
        simpa using this
      show (convert 22 9 (.slice (some x) 0 cap)).run Try.prog w' = _
      rw [run_convert_bytes_string w' 22 9 5 _ 0 cap Try.underlying22 Try.underlying5 Try.underlying9, run_bytesToString w' _ 0 cap [] (by simpa using hl)]
      rfl
    · obtain ⟨b, off, rfl, h6⟩ := ints_at h4 (by omega)
      have hc : ∀ i, i < len → w.cell? ⟨b, off + i, none⟩ = some (.int .u8 (bt (strOfNums (zs.take len)) i)) := fun i hi => by rw [h6 i (by omega), (hv i hi).2.2]
      have hb : b < w.heap.size := World.block_lt_of_cell? _ _ (h6 0 (by omega))
      exact ⟨strOfNums (zs.take len), hlen, BytesAt.of_cells (fun _ => hb) (by rw [hlen]; exact hc), h1, h2, hv, fun _ => ⟨b, off, rfl, hb, hc⟩⟩
/-- what Parse ends with, for its callers -/
def PEnd (r : Except Int Nd) (w : World) (e : Ending) (w' : World) : Prop :=
  match r with
  | .error c => e = .returned (.tuple #[.agg #[.int .i64 0, .int .i64 0, .string ⟨#[]⟩, .slice none 0 0, .slice none 0 0], .int .i64 c]) ∧ Below w.heap.size w w'
  | .ok n => ∃ (c0 c1 : Int) (c2 : ByteArray) (c3 : Option Addr) (c4 c5 : Nat) (c6 : Option Addr) (c7 c8 : Nat),
      e = .returned (.tuple #[.agg #[.int .i64 c0, .int .i64 c1, .string c2, .slice c3 c4 c5, .slice c6 c7 c8], .int .i64 0]) ∧ NdIs w' w'.heap.size n [.int .i64 c0, .int .i64 c1, .string c2, .slice c3 c4 c5, .slice c6 c7 c8] ∧ Below w.heap.size w w'
theorem parse_law (s : ByteArray) (A : Option Addr) (c : Nat) (w : World) (h : BytesAt w A c s) : Calls Try.prog 9 #[.slice A s.size c] w (PEnd (parseL s.toList) w) := by
  refine (Parse_any s A c w h).mono ?_
  intro e w' hp
  cases hr : parseL s.toList with
  | error c => rw [hr] at hp; exact hp
  | ok n =>
    rw [hr] at hp
    obtain ⟨c0, c1, c2, c3, c4, c5, c6, c7, c8, he, hn, hb⟩ := hp
    exact ⟨c0, c1, c2, c3, c4, c5, c6, c7, c8, he, NdIn.is (fun b hb => hb.2) _ _ hn, hb⟩
theorem parse_ex : parseL [91, 49, 44, 32, 34, 97, 34, 93] = .ok (.mk 6 0 ⟨#[]⟩ [] [.mk 4 1 ⟨#[]⟩ [] [], .mk 5 0 ⟨#[97]⟩ [] []]) := by
  unfold parseL
  rw [if_neg (by simp), blanks_ne _ (by decide), valL_arr 0 _ rfl (by omega), List.tail_cons, blanks_ne _ (by decide), if_neg (by simp), arrL_eq, blanks_ne _ (by decide), valL_num 1 _ 49 rfl (.inr (by decide))]
  rw [show numL [49, 44, 32, 34, 97, 34, 93] = some (1, [44, 32, 34, 97, 34, 93]) by decide]
  simp only
  rw [blanks_ne _ (by decide), if_neg (by simp), if_pos (by simp), List.tail_cons, arrL_eq, show blanksL [32, 34, 97, 34, 93] = quoteU [97] ++ [93] by decide, valL_str 1 _ rfl, textL_quote [97] (ValidP.ascii 97 (by decide))]
  simp only
  rw [blanks_ne _ (by decide), if_pos (by simp)]
  rfl
/-- the cells of a kid of an array -/
theorem kid_cells {w : World} {B : Nat} {k m : Int} {t : ByteArray} {ks : List ByteArray} {ns : List Nd} {v0 v1 v2 v3 : Value} {A : Option Addr} {l c : Nat} (h : NdIs w B (.mk k m t ks ns) [v0, v1, v2, v3, .slice A l c]) : l = ns.length ∧ (0 < ns.length → ∃ b off, A = some ⟨b, off, none⟩ ∧ b < B ∧ ∀ (i : Nat) (n : Nd), ns[i]? = some n → ∃ cs, NdIs w B n cs ∧ ∀ j u, cs[j]? = some u → w.cell? ⟨b, off + (i * 5 + j), none⟩ = some u) := by
  unfold NdIs at h
  obtain ⟨A1, ck, A2, c2, xs, h1, h2, h3, h4, h5⟩ := h
  simp only [List.cons.injEq, Value.slice.injEq, and_true] at h1
  obtain ⟨_, _, _, _, rfl, rfl, rfl⟩ := h1
  refine ⟨rfl, fun hn => ?_⟩
  obtain ⟨ad, rfl, hb, hc⟩ := h3.2 hn
  have hx : 0 < xs.length := by rw [h3.1]; omega
  have hsp := spot_none (hc 0 xs[0] (List.getElem?_eq_getElem hx))
  obtain ⟨b, off, sp⟩ := ad
  have hs : sp = none := by
    unfold Addr.add at hsp
    split at hsp <;> simp_all
  subst hs
  refine ⟨b, off, rfl, hb, fun i n hi => ?_⟩
  obtain ⟨cs, k1, k2⟩ := NdsIs.at_ ns xs i n h4 hi
  refine ⟨cs, k1, fun j u hu => ?_⟩
  have hj : j < 5 := by
    have := (List.getElem?_eq_some_iff.1 hu).1
    rw [k1.len] at this; exact this
  have := hc (i * 5 + j) u (by rw [k2 j hj]; exact hu)
  have e : (⟨b, off, none⟩ : Addr).add (i * 5 + j) = ⟨b, off + (i * 5 + j), none⟩ := by unfold Addr.add; split <;> simp_all
  rw [e] at this
  exact this
theorem NdIs.head {w : World} {B : Nat} {k m : Int} {t : ByteArray} {ks : List ByteArray} {ns : List Nd} {cs : List Value} (h : NdIs w B (.mk k m t ks ns) cs) : cs[0]? = some (.int .i64 k) ∧ cs[1]? = some (.int .i64 m) ∧ cs[2]? = some (.string t) := by
  unfold NdIs at h
  obtain ⟨A1, ck, A2, c2, xs, rfl, _⟩ := h
  exact ⟨rfl, rfl, rfl⟩
set_option maxRecDepth 100000 in
set_option maxHeartbeats 2000000 in
theorem awake7_any (w : World) : Calls Try.prog 8 #[] w (BoolBel true w) := by
  have hby : BytesAt (w.alloc (.cells #[.int .u8 91, .int .u8 49, .int .u8 44, .int .u8 32, .int .u8 34, .int .u8 97, .int .u8 34, .int .u8 93] 5 (8, 9))) (some ⟨w.heap.size, 0, none⟩) 8 ⟨#[91, 49, 44, 32, 34, 97, 34, 93]⟩ := by
    refine BytesAt.of_cells (fun _ => by simp) (fun i hi => ?_)
    have hi : i < 8 := hi
    rw [World.cell?_alloc_mark]
    have : i = 0 ∨ i = 1 ∨ i = 2 ∨ i = 3 ∨ i = 4 ∨ i = 5 ∨ i = 6 ∨ i = 7 := by omega
    rcases this with rfl | rfl | rfl | rfl | rfl | rfl | rfl | rfl <;> rfl
  have HP := Lib.hid (parse_law _ _ _ _ hby)
  rw [lit_toList, parse_ex] at HP
  have HA : Hid (Below w.heap.size w (w.alloc (.cells #[.int .u8 91, .int .u8 49, .int .u8 44, .int .u8 32, .int .u8 34, .int .u8 97, .int .u8 34, .int .u8 93] 5 (8, 9)))) := (Below.refl _ _).alloc (Nat.le_refl _) _
  have kc := fun (w : World) (C : Array Value) (n c : Nat) => Lib.run_convert_bytes_const (P := Try.prog) w 22 5 C n c Try.underlying22 Try.underlying5
  clear hby
  go_enter Try.func8, Try.ntmps8
  go_wp2_with fail
  refine (HP.out : Calls _ _ _ _ _).mono ?_
  rintro e w1 ⟨c0, c1, c2, c3, c4, c5, c6, c7, c8, rfl, hn, hb⟩
  obtain ⟨hd0, hd1, hd2⟩ := hn.head
  obtain ⟨hl, hk⟩ := kid_cells hn
  obtain ⟨b, off, hA, hbl, hkid⟩ := hk (by simp)
  obtain ⟨k0, n0, m0⟩ := hkid 0 _ rfl
  obtain ⟨k1, n1, m1⟩ := hkid 1 _ rfl
  have x0 := m0 1 _ n0.head.2.1
  have x1 := m1 2 _ n1.head.2.2
  simp at hd0 hd1 hd2 hl x0 x1
  subst hd0 hd1 hd2 hl hA
  have y0 : (w1.alloc (.cells #[.int .i64 6, .int .i64 0, .string ⟨#[]⟩, .slice c3 c4 c5, .slice (some ⟨b, off, none⟩) 2 c8] 27)).cell? ⟨b, off + 1, none⟩ = some (.int .i64 1) := (World.cell?_alloc_lt _ _ _ hbl).trans x0
  have y1 : (w1.alloc (.cells #[.int .i64 6, .int .i64 0, .string ⟨#[]⟩, .slice c3 c4 c5, .slice (some ⟨b, off, none⟩) 2 c8] 27)).cell? ⟨b, off + 7, none⟩ = some (.string ⟨#[97]⟩) := (World.cell?_alloc_lt _ _ _ hbl).trans x1
  have HB := Lib.hid (nextB HA.out hb)
  clear hn hk hkid n0 n1 m0 m1 x0 x1 hb kc HP
  go_wp2_with fail
  refine (jnum_any _ _).mono ?_; rintro e w2 ⟨rfl, hw⟩; obtain rfl : _ = w2 := hw
  go_wp2_with fail
  go_ret
  exact ⟨rfl, HB.out.alloc HB.out.size _⟩
end Go.Proofs.Ytnhoecmcbikcnaa
/-! Plain: which errors parsing has; a value is one with itself. (Taken out of Jlaw1.) -/
namespace Go.Proofs.Ytnhoecmcbikcnaa
open Go.RowKit Go.PlainAid
set_option linter.unusedVariables false
set_option linter.unusedSimpArgs false
theorem val_err : ∀ (N : Nat),
    (∀ deep l e, 2 * l.length ≤ N → valL deep l = .error e → 3 ≤ e ∧ e ≤ 5) ∧
    (∀ deep l ns e, 2 * l.length + 1 ≤ N → arrL deep l ns = .error e → 3 ≤ e ∧ e ≤ 5) ∧
    (∀ deep l ks ns e, 2 * l.length + 1 ≤ N → objL deep l ks ns = .error e → 3 ≤ e ∧ e ≤ 5) := by
  intro N
  induction N using Nat.strongRecOn with
  | _ N ih =>
    refine ⟨?_, ?_, ?_⟩
    · intro deep l e hN h
      by_cases h91 : l.head? = some 91
      · by_cases h24 : 24 ≤ deep
        · rw [valL_deep deep l (.inl h91) h24] at h; cases h; omega
        rw [valL_arr deep l h91 h24] at h
        have ht := tail_lt h91
        have hb := blanksL_le l.tail
        split at h
        · cases h
        · exact (ih (2 * (blanksL l.tail).length + 1) (by omega)).2.1 deep _ _ e (Nat.le_refl _) h
      by_cases h123 : l.head? = some 123
      · by_cases h24 : 24 ≤ deep
        · rw [valL_deep deep l (.inr h123) h24] at h; cases h; omega
        rw [valL_obj deep l h123 h24] at h
        have ht := tail_lt h123
        have hb := blanksL_le l.tail
        split at h
        · cases h
        · exact (ih (2 * (blanksL l.tail).length + 1) (by omega)).2.2 deep _ _ _ e (Nat.le_refl _) h
      by_cases h34 : l.head? = some 34
      · rw [valL_str deep l h34] at h
        cases ht : textL l with
        | none => rw [ht] at h; cases h; omega
        | some p => rw [ht] at h; cases h
      rw [valL_else deep l h91 h123 h34] at h
      split at h
      · cases h
      split at h
      · cases h
      split at h
      · cases h
      cases ht : numL l with
      | none => rw [ht] at h; cases h; omega
      | some p => rw [ht] at h; cases h
    · intro deep l ns e hN h
      have hb := blanksL_le l
      rw [arrL_eq] at h
      cases hv : valL (deep + 1) (blanksL l) with
      | error e' =>
        rw [hv] at h
        cases h
        exact (ih (2 * (blanksL l).length) (by omega)).1 _ _ _ (Nat.le_refl _) hv
      | ok p =>
        obtain ⟨x, r1⟩ := p
        have hr1 := (valL_le hv).2
        rw [hv] at h
        simp only at h
        have hb1 := blanksL_le r1
        split at h
        · cases h
        split at h
        · rename_i h44
          have ht := tail_lt h44
          exact (ih (2 * (blanksL r1).tail.length + 1) (by omega)).2.1 deep _ _ e (Nat.le_refl _) h
        · cases h; omega
    · intro deep l ks ns e hN h
      have hb := blanksL_le l
      rw [objL_eq] at h
      cases ht : textL (blanksL l) with
      | none => rw [ht] at h; cases h; omega
      | some p =>
        obtain ⟨k, r0⟩ := p
        rw [ht] at h
        simp only at h
        have hr0 := (textL_le ht).2
        have hb0 := blanksL_le r0
        split at h
        · cases h; omega
        split at h
        · rename_i h58
          have h58 := tail_lt h58
          have hb2 := blanksL_le (blanksL r0).tail
          cases hv : valL (deep + 1) (blanksL (blanksL r0).tail) with
          | error e' =>
            rw [hv] at h
            cases h
            exact (ih (2 * (blanksL (blanksL r0).tail).length) (by omega)).1 _ _ _ (Nat.le_refl _) hv
          | ok p =>
            obtain ⟨x, r1⟩ := p
            rw [hv] at h
            simp only at h
            have hr1 := (valL_le hv).2
            have hb1 := blanksL_le r1
            split at h
            · cases h
            split at h
            · rename_i h44
              have ht := tail_lt h44
              exact (ih (2 * (blanksL r1).tail.length + 1) (by omega)).2.2 deep _ _ _ e (Nat.le_refl _) h
            · cases h; omega
        · cases h; omega
theorem parse_err {l : List UInt8} {e : Int} (h : parseL l = .error e) : 2 ≤ e ∧ e ≤ 5 := by
  unfold parseL at h
  split at h
  · cases h; omega
  · cases hv : valL 0 (blanksL l) with
    | error c =>
      rw [hv] at h
      cases h
      have := (val_err _).1 0 _ _ (Nat.le_refl _) hv
      omega
    | ok p =>
      obtain ⟨n, r⟩ := p
      rw [hv] at h
      simp only at h
      split at h
      · cases h
      · cases h; omega
theorem sameK_refl (ks : List ByteArray) : sameK ks ks = true := by
  induction ks with
  | nil => unfold sameK; rfl
  | cons k ks ih => unfold sameK; simp [ih]
mutual
theorem sameN_refl : ∀ n : Nd, sameN n n = true
  | .mk k m t ks ns => by
    unfold sameN
    simp [sameK_refl, sameL_refl ns]
theorem sameL_refl : ∀ ns : List Nd, sameL ns ns = true
  | [] => by unfold sameL; rfl
  | n :: ns => by
    unfold sameL
    simp [sameN_refl n, sameL_refl ns]
end
end Go.Proofs.Ytnhoecmcbikcnaa
/-! The reference's reader: plain words for its list. -/
namespace Go.Proofs.Ytnhoecmcbikcnaa
open Go.RowKit Go.PlainAid
set_option linter.unusedVariables false
set_option linter.unusedSimpArgs false
theorem head_at {s : ByteArray} {k : Nat} {c : UInt8} : (s.toList.drop k).head? = some c ↔ k < s.size ∧ bt s k = (c.toNat : Int) := by
  constructor
  · intro h
    rcases Nat.lt_or_ge k s.size with hl | hl
    · obtain ⟨u, hu, hd⟩ := drop_cons s k hl
      rw [hd] at h
      injection h with h
      exact ⟨hl, by rw [hu, h]⟩
    · rw [drop_end s k hl] at h; cases h
  · rintro ⟨hl, h⟩
    obtain ⟨u, hu, hd⟩ := drop_cons s k hl
    rw [hd]
    have : u = c := UInt8.toNat_inj.1 (by omega)
    rw [this]; rfl
theorem tail_at {s : ByteArray} {k : Nat} : (s.toList.drop k).tail = s.toList.drop (k + 1) := by rw [List.tail_drop]
def listA (d : Nat) (l : List UInt8) : Except Int (Nd × List UInt8) :=
  if 24 ≤ d then .error 4 else if (blanksL l).head? = some 93 then .ok (.mk 6 0 ⟨#[]⟩ [] [], (blanksL l).tail) else arrL d (blanksL l) []
def listO (d : Nat) (l : List UInt8) : Except Int (Nd × List UInt8) :=
  if 24 ≤ d then .error 4 else if (blanksL l).head? = some 125 then .ok (.mk 7 0 ⟨#[]⟩ [] [], (blanksL l).tail) else objL d (blanksL l) [] []
theorem LInv.start (w : World) (rb : Nat) (kd : Int) (v : Value) (hrb : rb < w.heap.size) :
    LInv w rb kd [] [] (((w.setCell ⟨rb, 2, none⟩ v).alloc (.cells #[.int .i64 0, .int .i64 0, .string ⟨#[]⟩, .slice none 0 0, .slice none 0 0] 27)).alloc (.cells #[.int .i64 kd, .int .i64 0, .string ⟨#[]⟩, .slice none 0 0, .slice none 0 0] 27)) none 0 none 0 [] := by
  refine ⟨?_, World.ownsRow_nil _ _ _ _, World.ownsRow_nil _ _ _ _, NdsIn.nil, ?_, grown_alloc (grown_alloc (grown_set (grown_refl _ _) 2 _) _) _, by simp⟩
  · have := Blk.new ((w.setCell ⟨rb, 2, none⟩ v).alloc (.cells #[.int .i64 0, .int .i64 0, .string ⟨#[]⟩, .slice none 0 0, .slice none 0 0] 27)) 27 #[.int .i64 kd, .int .i64 0, .string ⟨#[]⟩, .slice none 0 0, .slice none 0 0]
    simpa using this
  · have := (Blk.new (w.setCell ⟨rb, 2, none⟩ v) 27 #[.int .i64 0, .int .i64 0, .string ⟨#[]⟩, .slice none 0 0, .slice none 0 0]).alloc (.cells #[.int .i64 kd, .int .i64 0, .string ⟨#[]⟩, .slice none 0 0, .slice none 0 0] 27)
    simpa using this
def ArrI (w0 : World) (rb : Nat) (s : ByteArray) (d k0 : Nat) (V : Except Int (Nd × List UInt8)) (j : Nat) (er : Int) (g : Nat) (wr : World) : Prop :=
  (er = 0 ∧ k0 ≤ j ∧ s.size - j + 1 ≤ g ∧ ∃ ns A c ys, V = arrL d (s.toList.drop j) ns ∧ ns.length ≤ j ∧ LInv w0 rb 6 [] ns wr none 0 A c ys) ∨ (er ≠ 0 ∧ V = .error er ∧ EInv w0 rb 6 wr)
def ObjI (w0 : World) (rb : Nat) (s : ByteArray) (d k0 : Nat) (V : Except Int (Nd × List UInt8)) (j : Nat) (er : Int) (g : Nat) (wr : World) : Prop :=
  (er = 0 ∧ k0 ≤ j ∧ s.size - j + 1 ≤ g ∧ ∃ ks ns K kc A c ys, V = objL d (s.toList.drop j) ks ns ∧ ns.length ≤ j ∧ ks.length ≤ j ∧ (∀ t ∈ ks, t.size ≤ maxLen) ∧ LInv w0 rb 7 ks ns wr K kc A c ys) ∨ (er ≠ 0 ∧ V = .error er ∧ EInv w0 rb 7 wr)
/-- a value has ended: its rest stands at a later place -/
theorem later_at {s : ByteArray} {j k1 d : Nat} {n : Nd} {l : List UInt8} (h : valL d (blanksL (s.toList.drop j)) = .ok (n, l)) (hd : s.toList.drop k1 = l) (hk1 : k1 ≤ s.size) (hj : j ≤ s.size) : j < k1 := by
  have h1 := (valL_le h).blanks.2
  rw [← hd, len_drop, len_drop] at h1
  omega
theorem blanks_at {s : ByteArray} {j k1 : Nat} (hd : s.toList.drop k1 = blanksL (s.toList.drop j)) (hk1 : k1 ≤ s.size) (hj : j ≤ s.size) : j ≤ k1 := by
  have h1 := blanksL_le (s.toList.drop j)
  rw [← hd, len_drop, len_drop] at h1
  omega
theorem cells_reads {w : World} {g : Nat} {l : List Value} (h : Blk w g 27 l.toArray) (hl : l.length = 1 * 5) : Reads w (g + 1) 5 (some ⟨g, 0, none⟩) 1 l := by
  refine ⟨hl, fun _ => ⟨_, rfl, by simp, fun j u hj => ?_⟩⟩
  have e : (⟨g, 0, none⟩ : Addr).add j = ⟨g, j, none⟩ := by unfold Addr.add; split <;> simp_all
  rw [e, h.cell]
  simpa using hj
theorem cells_one {c0 c1 : Int} {c2 : ByteArray} {c3 : Option Addr} {c4 c5 : Nat} {c6 : Option Addr} {c7 c8 : Nat} : ∀ u ∈ ([.int .i64 c0, .int .i64 c1, .string c2, .slice c3 c4 c5, .slice c6 c7 c8] : List Value), u.oneCell' = true := by
  intro u hu
  simp at hu
  rcases hu with rfl | rfl | rfl | rfl | rfl <;> rfl
end Go.Proofs.Ytnhoecmcbikcnaa
