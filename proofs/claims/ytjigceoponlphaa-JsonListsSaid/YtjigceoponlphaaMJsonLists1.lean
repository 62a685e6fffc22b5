/- Texts of one seat, one behind the other: Jlaw1, Jlaw3, Pj9, Jlaw4, Jlaw5, Pj10, Jlaw6, Pj11, Jlaw8. No condition. -/
import Derived.Test.YtjigceoponlphaaQ7
import Derived.BigRegion
import Derived.Deep.RegionHeld3
import Derived.Lib.ItoaLen
/-! JsonBack: its walk. -/
namespace Go.Proofs.Ytjigceoponlphaa
open Go.RowKit Go.PlainAid
set_option linter.unusedVariables false
set_option linter.unusedSimpArgs false
theorem val_err : ∀ (N : Nat),
    (∀ deep l e, 2 * l.length ≤ N → valL deep l = .error e → 3 ≤ e ∧ e ≤ 5) ∧
    (∀ deep l ns e, 2 * l.length + 1 ≤ N → arrL deep l ns = .error e → 3 ≤ e ∧ e ≤ 5) ∧
    (∀ deep l ks ns e, 2 * l.length + 1 ≤ N → objL deep l ks ns = .error e → 3 ≤ e ∧ e ≤ 5) := by
  intro N
  induction N using Nat.strongRecOn with
  | _ N ih =>
    refine ⟨?_, ?_, ?_⟩
    · intro deep l e hN h
      by_cases h91 : l.head? = some 91
      · by_cases h24 : 24 ≤ deep
        · rw [valL_deep deep l (.inl h91) h24] at h; cases h; omega
        rw [valL_arr deep l h91 h24] at h
        have ht := tail_lt h91
        have hb := blanksL_le l.tail
        split at h
        · cases h
        · exact (ih (2 * (blanksL l.tail).length + 1) (by omega)).2.1 deep _ _ e (Nat.le_refl _) h
      by_cases h123 : l.head? = some 123
      · by_cases h24 : 24 ≤ deep
        · rw [valL_deep deep l (.inr h123) h24] at h; cases h; omega
        rw [valL_obj deep l h123 h24] at h
        have ht := tail_lt h123
        have hb := blanksL_le l.tail
        split at h
        · cases h
        · exact (ih (2 * (blanksL l.tail).length + 1) (by omega)).2.2 deep _ _ _ e (Nat.le_refl _) h
      by_cases h34 : l.head? = some 34
      · rw [valL_str deep l h34] at h
        cases ht : textL l with
        | none => rw [ht] at h; cases h; omega
        | some p => rw [ht] at h; cases h
      rw [valL_else deep l h91 h123 h34] at h
      split at h
      · cases h
      split at h
      · cases h
      split at h
      · cases h
      cases ht : numL l with
      | none => rw [ht] at h; cases h; omega
      | some p => rw [ht] at h; cases h
    · intro deep l ns e hN h
      have hb := blanksL_le l
      rw [arrL_eq] at h
      cases hv : valL (deep + 1) (blanksL l) with
      | error e' =>
        rw [hv] at h
        cases h
        exact (ih (2 * (blanksL l).length) (by omega)).1 _ _ _ (Nat.le_refl _) hv
      | ok p =>
        obtain ⟨x, r1⟩ := p
        have hr1 := (valL_le hv).2
        rw [hv] at h
        simp only at h
        have hb1 := blanksL_le r1
        split at h
        · cases h
        split at h
        · rename_i h44
          have ht := tail_lt h44
          exact (ih (2 * (blanksL r1).tail.length + 1) (by omega)).2.1 deep _ _ e (Nat.le_refl _) h
        · cases h; omega
    · intro deep l ks ns e hN h
      have hb := blanksL_le l
      rw [objL_eq] at h
      cases ht : textL (blanksL l) with
      | none => rw [ht] at h; cases h; omega
      | some p =>
        obtain ⟨k, r0⟩ := p
        rw [ht] at h
        simp only at h
        have hr0 := (textL_le ht).2
        have hb0 := blanksL_le r0
        split at h
        · cases h; omega
        split at h
        · rename_i h58
          have h58 := tail_lt h58
          have hb2 := blanksL_le (blanksL r0).tail
          cases hv : valL (deep + 1) (blanksL (blanksL r0).tail) with
          | error e' =>
            rw [hv] at h
            cases h
            exact (ih (2 * (blanksL (blanksL r0).tail).length) (by omega)).1 _ _ _ (Nat.le_refl _) hv
          | ok p =>
            obtain ⟨x, r1⟩ := p
            rw [hv] at h
            simp only at h
            have hr1 := (valL_le hv).2
            have hb1 := blanksL_le r1
            split at h
            · cases h
            split at h
            · rename_i h44
              have ht := tail_lt h44
              exact (ih (2 * (blanksL r1).tail.length + 1) (by omega)).2.2 deep _ _ _ e (Nat.le_refl _) h
            · cases h; omega
        · cases h; omega
theorem parse_err {l : List UInt8} {e : Int} (h : parseL l = .error e) : 2 ≤ e ∧ e ≤ 5 := by
  unfold parseL at h
  split at h
  · cases h; omega
  · cases hv : valL 0 (blanksL l) with
    | error c =>
      rw [hv] at h
      cases h
      have := (val_err _).1 0 _ _ (Nat.le_refl _) hv
      omega
    | ok p =>
      obtain ⟨n, r⟩ := p
      rw [hv] at h
      simp only at h
      split at h
      · cases h
      · cases h; omega
theorem sameK_refl (ks : List ByteArray) : sameK ks ks = true := by
  induction ks with
  | nil => unfold sameK; rfl
  | cons k ks ih => unfold sameK; simp [ih]
mutual
theorem sameN_refl : ∀ n : Nd, sameN n n = true
  | .mk k m t ks ns => by
    unfold sameN
    simp [sameK_refl, sameL_refl ns]
theorem sameL_refl : ∀ ns : List Nd, sameL ns ns = true
  | [] => by unfold sameL; rfl
  | n :: ns => by
    unfold sameL
    simp [sameN_refl n, sameL_refl ns]
end
theorem print_right {n : Nd} (h : rightD n 0 = true) (hl : (putU n).length ≤ 65536) : printS n = ⟨(putU n).toArray⟩ ∧ printE n = 0 := by
  rw [printS_eq, printE_eq, h]
  rw [if_neg (by simp), if_neg (by omega), if_neg (by simp), if_neg (by omega)]
  exact ⟨rfl, rfl⟩
theorem rprint_law (n : Nd) (cs : List Value) (w : World) (hn : NdIs w w.heap.size n cs) (h : rightD n 0 = true) (hl : (putU n).length ≤ 65536) :
    Calls Try.prog 17 #[.agg cs.toArray] w (StrErr ⟨(putU n).toArray⟩ 0 w) := by
  have hg := gN_put n 0 h
  have := rPrint_any n cs w w.heap.size hn (Nat.le_refl _) (fun _ => hg.2 (by omega)) (by have := hg.1; omega)
  rw [(print_right h hl).1, (print_right h hl).2] at this
  exact this
set_option maxRecDepth 100000 in
set_option maxHeartbeats 4000000 in
theorem jsonBack_walk (a0 : Option Addr) (len cap : Nat) (zs : List Int) (w : World) (w0 : IsRow .u8 w a0 len cap zs) :
    Calls Try.prog 5 #[.slice a0 len cap] w fun e w' => e = .returned (.bool true) ∧ Below w.heap.size w w' := by
  obtain ⟨s, rfl, hby, hcap, hmax, _, _⟩ := BytesAt.of_arg w0
  clear w0
  have hW := Below.refl w.heap.size w
  by_cases hl : s.size ≤ 3000
  case neg =>
    have hli : (3000 : Int) < (s.size : Int) := by omega
    clear hby
    go_enter Try.func5, Try.ntmps5
    go_wp2_with (go_at_call 12; refine (awake7_any _).mono ?_; rintro e w1 ⟨rfl, hw1⟩; (first | replace hW := nextB hW hw1 | replace hW := nextA hW hw1 | replace hW := nextB hW.drew hw1 | replace hW := nextAA hW hw1 | replace hW := nextAD hW hw1); clear hw1)
    go_ret
    exact ⟨rfl, hW⟩
  have hli : ¬ (3000 : Int) < (s.size : Int) := by omega
  have HP := Lib.hid (parse_law s a0 cap w hby)
  cases hr : parseL s.toList with
  | error c =>
    have hc := parse_err hr
    rw [hr] at HP
    clear hr hby
    go_enter Try.func5, Try.ntmps5
    go_wp2_with fail
    refine (HP.out : Calls _ _ _ _ _).mono ?_; rintro e w1 ⟨rfl, hw1⟩
    replace hW := nextB hW hw1; clear hw1
    go_wp2_with fail
    refine (jnum_any _ _).mono ?_; rintro e w2 ⟨rfl, hw⟩; obtain rfl : _ = w2 := hw
    have hc0 : ¬ c = 0 := by omega
    go_wp2_with (go_at_call 12; refine (awake7_any _).mono ?_; rintro e w2 ⟨rfl, hw1⟩; (first | replace hW := nextB hW hw1 | replace hW := nextA hW hw1 | replace hW := nextB hW.drew hw1 | replace hW := nextAA hW hw1 | replace hW := nextAD hW hw1); clear hw1)
    go_ret
    exact ⟨rfl, hW⟩
  | ok n =>
    obtain ⟨h1, h2, h3, h4⟩ := parse_back hr
    rw [hr] at HP
    have hsz : (⟨(putU n).toArray⟩ : ByteArray).toList = putU n := lit_toList _
    have HP2 : Hid (∀ w' A c, BytesAt w' A c ⟨(putU n).toArray⟩ → Calls Try.prog 13 #[.slice A (⟨(putU n).toArray⟩ : ByteArray).size c] w' (PEnd (.ok n) w')) := fun w' A c hb => by
      have := parse_law ⟨(putU n).toArray⟩ A c w' hb
      rw [hsz, h4] at this
      exact this
    have HPR : Hid (∀ (cs : List Value) (w' : World), NdIs w' w'.heap.size n cs → Calls Try.prog 17 #[.agg cs.toArray] w' (StrErr ⟨(putU n).toArray⟩ 0 w')) := fun cs w' hn => rprint_law n cs w' hn h1 (by omega)
    have hls : ((⟨(putU n).toArray⟩ : ByteArray).size : Int) ≤ (s.size : Int) := by
      have e : (⟨(putU n).toArray⟩ : ByteArray).size = (putU n).length := by show (putU n).toArray.size = _; simp
      rw [e, ← tl_len' s]
      omega
    generalize (⟨(putU n).toArray⟩ : ByteArray) = T at *
    clear hr hby h1 h2 h3 h4 hsz
    go_enter Try.func5, Try.ntmps5
    go_wp2_with fail
    refine (HP.out : Calls _ _ _ _ _).mono ?_; rintro e w1 ⟨c0, c1, c2, c3, c4, c5, c6, c7, c8, rfl, hn, hw1⟩
    replace hW := nextB hW hw1; clear hw1
    have hA : Below w1.heap.size w1 (w1.alloc (.cells #[.int .i64 c0, .int .i64 c1, .string c2, .slice c3 c4 c5, .slice c6 c7 c8] 27)) := (Below.refl _ _).alloc (Nat.le_refl _) _
    have HN1 := Lib.hid (NdIs.more hA.size _ _ (hn.below hA))
    have HB1 := Lib.hid (Blk.new w1 27 #[.int .i64 c0, .int .i64 c1, .string c2, .slice c3 c4 c5, .slice c6 c7 c8])
    have HW1 := Lib.hid (hW.trans (hA.mono hW.size))
    clear hn hA hW HP
    go_wp2_with fail
    refine (jnum_any _ _).mono ?_; rintro e w2 ⟨rfl, hw⟩; obtain rfl : _ = w2 := hw
    go_wp2_with fail
    refine (HPR.out _ _ HN1.out : Calls _ _ _ _ _).mono ?_; rintro e w3 ⟨rfl, hw3⟩
    have HN3 := Lib.hid (NdIs.more hw3.size _ _ (HN1.out.below hw3))
    have HB3 := Lib.hid (HB1.out.below hw3 HB1.out.lt)
    have HW3 := Lib.hid (nextB HW1.out hw3)
    clear hw3 HPR HN1 HB1 HW1
    go_wp2_with (with_reducible refine wpList_bytes_of _ rfl (.tmp 28) rfl _ rfl ?_; intro g c9 w4 hg1 hg2 hrow hb4)
    have HN4 := Lib.hid (NdIs.more hb4.size _ _ (HN3.out.below hb4))
    have HB4 := Lib.hid (HB3.out.below hb4 HB3.out.lt)
    have HW4 := Lib.hid (nextB HW3.out hb4)
    have HPC := HP2.out w4 _ c9 (BytesAt.of_row hg2 hrow)
    clear hg1 hg2 hrow hb4 HN3 HB3 HW3
    refine (HPC : Calls _ _ _ _ _).mono ?_; rintro e w5 ⟨d0, d1, d2, d3, d4, d5, d6, d7, d8, rfl, hn, hw5⟩
    clear HPC
    have hA : Below w5.heap.size w5 (w5.alloc (.cells #[.int .i64 d0, .int .i64 d1, .string d2, .slice d3 d4 d5, .slice d6 d7 d8] 27)) := (Below.refl _ _).alloc (Nat.le_refl _) _
    have hB5 := nextB hw5 hA
    have HM5 := Lib.hid (NdIs.more hA.size _ _ (hn.below hA))
    have HN5 := Lib.hid (NdIs.more hB5.size _ _ (HN4.out.below hB5))
    have HB5 := HB4.out.below hB5 HB4.out.lt
    have HW5 := Lib.hid (nextB HW4.out hB5)
    obtain ⟨x0, x1, x2, x3, x4⟩ := HB5.cells5
    clear hn hA hw5 hB5 HB5 HN4 HB4 HW4
    go_wp2_with fail
    refine (jnum_any _ _).mono ?_; rintro e w6 ⟨rfl, hw⟩; obtain rfl : _ = w6 := hw
    go_wp2_with fail
    have HS := Lib.hid (rSame_any n.count n n _ _ _ _ (Nat.le_refl _) HN5.out HM5.out (Nat.le_refl _))
    rw [sameN_refl] at HS
    refine (HS.out : Calls _ _ _ _ _).mono ?_; rintro e w7 ⟨rfl, hw7⟩
    have hW := nextB HW5.out hw7
    clear hw7 HS HN5 HM5 HW5 x0 x1 x2 x3 x4
    go_wp2_with (go_at_call 12; refine (awake7_any _).mono ?_; rintro e w8 ⟨rfl, hw1⟩; (first | replace hW := nextB hW hw1 | replace hW := nextA hW hw1 | replace hW := nextB hW.drew hw1 | replace hW := nextAA hW hw1 | replace hW := nextAD hW hw1); clear hw1)
    go_ret
    exact ⟨rfl, hW⟩
end Go.Proofs.Ytjigceoponlphaa
/-! JsonWhole: its walk. -/
namespace Go.Proofs.Ytjigceoponlphaa
open Go.RowKit Go.PlainAid
set_option linter.unusedVariables false
set_option linter.unusedSimpArgs false
theorem numTail_point (neg : Bool) (u : Nat) (c : UInt8) (z : List UInt8) (hc : c = 46 ∨ c = 101 ∨ c = 69) : numTail neg (Lib.decDigits u ++ c :: z) = none := by
  have hd : digB c = false := by rcases hc with rfl | rfl | rfl <;> decide
  obtain ⟨h1, h2⟩ := takeWhile_app (Lib.decDigits u) (c :: z) (dec_all u) (fun d hd' => by simp at hd'; subst hd'; exact hd)
  unfold numTail
  rw [h1, h2, if_pos]
  right; right; right; right
  rcases hc with rfl | rfl | rfl <;> rfl
theorem numL_point (n : Int) (c : UInt8) (z : List UInt8) (hc : c = 46 ∨ c = 101 ∨ c = 69) : numL (Lib.itoa n ++ c :: z) = none := by
  unfold numL Lib.itoa
  by_cases hn : n < 0
  · rw [if_pos hn]
    simp only [List.cons_append, List.head?_cons, if_true, List.tail_cons]
    exact numTail_point true _ c z hc
  · rw [if_neg hn]
    have hh : (Lib.decDigits n.toNat ++ c :: z).head? ≠ some 45 := by
      cases hq : Lib.decDigits n.toNat with
      | nil => exact absurd hq (decDigits_ne _)
      | cons d t =>
        have := dec_all n.toNat d (by rw [hq]; simp)
        intro e
        simp at e; subst e
        revert this; decide
    rw [if_neg hh]
    exact numTail_point false _ c z hc
theorem parse_numbad (l : List UInt8) (c : UInt8) (t : List UInt8) (hl : l = c :: t) (hc : c = 45 ∨ digB c = true) (hn : numL l = none) (hs : l.length ≤ 65536) : parseL l = .error 3 := by
  unfold parseL
  rw [if_neg (by omega), hl, blanks_ne t (dig_no hc).1, ← hl, valL_num 0 l c (by rw [hl]; rfl) hc, hn]
theorem parse_point (n : Int) (h0 : -9007199254740991 ≤ n) (h1 : n ≤ 9007199254740991) (c : UInt8) (z : List UInt8) (hc : c = 46 ∨ c = 101 ∨ c = 69) (hz : z.length ≤ 100) : parseL (Lib.itoa n ++ c :: z) = .error 3 := by
  obtain ⟨d, t, e1, e2⟩ := itoa_head n (c :: z)
  have := Lib.itoa_length_le n (by omega) (by omega)
  exact parse_numbad _ d t e1 e2 (numL_point n c z hc) (by simp; omega)
theorem parse_other (c : UInt8) (t : List UInt8) (hc : c = 43 ∨ c = 46) (hs : t.length ≤ 1000) : parseL (c :: t) = .error 3 := by
  have hb : blankB c = false := by rcases hc with rfl | rfl <;> decide
  have hd : digB c = false := by rcases hc with rfl | rfl <;> decide
  have h45 : c ≠ 45 := by rcases hc with rfl | rfl <;> decide
  have hn : numL (c :: t) = none := by
    unfold numL
    rw [if_neg (by simpa using h45)]
    unfold numTail
    rw [if_pos (.inl (by simp [List.takeWhile_cons, hd]))]
  have h1 : ∀ d : UInt8, c ≠ d → (c :: t).head? ≠ some d := fun d h e => by simp at e; exact h e
  have hne : ∀ d : UInt8, d ≠ 43 → d ≠ 46 → c ≠ d := fun d a b e => by rcases hc with rfl | rfl; exact a e.symm; exact b e.symm
  unfold parseL
  rw [if_neg (by simp; omega), blanks_ne t hb, valL_else 0 _ (h1 _ (hne _ (by decide) (by decide))) (h1 _ (hne _ (by decide) (by decide))) (h1 _ (hne _ (by decide) (by decide))),
    if_neg (fun e => h1 110 (hne _ (by decide) (by decide)) (take_head e)), if_neg (fun e => h1 102 (hne _ (by decide) (by decide)) (take_head e)), if_neg (fun e => h1 116 (hne _ (by decide) (by decide)) (take_head e)), hn]
/-- the texts that are no numbers -/
def bads (S : ByteArray) : List ByteArray := [S ++ ⟨#[46, 48]⟩, S ++ ⟨#[101, 49]⟩, (⟨#[43]⟩ : ByteArray) ++ S, ⟨#[48, 48]⟩, ⟨#[48, 49]⟩, ⟨#[45, 48]⟩, ⟨#[45]⟩,
  ⟨#[57, 48, 48, 55, 49, 57, 57, 50, 53, 52, 55, 52, 48, 57, 57, 50]⟩, ⟨#[45, 57, 48, 48, 55, 49, 57, 57, 50, 53, 52, 55, 52, 48, 57, 57, 50]⟩, ⟨#[49, 46]⟩, ⟨#[46, 49]⟩]
theorem bads_bad (n : Int) (h0 : -9007199254740991 ≤ n) (h1 : n ≤ 9007199254740991) (S : ByteArray) (hS : S.toList = Lib.itoa n) : ∀ X ∈ bads S, parseL X.toList = .error 3 := by
  intro X hX
  have hlen := Lib.itoa_length_le n (by omega) (by omega)
  have nb : ∀ (l : List UInt8) (c : UInt8) (t : List UInt8), l = c :: t → (c = 45 ∨ digB c = true) → numL l = none → l.length ≤ 100 → parseL l = .error 3 := fun l c t h1 h2 h3 h4 => parse_numbad l c t h1 h2 h3 (by omega)
  unfold bads at hX
  simp only [List.mem_cons, List.not_mem_nil, or_false] at hX
  rcases hX with rfl | rfl | rfl | rfl | rfl | rfl | rfl | rfl | rfl | rfl | rfl
  · rw [app_toList, hS, lit_toList [46, 48]]
    exact parse_point n h0 h1 46 [48] (by simp) (by simp)
  · rw [app_toList, hS, lit_toList [101, 49]]
    exact parse_point n h0 h1 101 [49] (by simp) (by simp)
  · rw [app_toList, hS, lit_toList [43]]
    exact parse_other 43 _ (by simp) (by show (Lib.itoa n).length ≤ 1000; omega)
  · rw [lit_toList [48, 48]]; exact nb _ 48 [48] rfl (.inr (by decide)) (by decide) (by simp)
  · rw [lit_toList [48, 49]]; exact nb _ 48 [49] rfl (.inr (by decide)) (by decide) (by simp)
  · rw [lit_toList [45, 48]]; exact nb _ 45 [48] rfl (.inl rfl) (by decide) (by simp)
  · rw [lit_toList [45]]; exact nb _ 45 [] rfl (.inl rfl) (by decide) (by simp)
  · rw [lit_toList [57, 48, 48, 55, 49, 57, 57, 50, 53, 52, 55, 52, 48, 57, 57, 50]]; exact nb _ 57 _ rfl (.inr (by decide)) (by decide +kernel) (by simp)
  · rw [lit_toList [45, 57, 48, 48, 55, 49, 57, 57, 50, 53, 52, 55, 52, 48, 57, 57, 50]]; exact nb _ 45 _ rfl (.inl rfl) (by decide +kernel) (by simp)
  · rw [lit_toList [49, 46]]; exact nb _ 49 [46] rfl (.inr (by decide)) (by decide) (by simp)
  · rw [lit_toList [46, 49]]; exact parse_other 46 [49] (by simp) (by simp)
theorem nds_plain (w : World) (B : Nat) (k n : Int) (t : ByteArray) (hk : I64 k) (hn : I64 n) (ht : t.size ≤ 1000000000) : NdIs w B (.mk k n t [] []) [.int .i64 k, .int .i64 n, .string t, .slice none 0 0, .slice none 0 0] :=
  NdIn.is (S := fun _ => False) (fun b hb => hb.elim) _ _ (nd_plain k n t hk hn ht)
theorem putU_num (n : Int) : putU (.mk 4 n ⟨#[]⟩ [] []) = Lib.itoa n := by
  unfold putU
  rw [if_neg (by omega), if_neg (by omega), if_neg (by omega), if_pos rfl]
set_option maxRecDepth 100000 in
set_option maxHeartbeats 4000000 in
theorem jsonWhole_walk (n : Int) (w0 : (Lit.int .i64 n).wf = true) (w : World) :
    Calls Try.prog 7 #[.int .i64 n] w fun e w' => e = .returned (.bool true) ∧ Below w.heap.size w w' := by
  have hr : -9223372036854775808 ≤ n ∧ n ≤ 9223372036854775807 := by
    simp [Lit.wf, IntKind.min, IntKind.max, IntKind.signed, IntKind.bits] at w0; omega
  obtain ⟨K, hK⟩ : ∃ K, K = n.tmod 9007199254740992 := ⟨_, rfl⟩
  have k0 : -9007199254740991 ≤ K := by rw [hK, Int.tmod_eq_emod]; split <;> omega
  have k1 : K ≤ 9007199254740991 := by rw [hK, Int.tmod_eq_emod]; split <;> omega
  have HK : Hid (n.tmod 9007199254740992 = K) := hK.symm
  have hlen := Lib.itoa_length_le K (by omega) (by omega)
  have hpu := putU_num K
  have hrt := right_num K k0 k1 0
  have hback := parse_put (.mk 4 K ⟨#[]⟩ [] []) hrt (by rw [hpu]; omega)
  rw [hpu] at hback
  have hW := Below.refl w.heap.size w
  have HPR : Hid (∀ (w' : World), Calls Try.prog 17 #[.agg #[.int .i64 4, .int .i64 K, .string ⟨#[]⟩, .slice none 0 0, .slice none 0 0]] w' (StrErr ⟨(Lib.itoa K).toArray⟩ 0 w')) := fun w' => by
    have := rprint_law (.mk 4 K ⟨#[]⟩ [] []) _ w' (nds_plain w' _ 4 K ⟨#[]⟩ (by unfold I64; omega) (by unfold I64; omega) (by decide)) hrt (by rw [hpu]; omega)
    rw [hpu] at this
    exact this
  have hS : (⟨(Lib.itoa K).toArray⟩ : ByteArray).toList = Lib.itoa K := lit_toList _
  have HB := Lib.hid (bads_bad K k0 k1 _ hS)
  have HP2 : Hid (∀ w' A c, BytesAt w' A c ⟨(Lib.itoa K).toArray⟩ → Calls Try.prog 13 #[.slice A (⟨(Lib.itoa K).toArray⟩ : ByteArray).size c] w' (PEnd (.ok (.mk 4 K ⟨#[]⟩ [] [])) w')) := fun w' A c hb => by
    have := parse_law ⟨(Lib.itoa K).toArray⟩ A c w' hb
    rw [hS, hback] at this
    exact this
  have hsz : (⟨(Lib.itoa K).toArray⟩ : ByteArray).size ≤ 21 := by show (Lib.itoa K).toArray.size ≤ 21; simpa using hlen
  generalize (⟨(Lib.itoa K).toArray⟩ : ByteArray) = S at *
  clear k0 k1 hr w0 hK hlen hpu hrt hback hS
  go_enter Try.func7, Try.ntmps7
  go_wp2_with fail
  rw [HK.out]
  refine (HPR.out _ : Calls _ _ _ _ _).mono ?_; rintro e w1 ⟨rfl, hw1⟩
  replace hW := nextB hW hw1
  clear hw1 HPR HK
  go_wp2_with (with_reducible refine wpList_bytes_of _ rfl (.tmp 21) rfl _ rfl ?_; intro g c9 w4 hg1 hg2 hrow hb4)
  have HPC := HP2.out w4 _ c9 (BytesAt.of_row hg2 hrow)
  replace hW := nextB hW hb4
  clear hg1 hg2 hrow hb4 HP2
  refine (HPC : Calls _ _ _ _ _).mono ?_; rintro e w5 ⟨c0, c1, c2, c3, c4, c5, c6, c7, c8, rfl, hn, hw5⟩
  replace hW := nextB hW hw5
  obtain ⟨hd0, hd1, hd2⟩ := hn.head
  simp at hd0 hd1 hd2
  subst hd0 hd1
  clear hd2
  have hA : Below w.heap.size w ((w5.alloc (.cells #[.int .i64 4, .int .i64 c1, .string c2, .slice c3 c4 c5, .slice c6 c7 c8] 27)).alloc (.cells #[.string (S ++ ⟨#[46, 48]⟩), .string (S ++ ⟨#[101, 49]⟩), .string ((⟨#[43]⟩ : ByteArray) ++ S), .string ⟨#[48, 48]⟩, .string ⟨#[48, 49]⟩, .string ⟨#[45, 48]⟩, .string ⟨#[45]⟩, .string ⟨#[57, 48, 48, 55, 49, 57, 57, 50, 53, 52, 55, 52, 48, 57, 57, 50]⟩, .string ⟨#[45, 57, 48, 48, 55, 49, 57, 57, 50, 53, 52, 55, 52, 48, 57, 57, 50]⟩, .string ⟨#[49, 46]⟩, .string ⟨#[46, 49]⟩] 9)) := (hW.alloc hW.size _).alloc (by have := hW.size; simp; omega) _
  have hB := Blk.new (w5.alloc (.cells #[.int .i64 4, .int .i64 c1, .string c2, .slice c3 c4 c5, .slice c6 c7 c8] 27)) 9 #[.string (S ++ ⟨#[46, 48]⟩), .string (S ++ ⟨#[101, 49]⟩), .string ((⟨#[43]⟩ : ByteArray) ++ S), .string ⟨#[48, 48]⟩, .string ⟨#[48, 49]⟩, .string ⟨#[45, 48]⟩, .string ⟨#[45]⟩, .string ⟨#[57, 48, 48, 55, 49, 57, 57, 50, 53, 52, 55, 52, 48, 57, 57, 50]⟩, .string ⟨#[45, 57, 48, 48, 55, 49, 57, 57, 50, 53, 52, 55, 52, 48, 57, 57, 50]⟩, .string ⟨#[49, 46]⟩, .string ⟨#[46, 49]⟩]
  rw [show (w5.alloc (.cells #[.int .i64 4, .int .i64 c1, .string c2, .slice c3 c4 c5, .slice c6 c7 c8] 27)).heap.size = w5.heap.size + 1 by simp] at hB
  have hB2 : Blk ((w5.alloc (.cells #[.int .i64 4, .int .i64 c1, .string c2, .slice c3 c4 c5, .slice c6 c7 c8] 27)).alloc (.cells #[.string (S ++ ⟨#[46, 48]⟩), .string (S ++ ⟨#[101, 49]⟩), .string ((⟨#[43]⟩ : ByteArray) ++ S), .string ⟨#[48, 48]⟩, .string ⟨#[48, 49]⟩, .string ⟨#[45, 48]⟩, .string ⟨#[45]⟩, .string ⟨#[57, 48, 48, 55, 49, 57, 57, 50, 53, 52, 55, 52, 48, 57, 57, 50]⟩, .string ⟨#[45, 57, 48, 48, 55, 49, 57, 57, 50, 53, 52, 55, 52, 48, 57, 57, 50]⟩, .string ⟨#[49, 46]⟩, .string ⟨#[46, 49]⟩] 9)) (w5.heap.size + 1) 9 ((bads S).map Value.string).toArray := hB
  have HA := Lib.hid hA
  have HBL := Lib.hid hB2
  clear HPC hw5 hn hA hB hB2
  go_wp2_with fail
  refine (jnum_any _ _).mono ?_; rintro e w6 ⟨rfl, hw⟩; obtain rfl : _ = w6 := hw
  go_wp2_with fail
  generalize ((w5.alloc (.cells #[.int .i64 4, .int .i64 c1, .string c2, .slice c3 c4 c5, .slice c6 c7 c8] 27)).alloc (.cells #[.string (S ++ ⟨#[46, 48]⟩), .string (S ++ ⟨#[101, 49]⟩), .string ((⟨#[43]⟩ : ByteArray) ++ S), .string ⟨#[48, 48]⟩, .string ⟨#[48, 49]⟩, .string ⟨#[45, 48]⟩, .string ⟨#[45]⟩, .string ⟨#[57, 48, 48, 55, 49, 57, 57, 50, 53, 52, 55, 52, 48, 57, 57, 50]⟩, .string ⟨#[45, 57, 48, 48, 55, 49, 57, 57, 50, 53, 52, 55, 52, 48, 57, 57, 50]⟩, .string ⟨#[49, 46]⟩, .string ⟨#[46, 49]⟩] 9)) = W2 at *
  have hlen : (bads S).length = 11 := rfl
  have HSZ := hsz
  clear hsz hW
  go_loopw [9] (fun t9 wr => ∃ i : Nat, i ≤ 11 ∧ t9 = .int .i64 i ∧ Hid (Blk wr (w5.heap.size + 1) 9 ((bads S).map Value.string).toArray) ∧ Hid (Below w.heap.size w wr)) (fun t9 _ => 11 - (intOf t9).toNat)
  case atStart => exact ⟨0, by omega, rfl, HBL, HA⟩
  case round =>
    obtain ⟨i, hi, rfl, hbl, hw⟩ := hrel
    by_cases hlt : i < 11
    · obtain ⟨X, hX⟩ : ∃ X, (bads S)[i]? = some X := ⟨_, List.getElem?_eq_getElem (by omega)⟩
      have hXm := List.mem_of_getElem? hX
      have hc : wr.cell? ⟨w5.heap.size + 1, i, none⟩ = some (.string X) := by
        rw [hbl.out.cell i]
        simp [hX]
      have HP : Hid (∀ w' A c, BytesAt w' A c X → Calls Try.prog 13 #[.slice A X.size c] w' (PEnd (.error 3) w')) := fun w' A c hb => by
        have := parse_law X A c w' hb
        rw [HB.out X hXm] at this
        exact this
      clear hX hXm
      go_wp2_with (with_reducible refine wpList_bytes_of _ rfl (.tmp 61) rfl _ rfl ?_; intro g c9 w4 hg1 hg2 hrow hb4)
      have HPC := HP.out w4 _ c9 (BytesAt.of_row hg2 hrow)
      have hbl4 := hbl.out.below hb4 hbl.out.lt
      have hw4 := nextB hw.out hb4
      clear hg1 hg2 hrow hb4 HP hbl hw hc
      refine (HPC : Calls _ _ _ _ _).mono ?_; rintro e w5 ⟨rfl, hw5⟩
      have hbl5 := Lib.hid ((hbl4.below hw5 hbl4.lt).alloc (.cells #[.int .i64 0, .int .i64 0, .string ⟨#[]⟩, .slice none 0 0, .slice none 0 0] 27))
      have hw6 := nextB hw4 hw5
      have hw7 := Lib.hid (hw6.alloc hw6.size (.cells #[.int .i64 0, .int .i64 0, .string ⟨#[]⟩, .slice none 0 0, .slice none 0 0] 27))
      clear HPC hw5 hbl4 hw4 hw6
      go_wp2_with fail
      refine (jnum_any _ _).mono ?_; rintro e w6 ⟨rfl, hw⟩; obtain rfl : _ = w6 := hw
      go_wp2_with fail
      go_roundw
      case rel => exact ⟨i + 1, by omega, by go_num, hbl5, hw7⟩
      case measure => simp [intOf]; omega
    · obtain rfl : i = 11 := by omega
      have hW := hw.out
      clear hw hbl
      go_wp2_with (go_at_call 12; refine (awake7_any _).mono ?_; rintro e w8 ⟨rfl, hw1⟩; (first | replace hW := nextB hW hw1 | replace hW := nextA hW hw1 | replace hW := nextB hW.drew hw1 | replace hW := nextAA hW hw1 | replace hW := nextAD hW hw1); clear hw1)
      go_ret
      exact ⟨rfl, hW⟩
end Go.Proofs.Ytjigceoponlphaa
/-! Plain laws of reading JSON: an object with two keys. -/
namespace Go.Proofs.Ytjigceoponlphaa
open Go.RowKit Go.PlainAid
set_option linter.unusedVariables false
set_option linter.unusedSimpArgs false
def num1 (n : Int) : Nd := .mk 4 n ⟨#[]⟩ [] []
theorem putU_num1 (n : Int) : putU (num1 n) = Lib.itoa n := by
  unfold num1 putU
  rw [if_neg (by omega), if_neg (by omega), if_neg (by omega), if_pos rfl]
theorem itoa_1 : Lib.itoa 1 = [49] := by
  show Lib.decDigits 1 = _
  rw [Lib.decDigits_one (by omega)]
  rfl
theorem itoa_2 : Lib.itoa 2 = [50] := by
  show Lib.decDigits 2 = _
  rw [Lib.decDigits_one (by omega)]
  rfl
theorem putU_obj (ks : List ByteArray) (ns : List Nd) : putU (.mk 7 0 ⟨#[]⟩ ks ns) = [123] ++ putL true ks ns true ++ [125] := by
  unfold putU
  rw [if_neg (by omega), if_neg (by omega), if_neg (by omega), if_neg (by omega), if_neg (by omega), if_neg (by omega)]
  rfl
theorem putU_arr (ns : List Nd) : putU (.mk 6 0 ⟨#[]⟩ [] ns) = [91] ++ putL false [] ns true ++ [93] := by
  unfold putU
  rw [if_neg (by omega), if_neg (by omega), if_neg (by omega), if_neg (by omega), if_neg (by omega), if_pos rfl]
  rfl
theorem putL_one (obj : Bool) (ks : List ByteArray) (n : Nd) : putL obj ks [n] true = (if obj = true then quoteU (ks.headD ⟨#[]⟩).toList ++ [58] else []) ++ putU n := by
  have h := putL_cons obj ks n [] []
  have e : putL obj ks.tail [] false ++ [] = [] := putL_nil _ _ _ _
  rw [List.append_nil, e, List.append_nil] at h
  exact h
theorem putL_two (obj : Bool) (ks : List ByteArray) (n m : Nd) : putL obj ks [n, m] true = (if obj = true then quoteU (ks.headD ⟨#[]⟩).toList ++ [58] else []) ++ (putU n ++ (44 :: ((if obj = true then quoteU (ks.tail.headD ⟨#[]⟩).toList ++ [58] else []) ++ putU m))) := by
  have h := putL_cons obj ks n [m] []
  have h2 := putL_more obj ks.tail m [] []
  rw [List.append_nil] at h h2
  rw [h, List.append_nil, h2, List.append_nil, putL_one]
def objTwo (a b : ByteArray) : Nd := .mk 7 0 ⟨#[]⟩ [a, b] [num1 1, num1 2]
def twoObj (a b : ByteArray) : Nd := .mk 6 0 ⟨#[]⟩ [] [.mk 7 0 ⟨#[]⟩ [a] [num1 1], .mk 7 0 ⟨#[]⟩ [b] [num1 2]]
theorem right_num1 (n : Int) (h0 : 0 ≤ n) (h1 : n ≤ 9) (deep : Int) : rightD (num1 n) deep = true := right_num n (by omega) (by omega) deep
theorem put_objTwo (a b : ByteArray) : putU (objTwo a b) = [123] ++ quoteU a.toList ++ [58, 49, 44] ++ quoteU b.toList ++ [58, 50, 125] := by
  unfold objTwo
  rw [putU_obj, putL_two, putU_num1, putU_num1, itoa_1, itoa_2]
  simp
theorem put_twoObj (a b : ByteArray) : putU (twoObj a b) = [91, 123] ++ quoteU a.toList ++ [58, 49, 125, 44, 123] ++ quoteU b.toList ++ [58, 50, 125, 93] := by
  unfold twoObj
  rw [putU_arr, putL_two, putU_obj, putU_obj, putL_one, putL_one, putU_num1, putU_num1, itoa_1, itoa_2]
  simp
theorem quote_le6 (t : List UInt8) : (quoteU t).length ≤ 2 + 6 * t.length := quoteU_le t
theorem parse_objTwo (a b : ByteArray) (ha : ValidP a.toList) (hb : ValidP b.toList) (hab : a ≠ b) (sa : a.size ≤ 300) (sb : b.size ≤ 300) : parseL ([123] ++ quoteU a.toList ++ [58, 49, 44] ++ quoteU b.toList ++ [58, 50, 125]) = .ok (objTwo a b) := by
  have h1 := quoteU_le a.toList
  have h2 := quoteU_le b.toList
  rw [tl_len'] at h1 h2
  rw [← put_objTwo]
  refine parse_put _ ?_ (by rw [put_objTwo]; simp only [List.length_append, List.length_cons, List.length_nil]; omega)
  unfold objTwo
  refine right_obj _ _ 0 (by omega) rfl (by simpa using hab) ?_ ?_
  · intro k hk
    simp at hk
    rcases hk with rfl | rfl
    · exact ha
    · exact hb
  · intro n hn
    simp at hn
    rcases hn with rfl | rfl
    · exact right_num1 1 (by omega) (by omega) _
    · exact right_num1 2 (by omega) (by omega) _
theorem parse_twoObj (a b : ByteArray) (ha : ValidP a.toList) (hb : ValidP b.toList) (sa : a.size ≤ 300) (sb : b.size ≤ 300) : parseL ([91, 123] ++ quoteU a.toList ++ [58, 49, 125, 44, 123] ++ quoteU b.toList ++ [58, 50, 125, 93]) = .ok (twoObj a b) := by
  have h1 := quoteU_le a.toList
  have h2 := quoteU_le b.toList
  rw [tl_len'] at h1 h2
  rw [← put_twoObj]
  refine parse_put _ ?_ (by rw [put_twoObj]; simp only [List.length_append, List.length_cons, List.length_nil]; omega)
  unfold twoObj
  have one : ∀ (k : ByteArray) (n : Int), ValidP k.toList → 0 ≤ n → n ≤ 9 → rightD (.mk 7 0 ⟨#[]⟩ [k] [num1 n]) (0 + 1) = true := fun k n hk h0 h1 =>
    right_obj _ _ _ (by omega) rfl (by simp) (by intro x hx; simp at hx; subst hx; exact hk) (by intro x hx; simp at hx; subst hx; exact right_num1 n h0 h1 _)
  refine right_arr _ 0 (by omega) ?_
  intro n hn
  simp at hn
  rcases hn with rfl | rfl
  · exact one a 1 ha (by omega) (by omega)
  · exact one b 2 hb (by omega) (by omega)
theorem parse_twice (a : ByteArray) (ha : ValidP a.toList) (sa : a.size ≤ 300) : parseL ([123] ++ quoteU a.toList ++ [58, 49, 44] ++ quoteU a.toList ++ [58, 50, 125]) = .error 5 := by
  have h1 := quoteU_le a.toList
  rw [tl_len'] at h1
  have hl : ([123] ++ quoteU a.toList ++ [58, 49, 44] ++ quoteU a.toList ++ [58, 50, 125]).length ≤ 65536 := by
    simp only [List.length_append, List.length_cons, List.length_nil]; omega
  have he : [123] ++ quoteU a.toList ++ [58, 49, 44] ++ quoteU a.toList ++ [58, 50, 125] = 123 :: (quoteU a.toList ++ (58 :: ([49] ++ (44 :: (quoteU a.toList ++ [58, 50, 125]))))) := by simp
  have hq : ∀ z, blanksL (quoteU a.toList ++ z) = quoteU a.toList ++ z := fun z => blanks_ne (c := 34) _ (by decide)
  have hn : valL 1 ([49] ++ (44 :: (quoteU a.toList ++ [58, 50, 125]))) = .ok (.mk 4 1 ⟨#[]⟩ [] [], 44 :: (quoteU a.toList ++ [58, 50, 125])) := by
    rw [← itoa_1, valL_num 1 _ 49 (by rw [itoa_1]; rfl) (.inr (by decide)), numL_itoa 1 _ (numEnd_sep 44 _ (by simp)) (by omega) (by omega)]
  unfold parseL
  rw [if_neg (by omega), he, blanks_ne _ (by decide), valL_obj 0 _ rfl (by omega), List.tail_cons, hq, if_neg (by rw [quoteU_head]; simp), objL_eq, hq, textL_quote _ ha]
  simp only
  rw [if_neg (by simp), blanks_ne _ (by decide), if_pos (by simp), List.tail_cons]
  rw [show blanksL ([49] ++ (44 :: (quoteU a.toList ++ [58, 50, 125]))) = [49] ++ (44 :: (quoteU a.toList ++ [58, 50, 125])) from blanks_ne (c := 49) _ (by decide), hn]
  simp only
  rw [blanks_ne _ (by decide), if_neg (by simp), if_pos (by simp), List.tail_cons, objL_eq, hq, textL_quote _ ha]
  simp only
  rw [if_pos]
  rw [mk_toList]
  simp
end Go.Proofs.Ytjigceoponlphaa
/-! JsonTwice: its walk. -/
namespace Go.Proofs.Ytjigceoponlphaa
open Go.RowKit Go.PlainAid
set_option linter.unusedVariables false
set_option linter.unusedSimpArgs false
theorem right_text (a : ByteArray) : rightD (.mk 5 0 a [] []) 0 = validB a.toList := by
  unfold rightD rightN bareF
  simp
theorem putU_text (a : ByteArray) : putU (.mk 5 0 a [] []) = quoteU a.toList := by
  unfold putU
  rw [if_neg (by omega), if_neg (by omega), if_neg (by omega), if_neg (by omega), if_pos rfl]
theorem print_text (a : ByteArray) (sa : a.size ≤ 300) (w : World) : ∃ S E, ((validB a.toList = true ∧ S = ⟨(quoteU a.toList).toArray⟩ ∧ E = 0) ∨ (validB a.toList = false ∧ E = 1)) ∧
    ∀ w', Calls Try.prog 17 #[.agg #[.int .i64 5, .int .i64 0, .string a, .slice none 0 0, .slice none 0 0]] w' (StrErr S E w') := by
  have hq := quoteU_le a.toList
  rw [tl_len'] at hq
  refine ⟨printS (.mk 5 0 a [] []), printE (.mk 5 0 a [] []), ?_, fun w' => ?_⟩
  · rw [printS_eq, printE_eq, right_text, putU_text]
    cases validB a.toList with
    | true =>
      left
      rw [if_neg (by simp), if_neg (by omega), if_neg (by simp), if_neg (by omega)]
      exact ⟨rfl, rfl, rfl⟩
    | false => exact .inr ⟨rfl, by rw [if_pos rfl]⟩
  · refine rPrint_any (.mk 5 0 a [] []) _ w' w'.heap.size (nds_plain w' _ 5 0 a (by unfold I64; omega) (by unfold I64; omega) (by omega)) (Nat.le_refl _) (fun _ => ?_) ?_
    · unfold goodN goodL
      exact ⟨by omega, by omega, by omega, by simp, trivial⟩
    · unfold gN gL; omega
set_option maxRecDepth 100000 in
set_option maxHeartbeats 1000000 in
theorem jsonTwice_walk (a b : ByteArray) (w0 : a.size ≤ maxLen) (w1 : b.size ≤ maxLen) (w : World) :
    Calls Try.prog 8 #[.string a, .string b] w fun e w' => e = .returned (.bool true) ∧ Below w.heap.size w w' := by
  have hW := Below.refl w.heap.size w
  by_cases la : a.size ≤ 300
  case neg =>
    have lai : (300 : Int) < (a.size : Int) := by omega
    go_enter Try.func8, Try.ntmps8
    go_wp2_with (go_at_call 12; refine (awake7_any _).mono ?_; rintro e w1 ⟨rfl, hw1⟩; (first | replace hW := nextB hW hw1 | replace hW := nextA hW hw1 | replace hW := nextB hW.drew hw1 | replace hW := nextAA hW hw1 | replace hW := nextAD hW hw1); clear hw1)
    go_ret
    exact ⟨rfl, hW⟩
  have lai : ¬ (300 : Int) < (a.size : Int) := by omega
  by_cases lb : b.size ≤ 300
  case neg =>
    have lbi : (300 : Int) < (b.size : Int) := by omega
    go_enter Try.func8, Try.ntmps8
    go_wp2_with (go_at_call 12; refine (awake7_any _).mono ?_; rintro e w1 ⟨rfl, hw1⟩; (first | replace hW := nextB hW hw1 | replace hW := nextA hW hw1 | replace hW := nextB hW.drew hw1 | replace hW := nextAA hW hw1 | replace hW := nextAD hW hw1); clear hw1)
    go_ret
    exact ⟨rfl, hW⟩
  have lbi : ¬ (300 : Int) < (b.size : Int) := by omega
  obtain ⟨X, E, hX, hPA⟩ := print_text a la w
  obtain ⟨Y, F, hY, hPB⟩ := print_text b lb w
  have HPA := Lib.hid hPA
  have HPB := Lib.hid hPB
  clear hPA hPB
  have both : E ≠ 0 ∨ F ≠ 0 → Calls Try.prog 8 #[.string a, .string b] w fun e w' => e = .returned (.bool true) ∧ Below w.heap.size w w' := by
    intro h
    clear hX hY
    by_cases hE : E = 0
    · have hF : ¬ F = 0 := by rcases h with h | h; exact absurd hE h; exact h
      clear h
      go_enter Try.func8, Try.ntmps8
      go_wp2_with fail
      refine (HPA.out _ : Calls _ _ _ _ _).mono ?_; rintro e w1 ⟨rfl, hw1⟩
      replace hW := nextB hW hw1; clear hw1
      go_wp2_with fail
      refine (HPB.out _ : Calls _ _ _ _ _).mono ?_; rintro e w2 ⟨rfl, hw1⟩
      replace hW := nextB hW hw1; clear hw1
      go_wp2_with (go_at_call 12; refine (awake7_any _).mono ?_; rintro e w1 ⟨rfl, hw1⟩; (first | replace hW := nextB hW hw1 | replace hW := nextA hW hw1 | replace hW := nextB hW.drew hw1 | replace hW := nextAA hW hw1 | replace hW := nextAD hW hw1); clear hw1)
      go_ret
      exact ⟨rfl, hW⟩
    · clear h
      go_enter Try.func8, Try.ntmps8
      go_wp2_with fail
      refine (HPA.out _ : Calls _ _ _ _ _).mono ?_; rintro e w1 ⟨rfl, hw1⟩
      replace hW := nextB hW hw1; clear hw1
      go_wp2_with fail
      refine (HPB.out _ : Calls _ _ _ _ _).mono ?_; rintro e w2 ⟨rfl, hw1⟩
      replace hW := nextB hW hw1; clear hw1
      go_wp2_with (go_at_call 12; refine (awake7_any _).mono ?_; rintro e w1 ⟨rfl, hw1⟩; (first | replace hW := nextB hW hw1 | replace hW := nextA hW hw1 | replace hW := nextB hW.drew hw1 | replace hW := nextAA hW hw1 | replace hW := nextAD hW hw1); clear hw1)
      go_ret
      exact ⟨rfl, hW⟩
  rcases hX with ⟨va, hX, rfl⟩ | ⟨va, rfl⟩
  case inr => exact both (.inl (by omega))
  rcases hY with ⟨vb, hY, rfl⟩ | ⟨vb, rfl⟩
  case inr => exact both (.inr (by omega))
  clear both
  have va := (validB_iff _).1 va
  have vb := (validB_iff _).1 vb
  have hxl : X.toList = quoteU a.toList := by rw [hX, lit_toList]
  have hyl : Y.toList = quoteU b.toList := by rw [hY, lit_toList]
  have sx : X.size ≤ 2000 := by have := quoteU_le a.toList; rw [← tl_len', hxl]; rw [tl_len'] at this; omega
  have sy : Y.size ≤ 2000 := by have := quoteU_le b.toList; rw [← tl_len', hyl]; rw [tl_len'] at this; omega
  have e1 : ((((⟨#[123]⟩ : ByteArray) ++ X) ++ ⟨#[58, 49, 44]⟩ ++ Y) ++ ⟨#[58, 50, 125]⟩).toList = [123] ++ quoteU a.toList ++ [58, 49, 44] ++ quoteU b.toList ++ [58, 50, 125] := by
    rw [app_toList, app_toList, app_toList, app_toList, hxl, hyl, lit_toList [123], lit_toList [58, 49, 44], lit_toList [58, 50, 125]]
  have e2 : ((((⟨#[91, 123]⟩ : ByteArray) ++ X) ++ ⟨#[58, 49, 125, 44, 123]⟩ ++ Y) ++ ⟨#[58, 50, 125, 93]⟩).toList = [91, 123] ++ quoteU a.toList ++ [58, 49, 125, 44, 123] ++ quoteU b.toList ++ [58, 50, 125, 93] := by
    rw [app_toList, app_toList, app_toList, app_toList, hxl, hyl, lit_toList [91, 123], lit_toList [58, 49, 125, 44, 123], lit_toList [58, 50, 125, 93]]
  have HP2 : Hid (∀ w' A c (n : Nat), n = ((((⟨#[91, 123]⟩ : ByteArray) ++ X) ++ ⟨#[58, 49, 125, 44, 123]⟩ ++ Y) ++ ⟨#[58, 50, 125, 93]⟩).size → BytesAt w' A c ((((⟨#[91, 123]⟩ : ByteArray) ++ X) ++ ⟨#[58, 49, 125, 44, 123]⟩ ++ Y) ++ ⟨#[58, 50, 125, 93]⟩) → Calls Try.prog 13 #[.slice A n c] w' (PEnd (.ok (twoObj a b)) w')) := fun w' A c n hn hb => by
    subst hn
    have := parse_law _ A c w' hb
    rw [e2, parse_twoObj a b va vb la lb] at this
    exact this
  have z1 : (⟨#[123]⟩ : ByteArray).size = 1 := rfl
  have z2 : (⟨#[58, 49, 44]⟩ : ByteArray).size = 3 := rfl
  have z3 : (⟨#[58, 50, 125]⟩ : ByteArray).size = 3 := rfl
  have z4 : (⟨#[91, 123]⟩ : ByteArray).size = 2 := rfl
  have z5 : (⟨#[58, 49, 125, 44, 123]⟩ : ByteArray).size = 5 := rfl
  have z6 : (⟨#[58, 50, 125, 93]⟩ : ByteArray).size = 4 := rfl
  by_cases hab : a = b
  · subst hab
    have HP1 : Hid (∀ w' A c (n : Nat), n = ((((⟨#[123]⟩ : ByteArray) ++ X) ++ ⟨#[58, 49, 44]⟩ ++ Y) ++ ⟨#[58, 50, 125]⟩).size → BytesAt w' A c ((((⟨#[123]⟩ : ByteArray) ++ X) ++ ⟨#[58, 49, 44]⟩ ++ Y) ++ ⟨#[58, 50, 125]⟩) → Calls Try.prog 13 #[.slice A n c] w' (PEnd (.error 5) w')) := fun w' A c n hn hb => by
      subst hn
      have := parse_law _ A c w' hb
      rw [e1, parse_twice a va la] at this
      exact this
    have hcmp : (a.toList == a.toList) = true := by simp
    clear e1 e2 hX hY hxl hyl va vb la lb
    go_enter Try.func8, Try.ntmps8
    go_wp2_with fail
    refine (HPA.out _ : Calls _ _ _ _ _).mono ?_; rintro e w1 ⟨rfl, hw1⟩
    replace hW := nextB hW hw1; clear hw1
    go_wp2_with fail
    refine (HPB.out _ : Calls _ _ _ _ _).mono ?_; rintro e w2 ⟨rfl, hw1⟩
    replace hW := nextB hW hw1; clear hw1 HPA HPB
    go_wp2_with (with_reducible refine wpList_bytes_of _ rfl (.tmp 47) rfl _ rfl ?_; intro g c9 w4 hg1 hg2 hrow hb4)
    have HPC := HP1.out w4 (some ⟨g, 0, none⟩) c9
    replace hW := nextB hW hb4
    have hby := BytesAt.of_row (c := c9) hg2 hrow
    clear hg1 hg2 hrow hb4 HP1
    refine (HPC _ (by simp [ByteArray.size_append]; try omega) hby : Calls _ _ _ _ _).mono ?_; rintro e w5 ⟨rfl, hw5⟩
    replace hW := nextB hW hw5
    replace hW := Below.alloc hW hW.size (.cells #[.int .i64 0, .int .i64 0, .string ⟨#[]⟩, .slice none 0 0, .slice none 0 0] 27)
    clear HPC hby hw5
    go_wp2_with (with_reducible refine wpList_bytes_of _ rfl (.tmp 58) rfl _ rfl ?_; intro g c9 w4 hg1 hg2 hrow hb4)
    have HPC := HP2.out w4 (some ⟨g, 0, none⟩) c9
    replace hW := nextB hW hb4
    have hby := BytesAt.of_row (c := c9) hg2 hrow
    clear hg1 hg2 hrow hb4 HP2
    refine (HPC _ (by simp [ByteArray.size_append]; try omega) hby : Calls _ _ _ _ _).mono ?_; rintro e w5 ⟨c0, c1, c2, c3, c4, c5, c6, c7, c8, rfl, hn, hw5⟩
    replace hW := nextB hW hw5
    clear HPC hby hw5 hn z1 z2 z3 z4 z5 z6 sx sy
    go_wp2_with (first
      | (go_at_call 16; refine (jnum_any _ _).mono ?_; rintro e w6 ⟨rfl, hw⟩; obtain rfl : _ = w6 := hw)
      | (go_at_call 12; refine (awake7_any _).mono ?_; rintro e w8 ⟨rfl, hw1⟩; (first | replace hW := nextB hW hw1 | replace hW := nextA hW hw1 | replace hW := nextB hW.drew hw1 | replace hW := nextAA hW hw1 | replace hW := nextAD hW hw1); clear hw1))
    go_ret
    exact ⟨rfl, hW⟩
  · have HP1 : Hid (∀ w' A c (n : Nat), n = ((((⟨#[123]⟩ : ByteArray) ++ X) ++ ⟨#[58, 49, 44]⟩ ++ Y) ++ ⟨#[58, 50, 125]⟩).size → BytesAt w' A c ((((⟨#[123]⟩ : ByteArray) ++ X) ++ ⟨#[58, 49, 44]⟩ ++ Y) ++ ⟨#[58, 50, 125]⟩) → Calls Try.prog 13 #[.slice A n c] w' (PEnd (.ok (objTwo a b)) w')) := fun w' A c n hn hb => by
      subst hn
      have := parse_law _ A c w' hb
      rw [e1, parse_objTwo a b va vb hab la lb] at this
      exact this
    have hcmp : (a.toList == b.toList) = false := by
      rw [beq_eq_false_iff_ne]
      intro e
      exact hab (ba_ext' e)
    clear e1 e2 hX hY hxl hyl va vb la lb
    go_enter Try.func8, Try.ntmps8
    go_wp2_with fail
    refine (HPA.out _ : Calls _ _ _ _ _).mono ?_; rintro e w1 ⟨rfl, hw1⟩
    replace hW := nextB hW hw1; clear hw1
    go_wp2_with fail
    refine (HPB.out _ : Calls _ _ _ _ _).mono ?_; rintro e w2 ⟨rfl, hw1⟩
    replace hW := nextB hW hw1; clear hw1 HPA HPB
    go_wp2_with (with_reducible refine wpList_bytes_of _ rfl (.tmp 47) rfl _ rfl ?_; intro g c9 w4 hg1 hg2 hrow hb4)
    have HPC := HP1.out w4 (some ⟨g, 0, none⟩) c9
    replace hW := nextB hW hb4
    have hby := BytesAt.of_row (c := c9) hg2 hrow
    clear hg1 hg2 hrow hb4 HP1
    refine (HPC _ (by simp [ByteArray.size_append]; try omega) hby : Calls _ _ _ _ _).mono ?_; rintro e w5 ⟨c0, c1, c2, c3, c4, c5, c6, c7, c8, rfl, hn, hw5⟩
    replace hW := nextB hW hw5
    replace hW := Below.alloc hW hW.size (.cells #[.int .i64 c0, .int .i64 c1, .string c2, .slice c3 c4 c5, .slice c6 c7 c8] 27)
    clear HPC hby hw5 hn
    go_wp2_with (with_reducible refine wpList_bytes_of _ rfl (.tmp 58) rfl _ rfl ?_; intro g c9 w4 hg1 hg2 hrow hb4)
    have HPC := HP2.out w4 (some ⟨g, 0, none⟩) c9
    replace hW := nextB hW hb4
    have hby := BytesAt.of_row (c := c9) hg2 hrow
    clear hg1 hg2 hrow hb4 HP2
    refine (HPC _ (by simp [ByteArray.size_append]; try omega) hby : Calls _ _ _ _ _).mono ?_; rintro e w5 ⟨c0, c1, c2, c3, c4, c5, c6, c7, c8, rfl, hn, hw5⟩
    replace hW := nextB hW hw5
    clear HPC hby hw5 hn z1 z2 z3 z4 z5 z6 sx sy
    go_wp2_with (first
      | (go_at_call 16; refine (jnum_any _ _).mono ?_; rintro e w6 ⟨rfl, hw⟩; obtain rfl : _ = w6 := hw)
      | (go_at_call 12; refine (awake7_any _).mono ?_; rintro e w8 ⟨rfl, hw1⟩; (first | replace hW := nextB hW hw1 | replace hW := nextA hW hw1 | replace hW := nextB hW.drew hw1 | replace hW := nextAA hW hw1 | replace hW := nextAD hW hw1); clear hw1))
    go_ret
    exact ⟨rfl, hW⟩
end Go.Proofs.Ytjigceoponlphaa
/-! JsonLong: its walk. -/
namespace Go.Proofs.Ytjigceoponlphaa
open Go.RowKit Go.PlainAid
set_option linter.unusedVariables false
set_option linter.unusedSimpArgs false
/-- the bytes of a row -/
def rowS (n : Nat) (f : Nat → Int) : ByteArray := strOfNums ((List.range n).map f)
theorem rowS_size (n : Nat) (f : Nat → Int) : (rowS n f).size = n := by unfold rowS; rw [strOfNums_size]; simp
theorem rowS_bt (n : Nat) (f : Nat → Int) (hf : ∀ i, 0 ≤ f i ∧ f i ≤ 255) (i : Nat) (hi : i < n) : bt (rowS n f) i = f i := by
  have e : ((List.range n).map f).getD i 0 = f i := by simp [List.getD, hi]
  unfold rowS
  rw [bt_nums _ i (by simpa using hi) (by rw [e]; exact (hf i).1) (by rw [e]; exact (hf i).2), e]
theorem BytesAt.of_rowF {w : World} {g n c : Nat} {f : Nat → Int} (hf : ∀ i, 0 ≤ f i ∧ f i ≤ 255) (hg : g < w.heap.size) (h : RowF w g n f) (m : Nat) (hm : m ≤ n) : BytesAt w (some ⟨g, 0, none⟩) c (rowS m f) :=
  BytesAt.of_cells (fun _ => hg) (fun i hi => by
    rw [rowS_size] at hi
    rw [Nat.zero_add, (h i (by omega)).1, rowS_bt m f hf i hi])
def longF (j : Nat) : Int := if j = 0 then 49 else 32
theorem longF_ok (i : Nat) : 0 ≤ longF i ∧ longF i ≤ 255 := by unfold longF; split <;> omega
theorem long_list (n : Nat) : (rowS (n + 1) longF).toList = 49 :: List.replicate n 32 := by
  unfold rowS
  rw [nums_toList, List.map_map, List.range_succ_eq_map, List.map_cons, List.map_map]
  have e : (List.range n).map (((fun n : Int => UInt8.ofNat n.toNat) ∘ longF) ∘ Nat.succ) = List.replicate n 32 := by
    rw [List.eq_replicate_iff]
    refine ⟨by simp, fun b hb => ?_⟩
    obtain ⟨i, _, rfl⟩ := List.mem_map.1 hb
    rfl
  rw [e]
  rfl
theorem parse_long (n : Nat) (hn : n ≤ 65535) : parseL (49 :: List.replicate n 32) = .ok (num1 1) := by
  have h := parse_blanks [] [49] (List.replicate n 32) (fun c hc => by simp at hc) (fun c hc => by rw [List.eq_of_mem_replicate hc]; decide) (by simp; omega)
  have h2 := parse_put (num1 1) (right_num1 1 (by omega) (by omega) 0) (by rw [putU_num1, itoa_1]; simp)
  rw [putU_num1, itoa_1] at h2
  rw [List.nil_append] at h
  exact h.trans h2
theorem parse_too (l : List UInt8) (h : 65536 < l.length) : parseL l = .error 2 := by
  unfold parseL
  rw [if_pos h]
theorem RowF.of_zero {w : World} {B g n : Nat} (h : w.ownsRow B 5 1 (.slice (some ⟨g, 0, none⟩) n n) n (List.replicate n (.int .u8 0))) (hn : 0 < n) : RowF w g n (fun _ => 0) ∧ g < w.heap.size := by
  rcases h.2 with ⟨h1, _⟩ | ⟨g', cap, cur, hv, _, hg, _, _, _, htake⟩
  · cases h1
  · injection hv with e1 _ _
    injection e1 with e1
    injection e1 with e1
    subst e1
    refine ⟨fun j hj => ?_, (Array.getElem?_eq_some_iff.1 hg).1⟩
    have hb : Blk w g 5 cur := hg
    refine ⟨?_, hb.frozen j⟩
    rw [hb.cell j]
    have : (cur.toList.take (n * 1))[j]? = some (.int .u8 0) := by rw [htake]; simp [hj]
    rw [List.getElem?_take, if_pos (by omega)] at this
    simpa using this
theorem RowF.below {w w' : World} {g n : Nat} {f : Nat → Int} (h : RowF w g n f) (hg : g < w.heap.size) (hb : Below w.heap.size w w') : RowF w' g n f := fun j hj => by
  obtain ⟨h1, h2⟩ := h j hj
  refine ⟨by rw [hb.cell (by exact hg)]; exact h1, ?_⟩
  have := hb.block g hg
  unfold World.frozen? at h2 ⊢
  rw [this]
  exact h2
set_option maxRecDepth 100000 in
set_option maxHeartbeats 2000000 in
theorem jsonLong_walk (c : Int) (w0 : (Lit.int .u8 c).wf = true) (w : World) :
    Calls Try.prog 10 #[.int .u8 c] w fun e w' => e = .returned (.bool true) ∧ Below w.heap.size w w' := by
  have hc : 0 ≤ c ∧ c ≤ 255 := by
    simp [Lit.wf, IntKind.min, IntKind.max, IntKind.signed, IntKind.bits] at w0; omega
  clear w0
  obtain ⟨i0, hi0, hz0, hz1, hz2⟩ := info_parts u8Info
  obtain ⟨w1, hmk, own, hgr⟩ := run_make_full (P := Try.prog) w w.heap.size 22 5 i0 _ 1 Try.underlying22 hi0 hz0 hz1 .i64 .i64 65537 (by rw [hz2]; omega) (by simp only [maxLen]; omega) (Nat.le_refl _)
  rw [show (Value.int IntKind.u8 0).cells = #[.int .u8 0] from rfl, toList_madeCells_one] at own
  obtain ⟨hrow, hgl⟩ := RowF.of_zero own (by omega)
  have hW : Below w.heap.size w w1 := (Below.refl _ _).grown hgr (Nat.le_refl _) (fun k hk => by cases hk)
  obtain ⟨N, hN⟩ : ∃ N : Nat, N = 65537 := ⟨_, rfl⟩
  have hmk' : (Instr.makeSlice 22 (.int .i64 65537) (.int .i64 65537)).run Try.prog w = .ok (.slice (some ⟨w.heap.size, 0, none⟩) N N) w1 := by rw [hN]; exact hmk
  rw [← hN] at hrow
  have HN := Lib.hid hN
  have hN0 : 2 ≤ N := by omega
  have hN1 : 65536 ≤ N := by omega
  have hN2 : N ≤ 100000 := by omega
  clear hN
  have HROW := Lib.hid hrow
  have HW := Lib.hid hW
  clear hi0 hz0 hz1 hz2 hmk own hgr hrow hW
  go_enter Try.func10, Try.ntmps10
  go_wp2_with fail
  clear hmk'
  go_loopw [4] (fun t4 wr => ∃ k : Nat, k ≤ N ∧ t4 = .int .i64 k ∧ Hid (RowF wr w.heap.size N (fun j => if j < k then 32 else 0)) ∧ Hid (Below w.heap.size w wr) ∧ w.heap.size < wr.heap.size) (fun t4 _ => N - (intOf t4).toNat)
  case atStart => exact ⟨0, by omega, rfl, HROW.out.congr fun j _ => by rw [if_neg (by omega)], HW, hgl⟩
  case round =>
    obtain ⟨k, hk, rfl, hrow, hw, hlt0⟩ := hrel
    by_cases hlt : k < N
    · obtain ⟨q1, q2⟩ := hrow.out k hlt
      have q3 : wr.cell? ⟨w.heap.size, k, none⟩ = some (.int .u8 0) := by rw [q1]; dsimp only; rw [if_neg (by omega)]
      have n1 : Hid (RowF (wr.setCell ⟨w.heap.size, k, none⟩ (.int .u8 32)) w.heap.size N (fun j => if j < k + 1 then 32 else 0)) := (hrow.out.set k 32).congr fun j _ => by
        by_cases e : j = k
        · rw [if_pos e, if_pos (by omega)]
        · rw [if_neg e]
          by_cases h : j < k
          · rw [if_pos h, if_pos (by omega)]
          · rw [if_neg h, if_neg (by omega)]
      have n2 : Hid (Below w.heap.size w (wr.setCell ⟨w.heap.size, k, none⟩ (.int .u8 32))) := hw.out.setCell (p := ⟨w.heap.size, k, none⟩) (Nat.le_refl _) _
      clear q1
      go_wp2_with fail
      go_roundw
      case rel => exact ⟨k + 1, by omega, by go_num, n1, n2, by simpa using hlt0⟩
      case measure => simp [intOf]; omega
    · have hkN : k = N := by omega
      subst hkN
      obtain ⟨N, hNN⟩ : ∃ N, N = k := ⟨_, rfl⟩
      subst hNN
      obtain ⟨q1, q2⟩ := hrow.out 0 (by omega)
      have n1 : Hid (RowF (wr.setCell ⟨w.heap.size, 0, none⟩ (.int .u8 49)) w.heap.size N longF) := (hrow.out.set 0 49).congr fun j hj => by
        unfold longF
        by_cases e : j = 0
        · rw [if_pos e, if_pos e]
        · rw [if_neg e, if_neg e, if_pos hj]
      have n2 : Hid (Below w.heap.size w (wr.setCell ⟨w.heap.size, 0, none⟩ (.int .u8 49))) := hw.out.setCell (p := ⟨w.heap.size, 0, none⟩) (Nat.le_refl _) _
      have n3 : w.heap.size < (wr.setCell ⟨w.heap.size, 0, none⟩ (.int .u8 49)).heap.size := by simpa using hlt0
      dsimp only at q1
      rw [if_pos (by omega)] at q1
      have hsz : (rowS 65536 longF).size = 65536 := rowS_size _ _
      have hpl : parseL (rowS 65536 longF).toList = .ok (num1 1) := by
        rw [long_list 65535]; exact parse_long 65535 (by omega)
      have HP : Hid (∀ w' A c, BytesAt w' A c (rowS 65536 longF) → Calls Try.prog 13 #[.slice A 65536 c] w' (PEnd (.ok (num1 1)) w')) := fun w' A c hb => by
        have := parse_law _ A c w' hb
        rw [hpl, hsz] at this
        exact this
      have HP2 : Hid (∀ (f : Nat → Int) w' A c, BytesAt w' A c (rowS N f) → Calls Try.prog 13 #[.slice A N c] w' (PEnd (.error 2) w')) := fun f w' A c hb => by
        have := parse_law _ A c w' hb
        rw [parse_too _ (by rw [tl_len', rowS_size]; have := HN.out; omega), rowS_size] at this
        exact this
      clear hrow hw hpl hsz hlt0
      go_wp2_with fail
      generalize (wr.setCell ⟨w.heap.size, 0, none⟩ (.int .u8 49)) = W2 at *
      clear q1 q2
      have hp := HP.out W2 (some ⟨w.heap.size, 0, none⟩) N (BytesAt.of_rowF longF_ok n3 n1.out 65536 (by omega))
      refine (hp : Calls _ _ _ _ _).mono ?_; rintro e w5 ⟨c0, c1, c2, c3, c4, c5, c6, c7, c8, rfl, hn, hw5⟩
      have hA : Below W2.heap.size W2 (w5.alloc (.cells #[.int .i64 c0, .int .i64 c1, .string c2, .slice c3 c4 c5, .slice c6 c7 c8] 27)) := hw5.alloc hw5.size _
      have n4 := Lib.hid (n1.out.below n3 hA)
      have n5 := Lib.hid (nextB n2.out hA)
      have n6 := Nat.lt_of_lt_of_le n3 hA.size
      obtain ⟨q1, q2⟩ := n4.out 1 (by omega)
      have n7 : Hid (RowF ((w5.alloc (.cells #[.int .i64 c0, .int .i64 c1, .string c2, .slice c3 c4 c5, .slice c6 c7 c8] 27)).setCell ⟨w.heap.size, 1, none⟩ (.int .u8 c)) w.heap.size N (fun j => if j = 1 then c else longF j)) := n4.out.set 1 c
      have n8 : Hid (Below w.heap.size w ((w5.alloc (.cells #[.int .i64 c0, .int .i64 c1, .string c2, .slice c3 c4 c5, .slice c6 c7 c8] 27)).setCell ⟨w.heap.size, 1, none⟩ (.int .u8 c))) := n5.out.setCell (p := ⟨w.heap.size, 1, none⟩) (Nat.le_refl _) _
      have n9 : w.heap.size < ((w5.alloc (.cells #[.int .i64 c0, .int .i64 c1, .string c2, .slice c3 c4 c5, .slice c6 c7 c8] 27)).setCell ⟨w.heap.size, 1, none⟩ (.int .u8 c)).heap.size := by simpa using n6
      have hfc : ∀ i, 0 ≤ (fun j => if j = 1 then c else longF j) i ∧ (fun j => if j = 1 then c else longF j) i ≤ 255 := fun i => by
        dsimp only
        split
        · exact hc
        · exact longF_ok i
      have HFC := Lib.hid hfc
      clear hp hn hw5 hA n1 n2 n3 n4 n5 n6 HP hfc
      go_wp2_with fail
      generalize ((w5.alloc (.cells #[.int .i64 c0, .int .i64 c1, .string c2, .slice c3 c4 c5, .slice c6 c7 c8] 27)).setCell ⟨w.heap.size, 1, none⟩ (.int .u8 c)) = W3 at *
      clear q1 q2
      have hp := HP2.out _ W3 (some ⟨w.heap.size, 0, none⟩) N (BytesAt.of_rowF HFC.out n9 n7.out N (by omega))
      refine (hp : Calls _ _ _ _ _).mono ?_; rintro e w6 ⟨rfl, hw6⟩
      have hW := nextB n8.out hw6
      clear hp hw6 n7 n8 n9 HP2 HFC
      go_wp2_with (first
        | (go_at_call 16; refine (jnum_any _ _).mono ?_; rintro e w6 ⟨rfl, hw⟩; obtain rfl : _ = w6 := hw)
        | (go_at_call 12; refine (awake7_any _).mono ?_; rintro e w8 ⟨rfl, hw1⟩; (first | replace hW := nextB hW hw1 | replace hW := nextA hW hw1 | replace hW := nextB hW.drew hw1 | replace hW := nextAA hW hw1 | replace hW := nextAD hW hw1); clear hw1))
      go_ret
      exact ⟨rfl, hW⟩
end Go.Proofs.Ytjigceoponlphaa
/-! Plain laws of reading JSON: a code point told by its digits. -/
namespace Go.Proofs.Ytjigceoponlphaa
open Go.RowKit Go.PlainAid
set_option linter.unusedVariables false
set_option linter.unusedSimpArgs false
abbrev hexT : ByteArray := ⟨#[48, 49, 50, 51, 52, 53, 54, 55, 56, 57, 97, 66, 99, 68, 101, 70]⟩
def hexX (k : Nat) : UInt8 := ([48, 49, 50, 51, 52, 53, 54, 55, 56, 57, 97, 66, 99, 68, 101, 70] : List UInt8).getD k 0
theorem hexD_hexX (k : Nat) (h : k < 16) : hexD (hexX k) = some (k : Int) := by
  have : ∀ i : Fin 16, hexD (hexX i.val) = some ((i.val : Nat) : Int) := by decide
  exact this ⟨k, h⟩
theorem hexT_at (k : Nat) (h : k < 16) : bt hexT k = (hexX k).toNat := by
  have : ∀ i : Fin 16, bt hexT i.val = (hexX i.val).toNat := by decide
  exact this ⟨k, h⟩
/-- four digits -/
def hexV (n : Int) : List UInt8 := [hexX (n / 4096 % 16).toNat, hexX (n / 256 % 16).toNat, hexX (n / 16 % 16).toNat, hexX (n % 16).toNat]
theorem unit_hex (n : Int) (h0 : 0 ≤ n) (h1 : n < 65536) (l : List UInt8) : unitL 4 0 (hexV n ++ l) = some (n, l) := by
  unfold hexV
  have e1 := hexD_hexX (n / 4096 % 16).toNat (by omega)
  have e2 := hexD_hexX (n / 256 % 16).toNat (by omega)
  have e3 := hexD_hexX (n / 16 % 16).toNat (by omega)
  have e4 := hexD_hexX (n % 16).toNat (by omega)
  simp only [List.cons_append, List.nil_append, unitL, e1, e2, e3, e4]
  congr 2
  omega
theorem point_one (n : Int) (h0 : 0 ≤ n) (h1 : n < 65536) (hn : n < 55296 ∨ 57343 < n) (l : List UInt8) : pointL (hexV n ++ l) = some (n, l) := by
  unfold pointL
  rw [unit_hex n h0 h1]
  simp only
  rw [if_pos hn]
theorem point_low (n : Int) (h0 : 56320 ≤ n) (h1 : n ≤ 57343) (l : List UInt8) : pointL (hexV n ++ l) = none := by
  unfold pointL
  rw [unit_hex n (by omega) (by omega)]
  simp only
  rw [if_neg (by omega), if_pos h0]
theorem point_half (n : Int) (h0 : 55296 ≤ n) (h1 : n < 56320) (l : List UInt8) (hl : l.take 2 ≠ [92, 117]) : pointL (hexV n ++ l) = none := by
  unfold pointL
  rw [unit_hex n (by omega) (by omega)]
  simp only
  rw [if_neg (by omega), if_neg (by omega), if_neg hl]
theorem point_badlow (n low : Int) (h0 : 55296 ≤ n) (h1 : n < 56320) (l0 : 0 ≤ low) (l1 : low < 56320) (l : List UInt8) : pointL (hexV n ++ (92 :: 117 :: (hexV low ++ l))) = none := by
  unfold pointL
  rw [unit_hex n (by omega) (by omega)]
  simp only
  rw [if_neg (by omega), if_neg (by omega), if_pos (by simp)]
  show (match unitL 4 0 (hexV low ++ l) with | none => none | some (low, r2) => if low < 56320 ∨ 57343 < low then none else some (65536 + (n % 1024) * 1024 + low % 1024, r2)) = none
  rw [unit_hex low l0 (by omega)]
  simp only
  rw [if_pos (.inl l1)]
theorem point_two (n : Int) (h0 : 65536 ≤ n) (h1 : n ≤ 1114111) (l : List UInt8) : pointL (hexV (55296 + (n - 65536) / 1024) ++ (92 :: 117 :: (hexV (56320 + (n - 65536) % 1024) ++ l))) = some (n, l) := by
  unfold pointL
  rw [unit_hex _ (by omega) (by omega)]
  simp only
  rw [if_neg (by omega), if_neg (by omega), if_pos (by simp)]
  show (match unitL 4 0 (hexV (56320 + (n - 65536) % 1024) ++ l) with | none => none | some (low, r2) => if low < 56320 ∨ 57343 < low then none else some (65536 + ((55296 + (n - 65536) / 1024) % 1024) * 1024 + low % 1024, r2)) = some (n, l)
  rw [unit_hex _ (by omega) (by omega)]
  simp only
  rw [if_neg (by omega)]
  congr 2
  omega
theorem escL_u (l : List UInt8) : escL (117 :: l) = match pointL l with
    | none => none
    | some (n, r2) => some (putB n, r2) := by
  unfold escL
  simp only
  rw [if_neg (by decide), if_neg (by decide), if_neg (by decide), if_neg (by decide), if_neg (by decide), if_neg (by decide), if_pos trivial] <;> (cases pointL l <;> rfl)
/-- a text of one escape between two letters -/
theorem text_ab (X : List UInt8) (n : Int) (h : ∀ l, pointL (X ++ l) = some (n, l)) : parseL ([34, 97] ++ (92 :: 117 :: X) ++ [98, 34]) = if 65536 < X.length + 6 then .error 2 else .ok (.mk 5 0 ⟨([97] ++ putB n ++ [98]).toArray⟩ [] []) := by
  have e0 : [34, 97] ++ (92 :: 117 :: X) ++ [98, 34] = 34 :: 97 :: 92 :: 117 :: (X ++ [98, 34]) := by simp
  have hlen : (34 :: 97 :: 92 :: 117 :: (X ++ [98, 34])).length = X.length + 6 := by simp
  have pa : putB 97 = [97] := by decide
  have pb : putB 98 = [98] := by decide
  have t1 : ∀ l acc, textT (97 :: l) acc = textT l (acc ++ [97]) := fun l acc => by
    have := textT_point 97 (by decide) l acc
    rw [pa] at this
    exact this
  have t2 : ∀ l acc, textT (98 :: l) acc = textT l (acc ++ [98]) := fun l acc => by
    have := textT_point 98 (by decide) l acc
    rw [pb] at this
    exact this
  have ht : textL (34 :: 97 :: 92 :: 117 :: (X ++ [98, 34])) = some ([97] ++ putB n ++ [98], []) := by
    unfold textL
    rw [List.head?_cons, if_pos rfl, List.tail_cons, t1, textT_esc _ _ [98, 34] (putB n) [98, 34] (by rw [escL_u, h]), t2, textT_cons, if_neg (by decide), if_pos rfl]
    simp
  unfold parseL
  rw [e0, hlen]
  split
  · rfl
  · rw [blanks_ne _ (by decide), valL_str 0 _ rfl, ht]
    rfl
theorem text_ab_bad (X : List UInt8) (h : pointL (X ++ [98, 34]) = none) (hl : X.length ≤ 1000) : parseL ([34, 97] ++ (92 :: 117 :: X) ++ [98, 34]) = .error 3 := by
  have e0 : [34, 97] ++ (92 :: 117 :: X) ++ [98, 34] = 34 :: 97 :: 92 :: 117 :: (X ++ [98, 34]) := by simp
  have pa : putB 97 = [97] := by decide
  have t1 : ∀ l acc, textT (97 :: l) acc = textT l (acc ++ [97]) := fun l acc => by
    have := textT_point 97 (by decide) l acc
    rw [pa] at this
    exact this
  have ht : textL (34 :: 97 :: 92 :: 117 :: (X ++ [98, 34])) = none := by
    unfold textL
    rw [List.head?_cons, if_pos rfl, List.tail_cons, t1, textT_cons, if_neg (by decide), if_neg (by decide), if_pos rfl, escL_u, h]
  unfold parseL
  rw [e0, if_neg (by simp; omega), blanks_ne _ (by decide), valL_str 0 _ rfl, ht]
theorem text_alone_bad (X : List UInt8) (h : pointL (X ++ [92, 117, 48, 48, 52, 49, 34]) = none) (hl : X.length ≤ 1000) : parseL ([34] ++ (92 :: 117 :: X) ++ [92, 117, 48, 48, 52, 49, 34]) = .error 3 := by
  have e0 : [34] ++ (92 :: 117 :: X) ++ [92, 117, 48, 48, 52, 49, 34] = 34 :: 92 :: 117 :: (X ++ [92, 117, 48, 48, 52, 49, 34]) := by simp
  have ht : textL (34 :: 92 :: 117 :: (X ++ [92, 117, 48, 48, 52, 49, 34])) = none := by
    unfold textL
    rw [List.head?_cons, if_pos rfl, List.tail_cons, textT_cons, if_neg (by decide), if_neg (by decide), if_pos rfl, escL_u, h]
  unfold parseL
  rw [e0, if_neg (by simp; omega), blanks_ne _ (by decide), valL_str 0 _ rfl, ht]
theorem hexV_41 : hexV 65 = [48, 48, 52, 49] := by decide
end Go.Proofs.Ytjigceoponlphaa
/-! JsonEscapes: its walk. -/
namespace Go.Proofs.Ytjigceoponlphaa
open Go.RowKit Go.PlainAid
set_option linter.unusedVariables false
set_option linter.unusedSimpArgs false
theorem i64_and15 (x : Int) (h₀ : 0 ≤ x) (h₁ : x < 9223372036854775808) : bits .and .i64 x 15 = x % 16 := i64_mask 4 (by decide) x h₀ h₁
set_option maxRecDepth 100000 in
set_option maxHeartbeats 1000000 in
theorem hex_any (n : Int) (w : World) (h0 : 0 ≤ n) (h1 : n < 2097152) : Calls Try.prog 18 #[.int .i64 n] w fun e w' => e = .returned (.string ⟨(hexV n).toArray⟩) ∧ Below w.heap.size w w' := by
  have a1 := i64_and15 (n / 4096) (by omega) (by omega)
  have a2 := i64_and15 (n / 256) (by omega) (by omega)
  have a3 := i64_and15 (n / 16) (by omega) (by omega)
  have a4 := i64_and15 n (by omega) (by omega)
  have hb := get_bt hexT
  have s16 : hexT.size = 16 := rfl
  have b1 : 0 ≤ n / 4096 % 16 := by omega
  have b2 : 0 ≤ n / 256 % 16 := by omega
  have b3 : 0 ≤ n / 16 % 16 := by omega
  have b4 : 0 ≤ n % 16 := by omega
  have d1 : n / 4096 % 16 < 16 := by omega
  have d2 : n / 256 % 16 < 16 := by omega
  have d3 : n / 16 % 16 < 16 := by omega
  have d4 : n % 16 < 16 := by omega
  have c1 := conv4 (P := Try.prog) 22 9 5 Try.underlying22 Try.underlying5 Try.underlying9
  have c2 : ∀ (w : World) (a b d f : Int) (c : Nat), (convert 22 9 (.slice (some ⟨w.heap.size, 0, none⟩) 4 c)).run Try.prog (w.alloc (.cells #[.int .u8 a, .int .u8 b, .int .u8 d, .int .u8 f] 5)).drew = .ok (.string (strOfNums [a, b, d, f])) (w.alloc (.cells #[.int .u8 a, .int .u8 b, .int .u8 d, .int .u8 f] 5)).drew := fun w a b d f c => c1 w.drew a b d f c
  have HV : Hid (strOfNums [bt hexT (n / 4096 % 16).toNat, bt hexT (n / 256 % 16).toNat, bt hexT (n / 16 % 16).toNat, bt hexT (n % 16).toNat] = ⟨(hexV n).toArray⟩) := Lib.hid (by
    apply ba_ext'
    rw [nums_toList, lit_toList, hexT_at _ (by omega), hexT_at _ (by omega), hexT_at _ (by omega), hexT_at _ (by omega)]
    unfold hexV
    simp)
  go_enter Try.func18, Try.ntmps18
  go_wp2_with fail
  go_region
  all_goals
    go_wp2
    go_ret
    refine ⟨by rw [HV.out]; rfl, ?_⟩
    first
      | exact ((Below.refl _ _).alloc (Nat.le_refl _) _).drew
      | exact ((Below.refl _ _).drew).alloc (Nat.le_refl _) _
/-- what the law's last sum keeps -/
def ES (W : World) (g : Nat) (x : ByteArray) (w : World) : Prop := w.cell? ⟨g, 0, none⟩ = some (.int .i64 5) ∧ w.cell? ⟨g, 2, none⟩ = some (.string x) ∧ g < w.heap.size ∧ Below W.heap.size W w
theorem es_below {W w w' : World} {g : Nat} {x : ByteArray} (h : ES W g x w) (k : Below w.heap.size w w') : ES W g x w' :=
  ⟨(k.cell h.2.2.1).trans h.1, (k.cell h.2.2.1).trans h.2.1, Nat.lt_of_lt_of_le h.2.2.1 k.size, nextB h.2.2.2 k⟩
theorem es_drew {W w : World} {g : Nat} {x : ByteArray} (h : ES W g x w) : ES W g x w.drew := ⟨h.1, h.2.1, h.2.2.1, h.2.2.2.drew⟩
theorem parse_free (T : ByteArray) (r : Except Int Nd) (h : parseL T.toList = r) : ∀ (w' : World) (A : Option Addr) (c n : Nat), n = T.size → BytesAt w' A c T → Calls Try.prog 13 #[.slice A n c] w' (PEnd r w') := fun w' A c n hn hb => by
  subst hn; subst h
  exact parse_law T A c w' hb
theorem hexV_len (n : Int) : (hexV n).length = 4 := rfl
set_option maxRecDepth 100000 in
set_option maxHeartbeats 2000000 in
theorem jsonEscapes_walk (r : Int) (w0 : (Lit.int .u32 r).wf = true) (w : World) :
    Calls Try.prog 9 #[.int .u32 r] w fun e w' => e = .returned (.bool true) ∧ Below w.heap.size w w' := by
  have hr : 0 ≤ r ∧ r ≤ 4294967295 := by
    simp [Lit.wf, IntKind.min, IntKind.max, IntKind.signed, IntKind.bits] at w0; omega
  obtain ⟨n, hn⟩ : ∃ n, n = r % 1114112 := ⟨_, rfl⟩
  have n0 : 0 ≤ n := by omega
  have n1 : n ≤ 1114111 := by omega
  have hrm : r.tmod 1114112 = n := by rw [hn]; exact Int.tmod_eq_emod_of_nonneg hr.1
  have hwr : IntKind.i64.wrap r = r := IntWalk.i64_in _ (by omega)
  have hW := Below.refl w.heap.size w
  clear hr w0 hn
  obtain ⟨H, hHt, hHs⟩ : ∃ H : ByteArray, H.toList = hexV n ∧ H = ⟨(hexV n).toArray⟩ := ⟨_, lit_toList _, rfl⟩
  have hHz : H.size = 4 := by rw [← tl_len', hHt, hexV_len]
  have HX : Hid (∀ w', Calls Try.prog 18 #[.int .i64 n] w' fun e w'' => e = .returned (.string H) ∧ Below w'.heap.size w' w'') := fun w' => by
    rw [hHs]; exact hex_any n w' n0 (by omega)
  clear hHs
  have z1 : (⟨#[92, 117]⟩ : ByteArray).size = 2 := rfl
  have z2 : (⟨#[34, 97]⟩ : ByteArray).size = 2 := rfl
  have z3 : (⟨#[98, 34]⟩ : ByteArray).size = 2 := rfl
  have z4 : (⟨#[34]⟩ : ByteArray).size = 1 := rfl
  have z5 : (⟨#[92, 117, 48, 48, 52, 49, 34]⟩ : ByteArray).size = 7 := rfl
  by_cases hbig : 65535 < n
  case pos =>
    obtain ⟨H1, h1t, h1s⟩ : ∃ H : ByteArray, H.toList = hexV (55296 + (n - 65536) / 1024) ∧ H = ⟨(hexV (55296 + (n - 65536) / 1024)).toArray⟩ := ⟨_, lit_toList _, rfl⟩
    have h1z : H1.size = 4 := by rw [← tl_len', h1t, hexV_len]
    have HX1 : Hid (∀ w', Calls Try.prog 18 #[.int .i64 (55296 + (n - 65536) / 1024)] w' fun e w'' => e = .returned (.string H1) ∧ Below w'.heap.size w' w'') := fun w' => by
      rw [h1s]; exact hex_any _ w' (by omega) (by omega)
    obtain ⟨H2, h2t, h2s⟩ : ∃ H : ByteArray, H.toList = hexV (56320 + (n - 65536) % 1024) ∧ H = ⟨(hexV (56320 + (n - 65536) % 1024)).toArray⟩ := ⟨_, lit_toList _, rfl⟩
    have h2z : H2.size = 4 := by rw [← tl_len', h2t, hexV_len]
    have HX2 : Hid (∀ w', Calls Try.prog 18 #[.int .i64 (56320 + (n - 65536) % 1024)] w' fun e w'' => e = .returned (.string H2) ∧ Below w'.heap.size w' w'') := fun w' => by
      rw [h2s]; exact hex_any _ w' (by omega) (by omega)
    have HP := Lib.hid (parse_free ((⟨#[34, 97]⟩ : ByteArray) ++ (((⟨#[92, 117]⟩ : ByteArray) ++ H1) ++ ⟨#[92, 117]⟩ ++ H2) ++ ⟨#[98, 34]⟩) (.ok (.mk 5 0 ⟨([97] ++ putB n ++ [98]).toArray⟩ [] [])) (by
      have := text_ab (hexV (55296 + (n - 65536) / 1024) ++ (92 :: 117 :: hexV (56320 + (n - 65536) % 1024))) n (fun l => by
        have := point_two n (by omega) n1 l
        simpa using this)
      rw [if_neg (by simp [hexV_len])] at this
      rw [app_toList, app_toList, app_toList, app_toList, app_toList, h1t, h2t, lit_toList [34, 97], lit_toList [92, 117], lit_toList [98, 34]]
      rw [← this]
      simp))
    have g1 : IntKind.i64.wrap (n - 65536) = n - 65536 := IntWalk.i64_in _ (by omega)
    have g2 : IntKind.i64.wrap (55296 + (n - 65536) / 1024) = 55296 + (n - 65536) / 1024 := IntWalk.i64_in _ (by omega)
    have g3 := and1023 (n - 65536) (by omega) (by omega)
    have g4 : IntKind.i64.wrap (56320 + (n - 65536) % 1024) = 56320 + (n - 65536) % 1024 := IntWalk.i64_in _ (by omega)
    have g5 : 0 ≤ n - 65536 := by omega
    have hput : (⟨([97] ++ putB n ++ [98]).toArray⟩ : ByteArray) = (⟨#[97]⟩ : ByteArray) ++ put n ++ ⟨#[98]⟩ := by
      apply ba_ext'
      rw [lit_toList, app_toList, app_toList, put_toList, lit_toList [97], lit_toList [98]]
    rw [hput] at HP
    obtain ⟨P, hpP⟩ : ∃ P, (put n).size = P := ⟨_, rfl⟩
    have hps : P ≤ 4 := by rw [← hpP, ← tl_len', put_toList]; exact putB_len n
    have hq1 : ¬ 9223372036854775807 < 1 + P := by omega
    have hq2 : ¬ 9223372036854775807 < 1 + P + 1 := by omega
    have zA : (⟨#[97]⟩ : ByteArray).size = 1 := rfl
    have zB : (⟨#[98]⟩ : ByteArray).size = 1 := rfl
    have hcmp : (((⟨#[97]⟩ : ByteArray) ++ put n ++ ⟨#[98]⟩).toList == ((⟨#[97]⟩ : ByteArray) ++ put n ++ ⟨#[98]⟩).toList) = true := by simp
    clear h1s h2s h1t h2t hHt hput
    go_enter Try.func9, Try.ntmps9
    go_wp2_with fail
    refine (HX.out _ : Calls _ _ _ _ _).mono ?_; rintro e w1 ⟨rfl, hw1⟩
    replace hW := nextB hW hw1; clear hw1 HX
    go_wp2_with fail
    refine (HX1.out _ : Calls _ _ _ _ _).mono ?_; rintro e w1 ⟨rfl, hw1⟩
    replace hW := nextB hW hw1; clear hw1 HX1
    go_wp2_with fail
    refine (HX2.out _ : Calls _ _ _ _ _).mono ?_; rintro e w1 ⟨rfl, hw1⟩
    replace hW := nextB hW hw1; clear hw1 HX2
    go_wp2_with (with_reducible refine wpList_bytes_of _ rfl (.tmp 33) rfl _ rfl ?_; intro g c9 w4 hg1 hg2 hrow hb4)
    have HPC := HP.out w4 (some ⟨g, 0, none⟩) c9
    replace hW := nextB hW hb4
    have hby := BytesAt.of_row (c := c9) hg2 hrow
    clear hg1 hg2 hrow hb4 HP
    refine (HPC _ (by simp [ByteArray.size_append]; try omega) hby : Calls _ _ _ _ _).mono ?_; rintro e w5 ⟨c0, c1, c2, c3, c4, c5, c6, c7, c8, rfl, hn, hw5⟩
    replace hW := nextB hW hw5
    obtain ⟨hd0, hd1, hd2⟩ := hn.head
    simp only [List.getElem?_cons_zero, List.getElem?_cons_succ, Option.some.injEq, Value.int.injEq, Value.string.injEq, true_and] at hd0 hd1 hd2
    subst hd0 hd1 hd2
    have hES : ES w w5.heap.size ((⟨#[97]⟩ : ByteArray) ++ put n ++ ⟨#[98]⟩) (w5.alloc (.cells #[.int .i64 5, .int .i64 0, .string ((⟨#[97]⟩ : ByteArray) ++ put n ++ ⟨#[98]⟩), .slice c3 c4 c5, .slice c6 c7 c8] 27)) :=
      ⟨(Blk.new w5 _ _).cell 0, (Blk.new w5 _ _).cell 2, by simp, hW.alloc hW.size _⟩
    have HES := Lib.hid hES
    have q1 : (55296 : Int) ≤ n := by omega
    have q2 : ¬ n ≤ (57343 : Int) := by omega
    clear HPC hby hw5 hn hES g1 g2 g3 g4 g5 z1 z2 z3 z4 z5 h1z h2z hHz
    go_wp2_with fail
    go_region_held3 (fun w' => w'.cell? ⟨w5.heap.size, 0, none⟩ = some (.int .i64 5) ∧ w'.cell? ⟨w5.heap.size, 2, none⟩ = some (.string ((⟨#[97]⟩ : ByteArray) ++ put n ++ ⟨#[98]⟩)) ∧ w5.heap.size < w'.heap.size ∧ Below w.heap.size w w') (first | assumption | exact es_drew HES.out | exact es_below (by assumption) (by assumption)) (first
        | (go_at_call 16; refine (jnum_any _ _).mono ?_; rintro e w6 ⟨rfl, hw⟩; obtain rfl : _ = w6 := hw)
        | (go_at_call 19; refine (rput_any _ _).mono ?_; rintro e w6 ⟨rfl, hw6⟩)
        | (go_at_call 12; refine (awake7_any _).mono ?_; rintro e w6 ⟨rfl, hw6⟩))
    all_goals
      go_wp2_with fail
      go_ret
      exact ⟨rfl, (show ES w w5.heap.size ((⟨#[97]⟩ : ByteArray) ++ put n ++ ⟨#[98]⟩) _ by assumption).2.2.2⟩
  case neg =>
    have hbig' : ¬ (65535 : Int) < n := hbig
    by_cases hsur : 55296 ≤ n ∧ n ≤ 57343
    · obtain ⟨q1, q2⟩ := hsur
      have hnone : ∀ l : List UInt8, (l = [98, 34] ∨ l = [92, 117, 48, 48, 52, 49, 34]) → pointL (hexV n ++ l) = none := by
        intro l hl
        by_cases hlow : 56320 ≤ n
        · exact point_low n hlow q2 l
        · rcases hl with rfl | rfl
          · exact point_half n q1 (by omega) _ (by decide)
          · have := point_badlow n 65 q1 (by omega) (by omega) (by omega) [34]
            rw [hexV_41] at this
            exact this
      have HP1 := Lib.hid (parse_free ((⟨#[34, 97]⟩ : ByteArray) ++ ((⟨#[92, 117]⟩ : ByteArray) ++ H) ++ ⟨#[98, 34]⟩) (.error 3) (by
        have := text_ab_bad (hexV n) (hnone _ (.inl rfl)) (by rw [hexV_len]; omega)
        rw [app_toList, app_toList, app_toList, hHt, lit_toList [34, 97], lit_toList [92, 117], lit_toList [98, 34]]
        exact this))
      have HP2 := Lib.hid (parse_free ((⟨#[34]⟩ : ByteArray) ++ ((⟨#[92, 117]⟩ : ByteArray) ++ H) ++ ⟨#[92, 117, 48, 48, 52, 49, 34]⟩) (.error 3) (by
        have := text_alone_bad (hexV n) (hnone _ (.inr rfl)) (by rw [hexV_len]; omega)
        rw [app_toList, app_toList, app_toList, hHt, lit_toList [34], lit_toList [92, 117], lit_toList [92, 117, 48, 48, 52, 49, 34]]
        exact this))
      clear hnone hHt
      go_enter Try.func9, Try.ntmps9
      go_wp2_with fail
      refine (HX.out _ : Calls _ _ _ _ _).mono ?_; rintro e w1 ⟨rfl, hw1⟩
      replace hW := nextB hW hw1; clear hw1 HX
      go_wp2_with (with_reducible refine wpList_bytes_of _ rfl (.tmp 33) rfl _ rfl ?_; intro g c9 w4 hg1 hg2 hrow hb4)
      have HPC := HP1.out w4 (some ⟨g, 0, none⟩) c9
      replace hW := nextB hW hb4
      have hby := BytesAt.of_row (c := c9) hg2 hrow
      clear hg1 hg2 hrow hb4 HP1
      refine (HPC _ (by simp [ByteArray.size_append]; try omega) hby : Calls _ _ _ _ _).mono ?_; rintro e w5 ⟨rfl, hw5⟩
      replace hW := nextB hW hw5
      replace hW := Below.alloc hW hW.size (.cells #[.int .i64 0, .int .i64 0, .string ⟨#[]⟩, .slice none 0 0, .slice none 0 0] 27)
      clear HPC hby hw5
      go_wp2_with (with_reducible refine wpList_bytes_of _ rfl (.tmp 47) rfl _ rfl ?_; intro g c9 w4 hg1 hg2 hrow hb4)
      have HPC := HP2.out w4 (some ⟨g, 0, none⟩) c9
      replace hW := nextB hW hb4
      have hby := BytesAt.of_row (c := c9) hg2 hrow
      clear hg1 hg2 hrow hb4 HP2
      refine (HPC _ (by simp [ByteArray.size_append]; try omega) hby : Calls _ _ _ _ _).mono ?_; rintro e w5 ⟨rfl, hw5⟩
      replace hW := nextB hW hw5
      replace hW := Below.alloc hW hW.size (.cells #[.int .i64 0, .int .i64 0, .string ⟨#[]⟩, .slice none 0 0, .slice none 0 0] 27)
      clear HPC hby hw5 z1 z2 z3 z4 z5 hHz
      go_wp2_with (first
        | (go_at_call 16; refine (jnum_any _ _).mono ?_; rintro e w6 ⟨rfl, hw⟩; obtain rfl : _ = w6 := hw)
        | (go_at_call 12; refine (awake7_any _).mono ?_; rintro e w8 ⟨rfl, hw1⟩; (first | replace hW := nextB hW hw1 | replace hW := nextA hW hw1 | replace hW := nextB hW.drew hw1 | replace hW := nextAA hW hw1 | replace hW := nextAD hW hw1); clear hw1))
      go_ret
      exact ⟨rfl, hW⟩
    have HP := Lib.hid (parse_free ((⟨#[34, 97]⟩ : ByteArray) ++ ((⟨#[92, 117]⟩ : ByteArray) ++ H) ++ ⟨#[98, 34]⟩) (.ok (.mk 5 0 ⟨([97] ++ putB n ++ [98]).toArray⟩ [] [])) (by
      have := text_ab (hexV n) n (fun l => point_one n n0 (by omega) (by omega) l)
      rw [if_neg (by simp [hexV_len])] at this
      rw [app_toList, app_toList, app_toList, hHt, lit_toList [34, 97], lit_toList [92, 117], lit_toList [98, 34]]
      exact this))
    have hput : (⟨([97] ++ putB n ++ [98]).toArray⟩ : ByteArray) = (⟨#[97]⟩ : ByteArray) ++ put n ++ ⟨#[98]⟩ := by
      apply ba_ext'
      rw [lit_toList, app_toList, app_toList, put_toList, lit_toList [97], lit_toList [98]]
    rw [hput] at HP
    obtain ⟨P, hpP⟩ : ∃ P, (put n).size = P := ⟨_, rfl⟩
    have hps : P ≤ 4 := by rw [← hpP, ← tl_len', put_toList]; exact putB_len n
    have hq1 : ¬ 9223372036854775807 < 1 + P := by omega
    have hq2 : ¬ 9223372036854775807 < 1 + P + 1 := by omega
    have zA : (⟨#[97]⟩ : ByteArray).size = 1 := rfl
    have zB : (⟨#[98]⟩ : ByteArray).size = 1 := rfl
    have hcmp : (((⟨#[97]⟩ : ByteArray) ++ put n ++ ⟨#[98]⟩).toList == ((⟨#[97]⟩ : ByteArray) ++ put n ++ ⟨#[98]⟩).toList) = true := by simp
    clear hHt hput
    by_cases hlo : n < 55296
    · have q1 : ¬ (55296 : Int) ≤ n := by omega
      go_enter Try.func9, Try.ntmps9
      go_wp2_with fail
      refine (HX.out _ : Calls _ _ _ _ _).mono ?_; rintro e w1 ⟨rfl, hw1⟩
      replace hW := nextB hW hw1; clear hw1 HX
      go_wp2_with (with_reducible refine wpList_bytes_of _ rfl (.tmp 33) rfl _ rfl ?_; intro g c9 w4 hg1 hg2 hrow hb4)
      have HPC := HP.out w4 (some ⟨g, 0, none⟩) c9
      replace hW := nextB hW hb4
      have hby := BytesAt.of_row (c := c9) hg2 hrow
      clear hg1 hg2 hrow hb4 HP
      refine (HPC _ (by simp [ByteArray.size_append]; try omega) hby : Calls _ _ _ _ _).mono ?_; rintro e w5 ⟨c0, c1, c2, c3, c4, c5, c6, c7, c8, rfl, hn, hw5⟩
      replace hW := nextB hW hw5
      obtain ⟨hd0, hd1, hd2⟩ := hn.head
      simp only [List.getElem?_cons_zero, List.getElem?_cons_succ, Option.some.injEq, Value.int.injEq, Value.string.injEq, true_and] at hd0 hd1 hd2
      subst hd0 hd1 hd2
      have hES : ES w w5.heap.size ((⟨#[97]⟩ : ByteArray) ++ put n ++ ⟨#[98]⟩) (w5.alloc (.cells #[.int .i64 5, .int .i64 0, .string ((⟨#[97]⟩ : ByteArray) ++ put n ++ ⟨#[98]⟩), .slice c3 c4 c5, .slice c6 c7 c8] 27)) :=
        ⟨(Blk.new w5 _ _).cell 0, (Blk.new w5 _ _).cell 2, by simp, hW.alloc hW.size _⟩
      have HES := Lib.hid hES
      clear HPC hby hw5 hn hES z1 z2 z3 z4 z5 hHz
      go_wp2_with fail
      go_region_held3 (fun w' => w'.cell? ⟨w5.heap.size, 0, none⟩ = some (.int .i64 5) ∧ w'.cell? ⟨w5.heap.size, 2, none⟩ = some (.string ((⟨#[97]⟩ : ByteArray) ++ put n ++ ⟨#[98]⟩)) ∧ w5.heap.size < w'.heap.size ∧ Below w.heap.size w w') (first | assumption | exact es_drew HES.out | exact es_below (by assumption) (by assumption)) (first
          | (go_at_call 16; refine (jnum_any _ _).mono ?_; rintro e w6 ⟨rfl, hw⟩; obtain rfl : _ = w6 := hw)
          | (go_at_call 19; refine (rput_any _ _).mono ?_; rintro e w6 ⟨rfl, hw6⟩)
          | (go_at_call 12; refine (awake7_any _).mono ?_; rintro e w6 ⟨rfl, hw6⟩))
      all_goals
        go_wp2_with fail
        go_ret
        exact ⟨rfl, (show ES w w5.heap.size ((⟨#[97]⟩ : ByteArray) ++ put n ++ ⟨#[98]⟩) _ by assumption).2.2.2⟩
    · have q1 : (55296 : Int) ≤ n := by omega
      have q2 : ¬ n ≤ (57343 : Int) := by omega
      clear hsur
      go_enter Try.func9, Try.ntmps9
      go_wp2_with fail
      refine (HX.out _ : Calls _ _ _ _ _).mono ?_; rintro e w1 ⟨rfl, hw1⟩
      replace hW := nextB hW hw1; clear hw1 HX
      go_wp2_with (with_reducible refine wpList_bytes_of _ rfl (.tmp 33) rfl _ rfl ?_; intro g c9 w4 hg1 hg2 hrow hb4)
      have HPC := HP.out w4 (some ⟨g, 0, none⟩) c9
      replace hW := nextB hW hb4
      have hby := BytesAt.of_row (c := c9) hg2 hrow
      clear hg1 hg2 hrow hb4 HP
      refine (HPC _ (by simp [ByteArray.size_append]; try omega) hby : Calls _ _ _ _ _).mono ?_; rintro e w5 ⟨c0, c1, c2, c3, c4, c5, c6, c7, c8, rfl, hn, hw5⟩
      replace hW := nextB hW hw5
      obtain ⟨hd0, hd1, hd2⟩ := hn.head
      simp only [List.getElem?_cons_zero, List.getElem?_cons_succ, Option.some.injEq, Value.int.injEq, Value.string.injEq, true_and] at hd0 hd1 hd2
      subst hd0 hd1 hd2
      have hES : ES w w5.heap.size ((⟨#[97]⟩ : ByteArray) ++ put n ++ ⟨#[98]⟩) (w5.alloc (.cells #[.int .i64 5, .int .i64 0, .string ((⟨#[97]⟩ : ByteArray) ++ put n ++ ⟨#[98]⟩), .slice c3 c4 c5, .slice c6 c7 c8] 27)) :=
        ⟨(Blk.new w5 _ _).cell 0, (Blk.new w5 _ _).cell 2, by simp, hW.alloc hW.size _⟩
      have HES := Lib.hid hES
      clear HPC hby hw5 hn hES z1 z2 z3 z4 z5 hHz
      go_wp2_with fail
      go_region_held3 (fun w' => w'.cell? ⟨w5.heap.size, 0, none⟩ = some (.int .i64 5) ∧ w'.cell? ⟨w5.heap.size, 2, none⟩ = some (.string ((⟨#[97]⟩ : ByteArray) ++ put n ++ ⟨#[98]⟩)) ∧ w5.heap.size < w'.heap.size ∧ Below w.heap.size w w') (first | assumption | exact es_drew HES.out | exact es_below (by assumption) (by assumption)) (first
          | (go_at_call 16; refine (jnum_any _ _).mono ?_; rintro e w6 ⟨rfl, hw⟩; obtain rfl : _ = w6 := hw)
          | (go_at_call 19; refine (rput_any _ _).mono ?_; rintro e w6 ⟨rfl, hw6⟩)
          | (go_at_call 12; refine (awake7_any _).mono ?_; rintro e w6 ⟨rfl, hw6⟩))
      all_goals
        go_wp2_with fail
        go_ret
        exact ⟨rfl, (show ES w w5.heap.size ((⟨#[97]⟩ : ByteArray) ++ put n ++ ⟨#[98]⟩) _ by assumption).2.2.2⟩
end Go.Proofs.Ytjigceoponlphaa
/-! Plain laws of reading JSON: many numbers in an array, and in an object. -/
namespace Go.Proofs.Ytjigceoponlphaa
open Go.RowKit Go.PlainAid
set_option linter.unusedVariables false
set_option linter.unusedSimpArgs false
def Rg (n : Int) : Prop := -32768 ≤ n ∧ n ≤ 32767
def aRest (ks : List Int) : List UInt8 := ks.flatMap fun x => 32 :: 44 :: 32 :: Lib.itoa x
def aText : List Int → List UInt8
  | [] => [91]
  | k :: ks => 91 :: (Lib.itoa k ++ aRest ks)
theorem aText_snoc (l : List Int) (x : Int) : aText (l ++ [x]) = if l = [] then aText l ++ Lib.itoa x else aText l ++ [32, 44, 32] ++ Lib.itoa x := by
  cases l with
  | nil => simp [aText, aRest]
  | cons k ks => simp [aText, aRest, List.flatMap_append]
theorem blank_32 (l : List UInt8) : blanksL (32 :: l) = blanksL l := rfl
theorem arr_nums : ∀ (ks : List Int) (k : Int) (L : List UInt8) (ns : List Nd), blanksL L = Lib.itoa k ++ (aRest ks ++ [93]) → (∀ x ∈ k :: ks, Rg x) → arrL 0 L ns = .ok (.mk 6 0 ⟨#[]⟩ [] (ns ++ (k :: ks).map num1), []) := by
  intro ks
  induction ks with
  | nil =>
    intro k L ns hL hr
    obtain ⟨h1, h2⟩ := hr k (by simp)
    obtain ⟨c, t, hc, hd⟩ := itoa_head k (aRest [] ++ [93])
    rw [arrL_eq, hL, valL_num _ _ c (by rw [hc]; rfl) hd, numL_itoa k (aRest [] ++ [93]) (numEnd_sep 93 [] (by simp)) (by omega) (by omega)]
    simp only
    rw [show aRest [] ++ [93] = [93] from rfl, blanks_ne _ (by decide), if_pos (by simp)]
    rfl
  | cons k2 ks ih =>
    intro k L ns hL hr
    obtain ⟨h1, h2⟩ := hr k (by simp)
    obtain ⟨c, t, hc, hd⟩ := itoa_head k (aRest (k2 :: ks) ++ [93])
    rw [arrL_eq, hL, valL_num _ _ c (by rw [hc]; rfl) hd, numL_itoa k (aRest (k2 :: ks) ++ [93]) (numEnd_sep 32 _ (by simp)) (by omega) (by omega)]
    simp only
    have e : aRest (k2 :: ks) ++ [93] = 32 :: 44 :: 32 :: (Lib.itoa k2 ++ (aRest ks ++ [93])) := by simp [aRest]
    rw [e, blank_32, blanks_ne _ (by decide), if_neg (by simp), if_pos (by simp), List.tail_cons]
    rw [ih k2 _ _ ?_ (fun x hx => hr x (by simp at hx ⊢; exact .inr hx))]
    · simp [num1]
    · rw [blank_32]
      obtain ⟨c, t, hc, hd⟩ := itoa_head k2 (aRest ks ++ [93])
      rw [hc, blanks_ne _ (dig_no hd).1]
def kk (j : Nat) : ByteArray := ⟨(107 :: Lib.itoa j).toArray⟩
theorem kk_toList (j : Nat) : (kk j).toList = 107 :: Lib.itoa j := lit_toList _
theorem kk_inj {i j : Nat} (hi : i ≤ 1000) (hj : j ≤ 1000) (h : kk i = kk j) : i = j := by
  have h2 := congrArg ByteArray.toList h
  rw [kk_toList, kk_toList] at h2
  injection h2 with _ h2
  have e1 := numL_itoa i [] numEnd_nil (by omega) (by omega)
  have e2 := numL_itoa j [] numEnd_nil (by omega) (by omega)
  rw [h2, e2] at e1
  simp at e1
  omega
theorem esc_dig (t : List UInt8) (h : ∀ c ∈ t, digB c = true) : t.flatMap escU = t := by
  induction t with
  | nil => rfl
  | cons c t ih =>
    rw [List.flatMap_cons, ih (fun c hc => h c (by simp [hc]))]
    have h1 := h c (by simp)
    unfold digB at h1
    have h1 := of_decide_eq_true h1
    have e : escU c = [c] := by
      unfold escU
      have a1 : c ≠ 34 := ne_of_toNat (by simp; omega)
      have a2 : c ≠ 92 := ne_of_toNat (by simp; omega)
      have a3 : ¬ c < 32 := by rw [UInt8.lt_iff_toNat_lt]; simp; omega
      have a4 : c ≠ 10 := ne_of_toNat (by simp; omega)
      have a5 : c ≠ 13 := ne_of_toNat (by simp; omega)
      have a6 : c ≠ 9 := ne_of_toNat (by simp; omega)
      have a7 : ¬ c.toNat < 32 := by omega
      simp_all
    rw [e]; rfl
theorem itoa_dig (j : Nat) : ∀ c ∈ Lib.itoa j, digB c = true := by
  intro c hc
  rw [Lib.itoa_nonneg] at hc
  exact dec_all _ c hc
theorem quote_kk (j : Nat) : quoteU (kk j).toList = 34 :: 107 :: (Lib.itoa j ++ [34]) := by
  unfold quoteU
  rw [kk_toList, List.flatMap_cons, esc_dig _ (itoa_dig j)]
  simp [escU]
theorem valid_kk (j : Nat) : ValidP (kk j).toList := by
  rw [kk_toList]
  have : ∀ t : List UInt8, (∀ c ∈ t, c.toNat < 128) → ValidP t := by
    intro t
    induction t with
    | nil => intro _; exact ValidP.nil
    | cons c t ih => intro h; exact ValidP.app (ValidP.ascii c (h c (by simp))) (ih fun c hc => h c (by simp [hc]))
  refine this _ fun c hc => ?_
  simp at hc
  rcases hc with rfl | hc
  · decide
  · have := itoa_dig j c hc
    unfold digB at this
    have := of_decide_eq_true this
    omega
def el (j : Nat) (x : Int) : List UInt8 := 34 :: 107 :: (Lib.itoa j ++ (34 :: 32 :: 58 :: 32 :: Lib.itoa x))
def oRest : Nat → List Int → List UInt8
  | _, [] => []
  | j, x :: xs => 44 :: (el j x ++ oRest (j + 1) xs)
theorem oRest_snoc : ∀ (l : List Int) (j : Nat) (x : Int), oRest j (l ++ [x]) = oRest j l ++ 44 :: el (j + l.length) x
  | [], j, x => by simp [oRest]
  | y :: l, j, x => by
    have ih := oRest_snoc l (j + 1) x
    simp only [List.cons_append, oRest, ih, List.length_cons]
    rw [show j + 1 + l.length = j + (l.length + 1) by omega]
    simp
def oText : List Int → List UInt8
  | [] => [123]
  | k :: ks => 123 :: (el 0 k ++ oRest 1 ks)
theorem oText_snoc (l : List Int) (x : Int) : oText (l ++ [x]) = if l = [] then oText l ++ el 0 x else oText l ++ 44 :: el l.length x := by
  cases l with
  | nil => simp [oText, oRest]
  | cons k ks =>
    simp only [List.cons_append, oText, oRest_snoc, List.length_cons]
    rw [show 1 + ks.length = ks.length + 1 by omega]
    simp
def kks (j n : Nat) : List ByteArray := (List.range' j n).map kk
theorem el_eq (j : Nat) (x : Int) (l : List UInt8) : el j x ++ l = quoteU (kk j).toList ++ (32 :: 58 :: 32 :: (Lib.itoa x ++ l)) := by
  rw [quote_kk]
  simp [el]
theorem obj_nums : ∀ (ks : List Int) (k : Int) (j : Nat) (keys : List ByteArray) (ns : List Nd), (∀ s ∈ keys, ∃ i, i < j ∧ s = kk i) → j + ks.length ≤ 500 → (∀ x ∈ k :: ks, Rg x) → objL 0 (el j k ++ (oRest (j + 1) ks ++ [125])) keys ns = .ok (.mk 7 0 ⟨#[]⟩ (keys ++ kks j (ks.length + 1)) (ns ++ (k :: ks).map num1), []) := by
  intro ks
  induction ks with
  | nil =>
    intro k j keys ns hk hl hr
    obtain ⟨h1, h2⟩ := hr k (by simp)
    have hany : ¬ (keys.any (fun s => s.toList == (kk j).toList) = true) := by
      intro h
      obtain ⟨s, hs, he⟩ := List.any_eq_true.1 h
      obtain ⟨i, hi, rfl⟩ := hk s hs
      have := kk_inj (by omega) (by simp at hl; omega) (ba_ext' (eq_of_beq he))
      omega
    rw [el_eq, objL_eq, show ∀ z, blanksL (quoteU (kk j).toList ++ z) = quoteU (kk j).toList ++ z from fun z => blanks_ne (c := 34) _ (by decide), textL_quote _ (valid_kk j)]
    simp only
    obtain ⟨c, t, hc, hd⟩ := itoa_head k (oRest (j + 1) [] ++ [125])
    have hb : blanksL (Lib.itoa k ++ (oRest (j + 1) [] ++ [125])) = Lib.itoa k ++ (oRest (j + 1) [] ++ [125]) := by rw [hc, blanks_ne _ (dig_no hd).1]
    rw [if_neg hany, blank_32, blanks_ne _ (by decide), if_pos (by simp), List.tail_cons, blank_32, hb, valL_num _ _ c (by rw [hc]; rfl) hd, numL_itoa k (oRest (j + 1) [] ++ [125]) (numEnd_sep 125 [] (by simp)) (by omega) (by omega)]
    simp only
    rw [show oRest (j + 1) [] ++ [125] = [125] from rfl, blanks_ne _ (by decide), if_pos (by simp), mk_toList]
    rfl
  | cons k2 ks ih =>
    intro k j keys ns hk hl hr
    obtain ⟨h1, h2⟩ := hr k (by simp)
    have hany : ¬ (keys.any (fun s => s.toList == (kk j).toList) = true) := by
      intro h
      obtain ⟨s, hs, he⟩ := List.any_eq_true.1 h
      obtain ⟨i, hi, rfl⟩ := hk s hs
      have := kk_inj (by omega) (by simp at hl; omega) (ba_ext' (eq_of_beq he))
      omega
    rw [el_eq, objL_eq, show ∀ z, blanksL (quoteU (kk j).toList ++ z) = quoteU (kk j).toList ++ z from fun z => blanks_ne (c := 34) _ (by decide), textL_quote _ (valid_kk j)]
    simp only
    obtain ⟨c, t, hc, hd⟩ := itoa_head k (oRest (j + 1) (k2 :: ks) ++ [125])
    have hb : blanksL (Lib.itoa k ++ (oRest (j + 1) (k2 :: ks) ++ [125])) = Lib.itoa k ++ (oRest (j + 1) (k2 :: ks) ++ [125]) := by rw [hc, blanks_ne _ (dig_no hd).1]
    rw [if_neg hany, blank_32, blanks_ne _ (by decide), if_pos (by simp), List.tail_cons, blank_32, hb, valL_num _ _ c (by rw [hc]; rfl) hd, numL_itoa k (oRest (j + 1) (k2 :: ks) ++ [125]) (numEnd_sep 44 _ (by simp)) (by omega) (by omega)]
    simp only
    have e : oRest (j + 1) (k2 :: ks) ++ [125] = 44 :: (el (j + 1) k2 ++ (oRest (j + 1 + 1) ks ++ [125])) := by simp [oRest]
    rw [e, blanks_ne _ (by decide), if_neg (by simp), if_pos (by simp), List.tail_cons, mk_toList]
    rw [ih k2 (j + 1) _ _ ?_ (by simp at hl; omega) (fun x hx => hr x (by simp at hx ⊢; exact .inr hx))]
    · have e2 : kks j ((k2 :: ks).length + 1) = kk j :: kks (j + 1) (ks.length + 1) := by
        unfold kks
        rw [List.length_cons, List.range'_succ]
        rfl
      rw [e2]
      simp [num1]
    · intro s hs
      simp at hs
      rcases hs with hs | rfl
      · obtain ⟨i, hi, rfl⟩ := hk s hs; exact ⟨i, by omega, rfl⟩
      · exact ⟨j, by omega, rfl⟩
theorem itoa_le21 (n : Int) (h : Rg n) : (Lib.itoa n).length ≤ 21 := by
  obtain ⟨h1, h2⟩ := h
  exact Lib.itoa_length_le n (by omega) (by omega)
theorem aText_len : ∀ (n : Nat) (l : List Int), l.length = n → (∀ x ∈ l, Rg x) → (aText l).length ≤ 1 + 24 * n := by
  intro n
  induction n with
  | zero => intro l h _; have := List.eq_nil_of_length_eq_zero h; subst this; simp [aText]
  | succ n ih =>
    intro l h hr
    have hne : l ≠ [] := by intro e; subst e; simp at h
    obtain ⟨l', x, rfl⟩ : ∃ l' x, l = l' ++ [x] := ⟨l.dropLast, l.getLast hne, (List.dropLast_concat_getLast hne).symm⟩
    have := ih l' (by simpa using h) (fun y hy => hr y (by simp [hy]))
    have h2 := itoa_le21 x (hr x (by simp))
    rw [aText_snoc]
    split <;> simp only [List.length_append, List.length_cons, List.length_nil] <;> omega
theorem el_len (j : Nat) (x : Int) (hj : j ≤ 500) (h : Rg x) : (el j x).length ≤ 50 := by
  have h1 := itoa_le21 x h
  have h2 := itoa_le21 (j : Int) ⟨by omega, by omega⟩
  unfold el
  simp only [List.length_append, List.length_cons]
  omega
theorem oText_len : ∀ (n : Nat) (l : List Int), l.length = n → n ≤ 500 → (∀ x ∈ l, Rg x) → (oText l).length ≤ 1 + 51 * n := by
  intro n
  induction n with
  | zero => intro l h _ _; have := List.eq_nil_of_length_eq_zero h; subst this; simp [oText]
  | succ n ih =>
    intro l h hn hr
    have hne : l ≠ [] := by intro e; subst e; simp at h
    obtain ⟨l', x, rfl⟩ : ∃ l' x, l = l' ++ [x] := ⟨l.dropLast, l.getLast hne, (List.dropLast_concat_getLast hne).symm⟩
    have hl' : l'.length = n := by simpa using h
    have := ih l' hl' (by omega) (fun y hy => hr y (by simp [hy]))
    have h2 := el_len l'.length x (by omega) (hr x (by simp))
    have h3 := el_len 0 x (by omega) (hr x (by simp))
    rw [oText_snoc]
    split <;> simp only [List.length_append, List.length_cons, List.length_nil] <;> omega
theorem parse_aText (l : List Int) (hl : l.length ≤ 100) (hr : ∀ x ∈ l, Rg x) : parseL (aText l ++ [93]) = .ok (.mk 6 0 ⟨#[]⟩ [] (l.map num1)) := by
  have hlen := aText_len _ l rfl hr
  unfold parseL
  rw [if_neg (by simp only [List.length_append, List.length_cons, List.length_nil]; omega)]
  cases l with
  | nil =>
    show (match valL 0 (blanksL [91, 93]) with | .error e => _ | .ok (n, r) => _) = _
    rw [blanks_ne _ (by decide), valL_arr 0 _ rfl (by omega), List.tail_cons, blanks_ne _ (by decide), if_pos (by simp)]
    rfl
  | cons k ks =>
    have e : aText (k :: ks) ++ [93] = 91 :: (Lib.itoa k ++ (aRest ks ++ [93])) := by simp [aText]
    obtain ⟨c, t, hc, hd⟩ := itoa_head k (aRest ks ++ [93])
    have hb : blanksL (Lib.itoa k ++ (aRest ks ++ [93])) = Lib.itoa k ++ (aRest ks ++ [93]) := by rw [hc, blanks_ne _ (dig_no hd).1]
    have hh : (Lib.itoa k ++ (aRest ks ++ [93])).head? ≠ some 93 := by rw [hc]; intro e; simp at e; exact (dig_no hd).2 e
    rw [e, blanks_ne _ (by decide), valL_arr 0 _ rfl (by omega), List.tail_cons, hb, if_neg hh, arr_nums ks k _ [] hb hr]
    rfl
theorem parse_oText (l : List Int) (hl : l.length ≤ 100) (hr : ∀ x ∈ l, Rg x) : parseL (oText l ++ [125]) = .ok (.mk 7 0 ⟨#[]⟩ (kks 0 l.length) (l.map num1)) := by
  have hlen := oText_len _ l rfl (by omega) hr
  unfold parseL
  rw [if_neg (by simp only [List.length_append, List.length_cons, List.length_nil]; omega)]
  cases l with
  | nil =>
    show (match valL 0 (blanksL [123, 125]) with | .error e => _ | .ok (n, r) => _) = _
    rw [blanks_ne _ (by decide), valL_obj 0 _ rfl (by omega), List.tail_cons, blanks_ne _ (by decide), if_pos (by simp)]
    rfl
  | cons k ks =>
    have e : oText (k :: ks) ++ [125] = 123 :: (el 0 k ++ (oRest 1 ks ++ [125])) := by simp [oText]
    have hb : blanksL (el 0 k ++ (oRest 1 ks ++ [125])) = el 0 k ++ (oRest 1 ks ++ [125]) := blanks_ne (c := 34) _ (by decide)
    have hh : (el 0 k ++ (oRest 1 ks ++ [125])).head? ≠ some 125 := by show some (34 : UInt8) ≠ _; simp
    rw [e, blanks_ne _ (by decide), valL_obj 0 _ rfl (by omega), List.tail_cons, hb, if_neg hh, obj_nums ks k 0 [] [] (by simp) (by simp at hl; omega) hr]
    rfl
end Go.Proofs.Ytjigceoponlphaa
/-! JsonLists: its walk. -/
namespace Go.Proofs.Ytjigceoponlphaa
open Go.RowKit Go.PlainAid
set_option linter.unusedVariables false
set_option linter.unusedSimpArgs false
theorem row16 {w : World} {a : Option Addr} {len cap : Nat} {zs : List Int} (h : IsRow .i16 w a len cap zs) : ∃ l : List Int, l.length = len ∧ (∀ x ∈ l, Rg x) ∧ (0 < len → ∃ b off, a = some ⟨b, off, none⟩ ∧ b < w.heap.size ∧ ∀ i x, l[i]? = some x → w.cell? ⟨b, off + i, none⟩ = some (.int .i16 x)) := by
  rcases h with ⟨rfl, rfl, rfl, rfl⟩ | ⟨x, rfl, h1, h2, h3, h4, h5⟩
  · exact ⟨[], rfl, by simp, fun h => by omega⟩
  · refine ⟨zs.take len, by rw [List.length_take]; omega, fun y hy => ?_, fun h0 => ?_⟩
    · have hm := h5 y (List.mem_of_mem_take hy)
      simp [Lit.wf] at hm
      have e1 : IntKind.i16.min = -32768 := rfl
      have e2 : IntKind.i16.max = 32767 := rfl
      rw [e1, e2] at hm
      exact hm
    · obtain ⟨b, off, rfl, h6⟩ := ints_at h4 (by omega)
      refine ⟨b, off, rfl, World.block_lt_of_cell? _ _ (h6 0 (by omega)), fun i y hy => ?_⟩
      have hi : i < len := by have := (List.getElem?_eq_some_iff.1 hy).1; rw [List.length_take] at this; omega
      rw [List.getElem?_take, if_pos hi] at hy
      rw [h6 i (by omega)]
      simp [List.getD, hy]
def DigO (n : Int) (D : ByteArray) : Prop := ∀ w : World, Calls Try.prog 20 #[.int .i64 n] w fun e w' => e = .returned (.string D) ∧ Below w.heap.size w w'
theorem dig_nat (n : Int) (h0 : 0 ≤ n) (h1 : n ≤ 1000000) : ∃ D, DigO n D ∧ D.toList = Lib.itoa n ∧ D.size ≤ 21 := by
  refine ⟨digS n, fun w => rdigits_any 1000000 n w h1 (by omega), digS_itoa n h0, ?_⟩
  rw [← tl_len', digS_itoa n h0]
  exact Lib.itoa_length_le n (by omega) (by omega)
theorem dig_neg (n : Int) (h1 : n < 0) : ∃ D, DigO n D ∧ D.size ≤ 21 := by
  refine ⟨digS n, fun w => rdigits_any 1000000 n w (by omega) (by omega), ?_⟩
  rw [digS_neg n h1, ← tl_len', digS_itoa 0 (by omega)]
  exact Lib.itoa_length_le 0 (by omega) (by omega)
theorem kks_len (j n : Nat) : (kks j n).length = n := by unfold kks; simp
/-- the cells of an object's keys -/
theorem key_cells {w : World} {B : Nat} {k m : Int} {t : ByteArray} {ks : List ByteArray} {ns : List Nd} {v0 v1 v2 v4 : Value} {A : Option Addr} {l c : Nat} (h : NdIs w B (.mk k m t ks ns) [v0, v1, v2, .slice A l c, v4]) : l = ks.length ∧ (0 < ks.length → ∃ ad, A = some ad ∧ ad.block < B ∧ ∀ (i : Nat) (s : ByteArray), ks[i]? = some s → w.cell? (ad.add i) = some (.string s)) := by
  unfold NdIs at h
  obtain ⟨A1, ck, A2, c2, xs, h1, h2, h3, h4, h5⟩ := h
  simp only [List.cons.injEq, Value.slice.injEq, and_true] at h1
  obtain ⟨_, _, _, ⟨rfl, rfl, rfl⟩, _⟩ := h1
  refine ⟨rfl, fun hn => ?_⟩
  obtain ⟨ad, rfl, hb, hc⟩ := h2.2 hn
  exact ⟨ad, rfl, hb, fun i s hs => hc i _ (by rw [List.getElem?_map, hs]; rfl)⟩
def LS (W : World) (a1 a2 a3 a4 a5 a6 a7 : Addr) (v1 v2 v3 v4 v5 v6 v7 : Value) (w : World) : Prop := w.cell? a1 = some v1 ∧ w.cell? a2 = some v2 ∧ w.cell? a3 = some v3 ∧ w.cell? a4 = some v4 ∧ w.cell? a5 = some v5 ∧ w.cell? a6 = some v6 ∧ w.cell? a7 = some v7 ∧ Below W.heap.size W w
theorem ls_below {W w w' : World} {a1 a2 a3 a4 a5 a6 a7 : Addr} {v1 v2 v3 v4 v5 v6 v7 : Value} (h : LS W a1 a2 a3 a4 a5 a6 a7 v1 v2 v3 v4 v5 v6 v7 w) (k : Below w.heap.size w w') : LS W a1 a2 a3 a4 a5 a6 a7 v1 v2 v3 v4 v5 v6 v7 w' := by
  obtain ⟨h1, h2, h3, h4, h5, h6, h7, h8⟩ := h
  have f : ∀ (p : Addr) (v : Value), w.cell? p = some v → w'.cell? p = some v := fun p v h => (k.cell (World.block_lt_of_cell? _ _ h)).trans h
  exact ⟨f _ _ h1, f _ _ h2, f _ _ h3, f _ _ h4, f _ _ h5, f _ _ h6, f _ _ h7, nextB h8 k⟩
theorem ls_drew {W w : World} {a1 a2 a3 a4 a5 a6 a7 : Addr} {v1 v2 v3 v4 v5 v6 v7 : Value} (h : LS W a1 a2 a3 a4 a5 a6 a7 v1 v2 v3 v4 v5 v6 v7 w) : LS W a1 a2 a3 a4 a5 a6 a7 v1 v2 v3 v4 v5 v6 v7 w.drew := ⟨h.1, h.2.1, h.2.2.1, h.2.2.2.1, h.2.2.2.2.1, h.2.2.2.2.2.1, h.2.2.2.2.2.2.1, h.2.2.2.2.2.2.2.drew⟩
theorem take_at {l : List Int} {k : Nat} {x : Int} (h : l[k]? = some x) : l.take (k + 1) = l.take k ++ [x] := by
  rw [List.take_add_one, h]; rfl
theorem take_nil {l : List Int} {k : Nat} (h0 : k < l.length) : l.take k = [] ↔ k = 0 := by
  rw [List.take_eq_nil_iff]
  constructor
  · rintro (h | h)
    · exact h
    · subst h; simp at h0
  · exact .inl
theorem at_S0 {l : List Int} {k : Nat} {x : Int} {S D S2 : ByteArray} (hk : k = 0) (h : l[k]? = some x) (hS : S.toList = aText (l.take k)) (hD : D.toList = Lib.itoa x) : (S ++ D).toList = aText (l.take (k + 1)) := by
  rw [take_at h, aText_snoc, if_pos ((take_nil (List.getElem?_eq_some_iff.1 h).1).2 hk), app_toList, hS, hD]
theorem at_S1 {l : List Int} {k : Nat} {x : Int} {S D : ByteArray} (hk : ¬ k = 0) (h : l[k]? = some x) (hS : S.toList = aText (l.take k)) (hD : D.toList = Lib.itoa x) : (S ++ ⟨#[32, 44, 32]⟩ ++ D).toList = aText (l.take (k + 1)) := by
  rw [take_at h, aText_snoc, if_neg (fun e => hk ((take_nil (List.getElem?_eq_some_iff.1 h).1).1 e)), app_toList, app_toList, hS, hD, lit_toList [32, 44, 32]]
theorem at_T0 {l : List Int} {k : Nat} {x : Int} {T D E : ByteArray} (hk : k = 0) (h : l[k]? = some x) (hT : T.toList = oText (l.take k)) (hE : E.toList = Lib.itoa k) (hD : D.toList = Lib.itoa x) : (T ++ ⟨#[34, 107]⟩ ++ E ++ ⟨#[34, 32, 58, 32]⟩ ++ D).toList = oText (l.take (k + 1)) := by
  rw [take_at h, oText_snoc, if_pos ((take_nil (List.getElem?_eq_some_iff.1 h).1).2 hk), app_toList, app_toList, app_toList, app_toList, hT, hD, hE, lit_toList [34, 107], lit_toList [34, 32, 58, 32]]
  subst hk
  simp [el]
theorem at_T1 {l : List Int} {k : Nat} {x : Int} {T D E : ByteArray} (hk : ¬ k = 0) (h : l[k]? = some x) (hT : T.toList = oText (l.take k)) (hE : E.toList = Lib.itoa k) (hD : D.toList = Lib.itoa x) : (T ++ ⟨#[44]⟩ ++ ⟨#[34, 107]⟩ ++ E ++ ⟨#[34, 32, 58, 32]⟩ ++ D).toList = oText (l.take (k + 1)) := by
  have hlt := (List.getElem?_eq_some_iff.1 h).1
  rw [take_at h, oText_snoc, if_neg (fun e => hk ((take_nil hlt).1 e)), app_toList, app_toList, app_toList, app_toList, app_toList, hT, hD, hE, lit_toList [34, 107], lit_toList [34, 32, 58, 32], lit_toList [44], List.length_take, Nat.min_eq_left (Nat.le_of_lt hlt)]
  simp [el]
theorem S_size {l : List Int} {k : Nat} {S : ByteArray} (hr : ∀ x ∈ l, Rg x) (hk : k ≤ 100) (hS : S.toList = aText (l.take k)) : S.size ≤ 3000 := by
  have := aText_len _ (l.take k) rfl (fun x hx => hr x (List.mem_of_mem_take hx))
  rw [← hS, tl_len', List.length_take] at this
  omega
theorem T_size {l : List Int} {k : Nat} {T : ByteArray} (hr : ∀ x ∈ l, Rg x) (hk : k ≤ 100) (hT : T.toList = oText (l.take k)) : T.size ≤ 6000 := by
  have := oText_len _ (l.take k) rfl (by rw [List.length_take]; omega) (fun x hx => hr x (List.mem_of_mem_take hx))
  rw [← hT, tl_len', List.length_take] at this
  omega
set_option maxRecDepth 100000 in
set_option maxHeartbeats 4000000 in
theorem jsonLists_walk (a0 : Option Addr) (len cap : Nat) (zs : List Int) (w : World) (w0 : IsRow .i16 w a0 len cap zs) :
    Calls Try.prog 11 #[.slice a0 len cap] w fun e w' => e = .returned (.bool true) ∧ Below w.heap.size w w' := by
  have hW := Below.refl w.heap.size w
  obtain ⟨l, hl, hrg, hcell⟩ := row16 w0
  by_cases hn : len ≤ 100
  case neg =>
    have hli : (100 : Int) < (len : Int) := by omega
    clear w0 hrg hcell
    go_enter Try.func11, Try.ntmps11
    go_wp2_with (go_at_call 12; refine (awake7_any _).mono ?_; rintro e w1 ⟨rfl, hw1⟩; (first | replace hW := nextB hW hw1 | replace hW := nextA hW hw1 | replace hW := nextB hW.drew hw1 | replace hW := nextAA hW hw1 | replace hW := nextAD hW hw1); clear hw1)
    go_ret
    exact ⟨rfl, hW⟩
  have hli : ¬ (100 : Int) < (len : Int) := by omega
  clear w0
  have HRG := Lib.hid hrg
  have HCE := Lib.hid hcell
  have HL := Lib.hid hl
  clear hrg hcell hl
  go_enter Try.func11, Try.ntmps11
  go_wp2_with fail
  go_loopw [3, 4, 5] (fun t3 t4 t5 wr => ∃ (k : Nat) (S T : ByteArray), k ≤ len ∧ t3 = .string S ∧ t4 = .string T ∧ t5 = .int .i64 k ∧ Hid (S.toList = aText (l.take k)) ∧ Hid (T.toList = oText (l.take k)) ∧ Hid (Below w.heap.size w wr)) (fun _ _ t5 _ => len - (intOf t5).toNat)
  case atStart => exact ⟨0, ⟨#[91]⟩, ⟨#[123]⟩, by omega, rfl, rfl, rfl, lit_toList [91], lit_toList [123], hW⟩
  case round =>
    obtain ⟨k, S, T, hk, rfl, rfl, rfl, hS, hT, hw⟩ := hrel
    have hSz := S_size HRG.out (by omega) hS.out
    have hTz := T_size HRG.out (by omega) hT.out
    by_cases hlt : k < len
    · have hlt2 : k < l.length := by rw [HL.out]; exact hlt
      obtain ⟨x, hx⟩ : ∃ x, l[k]? = some x := ⟨l[k], List.getElem?_eq_getElem hlt2⟩
      obtain ⟨xr0, xr1⟩ := HRG.out x (List.mem_of_getElem? hx)
      obtain ⟨b, off, rfl, hb, hc⟩ := HCE.out (by omega)
      have q1 : wr.cell? ⟨b, off + k, none⟩ = some (.int .i16 x) := by rw [hw.out.cell (p := ⟨b, off + k, none⟩) hb]; exact hc k x hx
      have xw : IntKind.i64.wrap x = x := IntWalk.i64_in _ (by omega)
      have xn : IntKind.i64.wrap (-x) = -x := IntWalk.i64_in _ (by omega)
      obtain ⟨E, hE, hEl, hEz⟩ := dig_nat k (by omega) (by omega)
      have HE := Lib.hid hE
      have HEl := Lib.hid hEl
      have HX := Lib.hid hx
      clear hlt2 hx hc hE hEl
      by_cases hx0 : x < 0
      · by_cases hk0 : k = 0
        · have HK0 := Lib.hid hk0
          have hk0i : ¬ (0 : Int) < (k : Int) := by omega
          clear hk0
          obtain ⟨D0, hD0, hD0z⟩ := dig_neg x hx0
          obtain ⟨D, hD, hDl, hDz⟩ := dig_nat (-x) (by omega) (by omega)
          have HD0 := Lib.hid hD0
          have HD := Lib.hid hD
          have HDl : Hid (((⟨#[45]⟩ : ByteArray) ++ D).toList = Lib.itoa x) := by show _ = _; rw [app_toList, hDl, itoa_neg' x hx0, lit_toList [45]]; rfl
          have z0 : (⟨#[45]⟩ : ByteArray).size = 1 := rfl
          clear hD0 hD hDl
          have z1 : (⟨#[34, 107]⟩ : ByteArray).size = 2 := rfl
          have z2 : (⟨#[34, 32, 58, 32]⟩ : ByteArray).size = 4 := rfl
          go_wp2_with fail
          refine (HD0.out _ : Calls _ _ _ _ _).mono ?_; rintro e w2 ⟨rfl, hw2⟩
          replace hw := Lib.hid (nextB hw.out hw2); clear hw2
          go_wp2_with fail
          refine (HD.out _ : Calls _ _ _ _ _).mono ?_; rintro e w3 ⟨rfl, hw3⟩
          replace hw := Lib.hid (nextB hw.out hw3); clear hw3
          go_wp2_with fail
          refine (HE.out _ : Calls _ _ _ _ _).mono ?_; rintro e w4 ⟨rfl, hw4⟩
          replace hw := Lib.hid (nextB hw.out hw4); clear hw4
          have nS := Lib.hid (at_S0 (S2 := S) (k := k) HK0.out HX.out hS.out HDl.out)
          have nT := Lib.hid (at_T0 (k := k) HK0.out HX.out hT.out HEl.out HDl.out)
          go_wp2_with fail
          go_roundw
          case rel => exact ⟨k + 1, _, _, by omega, rfl, rfl, by go_num, nS, nT, hw⟩
          case measure => simp [intOf]; omega
        · obtain ⟨D0, hD0, hD0z⟩ := dig_neg x hx0
          obtain ⟨D, hD, hDl, hDz⟩ := dig_nat (-x) (by omega) (by omega)
          have HD0 := Lib.hid hD0
          have HD := Lib.hid hD
          have HDl : Hid (((⟨#[45]⟩ : ByteArray) ++ D).toList = Lib.itoa x) := by show _ = _; rw [app_toList, hDl, itoa_neg' x hx0, lit_toList [45]]; rfl
          have z0 : (⟨#[45]⟩ : ByteArray).size = 1 := rfl
          clear hD0 hD hDl
          have z1 : (⟨#[34, 107]⟩ : ByteArray).size = 2 := rfl
          have z2 : (⟨#[34, 32, 58, 32]⟩ : ByteArray).size = 4 := rfl
          have z3 : (⟨#[32, 44, 32]⟩ : ByteArray).size = 3 := rfl
          have z4 : (⟨#[44]⟩ : ByteArray).size = 1 := rfl
          have hk0i : (0 : Int) < (k : Int) := by omega
          go_wp2_with fail
          refine (HD0.out _ : Calls _ _ _ _ _).mono ?_; rintro e w2 ⟨rfl, hw2⟩
          replace hw := Lib.hid (nextB hw.out hw2); clear hw2
          go_wp2_with fail
          refine (HD.out _ : Calls _ _ _ _ _).mono ?_; rintro e w3 ⟨rfl, hw3⟩
          replace hw := Lib.hid (nextB hw.out hw3); clear hw3
          go_wp2_with fail
          refine (HE.out _ : Calls _ _ _ _ _).mono ?_; rintro e w4 ⟨rfl, hw4⟩
          replace hw := Lib.hid (nextB hw.out hw4); clear hw4
          have nS := Lib.hid (at_S1 (k := k) (by omega) HX.out hS.out HDl.out)
          have nT := Lib.hid (at_T1 (k := k) (by omega) HX.out hT.out HEl.out HDl.out)
          go_wp2_with fail
          go_roundw
          case rel => exact ⟨k + 1, _, _, by omega, rfl, rfl, by go_num, nS, nT, hw⟩
          case measure => simp [intOf]; omega
      · by_cases hk0 : k = 0
        · have HK0 := Lib.hid hk0
          have hk0i : ¬ (0 : Int) < (k : Int) := by omega
          clear hk0
          obtain ⟨D, hD, hDl, hDz⟩ := dig_nat x (by omega) (by omega)
          have HD := Lib.hid hD
          have HDl := Lib.hid hDl
          clear hD hDl
          have z1 : (⟨#[34, 107]⟩ : ByteArray).size = 2 := rfl
          have z2 : (⟨#[34, 32, 58, 32]⟩ : ByteArray).size = 4 := rfl
          go_wp2_with fail
          refine (HD.out _ : Calls _ _ _ _ _).mono ?_; rintro e w2 ⟨rfl, hw2⟩
          replace hw := Lib.hid (nextB hw.out hw2); clear hw2
          go_wp2_with fail
          refine (HE.out _ : Calls _ _ _ _ _).mono ?_; rintro e w3 ⟨rfl, hw3⟩
          replace hw := Lib.hid (nextB hw.out hw3); clear hw3
          have nS := Lib.hid (at_S0 (S2 := S) (k := k) HK0.out HX.out hS.out HDl.out)
          have nT := Lib.hid (at_T0 (k := k) HK0.out HX.out hT.out HEl.out HDl.out)
          go_wp2_with fail
          go_roundw
          case rel => exact ⟨k + 1, _, _, by omega, rfl, rfl, by go_num, nS, nT, hw⟩
          case measure => simp [intOf]; omega
        · obtain ⟨D, hD, hDl, hDz⟩ := dig_nat x (by omega) (by omega)
          have HD := Lib.hid hD
          have HDl := Lib.hid hDl
          clear hD hDl
          have z1 : (⟨#[34, 107]⟩ : ByteArray).size = 2 := rfl
          have z2 : (⟨#[34, 32, 58, 32]⟩ : ByteArray).size = 4 := rfl
          have z3 : (⟨#[32, 44, 32]⟩ : ByteArray).size = 3 := rfl
          have z4 : (⟨#[44]⟩ : ByteArray).size = 1 := rfl
          have hk0i : (0 : Int) < (k : Int) := by omega
          go_wp2_with fail
          refine (HD.out _ : Calls _ _ _ _ _).mono ?_; rintro e w2 ⟨rfl, hw2⟩
          replace hw := Lib.hid (nextB hw.out hw2); clear hw2
          go_wp2_with fail
          refine (HE.out _ : Calls _ _ _ _ _).mono ?_; rintro e w3 ⟨rfl, hw3⟩
          replace hw := Lib.hid (nextB hw.out hw3); clear hw3
          have nS := Lib.hid (at_S1 (k := k) (by omega) HX.out hS.out HDl.out)
          have nT := Lib.hid (at_T1 (k := k) (by omega) HX.out hT.out HEl.out HDl.out)
          go_wp2_with fail
          go_roundw
          case rel => exact ⟨k + 1, _, _, by omega, rfl, rfl, by go_num, nS, nT, hw⟩
          case measure => simp [intOf]; omega
    · obtain rfl : k = len := by omega
      have hSL : (S ++ ⟨#[93]⟩).toList = aText l ++ [93] := by rw [app_toList, hS.out, List.take_of_length_le (by rw [HL.out]; exact Nat.le_refl _), lit_toList [93]]
      have hTL : (T ++ ⟨#[125]⟩).toList = oText l ++ [125] := by rw [app_toList, hT.out, List.take_of_length_le (by rw [HL.out]; exact Nat.le_refl _), lit_toList [125]]
      have hll : l.length ≤ 100 := by rw [HL.out]; exact hn
      have HP1 := Lib.hid (parse_free (S ++ ⟨#[93]⟩) (.ok (.mk 6 0 ⟨#[]⟩ [] (l.map num1))) (by rw [hSL]; exact parse_aText l hll HRG.out))
      have HP2 := Lib.hid (parse_free (T ++ ⟨#[125]⟩) (.ok (.mk 7 0 ⟨#[]⟩ (kks 0 l.length) (l.map num1))) (by rw [hTL]; exact parse_oText l hll HRG.out))
      have z1 : (⟨#[93]⟩ : ByteArray).size = 1 := rfl
      have z2 : (⟨#[125]⟩ : ByteArray).size = 1 := rfl
      clear hSL hTL hll hS hT hk
      go_wp2_with (with_reducible refine wpList_bytes_of _ rfl (.tmp 55) rfl _ rfl ?_; intro g c9 w4 hg1 hg2 hrow hb4)
      have HPC := HP1.out w4 (some ⟨g, 0, none⟩) c9
      replace hw := Lib.hid (nextB hw.out hb4)
      have hby := BytesAt.of_row (c := c9) hg2 hrow
      clear hg1 hg2 hrow hb4 HP1
      refine (HPC _ (by simp [ByteArray.size_append]; try omega) hby : Calls _ _ _ _ _).mono ?_; rintro e w5 ⟨c0, c1, c2, c3, c4, c5, c6, c7, c8, rfl, hn1, hw5⟩
      have B1 := Lib.hid (Blk.new w5 27 #[.int .i64 c0, .int .i64 c1, .string c2, .slice c3 c4 c5, .slice c6 c7 c8])
      have HN1 := Lib.hid (NdIs.more (Nat.le_refl _) _ _ (NdIs.more (B' := (w5.alloc (.cells #[.int .i64 c0, .int .i64 c1, .string c2, .slice c3 c4 c5, .slice c6 c7 c8] 27)).heap.size) (by simp) _ _ (hn1.below (w' := w5.alloc (.cells #[.int .i64 c0, .int .i64 c1, .string c2, .slice c3 c4 c5, .slice c6 c7 c8] 27)) ((Below.refl _ _).alloc (Nat.le_refl _) _))))
      replace hw := Lib.hid (nextB hw.out (hw5.alloc hw5.size (.cells #[.int .i64 c0, .int .i64 c1, .string c2, .slice c3 c4 c5, .slice c6 c7 c8] 27)))
      clear HPC hby hw5 hn1
      go_wp2_with (with_reducible refine wpList_bytes_of _ rfl (.tmp 62) rfl _ rfl ?_; intro g c9 w6 hg1 hg2 hrow hb4)
      have HPC := HP2.out w6 (some ⟨g, 0, none⟩) c9
      replace hw := Lib.hid (nextB hw.out hb4)
      have B1' := B1.out.below hb4 B1.out.lt
      have HN1' := HN1.out.below hb4
      have hsz := hb4.size
      have hby := BytesAt.of_row (c := c9) hg2 hrow
      clear hg1 hg2 hrow hb4 HP2 B1
      refine (HPC _ (by simp [ByteArray.size_append]; try omega) hby : Calls _ _ _ _ _).mono ?_; rintro e w7 ⟨d0, d1, d2, d3, d4, d5, d6, d7, d8, rfl, hn2, hw7⟩
      have hA := hw7.alloc hw7.size (.cells #[.int .i64 d0, .int .i64 d1, .string d2, .slice d3 d4 d5, .slice d6 d7 d8] 27)
      have B2 := Lib.hid (Blk.new w7 27 #[.int .i64 d0, .int .i64 d1, .string d2, .slice d3 d4 d5, .slice d6 d7 d8])
      have HN2 := Lib.hid (NdIs.more (Nat.le_refl _) _ _ (NdIs.more (B' := (w7.alloc (.cells #[.int .i64 d0, .int .i64 d1, .string d2, .slice d3 d4 d5, .slice d6 d7 d8] 27)).heap.size) (by simp) _ _ (hn2.below (w' := w7.alloc (.cells #[.int .i64 d0, .int .i64 d1, .string d2, .slice d3 d4 d5, .slice d6 d7 d8] 27)) ((Below.refl _ _).alloc (Nat.le_refl _) _))))
      replace hw := Lib.hid (nextB hw.out hA)
      have BB1 := B1'.below hA B1'.lt
      have hs6 := hA.size
      have HN3 := (NdIs.more hsz _ _ HN1').below hA
      have hBL1 := BB1.lt
      have hBL2 := B2.out.lt
      clear HPC hby hw7 hn2 hA HN1 HN1' B1'
      obtain ⟨hc0, _, _⟩ := NdIs.head HN3
      obtain ⟨hd0, _, _⟩ := NdIs.head HN2.out
      obtain ⟨hc7, hck⟩ := kid_cells HN3
      obtain ⟨hd7, hdk⟩ := kid_cells HN2.out
      obtain ⟨hd4, hdy⟩ := key_cells HN2.out
      simp only [List.getElem?_cons_zero, Option.some.injEq, Value.int.injEq, true_and, List.length_map, kks_len] at hc0 hd0 hc7 hd7 hd4
      rw [HL.out] at hc7 hd7 hd4
      subst hc0 hd0 hc7 hd7 hd4
      have hlz : (l.map num1).length = d4 := by rw [List.length_map, HL.out]
      have hfk : ∀ (i : Nat) (x : Int), l[i]? = some x → ∃ b1 o1 b2 o2 ad, (c6 = some ⟨b1, o1, none⟩ ∧ b1 < (w7.alloc (.cells #[.int .i64 7, .int .i64 d1, .string d2, .slice d3 d4 d5, .slice d6 d4 d8] 27)).heap.size ∧ (w7.alloc (.cells #[.int .i64 7, .int .i64 d1, .string d2, .slice d3 d4 d5, .slice d6 d4 d8] 27)).cell? ⟨b1, o1 + i * 5 + 1, none⟩ = some (.int .i64 x)) ∧ (d6 = some ⟨b2, o2, none⟩ ∧ b2 < (w7.alloc (.cells #[.int .i64 7, .int .i64 d1, .string d2, .slice d3 d4 d5, .slice d6 d4 d8] 27)).heap.size ∧ (w7.alloc (.cells #[.int .i64 7, .int .i64 d1, .string d2, .slice d3 d4 d5, .slice d6 d4 d8] 27)).cell? ⟨b2, o2 + i * 5 + 1, none⟩ = some (.int .i64 x)) ∧ d3 = some ad ∧ ad.block < (w7.alloc (.cells #[.int .i64 7, .int .i64 d1, .string d2, .slice d3 d4 d5, .slice d6 d4 d8] 27)).heap.size ∧ (w7.alloc (.cells #[.int .i64 7, .int .i64 d1, .string d2, .slice d3 d4 d5, .slice d6 d4 d8] 27)).cell? (ad.add i) = some (.string (kk i)) := fun i x hx => by
        have hi := (List.getElem?_eq_some_iff.1 hx).1
        have hpos : 0 < (l.map num1).length := by rw [List.length_map]; omega
        have hmi : (l.map num1)[i]? = some (num1 x) := by rw [List.getElem?_map, hx]; rfl
        obtain ⟨b1, o1, e1, m1, f1⟩ := hck hpos
        obtain ⟨b2, o2, e2, m2, f2⟩ := hdk hpos
        obtain ⟨ad, e3, m3, f3⟩ := hdy (by rw [kks_len]; omega)
        obtain ⟨cs1, n1, g1⟩ := f1 i _ hmi
        obtain ⟨cs2, n2, g2⟩ := f2 i _ hmi
        refine ⟨b1, o1, b2, o2, ad, ⟨e1, Nat.lt_of_lt_of_le m1 hs6, ?_⟩, ⟨e2, m2, ?_⟩, e3, m3, ?_⟩
        · have := g1 1 _ (NdIs.head n1).2.1
          rw [show o1 + i * 5 + 1 = o1 + (i * 5 + 1) by omega]; exact this
        · have := g2 1 _ (NdIs.head n2).2.1
          rw [show o2 + i * 5 + 1 = o2 + (i * 5 + 1) by omega]; exact this
        · refine f3 i _ ?_
          unfold kks
          rw [List.getElem?_map, List.getElem?_range' hi]
          simp
      have FK := Lib.hid hfk
      have BX1 := Lib.hid BB1
      obtain ⟨p0, p1, p2, p3, p4⟩ := BB1.cells5
      obtain ⟨q0, q1, q2, q3, q4⟩ := B2.out.cells5
      clear hck hdk hdy hfk HN2 HN3 hlz z1 z2 hs6 hsz
      go_wp2_with fail
      generalize hW8 : w7.alloc (.cells #[.int .i64 7, .int .i64 d1, .string d2, .slice d3 d4 d5, .slice d6 d4 d8] 27) = W8 at *
      clear hW8
      go_wp2_with (first
        | (go_at_call 16; refine (jnum_any _ _).mono ?_; rintro e w6 ⟨rfl, hw⟩; obtain rfl : _ = w6 := hw))
      have P4 := Lib.hid p4
      have Q4 := Lib.hid q4
      have Q3 := Lib.hid q3
      have HWW := Lib.hid (Below.refl W8.heap.size W8)
      clear p0 p1 p2 p3 p4 q0 q1 q2 q3 q4 BX1 BB1 B2
      go_loopw [12] (fun t12 wr2 => ∃ i : Nat, i ≤ d4 ∧ t12 = .int .i64 i ∧ Hid (Below W8.heap.size W8 wr2)) (fun t12 _ => d4 - (intOf t12).toNat)
      case atStart => exact ⟨0, by omega, rfl, HWW⟩
      case round =>
        obtain ⟨i, hi, rfl, hwo⟩ := hrel
        by_cases hilt : i < d4
        · obtain ⟨x, hx⟩ : ∃ x, l[i]? = some x := ⟨l[i]'(by rw [HL.out]; exact hilt), List.getElem?_eq_getElem (by rw [HL.out]; exact hilt)⟩
          obtain ⟨xr0, xr1⟩ := HRG.out x (List.mem_of_getElem? hx)
          obtain ⟨b, off, rfl, hb, hc⟩ := HCE.out (by omega)
          obtain ⟨b1, o1, b2, o2, ad, ⟨rfl, m1, f1⟩, ⟨rfl, m2, f2⟩, rfl, m3, f3⟩ := FK.out i x hx
          obtain ⟨E, hE, hEl, hEz⟩ := dig_nat i (by omega) (by omega)
          have hkk : kk i = ⟨#[107]⟩ ++ E := ba_ext' (by rw [app_toList, hEl, kk_toList, lit_toList [107]]; rfl)
          rw [hkk] at f3
          have haddb : (ad.add i).block = ad.block := by unfold Addr.add; split <;> rfl
          have k1 : wr.cell? ⟨w5.heap.size, 4, none⟩ = some (.slice (some ⟨b1, o1, none⟩) d4 c8) := by rw [hwo.out.cell (p := ⟨w5.heap.size, 4, none⟩) hBL1]; exact P4.out
          have k2 : wr.cell? ⟨w7.heap.size, 4, none⟩ = some (.slice (some ⟨b2, o2, none⟩) d4 d8) := by rw [hwo.out.cell (p := ⟨w7.heap.size, 4, none⟩) hBL2]; exact Q4.out
          have k3 : wr.cell? ⟨w7.heap.size, 3, none⟩ = some (.slice (some ad) d4 d5) := by rw [hwo.out.cell (p := ⟨w7.heap.size, 3, none⟩) hBL2]; exact Q3.out
          have k4 : wr.cell? ⟨b1, o1 + i * 5 + 1, none⟩ = some (.int .i64 x) := by rw [hwo.out.cell (p := ⟨b1, o1 + i * 5 + 1, none⟩) m1]; exact f1
          have k5 : wr.cell? ⟨b2, o2 + i * 5 + 1, none⟩ = some (.int .i64 x) := by rw [hwo.out.cell (p := ⟨b2, o2 + i * 5 + 1, none⟩) m2]; exact f2
          have k6 : wr.cell? (ad.add i) = some (.string (⟨#[107]⟩ ++ E)) := by rw [hwo.out.cell (p := ad.add i) (by rw [haddb]; exact m3)]; exact f3
          have k7 : wr.cell? ⟨b, off + i, none⟩ = some (.int .i16 x) := by
            rw [hwo.out.cell (p := ⟨b, off + i, none⟩) (Nat.lt_of_lt_of_le hb hw.out.size), hw.out.cell (p := ⟨b, off + i, none⟩) hb]; exact hc i x hx
          have xw : IntKind.i64.wrap x = x := IntWalk.i64_in _ (by omega)
          have z1 : (⟨#[107]⟩ : ByteArray).size = 1 := rfl
          have z2 : ((⟨#[107]⟩ : ByteArray) ++ E).size = 1 + E.size := by rw [ByteArray.size_append]; rfl
          have i0 : (0 : Int) ≤ (i : Int) := by omega
          have i1 : (i : Int) < (d4 : Int) := by omega
          have hE' := Lib.hid hE
          clear hE hx hc f1 f2 f3 hkk hEl
          have hls : LS W8 ⟨w5.heap.size, 4, none⟩ ⟨w7.heap.size, 4, none⟩ ⟨w7.heap.size, 3, none⟩ ⟨b1, o1 + i * 5 + 1, none⟩ ⟨b2, o2 + i * 5 + 1, none⟩ (ad.add i) ⟨b, off + i, none⟩ (.slice (some ⟨b1, o1, none⟩) d4 c8) (.slice (some ⟨b2, o2, none⟩) d4 d8) (.slice (some ad) d4 d5) (.int .i64 x) (.int .i64 x) (.string (⟨#[107]⟩ ++ E)) (.int .i16 x) wr := ⟨k1, k2, k3, k4, k5, k6, k7, hwo.out⟩
          have HLS := Lib.hid hls
          have hq1 : ¬ 9223372036854775807 < 1 + E.size := by omega
          clear hls k1 k2 k3 k4 k5 k6 k7 z1 z2
          go_wp2_with fail
          go_region_held3 (fun w' => w'.cell? ⟨w5.heap.size, 4, none⟩ = some (.slice (some ⟨b1, o1, none⟩) d4 c8) ∧ w'.cell? ⟨w7.heap.size, 4, none⟩ = some (.slice (some ⟨b2, o2, none⟩) d4 d8) ∧ w'.cell? ⟨w7.heap.size, 3, none⟩ = some (.slice (some ad) d4 d5) ∧ w'.cell? ⟨b1, o1 + i * 5 + 1, none⟩ = some (.int .i64 x) ∧ w'.cell? ⟨b2, o2 + i * 5 + 1, none⟩ = some (.int .i64 x) ∧ w'.cell? (ad.add i) = some (.string (⟨#[107]⟩ ++ E)) ∧ w'.cell? ⟨b, off + i, none⟩ = some (.int .i16 x) ∧ Below W8.heap.size W8 w') (first | assumption | exact ls_drew HLS.out | exact ls_below (by assumption) (by assumption)) (first
            | (go_at_call 20; refine (hE'.out _ : Calls _ _ _ _ _).mono ?_; rintro e w6 ⟨rfl, hw6⟩))
          all_goals
            go_wp2_with fail
            exact ⟨⟨i + 1, by omega, by simp, (show LS W8 ⟨w5.heap.size, 4, none⟩ ⟨w7.heap.size, 4, none⟩ ⟨w7.heap.size, 3, none⟩ ⟨b1, o1 + i * 5 + 1, none⟩ ⟨b2, o2 + i * 5 + 1, none⟩ (ad.add i) ⟨b, off + i, none⟩ (.slice (some ⟨b1, o1, none⟩) d4 c8) (.slice (some ⟨b2, o2, none⟩) d4 d8) (.slice (some ad) d4 d5) (.int .i64 x) (.int .i64 x) (.string (⟨#[107]⟩ ++ E)) (.int .i16 x) _ by assumption).2.2.2.2.2.2.2⟩, by simp [intOf]; omega⟩
        · obtain rfl : i = d4 := by omega
          have hW := nextB hw.out hwo.out
          clear hw hwo FK P4 Q4 Q3 HCE
          go_wp2_with (go_at_call 12; refine (awake7_any _).mono ?_; rintro e w1 ⟨rfl, hw1⟩; (first | replace hW := nextB hW hw1 | replace hW := nextA hW hw1 | replace hW := nextB hW.drew hw1 | replace hW := nextAA hW hw1 | replace hW := nextAD hW hw1); clear hw1)
          go_ret
          exact ⟨rfl, hW⟩
end Go.Proofs.Ytjigceoponlphaa
