/- Texts of one seat, one behind the other: Jlaw1, Jlaw3, Pj9, Jlaw4, Jlaw5, Pj10, Jlaw6, OwnM, Jlaw7. No condition. -/
import Derived.Test.YtjigceoponlphaaQ7
import Derived.BigRegion
import Derived.Deep.RegionHeld3
import Derived.Lib.AppendStr
import Derived.Laws.OwnMore
/-! JsonBack: its walk. -/
namespace Go.Proofs.Ytjigceoponlphaa
open Go.RowKit Go.PlainAid
set_option linter.unusedVariables false
set_option linter.unusedSimpArgs false
theorem val_err : ∀ (N : Nat),
    (∀ deep l e, 2 * l.length ≤ N → valL deep l = .error e → 3 ≤ e ∧ e ≤ 5) ∧
    (∀ deep l ns e, 2 * l.length + 1 ≤ N → arrL deep l ns = .error e → 3 ≤ e ∧ e ≤ 5) ∧
    (∀ deep l ks ns e, 2 * l.length + 1 ≤ N → objL deep l ks ns = .error e → 3 ≤ e ∧ e ≤ 5) := by
  intro N
  induction N using Nat.strongRecOn with
  | _ N ih =>
    refine ⟨?_, ?_, ?_⟩
    · intro deep l e hN h
      by_cases h91 : l.head? = some 91
      · by_cases h24 : 24 ≤ deep
        · rw [valL_deep deep l (.inl h91) h24] at h; cases h; omega
        rw [valL_arr deep l h91 h24] at h
        have ht := tail_lt h91
        have hb := blanksL_le l.tail
        split at h
        · cases h
        · exact (ih (2 * (blanksL l.tail).length + 1) (by omega)).2.1 deep _ _ e (Nat.le_refl _) h
      by_cases h123 : l.head? = some 123
      · by_cases h24 : 24 ≤ deep
        · rw [valL_deep deep l (.inr h123) h24] at h; cases h; omega
        rw [valL_obj deep l h123 h24] at h
        have ht := tail_lt h123
        have hb := blanksL_le l.tail
        split at h
        · cases h
        · exact (ih (2 * (blanksL l.tail).length + 1) (by omega)).2.2 deep _ _ _ e (Nat.le_refl _) h
      by_cases h34 : l.head? = some 34
      · rw [valL_str deep l h34] at h
        cases ht : textL l with
        | none => rw [ht] at h; cases h; omega
        | some p => rw [ht] at h; cases h
      rw [valL_else deep l h91 h123 h34] at h
      split at h
      · cases h
      split at h
      · cases h
      split at h
      · cases h
      cases ht : numL l with
      | none => rw [ht] at h; cases h; omega
      | some p => rw [ht] at h; cases h
    · intro deep l ns e hN h
      have hb := blanksL_le l
      rw [arrL_eq] at h
      cases hv : valL (deep + 1) (blanksL l) with
      | error e' =>
        rw [hv] at h
        cases h
        exact (ih (2 * (blanksL l).length) (by omega)).1 _ _ _ (Nat.le_refl _) hv
      | ok p =>
        obtain ⟨x, r1⟩ := p
        have hr1 := (valL_le hv).2
        rw [hv] at h
        simp only at h
        have hb1 := blanksL_le r1
        split at h
        · cases h
        split at h
        · rename_i h44
          have ht := tail_lt h44
          exact (ih (2 * (blanksL r1).tail.length + 1) (by omega)).2.1 deep _ _ e (Nat.le_refl _) h
        · cases h; omega
    · intro deep l ks ns e hN h
      have hb := blanksL_le l
      rw [objL_eq] at h
      cases ht : textL (blanksL l) with
      | none => rw [ht] at h; cases h; omega
      | some p =>
        obtain ⟨k, r0⟩ := p
        rw [ht] at h
        simp only at h
        have hr0 := (textL_le ht).2
        have hb0 := blanksL_le r0
        split at h
        · cases h; omega
        split at h
        · rename_i h58
          have h58 := tail_lt h58
          have hb2 := blanksL_le (blanksL r0).tail
          cases hv : valL (deep + 1) (blanksL (blanksL r0).tail) with
          | error e' =>
            rw [hv] at h
            cases h
            exact (ih (2 * (blanksL (blanksL r0).tail).length) (by omega)).1 _ _ _ (Nat.le_refl _) hv
          | ok p =>
            obtain ⟨x, r1⟩ := p
            rw [hv] at h
            simp only at h
            have hr1 := (valL_le hv).2
            have hb1 := blanksL_le r1
            split at h
            · cases h
            split at h
            · rename_i h44
              have ht := tail_lt h44
              exact (ih (2 * (blanksL r1).tail.length + 1) (by omega)).2.2 deep _ _ _ e (Nat.le_refl _) h
            · cases h; omega
        · cases h; omega
theorem parse_err {l : List UInt8} {e : Int} (h : parseL l = .error e) : 2 ≤ e ∧ e ≤ 5 := by
  unfold parseL at h
  split at h
  · cases h; omega
  · cases hv : valL 0 (blanksL l) with
    | error c =>
      rw [hv] at h
      cases h
      have := (val_err _).1 0 _ _ (Nat.le_refl _) hv
      omega
    | ok p =>
      obtain ⟨n, r⟩ := p
      rw [hv] at h
      simp only at h
      split at h
      · cases h
      · cases h; omega
theorem sameK_refl (ks : List ByteArray) : sameK ks ks = true := by
  induction ks with
  | nil => unfold sameK; rfl
  | cons k ks ih => unfold sameK; simp [ih]
mutual
theorem sameN_refl : ∀ n : Nd, sameN n n = true
  | .mk k m t ks ns => by
    unfold sameN
    simp [sameK_refl, sameL_refl ns]
theorem sameL_refl : ∀ ns : List Nd, sameL ns ns = true
  | [] => by unfold sameL; rfl
  | n :: ns => by
    unfold sameL
    simp [sameN_refl n, sameL_refl ns]
end
theorem print_right {n : Nd} (h : rightD n 0 = true) (hl : (putU n).length ≤ 65536) : printS n = ⟨(putU n).toArray⟩ ∧ printE n = 0 := by
  rw [printS_eq, printE_eq, h]
  rw [if_neg (by simp), if_neg (by omega), if_neg (by simp), if_neg (by omega)]
  exact ⟨rfl, rfl⟩
theorem rprint_law (n : Nd) (cs : List Value) (w : World) (hn : NdIs w w.heap.size n cs) (h : rightD n 0 = true) (hl : (putU n).length ≤ 65536) :
    Calls Try.prog 17 #[.agg cs.toArray] w (StrErr ⟨(putU n).toArray⟩ 0 w) := by
  have hg := gN_put n 0 h
  have := rPrint_any n cs w w.heap.size hn (Nat.le_refl _) (fun _ => hg.2 (by omega)) (by have := hg.1; omega)
  rw [(print_right h hl).1, (print_right h hl).2] at this
  exact this
set_option maxRecDepth 100000 in
set_option maxHeartbeats 4000000 in
theorem jsonBack_walk (a0 : Option Addr) (len cap : Nat) (zs : List Int) (w : World) (w0 : IsRow .u8 w a0 len cap zs) :
    Calls Try.prog 5 #[.slice a0 len cap] w fun e w' => e = .returned (.bool true) ∧ Below w.heap.size w w' := by
  obtain ⟨s, rfl, hby, hcap, hmax, _, _⟩ := BytesAt.of_arg w0
  clear w0
  have hW := Below.refl w.heap.size w
  by_cases hl : s.size ≤ 3000
  case neg =>
    have hli : (3000 : Int) < (s.size : Int) := by omega
    clear hby
    go_enter Try.func5, Try.ntmps5
    go_wp2_with (go_at_call 12; refine (awake7_any _).mono ?_; rintro e w1 ⟨rfl, hw1⟩; (first | replace hW := nextB hW hw1 | replace hW := nextA hW hw1 | replace hW := nextB hW.drew hw1 | replace hW := nextAA hW hw1 | replace hW := nextAD hW hw1); clear hw1)
    go_ret
    exact ⟨rfl, hW⟩
  have hli : ¬ (3000 : Int) < (s.size : Int) := by omega
  have HP := Lib.hid (parse_law s a0 cap w hby)
  cases hr : parseL s.toList with
  | error c =>
    have hc := parse_err hr
    rw [hr] at HP
    clear hr hby
    go_enter Try.func5, Try.ntmps5
    go_wp2_with fail
    refine (HP.out : Calls _ _ _ _ _).mono ?_; rintro e w1 ⟨rfl, hw1⟩
    replace hW := nextB hW hw1; clear hw1
    go_wp2_with fail
    refine (jnum_any _ _).mono ?_; rintro e w2 ⟨rfl, hw⟩; obtain rfl : _ = w2 := hw
    have hc0 : ¬ c = 0 := by omega
    go_wp2_with (go_at_call 12; refine (awake7_any _).mono ?_; rintro e w2 ⟨rfl, hw1⟩; (first | replace hW := nextB hW hw1 | replace hW := nextA hW hw1 | replace hW := nextB hW.drew hw1 | replace hW := nextAA hW hw1 | replace hW := nextAD hW hw1); clear hw1)
    go_ret
    exact ⟨rfl, hW⟩
  | ok n =>
    obtain ⟨h1, h2, h3, h4⟩ := parse_back hr
    rw [hr] at HP
    have hsz : (⟨(putU n).toArray⟩ : ByteArray).toList = putU n := lit_toList _
    have HP2 : Hid (∀ w' A c, BytesAt w' A c ⟨(putU n).toArray⟩ → Calls Try.prog 13 #[.slice A (⟨(putU n).toArray⟩ : ByteArray).size c] w' (PEnd (.ok n) w')) := fun w' A c hb => by
      have := parse_law ⟨(putU n).toArray⟩ A c w' hb
      rw [hsz, h4] at this
      exact this
    have HPR : Hid (∀ (cs : List Value) (w' : World), NdIs w' w'.heap.size n cs → Calls Try.prog 17 #[.agg cs.toArray] w' (StrErr ⟨(putU n).toArray⟩ 0 w')) := fun cs w' hn => rprint_law n cs w' hn h1 (by omega)
    have hls : ((⟨(putU n).toArray⟩ : ByteArray).size : Int) ≤ (s.size : Int) := by
      have e : (⟨(putU n).toArray⟩ : ByteArray).size = (putU n).length := by show (putU n).toArray.size = _; simp
      rw [e, ← tl_len' s]
      omega
    generalize (⟨(putU n).toArray⟩ : ByteArray) = T at *
    clear hr hby h1 h2 h3 h4 hsz
    go_enter Try.func5, Try.ntmps5
    go_wp2_with fail
    refine (HP.out : Calls _ _ _ _ _).mono ?_; rintro e w1 ⟨c0, c1, c2, c3, c4, c5, c6, c7, c8, rfl, hn, hw1⟩
    replace hW := nextB hW hw1; clear hw1
    have hA : Below w1.heap.size w1 (w1.alloc (.cells #[.int .i64 c0, .int .i64 c1, .string c2, .slice c3 c4 c5, .slice c6 c7 c8] 27)) := (Below.refl _ _).alloc (Nat.le_refl _) _
    have HN1 := Lib.hid (NdIs.more hA.size _ _ (hn.below hA))
    have HB1 := Lib.hid (Blk.new w1 27 #[.int .i64 c0, .int .i64 c1, .string c2, .slice c3 c4 c5, .slice c6 c7 c8])
    have HW1 := Lib.hid (hW.trans (hA.mono hW.size))
    clear hn hA hW HP
    go_wp2_with fail
    refine (jnum_any _ _).mono ?_; rintro e w2 ⟨rfl, hw⟩; obtain rfl : _ = w2 := hw
    go_wp2_with fail
    refine (HPR.out _ _ HN1.out : Calls _ _ _ _ _).mono ?_; rintro e w3 ⟨rfl, hw3⟩
    have HN3 := Lib.hid (NdIs.more hw3.size _ _ (HN1.out.below hw3))
    have HB3 := Lib.hid (HB1.out.below hw3 HB1.out.lt)
    have HW3 := Lib.hid (nextB HW1.out hw3)
    clear hw3 HPR HN1 HB1 HW1
    go_wp2_with (with_reducible refine wpList_bytes_of _ rfl (.tmp 28) rfl _ rfl ?_; intro g c9 w4 hg1 hg2 hrow hb4)
    have HN4 := Lib.hid (NdIs.more hb4.size _ _ (HN3.out.below hb4))
    have HB4 := Lib.hid (HB3.out.below hb4 HB3.out.lt)
    have HW4 := Lib.hid (nextB HW3.out hb4)
    have HPC := HP2.out w4 _ c9 (BytesAt.of_row hg2 hrow)
    clear hg1 hg2 hrow hb4 HN3 HB3 HW3
    refine (HPC : Calls _ _ _ _ _).mono ?_; rintro e w5 ⟨d0, d1, d2, d3, d4, d5, d6, d7, d8, rfl, hn, hw5⟩
    clear HPC
    have hA : Below w5.heap.size w5 (w5.alloc (.cells #[.int .i64 d0, .int .i64 d1, .string d2, .slice d3 d4 d5, .slice d6 d7 d8] 27)) := (Below.refl _ _).alloc (Nat.le_refl _) _
    have hB5 := nextB hw5 hA
    have HM5 := Lib.hid (NdIs.more hA.size _ _ (hn.below hA))
    have HN5 := Lib.hid (NdIs.more hB5.size _ _ (HN4.out.below hB5))
    have HB5 := HB4.out.below hB5 HB4.out.lt
    have HW5 := Lib.hid (nextB HW4.out hB5)
    obtain ⟨x0, x1, x2, x3, x4⟩ := HB5.cells5
    clear hn hA hw5 hB5 HB5 HN4 HB4 HW4
    go_wp2_with fail
    refine (jnum_any _ _).mono ?_; rintro e w6 ⟨rfl, hw⟩; obtain rfl : _ = w6 := hw
    go_wp2_with fail
    have HS := Lib.hid (rSame_any n.count n n _ _ _ _ (Nat.le_refl _) HN5.out HM5.out (Nat.le_refl _))
    rw [sameN_refl] at HS
    refine (HS.out : Calls _ _ _ _ _).mono ?_; rintro e w7 ⟨rfl, hw7⟩
    have hW := nextB HW5.out hw7
    clear hw7 HS HN5 HM5 HW5 x0 x1 x2 x3 x4
    go_wp2_with (go_at_call 12; refine (awake7_any _).mono ?_; rintro e w8 ⟨rfl, hw1⟩; (first | replace hW := nextB hW hw1 | replace hW := nextA hW hw1 | replace hW := nextB hW.drew hw1 | replace hW := nextAA hW hw1 | replace hW := nextAD hW hw1); clear hw1)
    go_ret
    exact ⟨rfl, hW⟩
end Go.Proofs.Ytjigceoponlphaa
/-! JsonWhole: its walk. -/
namespace Go.Proofs.Ytjigceoponlphaa
open Go.RowKit Go.PlainAid
set_option linter.unusedVariables false
set_option linter.unusedSimpArgs false
theorem numTail_point (neg : Bool) (u : Nat) (c : UInt8) (z : List UInt8) (hc : c = 46 ∨ c = 101 ∨ c = 69) : numTail neg (Lib.decDigits u ++ c :: z) = none := by
  have hd : digB c = false := by rcases hc with rfl | rfl | rfl <;> decide
  obtain ⟨h1, h2⟩ := takeWhile_app (Lib.decDigits u) (c :: z) (dec_all u) (fun d hd' => by simp at hd'; subst hd'; exact hd)
  unfold numTail
  rw [h1, h2, if_pos]
  right; right; right; right
  rcases hc with rfl | rfl | rfl <;> rfl
theorem numL_point (n : Int) (c : UInt8) (z : List UInt8) (hc : c = 46 ∨ c = 101 ∨ c = 69) : numL (Lib.itoa n ++ c :: z) = none := by
  unfold numL Lib.itoa
  by_cases hn : n < 0
  · rw [if_pos hn]
    simp only [List.cons_append, List.head?_cons, if_true, List.tail_cons]
    exact numTail_point true _ c z hc
  · rw [if_neg hn]
    have hh : (Lib.decDigits n.toNat ++ c :: z).head? ≠ some 45 := by
      cases hq : Lib.decDigits n.toNat with
      | nil => exact absurd hq (decDigits_ne _)
      | cons d t =>
        have := dec_all n.toNat d (by rw [hq]; simp)
        intro e
        simp at e; subst e
        revert this; decide
    rw [if_neg hh]
    exact numTail_point false _ c z hc
theorem parse_numbad (l : List UInt8) (c : UInt8) (t : List UInt8) (hl : l = c :: t) (hc : c = 45 ∨ digB c = true) (hn : numL l = none) (hs : l.length ≤ 65536) : parseL l = .error 3 := by
  unfold parseL
  rw [if_neg (by omega), hl, blanks_ne t (dig_no hc).1, ← hl, valL_num 0 l c (by rw [hl]; rfl) hc, hn]
theorem parse_point (n : Int) (h0 : -9007199254740991 ≤ n) (h1 : n ≤ 9007199254740991) (c : UInt8) (z : List UInt8) (hc : c = 46 ∨ c = 101 ∨ c = 69) (hz : z.length ≤ 100) : parseL (Lib.itoa n ++ c :: z) = .error 3 := by
  obtain ⟨d, t, e1, e2⟩ := itoa_head n (c :: z)
  have := Lib.itoa_length_le n (by omega) (by omega)
  exact parse_numbad _ d t e1 e2 (numL_point n c z hc) (by simp; omega)
theorem parse_other (c : UInt8) (t : List UInt8) (hc : c = 43 ∨ c = 46) (hs : t.length ≤ 1000) : parseL (c :: t) = .error 3 := by
  have hb : blankB c = false := by rcases hc with rfl | rfl <;> decide
  have hd : digB c = false := by rcases hc with rfl | rfl <;> decide
  have h45 : c ≠ 45 := by rcases hc with rfl | rfl <;> decide
  have hn : numL (c :: t) = none := by
    unfold numL
    rw [if_neg (by simpa using h45)]
    unfold numTail
    rw [if_pos (.inl (by simp [List.takeWhile_cons, hd]))]
  have h1 : ∀ d : UInt8, c ≠ d → (c :: t).head? ≠ some d := fun d h e => by simp at e; exact h e
  have hne : ∀ d : UInt8, d ≠ 43 → d ≠ 46 → c ≠ d := fun d a b e => by rcases hc with rfl | rfl; exact a e.symm; exact b e.symm
  unfold parseL
  rw [if_neg (by simp; omega), blanks_ne t hb, valL_else 0 _ (h1 _ (hne _ (by decide) (by decide))) (h1 _ (hne _ (by decide) (by decide))) (h1 _ (hne _ (by decide) (by decide))),
    if_neg (fun e => h1 110 (hne _ (by decide) (by decide)) (take_head e)), if_neg (fun e => h1 102 (hne _ (by decide) (by decide)) (take_head e)), if_neg (fun e => h1 116 (hne _ (by decide) (by decide)) (take_head e)), hn]
/-- the texts that are no numbers -/
def bads (S : ByteArray) : List ByteArray := [S ++ ⟨#[46, 48]⟩, S ++ ⟨#[101, 49]⟩, (⟨#[43]⟩ : ByteArray) ++ S, ⟨#[48, 48]⟩, ⟨#[48, 49]⟩, ⟨#[45, 48]⟩, ⟨#[45]⟩,
  ⟨#[57, 48, 48, 55, 49, 57, 57, 50, 53, 52, 55, 52, 48, 57, 57, 50]⟩, ⟨#[45, 57, 48, 48, 55, 49, 57, 57, 50, 53, 52, 55, 52, 48, 57, 57, 50]⟩, ⟨#[49, 46]⟩, ⟨#[46, 49]⟩]
theorem bads_bad (n : Int) (h0 : -9007199254740991 ≤ n) (h1 : n ≤ 9007199254740991) (S : ByteArray) (hS : S.toList = Lib.itoa n) : ∀ X ∈ bads S, parseL X.toList = .error 3 := by
  intro X hX
  have hlen := Lib.itoa_length_le n (by omega) (by omega)
  have nb : ∀ (l : List UInt8) (c : UInt8) (t : List UInt8), l = c :: t → (c = 45 ∨ digB c = true) → numL l = none → l.length ≤ 100 → parseL l = .error 3 := fun l c t h1 h2 h3 h4 => parse_numbad l c t h1 h2 h3 (by omega)
  unfold bads at hX
  simp only [List.mem_cons, List.not_mem_nil, or_false] at hX
  rcases hX with rfl | rfl | rfl | rfl | rfl | rfl | rfl | rfl | rfl | rfl | rfl
  · rw [app_toList, hS, lit_toList [46, 48]]
    exact parse_point n h0 h1 46 [48] (by simp) (by simp)
  · rw [app_toList, hS, lit_toList [101, 49]]
    exact parse_point n h0 h1 101 [49] (by simp) (by simp)
  · rw [app_toList, hS, lit_toList [43]]
    exact parse_other 43 _ (by simp) (by show (Lib.itoa n).length ≤ 1000; omega)
  · rw [lit_toList [48, 48]]; exact nb _ 48 [48] rfl (.inr (by decide)) (by decide) (by simp)
  · rw [lit_toList [48, 49]]; exact nb _ 48 [49] rfl (.inr (by decide)) (by decide) (by simp)
  · rw [lit_toList [45, 48]]; exact nb _ 45 [48] rfl (.inl rfl) (by decide) (by simp)
  · rw [lit_toList [45]]; exact nb _ 45 [] rfl (.inl rfl) (by decide) (by simp)
  · rw [lit_toList [57, 48, 48, 55, 49, 57, 57, 50, 53, 52, 55, 52, 48, 57, 57, 50]]; exact nb _ 57 _ rfl (.inr (by decide)) (by decide +kernel) (by simp)
  · rw [lit_toList [45, 57, 48, 48, 55, 49, 57, 57, 50, 53, 52, 55, 52, 48, 57, 57, 50]]; exact nb _ 45 _ rfl (.inl rfl) (by decide +kernel) (by simp)
  · rw [lit_toList [49, 46]]; exact nb _ 49 [46] rfl (.inr (by decide)) (by decide) (by simp)
  · rw [lit_toList [46, 49]]; exact parse_other 46 [49] (by simp) (by simp)
theorem nds_plain (w : World) (B : Nat) (k n : Int) (t : ByteArray) (hk : I64 k) (hn : I64 n) (ht : t.size ≤ 1000000000) : NdIs w B (.mk k n t [] []) [.int .i64 k, .int .i64 n, .string t, .slice none 0 0, .slice none 0 0] :=
  NdIn.is (S := fun _ => False) (fun b hb => hb.elim) _ _ (nd_plain k n t hk hn ht)
theorem putU_num (n : Int) : putU (.mk 4 n ⟨#[]⟩ [] []) = Lib.itoa n := by
  unfold putU
  rw [if_neg (by omega), if_neg (by omega), if_neg (by omega), if_pos rfl]
set_option maxRecDepth 100000 in
set_option maxHeartbeats 4000000 in
theorem jsonWhole_walk (n : Int) (w0 : (Lit.int .i64 n).wf = true) (w : World) :
    Calls Try.prog 7 #[.int .i64 n] w fun e w' => e = .returned (.bool true) ∧ Below w.heap.size w w' := by
  have hr : -9223372036854775808 ≤ n ∧ n ≤ 9223372036854775807 := by
    simp [Lit.wf, IntKind.min, IntKind.max, IntKind.signed, IntKind.bits] at w0; omega
  obtain ⟨K, hK⟩ : ∃ K, K = n.tmod 9007199254740992 := ⟨_, rfl⟩
  have k0 : -9007199254740991 ≤ K := by rw [hK, Int.tmod_eq_emod]; split <;> omega
  have k1 : K ≤ 9007199254740991 := by rw [hK, Int.tmod_eq_emod]; split <;> omega
  have HK : Hid (n.tmod 9007199254740992 = K) := hK.symm
  have hlen := Lib.itoa_length_le K (by omega) (by omega)
  have hpu := putU_num K
  have hrt := right_num K k0 k1 0
  have hback := parse_put (.mk 4 K ⟨#[]⟩ [] []) hrt (by rw [hpu]; omega)
  rw [hpu] at hback
  have hW := Below.refl w.heap.size w
  have HPR : Hid (∀ (w' : World), Calls Try.prog 17 #[.agg #[.int .i64 4, .int .i64 K, .string ⟨#[]⟩, .slice none 0 0, .slice none 0 0]] w' (StrErr ⟨(Lib.itoa K).toArray⟩ 0 w')) := fun w' => by
    have := rprint_law (.mk 4 K ⟨#[]⟩ [] []) _ w' (nds_plain w' _ 4 K ⟨#[]⟩ (by unfold I64; omega) (by unfold I64; omega) (by decide)) hrt (by rw [hpu]; omega)
    rw [hpu] at this
    exact this
  have hS : (⟨(Lib.itoa K).toArray⟩ : ByteArray).toList = Lib.itoa K := lit_toList _
  have HB := Lib.hid (bads_bad K k0 k1 _ hS)
  have HP2 : Hid (∀ w' A c, BytesAt w' A c ⟨(Lib.itoa K).toArray⟩ → Calls Try.prog 13 #[.slice A (⟨(Lib.itoa K).toArray⟩ : ByteArray).size c] w' (PEnd (.ok (.mk 4 K ⟨#[]⟩ [] [])) w')) := fun w' A c hb => by
    have := parse_law ⟨(Lib.itoa K).toArray⟩ A c w' hb
    rw [hS, hback] at this
    exact this
  have hsz : (⟨(Lib.itoa K).toArray⟩ : ByteArray).size ≤ 21 := by show (Lib.itoa K).toArray.size ≤ 21; simpa using hlen
  generalize (⟨(Lib.itoa K).toArray⟩ : ByteArray) = S at *
  clear k0 k1 hr w0 hK hlen hpu hrt hback hS
  go_enter Try.func7, Try.ntmps7
  go_wp2_with fail
  rw [HK.out]
  refine (HPR.out _ : Calls _ _ _ _ _).mono ?_; rintro e w1 ⟨rfl, hw1⟩
  replace hW := nextB hW hw1
  clear hw1 HPR HK
  go_wp2_with (with_reducible refine wpList_bytes_of _ rfl (.tmp 21) rfl _ rfl ?_; intro g c9 w4 hg1 hg2 hrow hb4)
  have HPC := HP2.out w4 _ c9 (BytesAt.of_row hg2 hrow)
  replace hW := nextB hW hb4
  clear hg1 hg2 hrow hb4 HP2
  refine (HPC : Calls _ _ _ _ _).mono ?_; rintro e w5 ⟨c0, c1, c2, c3, c4, c5, c6, c7, c8, rfl, hn, hw5⟩
  replace hW := nextB hW hw5
  obtain ⟨hd0, hd1, hd2⟩ := hn.head
  simp at hd0 hd1 hd2
  subst hd0 hd1
  clear hd2
  have hA : Below w.heap.size w ((w5.alloc (.cells #[.int .i64 4, .int .i64 c1, .string c2, .slice c3 c4 c5, .slice c6 c7 c8] 27)).alloc (.cells #[.string (S ++ ⟨#[46, 48]⟩), .string (S ++ ⟨#[101, 49]⟩), .string ((⟨#[43]⟩ : ByteArray) ++ S), .string ⟨#[48, 48]⟩, .string ⟨#[48, 49]⟩, .string ⟨#[45, 48]⟩, .string ⟨#[45]⟩, .string ⟨#[57, 48, 48, 55, 49, 57, 57, 50, 53, 52, 55, 52, 48, 57, 57, 50]⟩, .string ⟨#[45, 57, 48, 48, 55, 49, 57, 57, 50, 53, 52, 55, 52, 48, 57, 57, 50]⟩, .string ⟨#[49, 46]⟩, .string ⟨#[46, 49]⟩] 9)) := (hW.alloc hW.size _).alloc (by have := hW.size; simp; omega) _
  have hB := Blk.new (w5.alloc (.cells #[.int .i64 4, .int .i64 c1, .string c2, .slice c3 c4 c5, .slice c6 c7 c8] 27)) 9 #[.string (S ++ ⟨#[46, 48]⟩), .string (S ++ ⟨#[101, 49]⟩), .string ((⟨#[43]⟩ : ByteArray) ++ S), .string ⟨#[48, 48]⟩, .string ⟨#[48, 49]⟩, .string ⟨#[45, 48]⟩, .string ⟨#[45]⟩, .string ⟨#[57, 48, 48, 55, 49, 57, 57, 50, 53, 52, 55, 52, 48, 57, 57, 50]⟩, .string ⟨#[45, 57, 48, 48, 55, 49, 57, 57, 50, 53, 52, 55, 52, 48, 57, 57, 50]⟩, .string ⟨#[49, 46]⟩, .string ⟨#[46, 49]⟩]
  rw [show (w5.alloc (.cells #[.int .i64 4, .int .i64 c1, .string c2, .slice c3 c4 c5, .slice c6 c7 c8] 27)).heap.size = w5.heap.size + 1 by simp] at hB
  have hB2 : Blk ((w5.alloc (.cells #[.int .i64 4, .int .i64 c1, .string c2, .slice c3 c4 c5, .slice c6 c7 c8] 27)).alloc (.cells #[.string (S ++ ⟨#[46, 48]⟩), .string (S ++ ⟨#[101, 49]⟩), .string ((⟨#[43]⟩ : ByteArray) ++ S), .string ⟨#[48, 48]⟩, .string ⟨#[48, 49]⟩, .string ⟨#[45, 48]⟩, .string ⟨#[45]⟩, .string ⟨#[57, 48, 48, 55, 49, 57, 57, 50, 53, 52, 55, 52, 48, 57, 57, 50]⟩, .string ⟨#[45, 57, 48, 48, 55, 49, 57, 57, 50, 53, 52, 55, 52, 48, 57, 57, 50]⟩, .string ⟨#[49, 46]⟩, .string ⟨#[46, 49]⟩] 9)) (w5.heap.size + 1) 9 ((bads S).map Value.string).toArray := hB
  have HA := Lib.hid hA
  have HBL := Lib.hid hB2
  clear HPC hw5 hn hA hB hB2
  go_wp2_with fail
  refine (jnum_any _ _).mono ?_; rintro e w6 ⟨rfl, hw⟩; obtain rfl : _ = w6 := hw
  go_wp2_with fail
  generalize ((w5.alloc (.cells #[.int .i64 4, .int .i64 c1, .string c2, .slice c3 c4 c5, .slice c6 c7 c8] 27)).alloc (.cells #[.string (S ++ ⟨#[46, 48]⟩), .string (S ++ ⟨#[101, 49]⟩), .string ((⟨#[43]⟩ : ByteArray) ++ S), .string ⟨#[48, 48]⟩, .string ⟨#[48, 49]⟩, .string ⟨#[45, 48]⟩, .string ⟨#[45]⟩, .string ⟨#[57, 48, 48, 55, 49, 57, 57, 50, 53, 52, 55, 52, 48, 57, 57, 50]⟩, .string ⟨#[45, 57, 48, 48, 55, 49, 57, 57, 50, 53, 52, 55, 52, 48, 57, 57, 50]⟩, .string ⟨#[49, 46]⟩, .string ⟨#[46, 49]⟩] 9)) = W2 at *
  have hlen : (bads S).length = 11 := rfl
  have HSZ := hsz
  clear hsz hW
  go_loopw [9] (fun t9 wr => ∃ i : Nat, i ≤ 11 ∧ t9 = .int .i64 i ∧ Hid (Blk wr (w5.heap.size + 1) 9 ((bads S).map Value.string).toArray) ∧ Hid (Below w.heap.size w wr)) (fun t9 _ => 11 - (intOf t9).toNat)
  case atStart => exact ⟨0, by omega, rfl, HBL, HA⟩
  case round =>
    obtain ⟨i, hi, rfl, hbl, hw⟩ := hrel
    by_cases hlt : i < 11
    · obtain ⟨X, hX⟩ : ∃ X, (bads S)[i]? = some X := ⟨_, List.getElem?_eq_getElem (by omega)⟩
      have hXm := List.mem_of_getElem? hX
      have hc : wr.cell? ⟨w5.heap.size + 1, i, none⟩ = some (.string X) := by
        rw [hbl.out.cell i]
        simp [hX]
      have HP : Hid (∀ w' A c, BytesAt w' A c X → Calls Try.prog 13 #[.slice A X.size c] w' (PEnd (.error 3) w')) := fun w' A c hb => by
        have := parse_law X A c w' hb
        rw [HB.out X hXm] at this
        exact this
      clear hX hXm
      go_wp2_with (with_reducible refine wpList_bytes_of _ rfl (.tmp 61) rfl _ rfl ?_; intro g c9 w4 hg1 hg2 hrow hb4)
      have HPC := HP.out w4 _ c9 (BytesAt.of_row hg2 hrow)
      have hbl4 := hbl.out.below hb4 hbl.out.lt
      have hw4 := nextB hw.out hb4
      clear hg1 hg2 hrow hb4 HP hbl hw hc
      refine (HPC : Calls _ _ _ _ _).mono ?_; rintro e w5 ⟨rfl, hw5⟩
      have hbl5 := Lib.hid ((hbl4.below hw5 hbl4.lt).alloc (.cells #[.int .i64 0, .int .i64 0, .string ⟨#[]⟩, .slice none 0 0, .slice none 0 0] 27))
      have hw6 := nextB hw4 hw5
      have hw7 := Lib.hid (hw6.alloc hw6.size (.cells #[.int .i64 0, .int .i64 0, .string ⟨#[]⟩, .slice none 0 0, .slice none 0 0] 27))
      clear HPC hw5 hbl4 hw4 hw6
      go_wp2_with fail
      refine (jnum_any _ _).mono ?_; rintro e w6 ⟨rfl, hw⟩; obtain rfl : _ = w6 := hw
      go_wp2_with fail
      go_roundw
      case rel => exact ⟨i + 1, by omega, by go_num, hbl5, hw7⟩
      case measure => simp [intOf]; omega
    · obtain rfl : i = 11 := by omega
      have hW := hw.out
      clear hw hbl
      go_wp2_with (go_at_call 12; refine (awake7_any _).mono ?_; rintro e w8 ⟨rfl, hw1⟩; (first | replace hW := nextB hW hw1 | replace hW := nextA hW hw1 | replace hW := nextB hW.drew hw1 | replace hW := nextAA hW hw1 | replace hW := nextAD hW hw1); clear hw1)
      go_ret
      exact ⟨rfl, hW⟩
end Go.Proofs.Ytjigceoponlphaa
/-! Plain laws of reading JSON: an object with two keys. -/
namespace Go.Proofs.Ytjigceoponlphaa
open Go.RowKit Go.PlainAid
set_option linter.unusedVariables false
set_option linter.unusedSimpArgs false
def num1 (n : Int) : Nd := .mk 4 n ⟨#[]⟩ [] []
theorem putU_num1 (n : Int) : putU (num1 n) = Lib.itoa n := by
  unfold num1 putU
  rw [if_neg (by omega), if_neg (by omega), if_neg (by omega), if_pos rfl]
theorem itoa_1 : Lib.itoa 1 = [49] := by
  show Lib.decDigits 1 = _
  rw [Lib.decDigits_one (by omega)]
  rfl
theorem itoa_2 : Lib.itoa 2 = [50] := by
  show Lib.decDigits 2 = _
  rw [Lib.decDigits_one (by omega)]
  rfl
theorem putU_obj (ks : List ByteArray) (ns : List Nd) : putU (.mk 7 0 ⟨#[]⟩ ks ns) = [123] ++ putL true ks ns true ++ [125] := by
  unfold putU
  rw [if_neg (by omega), if_neg (by omega), if_neg (by omega), if_neg (by omega), if_neg (by omega), if_neg (by omega)]
  rfl
theorem putU_arr (ns : List Nd) : putU (.mk 6 0 ⟨#[]⟩ [] ns) = [91] ++ putL false [] ns true ++ [93] := by
  unfold putU
  rw [if_neg (by omega), if_neg (by omega), if_neg (by omega), if_neg (by omega), if_neg (by omega), if_pos rfl]
  rfl
theorem putL_one (obj : Bool) (ks : List ByteArray) (n : Nd) : putL obj ks [n] true = (if obj = true then quoteU (ks.headD ⟨#[]⟩).toList ++ [58] else []) ++ putU n := by
  have h := putL_cons obj ks n [] []
  have e : putL obj ks.tail [] false ++ [] = [] := putL_nil _ _ _ _
  rw [List.append_nil, e, List.append_nil] at h
  exact h
theorem putL_two (obj : Bool) (ks : List ByteArray) (n m : Nd) : putL obj ks [n, m] true = (if obj = true then quoteU (ks.headD ⟨#[]⟩).toList ++ [58] else []) ++ (putU n ++ (44 :: ((if obj = true then quoteU (ks.tail.headD ⟨#[]⟩).toList ++ [58] else []) ++ putU m))) := by
  have h := putL_cons obj ks n [m] []
  have h2 := putL_more obj ks.tail m [] []
  rw [List.append_nil] at h h2
  rw [h, List.append_nil, h2, List.append_nil, putL_one]
def objTwo (a b : ByteArray) : Nd := .mk 7 0 ⟨#[]⟩ [a, b] [num1 1, num1 2]
def twoObj (a b : ByteArray) : Nd := .mk 6 0 ⟨#[]⟩ [] [.mk 7 0 ⟨#[]⟩ [a] [num1 1], .mk 7 0 ⟨#[]⟩ [b] [num1 2]]
theorem right_num1 (n : Int) (h0 : 0 ≤ n) (h1 : n ≤ 9) (deep : Int) : rightD (num1 n) deep = true := right_num n (by omega) (by omega) deep
theorem put_objTwo (a b : ByteArray) : putU (objTwo a b) = [123] ++ quoteU a.toList ++ [58, 49, 44] ++ quoteU b.toList ++ [58, 50, 125] := by
  unfold objTwo
  rw [putU_obj, putL_two, putU_num1, putU_num1, itoa_1, itoa_2]
  simp
theorem put_twoObj (a b : ByteArray) : putU (twoObj a b) = [91, 123] ++ quoteU a.toList ++ [58, 49, 125, 44, 123] ++ quoteU b.toList ++ [58, 50, 125, 93] := by
  unfold twoObj
  rw [putU_arr, putL_two, putU_obj, putU_obj, putL_one, putL_one, putU_num1, putU_num1, itoa_1, itoa_2]
  simp
theorem quote_le6 (t : List UInt8) : (quoteU t).length ≤ 2 + 6 * t.length := quoteU_le t
theorem parse_objTwo (a b : ByteArray) (ha : ValidP a.toList) (hb : ValidP b.toList) (hab : a ≠ b) (sa : a.size ≤ 300) (sb : b.size ≤ 300) : parseL ([123] ++ quoteU a.toList ++ [58, 49, 44] ++ quoteU b.toList ++ [58, 50, 125]) = .ok (objTwo a b) := by
  have h1 := quoteU_le a.toList
  have h2 := quoteU_le b.toList
  rw [tl_len'] at h1 h2
  rw [← put_objTwo]
  refine parse_put _ ?_ (by rw [put_objTwo]; simp only [List.length_append, List.length_cons, List.length_nil]; omega)
  unfold objTwo
  refine right_obj _ _ 0 (by omega) rfl (by simpa using hab) ?_ ?_
  · intro k hk
    simp at hk
    rcases hk with rfl | rfl
    · exact ha
    · exact hb
  · intro n hn
    simp at hn
    rcases hn with rfl | rfl
    · exact right_num1 1 (by omega) (by omega) _
    · exact right_num1 2 (by omega) (by omega) _
theorem parse_twoObj (a b : ByteArray) (ha : ValidP a.toList) (hb : ValidP b.toList) (sa : a.size ≤ 300) (sb : b.size ≤ 300) : parseL ([91, 123] ++ quoteU a.toList ++ [58, 49, 125, 44, 123] ++ quoteU b.toList ++ [58, 50, 125, 93]) = .ok (twoObj a b) := by
  have h1 := quoteU_le a.toList
  have h2 := quoteU_le b.toList
  rw [tl_len'] at h1 h2
  rw [← put_twoObj]
  refine parse_put _ ?_ (by rw [put_twoObj]; simp only [List.length_append, List.length_cons, List.length_nil]; omega)
  unfold twoObj
  have one : ∀ (k : ByteArray) (n : Int), ValidP k.toList → 0 ≤ n → n ≤ 9 → rightD (.mk 7 0 ⟨#[]⟩ [k] [num1 n]) (0 + 1) = true := fun k n hk h0 h1 =>
    right_obj _ _ _ (by omega) rfl (by simp) (by intro x hx; simp at hx; subst hx; exact hk) (by intro x hx; simp at hx; subst hx; exact right_num1 n h0 h1 _)
  refine right_arr _ 0 (by omega) ?_
  intro n hn
  simp at hn
  rcases hn with rfl | rfl
  · exact one a 1 ha (by omega) (by omega)
  · exact one b 2 hb (by omega) (by omega)
theorem parse_twice (a : ByteArray) (ha : ValidP a.toList) (sa : a.size ≤ 300) : parseL ([123] ++ quoteU a.toList ++ [58, 49, 44] ++ quoteU a.toList ++ [58, 50, 125]) = .error 5 := by
  have h1 := quoteU_le a.toList
  rw [tl_len'] at h1
  have hl : ([123] ++ quoteU a.toList ++ [58, 49, 44] ++ quoteU a.toList ++ [58, 50, 125]).length ≤ 65536 := by
    simp only [List.length_append, List.length_cons, List.length_nil]; omega
  have he : [123] ++ quoteU a.toList ++ [58, 49, 44] ++ quoteU a.toList ++ [58, 50, 125] = 123 :: (quoteU a.toList ++ (58 :: ([49] ++ (44 :: (quoteU a.toList ++ [58, 50, 125]))))) := by simp
  have hq : ∀ z, blanksL (quoteU a.toList ++ z) = quoteU a.toList ++ z := fun z => blanks_ne (c := 34) _ (by decide)
  have hn : valL 1 ([49] ++ (44 :: (quoteU a.toList ++ [58, 50, 125]))) = .ok (.mk 4 1 ⟨#[]⟩ [] [], 44 :: (quoteU a.toList ++ [58, 50, 125])) := by
    rw [← itoa_1, valL_num 1 _ 49 (by rw [itoa_1]; rfl) (.inr (by decide)), numL_itoa 1 _ (numEnd_sep 44 _ (by simp)) (by omega) (by omega)]
  unfold parseL
  rw [if_neg (by omega), he, blanks_ne _ (by decide), valL_obj 0 _ rfl (by omega), List.tail_cons, hq, if_neg (by rw [quoteU_head]; simp), objL_eq, hq, textL_quote _ ha]
  simp only
  rw [if_neg (by simp), blanks_ne _ (by decide), if_pos (by simp), List.tail_cons]
  rw [show blanksL ([49] ++ (44 :: (quoteU a.toList ++ [58, 50, 125]))) = [49] ++ (44 :: (quoteU a.toList ++ [58, 50, 125])) from blanks_ne (c := 49) _ (by decide), hn]
  simp only
  rw [blanks_ne _ (by decide), if_neg (by simp), if_pos (by simp), List.tail_cons, objL_eq, hq, textL_quote _ ha]
  simp only
  rw [if_pos]
  rw [mk_toList]
  simp
end Go.Proofs.Ytjigceoponlphaa
/-! JsonTwice: its walk. -/
namespace Go.Proofs.Ytjigceoponlphaa
open Go.RowKit Go.PlainAid
set_option linter.unusedVariables false
set_option linter.unusedSimpArgs false
theorem right_text (a : ByteArray) : rightD (.mk 5 0 a [] []) 0 = validB a.toList := by
  unfold rightD rightN bareF
  simp
theorem putU_text (a : ByteArray) : putU (.mk 5 0 a [] []) = quoteU a.toList := by
  unfold putU
  rw [if_neg (by omega), if_neg (by omega), if_neg (by omega), if_neg (by omega), if_pos rfl]
theorem print_text (a : ByteArray) (sa : a.size ≤ 300) (w : World) : ∃ S E, ((validB a.toList = true ∧ S = ⟨(quoteU a.toList).toArray⟩ ∧ E = 0) ∨ (validB a.toList = false ∧ E = 1)) ∧
    ∀ w', Calls Try.prog 17 #[.agg #[.int .i64 5, .int .i64 0, .string a, .slice none 0 0, .slice none 0 0]] w' (StrErr S E w') := by
  have hq := quoteU_le a.toList
  rw [tl_len'] at hq
  refine ⟨printS (.mk 5 0 a [] []), printE (.mk 5 0 a [] []), ?_, fun w' => ?_⟩
  · rw [printS_eq, printE_eq, right_text, putU_text]
    cases validB a.toList with
    | true =>
      left
      rw [if_neg (by simp), if_neg (by omega), if_neg (by simp), if_neg (by omega)]
      exact ⟨rfl, rfl, rfl⟩
    | false => exact .inr ⟨rfl, by rw [if_pos rfl]⟩
  · refine rPrint_any (.mk 5 0 a [] []) _ w' w'.heap.size (nds_plain w' _ 5 0 a (by unfold I64; omega) (by unfold I64; omega) (by omega)) (Nat.le_refl _) (fun _ => ?_) ?_
    · unfold goodN goodL
      exact ⟨by omega, by omega, by omega, by simp, trivial⟩
    · unfold gN gL; omega
set_option maxRecDepth 100000 in
set_option maxHeartbeats 1000000 in
theorem jsonTwice_walk (a b : ByteArray) (w0 : a.size ≤ maxLen) (w1 : b.size ≤ maxLen) (w : World) :
    Calls Try.prog 8 #[.string a, .string b] w fun e w' => e = .returned (.bool true) ∧ Below w.heap.size w w' := by
  have hW := Below.refl w.heap.size w
  by_cases la : a.size ≤ 300
  case neg =>
    have lai : (300 : Int) < (a.size : Int) := by omega
    go_enter Try.func8, Try.ntmps8
    go_wp2_with (go_at_call 12; refine (awake7_any _).mono ?_; rintro e w1 ⟨rfl, hw1⟩; (first | replace hW := nextB hW hw1 | replace hW := nextA hW hw1 | replace hW := nextB hW.drew hw1 | replace hW := nextAA hW hw1 | replace hW := nextAD hW hw1); clear hw1)
    go_ret
    exact ⟨rfl, hW⟩
  have lai : ¬ (300 : Int) < (a.size : Int) := by omega
  by_cases lb : b.size ≤ 300
  case neg =>
    have lbi : (300 : Int) < (b.size : Int) := by omega
    go_enter Try.func8, Try.ntmps8
    go_wp2_with (go_at_call 12; refine (awake7_any _).mono ?_; rintro e w1 ⟨rfl, hw1⟩; (first | replace hW := nextB hW hw1 | replace hW := nextA hW hw1 | replace hW := nextB hW.drew hw1 | replace hW := nextAA hW hw1 | replace hW := nextAD hW hw1); clear hw1)
    go_ret
    exact ⟨rfl, hW⟩
  have lbi : ¬ (300 : Int) < (b.size : Int) := by omega
  obtain ⟨X, E, hX, hPA⟩ := print_text a la w
  obtain ⟨Y, F, hY, hPB⟩ := print_text b lb w
  have HPA := Lib.hid hPA
  have HPB := Lib.hid hPB
  clear hPA hPB
  have both : E ≠ 0 ∨ F ≠ 0 → Calls Try.prog 8 #[.string a, .string b] w fun e w' => e = .returned (.bool true) ∧ Below w.heap.size w w' := by
    intro h
    clear hX hY
    by_cases hE : E = 0
    · have hF : ¬ F = 0 := by rcases h with h | h; exact absurd hE h; exact h
      clear h
      go_enter Try.func8, Try.ntmps8
      go_wp2_with fail
      refine (HPA.out _ : Calls _ _ _ _ _).mono ?_; rintro e w1 ⟨rfl, hw1⟩
      replace hW := nextB hW hw1; clear hw1
      go_wp2_with fail
      refine (HPB.out _ : Calls _ _ _ _ _).mono ?_; rintro e w2 ⟨rfl, hw1⟩
      replace hW := nextB hW hw1; clear hw1
      go_wp2_with (go_at_call 12; refine (awake7_any _).mono ?_; rintro e w1 ⟨rfl, hw1⟩; (first | replace hW := nextB hW hw1 | replace hW := nextA hW hw1 | replace hW := nextB hW.drew hw1 | replace hW := nextAA hW hw1 | replace hW := nextAD hW hw1); clear hw1)
      go_ret
      exact ⟨rfl, hW⟩
    · clear h
      go_enter Try.func8, Try.ntmps8
      go_wp2_with fail
      refine (HPA.out _ : Calls _ _ _ _ _).mono ?_; rintro e w1 ⟨rfl, hw1⟩
      replace hW := nextB hW hw1; clear hw1
      go_wp2_with fail
      refine (HPB.out _ : Calls _ _ _ _ _).mono ?_; rintro e w2 ⟨rfl, hw1⟩
      replace hW := nextB hW hw1; clear hw1
      go_wp2_with (go_at_call 12; refine (awake7_any _).mono ?_; rintro e w1 ⟨rfl, hw1⟩; (first | replace hW := nextB hW hw1 | replace hW := nextA hW hw1 | replace hW := nextB hW.drew hw1 | replace hW := nextAA hW hw1 | replace hW := nextAD hW hw1); clear hw1)
      go_ret
      exact ⟨rfl, hW⟩
  rcases hX with ⟨va, hX, rfl⟩ | ⟨va, rfl⟩
  case inr => exact both (.inl (by omega))
  rcases hY with ⟨vb, hY, rfl⟩ | ⟨vb, rfl⟩
  case inr => exact both (.inr (by omega))
  clear both
  have va := (validB_iff _).1 va
  have vb := (validB_iff _).1 vb
  have hxl : X.toList = quoteU a.toList := by rw [hX, lit_toList]
  have hyl : Y.toList = quoteU b.toList := by rw [hY, lit_toList]
  have sx : X.size ≤ 2000 := by have := quoteU_le a.toList; rw [← tl_len', hxl]; rw [tl_len'] at this; omega
  have sy : Y.size ≤ 2000 := by have := quoteU_le b.toList; rw [← tl_len', hyl]; rw [tl_len'] at this; omega
  have e1 : ((((⟨#[123]⟩ : ByteArray) ++ X) ++ ⟨#[58, 49, 44]⟩ ++ Y) ++ ⟨#[58, 50, 125]⟩).toList = [123] ++ quoteU a.toList ++ [58, 49, 44] ++ quoteU b.toList ++ [58, 50, 125] := by
    rw [app_toList, app_toList, app_toList, app_toList, hxl, hyl, lit_toList [123], lit_toList [58, 49, 44], lit_toList [58, 50, 125]]
  have e2 : ((((⟨#[91, 123]⟩ : ByteArray) ++ X) ++ ⟨#[58, 49, 125, 44, 123]⟩ ++ Y) ++ ⟨#[58, 50, 125, 93]⟩).toList = [91, 123] ++ quoteU a.toList ++ [58, 49, 125, 44, 123] ++ quoteU b.toList ++ [58, 50, 125, 93] := by
    rw [app_toList, app_toList, app_toList, app_toList, hxl, hyl, lit_toList [91, 123], lit_toList [58, 49, 125, 44, 123], lit_toList [58, 50, 125, 93]]
  have HP2 : Hid (∀ w' A c (n : Nat), n = ((((⟨#[91, 123]⟩ : ByteArray) ++ X) ++ ⟨#[58, 49, 125, 44, 123]⟩ ++ Y) ++ ⟨#[58, 50, 125, 93]⟩).size → BytesAt w' A c ((((⟨#[91, 123]⟩ : ByteArray) ++ X) ++ ⟨#[58, 49, 125, 44, 123]⟩ ++ Y) ++ ⟨#[58, 50, 125, 93]⟩) → Calls Try.prog 13 #[.slice A n c] w' (PEnd (.ok (twoObj a b)) w')) := fun w' A c n hn hb => by
    subst hn
    have := parse_law _ A c w' hb
    rw [e2, parse_twoObj a b va vb la lb] at this
    exact this
  have z1 : (⟨#[123]⟩ : ByteArray).size = 1 := rfl
  have z2 : (⟨#[58, 49, 44]⟩ : ByteArray).size = 3 := rfl
  have z3 : (⟨#[58, 50, 125]⟩ : ByteArray).size = 3 := rfl
  have z4 : (⟨#[91, 123]⟩ : ByteArray).size = 2 := rfl
  have z5 : (⟨#[58, 49, 125, 44, 123]⟩ : ByteArray).size = 5 := rfl
  have z6 : (⟨#[58, 50, 125, 93]⟩ : ByteArray).size = 4 := rfl
  by_cases hab : a = b
  · subst hab
    have HP1 : Hid (∀ w' A c (n : Nat), n = ((((⟨#[123]⟩ : ByteArray) ++ X) ++ ⟨#[58, 49, 44]⟩ ++ Y) ++ ⟨#[58, 50, 125]⟩).size → BytesAt w' A c ((((⟨#[123]⟩ : ByteArray) ++ X) ++ ⟨#[58, 49, 44]⟩ ++ Y) ++ ⟨#[58, 50, 125]⟩) → Calls Try.prog 13 #[.slice A n c] w' (PEnd (.error 5) w')) := fun w' A c n hn hb => by
      subst hn
      have := parse_law _ A c w' hb
      rw [e1, parse_twice a va la] at this
      exact this
    have hcmp : (a.toList == a.toList) = true := by simp
    clear e1 e2 hX hY hxl hyl va vb la lb
    go_enter Try.func8, Try.ntmps8
    go_wp2_with fail
    refine (HPA.out _ : Calls _ _ _ _ _).mono ?_; rintro e w1 ⟨rfl, hw1⟩
    replace hW := nextB hW hw1; clear hw1
    go_wp2_with fail
    refine (HPB.out _ : Calls _ _ _ _ _).mono ?_; rintro e w2 ⟨rfl, hw1⟩
    replace hW := nextB hW hw1; clear hw1 HPA HPB
    go_wp2_with (with_reducible refine wpList_bytes_of _ rfl (.tmp 47) rfl _ rfl ?_; intro g c9 w4 hg1 hg2 hrow hb4)
    have HPC := HP1.out w4 (some ⟨g, 0, none⟩) c9
    replace hW := nextB hW hb4
    have hby := BytesAt.of_row (c := c9) hg2 hrow
    clear hg1 hg2 hrow hb4 HP1
    refine (HPC _ (by simp [ByteArray.size_append]; try omega) hby : Calls _ _ _ _ _).mono ?_; rintro e w5 ⟨rfl, hw5⟩
    replace hW := nextB hW hw5
    replace hW := Below.alloc hW hW.size (.cells #[.int .i64 0, .int .i64 0, .string ⟨#[]⟩, .slice none 0 0, .slice none 0 0] 27)
    clear HPC hby hw5
    go_wp2_with (with_reducible refine wpList_bytes_of _ rfl (.tmp 58) rfl _ rfl ?_; intro g c9 w4 hg1 hg2 hrow hb4)
    have HPC := HP2.out w4 (some ⟨g, 0, none⟩) c9
    replace hW := nextB hW hb4
    have hby := BytesAt.of_row (c := c9) hg2 hrow
    clear hg1 hg2 hrow hb4 HP2
    refine (HPC _ (by simp [ByteArray.size_append]; try omega) hby : Calls _ _ _ _ _).mono ?_; rintro e w5 ⟨c0, c1, c2, c3, c4, c5, c6, c7, c8, rfl, hn, hw5⟩
    replace hW := nextB hW hw5
    clear HPC hby hw5 hn z1 z2 z3 z4 z5 z6 sx sy
    go_wp2_with (first
      | (go_at_call 16; refine (jnum_any _ _).mono ?_; rintro e w6 ⟨rfl, hw⟩; obtain rfl : _ = w6 := hw)
      | (go_at_call 12; refine (awake7_any _).mono ?_; rintro e w8 ⟨rfl, hw1⟩; (first | replace hW := nextB hW hw1 | replace hW := nextA hW hw1 | replace hW := nextB hW.drew hw1 | replace hW := nextAA hW hw1 | replace hW := nextAD hW hw1); clear hw1))
    go_ret
    exact ⟨rfl, hW⟩
  · have HP1 : Hid (∀ w' A c (n : Nat), n = ((((⟨#[123]⟩ : ByteArray) ++ X) ++ ⟨#[58, 49, 44]⟩ ++ Y) ++ ⟨#[58, 50, 125]⟩).size → BytesAt w' A c ((((⟨#[123]⟩ : ByteArray) ++ X) ++ ⟨#[58, 49, 44]⟩ ++ Y) ++ ⟨#[58, 50, 125]⟩) → Calls Try.prog 13 #[.slice A n c] w' (PEnd (.ok (objTwo a b)) w')) := fun w' A c n hn hb => by
      subst hn
      have := parse_law _ A c w' hb
      rw [e1, parse_objTwo a b va vb hab la lb] at this
      exact this
    have hcmp : (a.toList == b.toList) = false := by
      rw [beq_eq_false_iff_ne]
      intro e
      exact hab (ba_ext' e)
    clear e1 e2 hX hY hxl hyl va vb la lb
    go_enter Try.func8, Try.ntmps8
    go_wp2_with fail
    refine (HPA.out _ : Calls _ _ _ _ _).mono ?_; rintro e w1 ⟨rfl, hw1⟩
    replace hW := nextB hW hw1; clear hw1
    go_wp2_with fail
    refine (HPB.out _ : Calls _ _ _ _ _).mono ?_; rintro e w2 ⟨rfl, hw1⟩
    replace hW := nextB hW hw1; clear hw1 HPA HPB
    go_wp2_with (with_reducible refine wpList_bytes_of _ rfl (.tmp 47) rfl _ rfl ?_; intro g c9 w4 hg1 hg2 hrow hb4)
    have HPC := HP1.out w4 (some ⟨g, 0, none⟩) c9
    replace hW := nextB hW hb4
    have hby := BytesAt.of_row (c := c9) hg2 hrow
    clear hg1 hg2 hrow hb4 HP1
    refine (HPC _ (by simp [ByteArray.size_append]; try omega) hby : Calls _ _ _ _ _).mono ?_; rintro e w5 ⟨c0, c1, c2, c3, c4, c5, c6, c7, c8, rfl, hn, hw5⟩
    replace hW := nextB hW hw5
    replace hW := Below.alloc hW hW.size (.cells #[.int .i64 c0, .int .i64 c1, .string c2, .slice c3 c4 c5, .slice c6 c7 c8] 27)
    clear HPC hby hw5 hn
    go_wp2_with (with_reducible refine wpList_bytes_of _ rfl (.tmp 58) rfl _ rfl ?_; intro g c9 w4 hg1 hg2 hrow hb4)
    have HPC := HP2.out w4 (some ⟨g, 0, none⟩) c9
    replace hW := nextB hW hb4
    have hby := BytesAt.of_row (c := c9) hg2 hrow
    clear hg1 hg2 hrow hb4 HP2
    refine (HPC _ (by simp [ByteArray.size_append]; try omega) hby : Calls _ _ _ _ _).mono ?_; rintro e w5 ⟨c0, c1, c2, c3, c4, c5, c6, c7, c8, rfl, hn, hw5⟩
    replace hW := nextB hW hw5
    clear HPC hby hw5 hn z1 z2 z3 z4 z5 z6 sx sy
    go_wp2_with (first
      | (go_at_call 16; refine (jnum_any _ _).mono ?_; rintro e w6 ⟨rfl, hw⟩; obtain rfl : _ = w6 := hw)
      | (go_at_call 12; refine (awake7_any _).mono ?_; rintro e w8 ⟨rfl, hw1⟩; (first | replace hW := nextB hW hw1 | replace hW := nextA hW hw1 | replace hW := nextB hW.drew hw1 | replace hW := nextAA hW hw1 | replace hW := nextAD hW hw1); clear hw1))
    go_ret
    exact ⟨rfl, hW⟩
end Go.Proofs.Ytjigceoponlphaa
/-! JsonLong: its walk. -/
namespace Go.Proofs.Ytjigceoponlphaa
open Go.RowKit Go.PlainAid
set_option linter.unusedVariables false
set_option linter.unusedSimpArgs false
/-- the bytes of a row -/
def rowS (n : Nat) (f : Nat → Int) : ByteArray := strOfNums ((List.range n).map f)
theorem rowS_size (n : Nat) (f : Nat → Int) : (rowS n f).size = n := by unfold rowS; rw [strOfNums_size]; simp
theorem rowS_bt (n : Nat) (f : Nat → Int) (hf : ∀ i, 0 ≤ f i ∧ f i ≤ 255) (i : Nat) (hi : i < n) : bt (rowS n f) i = f i := by
  have e : ((List.range n).map f).getD i 0 = f i := by simp [List.getD, hi]
  unfold rowS
  rw [bt_nums _ i (by simpa using hi) (by rw [e]; exact (hf i).1) (by rw [e]; exact (hf i).2), e]
theorem BytesAt.of_rowF {w : World} {g n c : Nat} {f : Nat → Int} (hf : ∀ i, 0 ≤ f i ∧ f i ≤ 255) (hg : g < w.heap.size) (h : RowF w g n f) (m : Nat) (hm : m ≤ n) : BytesAt w (some ⟨g, 0, none⟩) c (rowS m f) :=
  BytesAt.of_cells (fun _ => hg) (fun i hi => by
    rw [rowS_size] at hi
    rw [Nat.zero_add, (h i (by omega)).1, rowS_bt m f hf i hi])
def longF (j : Nat) : Int := if j = 0 then 49 else 32
theorem longF_ok (i : Nat) : 0 ≤ longF i ∧ longF i ≤ 255 := by unfold longF; split <;> omega
theorem long_list (n : Nat) : (rowS (n + 1) longF).toList = 49 :: List.replicate n 32 := by
  unfold rowS
  rw [nums_toList, List.map_map, List.range_succ_eq_map, List.map_cons, List.map_map]
  have e : (List.range n).map (((fun n : Int => UInt8.ofNat n.toNat) ∘ longF) ∘ Nat.succ) = List.replicate n 32 := by
    rw [List.eq_replicate_iff]
    refine ⟨by simp, fun b hb => ?_⟩
    obtain ⟨i, _, rfl⟩ := List.mem_map.1 hb
    rfl
  rw [e]
  rfl
theorem parse_long (n : Nat) (hn : n ≤ 65535) : parseL (49 :: List.replicate n 32) = .ok (num1 1) := by
  have h := parse_blanks [] [49] (List.replicate n 32) (fun c hc => by simp at hc) (fun c hc => by rw [List.eq_of_mem_replicate hc]; decide) (by simp; omega)
  have h2 := parse_put (num1 1) (right_num1 1 (by omega) (by omega) 0) (by rw [putU_num1, itoa_1]; simp)
  rw [putU_num1, itoa_1] at h2
  rw [List.nil_append] at h
  exact h.trans h2
theorem parse_too (l : List UInt8) (h : 65536 < l.length) : parseL l = .error 2 := by
  unfold parseL
  rw [if_pos h]
theorem RowF.of_zero {w : World} {B g n : Nat} (h : w.ownsRow B 5 1 (.slice (some ⟨g, 0, none⟩) n n) n (List.replicate n (.int .u8 0))) (hn : 0 < n) : RowF w g n (fun _ => 0) ∧ g < w.heap.size := by
  rcases h.2 with ⟨h1, _⟩ | ⟨g', cap, cur, hv, _, hg, _, _, _, htake⟩
  · cases h1
  · injection hv with e1 _ _
    injection e1 with e1
    injection e1 with e1
    subst e1
    refine ⟨fun j hj => ?_, (Array.getElem?_eq_some_iff.1 hg).1⟩
    have hb : Blk w g 5 cur := hg
    refine ⟨?_, hb.frozen j⟩
    rw [hb.cell j]
    have : (cur.toList.take (n * 1))[j]? = some (.int .u8 0) := by rw [htake]; simp [hj]
    rw [List.getElem?_take, if_pos (by omega)] at this
    simpa using this
theorem RowF.below {w w' : World} {g n : Nat} {f : Nat → Int} (h : RowF w g n f) (hg : g < w.heap.size) (hb : Below w.heap.size w w') : RowF w' g n f := fun j hj => by
  obtain ⟨h1, h2⟩ := h j hj
  refine ⟨by rw [hb.cell (by exact hg)]; exact h1, ?_⟩
  have := hb.block g hg
  unfold World.frozen? at h2 ⊢
  rw [this]
  exact h2
set_option maxRecDepth 100000 in
set_option maxHeartbeats 2000000 in
theorem jsonLong_walk (c : Int) (w0 : (Lit.int .u8 c).wf = true) (w : World) :
    Calls Try.prog 10 #[.int .u8 c] w fun e w' => e = .returned (.bool true) ∧ Below w.heap.size w w' := by
  have hc : 0 ≤ c ∧ c ≤ 255 := by
    simp [Lit.wf, IntKind.min, IntKind.max, IntKind.signed, IntKind.bits] at w0; omega
  clear w0
  obtain ⟨i0, hi0, hz0, hz1, hz2⟩ := info_parts u8Info
  obtain ⟨w1, hmk, own, hgr⟩ := run_make_full (P := Try.prog) w w.heap.size 22 5 i0 _ 1 Try.underlying22 hi0 hz0 hz1 .i64 .i64 65537 (by rw [hz2]; omega) (by simp only [maxLen]; omega) (Nat.le_refl _)
  rw [show (Value.int IntKind.u8 0).cells = #[.int .u8 0] from rfl, toList_madeCells_one] at own
  obtain ⟨hrow, hgl⟩ := RowF.of_zero own (by omega)
  have hW : Below w.heap.size w w1 := (Below.refl _ _).grown hgr (Nat.le_refl _) (fun k hk => by cases hk)
  obtain ⟨N, hN⟩ : ∃ N : Nat, N = 65537 := ⟨_, rfl⟩
  have hmk' : (Instr.makeSlice 22 (.int .i64 65537) (.int .i64 65537)).run Try.prog w = .ok (.slice (some ⟨w.heap.size, 0, none⟩) N N) w1 := by rw [hN]; exact hmk
  rw [← hN] at hrow
  have HN := Lib.hid hN
  have hN0 : 2 ≤ N := by omega
  have hN1 : 65536 ≤ N := by omega
  have hN2 : N ≤ 100000 := by omega
  clear hN
  have HROW := Lib.hid hrow
  have HW := Lib.hid hW
  clear hi0 hz0 hz1 hz2 hmk own hgr hrow hW
  go_enter Try.func10, Try.ntmps10
  go_wp2_with fail
  clear hmk'
  go_loopw [4] (fun t4 wr => ∃ k : Nat, k ≤ N ∧ t4 = .int .i64 k ∧ Hid (RowF wr w.heap.size N (fun j => if j < k then 32 else 0)) ∧ Hid (Below w.heap.size w wr) ∧ w.heap.size < wr.heap.size) (fun t4 _ => N - (intOf t4).toNat)
  case atStart => exact ⟨0, by omega, rfl, HROW.out.congr fun j _ => by rw [if_neg (by omega)], HW, hgl⟩
  case round =>
    obtain ⟨k, hk, rfl, hrow, hw, hlt0⟩ := hrel
    by_cases hlt : k < N
    · obtain ⟨q1, q2⟩ := hrow.out k hlt
      have q3 : wr.cell? ⟨w.heap.size, k, none⟩ = some (.int .u8 0) := by rw [q1]; dsimp only; rw [if_neg (by omega)]
      have n1 : Hid (RowF (wr.setCell ⟨w.heap.size, k, none⟩ (.int .u8 32)) w.heap.size N (fun j => if j < k + 1 then 32 else 0)) := (hrow.out.set k 32).congr fun j _ => by
        by_cases e : j = k
        · rw [if_pos e, if_pos (by omega)]
        · rw [if_neg e]
          by_cases h : j < k
          · rw [if_pos h, if_pos (by omega)]
          · rw [if_neg h, if_neg (by omega)]
      have n2 : Hid (Below w.heap.size w (wr.setCell ⟨w.heap.size, k, none⟩ (.int .u8 32))) := hw.out.setCell (p := ⟨w.heap.size, k, none⟩) (Nat.le_refl _) _
      clear q1
      go_wp2_with fail
      go_roundw
      case rel => exact ⟨k + 1, by omega, by go_num, n1, n2, by simpa using hlt0⟩
      case measure => simp [intOf]; omega
    · have hkN : k = N := by omega
      subst hkN
      obtain ⟨N, hNN⟩ : ∃ N, N = k := ⟨_, rfl⟩
      subst hNN
      obtain ⟨q1, q2⟩ := hrow.out 0 (by omega)
      have n1 : Hid (RowF (wr.setCell ⟨w.heap.size, 0, none⟩ (.int .u8 49)) w.heap.size N longF) := (hrow.out.set 0 49).congr fun j hj => by
        unfold longF
        by_cases e : j = 0
        · rw [if_pos e, if_pos e]
        · rw [if_neg e, if_neg e, if_pos hj]
      have n2 : Hid (Below w.heap.size w (wr.setCell ⟨w.heap.size, 0, none⟩ (.int .u8 49))) := hw.out.setCell (p := ⟨w.heap.size, 0, none⟩) (Nat.le_refl _) _
      have n3 : w.heap.size < (wr.setCell ⟨w.heap.size, 0, none⟩ (.int .u8 49)).heap.size := by simpa using hlt0
      dsimp only at q1
      rw [if_pos (by omega)] at q1
      have hsz : (rowS 65536 longF).size = 65536 := rowS_size _ _
      have hpl : parseL (rowS 65536 longF).toList = .ok (num1 1) := by
        rw [long_list 65535]; exact parse_long 65535 (by omega)
      have HP : Hid (∀ w' A c, BytesAt w' A c (rowS 65536 longF) → Calls Try.prog 13 #[.slice A 65536 c] w' (PEnd (.ok (num1 1)) w')) := fun w' A c hb => by
        have := parse_law _ A c w' hb
        rw [hpl, hsz] at this
        exact this
      have HP2 : Hid (∀ (f : Nat → Int) w' A c, BytesAt w' A c (rowS N f) → Calls Try.prog 13 #[.slice A N c] w' (PEnd (.error 2) w')) := fun f w' A c hb => by
        have := parse_law _ A c w' hb
        rw [parse_too _ (by rw [tl_len', rowS_size]; have := HN.out; omega), rowS_size] at this
        exact this
      clear hrow hw hpl hsz hlt0
      go_wp2_with fail
      generalize (wr.setCell ⟨w.heap.size, 0, none⟩ (.int .u8 49)) = W2 at *
      clear q1 q2
      have hp := HP.out W2 (some ⟨w.heap.size, 0, none⟩) N (BytesAt.of_rowF longF_ok n3 n1.out 65536 (by omega))
      refine (hp : Calls _ _ _ _ _).mono ?_; rintro e w5 ⟨c0, c1, c2, c3, c4, c5, c6, c7, c8, rfl, hn, hw5⟩
      have hA : Below W2.heap.size W2 (w5.alloc (.cells #[.int .i64 c0, .int .i64 c1, .string c2, .slice c3 c4 c5, .slice c6 c7 c8] 27)) := hw5.alloc hw5.size _
      have n4 := Lib.hid (n1.out.below n3 hA)
      have n5 := Lib.hid (nextB n2.out hA)
      have n6 := Nat.lt_of_lt_of_le n3 hA.size
      obtain ⟨q1, q2⟩ := n4.out 1 (by omega)
      have n7 : Hid (RowF ((w5.alloc (.cells #[.int .i64 c0, .int .i64 c1, .string c2, .slice c3 c4 c5, .slice c6 c7 c8] 27)).setCell ⟨w.heap.size, 1, none⟩ (.int .u8 c)) w.heap.size N (fun j => if j = 1 then c else longF j)) := n4.out.set 1 c
      have n8 : Hid (Below w.heap.size w ((w5.alloc (.cells #[.int .i64 c0, .int .i64 c1, .string c2, .slice c3 c4 c5, .slice c6 c7 c8] 27)).setCell ⟨w.heap.size, 1, none⟩ (.int .u8 c))) := n5.out.setCell (p := ⟨w.heap.size, 1, none⟩) (Nat.le_refl _) _
      have n9 : w.heap.size < ((w5.alloc (.cells #[.int .i64 c0, .int .i64 c1, .string c2, .slice c3 c4 c5, .slice c6 c7 c8] 27)).setCell ⟨w.heap.size, 1, none⟩ (.int .u8 c)).heap.size := by simpa using n6
      have hfc : ∀ i, 0 ≤ (fun j => if j = 1 then c else longF j) i ∧ (fun j => if j = 1 then c else longF j) i ≤ 255 := fun i => by
        dsimp only
        split
        · exact hc
        · exact longF_ok i
      have HFC := Lib.hid hfc
      clear hp hn hw5 hA n1 n2 n3 n4 n5 n6 HP hfc
      go_wp2_with fail
      generalize ((w5.alloc (.cells #[.int .i64 c0, .int .i64 c1, .string c2, .slice c3 c4 c5, .slice c6 c7 c8] 27)).setCell ⟨w.heap.size, 1, none⟩ (.int .u8 c)) = W3 at *
      clear q1 q2
      have hp := HP2.out _ W3 (some ⟨w.heap.size, 0, none⟩) N (BytesAt.of_rowF HFC.out n9 n7.out N (by omega))
      refine (hp : Calls _ _ _ _ _).mono ?_; rintro e w6 ⟨rfl, hw6⟩
      have hW := nextB n8.out hw6
      clear hp hw6 n7 n8 n9 HP2 HFC
      go_wp2_with (first
        | (go_at_call 16; refine (jnum_any _ _).mono ?_; rintro e w6 ⟨rfl, hw⟩; obtain rfl : _ = w6 := hw)
        | (go_at_call 12; refine (awake7_any _).mono ?_; rintro e w8 ⟨rfl, hw1⟩; (first | replace hW := nextB hW hw1 | replace hW := nextA hW hw1 | replace hW := nextB hW.drew hw1 | replace hW := nextAA hW hw1 | replace hW := nextAD hW hw1); clear hw1))
      go_ret
      exact ⟨rfl, hW⟩
end Go.Proofs.Ytjigceoponlphaa
/-! Plain laws of reading JSON: a code point told by its digits. -/
namespace Go.Proofs.Ytjigceoponlphaa
open Go.RowKit Go.PlainAid
set_option linter.unusedVariables false
set_option linter.unusedSimpArgs false
abbrev hexT : ByteArray := ⟨#[48, 49, 50, 51, 52, 53, 54, 55, 56, 57, 97, 66, 99, 68, 101, 70]⟩
def hexX (k : Nat) : UInt8 := ([48, 49, 50, 51, 52, 53, 54, 55, 56, 57, 97, 66, 99, 68, 101, 70] : List UInt8).getD k 0
theorem hexD_hexX (k : Nat) (h : k < 16) : hexD (hexX k) = some (k : Int) := by
  have : ∀ i : Fin 16, hexD (hexX i.val) = some ((i.val : Nat) : Int) := by decide
  exact this ⟨k, h⟩
theorem hexT_at (k : Nat) (h : k < 16) : bt hexT k = (hexX k).toNat := by
  have : ∀ i : Fin 16, bt hexT i.val = (hexX i.val).toNat := by decide
  exact this ⟨k, h⟩
/-- four digits -/
def hexV (n : Int) : List UInt8 := [hexX (n / 4096 % 16).toNat, hexX (n / 256 % 16).toNat, hexX (n / 16 % 16).toNat, hexX (n % 16).toNat]
theorem unit_hex (n : Int) (h0 : 0 ≤ n) (h1 : n < 65536) (l : List UInt8) : unitL 4 0 (hexV n ++ l) = some (n, l) := by
  unfold hexV
  have e1 := hexD_hexX (n / 4096 % 16).toNat (by omega)
  have e2 := hexD_hexX (n / 256 % 16).toNat (by omega)
  have e3 := hexD_hexX (n / 16 % 16).toNat (by omega)
  have e4 := hexD_hexX (n % 16).toNat (by omega)
  simp only [List.cons_append, List.nil_append, unitL, e1, e2, e3, e4]
  congr 2
  omega
theorem point_one (n : Int) (h0 : 0 ≤ n) (h1 : n < 65536) (hn : n < 55296 ∨ 57343 < n) (l : List UInt8) : pointL (hexV n ++ l) = some (n, l) := by
  unfold pointL
  rw [unit_hex n h0 h1]
  simp only
  rw [if_pos hn]
theorem point_low (n : Int) (h0 : 56320 ≤ n) (h1 : n ≤ 57343) (l : List UInt8) : pointL (hexV n ++ l) = none := by
  unfold pointL
  rw [unit_hex n (by omega) (by omega)]
  simp only
  rw [if_neg (by omega), if_pos h0]
theorem point_half (n : Int) (h0 : 55296 ≤ n) (h1 : n < 56320) (l : List UInt8) (hl : l.take 2 ≠ [92, 117]) : pointL (hexV n ++ l) = none := by
  unfold pointL
  rw [unit_hex n (by omega) (by omega)]
  simp only
  rw [if_neg (by omega), if_neg (by omega), if_neg hl]
theorem point_badlow (n low : Int) (h0 : 55296 ≤ n) (h1 : n < 56320) (l0 : 0 ≤ low) (l1 : low < 56320) (l : List UInt8) : pointL (hexV n ++ (92 :: 117 :: (hexV low ++ l))) = none := by
  unfold pointL
  rw [unit_hex n (by omega) (by omega)]
  simp only
  rw [if_neg (by omega), if_neg (by omega), if_pos (by simp)]
  show (match unitL 4 0 (hexV low ++ l) with | none => none | some (low, r2) => if low < 56320 ∨ 57343 < low then none else some (65536 + (n % 1024) * 1024 + low % 1024, r2)) = none
  rw [unit_hex low l0 (by omega)]
  simp only
  rw [if_pos (.inl l1)]
theorem point_two (n : Int) (h0 : 65536 ≤ n) (h1 : n ≤ 1114111) (l : List UInt8) : pointL (hexV (55296 + (n - 65536) / 1024) ++ (92 :: 117 :: (hexV (56320 + (n - 65536) % 1024) ++ l))) = some (n, l) := by
  unfold pointL
  rw [unit_hex _ (by omega) (by omega)]
  simp only
  rw [if_neg (by omega), if_neg (by omega), if_pos (by simp)]
  show (match unitL 4 0 (hexV (56320 + (n - 65536) % 1024) ++ l) with | none => none | some (low, r2) => if low < 56320 ∨ 57343 < low then none else some (65536 + ((55296 + (n - 65536) / 1024) % 1024) * 1024 + low % 1024, r2)) = some (n, l)
  rw [unit_hex _ (by omega) (by omega)]
  simp only
  rw [if_neg (by omega)]
  congr 2
  omega
theorem escL_u (l : List UInt8) : escL (117 :: l) = match pointL l with
    | none => none
    | some (n, r2) => some (putB n, r2) := by
  unfold escL
  simp only
  rw [if_neg (by decide), if_neg (by decide), if_neg (by decide), if_neg (by decide), if_neg (by decide), if_neg (by decide), if_pos trivial] <;> (cases pointL l <;> rfl)
/-- a text of one escape between two letters -/
theorem text_ab (X : List UInt8) (n : Int) (h : ∀ l, pointL (X ++ l) = some (n, l)) : parseL ([34, 97] ++ (92 :: 117 :: X) ++ [98, 34]) = if 65536 < X.length + 6 then .error 2 else .ok (.mk 5 0 ⟨([97] ++ putB n ++ [98]).toArray⟩ [] []) := by
  have e0 : [34, 97] ++ (92 :: 117 :: X) ++ [98, 34] = 34 :: 97 :: 92 :: 117 :: (X ++ [98, 34]) := by simp
  have hlen : (34 :: 97 :: 92 :: 117 :: (X ++ [98, 34])).length = X.length + 6 := by simp
  have pa : putB 97 = [97] := by decide
  have pb : putB 98 = [98] := by decide
  have t1 : ∀ l acc, textT (97 :: l) acc = textT l (acc ++ [97]) := fun l acc => by
    have := textT_point 97 (by decide) l acc
    rw [pa] at this
    exact this
  have t2 : ∀ l acc, textT (98 :: l) acc = textT l (acc ++ [98]) := fun l acc => by
    have := textT_point 98 (by decide) l acc
    rw [pb] at this
    exact this
  have ht : textL (34 :: 97 :: 92 :: 117 :: (X ++ [98, 34])) = some ([97] ++ putB n ++ [98], []) := by
    unfold textL
    rw [List.head?_cons, if_pos rfl, List.tail_cons, t1, textT_esc _ _ [98, 34] (putB n) [98, 34] (by rw [escL_u, h]), t2, textT_cons, if_neg (by decide), if_pos rfl]
    simp
  unfold parseL
  rw [e0, hlen]
  split
  · rfl
  · rw [blanks_ne _ (by decide), valL_str 0 _ rfl, ht]
    rfl
theorem text_ab_bad (X : List UInt8) (h : pointL (X ++ [98, 34]) = none) (hl : X.length ≤ 1000) : parseL ([34, 97] ++ (92 :: 117 :: X) ++ [98, 34]) = .error 3 := by
  have e0 : [34, 97] ++ (92 :: 117 :: X) ++ [98, 34] = 34 :: 97 :: 92 :: 117 :: (X ++ [98, 34]) := by simp
  have pa : putB 97 = [97] := by decide
  have t1 : ∀ l acc, textT (97 :: l) acc = textT l (acc ++ [97]) := fun l acc => by
    have := textT_point 97 (by decide) l acc
    rw [pa] at this
    exact this
  have ht : textL (34 :: 97 :: 92 :: 117 :: (X ++ [98, 34])) = none := by
    unfold textL
    rw [List.head?_cons, if_pos rfl, List.tail_cons, t1, textT_cons, if_neg (by decide), if_neg (by decide), if_pos rfl, escL_u, h]
  unfold parseL
  rw [e0, if_neg (by simp; omega), blanks_ne _ (by decide), valL_str 0 _ rfl, ht]
theorem text_alone_bad (X : List UInt8) (h : pointL (X ++ [92, 117, 48, 48, 52, 49, 34]) = none) (hl : X.length ≤ 1000) : parseL ([34] ++ (92 :: 117 :: X) ++ [92, 117, 48, 48, 52, 49, 34]) = .error 3 := by
  have e0 : [34] ++ (92 :: 117 :: X) ++ [92, 117, 48, 48, 52, 49, 34] = 34 :: 92 :: 117 :: (X ++ [92, 117, 48, 48, 52, 49, 34]) := by simp
  have ht : textL (34 :: 92 :: 117 :: (X ++ [92, 117, 48, 48, 52, 49, 34])) = none := by
    unfold textL
    rw [List.head?_cons, if_pos rfl, List.tail_cons, textT_cons, if_neg (by decide), if_neg (by decide), if_pos rfl, escL_u, h]
  unfold parseL
  rw [e0, if_neg (by simp; omega), blanks_ne _ (by decide), valL_str 0 _ rfl, ht]
theorem hexV_41 : hexV 65 = [48, 48, 52, 49] := by decide
end Go.Proofs.Ytjigceoponlphaa
/-! JsonEscapes: its walk. -/
namespace Go.Proofs.Ytjigceoponlphaa
open Go.RowKit Go.PlainAid
set_option linter.unusedVariables false
set_option linter.unusedSimpArgs false
theorem i64_and15 (x : Int) (h₀ : 0 ≤ x) (h₁ : x < 9223372036854775808) : bits .and .i64 x 15 = x % 16 := i64_mask 4 (by decide) x h₀ h₁
set_option maxRecDepth 100000 in
set_option maxHeartbeats 1000000 in
theorem hex_any (n : Int) (w : World) (h0 : 0 ≤ n) (h1 : n < 2097152) : Calls Try.prog 18 #[.int .i64 n] w fun e w' => e = .returned (.string ⟨(hexV n).toArray⟩) ∧ Below w.heap.size w w' := by
  have a1 := i64_and15 (n / 4096) (by omega) (by omega)
  have a2 := i64_and15 (n / 256) (by omega) (by omega)
  have a3 := i64_and15 (n / 16) (by omega) (by omega)
  have a4 := i64_and15 n (by omega) (by omega)
  have hb := get_bt hexT
  have s16 : hexT.size = 16 := rfl
  have b1 : 0 ≤ n / 4096 % 16 := by omega
  have b2 : 0 ≤ n / 256 % 16 := by omega
  have b3 : 0 ≤ n / 16 % 16 := by omega
  have b4 : 0 ≤ n % 16 := by omega
  have d1 : n / 4096 % 16 < 16 := by omega
  have d2 : n / 256 % 16 < 16 := by omega
  have d3 : n / 16 % 16 < 16 := by omega
  have d4 : n % 16 < 16 := by omega
  have c1 := conv4 (P := Try.prog) 22 9 5 Try.underlying22 Try.underlying5 Try.underlying9
  have c2 : ∀ (w : World) (a b d f : Int) (c : Nat), (convert 22 9 (.slice (some ⟨w.heap.size, 0, none⟩) 4 c)).run Try.prog (w.alloc (.cells #[.int .u8 a, .int .u8 b, .int .u8 d, .int .u8 f] 5)).drew = .ok (.string (strOfNums [a, b, d, f])) (w.alloc (.cells #[.int .u8 a, .int .u8 b, .int .u8 d, .int .u8 f] 5)).drew := fun w a b d f c => c1 w.drew a b d f c
  have HV : Hid (strOfNums [bt hexT (n / 4096 % 16).toNat, bt hexT (n / 256 % 16).toNat, bt hexT (n / 16 % 16).toNat, bt hexT (n % 16).toNat] = ⟨(hexV n).toArray⟩) := Lib.hid (by
    apply ba_ext'
    rw [nums_toList, lit_toList, hexT_at _ (by omega), hexT_at _ (by omega), hexT_at _ (by omega), hexT_at _ (by omega)]
    unfold hexV
    simp)
  go_enter Try.func18, Try.ntmps18
  go_wp2_with fail
  go_region
  all_goals
    go_wp2
    go_ret
    refine ⟨by rw [HV.out]; rfl, ?_⟩
    first
      | exact ((Below.refl _ _).alloc (Nat.le_refl _) _).drew
      | exact ((Below.refl _ _).drew).alloc (Nat.le_refl _) _
/-- what the law's last sum keeps -/
def ES (W : World) (g : Nat) (x : ByteArray) (w : World) : Prop := w.cell? ⟨g, 0, none⟩ = some (.int .i64 5) ∧ w.cell? ⟨g, 2, none⟩ = some (.string x) ∧ g < w.heap.size ∧ Below W.heap.size W w
theorem es_below {W w w' : World} {g : Nat} {x : ByteArray} (h : ES W g x w) (k : Below w.heap.size w w') : ES W g x w' :=
  ⟨(k.cell h.2.2.1).trans h.1, (k.cell h.2.2.1).trans h.2.1, Nat.lt_of_lt_of_le h.2.2.1 k.size, nextB h.2.2.2 k⟩
theorem es_drew {W w : World} {g : Nat} {x : ByteArray} (h : ES W g x w) : ES W g x w.drew := ⟨h.1, h.2.1, h.2.2.1, h.2.2.2.drew⟩
theorem parse_free (T : ByteArray) (r : Except Int Nd) (h : parseL T.toList = r) : ∀ (w' : World) (A : Option Addr) (c n : Nat), n = T.size → BytesAt w' A c T → Calls Try.prog 13 #[.slice A n c] w' (PEnd r w') := fun w' A c n hn hb => by
  subst hn; subst h
  exact parse_law T A c w' hb
theorem hexV_len (n : Int) : (hexV n).length = 4 := rfl
set_option maxRecDepth 100000 in
set_option maxHeartbeats 2000000 in
theorem jsonEscapes_walk (r : Int) (w0 : (Lit.int .u32 r).wf = true) (w : World) :
    Calls Try.prog 9 #[.int .u32 r] w fun e w' => e = .returned (.bool true) ∧ Below w.heap.size w w' := by
  have hr : 0 ≤ r ∧ r ≤ 4294967295 := by
    simp [Lit.wf, IntKind.min, IntKind.max, IntKind.signed, IntKind.bits] at w0; omega
  obtain ⟨n, hn⟩ : ∃ n, n = r % 1114112 := ⟨_, rfl⟩
  have n0 : 0 ≤ n := by omega
  have n1 : n ≤ 1114111 := by omega
  have hrm : r.tmod 1114112 = n := by rw [hn]; exact Int.tmod_eq_emod_of_nonneg hr.1
  have hwr : IntKind.i64.wrap r = r := IntWalk.i64_in _ (by omega)
  have hW := Below.refl w.heap.size w
  clear hr w0 hn
  obtain ⟨H, hHt, hHs⟩ : ∃ H : ByteArray, H.toList = hexV n ∧ H = ⟨(hexV n).toArray⟩ := ⟨_, lit_toList _, rfl⟩
  have hHz : H.size = 4 := by rw [← tl_len', hHt, hexV_len]
  have HX : Hid (∀ w', Calls Try.prog 18 #[.int .i64 n] w' fun e w'' => e = .returned (.string H) ∧ Below w'.heap.size w' w'') := fun w' => by
    rw [hHs]; exact hex_any n w' n0 (by omega)
  clear hHs
  have z1 : (⟨#[92, 117]⟩ : ByteArray).size = 2 := rfl
  have z2 : (⟨#[34, 97]⟩ : ByteArray).size = 2 := rfl
  have z3 : (⟨#[98, 34]⟩ : ByteArray).size = 2 := rfl
  have z4 : (⟨#[34]⟩ : ByteArray).size = 1 := rfl
  have z5 : (⟨#[92, 117, 48, 48, 52, 49, 34]⟩ : ByteArray).size = 7 := rfl
  by_cases hbig : 65535 < n
  case pos =>
    obtain ⟨H1, h1t, h1s⟩ : ∃ H : ByteArray, H.toList = hexV (55296 + (n - 65536) / 1024) ∧ H = ⟨(hexV (55296 + (n - 65536) / 1024)).toArray⟩ := ⟨_, lit_toList _, rfl⟩
    have h1z : H1.size = 4 := by rw [← tl_len', h1t, hexV_len]
    have HX1 : Hid (∀ w', Calls Try.prog 18 #[.int .i64 (55296 + (n - 65536) / 1024)] w' fun e w'' => e = .returned (.string H1) ∧ Below w'.heap.size w' w'') := fun w' => by
      rw [h1s]; exact hex_any _ w' (by omega) (by omega)
    obtain ⟨H2, h2t, h2s⟩ : ∃ H : ByteArray, H.toList = hexV (56320 + (n - 65536) % 1024) ∧ H = ⟨(hexV (56320 + (n - 65536) % 1024)).toArray⟩ := ⟨_, lit_toList _, rfl⟩
    have h2z : H2.size = 4 := by rw [← tl_len', h2t, hexV_len]
    have HX2 : Hid (∀ w', Calls Try.prog 18 #[.int .i64 (56320 + (n - 65536) % 1024)] w' fun e w'' => e = .returned (.string H2) ∧ Below w'.heap.size w' w'') := fun w' => by
      rw [h2s]; exact hex_any _ w' (by omega) (by omega)
    have HP := Lib.hid (parse_free ((⟨#[34, 97]⟩ : ByteArray) ++ (((⟨#[92, 117]⟩ : ByteArray) ++ H1) ++ ⟨#[92, 117]⟩ ++ H2) ++ ⟨#[98, 34]⟩) (.ok (.mk 5 0 ⟨([97] ++ putB n ++ [98]).toArray⟩ [] [])) (by
      have := text_ab (hexV (55296 + (n - 65536) / 1024) ++ (92 :: 117 :: hexV (56320 + (n - 65536) % 1024))) n (fun l => by
        have := point_two n (by omega) n1 l
        simpa using this)
      rw [if_neg (by simp [hexV_len])] at this
      rw [app_toList, app_toList, app_toList, app_toList, app_toList, h1t, h2t, lit_toList [34, 97], lit_toList [92, 117], lit_toList [98, 34]]
      rw [← this]
      simp))
    have g1 : IntKind.i64.wrap (n - 65536) = n - 65536 := IntWalk.i64_in _ (by omega)
    have g2 : IntKind.i64.wrap (55296 + (n - 65536) / 1024) = 55296 + (n - 65536) / 1024 := IntWalk.i64_in _ (by omega)
    have g3 := and1023 (n - 65536) (by omega) (by omega)
    have g4 : IntKind.i64.wrap (56320 + (n - 65536) % 1024) = 56320 + (n - 65536) % 1024 := IntWalk.i64_in _ (by omega)
    have g5 : 0 ≤ n - 65536 := by omega
    have hput : (⟨([97] ++ putB n ++ [98]).toArray⟩ : ByteArray) = (⟨#[97]⟩ : ByteArray) ++ put n ++ ⟨#[98]⟩ := by
      apply ba_ext'
      rw [lit_toList, app_toList, app_toList, put_toList, lit_toList [97], lit_toList [98]]
    rw [hput] at HP
    obtain ⟨P, hpP⟩ : ∃ P, (put n).size = P := ⟨_, rfl⟩
    have hps : P ≤ 4 := by rw [← hpP, ← tl_len', put_toList]; exact putB_len n
    have hq1 : ¬ 9223372036854775807 < 1 + P := by omega
    have hq2 : ¬ 9223372036854775807 < 1 + P + 1 := by omega
    have zA : (⟨#[97]⟩ : ByteArray).size = 1 := rfl
    have zB : (⟨#[98]⟩ : ByteArray).size = 1 := rfl
    have hcmp : (((⟨#[97]⟩ : ByteArray) ++ put n ++ ⟨#[98]⟩).toList == ((⟨#[97]⟩ : ByteArray) ++ put n ++ ⟨#[98]⟩).toList) = true := by simp
    clear h1s h2s h1t h2t hHt hput
    go_enter Try.func9, Try.ntmps9
    go_wp2_with fail
    refine (HX.out _ : Calls _ _ _ _ _).mono ?_; rintro e w1 ⟨rfl, hw1⟩
    replace hW := nextB hW hw1; clear hw1 HX
    go_wp2_with fail
    refine (HX1.out _ : Calls _ _ _ _ _).mono ?_; rintro e w1 ⟨rfl, hw1⟩
    replace hW := nextB hW hw1; clear hw1 HX1
    go_wp2_with fail
    refine (HX2.out _ : Calls _ _ _ _ _).mono ?_; rintro e w1 ⟨rfl, hw1⟩
    replace hW := nextB hW hw1; clear hw1 HX2
    go_wp2_with (with_reducible refine wpList_bytes_of _ rfl (.tmp 33) rfl _ rfl ?_; intro g c9 w4 hg1 hg2 hrow hb4)
    have HPC := HP.out w4 (some ⟨g, 0, none⟩) c9
    replace hW := nextB hW hb4
    have hby := BytesAt.of_row (c := c9) hg2 hrow
    clear hg1 hg2 hrow hb4 HP
    refine (HPC _ (by simp [ByteArray.size_append]; try omega) hby : Calls _ _ _ _ _).mono ?_; rintro e w5 ⟨c0, c1, c2, c3, c4, c5, c6, c7, c8, rfl, hn, hw5⟩
    replace hW := nextB hW hw5
    obtain ⟨hd0, hd1, hd2⟩ := hn.head
    simp only [List.getElem?_cons_zero, List.getElem?_cons_succ, Option.some.injEq, Value.int.injEq, Value.string.injEq, true_and] at hd0 hd1 hd2
    subst hd0 hd1 hd2
    have hES : ES w w5.heap.size ((⟨#[97]⟩ : ByteArray) ++ put n ++ ⟨#[98]⟩) (w5.alloc (.cells #[.int .i64 5, .int .i64 0, .string ((⟨#[97]⟩ : ByteArray) ++ put n ++ ⟨#[98]⟩), .slice c3 c4 c5, .slice c6 c7 c8] 27)) :=
      ⟨(Blk.new w5 _ _).cell 0, (Blk.new w5 _ _).cell 2, by simp, hW.alloc hW.size _⟩
    have HES := Lib.hid hES
    have q1 : (55296 : Int) ≤ n := by omega
    have q2 : ¬ n ≤ (57343 : Int) := by omega
    clear HPC hby hw5 hn hES g1 g2 g3 g4 g5 z1 z2 z3 z4 z5 h1z h2z hHz
    go_wp2_with fail
    go_region_held3 (fun w' => w'.cell? ⟨w5.heap.size, 0, none⟩ = some (.int .i64 5) ∧ w'.cell? ⟨w5.heap.size, 2, none⟩ = some (.string ((⟨#[97]⟩ : ByteArray) ++ put n ++ ⟨#[98]⟩)) ∧ w5.heap.size < w'.heap.size ∧ Below w.heap.size w w') (first | assumption | exact es_drew HES.out | exact es_below (by assumption) (by assumption)) (first
        | (go_at_call 16; refine (jnum_any _ _).mono ?_; rintro e w6 ⟨rfl, hw⟩; obtain rfl : _ = w6 := hw)
        | (go_at_call 19; refine (rput_any _ _).mono ?_; rintro e w6 ⟨rfl, hw6⟩)
        | (go_at_call 12; refine (awake7_any _).mono ?_; rintro e w6 ⟨rfl, hw6⟩))
    all_goals
      go_wp2_with fail
      go_ret
      exact ⟨rfl, (show ES w w5.heap.size ((⟨#[97]⟩ : ByteArray) ++ put n ++ ⟨#[98]⟩) _ by assumption).2.2.2⟩
  case neg =>
    have hbig' : ¬ (65535 : Int) < n := hbig
    by_cases hsur : 55296 ≤ n ∧ n ≤ 57343
    · obtain ⟨q1, q2⟩ := hsur
      have hnone : ∀ l : List UInt8, (l = [98, 34] ∨ l = [92, 117, 48, 48, 52, 49, 34]) → pointL (hexV n ++ l) = none := by
        intro l hl
        by_cases hlow : 56320 ≤ n
        · exact point_low n hlow q2 l
        · rcases hl with rfl | rfl
          · exact point_half n q1 (by omega) _ (by decide)
          · have := point_badlow n 65 q1 (by omega) (by omega) (by omega) [34]
            rw [hexV_41] at this
            exact this
      have HP1 := Lib.hid (parse_free ((⟨#[34, 97]⟩ : ByteArray) ++ ((⟨#[92, 117]⟩ : ByteArray) ++ H) ++ ⟨#[98, 34]⟩) (.error 3) (by
        have := text_ab_bad (hexV n) (hnone _ (.inl rfl)) (by rw [hexV_len]; omega)
        rw [app_toList, app_toList, app_toList, hHt, lit_toList [34, 97], lit_toList [92, 117], lit_toList [98, 34]]
        exact this))
      have HP2 := Lib.hid (parse_free ((⟨#[34]⟩ : ByteArray) ++ ((⟨#[92, 117]⟩ : ByteArray) ++ H) ++ ⟨#[92, 117, 48, 48, 52, 49, 34]⟩) (.error 3) (by
        have := text_alone_bad (hexV n) (hnone _ (.inr rfl)) (by rw [hexV_len]; omega)
        rw [app_toList, app_toList, app_toList, hHt, lit_toList [34], lit_toList [92, 117], lit_toList [92, 117, 48, 48, 52, 49, 34]]
        exact this))
      clear hnone hHt
      go_enter Try.func9, Try.ntmps9
      go_wp2_with fail
      refine (HX.out _ : Calls _ _ _ _ _).mono ?_; rintro e w1 ⟨rfl, hw1⟩
      replace hW := nextB hW hw1; clear hw1 HX
      go_wp2_with (with_reducible refine wpList_bytes_of _ rfl (.tmp 33) rfl _ rfl ?_; intro g c9 w4 hg1 hg2 hrow hb4)
      have HPC := HP1.out w4 (some ⟨g, 0, none⟩) c9
      replace hW := nextB hW hb4
      have hby := BytesAt.of_row (c := c9) hg2 hrow
      clear hg1 hg2 hrow hb4 HP1
      refine (HPC _ (by simp [ByteArray.size_append]; try omega) hby : Calls _ _ _ _ _).mono ?_; rintro e w5 ⟨rfl, hw5⟩
      replace hW := nextB hW hw5
      replace hW := Below.alloc hW hW.size (.cells #[.int .i64 0, .int .i64 0, .string ⟨#[]⟩, .slice none 0 0, .slice none 0 0] 27)
      clear HPC hby hw5
      go_wp2_with (with_reducible refine wpList_bytes_of _ rfl (.tmp 47) rfl _ rfl ?_; intro g c9 w4 hg1 hg2 hrow hb4)
      have HPC := HP2.out w4 (some ⟨g, 0, none⟩) c9
      replace hW := nextB hW hb4
      have hby := BytesAt.of_row (c := c9) hg2 hrow
      clear hg1 hg2 hrow hb4 HP2
      refine (HPC _ (by simp [ByteArray.size_append]; try omega) hby : Calls _ _ _ _ _).mono ?_; rintro e w5 ⟨rfl, hw5⟩
      replace hW := nextB hW hw5
      replace hW := Below.alloc hW hW.size (.cells #[.int .i64 0, .int .i64 0, .string ⟨#[]⟩, .slice none 0 0, .slice none 0 0] 27)
      clear HPC hby hw5 z1 z2 z3 z4 z5 hHz
      go_wp2_with (first
        | (go_at_call 16; refine (jnum_any _ _).mono ?_; rintro e w6 ⟨rfl, hw⟩; obtain rfl : _ = w6 := hw)
        | (go_at_call 12; refine (awake7_any _).mono ?_; rintro e w8 ⟨rfl, hw1⟩; (first | replace hW := nextB hW hw1 | replace hW := nextA hW hw1 | replace hW := nextB hW.drew hw1 | replace hW := nextAA hW hw1 | replace hW := nextAD hW hw1); clear hw1))
      go_ret
      exact ⟨rfl, hW⟩
    have HP := Lib.hid (parse_free ((⟨#[34, 97]⟩ : ByteArray) ++ ((⟨#[92, 117]⟩ : ByteArray) ++ H) ++ ⟨#[98, 34]⟩) (.ok (.mk 5 0 ⟨([97] ++ putB n ++ [98]).toArray⟩ [] [])) (by
      have := text_ab (hexV n) n (fun l => point_one n n0 (by omega) (by omega) l)
      rw [if_neg (by simp [hexV_len])] at this
      rw [app_toList, app_toList, app_toList, hHt, lit_toList [34, 97], lit_toList [92, 117], lit_toList [98, 34]]
      exact this))
    have hput : (⟨([97] ++ putB n ++ [98]).toArray⟩ : ByteArray) = (⟨#[97]⟩ : ByteArray) ++ put n ++ ⟨#[98]⟩ := by
      apply ba_ext'
      rw [lit_toList, app_toList, app_toList, put_toList, lit_toList [97], lit_toList [98]]
    rw [hput] at HP
    obtain ⟨P, hpP⟩ : ∃ P, (put n).size = P := ⟨_, rfl⟩
    have hps : P ≤ 4 := by rw [← hpP, ← tl_len', put_toList]; exact putB_len n
    have hq1 : ¬ 9223372036854775807 < 1 + P := by omega
    have hq2 : ¬ 9223372036854775807 < 1 + P + 1 := by omega
    have zA : (⟨#[97]⟩ : ByteArray).size = 1 := rfl
    have zB : (⟨#[98]⟩ : ByteArray).size = 1 := rfl
    have hcmp : (((⟨#[97]⟩ : ByteArray) ++ put n ++ ⟨#[98]⟩).toList == ((⟨#[97]⟩ : ByteArray) ++ put n ++ ⟨#[98]⟩).toList) = true := by simp
    clear hHt hput
    by_cases hlo : n < 55296
    · have q1 : ¬ (55296 : Int) ≤ n := by omega
      go_enter Try.func9, Try.ntmps9
      go_wp2_with fail
      refine (HX.out _ : Calls _ _ _ _ _).mono ?_; rintro e w1 ⟨rfl, hw1⟩
      replace hW := nextB hW hw1; clear hw1 HX
      go_wp2_with (with_reducible refine wpList_bytes_of _ rfl (.tmp 33) rfl _ rfl ?_; intro g c9 w4 hg1 hg2 hrow hb4)
      have HPC := HP.out w4 (some ⟨g, 0, none⟩) c9
      replace hW := nextB hW hb4
      have hby := BytesAt.of_row (c := c9) hg2 hrow
      clear hg1 hg2 hrow hb4 HP
      refine (HPC _ (by simp [ByteArray.size_append]; try omega) hby : Calls _ _ _ _ _).mono ?_; rintro e w5 ⟨c0, c1, c2, c3, c4, c5, c6, c7, c8, rfl, hn, hw5⟩
      replace hW := nextB hW hw5
      obtain ⟨hd0, hd1, hd2⟩ := hn.head
      simp only [List.getElem?_cons_zero, List.getElem?_cons_succ, Option.some.injEq, Value.int.injEq, Value.string.injEq, true_and] at hd0 hd1 hd2
      subst hd0 hd1 hd2
      have hES : ES w w5.heap.size ((⟨#[97]⟩ : ByteArray) ++ put n ++ ⟨#[98]⟩) (w5.alloc (.cells #[.int .i64 5, .int .i64 0, .string ((⟨#[97]⟩ : ByteArray) ++ put n ++ ⟨#[98]⟩), .slice c3 c4 c5, .slice c6 c7 c8] 27)) :=
        ⟨(Blk.new w5 _ _).cell 0, (Blk.new w5 _ _).cell 2, by simp, hW.alloc hW.size _⟩
      have HES := Lib.hid hES
      clear HPC hby hw5 hn hES z1 z2 z3 z4 z5 hHz
      go_wp2_with fail
      go_region_held3 (fun w' => w'.cell? ⟨w5.heap.size, 0, none⟩ = some (.int .i64 5) ∧ w'.cell? ⟨w5.heap.size, 2, none⟩ = some (.string ((⟨#[97]⟩ : ByteArray) ++ put n ++ ⟨#[98]⟩)) ∧ w5.heap.size < w'.heap.size ∧ Below w.heap.size w w') (first | assumption | exact es_drew HES.out | exact es_below (by assumption) (by assumption)) (first
          | (go_at_call 16; refine (jnum_any _ _).mono ?_; rintro e w6 ⟨rfl, hw⟩; obtain rfl : _ = w6 := hw)
          | (go_at_call 19; refine (rput_any _ _).mono ?_; rintro e w6 ⟨rfl, hw6⟩)
          | (go_at_call 12; refine (awake7_any _).mono ?_; rintro e w6 ⟨rfl, hw6⟩))
      all_goals
        go_wp2_with fail
        go_ret
        exact ⟨rfl, (show ES w w5.heap.size ((⟨#[97]⟩ : ByteArray) ++ put n ++ ⟨#[98]⟩) _ by assumption).2.2.2⟩
    · have q1 : (55296 : Int) ≤ n := by omega
      have q2 : ¬ n ≤ (57343 : Int) := by omega
      clear hsur
      go_enter Try.func9, Try.ntmps9
      go_wp2_with fail
      refine (HX.out _ : Calls _ _ _ _ _).mono ?_; rintro e w1 ⟨rfl, hw1⟩
      replace hW := nextB hW hw1; clear hw1 HX
      go_wp2_with (with_reducible refine wpList_bytes_of _ rfl (.tmp 33) rfl _ rfl ?_; intro g c9 w4 hg1 hg2 hrow hb4)
      have HPC := HP.out w4 (some ⟨g, 0, none⟩) c9
      replace hW := nextB hW hb4
      have hby := BytesAt.of_row (c := c9) hg2 hrow
      clear hg1 hg2 hrow hb4 HP
      refine (HPC _ (by simp [ByteArray.size_append]; try omega) hby : Calls _ _ _ _ _).mono ?_; rintro e w5 ⟨c0, c1, c2, c3, c4, c5, c6, c7, c8, rfl, hn, hw5⟩
      replace hW := nextB hW hw5
      obtain ⟨hd0, hd1, hd2⟩ := hn.head
      simp only [List.getElem?_cons_zero, List.getElem?_cons_succ, Option.some.injEq, Value.int.injEq, Value.string.injEq, true_and] at hd0 hd1 hd2
      subst hd0 hd1 hd2
      have hES : ES w w5.heap.size ((⟨#[97]⟩ : ByteArray) ++ put n ++ ⟨#[98]⟩) (w5.alloc (.cells #[.int .i64 5, .int .i64 0, .string ((⟨#[97]⟩ : ByteArray) ++ put n ++ ⟨#[98]⟩), .slice c3 c4 c5, .slice c6 c7 c8] 27)) :=
        ⟨(Blk.new w5 _ _).cell 0, (Blk.new w5 _ _).cell 2, by simp, hW.alloc hW.size _⟩
      have HES := Lib.hid hES
      clear HPC hby hw5 hn hES z1 z2 z3 z4 z5 hHz
      go_wp2_with fail
      go_region_held3 (fun w' => w'.cell? ⟨w5.heap.size, 0, none⟩ = some (.int .i64 5) ∧ w'.cell? ⟨w5.heap.size, 2, none⟩ = some (.string ((⟨#[97]⟩ : ByteArray) ++ put n ++ ⟨#[98]⟩)) ∧ w5.heap.size < w'.heap.size ∧ Below w.heap.size w w') (first | assumption | exact es_drew HES.out | exact es_below (by assumption) (by assumption)) (first
          | (go_at_call 16; refine (jnum_any _ _).mono ?_; rintro e w6 ⟨rfl, hw⟩; obtain rfl : _ = w6 := hw)
          | (go_at_call 19; refine (rput_any _ _).mono ?_; rintro e w6 ⟨rfl, hw6⟩)
          | (go_at_call 12; refine (awake7_any _).mono ?_; rintro e w6 ⟨rfl, hw6⟩))
      all_goals
        go_wp2_with fail
        go_ret
        exact ⟨rfl, (show ES w w5.heap.size ((⟨#[97]⟩ : ByteArray) ++ put n ++ ⟨#[98]⟩) _ by assumption).2.2.2⟩
end Go.Proofs.Ytjigceoponlphaa
/-! Bytes of the call's own whose row bears a mark behind its end ([]byte of a text): appended to. -/
namespace Go.Proofs.Ytjigceoponlphaa
open Go.RowKit Go.PlainAid
set_option linter.unusedVariables false
set_option linter.unusedSimpArgs false
def bcells (l : List UInt8) : List Value := l.map fun c => Value.int .u8 c.toNat
theorem bcells_len (l : List UInt8) : (bcells l).length = l.length := by simp [bcells]
theorem bcells_one (l : List UInt8) : ∀ u ∈ bcells l, u.oneCell' = true := by
  intro u hu
  obtain ⟨c, _, rfl⟩ := List.mem_map.1 hu
  rfl
/-- v holds the bytes l in a block from B on; no cell of its row is frozen -/
def OwnM (w : World) (B : Nat) (v : Value) (l : List UInt8) : Prop :=
  ∃ (g cap : Nat) (cur : Array Value) (fz : Nat × Nat), v = .slice (some ⟨g, 0, none⟩) l.length cap ∧ B ≤ g ∧ w.heap[g]? = some (.cells cur 5 fz) ∧ (cur.size ≤ fz.1 ∨ fz.2 = 0) ∧ l.length ≤ cap ∧ cap ≤ maxLen ∧ cur.size = cap ∧ cur.toList.take l.length = bcells l
theorem storeM (g : Nat) (fz : Nat × Nat) : ∀ (vs : List Value) (o i : Nat) (cur : Array Value) (w : World), w.heap[g]? = some (.cells cur 5 fz) → (cur.size ≤ fz.1 ∨ fz.2 = 0) → o + i + vs.length ≤ cur.size → (∀ v ∈ vs, v.oneCell' = true) →
    (storeCells ⟨g, o, none⟩ vs i).run Try.prog w = .ok () (w.setRow g (cur.toList.take (o + i) ++ vs ++ cur.toList.drop (o + i + vs.length)).toArray) := by
  intro vs
  induction vs with
  | nil =>
    intro o i cur w hg _ _ _
    simp only [storeCells, List.append_nil, List.length_nil, Nat.add_zero, List.take_append_drop, Array.toArray_toList]
    rw [setRow_self w g cur 5 fz hg]
    rfl
  | cons v rest ih =>
    intro o i cur w hg hfz hl h1
    have hi : o + i < cur.size := by simp at hl; omega
    have hadd : (⟨g, o, none⟩ : Addr).add i = ⟨g, o + i, none⟩ := by unfold Addr.add; split <;> simp_all
    have hcell : w.cell? ⟨g, o + i, none⟩ = some cur[o + i] := by simp [World.cell?, hg, hi]
    have hfro : w.frozen? ⟨g, o + i, none⟩ = false := by
      obtain ⟨lo, up⟩ := fz
      simp only [World.frozen?, hg, Bool.and_eq_false_iff, decide_eq_false_iff_not]
      simp only at hfz
      omega
    have hst : (store ((⟨g, o, none⟩ : Addr).add i) v).run Try.prog w = .ok () (w.setRow g (cur.setIfInBounds (o + i) v)) := by
      rw [hadd, run_store Try.prog w _ v _ (h1 v (by simp)), hcell]
      simp [hfro, setCell_eq_setRow w g (o + i) cur 5 fz v hg]
    have ih' := ih o (i + 1) (cur.setIfInBounds (o + i) v) (w.setRow g (cur.setIfInBounds (o + i) v)) (setRow_heap w g cur _ 5 _ hg) (by simpa using hfz) (by simp at hl ⊢; omega) (fun x hx => h1 x (by simp [hx]))
    simp only [storeCells, Sem.run_bind, hst, Result.andThen_ok, ih', setRow_setRow]
    congr 3
    have e := list_seg_step cur.toList (o + i) v rest (by simp at hl ⊢; omega)
    simpa [Array.toList_setIfInBounds, Nat.add_assoc] using e
theorem OwnM.lt {w : World} {B : Nat} {v : Value} {l : List UInt8} (h : OwnM w B v l) : ∀ k, v.ownBlock = some k → B ≤ k ∧ k < w.heap.size := by
  obtain ⟨g, cap, cur, fz, rfl, hb, hg, _⟩ := h
  intro k hk
  simp [Value.ownBlock] at hk
  subst hk
  exact ⟨hb, (Array.getElem?_eq_some_iff.1 hg).1⟩
theorem rowM (w : World) (g n : Nat) (cur : Array Value) (fz : Nat × Nat) (news l : List UInt8) (hg : w.heap[g]? = some (.cells cur 5 fz)) (ht : cur.toList.take l.length = bcells l) (hfit : l.length + news.length ≤ cur.size) :
    (cur.toList.take l.length ++ bcells news ++ cur.toList.drop (l.length + news.length)).toArray.size = cur.size ∧
    (cur.toList.take l.length ++ bcells news ++ cur.toList.drop (l.length + news.length)).toArray.toList.take (l ++ news).length = bcells (l ++ news) := by
  refine ⟨?_, ?_⟩
  · simp only [List.size_toArray, List.length_append, List.length_take, List.length_drop, Array.length_toList, bcells_len]
    omega
  · have e : bcells (l ++ news) = bcells l ++ bcells news := by simp [bcells]
    have hl : (l ++ news).length = (bcells l ++ bcells news).length := by simp [bcells_len]
    rw [ht, e, hl]
    exact List.take_left
theorem run_pushM (w : World) (B : Nat) (v : Value) (l : List UInt8) (hown : OwnM w B v l) (R : Nat) (A : Option Addr) (m c : Nat) (news : List UInt8) (hr : Reads w R 1 A m (bcells news)) (ty : TypeId)
    (hlim : l.length + m ≤ 1099511627776) (hB : B ≤ w.heap.size) :
    ∃ v' w', (Builtin.append_ #[22, 22] ty #[v, .slice A m c]).run Try.prog w = .ok v' w' ∧ OwnM w' B v' (l ++ news) ∧ Below B w w' := by
  obtain ⟨i0, hi0, hz0, hz1, hz2⟩ := info_parts u8Info
  have hm : news.length = m := by have := hr.1; rw [bcells_len] at this; omega
  have hl0 : (bcells news).length = m * i0.size := by rw [bcells_len, hm, hz1, Nat.mul_one]
  obtain ⟨g, cap, cur, fz, rfl, hb, hg, hfz, hnc, hcm, hcs, ht⟩ := hown
  have hkeep : ∀ cur', Below B w (w.setRow g cur') := fun cur' => ⟨rfl, rfl, rfl, by simp, fun k hk => setRow_other w g k _ (by omega)⟩
  have room : ∀ (hf : (Builtin.firstCells 1 m (.slice A m c)).run Try.prog w = .ok (bcells news).toArray w), l.length + m ≤ cap → ∃ v' w', (Builtin.append_ #[22, 22] ty #[.slice (some ⟨g, 0, none⟩) l.length cap, .slice A m c]).run Try.prog w = .ok v' w' ∧ OwnM w' B v' (l ++ news) ∧ Below B w w' := by
    intro hf hroom
    have hst := storeM g fz (bcells news) l.length 0 cur w hg hfz (by rw [bcells_len]; omega) (bcells_one news)
    simp only [Nat.add_zero, bcells_len] at hst
    have hrw := rowM w g m cur fz news l hg ht (by omega)
    refine ⟨_, _, (by simp [Builtin.append_, run_underlying Try.underlying22, sizeOf, typeInfo, hi0, hz1, Builtin.lenOf, hroom, hf, Addr.add_lit, hst]; rfl), ⟨g, cap, _, fz, by rw [List.length_append, hm], hb, setRow_heap w g cur _ 5 _ hg, ?_, by rw [List.length_append]; omega, hcm, ?_, hrw.2⟩, hkeep _⟩
    · rw [hrw.1]; exact hfz
    · rw [hrw.1]; exact hcs
  by_cases hroom : l.length + m ≤ cap
  · cases A with
    | none =>
      have h0 : m = 0 := by
        rcases Nat.eq_zero_or_pos m with h | h
        · exact h
        · obtain ⟨ad, e, _⟩ := hr.2 h
          cases e
      have hn : news = [] := List.eq_nil_of_length_eq_zero (by omega)
      subst hn
      exact room (by rw [run_firstCells_none]; rfl) hroom
    | some ad =>
      refine room (run_firstCells_some (P := Try.prog) w 1 m ad m c (bcells news) (by rw [bcells_len]; omega) (fun j u hj => ?_)) hroom
      have hpos : 0 < m := by have := (List.getElem?_eq_some_iff.1 hj).1; rw [bcells_len] at this; omega
      obtain ⟨ad', e, _, hcell⟩ := hr.2 hpos
      injection e with e
      subst e
      exact hcell j u hj
  · cases A with
    | none =>
      have h0 : m = 0 := by
        rcases Nat.eq_zero_or_pos m with h | h
        · exact h
        · obtain ⟨ad, e, _⟩ := hr.2 h
          cases e
      omega
    | some ad =>
      have holds : ∀ j u, (bcells l)[j]? = some u → w.cell? ((⟨g, 0, none⟩ : Addr).add j) = some u := by
        intro j u hu
        have hadd : (⟨g, 0, none⟩ : Addr).add j = ⟨g, j, none⟩ := by unfold Addr.add; split <;> simp_all
        rw [hadd, cell_of_row w g j cur 5 fz hg]
        rw [← ht, List.getElem?_take] at hu
        split at hu
        · simpa using hu
        · cases hu
      have hcells : ∀ j u, (bcells news)[j]? = some u → w.cell? (ad.add j) = some u := by
        intro j u hj
        have hpos : 0 < m := by have := (List.getElem?_eq_some_iff.1 hj).1; rw [bcells_len] at this; omega
        obtain ⟨ad', e, _, hcell⟩ := hr.2 hpos
        injection e with e
        subst e
        exact hcell j u hj
      have hrun := run_append_grow (P := Try.prog) w 22 ty 5 i0 (.int .u8 0) Try.underlying22 hi0 hz0 ⟨g, 0, none⟩ l.length cap (bcells l) (by rw [bcells_len, hz1, Nat.mul_one]) holds ad m c (bcells news) hl0 hcells (by omega) (by omega) (by rw [hz2]; exact growslice_fits (by omega) (by omega))
      have hge := grownCap_ge w (l.length + m) cap 5
      have hcm2 : grownCap w (l.length + m) cap 5 ≤ maxLen := grownCap_le_maxLen w (l.length + m) cap 5 (by simp only [maxLen]; omega)
      refine ⟨_, _, hrun, ⟨w.heap.size, _, _, (0, 0), by rw [List.length_append, hm], hB, heap_alloc_new w.drew _, .inr rfl, by rw [List.length_append, hm]; exact hge, hcm2, ?_, ?_⟩, ((Below.refl B w).drew).alloc hB _⟩
      · have hz1 : (Value.int IntKind.u8 0).cells.size = 1 := rfl
        simp only [Array.size_append, List.size_toArray, size_zeroCells, hz1, bcells_len]
        omega
      · have e : bcells (l ++ news) = bcells l ++ bcells news := by simp [bcells]
        have hl : (l ++ news).length = (bcells l ++ bcells news).length := by simp [bcells_len]
        simp only [Array.toList_append, List.append_assoc]
        rw [e, hl, ← List.append_assoc]
        exact List.take_left
theorem wpList_pushM (w : World) {ops : Array Oper} {rest : List Oper} {o : Oper} {a : Act} {Q : Exit → Act → World → Prop} (hgd : o.guard = none) (s x : Operand)
    (ho : o.op = .call { callee := .builtin .append, args := #[s, x], argTypes := #[22, 22] })
    (B : Nat) (v : Value) (l : List UInt8) (hs : a.eval s = v) (hown : OwnM w B v l) (R : Nat) (A : Option Addr) (m c : Nat) (news : List UInt8) (hx : a.eval x = .slice A m c) (hr : Reads w R 1 A m (bcells news))
    (hlim : l.length + m ≤ 1099511627776) (hB : B ≤ w.heap.size)
    (h : ∀ v' w', OwnM w' B v' (l ++ news) → Below B w w' → wpList Try.prog ops Q rest (a.put o.dst v') w') : wpList Try.prog ops Q (o :: rest) a w := by
  refine wpList_plain hgd fun K hK => ?_
  obtain ⟨v', w', h1, h2, h3⟩ := run_pushM w B v l hown R A m c news hr o.type hlim hB
  unfold Oper.wp execOp
  simp only [ho, resolve, invoke, builtin, Sem.run_bind, Sem.run_pure, Result.andThen_ok, List.map_toArray, List.map_cons, List.map_nil, hs, hx, h1]
  exact hK _ _ (h v' w' h2 h3)
/-- a text's bytes behind -/
theorem run_pushMS (w : World) (B : Nat) (v : Value) (l : List UInt8) (hown : OwnM w B v l) (t : ByteArray) (ty : TypeId) (hlim : l.length + t.size ≤ 1099511627776) (hB : B ≤ w.heap.size) :
    ∃ v' w', (Builtin.append_ #[22, 9] ty #[v, .string t]).run Try.prog w = .ok v' w' ∧ OwnM w' B v' (l ++ t.toList) ∧ Below B w w' := by
  obtain ⟨i0, hi0, hz0, hz1, hz2⟩ := info_parts u8Info
  have hsc : Lib.strCells t = bcells t.toList := by unfold Lib.strCells bcells; rw [ByteArray.toList_eq]
  have htl : t.toList.length = t.size := by rw [ByteArray.toList_eq]; simp
  obtain ⟨g, cap, cur, fz, rfl, hb, hg, hfz, hnc, hcm, hcs, ht⟩ := hown
  have hkeep : ∀ cur', Below B w (w.setRow g cur') := fun cur' => ⟨rfl, rfl, rfl, by simp, fun k hk => setRow_other w g k _ (by omega)⟩
  by_cases hroom : l.length + t.size ≤ cap
  · have hf := Lib.run_firstCells_string (P := Try.prog) w 1 t
    rw [hsc] at hf
    have hst := storeM g fz (bcells t.toList) l.length 0 cur w hg hfz (by rw [bcells_len]; omega) (bcells_one _)
    simp only [Nat.add_zero, bcells_len, htl] at hst
    have hrw := rowM w g t.size cur fz t.toList l hg ht (by omega)
    rw [htl] at hrw
    refine ⟨_, _, (by simp [Builtin.append_, run_underlying Try.underlying22, run_underlying Try.underlying9, sizeOf, typeInfo, hi0, hz1, Builtin.lenOf, hroom, hf, Addr.add_lit, hst]; rfl), ⟨g, cap, _, fz, by rw [List.length_append, htl], hb, setRow_heap w g cur _ 5 _ hg, ?_, by rw [List.length_append]; omega, hcm, ?_, hrw.2⟩, hkeep _⟩
    · rw [hrw.1]; exact hfz
    · rw [hrw.1]; exact hcs
  · have holds : ∀ j u, (bcells l)[j]? = some u → w.cell? ((⟨g, 0, none⟩ : Addr).add j) = some u := by
      intro j u hu
      have hadd : (⟨g, 0, none⟩ : Addr).add j = ⟨g, j, none⟩ := by unfold Addr.add; split <;> simp_all
      rw [hadd, cell_of_row w g j cur 5 fz hg]
      rw [← ht, List.getElem?_take] at hu
      split at hu
      · simpa using hu
      · cases hu
    have hrun := Lib.run_append_grow_string (P := Try.prog) w 22 9 ty 5 i0 (.int .u8 0) Try.underlying22 Try.underlying9 hi0 hz0 ⟨g, 0, none⟩ l.length cap (bcells l) (by rw [bcells_len, hz1, Nat.mul_one]) holds t (by omega) (by omega) (by rw [hz2]; exact growslice_fits (by omega) (by omega))
    have hge := grownCap_ge w (l.length + t.size) cap 5
    have hcm2 : grownCap w (l.length + t.size) cap 5 ≤ maxLen := grownCap_le_maxLen w (l.length + t.size) cap 5 (by simp only [maxLen]; omega)
    refine ⟨_, _, hrun, ⟨w.heap.size, _, _, (0, 0), by rw [List.length_append, htl], hB, heap_alloc_new w.drew _, .inr rfl, by rw [List.length_append, htl]; exact hge, hcm2, ?_, ?_⟩, ((Below.refl B w).drew).alloc hB _⟩
    · have hz1 : (Value.int IntKind.u8 0).cells.size = 1 := rfl
      simp only [Array.size_append, List.size_toArray, size_zeroCells, hz1, bcells_len, hsc, htl]
      omega
    · have e : bcells (l ++ t.toList) = bcells l ++ bcells t.toList := by simp [bcells]
      have hl : (l ++ t.toList).length = (bcells l ++ bcells t.toList).length := by simp [bcells_len]
      simp only [Array.toList_append, List.append_assoc, hsc]
      rw [e, hl, ← List.append_assoc]
      exact List.take_left
theorem wpList_pushMS (w : World) {ops : Array Oper} {rest : List Oper} {o : Oper} {a : Act} {Q : Exit → Act → World → Prop} (hgd : o.guard = none) (s x : Operand)
    (ho : o.op = .call { callee := .builtin .append, args := #[s, x], argTypes := #[22, 9] })
    (B : Nat) (v : Value) (l : List UInt8) (hs : a.eval s = v) (hown : OwnM w B v l) (t : ByteArray) (hx : a.eval x = .string t)
    (hlim : l.length + t.size ≤ 1099511627776) (hB : B ≤ w.heap.size)
    (h : ∀ v' w', OwnM w' B v' (l ++ t.toList) → Below B w w' → wpList Try.prog ops Q rest (a.put o.dst v') w') : wpList Try.prog ops Q (o :: rest) a w := by
  refine wpList_plain hgd fun K hK => ?_
  obtain ⟨v', w', h1, h2, h3⟩ := run_pushMS w B v l hown t o.type hlim hB
  unfold Oper.wp execOp
  simp only [ho, resolve, invoke, builtin, Sem.run_bind, Sem.run_pure, Result.andThen_ok, List.map_toArray, List.map_cons, List.map_nil, hs, hx, h1]
  exact hK _ _ (h v' w' h2 h3)
/-- []byte(s), as bytes of the call's own -/
theorem wpList_ownM (w : World) {ops : Array Oper} {rest : List Oper} {o : Oper} {a : Act} {Q : Exit → Act → World → Prop} (hgd : o.guard = none) (x : Operand) (hop : o.op = Op.convert 9 22 x) (s : ByteArray) (hx : a.eval x = .string s) (hlim : s.size ≤ 1099511627776) (B : Nat) (hB : B ≤ w.heap.size)
    (hK : ∀ v w', OwnM w' B v s.toList → Below w.heap.size w w' → wpList Try.prog ops Q rest (a.put o.dst v) w') : wpList Try.prog ops Q (o :: rest) a w := by
  refine wpList_plain hgd fun K hK' => ?_
  have hrun := run_bytes_of_string (P := Try.prog) w 9 22 5 s Try.underlying9 Try.underlying22 Try.underlying5
  have hge := grownCap_ge w s.size 0 5
  have hcm2 : grownCap w s.size 0 5 ≤ maxLen := grownCap_le_maxLen w s.size 0 5 (by simp only [maxLen]; omega)
  have htl : s.toList.length = s.size := by rw [ByteArray.toList_eq]; simp
  have hsz : (bytesRow s (grownCap w s.size 0 5)).size = grownCap w s.size 0 5 := by
    have : s.data.size = s.size := rfl
    unfold bytesRow; simp; omega
  unfold Oper.wp
  simp only [execOp, hop, hx, Sem.run_bind, hrun, Result.andThen, Sem.run_pure, Sem.run_map]
  refine hK' _ _ (hK _ _ ⟨w.heap.size, _, _, _, by rw [htl], hB, heap_alloc_new w.drew _, .inl (Nat.le_refl _), by rw [htl]; exact hge, hcm2, hsz, ?_⟩ (((Below.refl w.heap.size w).drew).alloc (Nat.le_refl _) _))
  rw [htl]
  unfold bytesRow bcells
  rw [Array.toList_append, ByteArray.toList_eq, List.take_append_of_le_length (by simp), List.take_of_length_le (by simp)]
  simp
end Go.Proofs.Ytjigceoponlphaa
/-! JsonBlanks: its walk. -/
namespace Go.Proofs.Ytjigceoponlphaa
open Go.RowKit Go.PlainAid
set_option linter.unusedVariables false
set_option linter.unusedSimpArgs false
theorem OwnM.bytes {w : World} {B : Nat} {v : Value} {l : List UInt8} (h : OwnM w B v l) : ∃ g cap, v = .slice (some ⟨g, 0, none⟩) l.length cap ∧ BytesAt w (some ⟨g, 0, none⟩) cap ⟨l.toArray⟩ := by
  obtain ⟨g, cap, cur, fz, rfl, hb, hg, hfz, hnc, hcm, hcs, ht⟩ := h
  refine ⟨g, cap, rfl, BytesAt.of_cells (fun _ => (Array.getElem?_eq_some_iff.1 hg).1) (fun i hi => ?_)⟩
  have hi' : i < l.length := by simpa [ByteArray.size] using hi
  rw [Nat.zero_add, cell_of_row w g i cur 5 fz hg]
  have h1 : (cur.toList.take l.length)[i]? = (bcells l)[i]? := by rw [ht]
  rw [List.getElem?_take, if_pos hi'] at h1
  have h2 : (bcells l)[i]? = some (.int .u8 l[i].toNat) := by unfold bcells; rw [List.getElem?_map, List.getElem?_eq_getElem hi']; rfl
  rw [h2] at h1
  have h3 := bt_eq ⟨l.toArray⟩ i l[i] (by rw [lit_toList]; exact List.getElem?_eq_getElem hi')
  rw [h3]
  simpa using h1
theorem OwnM.later {w w' : World} {B : Nat} {v : Value} {l : List UInt8} (h : OwnM w B v l) (hb : Below w.heap.size w w') : OwnM w' B v l := by
  obtain ⟨g, cap, cur, fz, rfl, h1, hg, h2⟩ := h
  exact ⟨g, cap, cur, fz, rfl, h1, (hb.block g (Array.getElem?_eq_some_iff.1 hg).1).trans hg, h2⟩
theorem reads_arg {w : World} {a : Option Addr} {s : ByteArray} (h : 0 < s.size → ∃ b off, a = some ⟨b, off, none⟩ ∧ b < w.heap.size ∧ ∀ i, i < s.size → w.cell? ⟨b, off + i, none⟩ = some (.int .u8 (bt s i))) : Reads w w.heap.size 1 a s.size (bcells s.toList) := by
  refine ⟨by rw [bcells_len, tl_len', Nat.mul_one], fun hn => ?_⟩
  obtain ⟨b, off, rfl, hb, hc⟩ := h hn
  refine ⟨_, rfl, hb, fun j u hj => ?_⟩
  have hjl : j < s.size := by have := (List.getElem?_eq_some_iff.1 hj).1; rw [bcells_len, tl_len'] at this; exact this
  have hadd : (⟨b, off, none⟩ : Addr).add j = ⟨b, off + j, none⟩ := by unfold Addr.add; split <;> simp_all
  rw [hadd, hc j hjl]
  have hl : j < s.toList.length := by rw [tl_len']; exact hjl
  have h2 : (bcells s.toList)[j]? = some (.int .u8 s.toList[j].toNat) := by unfold bcells; rw [List.getElem?_map, List.getElem?_eq_getElem hl]; rfl
  rw [h2] at hj
  injection hj with hj
  rw [← hj, bt_eq s j s.toList[j] (List.getElem?_eq_getElem hl)]
theorem ownM_empty (w : World) (B : Nat) (hB : B ≤ w.heap.size) : OwnM (w.alloc (.cells #[] 5)) B (.slice (some ⟨w.heap.size, 0, none⟩) 0 0) [] :=
  ⟨w.heap.size, 0, #[], (0, 0), rfl, hB, heap_alloc_new w _, .inl (by simp), Nat.le_refl _, by simp [maxLen], rfl, rfl⟩
theorem u8_rng9 {n : Int} (h : (Lit.int .u8 n).wf = true) : 0 ≤ n ∧ n < 256 := by
  simp [Lit.wf, IntKind.min, IntKind.max, IntKind.signed, IntKind.bits] at h; omega
theorem bz_cut (k : Nat) : Bz ((⟨#[32, 9, 10, 13, 32, 10, 9, 13]⟩ : ByteArray).extract 0 k).toList := by
  intro c hc
  have e := extract_toList (⟨#[32, 9, 10, 13, 32, 10, 9, 13]⟩ : ByteArray) 0 k
  rw [Nat.zero_add] at e
  rw [e, lit_toList [32, 9, 10, 13, 32, 10, 9, 13]] at hc
  have hm := List.mem_of_mem_take hc
  simp at hm
  rcases hm with rfl | rfl | rfl | rfl | rfl | rfl | rfl | rfl <;> decide
theorem cut_size (k : Nat) : ((⟨#[32, 9, 10, 13, 32, 10, 9, 13]⟩ : ByteArray).extract 0 k).size ≤ 8 := by
  rw [← tl_len']
  have e := extract_toList (⟨#[32, 9, 10, 13, 32, 10, 9, 13]⟩ : ByteArray) 0 k
  rw [Nat.zero_add] at e
  rw [e, List.length_take, List.drop_zero, lit_toList [32, 9, 10, 13, 32, 10, 9, 13]]
  simp; omega
theorem reads_one (x : World) (n : Int) (u : UInt8) (h : n = u.toNat) : Reads (x.alloc (.cells #[.int .u8 n] 5)) (x.heap.size + 1) 1 (some ⟨x.heap.size, 0, none⟩) 1 (bcells [u]) := by
  refine ⟨by simp [bcells], fun _ => ⟨_, rfl, Nat.lt_succ_self _, fun j v hj => ?_⟩⟩
  have hj1 : j = 0 := by
    have := (List.getElem?_eq_some_iff.1 hj).1
    simp [bcells] at this
    omega
  subst hj1
  simp only [bcells, List.map_cons, List.map_nil, List.getElem?_cons_zero, Option.some.injEq] at hj
  subst hj h
  have e : (⟨x.heap.size, 0, none⟩ : Addr).add 0 = ⟨x.heap.size, 0, none⟩ := by simp [Addr.add]
  rw [e, cell_of_row _ x.heap.size 0 #[.int .u8 u.toNat] 5 (0, 0) (heap_alloc_new x _)]
  rfl
set_option maxRecDepth 100000 in
set_option maxHeartbeats 4000000 in
theorem jsonBlanks_walk (a0 : Option Addr) (len cap : Nat) (zs : List Int) (n1 n2 n3 : Int) (w : World) (w0 : IsRow .u8 w a0 len cap zs) (w1 : (Lit.int .u8 n1).wf = true) (w2 : (Lit.int .u8 n2).wf = true) (w3 : (Lit.int .u8 n3).wf = true) :
    Calls Try.prog 4 #[.slice a0 len cap, .int .u8 n1, .int .u8 n2, .int .u8 n3] w fun e w' => e = .returned (.bool true) ∧ Below w.heap.size w w' := by
  obtain ⟨s, rfl, hby, hcap, hmax, _, hcells⟩ := BytesAt.of_arg w0
  have hrd := reads_arg hcells
  clear w0 hcells
  obtain ⟨a1, b1⟩ := u8_rng9 w1
  obtain ⟨a2, b2⟩ := u8_rng9 w2
  obtain ⟨a3, b3⟩ := u8_rng9 w3
  clear w1 w2 w3
  have hW := Below.refl w.heap.size w
  by_cases hl : s.size ≤ 3000
  case neg =>
    have hli : (3000 : Int) < (s.size : Int) := by omega
    clear hby hrd
    go_enter Try.func4, Try.ntmps4
    go_wp2_with (go_at_call 12; refine (awake7_any _).mono ?_; rintro e w1 ⟨rfl, hw1⟩; (first | replace hW := nextB hW hw1 | replace hW := nextA hW hw1 | replace hW := nextB hW.drew hw1 | replace hW := nextAA hW hw1 | replace hW := nextAD hW hw1); clear hw1)
    go_ret
    exact ⟨rfl, hW⟩
  have hli : ¬ (3000 : Int) < (s.size : Int) := by omega
  obtain ⟨ka, hka⟩ : ∃ k : Nat, (k : Int) = n1 % 9 := ⟨(n1 % 9).toNat, by omega⟩
  obtain ⟨kb, hkb⟩ : ∃ k : Nat, (k : Int) = n2 % 9 := ⟨(n2 % 9).toNat, by omega⟩
  have ra : n1.tmod 9 = ka := by rw [hka]; exact Int.tmod_eq_emod_of_nonneg a1
  have rb : n2.tmod 9 = kb := by rw [hkb]; exact Int.tmod_eq_emod_of_nonneg a2
  have ka8 : ka ≤ 8 := by omega
  have kb8 : kb ≤ 8 := by omega
  have wa : IntKind.i64.wrap n1 = n1 := IntWalk.i64_in _ (by omega)
  have wb : IntKind.i64.wrap n2 = n2 := IntWalk.i64_in _ (by omega)
  have ia0 : (0 : Int) ≤ (ka : Int) := by omega
  have ib0 : (0 : Int) ≤ (kb : Int) := by omega
  have ia1 : (ka : Int) ≤ 8 := by omega
  have ib1 : (kb : Int) ≤ 8 := by omega
  have zs8 : (⟨#[32, 9, 10, 13, 32, 10, 9, 13]⟩ : ByteArray).size = 8 := rfl
  have hzA := cut_size ka
  have hzB := cut_size kb
  have hpx := parse_blanks ((⟨#[32, 9, 10, 13, 32, 10, 9, 13]⟩ : ByteArray).extract 0 ka).toList s.toList ((⟨#[32, 9, 10, 13, 32, 10, 9, 13]⟩ : ByteArray).extract 0 kb).toList (bz_cut ka) (bz_cut kb) (by rw [tl_len', tl_len', tl_len']; omega)
  have HBY := Lib.hid hby
  have HRD := Lib.hid hrd
  have HPX0 := Lib.hid hpx
  obtain ⟨u, hu⟩ : ∃ u : UInt8, n3 = (u.toNat : Int) := ⟨UInt8.ofNat n3.toNat, by rw [toNat_ofNat n3 a3 b3]⟩
  have hbl := blankB_eq u n3 hu
  have HBL := Lib.hid hbl
  have HU := Lib.hid hu
  clear hka hkb hpx hby hrd hbl hu a1 b1 a2 b2
  cases hr : parseL s.toList with
  | error c =>
    have hce := parse_err hr
    have hc0 : ¬ c = 0 := by omega
    have HPB : Hid (∀ w', Below w.heap.size w w' → Calls Try.prog 13 #[.slice a0 s.size cap] w' (PEnd (.error c) w')) := fun w' hb => by
      have := parse_law s a0 cap w' (HBY.out.later hb)
      rw [hr] at this
      exact this
    rw [hr] at HPX0
    have HPX := Lib.hid (parse_free ⟨(((⟨#[32, 9, 10, 13, 32, 10, 9, 13]⟩ : ByteArray).extract 0 ka).toList ++ s.toList ++ ((⟨#[32, 9, 10, 13, 32, 10, 9, 13]⟩ : ByteArray).extract 0 kb).toList).toArray⟩ (.error c) (by rw [lit_toList]; exact HPX0.out))
    clear HPX0
    by_cases q32 : n3 = 32
    · subst q32
      clear HBL HU hr HBY
      go_enter Try.func4, Try.ntmps4
      go_wp2_with (first
        | (with_reducible refine wpList_ownM _ rfl (.tmp 26) rfl _ rfl (by omega) w.heap.size (Nat.le_refl _) ?_; intro v1 x1 o1 k1; have O1 := Lib.hid o1; have K1 := Lib.hid k1; clear o1 k1)
        | (at_builtin; refine wpList_pushM _ rfl _ _ rfl w.heap.size _ _ rfl O1.out w.heap.size a0 s.size cap s.toList rfl (HRD.out.below K1.out) (by rw [tl_len']; omega) K1.out.size ?_; intro v2 x2 o2 k2; have O2 := Lib.hid o2; have K2 := Lib.hid (K1.out.trans k2); clear o2 k2 O1)
        | (at_builtin; refine wpList_pushMS _ rfl _ _ rfl w.heap.size _ _ rfl O2.out _ rfl (by rw [List.length_append, tl_len', tl_len']; omega) K2.out.size ?_; intro v3 x3 o3 k3; have O3 := Lib.hid o3; have K3 := Lib.hid (K2.out.trans k3); clear o3 k3 O2))
      obtain ⟨g3, cp3, rfl, hbx⟩ := O3.out.bytes
      have HBX := Lib.hid hbx
      clear hbx O3 zs8 hzA hzB ka8 kb8
      refine (HPB.out x3 K3.out : Calls _ _ _ _ _).mono ?_; rintro e w5 ⟨rfl, hw5⟩
      have hA1 : Below x3.heap.size x3 (w5.alloc (.cells #[.int .i64 0, .int .i64 0, .string ⟨#[]⟩, .slice none 0 0, .slice none 0 0] 27)) := hw5.alloc hw5.size _
      have HBY1 := Lib.hid (HBX.out.later hA1)
      have K4 := Lib.hid (K3.out.trans (hA1.mono K3.out.size))
      have B1 := Lib.hid (Blk.new w5 27 #[.int .i64 0, .int .i64 0, .string ⟨#[]⟩, .slice none 0 0, .slice none 0 0])
      clear hA1 hw5 HBX K3
      go_wp2_with fail
      generalize w5.alloc (.cells #[.int .i64 0, .int .i64 0, .string ⟨#[]⟩, .slice none 0 0, .slice none 0 0] 27) = y1 at *
      refine (HPX.out y1 _ _ _ (by simp [ByteArray.size]) HBY1.out : Calls _ _ _ _ _).mono ?_; rintro e w6 ⟨rfl, hw6⟩
      have hA2 : Below y1.heap.size y1 (w6.alloc (.cells #[.int .i64 0, .int .i64 0, .string ⟨#[]⟩, .slice none 0 0, .slice none 0 0] 27)) := hw6.alloc hw6.size _
      have K5 := Lib.hid (K4.out.trans (hA2.mono K4.out.size))
      have B2 := Lib.hid (Blk.new w6 27 #[.int .i64 0, .int .i64 0, .string ⟨#[]⟩, .slice none 0 0, .slice none 0 0])
      have B1' := B1.out.below hA2 B1.out.lt
      obtain ⟨p0, p1, p2, p3, p4⟩ := B1'.cells5
      have BB1 := Lib.hid B1'
      clear hA2 hw6 B1 K4 B1' HBY1
      go_wp2_with fail
      have HS := Lib.hid (rSame_any (nd0 0).count (nd0 0) (nd0 0) _ _ _ _ (Nat.le_refl _) (nds_plain (w6.alloc (.cells #[.int .i64 0, .int .i64 0, .string ⟨#[]⟩, .slice none 0 0, .slice none 0 0] 27)) _ 0 0 ⟨#[]⟩ (by unfold I64; omega) (by unfold I64; omega) (by decide)) (nds_plain (w6.alloc (.cells #[.int .i64 0, .int .i64 0, .string ⟨#[]⟩, .slice none 0 0, .slice none 0 0] 27)) _ 0 0 ⟨#[]⟩ (by unfold I64; omega) (by unfold I64; omega) (by decide)) (Nat.le_refl _))
      rw [sameN_refl] at HS
      refine (HS.out : Calls _ _ _ _ _).mono ?_; rintro e w7 ⟨rfl, hw7⟩
      have K6 := Lib.hid (K5.out.trans (hw7.mono K5.out.size))
      have BB2 := BB1.out.below hw7 BB1.out.lt
      obtain ⟨p0, p1, p2, p3, p4⟩ := BB2.cells5
      clear hw7 HS K5 BB1 B2
      have hW := K6.out
      go_wp2_with (go_at_call 12; refine (awake7_any _).mono ?_; rintro e w1 ⟨rfl, hw1⟩; (first | replace hW := nextB hW hw1 | replace hW := nextA hW hw1 | replace hW := nextB hW.drew hw1 | replace hW := nextAA hW hw1 | replace hW := nextAD hW hw1); clear hw1)
      go_ret
      exact ⟨rfl, hW⟩
    have m32 : (n3 == 32) = false := by rw [beq_eq_false_iff_ne]; exact q32
    by_cases q9 : n3 = 9
    · subst q9
      clear HBL HU hr HBY
      go_enter Try.func4, Try.ntmps4
      go_wp2_with (first
        | (with_reducible refine wpList_ownM _ rfl (.tmp 26) rfl _ rfl (by omega) w.heap.size (Nat.le_refl _) ?_; intro v1 x1 o1 k1; have O1 := Lib.hid o1; have K1 := Lib.hid k1; clear o1 k1)
        | (at_builtin; refine wpList_pushM _ rfl _ _ rfl w.heap.size _ _ rfl O1.out w.heap.size a0 s.size cap s.toList rfl (HRD.out.below K1.out) (by rw [tl_len']; omega) K1.out.size ?_; intro v2 x2 o2 k2; have O2 := Lib.hid o2; have K2 := Lib.hid (K1.out.trans k2); clear o2 k2 O1)
        | (at_builtin; refine wpList_pushMS _ rfl _ _ rfl w.heap.size _ _ rfl O2.out _ rfl (by rw [List.length_append, tl_len', tl_len']; omega) K2.out.size ?_; intro v3 x3 o3 k3; have O3 := Lib.hid o3; have K3 := Lib.hid (K2.out.trans k3); clear o3 k3 O2))
      obtain ⟨g3, cp3, rfl, hbx⟩ := O3.out.bytes
      have HBX := Lib.hid hbx
      clear hbx O3 zs8 hzA hzB ka8 kb8
      refine (HPB.out x3 K3.out : Calls _ _ _ _ _).mono ?_; rintro e w5 ⟨rfl, hw5⟩
      have hA1 : Below x3.heap.size x3 (w5.alloc (.cells #[.int .i64 0, .int .i64 0, .string ⟨#[]⟩, .slice none 0 0, .slice none 0 0] 27)) := hw5.alloc hw5.size _
      have HBY1 := Lib.hid (HBX.out.later hA1)
      have K4 := Lib.hid (K3.out.trans (hA1.mono K3.out.size))
      have B1 := Lib.hid (Blk.new w5 27 #[.int .i64 0, .int .i64 0, .string ⟨#[]⟩, .slice none 0 0, .slice none 0 0])
      clear hA1 hw5 HBX K3
      go_wp2_with fail
      generalize w5.alloc (.cells #[.int .i64 0, .int .i64 0, .string ⟨#[]⟩, .slice none 0 0, .slice none 0 0] 27) = y1 at *
      refine (HPX.out y1 _ _ _ (by simp [ByteArray.size]) HBY1.out : Calls _ _ _ _ _).mono ?_; rintro e w6 ⟨rfl, hw6⟩
      have hA2 : Below y1.heap.size y1 (w6.alloc (.cells #[.int .i64 0, .int .i64 0, .string ⟨#[]⟩, .slice none 0 0, .slice none 0 0] 27)) := hw6.alloc hw6.size _
      have K5 := Lib.hid (K4.out.trans (hA2.mono K4.out.size))
      have B2 := Lib.hid (Blk.new w6 27 #[.int .i64 0, .int .i64 0, .string ⟨#[]⟩, .slice none 0 0, .slice none 0 0])
      have B1' := B1.out.below hA2 B1.out.lt
      obtain ⟨p0, p1, p2, p3, p4⟩ := B1'.cells5
      have BB1 := Lib.hid B1'
      clear hA2 hw6 B1 K4 B1' HBY1
      go_wp2_with fail
      have HS := Lib.hid (rSame_any (nd0 0).count (nd0 0) (nd0 0) _ _ _ _ (Nat.le_refl _) (nds_plain (w6.alloc (.cells #[.int .i64 0, .int .i64 0, .string ⟨#[]⟩, .slice none 0 0, .slice none 0 0] 27)) _ 0 0 ⟨#[]⟩ (by unfold I64; omega) (by unfold I64; omega) (by decide)) (nds_plain (w6.alloc (.cells #[.int .i64 0, .int .i64 0, .string ⟨#[]⟩, .slice none 0 0, .slice none 0 0] 27)) _ 0 0 ⟨#[]⟩ (by unfold I64; omega) (by unfold I64; omega) (by decide)) (Nat.le_refl _))
      rw [sameN_refl] at HS
      refine (HS.out : Calls _ _ _ _ _).mono ?_; rintro e w7 ⟨rfl, hw7⟩
      have K6 := Lib.hid (K5.out.trans (hw7.mono K5.out.size))
      have BB2 := BB1.out.below hw7 BB1.out.lt
      obtain ⟨p0, p1, p2, p3, p4⟩ := BB2.cells5
      clear hw7 HS K5 BB1 B2
      have hW := K6.out
      go_wp2_with (go_at_call 12; refine (awake7_any _).mono ?_; rintro e w1 ⟨rfl, hw1⟩; (first | replace hW := nextB hW hw1 | replace hW := nextA hW hw1 | replace hW := nextB hW.drew hw1 | replace hW := nextAA hW hw1 | replace hW := nextAD hW hw1); clear hw1)
      go_ret
      exact ⟨rfl, hW⟩
    have m9 : (n3 == 9) = false := by rw [beq_eq_false_iff_ne]; exact q9
    by_cases q10 : n3 = 10
    · subst q10
      clear HBL HU hr HBY
      go_enter Try.func4, Try.ntmps4
      go_wp2_with (first
        | (with_reducible refine wpList_ownM _ rfl (.tmp 26) rfl _ rfl (by omega) w.heap.size (Nat.le_refl _) ?_; intro v1 x1 o1 k1; have O1 := Lib.hid o1; have K1 := Lib.hid k1; clear o1 k1)
        | (at_builtin; refine wpList_pushM _ rfl _ _ rfl w.heap.size _ _ rfl O1.out w.heap.size a0 s.size cap s.toList rfl (HRD.out.below K1.out) (by rw [tl_len']; omega) K1.out.size ?_; intro v2 x2 o2 k2; have O2 := Lib.hid o2; have K2 := Lib.hid (K1.out.trans k2); clear o2 k2 O1)
        | (at_builtin; refine wpList_pushMS _ rfl _ _ rfl w.heap.size _ _ rfl O2.out _ rfl (by rw [List.length_append, tl_len', tl_len']; omega) K2.out.size ?_; intro v3 x3 o3 k3; have O3 := Lib.hid o3; have K3 := Lib.hid (K2.out.trans k3); clear o3 k3 O2))
      obtain ⟨g3, cp3, rfl, hbx⟩ := O3.out.bytes
      have HBX := Lib.hid hbx
      clear hbx O3 zs8 hzA hzB ka8 kb8
      refine (HPB.out x3 K3.out : Calls _ _ _ _ _).mono ?_; rintro e w5 ⟨rfl, hw5⟩
      have hA1 : Below x3.heap.size x3 (w5.alloc (.cells #[.int .i64 0, .int .i64 0, .string ⟨#[]⟩, .slice none 0 0, .slice none 0 0] 27)) := hw5.alloc hw5.size _
      have HBY1 := Lib.hid (HBX.out.later hA1)
      have K4 := Lib.hid (K3.out.trans (hA1.mono K3.out.size))
      have B1 := Lib.hid (Blk.new w5 27 #[.int .i64 0, .int .i64 0, .string ⟨#[]⟩, .slice none 0 0, .slice none 0 0])
      clear hA1 hw5 HBX K3
      go_wp2_with fail
      generalize w5.alloc (.cells #[.int .i64 0, .int .i64 0, .string ⟨#[]⟩, .slice none 0 0, .slice none 0 0] 27) = y1 at *
      refine (HPX.out y1 _ _ _ (by simp [ByteArray.size]) HBY1.out : Calls _ _ _ _ _).mono ?_; rintro e w6 ⟨rfl, hw6⟩
      have hA2 : Below y1.heap.size y1 (w6.alloc (.cells #[.int .i64 0, .int .i64 0, .string ⟨#[]⟩, .slice none 0 0, .slice none 0 0] 27)) := hw6.alloc hw6.size _
      have K5 := Lib.hid (K4.out.trans (hA2.mono K4.out.size))
      have B2 := Lib.hid (Blk.new w6 27 #[.int .i64 0, .int .i64 0, .string ⟨#[]⟩, .slice none 0 0, .slice none 0 0])
      have B1' := B1.out.below hA2 B1.out.lt
      obtain ⟨p0, p1, p2, p3, p4⟩ := B1'.cells5
      have BB1 := Lib.hid B1'
      clear hA2 hw6 B1 K4 B1' HBY1
      go_wp2_with fail
      have HS := Lib.hid (rSame_any (nd0 0).count (nd0 0) (nd0 0) _ _ _ _ (Nat.le_refl _) (nds_plain (w6.alloc (.cells #[.int .i64 0, .int .i64 0, .string ⟨#[]⟩, .slice none 0 0, .slice none 0 0] 27)) _ 0 0 ⟨#[]⟩ (by unfold I64; omega) (by unfold I64; omega) (by decide)) (nds_plain (w6.alloc (.cells #[.int .i64 0, .int .i64 0, .string ⟨#[]⟩, .slice none 0 0, .slice none 0 0] 27)) _ 0 0 ⟨#[]⟩ (by unfold I64; omega) (by unfold I64; omega) (by decide)) (Nat.le_refl _))
      rw [sameN_refl] at HS
      refine (HS.out : Calls _ _ _ _ _).mono ?_; rintro e w7 ⟨rfl, hw7⟩
      have K6 := Lib.hid (K5.out.trans (hw7.mono K5.out.size))
      have BB2 := BB1.out.below hw7 BB1.out.lt
      obtain ⟨p0, p1, p2, p3, p4⟩ := BB2.cells5
      clear hw7 HS K5 BB1 B2
      have hW := K6.out
      go_wp2_with (go_at_call 12; refine (awake7_any _).mono ?_; rintro e w1 ⟨rfl, hw1⟩; (first | replace hW := nextB hW hw1 | replace hW := nextA hW hw1 | replace hW := nextB hW.drew hw1 | replace hW := nextAA hW hw1 | replace hW := nextAD hW hw1); clear hw1)
      go_ret
      exact ⟨rfl, hW⟩
    have m10 : (n3 == 10) = false := by rw [beq_eq_false_iff_ne]; exact q10
    by_cases q13 : n3 = 13
    · subst q13
      clear HBL HU hr HBY
      go_enter Try.func4, Try.ntmps4
      go_wp2_with (first
        | (with_reducible refine wpList_ownM _ rfl (.tmp 26) rfl _ rfl (by omega) w.heap.size (Nat.le_refl _) ?_; intro v1 x1 o1 k1; have O1 := Lib.hid o1; have K1 := Lib.hid k1; clear o1 k1)
        | (at_builtin; refine wpList_pushM _ rfl _ _ rfl w.heap.size _ _ rfl O1.out w.heap.size a0 s.size cap s.toList rfl (HRD.out.below K1.out) (by rw [tl_len']; omega) K1.out.size ?_; intro v2 x2 o2 k2; have O2 := Lib.hid o2; have K2 := Lib.hid (K1.out.trans k2); clear o2 k2 O1)
        | (at_builtin; refine wpList_pushMS _ rfl _ _ rfl w.heap.size _ _ rfl O2.out _ rfl (by rw [List.length_append, tl_len', tl_len']; omega) K2.out.size ?_; intro v3 x3 o3 k3; have O3 := Lib.hid o3; have K3 := Lib.hid (K2.out.trans k3); clear o3 k3 O2))
      obtain ⟨g3, cp3, rfl, hbx⟩ := O3.out.bytes
      have HBX := Lib.hid hbx
      clear hbx O3 zs8 hzA hzB ka8 kb8
      refine (HPB.out x3 K3.out : Calls _ _ _ _ _).mono ?_; rintro e w5 ⟨rfl, hw5⟩
      have hA1 : Below x3.heap.size x3 (w5.alloc (.cells #[.int .i64 0, .int .i64 0, .string ⟨#[]⟩, .slice none 0 0, .slice none 0 0] 27)) := hw5.alloc hw5.size _
      have HBY1 := Lib.hid (HBX.out.later hA1)
      have K4 := Lib.hid (K3.out.trans (hA1.mono K3.out.size))
      have B1 := Lib.hid (Blk.new w5 27 #[.int .i64 0, .int .i64 0, .string ⟨#[]⟩, .slice none 0 0, .slice none 0 0])
      clear hA1 hw5 HBX K3
      go_wp2_with fail
      generalize w5.alloc (.cells #[.int .i64 0, .int .i64 0, .string ⟨#[]⟩, .slice none 0 0, .slice none 0 0] 27) = y1 at *
      refine (HPX.out y1 _ _ _ (by simp [ByteArray.size]) HBY1.out : Calls _ _ _ _ _).mono ?_; rintro e w6 ⟨rfl, hw6⟩
      have hA2 : Below y1.heap.size y1 (w6.alloc (.cells #[.int .i64 0, .int .i64 0, .string ⟨#[]⟩, .slice none 0 0, .slice none 0 0] 27)) := hw6.alloc hw6.size _
      have K5 := Lib.hid (K4.out.trans (hA2.mono K4.out.size))
      have B2 := Lib.hid (Blk.new w6 27 #[.int .i64 0, .int .i64 0, .string ⟨#[]⟩, .slice none 0 0, .slice none 0 0])
      have B1' := B1.out.below hA2 B1.out.lt
      obtain ⟨p0, p1, p2, p3, p4⟩ := B1'.cells5
      have BB1 := Lib.hid B1'
      clear hA2 hw6 B1 K4 B1' HBY1
      go_wp2_with fail
      have HS := Lib.hid (rSame_any (nd0 0).count (nd0 0) (nd0 0) _ _ _ _ (Nat.le_refl _) (nds_plain (w6.alloc (.cells #[.int .i64 0, .int .i64 0, .string ⟨#[]⟩, .slice none 0 0, .slice none 0 0] 27)) _ 0 0 ⟨#[]⟩ (by unfold I64; omega) (by unfold I64; omega) (by decide)) (nds_plain (w6.alloc (.cells #[.int .i64 0, .int .i64 0, .string ⟨#[]⟩, .slice none 0 0, .slice none 0 0] 27)) _ 0 0 ⟨#[]⟩ (by unfold I64; omega) (by unfold I64; omega) (by decide)) (Nat.le_refl _))
      rw [sameN_refl] at HS
      refine (HS.out : Calls _ _ _ _ _).mono ?_; rintro e w7 ⟨rfl, hw7⟩
      have K6 := Lib.hid (K5.out.trans (hw7.mono K5.out.size))
      have BB2 := BB1.out.below hw7 BB1.out.lt
      obtain ⟨p0, p1, p2, p3, p4⟩ := BB2.cells5
      clear hw7 HS K5 BB1 B2
      have hW := K6.out
      go_wp2_with (go_at_call 12; refine (awake7_any _).mono ?_; rintro e w1 ⟨rfl, hw1⟩; (first | replace hW := nextB hW hw1 | replace hW := nextA hW hw1 | replace hW := nextB hW.drew hw1 | replace hW := nextAA hW hw1 | replace hW := nextAD hW hw1); clear hw1)
      go_ret
      exact ⟨rfl, hW⟩
    have m13 : (n3 == 13) = false := by rw [beq_eq_false_iff_ne]; exact q13
    clear HBL HU hr HBY
    go_enter Try.func4, Try.ntmps4
    go_wp2_with (first
      | (with_reducible refine wpList_ownM _ rfl (.tmp 26) rfl _ rfl (by omega) w.heap.size (Nat.le_refl _) ?_; intro v1 x1 o1 k1; have O1 := Lib.hid o1; have K1 := Lib.hid k1; clear o1 k1)
      | (at_builtin; refine wpList_pushM _ rfl _ _ rfl w.heap.size _ _ rfl O1.out w.heap.size a0 s.size cap s.toList rfl (HRD.out.below K1.out) (by rw [tl_len']; omega) K1.out.size ?_; intro v2 x2 o2 k2; have O2 := Lib.hid o2; have K2 := Lib.hid (K1.out.trans k2); clear o2 k2 O1)
      | (at_builtin; refine wpList_pushMS _ rfl _ _ rfl w.heap.size _ _ rfl O2.out _ rfl (by rw [List.length_append, tl_len', tl_len']; omega) K2.out.size ?_; intro v3 x3 o3 k3; have O3 := Lib.hid o3; have K3 := Lib.hid (K2.out.trans k3); clear o3 k3 O2))
    obtain ⟨g3, cp3, rfl, hbx⟩ := O3.out.bytes
    have HBX := Lib.hid hbx
    clear hbx O3 zs8 hzA hzB ka8 kb8
    refine (HPB.out x3 K3.out : Calls _ _ _ _ _).mono ?_; rintro e w5 ⟨rfl, hw5⟩
    have hA1 : Below x3.heap.size x3 (w5.alloc (.cells #[.int .i64 0, .int .i64 0, .string ⟨#[]⟩, .slice none 0 0, .slice none 0 0] 27)) := hw5.alloc hw5.size _
    have HBY1 := Lib.hid (HBX.out.later hA1)
    have K4 := Lib.hid (K3.out.trans (hA1.mono K3.out.size))
    have B1 := Lib.hid (Blk.new w5 27 #[.int .i64 0, .int .i64 0, .string ⟨#[]⟩, .slice none 0 0, .slice none 0 0])
    clear hA1 hw5 HBX K3
    go_wp2_with fail
    generalize w5.alloc (.cells #[.int .i64 0, .int .i64 0, .string ⟨#[]⟩, .slice none 0 0, .slice none 0 0] 27) = y1 at *
    refine (HPX.out y1 _ _ _ (by simp [ByteArray.size]) HBY1.out : Calls _ _ _ _ _).mono ?_; rintro e w6 ⟨rfl, hw6⟩
    have hA2 : Below y1.heap.size y1 (w6.alloc (.cells #[.int .i64 0, .int .i64 0, .string ⟨#[]⟩, .slice none 0 0, .slice none 0 0] 27)) := hw6.alloc hw6.size _
    have K5 := Lib.hid (K4.out.trans (hA2.mono K4.out.size))
    have B2 := Lib.hid (Blk.new w6 27 #[.int .i64 0, .int .i64 0, .string ⟨#[]⟩, .slice none 0 0, .slice none 0 0])
    have B1' := B1.out.below hA2 B1.out.lt
    obtain ⟨p0, p1, p2, p3, p4⟩ := B1'.cells5
    have BB1 := Lib.hid B1'
    clear hA2 hw6 B1 K4 B1' HBY1
    go_wp2_with fail
    have HS := Lib.hid (rSame_any (nd0 0).count (nd0 0) (nd0 0) _ _ _ _ (Nat.le_refl _) (nds_plain (w6.alloc (.cells #[.int .i64 0, .int .i64 0, .string ⟨#[]⟩, .slice none 0 0, .slice none 0 0] 27)) _ 0 0 ⟨#[]⟩ (by unfold I64; omega) (by unfold I64; omega) (by decide)) (nds_plain (w6.alloc (.cells #[.int .i64 0, .int .i64 0, .string ⟨#[]⟩, .slice none 0 0, .slice none 0 0] 27)) _ 0 0 ⟨#[]⟩ (by unfold I64; omega) (by unfold I64; omega) (by decide)) (Nat.le_refl _))
    rw [sameN_refl] at HS
    refine (HS.out : Calls _ _ _ _ _).mono ?_; rintro e w7 ⟨rfl, hw7⟩
    have K6 := Lib.hid (K5.out.trans (hw7.mono K5.out.size))
    have BB2 := BB1.out.below hw7 BB1.out.lt
    obtain ⟨p0, p1, p2, p3, p4⟩ := BB2.cells5
    clear hw7 HS K5 BB1 B2
    go_wp2_with fail
    refine (jnum_any _ _).mono ?_; rintro e w9 ⟨rfl, hw⟩; obtain rfl : _ = w9 := hw
    have hW := K6.out
    go_wp2_with (go_at_call 12; refine (awake7_any _).mono ?_; rintro e w1 ⟨rfl, hw1⟩; (first | replace hW := nextB hW hw1 | replace hW := nextA hW hw1 | replace hW := nextB hW.drew hw1 | replace hW := nextAA hW hw1 | replace hW := nextAD hW hw1); clear hw1)
    go_ret
    exact ⟨rfl, hW⟩
  | ok n =>
    have HPB : Hid (∀ w', Below w.heap.size w w' → Calls Try.prog 13 #[.slice a0 s.size cap] w' (PEnd (.ok n) w')) := fun w' hb => by
      have := parse_law s a0 cap w' (HBY.out.later hb)
      rw [hr] at this
      exact this
    rw [hr] at HPX0
    have HPX := Lib.hid (parse_free ⟨(((⟨#[32, 9, 10, 13, 32, 10, 9, 13]⟩ : ByteArray).extract 0 ka).toList ++ s.toList ++ ((⟨#[32, 9, 10, 13, 32, 10, 9, 13]⟩ : ByteArray).extract 0 kb).toList).toArray⟩ (.ok n) (by rw [lit_toList]; exact HPX0.out))
    clear HPX0
    by_cases q32 : n3 = 32
    · subst q32
      clear HBL HU hr HBY
      go_enter Try.func4, Try.ntmps4
      go_wp2_with (first
        | (with_reducible refine wpList_ownM _ rfl (.tmp 26) rfl _ rfl (by omega) w.heap.size (Nat.le_refl _) ?_; intro v1 x1 o1 k1; have O1 := Lib.hid o1; have K1 := Lib.hid k1; clear o1 k1)
        | (at_builtin; refine wpList_pushM _ rfl _ _ rfl w.heap.size _ _ rfl O1.out w.heap.size a0 s.size cap s.toList rfl (HRD.out.below K1.out) (by rw [tl_len']; omega) K1.out.size ?_; intro v2 x2 o2 k2; have O2 := Lib.hid o2; have K2 := Lib.hid (K1.out.trans k2); clear o2 k2 O1)
        | (at_builtin; refine wpList_pushMS _ rfl _ _ rfl w.heap.size _ _ rfl O2.out _ rfl (by rw [List.length_append, tl_len', tl_len']; omega) K2.out.size ?_; intro v3 x3 o3 k3; have O3 := Lib.hid o3; have K3 := Lib.hid (K2.out.trans k3); clear o3 k3 O2))
      obtain ⟨g3, cp3, rfl, hbx⟩ := O3.out.bytes
      have HBX := Lib.hid hbx
      clear hbx O3 zs8 hzA hzB ka8 kb8
      refine (HPB.out x3 K3.out : Calls _ _ _ _ _).mono ?_; rintro e w5 ⟨c0, c1, c2, c3, c4, c5, c6, c7, c8, rfl, hn1, hw5⟩
      have hA1 : Below x3.heap.size x3 (w5.alloc (.cells #[.int .i64 c0, .int .i64 c1, .string c2, .slice c3 c4 c5, .slice c6 c7 c8] 27)) := hw5.alloc hw5.size _
      have HBY1 := Lib.hid (HBX.out.later hA1)
      have K4 := Lib.hid (K3.out.trans (hA1.mono K3.out.size))
      have B1 := Lib.hid (Blk.new w5 27 #[.int .i64 c0, .int .i64 c1, .string c2, .slice c3 c4 c5, .slice c6 c7 c8])
      have HN1 := Lib.hid (NdIs.more (Nat.le_refl _) _ _ (NdIs.more (B' := (w5.alloc (.cells #[.int .i64 c0, .int .i64 c1, .string c2, .slice c3 c4 c5, .slice c6 c7 c8] 27)).heap.size) (by simp) _ _ (hn1.below (w' := w5.alloc (.cells #[.int .i64 c0, .int .i64 c1, .string c2, .slice c3 c4 c5, .slice c6 c7 c8] 27)) ((Below.refl _ _).alloc (Nat.le_refl _) _))))
      clear hn1
      clear hA1 hw5 HBX K3
      go_wp2_with fail
      generalize w5.alloc (.cells #[.int .i64 c0, .int .i64 c1, .string c2, .slice c3 c4 c5, .slice c6 c7 c8] 27) = y1 at *
      refine (HPX.out y1 _ _ _ (by simp [ByteArray.size]) HBY1.out : Calls _ _ _ _ _).mono ?_; rintro e w6 ⟨d0, d1, d2, d3, d4, d5, d6, d7, d8, rfl, hn2, hw6⟩
      have hA2 : Below y1.heap.size y1 (w6.alloc (.cells #[.int .i64 d0, .int .i64 d1, .string d2, .slice d3 d4 d5, .slice d6 d7 d8] 27)) := hw6.alloc hw6.size _
      have K5 := Lib.hid (K4.out.trans (hA2.mono K4.out.size))
      have B2 := Lib.hid (Blk.new w6 27 #[.int .i64 d0, .int .i64 d1, .string d2, .slice d3 d4 d5, .slice d6 d7 d8])
      have B1' := B1.out.below hA2 B1.out.lt
      have HN1' := Lib.hid (NdIs.more hA2.size _ _ (HN1.out.below hA2))
      have HN2 := Lib.hid (NdIs.more (B' := (w6.alloc (.cells #[.int .i64 d0, .int .i64 d1, .string d2, .slice d3 d4 d5, .slice d6 d7 d8] 27)).heap.size) (by simp) _ _ (hn2.below (w' := w6.alloc (.cells #[.int .i64 d0, .int .i64 d1, .string d2, .slice d3 d4 d5, .slice d6 d7 d8] 27)) ((Below.refl _ _).alloc (Nat.le_refl _) _)))
      clear hn2 HN1
      obtain ⟨p0, p1, p2, p3, p4⟩ := B1'.cells5
      have BB1 := Lib.hid B1'
      clear hA2 hw6 B1 K4 B1' HBY1
      go_wp2_with fail
      have HS := Lib.hid (rSame_any n.count n n _ _ _ _ (Nat.le_refl _) HN1'.out HN2.out (Nat.le_refl _))
      rw [sameN_refl] at HS
      refine (HS.out : Calls _ _ _ _ _).mono ?_; rintro e w7 ⟨rfl, hw7⟩
      have K6 := Lib.hid (K5.out.trans (hw7.mono K5.out.size))
      have BB2 := BB1.out.below hw7 BB1.out.lt
      obtain ⟨p0, p1, p2, p3, p4⟩ := BB2.cells5
      clear hw7 HS K5 BB1 B2
      have hW := K6.out
      go_wp2_with (go_at_call 12; refine (awake7_any _).mono ?_; rintro e w1 ⟨rfl, hw1⟩; (first | replace hW := nextB hW hw1 | replace hW := nextA hW hw1 | replace hW := nextB hW.drew hw1 | replace hW := nextAA hW hw1 | replace hW := nextAD hW hw1); clear hw1)
      go_ret
      exact ⟨rfl, hW⟩
    have m32 : (n3 == 32) = false := by rw [beq_eq_false_iff_ne]; exact q32
    by_cases q9 : n3 = 9
    · subst q9
      clear HBL HU hr HBY
      go_enter Try.func4, Try.ntmps4
      go_wp2_with (first
        | (with_reducible refine wpList_ownM _ rfl (.tmp 26) rfl _ rfl (by omega) w.heap.size (Nat.le_refl _) ?_; intro v1 x1 o1 k1; have O1 := Lib.hid o1; have K1 := Lib.hid k1; clear o1 k1)
        | (at_builtin; refine wpList_pushM _ rfl _ _ rfl w.heap.size _ _ rfl O1.out w.heap.size a0 s.size cap s.toList rfl (HRD.out.below K1.out) (by rw [tl_len']; omega) K1.out.size ?_; intro v2 x2 o2 k2; have O2 := Lib.hid o2; have K2 := Lib.hid (K1.out.trans k2); clear o2 k2 O1)
        | (at_builtin; refine wpList_pushMS _ rfl _ _ rfl w.heap.size _ _ rfl O2.out _ rfl (by rw [List.length_append, tl_len', tl_len']; omega) K2.out.size ?_; intro v3 x3 o3 k3; have O3 := Lib.hid o3; have K3 := Lib.hid (K2.out.trans k3); clear o3 k3 O2))
      obtain ⟨g3, cp3, rfl, hbx⟩ := O3.out.bytes
      have HBX := Lib.hid hbx
      clear hbx O3 zs8 hzA hzB ka8 kb8
      refine (HPB.out x3 K3.out : Calls _ _ _ _ _).mono ?_; rintro e w5 ⟨c0, c1, c2, c3, c4, c5, c6, c7, c8, rfl, hn1, hw5⟩
      have hA1 : Below x3.heap.size x3 (w5.alloc (.cells #[.int .i64 c0, .int .i64 c1, .string c2, .slice c3 c4 c5, .slice c6 c7 c8] 27)) := hw5.alloc hw5.size _
      have HBY1 := Lib.hid (HBX.out.later hA1)
      have K4 := Lib.hid (K3.out.trans (hA1.mono K3.out.size))
      have B1 := Lib.hid (Blk.new w5 27 #[.int .i64 c0, .int .i64 c1, .string c2, .slice c3 c4 c5, .slice c6 c7 c8])
      have HN1 := Lib.hid (NdIs.more (Nat.le_refl _) _ _ (NdIs.more (B' := (w5.alloc (.cells #[.int .i64 c0, .int .i64 c1, .string c2, .slice c3 c4 c5, .slice c6 c7 c8] 27)).heap.size) (by simp) _ _ (hn1.below (w' := w5.alloc (.cells #[.int .i64 c0, .int .i64 c1, .string c2, .slice c3 c4 c5, .slice c6 c7 c8] 27)) ((Below.refl _ _).alloc (Nat.le_refl _) _))))
      clear hn1
      clear hA1 hw5 HBX K3
      go_wp2_with fail
      generalize w5.alloc (.cells #[.int .i64 c0, .int .i64 c1, .string c2, .slice c3 c4 c5, .slice c6 c7 c8] 27) = y1 at *
      refine (HPX.out y1 _ _ _ (by simp [ByteArray.size]) HBY1.out : Calls _ _ _ _ _).mono ?_; rintro e w6 ⟨d0, d1, d2, d3, d4, d5, d6, d7, d8, rfl, hn2, hw6⟩
      have hA2 : Below y1.heap.size y1 (w6.alloc (.cells #[.int .i64 d0, .int .i64 d1, .string d2, .slice d3 d4 d5, .slice d6 d7 d8] 27)) := hw6.alloc hw6.size _
      have K5 := Lib.hid (K4.out.trans (hA2.mono K4.out.size))
      have B2 := Lib.hid (Blk.new w6 27 #[.int .i64 d0, .int .i64 d1, .string d2, .slice d3 d4 d5, .slice d6 d7 d8])
      have B1' := B1.out.below hA2 B1.out.lt
      have HN1' := Lib.hid (NdIs.more hA2.size _ _ (HN1.out.below hA2))
      have HN2 := Lib.hid (NdIs.more (B' := (w6.alloc (.cells #[.int .i64 d0, .int .i64 d1, .string d2, .slice d3 d4 d5, .slice d6 d7 d8] 27)).heap.size) (by simp) _ _ (hn2.below (w' := w6.alloc (.cells #[.int .i64 d0, .int .i64 d1, .string d2, .slice d3 d4 d5, .slice d6 d7 d8] 27)) ((Below.refl _ _).alloc (Nat.le_refl _) _)))
      clear hn2 HN1
      obtain ⟨p0, p1, p2, p3, p4⟩ := B1'.cells5
      have BB1 := Lib.hid B1'
      clear hA2 hw6 B1 K4 B1' HBY1
      go_wp2_with fail
      have HS := Lib.hid (rSame_any n.count n n _ _ _ _ (Nat.le_refl _) HN1'.out HN2.out (Nat.le_refl _))
      rw [sameN_refl] at HS
      refine (HS.out : Calls _ _ _ _ _).mono ?_; rintro e w7 ⟨rfl, hw7⟩
      have K6 := Lib.hid (K5.out.trans (hw7.mono K5.out.size))
      have BB2 := BB1.out.below hw7 BB1.out.lt
      obtain ⟨p0, p1, p2, p3, p4⟩ := BB2.cells5
      clear hw7 HS K5 BB1 B2
      have hW := K6.out
      go_wp2_with (go_at_call 12; refine (awake7_any _).mono ?_; rintro e w1 ⟨rfl, hw1⟩; (first | replace hW := nextB hW hw1 | replace hW := nextA hW hw1 | replace hW := nextB hW.drew hw1 | replace hW := nextAA hW hw1 | replace hW := nextAD hW hw1); clear hw1)
      go_ret
      exact ⟨rfl, hW⟩
    have m9 : (n3 == 9) = false := by rw [beq_eq_false_iff_ne]; exact q9
    by_cases q10 : n3 = 10
    · subst q10
      clear HBL HU hr HBY
      go_enter Try.func4, Try.ntmps4
      go_wp2_with (first
        | (with_reducible refine wpList_ownM _ rfl (.tmp 26) rfl _ rfl (by omega) w.heap.size (Nat.le_refl _) ?_; intro v1 x1 o1 k1; have O1 := Lib.hid o1; have K1 := Lib.hid k1; clear o1 k1)
        | (at_builtin; refine wpList_pushM _ rfl _ _ rfl w.heap.size _ _ rfl O1.out w.heap.size a0 s.size cap s.toList rfl (HRD.out.below K1.out) (by rw [tl_len']; omega) K1.out.size ?_; intro v2 x2 o2 k2; have O2 := Lib.hid o2; have K2 := Lib.hid (K1.out.trans k2); clear o2 k2 O1)
        | (at_builtin; refine wpList_pushMS _ rfl _ _ rfl w.heap.size _ _ rfl O2.out _ rfl (by rw [List.length_append, tl_len', tl_len']; omega) K2.out.size ?_; intro v3 x3 o3 k3; have O3 := Lib.hid o3; have K3 := Lib.hid (K2.out.trans k3); clear o3 k3 O2))
      obtain ⟨g3, cp3, rfl, hbx⟩ := O3.out.bytes
      have HBX := Lib.hid hbx
      clear hbx O3 zs8 hzA hzB ka8 kb8
      refine (HPB.out x3 K3.out : Calls _ _ _ _ _).mono ?_; rintro e w5 ⟨c0, c1, c2, c3, c4, c5, c6, c7, c8, rfl, hn1, hw5⟩
      have hA1 : Below x3.heap.size x3 (w5.alloc (.cells #[.int .i64 c0, .int .i64 c1, .string c2, .slice c3 c4 c5, .slice c6 c7 c8] 27)) := hw5.alloc hw5.size _
      have HBY1 := Lib.hid (HBX.out.later hA1)
      have K4 := Lib.hid (K3.out.trans (hA1.mono K3.out.size))
      have B1 := Lib.hid (Blk.new w5 27 #[.int .i64 c0, .int .i64 c1, .string c2, .slice c3 c4 c5, .slice c6 c7 c8])
      have HN1 := Lib.hid (NdIs.more (Nat.le_refl _) _ _ (NdIs.more (B' := (w5.alloc (.cells #[.int .i64 c0, .int .i64 c1, .string c2, .slice c3 c4 c5, .slice c6 c7 c8] 27)).heap.size) (by simp) _ _ (hn1.below (w' := w5.alloc (.cells #[.int .i64 c0, .int .i64 c1, .string c2, .slice c3 c4 c5, .slice c6 c7 c8] 27)) ((Below.refl _ _).alloc (Nat.le_refl _) _))))
      clear hn1
      clear hA1 hw5 HBX K3
      go_wp2_with fail
      generalize w5.alloc (.cells #[.int .i64 c0, .int .i64 c1, .string c2, .slice c3 c4 c5, .slice c6 c7 c8] 27) = y1 at *
      refine (HPX.out y1 _ _ _ (by simp [ByteArray.size]) HBY1.out : Calls _ _ _ _ _).mono ?_; rintro e w6 ⟨d0, d1, d2, d3, d4, d5, d6, d7, d8, rfl, hn2, hw6⟩
      have hA2 : Below y1.heap.size y1 (w6.alloc (.cells #[.int .i64 d0, .int .i64 d1, .string d2, .slice d3 d4 d5, .slice d6 d7 d8] 27)) := hw6.alloc hw6.size _
      have K5 := Lib.hid (K4.out.trans (hA2.mono K4.out.size))
      have B2 := Lib.hid (Blk.new w6 27 #[.int .i64 d0, .int .i64 d1, .string d2, .slice d3 d4 d5, .slice d6 d7 d8])
      have B1' := B1.out.below hA2 B1.out.lt
      have HN1' := Lib.hid (NdIs.more hA2.size _ _ (HN1.out.below hA2))
      have HN2 := Lib.hid (NdIs.more (B' := (w6.alloc (.cells #[.int .i64 d0, .int .i64 d1, .string d2, .slice d3 d4 d5, .slice d6 d7 d8] 27)).heap.size) (by simp) _ _ (hn2.below (w' := w6.alloc (.cells #[.int .i64 d0, .int .i64 d1, .string d2, .slice d3 d4 d5, .slice d6 d7 d8] 27)) ((Below.refl _ _).alloc (Nat.le_refl _) _)))
      clear hn2 HN1
      obtain ⟨p0, p1, p2, p3, p4⟩ := B1'.cells5
      have BB1 := Lib.hid B1'
      clear hA2 hw6 B1 K4 B1' HBY1
      go_wp2_with fail
      have HS := Lib.hid (rSame_any n.count n n _ _ _ _ (Nat.le_refl _) HN1'.out HN2.out (Nat.le_refl _))
      rw [sameN_refl] at HS
      refine (HS.out : Calls _ _ _ _ _).mono ?_; rintro e w7 ⟨rfl, hw7⟩
      have K6 := Lib.hid (K5.out.trans (hw7.mono K5.out.size))
      have BB2 := BB1.out.below hw7 BB1.out.lt
      obtain ⟨p0, p1, p2, p3, p4⟩ := BB2.cells5
      clear hw7 HS K5 BB1 B2
      have hW := K6.out
      go_wp2_with (go_at_call 12; refine (awake7_any _).mono ?_; rintro e w1 ⟨rfl, hw1⟩; (first | replace hW := nextB hW hw1 | replace hW := nextA hW hw1 | replace hW := nextB hW.drew hw1 | replace hW := nextAA hW hw1 | replace hW := nextAD hW hw1); clear hw1)
      go_ret
      exact ⟨rfl, hW⟩
    have m10 : (n3 == 10) = false := by rw [beq_eq_false_iff_ne]; exact q10
    by_cases q13 : n3 = 13
    · subst q13
      clear HBL HU hr HBY
      go_enter Try.func4, Try.ntmps4
      go_wp2_with (first
        | (with_reducible refine wpList_ownM _ rfl (.tmp 26) rfl _ rfl (by omega) w.heap.size (Nat.le_refl _) ?_; intro v1 x1 o1 k1; have O1 := Lib.hid o1; have K1 := Lib.hid k1; clear o1 k1)
        | (at_builtin; refine wpList_pushM _ rfl _ _ rfl w.heap.size _ _ rfl O1.out w.heap.size a0 s.size cap s.toList rfl (HRD.out.below K1.out) (by rw [tl_len']; omega) K1.out.size ?_; intro v2 x2 o2 k2; have O2 := Lib.hid o2; have K2 := Lib.hid (K1.out.trans k2); clear o2 k2 O1)
        | (at_builtin; refine wpList_pushMS _ rfl _ _ rfl w.heap.size _ _ rfl O2.out _ rfl (by rw [List.length_append, tl_len', tl_len']; omega) K2.out.size ?_; intro v3 x3 o3 k3; have O3 := Lib.hid o3; have K3 := Lib.hid (K2.out.trans k3); clear o3 k3 O2))
      obtain ⟨g3, cp3, rfl, hbx⟩ := O3.out.bytes
      have HBX := Lib.hid hbx
      clear hbx O3 zs8 hzA hzB ka8 kb8
      refine (HPB.out x3 K3.out : Calls _ _ _ _ _).mono ?_; rintro e w5 ⟨c0, c1, c2, c3, c4, c5, c6, c7, c8, rfl, hn1, hw5⟩
      have hA1 : Below x3.heap.size x3 (w5.alloc (.cells #[.int .i64 c0, .int .i64 c1, .string c2, .slice c3 c4 c5, .slice c6 c7 c8] 27)) := hw5.alloc hw5.size _
      have HBY1 := Lib.hid (HBX.out.later hA1)
      have K4 := Lib.hid (K3.out.trans (hA1.mono K3.out.size))
      have B1 := Lib.hid (Blk.new w5 27 #[.int .i64 c0, .int .i64 c1, .string c2, .slice c3 c4 c5, .slice c6 c7 c8])
      have HN1 := Lib.hid (NdIs.more (Nat.le_refl _) _ _ (NdIs.more (B' := (w5.alloc (.cells #[.int .i64 c0, .int .i64 c1, .string c2, .slice c3 c4 c5, .slice c6 c7 c8] 27)).heap.size) (by simp) _ _ (hn1.below (w' := w5.alloc (.cells #[.int .i64 c0, .int .i64 c1, .string c2, .slice c3 c4 c5, .slice c6 c7 c8] 27)) ((Below.refl _ _).alloc (Nat.le_refl _) _))))
      clear hn1
      clear hA1 hw5 HBX K3
      go_wp2_with fail
      generalize w5.alloc (.cells #[.int .i64 c0, .int .i64 c1, .string c2, .slice c3 c4 c5, .slice c6 c7 c8] 27) = y1 at *
      refine (HPX.out y1 _ _ _ (by simp [ByteArray.size]) HBY1.out : Calls _ _ _ _ _).mono ?_; rintro e w6 ⟨d0, d1, d2, d3, d4, d5, d6, d7, d8, rfl, hn2, hw6⟩
      have hA2 : Below y1.heap.size y1 (w6.alloc (.cells #[.int .i64 d0, .int .i64 d1, .string d2, .slice d3 d4 d5, .slice d6 d7 d8] 27)) := hw6.alloc hw6.size _
      have K5 := Lib.hid (K4.out.trans (hA2.mono K4.out.size))
      have B2 := Lib.hid (Blk.new w6 27 #[.int .i64 d0, .int .i64 d1, .string d2, .slice d3 d4 d5, .slice d6 d7 d8])
      have B1' := B1.out.below hA2 B1.out.lt
      have HN1' := Lib.hid (NdIs.more hA2.size _ _ (HN1.out.below hA2))
      have HN2 := Lib.hid (NdIs.more (B' := (w6.alloc (.cells #[.int .i64 d0, .int .i64 d1, .string d2, .slice d3 d4 d5, .slice d6 d7 d8] 27)).heap.size) (by simp) _ _ (hn2.below (w' := w6.alloc (.cells #[.int .i64 d0, .int .i64 d1, .string d2, .slice d3 d4 d5, .slice d6 d7 d8] 27)) ((Below.refl _ _).alloc (Nat.le_refl _) _)))
      clear hn2 HN1
      obtain ⟨p0, p1, p2, p3, p4⟩ := B1'.cells5
      have BB1 := Lib.hid B1'
      clear hA2 hw6 B1 K4 B1' HBY1
      go_wp2_with fail
      have HS := Lib.hid (rSame_any n.count n n _ _ _ _ (Nat.le_refl _) HN1'.out HN2.out (Nat.le_refl _))
      rw [sameN_refl] at HS
      refine (HS.out : Calls _ _ _ _ _).mono ?_; rintro e w7 ⟨rfl, hw7⟩
      have K6 := Lib.hid (K5.out.trans (hw7.mono K5.out.size))
      have BB2 := BB1.out.below hw7 BB1.out.lt
      obtain ⟨p0, p1, p2, p3, p4⟩ := BB2.cells5
      clear hw7 HS K5 BB1 B2
      have hW := K6.out
      go_wp2_with (go_at_call 12; refine (awake7_any _).mono ?_; rintro e w1 ⟨rfl, hw1⟩; (first | replace hW := nextB hW hw1 | replace hW := nextA hW hw1 | replace hW := nextB hW.drew hw1 | replace hW := nextAA hW hw1 | replace hW := nextAD hW hw1); clear hw1)
      go_ret
      exact ⟨rfl, hW⟩
    have m13 : (n3 == 13) = false := by rw [beq_eq_false_iff_ne]; exact q13
    by_cases hk4 : kindN n = 4
    · clear HBL HU hr HBY
      go_enter Try.func4, Try.ntmps4
      go_wp2_with (first
        | (with_reducible refine wpList_ownM _ rfl (.tmp 26) rfl _ rfl (by omega) w.heap.size (Nat.le_refl _) ?_; intro v1 x1 o1 k1; have O1 := Lib.hid o1; have K1 := Lib.hid k1; clear o1 k1)
        | (at_builtin; refine wpList_pushM _ rfl _ _ rfl w.heap.size _ _ rfl O1.out w.heap.size a0 s.size cap s.toList rfl (HRD.out.below K1.out) (by rw [tl_len']; omega) K1.out.size ?_; intro v2 x2 o2 k2; have O2 := Lib.hid o2; have K2 := Lib.hid (K1.out.trans k2); clear o2 k2 O1)
        | (at_builtin; refine wpList_pushMS _ rfl _ _ rfl w.heap.size _ _ rfl O2.out _ rfl (by rw [List.length_append, tl_len', tl_len']; omega) K2.out.size ?_; intro v3 x3 o3 k3; have O3 := Lib.hid o3; have K3 := Lib.hid (K2.out.trans k3); clear o3 k3 O2))
      obtain ⟨g3, cp3, rfl, hbx⟩ := O3.out.bytes
      have HBX := Lib.hid hbx
      clear hbx O3 zs8 hzA hzB ka8 kb8
      refine (HPB.out x3 K3.out : Calls _ _ _ _ _).mono ?_; rintro e w5 ⟨c0, c1, c2, c3, c4, c5, c6, c7, c8, rfl, hn1, hw5⟩
      have hA1 : Below x3.heap.size x3 (w5.alloc (.cells #[.int .i64 c0, .int .i64 c1, .string c2, .slice c3 c4 c5, .slice c6 c7 c8] 27)) := hw5.alloc hw5.size _
      have HBY1 := Lib.hid (HBX.out.later hA1)
      have K4 := Lib.hid (K3.out.trans (hA1.mono K3.out.size))
      have B1 := Lib.hid (Blk.new w5 27 #[.int .i64 c0, .int .i64 c1, .string c2, .slice c3 c4 c5, .slice c6 c7 c8])
      have HN1 := Lib.hid (NdIs.more (Nat.le_refl _) _ _ (NdIs.more (B' := (w5.alloc (.cells #[.int .i64 c0, .int .i64 c1, .string c2, .slice c3 c4 c5, .slice c6 c7 c8] 27)).heap.size) (by simp) _ _ (hn1.below (w' := w5.alloc (.cells #[.int .i64 c0, .int .i64 c1, .string c2, .slice c3 c4 c5, .slice c6 c7 c8] 27)) ((Below.refl _ _).alloc (Nat.le_refl _) _))))
      clear hn1
      clear hA1 hw5 HBX K3
      go_wp2_with fail
      generalize w5.alloc (.cells #[.int .i64 c0, .int .i64 c1, .string c2, .slice c3 c4 c5, .slice c6 c7 c8] 27) = y1 at *
      refine (HPX.out y1 _ _ _ (by simp [ByteArray.size]) HBY1.out : Calls _ _ _ _ _).mono ?_; rintro e w6 ⟨d0, d1, d2, d3, d4, d5, d6, d7, d8, rfl, hn2, hw6⟩
      have hA2 : Below y1.heap.size y1 (w6.alloc (.cells #[.int .i64 d0, .int .i64 d1, .string d2, .slice d3 d4 d5, .slice d6 d7 d8] 27)) := hw6.alloc hw6.size _
      have K5 := Lib.hid (K4.out.trans (hA2.mono K4.out.size))
      have B2 := Lib.hid (Blk.new w6 27 #[.int .i64 d0, .int .i64 d1, .string d2, .slice d3 d4 d5, .slice d6 d7 d8])
      have B1' := B1.out.below hA2 B1.out.lt
      have HN1' := Lib.hid (NdIs.more hA2.size _ _ (HN1.out.below hA2))
      have HN2 := Lib.hid (NdIs.more (B' := (w6.alloc (.cells #[.int .i64 d0, .int .i64 d1, .string d2, .slice d3 d4 d5, .slice d6 d7 d8] 27)).heap.size) (by simp) _ _ (hn2.below (w' := w6.alloc (.cells #[.int .i64 d0, .int .i64 d1, .string d2, .slice d3 d4 d5, .slice d6 d7 d8] 27)) ((Below.refl _ _).alloc (Nat.le_refl _) _)))
      clear hn2 HN1
      obtain ⟨p0, p1, p2, p3, p4⟩ := B1'.cells5
      have BB1 := Lib.hid B1'
      clear hA2 hw6 B1 K4 B1' HBY1
      go_wp2_with fail
      have HS := Lib.hid (rSame_any n.count n n _ _ _ _ (Nat.le_refl _) HN1'.out HN2.out (Nat.le_refl _))
      rw [sameN_refl] at HS
      refine (HS.out : Calls _ _ _ _ _).mono ?_; rintro e w7 ⟨rfl, hw7⟩
      have K6 := Lib.hid (K5.out.trans (hw7.mono K5.out.size))
      have BB2 := BB1.out.below hw7 BB1.out.lt
      obtain ⟨p0, p1, p2, p3, p4⟩ := BB2.cells5
      clear hw7 HS K5 BB1 B2
      cases n with
      | mk k m t ks ns =>
        obtain ⟨hd0, hd1, hd2⟩ := NdIs.head HN1'.out
        simp only [List.getElem?_cons_zero, List.getElem?_cons_succ, Option.some.injEq, Value.int.injEq, Value.string.injEq, true_and] at hd0 hd1 hd2
        have hk : c0 = 4 := hd0.trans hk4
        subst hk
        clear hd0 hd1 hd2
        go_wp2_with fail
        refine (jnum_any _ _).mono ?_; rintro e w9 ⟨rfl, hw⟩; obtain rfl : _ = w9 := hw
        have hW := K6.out
        go_wp2_with (go_at_call 12; refine (awake7_any _).mono ?_; rintro e w1 ⟨rfl, hw1⟩; (first | replace hW := nextB hW hw1 | replace hW := nextA hW hw1 | replace hW := nextB hW.drew hw1 | replace hW := nextAA hW hw1 | replace hW := nextAD hW hw1); clear hw1)
        go_ret
        exact ⟨rfl, hW⟩
    have hbl : blankB u = false := by rw [HBL.out, m32, m9, m10, m13]; rfl
    have hpm := parse_more s.toList n u hr hk4 hbl (by rw [tl_len']; omega)
    have HPM := Lib.hid (parse_free ⟨(s.toList ++ [u]).toArray⟩ (.error 3) (by rw [lit_toList]; exact hpm))
    clear hbl hpm HBL hr HBY
    go_enter Try.func4, Try.ntmps4
    go_wp2_with (first
      | (with_reducible refine wpList_ownM _ rfl (.tmp 26) rfl _ rfl (by omega) w.heap.size (Nat.le_refl _) ?_; intro v1 x1 o1 k1; have O1 := Lib.hid o1; have K1 := Lib.hid k1; clear o1 k1)
      | (at_builtin; refine wpList_pushM _ rfl _ _ rfl w.heap.size _ _ rfl O1.out w.heap.size a0 s.size cap s.toList rfl (HRD.out.below K1.out) (by rw [tl_len']; omega) K1.out.size ?_; intro v2 x2 o2 k2; have O2 := Lib.hid o2; have K2 := Lib.hid (K1.out.trans k2); clear o2 k2 O1)
      | (at_builtin; refine wpList_pushMS _ rfl _ _ rfl w.heap.size _ _ rfl O2.out _ rfl (by rw [List.length_append, tl_len', tl_len']; omega) K2.out.size ?_; intro v3 x3 o3 k3; have O3 := Lib.hid o3; have K3 := Lib.hid (K2.out.trans k3); clear o3 k3 O2))
    obtain ⟨g3, cp3, rfl, hbx⟩ := O3.out.bytes
    have HBX := Lib.hid hbx
    clear hbx O3 zs8 hzA hzB ka8 kb8
    refine (HPB.out x3 K3.out : Calls _ _ _ _ _).mono ?_; rintro e w5 ⟨c0, c1, c2, c3, c4, c5, c6, c7, c8, rfl, hn1, hw5⟩
    have hA1 : Below x3.heap.size x3 (w5.alloc (.cells #[.int .i64 c0, .int .i64 c1, .string c2, .slice c3 c4 c5, .slice c6 c7 c8] 27)) := hw5.alloc hw5.size _
    have HBY1 := Lib.hid (HBX.out.later hA1)
    have K4 := Lib.hid (K3.out.trans (hA1.mono K3.out.size))
    have B1 := Lib.hid (Blk.new w5 27 #[.int .i64 c0, .int .i64 c1, .string c2, .slice c3 c4 c5, .slice c6 c7 c8])
    have HN1 := Lib.hid (NdIs.more (Nat.le_refl _) _ _ (NdIs.more (B' := (w5.alloc (.cells #[.int .i64 c0, .int .i64 c1, .string c2, .slice c3 c4 c5, .slice c6 c7 c8] 27)).heap.size) (by simp) _ _ (hn1.below (w' := w5.alloc (.cells #[.int .i64 c0, .int .i64 c1, .string c2, .slice c3 c4 c5, .slice c6 c7 c8] 27)) ((Below.refl _ _).alloc (Nat.le_refl _) _))))
    clear hn1
    clear hA1 hw5 HBX K3
    go_wp2_with fail
    generalize w5.alloc (.cells #[.int .i64 c0, .int .i64 c1, .string c2, .slice c3 c4 c5, .slice c6 c7 c8] 27) = y1 at *
    refine (HPX.out y1 _ _ _ (by simp [ByteArray.size]) HBY1.out : Calls _ _ _ _ _).mono ?_; rintro e w6 ⟨d0, d1, d2, d3, d4, d5, d6, d7, d8, rfl, hn2, hw6⟩
    have hA2 : Below y1.heap.size y1 (w6.alloc (.cells #[.int .i64 d0, .int .i64 d1, .string d2, .slice d3 d4 d5, .slice d6 d7 d8] 27)) := hw6.alloc hw6.size _
    have K5 := Lib.hid (K4.out.trans (hA2.mono K4.out.size))
    have B2 := Lib.hid (Blk.new w6 27 #[.int .i64 d0, .int .i64 d1, .string d2, .slice d3 d4 d5, .slice d6 d7 d8])
    have B1' := B1.out.below hA2 B1.out.lt
    have HN1' := Lib.hid (NdIs.more hA2.size _ _ (HN1.out.below hA2))
    have HN2 := Lib.hid (NdIs.more (B' := (w6.alloc (.cells #[.int .i64 d0, .int .i64 d1, .string d2, .slice d3 d4 d5, .slice d6 d7 d8] 27)).heap.size) (by simp) _ _ (hn2.below (w' := w6.alloc (.cells #[.int .i64 d0, .int .i64 d1, .string d2, .slice d3 d4 d5, .slice d6 d7 d8] 27)) ((Below.refl _ _).alloc (Nat.le_refl _) _)))
    clear hn2 HN1
    obtain ⟨p0, p1, p2, p3, p4⟩ := B1'.cells5
    have BB1 := Lib.hid B1'
    clear hA2 hw6 B1 K4 B1' HBY1
    go_wp2_with fail
    have HS := Lib.hid (rSame_any n.count n n _ _ _ _ (Nat.le_refl _) HN1'.out HN2.out (Nat.le_refl _))
    rw [sameN_refl] at HS
    refine (HS.out : Calls _ _ _ _ _).mono ?_; rintro e w7 ⟨rfl, hw7⟩
    have K6 := Lib.hid (K5.out.trans (hw7.mono K5.out.size))
    have BB2 := BB1.out.below hw7 BB1.out.lt
    obtain ⟨p0, p1, p2, p3, p4⟩ := BB2.cells5
    clear hw7 HS K5 BB1 B2
    cases n with
    | mk k m t ks ns =>
      obtain ⟨hd0, hd1, hd2⟩ := NdIs.head HN1'.out
      simp only [List.getElem?_cons_zero, List.getElem?_cons_succ, Option.some.injEq, Value.int.injEq, Value.string.injEq, true_and] at hd0 hd1 hd2
      have hk : ¬ c0 = 4 := fun e => hk4 (hd0.symm.trans e)
      clear hd0 hd1 hd2 HN1' HN2 hk4
      go_wp2_with fail
      refine (jnum_any _ _).mono ?_; rintro e w9 ⟨rfl, hw⟩; obtain rfl : _ = w9 := hw
      go_wp2_with (first
        | (at_builtin; refine wpList_pushM _ rfl _ _ rfl w.heap.size _ _ rfl (ownM_empty w7 w.heap.size K6.out.size) w.heap.size a0 s.size cap s.toList rfl (HRD.out.below (K6.out.alloc K6.out.size _)) (by simp; omega) (by have := K6.out.size; simp; omega) ?_; intro v4 x4 o4 k4; have O4 := Lib.hid o4; have K7 := Lib.hid ((K6.out.alloc K6.out.size (.cells #[] 5)).trans k4); clear o4 k4)
        | (at_builtin; refine wpList_pushM _ rfl _ _ rfl w.heap.size _ _ rfl (O4.out.later ((Below.refl _ _).alloc (Nat.le_refl _) (.cells #[.int .u8 n3] 5))) (x4.heap.size + 1) (some ⟨x4.heap.size, 0, none⟩) 1 1 [u] rfl (reads_one x4 n3 u HU.out) (by rw [List.nil_append, tl_len']; omega) (by have := K7.out.size; simp; omega) ?_; intro v5 x5 o5 k5; have O5 := Lib.hid o5; have K8 := Lib.hid ((K7.out.alloc K7.out.size (.cells #[.int .u8 n3] 5)).trans k5); clear o5 k5 O4)
        | fail)
      obtain ⟨g5, cp5, rfl, hbx⟩ := O5.out.bytes
      refine (HPM.out x5 _ _ _ (by simp [ByteArray.size]) hbx : Calls _ _ _ _ _).mono ?_; rintro e w8 ⟨rfl, hw8⟩
      have K9 := Lib.hid (K8.out.trans ((hw8.alloc hw8.size (.cells #[.int .i64 0, .int .i64 0, .string ⟨#[]⟩, .slice none 0 0, .slice none 0 0] 27)).mono K8.out.size))
      clear hw8 hbx O5
      go_wp2_with fail
      refine (jnum_any _ _).mono ?_; rintro e w9 ⟨rfl, hw⟩; obtain rfl : _ = w9 := hw
      have hW := K9.out
      go_wp2_with (go_at_call 12; refine (awake7_any _).mono ?_; rintro e w1 ⟨rfl, hw1⟩; (first | replace hW := nextB hW hw1 | replace hW := nextA hW hw1 | replace hW := nextB hW.drew hw1 | replace hW := nextAA hW hw1 | replace hW := nextAD hW hw1); clear hw1)
      go_ret
      exact ⟨rfl, hW⟩
end Go.Proofs.Ytjigceoponlphaa
