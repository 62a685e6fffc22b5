/- Texts of one seat, one behind the other: Jlaw1. No condition. -/
import Derived.Test.YtjigceoponlphaaQ7
/-! JsonBack: its walk. -/
namespace Go.Proofs.Ytjigceoponlphaa
open Go.RowKit Go.PlainAid
set_option linter.unusedVariables false
set_option linter.unusedSimpArgs false
theorem val_err : ∀ (N : Nat),
    (∀ deep l e, 2 * l.length ≤ N → valL deep l = .error e → 3 ≤ e ∧ e ≤ 5) ∧
    (∀ deep l ns e, 2 * l.length + 1 ≤ N → arrL deep l ns = .error e → 3 ≤ e ∧ e ≤ 5) ∧
    (∀ deep l ks ns e, 2 * l.length + 1 ≤ N → objL deep l ks ns = .error e → 3 ≤ e ∧ e ≤ 5) := by
  intro N
  induction N using Nat.strongRecOn with
  | _ N ih =>
    refine ⟨?_, ?_, ?_⟩
    · intro deep l e hN h
      by_cases h91 : l.head? = some 91
      · by_cases h24 : 24 ≤ deep
        · rw [valL_deep deep l (.inl h91) h24] at h; cases h; omega
        rw [valL_arr deep l h91 h24] at h
        have ht := tail_lt h91
        have hb := blanksL_le l.tail
        split at h
        · cases h
        · exact (ih (2 * (blanksL l.tail).length + 1) (by omega)).2.1 deep _ _ e (Nat.le_refl _) h
      by_cases h123 : l.head? = some 123
      · by_cases h24 : 24 ≤ deep
        · rw [valL_deep deep l (.inr h123) h24] at h; cases h; omega
        rw [valL_obj deep l h123 h24] at h
        have ht := tail_lt h123
        have hb := blanksL_le l.tail
        split at h
        · cases h
        · exact (ih (2 * (blanksL l.tail).length + 1) (by omega)).2.2 deep _ _ _ e (Nat.le_refl _) h
      by_cases h34 : l.head? = some 34
      · rw [valL_str deep l h34] at h
        cases ht : textL l with
        | none => rw [ht] at h; cases h; omega
        | some p => rw [ht] at h; cases h
      rw [valL_else deep l h91 h123 h34] at h
      split at h
      · cases h
      split at h
      · cases h
      split at h
      · cases h
      cases ht : numL l with
      | none => rw [ht] at h; cases h; omega
      | some p => rw [ht] at h; cases h
    · intro deep l ns e hN h
      have hb := blanksL_le l
      rw [arrL_eq] at h
      cases hv : valL (deep + 1) (blanksL l) with
      | error e' =>
        rw [hv] at h
        cases h
        exact (ih (2 * (blanksL l).length) (by omega)).1 _ _ _ (Nat.le_refl _) hv
      | ok p =>
        obtain ⟨x, r1⟩ := p
        have hr1 := (valL_le hv).2
        rw [hv] at h
        simp only at h
        have hb1 := blanksL_le r1
        split at h
        · cases h
        split at h
        · rename_i h44
          have ht := tail_lt h44
          exact (ih (2 * (blanksL r1).tail.length + 1) (by omega)).2.1 deep _ _ e (Nat.le_refl _) h
        · cases h; omega
    · intro deep l ks ns e hN h
      have hb := blanksL_le l
      rw [objL_eq] at h
      cases ht : textL (blanksL l) with
      | none => rw [ht] at h; cases h; omega
      | some p =>
        obtain ⟨k, r0⟩ := p
        rw [ht] at h
        simp only at h
        have hr0 := (textL_le ht).2
        have hb0 := blanksL_le r0
        split at h
        · cases h; omega
        split at h
        · rename_i h58
          have h58 := tail_lt h58
          have hb2 := blanksL_le (blanksL r0).tail
          cases hv : valL (deep + 1) (blanksL (blanksL r0).tail) with
          | error e' =>
            rw [hv] at h
            cases h
            exact (ih (2 * (blanksL (blanksL r0).tail).length) (by omega)).1 _ _ _ (Nat.le_refl _) hv
          | ok p =>
            obtain ⟨x, r1⟩ := p
            rw [hv] at h
            simp only at h
            have hr1 := (valL_le hv).2
            have hb1 := blanksL_le r1
            split at h
            · cases h
            split at h
            · rename_i h44
              have ht := tail_lt h44
              exact (ih (2 * (blanksL r1).tail.length + 1) (by omega)).2.2 deep _ _ _ e (Nat.le_refl _) h
            · cases h; omega
        · cases h; omega
theorem parse_err {l : List UInt8} {e : Int} (h : parseL l = .error e) : 2 ≤ e ∧ e ≤ 5 := by
  unfold parseL at h
  split at h
  · cases h; omega
  · cases hv : valL 0 (blanksL l) with
    | error c =>
      rw [hv] at h
      cases h
      have := (val_err _).1 0 _ _ (Nat.le_refl _) hv
      omega
    | ok p =>
      obtain ⟨n, r⟩ := p
      rw [hv] at h
      simp only at h
      split at h
      · cases h
      · cases h; omega
theorem sameK_refl (ks : List ByteArray) : sameK ks ks = true := by
  induction ks with
  | nil => unfold sameK; rfl
  | cons k ks ih => unfold sameK; simp [ih]
mutual
theorem sameN_refl : ∀ n : Nd, sameN n n = true
  | .mk k m t ks ns => by
    unfold sameN
    simp [sameK_refl, sameL_refl ns]
theorem sameL_refl : ∀ ns : List Nd, sameL ns ns = true
  | [] => by unfold sameL; rfl
  | n :: ns => by
    unfold sameL
    simp [sameN_refl n, sameL_refl ns]
end
theorem print_right {n : Nd} (h : rightD n 0 = true) (hl : (putU n).length ≤ 65536) : printS n = ⟨(putU n).toArray⟩ ∧ printE n = 0 := by
  rw [printS_eq, printE_eq, h]
  rw [if_neg (by simp), if_neg (by omega), if_neg (by simp), if_neg (by omega)]
  exact ⟨rfl, rfl⟩
theorem rprint_law (n : Nd) (cs : List Value) (w : World) (hn : NdIs w w.heap.size n cs) (h : rightD n 0 = true) (hl : (putU n).length ≤ 65536) :
    Calls Try.prog 17 #[.agg cs.toArray] w (StrErr ⟨(putU n).toArray⟩ 0 w) := by
  have hg := gN_put n 0 h
  have := rPrint_any n cs w w.heap.size hn (Nat.le_refl _) (fun _ => hg.2 (by omega)) (by have := hg.1; omega)
  rw [(print_right h hl).1, (print_right h hl).2] at this
  exact this
set_option maxRecDepth 100000 in
set_option maxHeartbeats 4000000 in
theorem jsonBack_walk (a0 : Option Addr) (len cap : Nat) (zs : List Int) (w : World) (w0 : IsRow .u8 w a0 len cap zs) :
    Calls Try.prog 5 #[.slice a0 len cap] w fun e w' => e = .returned (.bool true) ∧ Below w.heap.size w w' := by
  obtain ⟨s, rfl, hby, hcap, hmax, _, _⟩ := BytesAt.of_arg w0
  clear w0
  have hW := Below.refl w.heap.size w
  by_cases hl : s.size ≤ 3000
  case neg =>
    have hli : (3000 : Int) < (s.size : Int) := by omega
    clear hby
    go_enter Try.func5, Try.ntmps5
    go_wp2_with (go_at_call 12; refine (awake7_any _).mono ?_; rintro e w1 ⟨rfl, hw1⟩; (first | replace hW := nextB hW hw1 | replace hW := nextA hW hw1 | replace hW := nextB hW.drew hw1 | replace hW := nextAA hW hw1 | replace hW := nextAD hW hw1); clear hw1)
    go_ret
    exact ⟨rfl, hW⟩
  have hli : ¬ (3000 : Int) < (s.size : Int) := by omega
  have HP := Lib.hid (parse_law s a0 cap w hby)
  cases hr : parseL s.toList with
  | error c =>
    have hc := parse_err hr
    rw [hr] at HP
    clear hr hby
    go_enter Try.func5, Try.ntmps5
    go_wp2_with fail
    refine (HP.out : Calls _ _ _ _ _).mono ?_; rintro e w1 ⟨rfl, hw1⟩
    replace hW := nextB hW hw1; clear hw1
    go_wp2_with fail
    refine (jnum_any _ _).mono ?_; rintro e w2 ⟨rfl, hw⟩; obtain rfl : _ = w2 := hw
    have hc0 : ¬ c = 0 := by omega
    go_wp2_with (go_at_call 12; refine (awake7_any _).mono ?_; rintro e w2 ⟨rfl, hw1⟩; (first | replace hW := nextB hW hw1 | replace hW := nextA hW hw1 | replace hW := nextB hW.drew hw1 | replace hW := nextAA hW hw1 | replace hW := nextAD hW hw1); clear hw1)
    go_ret
    exact ⟨rfl, hW⟩
  | ok n =>
    obtain ⟨h1, h2, h3, h4⟩ := parse_back hr
    rw [hr] at HP
    have hsz : (⟨(putU n).toArray⟩ : ByteArray).toList = putU n := lit_toList _
    have HP2 : Hid (∀ w' A c, BytesAt w' A c ⟨(putU n).toArray⟩ → Calls Try.prog 13 #[.slice A (⟨(putU n).toArray⟩ : ByteArray).size c] w' (PEnd (.ok n) w')) := fun w' A c hb => by
      have := parse_law ⟨(putU n).toArray⟩ A c w' hb
      rw [hsz, h4] at this
      exact this
    have HPR : Hid (∀ (cs : List Value) (w' : World), NdIs w' w'.heap.size n cs → Calls Try.prog 17 #[.agg cs.toArray] w' (StrErr ⟨(putU n).toArray⟩ 0 w')) := fun cs w' hn => rprint_law n cs w' hn h1 (by omega)
    have hls : ((⟨(putU n).toArray⟩ : ByteArray).size : Int) ≤ (s.size : Int) := by
      have e : (⟨(putU n).toArray⟩ : ByteArray).size = (putU n).length := by show (putU n).toArray.size = _; simp
      rw [e, ← tl_len' s]
      omega
    generalize (⟨(putU n).toArray⟩ : ByteArray) = T at *
    clear hr hby h1 h2 h3 h4 hsz
    go_enter Try.func5, Try.ntmps5
    go_wp2_with fail
    refine (HP.out : Calls _ _ _ _ _).mono ?_; rintro e w1 ⟨c0, c1, c2, c3, c4, c5, c6, c7, c8, rfl, hn, hw1⟩
    replace hW := nextB hW hw1; clear hw1
    have hA : Below w1.heap.size w1 (w1.alloc (.cells #[.int .i64 c0, .int .i64 c1, .string c2, .slice c3 c4 c5, .slice c6 c7 c8] 27)) := (Below.refl _ _).alloc (Nat.le_refl _) _
    have HN1 := Lib.hid (NdIs.more hA.size _ _ (hn.below hA))
    have HB1 := Lib.hid (Blk.new w1 27 #[.int .i64 c0, .int .i64 c1, .string c2, .slice c3 c4 c5, .slice c6 c7 c8])
    have HW1 := Lib.hid (hW.trans (hA.mono hW.size))
    clear hn hA hW HP
    go_wp2_with fail
    refine (jnum_any _ _).mono ?_; rintro e w2 ⟨rfl, hw⟩; obtain rfl : _ = w2 := hw
    go_wp2_with fail
    refine (HPR.out _ _ HN1.out : Calls _ _ _ _ _).mono ?_; rintro e w3 ⟨rfl, hw3⟩
    have HN3 := Lib.hid (NdIs.more hw3.size _ _ (HN1.out.below hw3))
    have HB3 := Lib.hid (HB1.out.below hw3 HB1.out.lt)
    have HW3 := Lib.hid (nextB HW1.out hw3)
    clear hw3 HPR HN1 HB1 HW1
    go_wp2_with (with_reducible refine wpList_bytes_of _ rfl (.tmp 28) rfl _ rfl ?_; intro g c9 w4 hg1 hg2 hrow hb4)
    have HN4 := Lib.hid (NdIs.more hb4.size _ _ (HN3.out.below hb4))
    have HB4 := Lib.hid (HB3.out.below hb4 HB3.out.lt)
    have HW4 := Lib.hid (nextB HW3.out hb4)
    have HPC := HP2.out w4 _ c9 (BytesAt.of_row hg2 hrow)
    clear hg1 hg2 hrow hb4 HN3 HB3 HW3
    refine (HPC : Calls _ _ _ _ _).mono ?_; rintro e w5 ⟨d0, d1, d2, d3, d4, d5, d6, d7, d8, rfl, hn, hw5⟩
    clear HPC
    have hA : Below w5.heap.size w5 (w5.alloc (.cells #[.int .i64 d0, .int .i64 d1, .string d2, .slice d3 d4 d5, .slice d6 d7 d8] 27)) := (Below.refl _ _).alloc (Nat.le_refl _) _
    have hB5 := nextB hw5 hA
    have HM5 := Lib.hid (NdIs.more hA.size _ _ (hn.below hA))
    have HN5 := Lib.hid (NdIs.more hB5.size _ _ (HN4.out.below hB5))
    have HB5 := HB4.out.below hB5 HB4.out.lt
    have HW5 := Lib.hid (nextB HW4.out hB5)
    obtain ⟨x0, x1, x2, x3, x4⟩ := HB5.cells5
    clear hn hA hw5 hB5 HB5 HN4 HB4 HW4
    go_wp2_with fail
    refine (jnum_any _ _).mono ?_; rintro e w6 ⟨rfl, hw⟩; obtain rfl : _ = w6 := hw
    go_wp2_with fail
    have HS := Lib.hid (rSame_any n.count n n _ _ _ _ (Nat.le_refl _) HN5.out HM5.out (Nat.le_refl _))
    rw [sameN_refl] at HS
    refine (HS.out : Calls _ _ _ _ _).mono ?_; rintro e w7 ⟨rfl, hw7⟩
    have hW := nextB HW5.out hw7
    clear hw7 HS HN5 HM5 HW5 x0 x1 x2 x3 x4
    go_wp2_with (go_at_call 12; refine (awake7_any _).mono ?_; rintro e w8 ⟨rfl, hw1⟩; (first | replace hW := nextB hW hw1 | replace hW := nextA hW hw1 | replace hW := nextB hW.drew hw1 | replace hW := nextAA hW hw1 | replace hW := nextAD hW hw1); clear hw1)
    go_ret
    exact ⟨rfl, hW⟩
end Go.Proofs.Ytjigceoponlphaa
