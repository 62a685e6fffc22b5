/- The walks of TextStrings and TextLong. -/
import Derived.Test.YtejodjgeamaejaaDoorText5
namespace Go.Proofs.YtejodjgeamaejaaDoor
open Go.RowKit Go.PlainAid
set_option linter.unusedVariables false
set_option linter.unusedSimpArgs false
theorem escN_len (c : Int) : 1 ≤ (escN c).length ∧ (escN c).length ≤ 2 := by unfold escN; split <;> simp
theorem escZ_pos (s : ByteArray) : ∀ n, 1 ≤ (escZ s n).length
  | 0 => by simp [escZ]
  | n + 1 => by simp only [escZ, List.length_append]; have := escZ_pos s n; omega
theorem escZ_parts (s : ByteArray) (j n : Nat) (h : j < n) : ∃ r, escZ s n = escZ s j ++ (escN (bt s j) ++ r) := by
  induction n with
  | zero => omega
  | succ n ih =>
    by_cases e : j = n
    · subst e; exact ⟨[], by simp [escZ]⟩
    · obtain ⟨r, hr⟩ := ih (by omega)
      exact ⟨r ++ escN (bt s n), by simp only [escZ]; rw [hr]; simp⟩
theorem escZ_head (s : ByteArray) (n : Nat) : ∃ r, escZ s n = 34 :: r := by
  induction n with
  | zero => exact ⟨[], rfl⟩
  | succ n ih => obtain ⟨r, hr⟩ := ih; exact ⟨r ++ escN (bt s n), by simp only [escZ]; rw [hr]; simp⟩
theorem strS_quoted (s : ByteArray) (h : plainB s = true) : (strS s).size = (escZ s s.size).length + 1 ∧ bt (strS s) 0 = 34 ∧ bt (strS s) (escZ s s.size).length = 34 := by
  have e : strS s = strOfNums (escZ s s.size ++ [34]) := by unfold strS; rw [if_pos h]
  rw [e]
  refine ⟨by rw [strOfNums_size]; simp, ?_, bt_strOf _ _ 34 (by simp) (by omega) (by omega)⟩
  obtain ⟨r, hr⟩ := escZ_head s s.size
  exact bt_strOf _ 0 34 (by rw [hr]; rfl) (by omega) (by omega)
theorem strS_at (s : ByteArray) (h : plainB s = true) (j : Nat) (hj : j < s.size) :
    (if bt s j = 34 ∨ bt s j = 92 then bt (strS s) (escZ s j).length = 92 ∧ bt (strS s) ((escZ s j).length + 1) = bt s j ∧ (escZ s (j + 1)).length = (escZ s j).length + 2
      else bt (strS s) (escZ s j).length = bt s j ∧ (escZ s (j + 1)).length = (escZ s j).length + 1) ∧ (escZ s (j + 1)).length ≤ (escZ s s.size).length := by
  have e : strS s = strOfNums (escZ s s.size ++ [34]) := by unfold strS; rw [if_pos h]
  obtain ⟨r, hr⟩ := escZ_parts s j s.size hj
  have b0 := bt_nonneg s j
  have b1 := bt_le s j
  have hle : (escZ s (j + 1)).length ≤ (escZ s s.size).length := by rw [hr]; simp [escZ]
  refine ⟨?_, hle⟩
  rw [e, hr]
  split
  · rename_i hc
    have he : escN (bt s j) = [92, bt s j] := by unfold escN; rw [if_pos hc]
    rw [he]
    refine ⟨bt_strOf _ _ 92 (by simp) (by omega) (by omega), bt_strOf _ _ _ (by simp) b0 (by omega), by simp only [escZ, List.length_append, he]; rfl⟩
  · rename_i hc
    have he : escN (bt s j) = [bt s j] := by unfold escN; rw [if_neg hc]
    rw [he]
    refine ⟨bt_strOf _ _ _ (by simp) b0 (by omega), by simp only [escZ, List.length_append, he]; rfl⟩
theorem strS_lit (s : ByteArray) (h : plainB s = false) : strS s = ⟨#[123]⟩ ++ digS s.size ++ ⟨#[125, 13, 10]⟩ ++ s ∧ 2 ≤ (strS s).size ∧ bt (strS s) 0 = 123 := by
  have e : strS s = ⟨#[123]⟩ ++ digS s.size ++ ⟨#[125, 13, 10]⟩ ++ s := by unfold strS; rw [h]; rfl
  have z1 : (⟨#[123]⟩ : ByteArray).size = 1 := rfl
  have z2 : (⟨#[125, 13, 10]⟩ : ByteArray).size = 3 := rfl
  refine ⟨e, ?_, ?_⟩
  · rw [e]; simp only [ByteArray.size_append]; omega
  · rw [e, bt_left _ _ 0 (by simp only [ByteArray.size_append]; omega), bt_left _ _ 0 (by simp only [ByteArray.size_append]; omega), bt_left _ _ 0 (by omega)]
    decide +kernel
theorem strS_head (s : ByteArray) : 2 ≤ (strS s).size ∧ bt (strS s) 0 = if plainB s = true then 34 else 123 := by
  cases h : plainB s with
  | false => have := strS_lit s h; exact ⟨this.2.1, this.2.2⟩
  | true => have := strS_quoted s h; have := escZ_pos s s.size; exact ⟨by omega, by rw [if_pos rfl]; exact (strS_quoted s h).2.1⟩
theorem strS_size_le (s : ByteArray) (h : s.size ≤ 3000) : (strS s).size ≤ 7000 := by
  cases hp : plainB s with
  | false =>
    have z1 : (⟨#[123]⟩ : ByteArray).size = 1 := rfl
    have z2 : (⟨#[125, 13, 10]⟩ : ByteArray).size = 3 := rfl
    have := itoa_len s.size (by omega) (by omega)
    rw [(strS_lit s hp).1]; simp only [ByteArray.size_append]; omega
  | true => have := escZ_len s s.size; rw [(strS_quoted s hp).1]; omega
theorem strOf_self (s : ByteArray) : strOfNums ((List.range s.size).map (bt s)) = s := by
  apply ba_ext'
  rw [nums_toList, List.map_map]
  apply List.ext_getElem
  · simp [tl_len]
  · intro i h1 h2
    simp only [List.getElem_map, List.getElem_range, Function.comp]
    rw [bt_at s i h2]
    show UInt8.ofNat s.toList[i].toNat = _
    exact UInt8.ofNat_toNat
theorem plains_app (a b : ByteArray) : plainsB (a ++ b) a.size = plainsB a a.size := by
  suffices h : ∀ i, i ≤ a.size → plainsB (a ++ b) i = plainsB a i from h _ (Nat.le_refl _)
  intro i hi
  induction i with
  | zero => rfl
  | succ i ih => simp only [plainsB]; rw [ih (by omega), bt_left a b i (by omega)]
theorem plain_app_one (a : ByteArray) (c : Int) (h0 : 0 ≤ c) (h1 : c < 256) (ha : plainsB a a.size = true) : plainB (a ++ strOfNums [c]) = (decide (32 ≤ c) && decide (c ≤ 126) && decide (a.size < 200)) := by
  unfold plainB
  rw [ByteArray.size_append, size_one]
  simp only [plainsB]
  rw [plains_app, ha]
  have e := bt_right a (strOfNums [c]) 0 (by rw [size_one]; omega)
  rw [Nat.add_zero] at e
  rw [e, bt_strOf [c] 0 c rfl h0 h1, Bool.true_and]
  congr 1
theorem plains_xs (m : Nat) : plainsB (strOfNums ((List.range m).map fun _ => (120 : Int))) m = true := by
  suffices h : ∀ i, i ≤ m → plainsB (strOfNums ((List.range m).map fun _ => (120 : Int))) i = true from h _ (Nat.le_refl _)
  intro i hi
  induction i with
  | zero => rfl
  | succ i ih =>
    simp only [plainsB]
    rw [ih (by omega), bt_strOf _ i 120 (by rw [List.getElem?_map, List.getElem?_range (by omega)]; rfl) (by omega) (by omega)]
    rfl
theorem strings_walk (s : ByteArray) (w0 : s.size ≤ maxLen) (w : World) (hT : TabOK w) : Calls Tryd.prog 4 #[.string s] w fun e w' => e = .returned (.bool true) ∧ Below w.heap.size w w' := by
  unfold maxLen at w0
  have hW := Below.refl w.heap.size w
  by_cases hs : s.size ≤ 3000
  · have HS : Hid (StrOf 14 s (strS s)) := str_of _ _ (by omega) rfl
    have hlen := strS_size_le s hs
    cases hp : plainB s with
    | false =>
      obtain ⟨e1, e2, e3⟩ := strS_lit s hp
      have e4 : ((strS s).toList == (⟨#[123]⟩ ++ digS s.size ++ ⟨#[125, 13, 10]⟩ ++ s : ByteArray).toList) = true := by rw [e1, beq_self_eq_true]
      have hb := get_bt (strS s)
      have hsz := itoa_len s.size (by omega) (by omega)
      have h1 : (⟨#[123]⟩ : ByteArray).size ≤ 1 := by decide
      have h2 : (⟨#[125, 13, 10]⟩ : ByteArray).size ≤ 3 := by decide
      have h3 : (⟨#[123]⟩ ++ digS s.size : ByteArray).size ≤ 22 := by rw [ByteArray.size_append]; omega
      have h4 : (⟨#[123]⟩ ++ digS s.size ++ ⟨#[125, 13, 10]⟩ : ByteArray).size ≤ 25 := by rw [ByteArray.size_append]; omega
      clear e1 hp
      go_enter Tryd.func4, Tryd.ntmps4
      go_wp2_with fail
      refine (HS.out _ (hT.below hW)).mono ?_; rintro e w1 ⟨rfl, hw1⟩; (first | replace hW := nextB hW hw1 | replace hW := nextA hW hw1 | replace hW := nextB hW.drew hw1 | replace hW := nextAA hW hw1 | replace hW := nextAD hW hw1); clear hw1
      go_wp2_with (first
        | (go_at_call 12; refine (digits_any _ _ (by omega) (by omega) (hT.below hW)).mono ?_; rintro e w1 ⟨rfl, hw1⟩; (first | replace hW := nextB hW hw1 | replace hW := nextA hW hw1 | replace hW := nextB hW.drew hw1 | replace hW := nextAA hW hw1 | replace hW := nextAD hW hw1); clear hw1)
        | (go_at_call 13; refine (awake1_any _ (hT.below hW)).mono ?_; rintro e w1 ⟨rfl, hw1⟩; (first | replace hW := nextB hW hw1 | replace hW := nextA hW hw1 | replace hW := nextB hW.drew hw1 | replace hW := nextAA hW hw1 | replace hW := nextAD hW hw1); clear hw1))
      go_ret
      exact ⟨rfl, hW⟩
    | true =>
      obtain ⟨e1, e2, e3⟩ := strS_quoted s hp
      have HAT := Lib.hid (strS_at s hp)
      have hpos := escZ_pos s s.size
      obtain ⟨L, hL⟩ : ∃ L, L = (escZ s s.size).length := ⟨_, rfl⟩
      rw [← hL] at e1 e3 hpos
      have h200 : s.size ≤ 200 := by unfold plainB at hp; simp at hp; exact hp.2
      obtain ⟨T, hTT⟩ : ∃ T, T = strS s := ⟨_, rfl⟩
      rw [← hTT] at HS e1 e2 e3 hlen HAT
      have HL := Lib.hid hL
      have HSelf := Lib.hid (strOf_self s)
      have hb := get_bt T
      clear hp hL hTT
      have y1 : IntKind.i64.wrap ((T.size : Int) - 1) = (T.size : Int) - 1 := IntWalk.i64_in _ (by omega)
      have y2 : ((T.size : Int) - 1).toNat = L := by omega
      go_enter Tryd.func4, Tryd.ntmps4
      go_wp2_with fail
      refine (HS.out _ (hT.below hW)).mono ?_; rintro e w1 ⟨rfl, hw1⟩; (first | replace hW := nextB hW hw1 | replace hW := nextA hW hw1 | replace hW := nextB hW.drew hw1 | replace hW := nextAA hW hw1 | replace hW := nextAD hW hw1); clear hw1
      go_wp2
      go_loopw [6, 5] (fun i v wr => ∃ j q : Nat, j ≤ s.size ∧ i = .int .i64 q ∧ Hid (q = (escZ s j).length) ∧ q ≤ L ∧ (j = s.size → q = L) ∧ OwnB wr w.heap.size v ((List.range j).map (bt s)) ∧ Below w.heap.size w wr) (fun i _ _ => T.size - (intOf i).toNat)
      case atStart => exact ⟨0, 1, by omega, rfl, rfl, by omega, fun h => by have := HL.out; rw [← h] at this; simpa [escZ] using this.symm, OwnB.nil _ _, hW⟩
      case round =>
        obtain ⟨j, q, hj, rfl, hq, hqL, hend, hown, hW⟩ := hrel
        by_cases hlt : j < s.size
        · have hat := HAT.out j hlt
          have b0 := bt_nonneg s j
          have b1 := bt_le s j
          have hzl : ((List.range j).map (bt s)).length = j := by simp
          rw [← hq.out, ← HL.out] at hat
          obtain ⟨hat, hnx⟩ := hat
          by_cases hc : bt s j = 34 ∨ bt s j = 92
          · rw [if_pos hc] at hat
            obtain ⟨f1, f2, f3⟩ := hat
            have HN : Hid ((escZ s (j + 1)).length = q + 2) := f3
            have k4 : ((q : Int) + 1).toNat = q + 1 := by omega
            have k0 : IntKind.i64.wrap ((q : Int) + 1) = (q : Int) + 1 := IntWalk.i64_in _ (by omega)
            rw [f3] at hnx
            clear f3 hc hend
            have hq1 : q + 1 < T.size := by omega
            go_wp2_with (at_builtin; refine wpList_push _ rfl (.tmp 49) (.tmp 53) rfl w.heap.size _ _ rfl hown _ rfl (by omega) hW.size ?_; intro v' w2 hown2 hb2)
            go_roundw
            case rel => exact ⟨j + 1, q + 2, by omega, by go_num, HN.out.symm, by omega, fun h => by have h2 := HN.out; rw [h, ← HL.out] at h2; omega, by rw [List.range_succ, List.map_append]; exact hown2, hW.trans hb2⟩
            case measure => simp [intOf]; omega
          · rw [if_neg hc] at hat
            obtain ⟨f1, f3⟩ := hat
            have HN : Hid ((escZ s (j + 1)).length = q + 1) := f3
            have c1 : ¬ bt s j = 34 := fun h => hc (.inl h)
            have c2 : ¬ bt s j = 92 := fun h => hc (.inr h)
            rw [f3] at hnx
            clear f3 hc hend
            have hq1 : q < T.size := by omega
            go_wp2_with (at_builtin; refine wpList_push _ rfl (.tmp 49) (.tmp 53) rfl w.heap.size _ _ rfl hown _ rfl (by omega) hW.size ?_; intro v' w2 hown2 hb2)
            go_roundw
            case rel => exact ⟨j + 1, q + 1, by omega, by go_num, HN.out.symm, by omega, fun h => by have h2 := HN.out; rw [h, ← HL.out] at h2; omega, by rw [List.range_succ, List.map_append]; exact hown2, hW.trans hb2⟩
            case measure => simp [intOf]; omega
        · obtain rfl : j = s.size := by omega
          obtain rfl : q = L := hend rfl
          have hc := hown.conv
          rw [HSelf.out] at hc
          go_wp2_with (go_at_call 13; refine (awake1_any _ (hT.below hW)).mono ?_; rintro e w1 ⟨rfl, hw1⟩; (first | replace hW := nextB hW hw1 | replace hW := nextA hW hw1 | replace hW := nextB hW.drew hw1 | replace hW := nextAA hW hw1 | replace hW := nextAD hW hw1); clear hw1)
          go_ret
          exact ⟨rfl, hW⟩
  · go_enter Tryd.func4, Tryd.ntmps4
    go_wp2_with (go_at_call 13; refine (awake1_any _ (hT.below hW)).mono ?_; rintro e w1 ⟨rfl, hw1⟩; (first | replace hW := nextB hW hw1 | replace hW := nextA hW hw1 | replace hW := nextB hW.drew hw1 | replace hW := nextAA hW hw1 | replace hW := nextAD hW hw1); clear hw1)
    go_ret
    exact ⟨rfl, hW⟩
end Go.Proofs.YtejodjgeamaejaaDoor
