/- UtfSpoilt, UtfJoins, UtfMade: their walks. -/
import Derived.Test.YtiaikpbnjhhiaaaUtfL2
namespace Go.Proofs.Ytiaikpbnjhhiaaa
open Go.RowKit Go.PlainAid
set_option linter.unusedVariables false
set_option linter.unusedSimpArgs false
theorem flat_valid (rs : List Int) (h : ∀ r ∈ rs, GoodP r) : ValidP (rs.map putB).flatten := ⟨rs, fun r hr => (good_iff r).2 (h r hr), rfl⟩
theorem valid_flat {l : List UInt8} (h : ValidP l) : ∃ rs : List Int, (∀ r ∈ rs, GoodP r) ∧ l = (rs.map putB).flatten := by
  obtain ⟨rs, h1, h2⟩ := h
  exact ⟨rs, fun r hr => (good_iff r).1 (h1 r hr), h2⟩
theorem cutL_flat (rs : List Int) (h : ∀ r ∈ rs, GoodP r) (t : List UInt8) : ∀ n, n ≤ rs.length → cutL n ((rs.map putB).flatten ++ t) = (((rs.take n).map putB).flatten).length := by
  induction rs with
  | nil => intro n hn; have : n = 0 := by simpa using hn
           subst this; rfl
  | cons r rs ih =>
    intro n hn
    cases n with
    | zero => rfl
    | succ n =>
      have e : ((r :: rs).map putB).flatten ++ t = putB r ++ ((rs.map putB).flatten ++ t) := by simp
      rw [e]
      simp only [cutL]
      rw [decL_put r _ ((good_iff r).2 (h r (by simp)))]
      simp only [List.drop_left]
      rw [ih (fun x hx => h x (by simp [hx])) n (by simpa using hn)]
      simp
theorem cutL_flat_more (rs : List Int) (h : ∀ r ∈ rs, GoodP r) (t : List UInt8) : ∀ n, cutL (rs.length + n) ((rs.map putB).flatten ++ t) = ((rs.map putB).flatten).length + cutL n t := by
  induction rs with
  | nil => intro n; simp
  | cons r rs ih =>
    intro n
    have e : ((r :: rs).map putB).flatten ++ t = putB r ++ ((rs.map putB).flatten ++ t) := by simp
    rw [e, List.length_cons, show rs.length + 1 + n = (rs.length + n) + 1 by omega]
    simp only [cutL]
    rw [decL_put r _ ((good_iff r).2 (h r (by simp)))]
    simp only [List.drop_left]
    rw [ih (fun x hx => h x (by simp [hx])) n]
    simp [Nat.add_assoc]
theorem cutL_done' (n : Nat) (t : List UInt8) (h : decL t = none) : cutL n t = 0 := by
  cases n with
  | zero => rfl
  | succ n => simp only [cutL, h]
/-- behind a valid beginning -/
theorem validB_app (rs : List Int) (h : ∀ r ∈ rs, GoodP r) (t : List UInt8) : validB ((rs.map putB).flatten ++ t) = validB t := by
  induction rs with
  | nil => simp
  | cons r rs ih =>
    have e : ((r :: rs).map putB).flatten ++ t = putB r ++ ((rs.map putB).flatten ++ t) := by simp
    rw [e, ← validB_some _ r _ (decL_put r _ ((good_iff r).2 (h r (by simp)))), List.drop_left]
    exact ih (fun x hx => h x (by simp [hx]))
theorem flat_len (rs : List Int) (h : ∀ r ∈ rs, GoodP r) : rs.length ≤ ((rs.map putB).flatten).length := by
  induction rs with
  | nil => simp
  | cons r rs ih =>
    have := ih (fun x hx => h x (by simp [hx]))
    have h2 : 0 < (putB r).length := List.length_pos_iff.2 ((good_iff r).2 (h r (by simp)))
    simp only [List.map_cons, List.flatten_cons, List.length_append, List.length_cons]
    omega
theorem cutL_all (rs : List Int) (h : ∀ r ∈ rs, GoodP r) (t : List UInt8) (ht : decL t = none) (n : Nat) (hn : rs.length ≤ n) : cutL n ((rs.map putB).flatten ++ t) = ((rs.map putB).flatten).length := by
  obtain ⟨m, rfl⟩ : ∃ m, n = rs.length + m := ⟨n - rs.length, by omega⟩
  rw [cutL_flat_more rs h t m, cutL_done' m t ht]; rfl
theorem dec_bad (t : List UInt8) (h : ∀ r, GoodP r → ∀ u, t ≠ putB r ++ u) : decL t = none := by
  cases e : decL t with
  | none => rfl
  | some p =>
    obtain ⟨r, n⟩ := p
    obtain ⟨h1, h2, h3⟩ := decL_some t r n e
    exact absurd h3 (h r ((good_iff r).1 h1) _)
theorem put_head (r : Int) (h : GoodP r) (c : UInt8) (l u : List UInt8) (e : c :: l = putB r ++ u) : ((c.toNat : Int) < 128 ∧ (c.toNat : Int) = r) ∨ (194 ≤ (c.toNat : Int) ∧ (c.toNat : Int) ≤ 223) ∨ (224 ≤ (c.toNat : Int) ∧ (c.toNat : Int) = 224 + r / 4096 ∧ r < 65536 ∧ ∃ d l', l = d :: l' ∧ (d.toNat : Int) = 128 + r / 64 % 64) ∨ (240 ≤ (c.toNat : Int) ∧ (c.toNat : Int) = 240 + r / 262144 ∧ ∃ d l', l = d :: l' ∧ (d.toNat : Int) = 128 + r / 4096 % 64) := by
  have hg := h
  unfold GoodP at hg
  rcases putN_cases r h with ⟨a, f⟩ | ⟨a, a', f⟩ | ⟨a, a', f⟩ | ⟨a, f⟩
  · left
    rw [putB_of f] at e
    simp only [List.map_cons, List.map_nil, List.cons_append, List.cons.injEq] at e
    have := toNat_ofNat r (by omega) (by omega)
    rw [e.1, this]
    exact ⟨a, rfl⟩
  · right; left
    rw [putB_of f] at e
    simp only [List.map_cons, List.map_nil, List.cons_append, List.cons.injEq] at e
    have := toNat_ofNat (192 + r / 64) (by omega) (by omega)
    rw [e.1, this]
    omega
  · right; right; left
    rw [putB_of f] at e
    simp only [List.map_cons, List.map_nil, List.cons_append, List.cons.injEq] at e
    have b1 := toNat_ofNat (224 + r / 4096) (by omega) (by omega)
    have b2 := toNat_ofNat (128 + r / 64 % 64) (by omega) (by omega)
    rw [e.1, b1]
    exact ⟨by omega, rfl, a', _, _, e.2, b2⟩
  · right; right; right
    rw [putB_of f] at e
    simp only [List.map_cons, List.map_nil, List.cons_append, List.cons.injEq] at e
    have b1 := toNat_ofNat (240 + r / 262144) (by omega) (by omega)
    have b2 := toNat_ofNat (128 + r / 4096 % 64) (by omega) (by omega)
    rw [e.1, b1]
    exact ⟨by omega, rfl, _, _, e.2, b2⟩
theorem bad_lone (c : UInt8) (l : List UInt8) (h0 : 128 ≤ (c.toNat : Int)) (h1 : (c.toNat : Int) < 194) : decL (c :: l) = none :=
  dec_bad _ fun r hr u e => by
    rcases put_head r hr c l u e with h | h | ⟨h, _⟩ | ⟨h, _⟩ <;> omega
theorem bad_half (l : List UInt8) : decL (237 :: 160 :: l) = none :=
  dec_bad _ fun r hr u e => by
    have hg := hr
    unfold GoodP at hg
    rcases put_head r hr 237 _ u e with h | h | ⟨h, h2, h3, d, l', h4, h5⟩ | ⟨h, h2, _⟩
    · have : ((237 : UInt8).toNat : Int) = 237 := rfl
      omega
    · have : ((237 : UInt8).toNat : Int) = 237 := rfl
      omega
    · have e1 : ((237 : UInt8).toNat : Int) = 237 := rfl
      have e2 : ((160 : UInt8).toNat : Int) = 160 := rfl
      cases h4
      omega
    · have : ((237 : UInt8).toNat : Int) = 237 := rfl
      omega
theorem bad_far (l : List UInt8) : decL (244 :: 144 :: l) = none :=
  dec_bad _ fun r hr u e => by
    have hg := hr
    unfold GoodP at hg
    have e1 : ((244 : UInt8).toNat : Int) = 244 := rfl
    have e2 : ((144 : UInt8).toNat : Int) = 144 := rfl
    rcases put_head r hr 244 _ u e with h | h | ⟨h, h2, h3, d, l', h4, h5⟩ | ⟨h, h2, d, l', h4, h5⟩
    · omega
    · omega
    · omega
    · cases h4
      omega
theorem spoilt_walk (c : Int) (a b : ByteArray) (w0 : (Lit.int .u8 c).wf = true) (w1 : a.size ≤ maxLen) (w2 : b.size ≤ maxLen) (w : World) : Calls Try.prog 7 #[.int .u8 c, .string a, .string b] w fun e w' => e = .returned (.bool true) ∧ Below w.heap.size w w' := by
  obtain ⟨c0, c1⟩ := u8_rng w0
  clear w0
  unfold maxLen at w1 w2
  have hW := Below.refl w.heap.size w
  by_cases hab : a.size ≤ 100 ∧ b.size ≤ 100
  · obtain ⟨ha, hb⟩ := hab
    cases hv : validB a.toList with
    | false =>
      go_enter Try.func7, Try.ntmps7
      go_wp2_with (first
        | (go_at_call 10; refine (awake2_any _).mono ?_; rintro e w1 ⟨rfl, hw1⟩; (first | replace hW := nextB hW hw1 | replace hW := nextA hW hw1 | replace hW := nextB hW.drew hw1 | replace hW := nextAA hW hw1); clear hw1)
        | (go_at_call 12; refine (valid_any _ _ (by omega)).mono ?_; rintro e w1 ⟨rfl, hw1⟩; (first | replace hW := nextB hW hw1 | replace hW := nextA hW hw1 | replace hW := nextB hW.drew hw1 | replace hW := nextAA hW hw1); clear hw1))
      go_ret
      exact ⟨rfl, hW⟩
    | true =>
      obtain ⟨rs, hr, hl⟩ := valid_flat ((validB_iff _).1 hv)
      have c1 := conv1 (P := Try.prog) 34 9 5 Try.underlying34 Try.underlying5 Try.underlying9
      have hc' : 128 + c % 66 < 256 := by omega
      have hs1 : (strOfNums [128 + c % 66]).size = 1 := rfl
      have ht1 : (strOfNums [128 + c % 66]).toList = [UInt8.ofNat (128 + c % 66).toNat] := by rw [ByteArray.toList_eq]; rfl
      have hb1 := toNat_ofNat (128 + c % 66) (by omega) (by omega)
      have z1 : decL (UInt8.ofNat (128 + c % 66).toNat :: b.toList) = none := bad_lone _ _ (by omega) (by omega)
      have t1 : (a ++ strOfNums [128 + c % 66] ++ b).toList = (rs.map putB).flatten ++ (UInt8.ofNat (128 + c % 66).toNat :: b.toList) := by
        rw [app_toList, app_toList, ht1, hl]; simp
      have k1 : (⟨#[237, 160, 128]⟩ : ByteArray).toList = [237, 160, 128] := by rw [ByteArray.toList_eq]
      have k2 : (⟨#[244, 144, 128, 128]⟩ : ByteArray).toList = [244, 144, 128, 128] := by rw [ByteArray.toList_eq]
      have z2 : validB (a ++ (⟨#[237, 160, 128]⟩ : ByteArray) ++ b).toList = false := by
        rw [app_toList, app_toList, hl, k1, List.append_assoc, validB_app rs hr]
        exact validB_none _ (by simp) (bad_half _)
      have z3 : validB (a ++ (⟨#[244, 144, 128, 128]⟩ : ByteArray)).toList = false := by
        rw [app_toList, hl, k2, validB_app rs hr]
        exact validB_none _ (by simp) (bad_far _)
      have z4 : validB (a ++ strOfNums [128 + c % 66] ++ b).toList = false := by
        rw [t1, validB_app rs hr]
        exact validB_none _ (by simp) z1
      have z5 : (cut (a ++ strOfNums [128 + c % 66] ++ b) ((a.size : Int) + 1 + b.size)).toList = a.toList := by
        unfold cut
        rw [show ((a.size : Int) + 1 + b.size).toNat = a.size + 1 + b.size by omega, t1, cutL_all rs hr _ z1 _ ?_]
        · have := extract_toList (a ++ strOfNums [128 + c % 66] ++ b) 0 ((rs.map putB).flatten).length
          rw [Nat.zero_add] at this
          rw [this, t1, List.drop_zero, List.take_left, hl]
        · have h1 := flat_len rs hr
          have h2 := toList_len a
          rw [hl] at h2
          omega
      have z6 : (a ++ strOfNums [128 + c % 66] ++ b).size ≤ 1000 := by simp only [ByteArray.size_append, hs1]; omega
      have z7 : (a ++ (⟨#[237, 160, 128]⟩ : ByteArray) ++ b).size ≤ 1000 := by
        have : (⟨#[237, 160, 128]⟩ : ByteArray).size = 3 := rfl
        simp only [ByteArray.size_append, this]; omega
      have z8 : (a ++ (⟨#[244, 144, 128, 128]⟩ : ByteArray)).size ≤ 1000 := by
        have : (⟨#[244, 144, 128, 128]⟩ : ByteArray).size = 4 := rfl
        simp only [ByteArray.size_append, this]; omega
      clear hl hr ht1 hb1 z1 t1 k1 k2
      go_enter Try.func7, Try.ntmps7
      go_wp2_with (first
        | (go_at_call 10; refine (awake2_any _).mono ?_; rintro e w1 ⟨rfl, hw1⟩; (first | replace hW := nextB hW hw1 | replace hW := nextA hW hw1 | replace hW := nextB hW.drew hw1 | replace hW := nextAA hW hw1); clear hw1)
        | (go_at_call 16; refine (cut_any _ _ _ (by omega) (by omega)).mono ?_; rintro e w1 ⟨rfl, hw1⟩; (first | replace hW := nextB hW hw1 | replace hW := nextA hW hw1 | replace hW := nextB hW.drew hw1 | replace hW := nextAA hW hw1); clear hw1)
        | (go_at_call 12; refine (valid_any _ _ (by omega)).mono ?_; rintro e w1 ⟨rfl, hw1⟩; (first | replace hW := nextB hW hw1 | replace hW := nextA hW hw1 | replace hW := nextB hW.drew hw1 | replace hW := nextAA hW hw1); clear hw1))
      go_ret
      exact ⟨rfl, hW⟩
  · by_cases ha : a.size ≤ 100
    · have hb : ¬ b.size ≤ 100 := fun hb => hab ⟨ha, hb⟩
      clear hab
      go_enter Try.func7, Try.ntmps7
      go_wp2_with (go_at_call 10; refine (awake2_any _).mono ?_; rintro e w1 ⟨rfl, hw1⟩; (first | replace hW := nextB hW hw1 | replace hW := nextA hW hw1 | replace hW := nextB hW.drew hw1 | replace hW := nextAA hW hw1); clear hw1)
      go_ret
      exact ⟨rfl, hW⟩
    · clear hab
      go_enter Try.func7, Try.ntmps7
      go_wp2_with (go_at_call 10; refine (awake2_any _).mono ?_; rintro e w1 ⟨rfl, hw1⟩; (first | replace hW := nextB hW hw1 | replace hW := nextA hW hw1 | replace hW := nextB hW.drew hw1 | replace hW := nextAA hW hw1); clear hw1)
      go_ret
      exact ⟨rfl, hW⟩
/-- what UtfJoins' loop keeps: at k, c code points stand ahead, whatever follows -/
def JoinAt (l : List UInt8) (k c : Nat) : Prop := validB (l.drop k) = true ∧ ∀ (m : Nat) (t : List UInt8), cutL (c + m) (l ++ t) = k + cutL m (l.drop k ++ t)
theorem join_step (l : List UInt8) (k c : Nat) (r : Int) (q : Nat) (h : JoinAt l k c) (hd : decL (l.drop k) = some (r, q)) : JoinAt l (k + q) (c + 1) := by
  obtain ⟨h1, h2⟩ := h
  obtain ⟨d1, d2, d3⟩ := decL_some _ r q hd
  refine ⟨by rw [← List.drop_drop, validB_some _ r q hd]; exact h1, fun m t => ?_⟩
  rw [show c + 1 + m = c + (m + 1) by omega, h2 (m + 1) t]
  have e : decL (l.drop k ++ t) = some (r, q) := by rw [d3, List.append_assoc, decL_put r _ d1, d2]
  simp only [cutL]
  rw [e]
  simp only
  have : (l.drop k ++ t).drop q = (l.drop (k + q)) ++ t := by
    rw [List.drop_append_of_le_length (dec_le _ r q hd).2.1, List.drop_drop]
  rw [this]; omega
theorem join_some (l : List UInt8) (k c : Nat) (h : JoinAt l k c) (hk : k < l.length) : ∃ r q, decL (l.drop k) = some (r, q) := by
  have hne : l.drop k ≠ [] := by
    intro e
    have := congrArg List.length e
    simp at this
    omega
  obtain ⟨r, q, e, _⟩ := ((validB_iff _).1 h.1).head hne
  exact ⟨r, q, e⟩
set_option maxHeartbeats 400000 in
theorem joins_walk (a b : ByteArray) (w1 : a.size ≤ maxLen) (w2 : b.size ≤ maxLen) (w : World) : Calls Try.prog 8 #[.string a, .string b] w fun e w' => e = .returned (.bool true) ∧ Below w.heap.size w w' := by
  unfold maxLen at w1 w2
  have hW := Below.refl w.heap.size w
  by_cases ha : a.size ≤ 500
  · by_cases hb : b.size ≤ 500
    · cases hv : validB a.toList with
      | false =>
        go_enter Try.func8, Try.ntmps8
        go_wp2_with (first
          | (go_at_call 10; refine (awake2_any _).mono ?_; rintro e w1 ⟨rfl, hw1⟩; (first | replace hW := nextB hW hw1 | replace hW := nextA hW hw1 | replace hW := nextB hW.drew hw1 | replace hW := nextAA hW hw1); clear hw1)
          | (go_at_call 12; refine (valid_any _ _ (by omega)).mono ?_; rintro e w1 ⟨rfl, hw1⟩; (first | replace hW := nextB hW hw1 | replace hW := nextA hW hw1 | replace hW := nextB hW.drew hw1 | replace hW := nextAA hW hw1); clear hw1))
        go_ret
        exact ⟨rfl, hW⟩
      | true =>
        cases hv' : validB b.toList with
        | false =>
          go_enter Try.func8, Try.ntmps8
          go_wp2_with (first
            | (go_at_call 10; refine (awake2_any _).mono ?_; rintro e w1 ⟨rfl, hw1⟩; (first | replace hW := nextB hW hw1 | replace hW := nextA hW hw1 | replace hW := nextB hW.drew hw1 | replace hW := nextAA hW hw1); clear hw1)
            | (go_at_call 12; refine (valid_any _ _ (by omega)).mono ?_; rintro e w1 ⟨rfl, hw1⟩; (first | replace hW := nextB hW hw1 | replace hW := nextA hW hw1 | replace hW := nextB hW.drew hw1 | replace hW := nextAA hW hw1); clear hw1))
          go_ret
          exact ⟨rfl, hW⟩
        | true =>
          obtain ⟨rs, hr, hl⟩ := valid_flat ((validB_iff _).1 hv)
          have z1 : validB (a ++ b).toList = true := by rw [app_toList, hl, validB_app rs hr, hv']
          have Z1 := Lib.hid z1
          have S0 : Hid (JoinAt a.toList 0 0) := ⟨by simpa using hv, by simp⟩
          clear z1 hl hr rs
          go_enter Try.func8, Try.ntmps8
          go_wp2_with (go_at_call 12; refine (valid_any _ _ (by omega)).mono ?_; rintro e w1 ⟨rfl, hw1⟩; (first | replace hW := nextB hW hw1 | replace hW := nextA hW hw1 | replace hW := nextB hW.drew hw1 | replace hW := nextAA hW hw1); clear hw1)
          go_loopw [5, 6] (fun p i wr => ∃ (k c : Nat), k ≤ a.size ∧ c ≤ k ∧ i = .int .i64 k ∧ p = .int .i64 c ∧ Hid (JoinAt a.toList k c) ∧ Below w.heap.size w wr) (fun _ i _ => a.size - (intOf i).toNat)
          case atStart => exact ⟨0, 0, by omega, by omega, rfl, rfl, S0, hW⟩
          case round =>
            obtain ⟨k, c, hk, hc, rfl, rfl, hj, hW⟩ := hrel
            by_cases hlt : k < a.size
            · obtain ⟨r, q, hd⟩ := join_some _ k c hj.out (by rw [toList_len]; exact hlt)
              have hz := Lib.hid (get_fn a k (by omega) hlt)
              have HG : Hid (GetAt 11 a k (r, k + q)) := by have := hz.out; unfold getL at this; rw [hd] at this; exact this
              have HJ : Hid (JoinAt a.toList (k + q) (c + 1)) := join_step _ k c r q hj.out hd
              obtain ⟨d1, d2, d3⟩ := dec_le _ r q hd
              rw [List.length_drop, toList_len] at d2
              have d4 : k + q ≤ a.size := by omega
              clear hz hd hj
              go_wp2_with (go_at_call 11; refine (HG.out _).mono ?_; rintro e w1 ⟨rfl, hw1⟩; (first | replace hW := nextB hW hw1 | replace hW := nextA hW hw1 | replace hW := nextB hW.drew hw1 | replace hW := nextAA hW hw1); clear hw1)
              go_roundw
              case rel => exact ⟨k + q, c + 1, by omega, by omega, by go_num, by go_num, HJ, hW⟩
              case measure => simp [intOf]; omega
            · obtain rfl : k = a.size := by omega
              have hd : a.toList.drop a.size = [] := by rw [List.drop_eq_nil_iff, toList_len]; omega
              have y1 : (cut (a ++ b) c).toList = a.toList := by
                have h := hj.out.2 0 b.toList
                unfold cut
                rw [Int.toNat_natCast, app_toList]
                rw [Nat.add_zero] at h
                rw [h]
                have h0 : cutL 0 (a.toList.drop a.size ++ b.toList) = 0 := rfl
                rw [h0, Nat.add_zero]
                have := extract_toList (a ++ b) 0 a.size
                rw [Nat.zero_add] at this
                rw [this, app_toList, List.drop_zero, ← toList_len a, List.take_left]
              have y2 : (cut a ((c : Int) + 1)).toList = a.toList := by
                have h := hj.out.2 1 []
                unfold cut
                rw [show ((c : Int) + 1).toNat = c + 1 by omega]
                rw [List.append_nil, List.append_nil, hd] at h
                rw [h]
                have h0 : cutL 1 [] = 0 := rfl
                rw [h0, Nat.add_zero]
                have := extract_toList a 0 a.size
                rw [Nat.zero_add] at this
                rw [this, List.drop_zero, ← toList_len a, List.take_length]
              have y3 : (a ++ b).size ≤ 1000 := by rw [ByteArray.size_append]; omega
              have y4 := Z1.out
              clear hd hj
              go_wp2_with (first
                | (go_at_call 10; refine (awake2_any _).mono ?_; rintro e w1 ⟨rfl, hw1⟩; (first | replace hW := nextB hW hw1 | replace hW := nextA hW hw1 | replace hW := nextB hW.drew hw1 | replace hW := nextAA hW hw1); clear hw1)
                | (go_at_call 16; refine (cut_any _ _ _ (by omega) (by omega)).mono ?_; rintro e w1 ⟨rfl, hw1⟩; (first | replace hW := nextB hW hw1 | replace hW := nextA hW hw1 | replace hW := nextB hW.drew hw1 | replace hW := nextAA hW hw1); clear hw1)
                | (go_at_call 12; refine (valid_any _ _ (by omega)).mono ?_; rintro e w1 ⟨rfl, hw1⟩; (first | replace hW := nextB hW hw1 | replace hW := nextA hW hw1 | replace hW := nextB hW.drew hw1 | replace hW := nextAA hW hw1); clear hw1))
              go_ret
              exact ⟨rfl, hW⟩
    · go_enter Try.func8, Try.ntmps8
      go_wp2_with (go_at_call 10; refine (awake2_any _).mono ?_; rintro e w1 ⟨rfl, hw1⟩; (first | replace hW := nextB hW hw1 | replace hW := nextA hW hw1 | replace hW := nextB hW.drew hw1 | replace hW := nextAA hW hw1); clear hw1)
      go_ret
      exact ⟨rfl, hW⟩
  · go_enter Try.func8, Try.ntmps8
    go_wp2_with (go_at_call 10; refine (awake2_any _).mono ?_; rintro e w1 ⟨rfl, hw1⟩; (first | replace hW := nextB hW hw1 | replace hW := nextA hW hw1 | replace hW := nextB hW.drew hw1 | replace hW := nextAA hW hw1); clear hw1)
    go_ret
    exact ⟨rfl, hW⟩
end Go.Proofs.Ytiaikpbnjhhiaaa
