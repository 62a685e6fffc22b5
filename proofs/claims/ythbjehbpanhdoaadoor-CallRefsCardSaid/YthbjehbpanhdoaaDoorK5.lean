/- Texts of one seat, one behind the other: Pj4, Jval3, Jval4. No condition. -/
import Derived.Test.YthbjehbpanhdoaaDoorK4
/-! Plain laws of reading JSON: what is read is right, and its text is no longer than what was read. -/
namespace Go.Proofs.YthbjehbpanhdoaaDoor
open Go.RowKit Go.PlainAid
set_option linter.unusedVariables false
set_option linter.unusedSimpArgs false
theorem ValidP.app {a b : List UInt8} (ha : ValidP a) (hb : ValidP b) : ValidP (a ++ b) := by
  obtain ⟨rs, h1, rfl⟩ := ha
  obtain ⟨qs, h2, rfl⟩ := hb
  exact ⟨rs ++ qs, fun x hx => by rcases List.mem_append.1 hx with h | h; exact h1 x h; exact h2 x h, by simp⟩
theorem ValidP.one {p : Int} (h : putB p ≠ []) : ValidP (putB p) := by
  have := ValidP.cons h ValidP.nil
  simpa using this
theorem ValidP.ascii (c : UInt8) (h : c.toNat < 128) : ValidP [c] := by
  rw [← putB_ascii c h]
  exact ValidP.one (by rw [putB_ascii c h]; simp)
theorem flat_le4 (p : Int) (hp : putB p ≠ []) : ((putB p).flatMap escU).length ≤ 6 := by
  by_cases h : p < 128
  · obtain ⟨c, e, _⟩ := low_one p hp h
    rw [e]
    have := escU_le c
    simpa using this
  · rw [high_flat _ (high_all p hp (by omega))]
    have := putB_len p
    omega
theorem pointL_ok {l : List UInt8} {n : Int} {r : List UInt8} (h : pointL l = some (n, r)) : putB n ≠ [] ∧ r.length + 4 ≤ l.length := by
  unfold pointL at h
  split at h
  · cases h
  · rename_i n1 r1 h1
    have k1 := unitL_le _ _ _ _ _ h1
    have b1 := unitL_bd _ _ _ _ _ (by omega) h1
    have p4 : (16 : Int) ^ 4 = 65536 := by decide
    rw [p4] at b1
    split at h
    · simp at h; obtain ⟨rfl, rfl⟩ := h
      exact ⟨by rw [Ne, putB_nil]; omega, by omega⟩
    · split at h
      · cases h
      · split at h
        · split at h
          · cases h
          · rename_i n2 r2 h2
            have k2 := unitL_le _ _ _ _ _ h2
            have hd := List.length_drop (l := r1) (i := 2)
            split at h
            · cases h
            · simp at h
              obtain ⟨rfl, rfl⟩ := h
              exact ⟨by rw [Ne, putB_nil]; omega, by omega⟩
        · cases h
theorem escL_ok {l b r : List UInt8} (h : escL l = some (b, r)) : ValidP b ∧ (b.flatMap escU).length + r.length ≤ l.length + 1 := by
  unfold escL at h
  cases l with
  | nil => simp at h
  | cons c l =>
    simp only at h
    split at h
    · rename_i hc
      cases h
      have : c.toNat < 128 := by rcases hc with rfl | rfl | rfl <;> decide
      refine ⟨ValidP.ascii c this, ?_⟩
      have e : (escU c).length ≤ 2 := by rcases hc with rfl | rfl | rfl <;> decide
      simp; omega
    split at h
    · cases h; exact ⟨ValidP.ascii _ (by decide), by simp [escU]; omega⟩
    split at h
    · cases h; exact ⟨ValidP.ascii _ (by decide), by simp [escU]; omega⟩
    split at h
    · cases h; exact ⟨ValidP.ascii _ (by decide), by simp [escU]; omega⟩
    split at h
    · cases h; exact ⟨ValidP.ascii _ (by decide), by simp [escU]; omega⟩
    split at h
    · cases h; exact ⟨ValidP.ascii _ (by decide), by simp [escU]; omega⟩
    split at h
    · split at h
      · cases h
      · rename_i n r2 h2
        cases h
        have := pointL_ok h2
        have h6 := flat_le4 n this.1
        exact ⟨ValidP.one this.1, by simp only [List.length_cons]; omega⟩
    · cases h
theorem textT_ok : ∀ (k : Nat) (l acc b r : List UInt8), l.length ≤ k → textT l acc = some (b, r) → ∃ u, b = acc ++ u ∧ ValidP u ∧ (u.flatMap escU).length + r.length + 1 ≤ l.length
  | 0, l, acc, b, r, hk, h => by
    have : l = [] := List.eq_nil_of_length_eq_zero (by omega)
    subst this
    rw [textT_nil] at h; cases h
  | k + 1, [], acc, b, r, hk, h => by rw [textT_nil] at h; cases h
  | k + 1, c :: l, acc, b, r, hk, h => by
    rw [textT_cons] at h
    simp only [List.length_cons] at hk
    split at h
    · cases h
    rename_i h32
    split at h
    · cases h; exact ⟨[], by simp, ValidP.nil, by simp⟩
    rename_i h34
    split at h
    · split at h
      · cases h
      · rename_i b2 r2 h2
        have k2 := escL_le h2
        have o2 := escL_ok h2
        obtain ⟨u, e, hv, hlen⟩ := textT_ok k _ _ _ _ (by omega) h
        refine ⟨b2 ++ u, by rw [e, List.append_assoc], o2.1.app hv, ?_⟩
        simp only [List.flatMap_append, List.length_append, List.length_cons]
        omega
    rename_i h92
    · split at h
      · cases h
      · rename_i x m h2
        have k2 := dec_le _ _ _ h2
        obtain ⟨d1, d2, d3⟩ := decL_some _ _ _ h2
        have hd := List.length_drop (l := c :: l) (i := m)
        simp only [List.length_cons] at hd k2
        obtain ⟨u, e, hv, hlen⟩ := textT_ok k _ _ _ _ (by omega) h
        have ht : (c :: l).take m = putB x := by rw [d3, d2]; simp
        rw [ht] at e
        refine ⟨putB x ++ u, by rw [e, List.append_assoc], hv.cons d1, ?_⟩
        have hf : ((putB x).flatMap escU).length = m := by
          by_cases hx : x < 128
          · obtain ⟨c', e1, e2⟩ := low_one x d1 hx
            have ec : c' = c := by rw [e1] at d3; simp at d3; exact d3.1.symm
            subst ec
            rw [d2, e1]
            have : escU c' = [c'] := by
              unfold escU
              rw [if_neg (by rintro (e | e); exact h34 e; exact h92 e), if_pos (by rw [u8_lt] at h32; simpa using h32)]
            simp [this]
          · rw [high_flat _ (high_all x d1 (by omega)), d2]
        simp only [List.flatMap_append, List.length_append, List.length_cons]
        omega
theorem textL_ok {l b r : List UInt8} (h : textL l = some (b, r)) : ValidP b ∧ (quoteU b).length + r.length ≤ l.length := by
  unfold textL at h
  split at h
  · rename_i hh
    obtain ⟨u, e, hv, hlen⟩ := textT_ok _ _ _ _ _ (Nat.le_refl _) h
    rw [List.nil_append] at e
    subst e
    have ht := tail_lt hh
    refine ⟨hv, ?_⟩
    unfold quoteU
    simp only [List.length_append, List.length_cons, List.length_nil]
    omega
  · cases h
/-! numbers -/
theorem valD_dig (ds : List UInt8) (h : ∀ c ∈ ds, digB c = true) (hne : ds ≠ []) : 0 ≤ valD 0 ds ∧ (Lib.decDigits (valD 0 ds).toNat).length ≤ ds.length := by
  obtain ⟨k, hk⟩ : ∃ k, ds.length = k := ⟨_, rfl⟩
  induction k generalizing ds with
  | zero => exact absurd (List.eq_nil_of_length_eq_zero hk) hne
  | succ k ih =>
    obtain ⟨es, c, rfl⟩ : ∃ es c, ds = es ++ [c] := ⟨ds.dropLast, ds.getLast hne, (List.dropLast_concat_getLast hne).symm⟩
    have hc := h c (by simp)
    unfold digB at hc
    have hc := of_decide_eq_true hc
    rw [valD_snoc2]
    by_cases he : es = []
    · subst he
      have : valD 0 [] = 0 := rfl
      rw [this]
      refine ⟨by omega, ?_⟩
      rw [Lib.decDigits_one (by omega)]
      simp
    · have h1 := ih es (fun x hx => h x (by simp [hx])) he (by simp at hk; exact hk)
      refine ⟨by omega, ?_⟩
      simp only [List.length_append, List.length_cons, List.length_nil]
      generalize valD 0 es = v at h1 ⊢
      by_cases h9 : (v * 10 + ((c.toNat : Int) - 48)).toNat < 10
      · rw [Lib.decDigits_one h9]; simp
      · rw [Lib.decDigits, dif_neg h9, List.length_append]
        have e : (v * 10 + ((c.toNat : Int) - 48)).toNat / 10 = v.toNat := by omega
        rw [e]
        simp only [List.length_cons, List.length_nil]; omega
theorem take_dig (l : List UInt8) : ∀ c ∈ l.takeWhile digB, digB c = true := by
  induction l with
  | nil => intro c hc; simp at hc
  | cons a l ih =>
    intro c hc
    rw [List.takeWhile_cons] at hc
    split at hc
    · rename_i ha
      rcases List.mem_cons.1 hc with rfl | hc
      · exact ha
      · exact ih c hc
    · simp at hc
theorem numTail_ok {neg : Bool} {l : List UInt8} {n : Int} {r : List UInt8} (h : numTail neg l = some (n, r)) : -9007199254740991 ≤ n ∧ n ≤ 9007199254740991 ∧ (if neg = true then n < 0 else 0 ≤ n) ∧ (Lib.decDigits n.natAbs).length + r.length ≤ l.length := by
  unfold numTail at h
  split at h
  · cases h
  · rename_i hn
    simp only [Option.some.injEq, Prod.mk.injEq] at h
    obtain ⟨rfl, rfl⟩ := h
    have h0 : l.takeWhile digB ≠ [] := fun e => hn (.inl e)
    have h1 : l.takeWhile digB ++ l.dropWhile digB = l := List.takeWhile_append_dropWhile
    have h2 := congrArg List.length h1
    rw [List.length_append] at h2
    have h3 := valD_dig _ (take_dig l) h0
    have h4 : ¬ 9007199254740991 < valD 0 (l.takeWhile digB) := fun e => hn (.inr (.inr (.inl e)))
    have h5 : ¬ (neg = true ∧ valD 0 (l.takeWhile digB) = 0) := fun e => hn (.inr (.inr (.inr (.inl e))))
    generalize valD 0 (l.takeWhile digB) = v at h3 h4 h5 ⊢
    cases neg with
    | true =>
      simp only [if_true, true_and] at h5 ⊢
      have : (-v).natAbs = v.toNat := by omega
      rw [this]
      omega
    | false =>
      simp only [Bool.false_eq_true, if_false]
      have : v.natAbs = v.toNat := by omega
      rw [this]
      omega
theorem numL_ok {l : List UInt8} {n : Int} {r : List UInt8} (h : numL l = some (n, r)) : -9007199254740991 ≤ n ∧ n ≤ 9007199254740991 ∧ (Lib.itoa n).length + r.length ≤ l.length := by
  unfold numL at h
  split at h
  · rename_i hh
    have := numTail_ok h
    have ht := tail_lt hh
    simp only [if_true] at this
    unfold Lib.itoa
    rw [if_pos this.2.2.1]
    simp only [List.length_cons]
    omega
  · have := numTail_ok h
    simp only [Bool.false_eq_true, if_false] at this
    unfold Lib.itoa
    rw [if_neg (by omega)]
    have e : n.toNat = n.natAbs := by omega
    rw [e]
    omega
/-! values -/
theorem right_nd0 (k : Int) (h : k = 1 ∨ k = 2 ∨ k = 3) (deep : Int) : rightD (nd0 k) deep = true := by
  unfold rightD nd0 rightN bareF
  rcases h with rfl | rfl | rfl <;> simp
theorem right_num (n : Int) (h1 : -9007199254740991 ≤ n) (h2 : n ≤ 9007199254740991) (deep : Int) : rightD (.mk 4 n ⟨#[]⟩ [] []) deep = true := by
  unfold rightD rightN bareF
  simp [h1, h2]
theorem right_str (t : ByteArray) (h : ValidP t.toList) (deep : Int) : rightD (.mk 5 0 t [] []) deep = true := by
  unfold rightD rightN bareF
  have := (validB_iff _).2 h
  simp [this]
theorem right_arr (ns : List Nd) (deep : Int) (hd : deep < 24) (h : ∀ n ∈ ns, rightD n (deep + 1) = true) : rightD (.mk 6 0 ⟨#[]⟩ [] ns) deep = true := by
  unfold rightD rightN bareF
  have : rightL 9007199254740991 24 ns (deep + 1) = true := by
    rw [rightL_all, List.all_eq_true]
    exact h
  simp [this, hd]
theorem right_obj (ks : List ByteArray) (ns : List Nd) (deep : Int) (hd : deep < 24) (hl : ks.length = ns.length) (hn : ks.Nodup) (hv : ∀ k ∈ ks, ValidP k.toList) (h : ∀ n ∈ ns, rightD n (deep + 1) = true) : rightD (.mk 7 0 ⟨#[]⟩ ks ns) deep = true := by
  unfold rightD rightN bareF
  have : rightL 9007199254740991 24 ns (deep + 1) = true := by
    rw [rightL_all, List.all_eq_true]
    exact h
  have hk : keysB ks = true := by
    unfold keysB
    exact decide_eq_true ⟨hn, fun k hk => (validB_iff _).2 (hv k hk)⟩
  simp [this, hd, hk, hl]
theorem putU_nd0 (k : Int) (h : k = 1 ∨ k = 2 ∨ k = 3) : (putU (nd0 k)).length = if k = 2 then 5 else 4 := by
  unfold nd0 putU
  rcases h with rfl | rfl | rfl <;> rfl
theorem putL_len (obj : Bool) (ks : List ByteArray) (n : Nd) (ns : List Nd) : (putL obj ks (n :: ns) true).length = (if obj = true then (quoteU (ks.headD ⟨#[]⟩).toList).length + 1 else 0) + (putU n).length + (if ns = [] then 0 else 1 + (putL obj ks.tail ns true).length) := by
  have h := putL_cons obj ks n ns []
  simp only [List.append_nil] at h
  rw [h]
  cases ns with
  | nil =>
    have := putL_nil obj ks.tail false []
    rw [List.append_nil] at this
    rw [this]
    cases obj
    · simp
    · simp; omega
  | cons m ns =>
    have := putL_more obj ks.tail m ns []
    simp only [List.append_nil] at this
    rw [this]
    cases obj <;> simp <;> omega
theorem val_ok : ∀ (N : Nat),
    (∀ deep l n r, 2 * l.length ≤ N → deep ≤ 24 → valL deep l = .ok (n, r) → rightD n (deep : Int) = true ∧ (putU n).length + r.length ≤ l.length) ∧
    (∀ deep l ns n r, 2 * l.length + 1 ≤ N → deep < 24 → arrL deep l ns = .ok (n, r) → ∃ ms, ms ≠ [] ∧ n = .mk 6 0 ⟨#[]⟩ [] (ns ++ ms) ∧ (∀ x ∈ ms, rightD x ((deep : Int) + 1) = true) ∧ (putL false [] ms true).length + 1 + r.length ≤ l.length) ∧
    (∀ deep l ks ns n r, 2 * l.length + 1 ≤ N → deep < 24 → objL deep l ks ns = .ok (n, r) → ∃ kk ms, ms ≠ [] ∧ kk.length = ms.length ∧ n = .mk 7 0 ⟨#[]⟩ (ks ++ kk) (ns ++ ms) ∧ (ks.Nodup → (ks ++ kk).Nodup) ∧ (∀ k ∈ kk, ValidP k.toList) ∧ (∀ x ∈ ms, rightD x ((deep : Int) + 1) = true) ∧ (putL true kk ms true).length + 1 + r.length ≤ l.length) := by
  intro N
  induction N using Nat.strongRecOn with
  | _ N ih =>
    refine ⟨?_, ?_, ?_⟩
    · intro deep l n r hN hd h
      by_cases h91 : l.head? = some 91
      · by_cases h24 : 24 ≤ deep
        · rw [valL_deep deep l (.inl h91) h24] at h; cases h
        rw [valL_arr deep l h91 h24] at h
        have ht := tail_lt h91
        have hb := blanksL_le l.tail
        split at h
        · rename_i h93
          cases h
          have := tail_lt h93
          refine ⟨right_arr [] _ (by omega) (by simp), ?_⟩
          have e : (putU (.mk 6 0 ⟨#[]⟩ [] [])).length = 2 := by unfold putU putL; rfl
          omega
        · obtain ⟨ms, m1, rfl, m3, m4⟩ := (ih (2 * (blanksL l.tail).length + 1) (by omega)).2.1 deep _ _ n r (Nat.le_refl _) (by omega) h
          rw [List.nil_append]
          refine ⟨right_arr ms _ (by omega) m3, ?_⟩
          have e : (putU (.mk 6 0 ⟨#[]⟩ [] ms)).length = 2 + (putL false [] ms true).length := by
            unfold putU
            rw [if_neg (by omega), if_neg (by omega), if_neg (by omega), if_neg (by omega), if_neg (by omega), if_pos rfl]
            show ([91] ++ putL false [] ms true ++ [93]).length = _
            simp; omega
          omega
      by_cases h123 : l.head? = some 123
      · by_cases h24 : 24 ≤ deep
        · rw [valL_deep deep l (.inr h123) h24] at h; cases h
        rw [valL_obj deep l h123 h24] at h
        have ht := tail_lt h123
        have hb := blanksL_le l.tail
        split at h
        · rename_i h93
          cases h
          have := tail_lt h93
          refine ⟨right_obj [] [] _ (by omega) rfl (by simp) (by simp) (by simp), ?_⟩
          have e : (putU (.mk 7 0 ⟨#[]⟩ [] [])).length = 2 := by unfold putU putL; rfl
          omega
        · obtain ⟨kk, ms, m1, m2, rfl, m3, m4, m5, m6⟩ := (ih (2 * (blanksL l.tail).length + 1) (by omega)).2.2 deep _ _ _ n r (Nat.le_refl _) (by omega) h
          rw [List.nil_append, List.nil_append]
          refine ⟨right_obj kk ms _ (by omega) m2 (by simpa using m3) m4 m5, ?_⟩
          have e : (putU (.mk 7 0 ⟨#[]⟩ kk ms)).length = 2 + (putL true kk ms true).length := by
            unfold putU
            rw [if_neg (by omega), if_neg (by omega), if_neg (by omega), if_neg (by omega), if_neg (by omega), if_neg (by omega)]
            show ([123] ++ putL true kk ms true ++ [125]).length = _
            simp; omega
          omega
      by_cases h34 : l.head? = some 34
      · rw [valL_str deep l h34] at h
        cases ht : textL l with
        | none => rw [ht] at h; cases h
        | some p =>
          obtain ⟨t, r'⟩ := p
          rw [ht] at h
          simp only [Except.ok.injEq, Prod.mk.injEq] at h
          obtain ⟨rfl, rfl⟩ := h
          have := textL_ok ht
          have e : (⟨t.toArray⟩ : ByteArray).toList = t := by rw [ByteArray.toList_eq]
          refine ⟨right_str _ (by rw [e]; exact this.1) _, ?_⟩
          have e2 : putU (.mk 5 0 ⟨t.toArray⟩ [] []) = quoteU t := by
            unfold putU
            rw [if_neg (by omega), if_neg (by omega), if_neg (by omega), if_neg (by omega), if_pos rfl, e]
          rw [e2]; exact this.2
      rw [valL_else deep l h91 h123 h34] at h
      split at h
      · rename_i ht
        cases h
        have := putU_nd0 1 (by omega)
        have h5 := congrArg List.length ht
        simp only [List.length_take, List.length_cons, List.length_nil] at h5
        exact ⟨right_nd0 1 (by omega) _, by rw [this, List.length_drop]; simp; omega⟩
      split at h
      · rename_i ht
        cases h
        have := putU_nd0 2 (by omega)
        have h5 := congrArg List.length ht
        simp only [List.length_take, List.length_cons, List.length_nil] at h5
        exact ⟨right_nd0 2 (by omega) _, by rw [this, List.length_drop]; simp; omega⟩
      split at h
      · rename_i ht
        cases h
        have := putU_nd0 3 (by omega)
        have h5 := congrArg List.length ht
        simp only [List.length_take, List.length_cons, List.length_nil] at h5
        exact ⟨right_nd0 3 (by omega) _, by rw [this, List.length_drop]; simp; omega⟩
      cases ht : numL l with
      | none => rw [ht] at h; cases h
      | some p =>
        obtain ⟨m, r'⟩ := p
        rw [ht] at h
        simp only [Except.ok.injEq, Prod.mk.injEq] at h
        obtain ⟨rfl, rfl⟩ := h
        have := numL_ok ht
        refine ⟨right_num m this.1 this.2.1 _, ?_⟩
        have e2 : putU (.mk 4 m ⟨#[]⟩ [] []) = Lib.itoa m := by
          unfold putU
          rw [if_neg (by omega), if_neg (by omega), if_neg (by omega), if_pos rfl]
        rw [e2]; exact this.2.2
    · intro deep l ns n r hN hd h
      rw [arrL_eq] at h
      have hb := blanksL_le l
      cases hv : valL (deep + 1) (blanksL l) with
      | error e => rw [hv] at h; cases h
      | ok p =>
        obtain ⟨x, r1⟩ := p
        rw [hv] at h
        simp only at h
        obtain ⟨g1, g2⟩ := (ih (2 * (blanksL l).length) (by omega)).1 (deep + 1) _ x r1 (Nat.le_refl _) (by omega) hv
        have hr1 := (valL_le hv).2
        have hb1 := blanksL_le r1
        split at h
        · rename_i h93
          cases h
          have := tail_lt h93
          refine ⟨[x], by simp, rfl, by simpa using g1, ?_⟩
          rw [putL_len]
          simp; omega
        · split at h
          · rename_i h44
            have ht := tail_lt h44
            obtain ⟨ms, m1, m2, m3, m4⟩ := (ih (2 * (blanksL r1).tail.length + 1) (by omega)).2.1 deep _ _ n r (Nat.le_refl _) hd h
            refine ⟨x :: ms, by simp, by rw [m2]; simp, ?_, ?_⟩
            · intro y hy
              rcases List.mem_cons.1 hy with rfl | hy
              · simpa using g1
              · exact m3 y hy
            · rw [putL_len, if_neg (by simp), if_neg m1]
              simp only [List.tail_nil]
              omega
          · cases h
    · intro deep l ks ns n r hN hd h
      rw [objL_eq] at h
      have hb := blanksL_le l
      cases ht : textL (blanksL l) with
      | none => rw [ht] at h; cases h
      | some p =>
        obtain ⟨k, r0⟩ := p
        rw [ht] at h
        simp only at h
        have o := textL_ok ht
        have hr0 := (textL_le ht).2
        have hb0 := blanksL_le r0
        split at h
        · cases h
        rename_i hany
        split at h
        · rename_i h58
          have h58 := tail_lt h58
          have hb2 := blanksL_le (blanksL r0).tail
          cases hv : valL (deep + 1) (blanksL (blanksL r0).tail) with
          | error e => rw [hv] at h; cases h
          | ok p =>
            obtain ⟨x, r1⟩ := p
            rw [hv] at h
            simp only at h
            obtain ⟨g1, g2⟩ := (ih (2 * (blanksL (blanksL r0).tail).length) (by omega)).1 (deep + 1) _ x r1 (Nat.le_refl _) (by omega) hv
            have hr1 := (valL_le hv).2
            have hb1 := blanksL_le r1
            have ek : (⟨k.toArray⟩ : ByteArray).toList = k := by rw [ByteArray.toList_eq]
            have hnew : (⟨k.toArray⟩ : ByteArray) ∉ ks := fun hm => hany (by
              rw [List.any_eq_true]
              exact ⟨_, hm, by rw [ek]; simp⟩)
            have hnd : ks.Nodup → (ks ++ [(⟨k.toArray⟩ : ByteArray)]).Nodup := fun hn => by
              rw [List.nodup_append]
              exact ⟨hn, by simp, fun a ha b hb e => by simp at hb; subst hb; subst e; exact hnew ha⟩
            split at h
            · rename_i h93
              cases h
              have := tail_lt h93
              refine ⟨[⟨k.toArray⟩], [x], by simp, rfl, rfl, hnd, by intro y hy; simp at hy; subst hy; rw [ek]; exact o.1, by simpa using g1, ?_⟩
              rw [putL_len]
              simp only [List.headD_cons, ek, if_true]
              omega
            · split at h
              · rename_i h44
                have ht := tail_lt h44
                obtain ⟨kk, ms, m1, m2, m3, m4, m5, m6, m7⟩ := (ih (2 * (blanksL r1).tail.length + 1) (by omega)).2.2 deep _ _ _ n r (Nat.le_refl _) hd h
                refine ⟨⟨k.toArray⟩ :: kk, x :: ms, by simp, by simp [m2], by rw [m3]; simp, ?_, ?_, ?_, ?_⟩
                · intro hn
                  have := m4 (hnd hn)
                  simpa using this
                · intro y hy
                  rcases List.mem_cons.1 hy with rfl | hy
                  · rw [ek]; exact o.1
                  · exact m5 y hy
                · intro y hy
                  rcases List.mem_cons.1 hy with rfl | hy
                  · simpa using g1
                  · exact m6 y hy
                · rw [putL_len, if_pos rfl, if_neg m1]
                  simp only [List.headD_cons, ek, List.tail_cons]
                  omega
              · cases h
        · cases h
/-- what was read is right, its text is no longer, and is read as the same -/
theorem parse_back {l : List UInt8} {n : Nd} (h : parseL l = .ok n) : rightD n 0 = true ∧ (putU n).length ≤ l.length ∧ l.length ≤ 65536 ∧ parseL (putU n) = .ok n := by
  unfold parseL at h
  split at h
  · cases h
  rename_i hl
  cases hv : valL 0 (blanksL l) with
  | error e => rw [hv] at h; cases h
  | ok p =>
    obtain ⟨m, r⟩ := p
    rw [hv] at h
    simp only at h
    split at h
    · cases h
      obtain ⟨h1, h2⟩ := (val_ok _).1 0 _ n r (Nat.le_refl _) (by omega) hv
      have hb := blanksL_le l
      have h1 : rightD n 0 = true := by simpa using h1
      exact ⟨h1, by omega, by omega, parse_put n h1 (by omega)⟩
    · cases h
end Go.Proofs.YthbjehbpanhdoaaDoor
/-! What reading a value keeps. -/
namespace Go.Proofs.YthbjehbpanhdoaaDoor
open Go.RowKit Go.PlainAid
set_option linter.unusedVariables false
set_option linter.unusedSimpArgs false
/-- a value's parse under way: its own three variables -/
structure VInv (w0 : World) (rb : Nat) (deep : Int) (w : World) : Prop where
  rbox : Blk w w0.heap.size 75 #[.pointer (some ⟨rb, 0, none⟩)]
  dbox : Blk w (w0.heap.size + 1) 3 #[.int .i64 deep]
  res : Blk w (w0.heap.size + 1 + 1) 25 #[.int .i64 0, .int .i64 0, .string ⟨#[]⟩, .slice none 0 0, .slice none 0 0]
  grow : w0.grownBy w (some rb)
  size : w0.heap.size + 3 ≤ w.heap.size
  lt : rb < w0.heap.size
theorem VInv.start (w : World) (rb : Nat) (deep : Int) (h : rb < w.heap.size) : VInv w rb deep (((w.alloc (.cells #[.pointer (some ⟨rb, 0, none⟩)] 75)).alloc (.cells #[.int .i64 deep] 3)).alloc (.cells #[.int .i64 0, .int .i64 0, .string ⟨#[]⟩, .slice none 0 0, .slice none 0 0] 25)) := by
  refine ⟨((Blk.new w _ _).alloc _).alloc _, ?_, ?_, grown_alloc (grown_alloc (grown_alloc (grown_refl _ _) _) _) _, by simp, h⟩
  · have := (Blk.new (w.alloc (.cells #[.pointer (some ⟨rb, 0, none⟩)] 75)) 3 #[.int .i64 deep]).alloc (.cells #[.int .i64 0, .int .i64 0, .string ⟨#[]⟩, .slice none 0 0, .slice none 0 0] 25)
    simpa using this
  · have := Blk.new ((w.alloc (.cells #[.pointer (some ⟨rb, 0, none⟩)] 75)).alloc (.cells #[.int .i64 deep] 3)) 25 #[.int .i64 0, .int .i64 0, .string ⟨#[]⟩, .slice none 0 0, .slice none 0 0]
    simpa using this
theorem VInv.next {w0 : World} {rb : Nat} {deep : Int} {w w' : World} (h : VInv w0 rb deep w) (g : w.grownBy w' (some rb)) : VInv w0 rb deep w' := by
  have hl := h.lt
  exact ⟨h.rbox.grown g (by intro e; injection e with e; omega), h.dbox.grown g (by intro e; injection e with e; omega), h.res.grown g (by intro e; injection e with e; omega), h.grow.trans g, Nat.le_trans h.size g.size, hl⟩
theorem VInv.drewN {w0 : World} {rb : Nat} {deep : Int} {w : World} (h : VInv w0 rb deep w) (n : Nat) : VInv w0 rb deep (w.drewN n) := h.next (grown_drewN (grown_refl _ _) n)
/-- the result laid into its cells -/
theorem VInv.laid {w0 : World} {rb : Nat} {deep : Int} {w : World} (h : VInv w0 rb deep w) (a b c d e : Value) :
    Blk (((((w.setCell ⟨w0.heap.size + 1 + 1, 0, none⟩ a).setCell ⟨w0.heap.size + 1 + 1, 1, none⟩ b).setCell ⟨w0.heap.size + 1 + 1, 2, none⟩ c).setCell ⟨w0.heap.size + 1 + 1, 3, none⟩ d).setCell ⟨w0.heap.size + 1 + 1, 4, none⟩ e) (w0.heap.size + 1 + 1) 25 #[a, b, c, d, e] ∧
    w0.grownBy (((((w.setCell ⟨w0.heap.size + 1 + 1, 0, none⟩ a).setCell ⟨w0.heap.size + 1 + 1, 1, none⟩ b).setCell ⟨w0.heap.size + 1 + 1, 2, none⟩ c).setCell ⟨w0.heap.size + 1 + 1, 3, none⟩ d).setCell ⟨w0.heap.size + 1 + 1, 4, none⟩ e) (some rb) ∧
    (((((w.setCell ⟨w0.heap.size + 1 + 1, 0, none⟩ a).setCell ⟨w0.heap.size + 1 + 1, 1, none⟩ b).setCell ⟨w0.heap.size + 1 + 1, 2, none⟩ c).setCell ⟨w0.heap.size + 1 + 1, 3, none⟩ d).setCell ⟨w0.heap.size + 1 + 1, 4, none⟩ e).heap.size = w.heap.size ∧
    ∀ g, g ≠ w0.heap.size + 1 + 1 → (((((w.setCell ⟨w0.heap.size + 1 + 1, 0, none⟩ a).setCell ⟨w0.heap.size + 1 + 1, 1, none⟩ b).setCell ⟨w0.heap.size + 1 + 1, 2, none⟩ c).setCell ⟨w0.heap.size + 1 + 1, 3, none⟩ d).setCell ⟨w0.heap.size + 1 + 1, 4, none⟩ e).heap[g]? = w.heap[g]? := by
  refine ⟨(((((h.res.set_ 0 a).set_ 1 b).set_ 2 c).set_ 3 d).set_ 4 e), grown_new (grown_new (grown_new (grown_new (grown_new h.grow (by omega) 0 _) (by omega) 1 _) (by omega) 2 _) (by omega) 3 _) (by omega) 4 _, by simp, fun g hg => ?_⟩
  rw [Below.heap_setCell _ _ _ _ hg, Below.heap_setCell _ _ _ _ hg, Below.heap_setCell _ _ _ _ hg, Below.heap_setCell _ _ _ _ hg, Below.heap_setCell _ _ _ _ hg]
theorem VInv.frozen {w0 : World} {rb : Nat} {deep : Int} {w : World} (h : VInv w0 rb deep w) (i : Nat) : w.frozen? ⟨w0.heap.size + 1 + 1, i, none⟩ = false := h.res.frozen i
theorem nd_plain {w : World} {S : Nat → Prop} (k n : Int) (t : ByteArray) (hk : I64 k) (hn : I64 n) (ht : t.size ≤ 1000000000) : NdIn w S (.mk k n t [] []) [.int .i64 k, .int .i64 n, .string t, .slice none 0 0, .slice none 0 0] := by
  unfold NdIn
  exact ⟨none, 0, none, 0, [], rfl, RS.none_, RS.none_, NdsIn.nil, hk, hn, by simp only [maxLen]; omega, by simp, by simp, by simp⟩
theorem esc_one (c : UInt8) : 1 ≤ (escU c).length := by
  unfold escU
  repeat' split
  all_goals simp
theorem flat_ge (t : List UInt8) : t.length ≤ (t.flatMap escU).length := by
  induction t with
  | nil => simp
  | cons c t ih =>
    have := esc_one c
    simp only [List.flatMap_cons, List.length_append, List.length_cons]; omega
theorem quote_ge (t : List UInt8) : t.length + 2 ≤ (quoteU t).length := by
  have := flat_ge t
  unfold quoteU
  simp only [List.length_append, List.length_cons, List.length_nil]; omega
theorem ValEnd.bad {rb : Nat} {s : ByteArray} {c : Int} {r : Except Int (Nd × List UInt8)} {w w1 : World} {e : Ending} {w' : World} (hr : r = .error c) (h : Failed rb s c w1 e w') (g : w.grownBy w1 (some rb)) : ValEnd rb s r w e w' := by
  subst hr; exact h.from g
theorem ValEnd.good {rb : Nat} {s : ByteArray} {r : Except Int (Nd × List UInt8)} {n : Nd} {l : List UInt8} {w : World} {e : Ending} {w' : World} (c0 c1 : Int) (c2 : ByteArray) (c3 : Option Addr) (c4 c5 : Nat) (c6 : Option Addr) (c7 c8 : Nat) (hr : r = .ok (n, l))
    (he : e = .returned (.agg #[.int .i64 c0, .int .i64 c1, .string c2, .slice c3 c4 c5, .slice c6 c7 c8])) (hn : NdIn w' (Since w w') n [.int .i64 c0, .int .i64 c1, .string c2, .slice c3 c4 c5, .slice c6 c7 c8]) (ht : RdTo rb s l w w') : ValEnd rb s r w e w' := by
  subst hr; exact ⟨c0, c1, c2, c3, c4, c5, c6, c7, c8, he, hn, ht⟩
theorem fst_ne {s : ByteArray} {k n : Nat} {u c : UInt8} {t r : List UInt8} (hd : s.toList.drop k = u :: r) (h : u ≠ c) : (s.toList.drop k).take n ≠ c :: t := by
  intro e
  have := take_head e
  rw [hd] at this
  simp at this
  exact h this
theorem lit_toList (l : List UInt8) : (⟨l.toArray⟩ : ByteArray).toList = l := by rw [ByteArray.toList_eq]
end Go.Proofs.YthbjehbpanhdoaaDoor
/-! The walk of json's value: the end, what is too deep, texts, words, numbers. -/
namespace Go.Proofs.YthbjehbpanhdoaaDoor
open Go.RowKit Go.PlainAid
set_option linter.unusedVariables false
set_option linter.unusedSimpArgs false
set_option maxRecDepth 100000 in
set_option maxHeartbeats 4000000 in
theorem value_end (rb : Nat) (s : ByteArray) (deep k : Nat) (w : World) (h : RdSt w rb s k) (hk : k ≤ s.size) (hs : s.size ≤ 1000000) (hlt : ¬ k < s.size) (r : Except Int (Nd × List UInt8)) (hr : r = .error 3) :
    Calls Tryd.prog 46 #[.pointer (some ⟨rb, 0, none⟩), .int .i64 deep] w (ValEnd rb s r w) := by
  have HE := Lib.hid hr
  clear hr
  have ne1 : ((k : Int) == (s.size : Int)) = true := by rw [beq_iff_eq]; omega
  have hb := get_bt s
  have V0 := Lib.hid (VInv.start w rb deep h.lt)
  have R0 : Hid (RdSt (((w.alloc (.cells #[.pointer (some ⟨rb, 0, none⟩)] 75)).alloc (.cells #[.int .i64 deep] 3)).alloc (.cells #[.int .i64 0, .int .i64 0, .string ⟨#[]⟩, .slice none 0 0, .slice none 0 0] 25)) rb s k) := ((h.alloc _).alloc _).alloc _
  have hrb : rb < w.heap.size := h.lt
  have i0 : (0 : Int) ≤ (k : Int) := by omega
  clear h
  go_enter Tryd.func46, Tryd.ntmps46
  go_wp2_with fail
  generalize (((w.alloc (.cells #[.pointer (some ⟨rb, 0, none⟩)] 75)).alloc (.cells #[.int .i64 deep] 3)).alloc (.cells #[.int .i64 0, .int .i64 0, .string ⟨#[]⟩, .slice none 0 0, .slice none 0 0] 25)) = W at *
  have r0 : W.cell? ⟨w.heap.size, 0, none⟩ = some (.pointer (some ⟨rb, 0, none⟩)) := V0.out.rbox.cell 0
  have d0 : W.cell? ⟨w.heap.size + 1, 0, none⟩ = some (.int .i64 deep) := V0.out.dbox.cell 0
  obtain ⟨c0, c1, c2⟩ := R0.out.cells3
  go_quiet (fail)
  go_wp2_with fail
  clear r0 d0 c0 c1 c2
  have V1 : Hid (∀ n, VInv w rb deep (W.drewN n)) := fun n => V0.out.drewN n
  have R1 : Hid (∀ n, RdSt (W.drewN n) rb s k) := fun n => R0.out
  refine (fail_any rb s k 3 _ (R1.out _)).mono ?_; rintro e w9 ⟨rfl, h9, g9⟩
  have H9 := Lib.hid h9
  have G9 := Lib.hid g9
  clear h9 g9
  go_wp2_with fail
  exact ⟨rfl, ValEnd.bad HE.out ⟨rfl, H9.out, G9.out⟩ (V1.out _).grow⟩
set_option maxRecDepth 100000 in
set_option maxHeartbeats 4000000 in
theorem value_deep_arr (rb : Nat) (s : ByteArray) (deep k : Nat) (w : World) (h : RdSt w rb s k) (hk : k ≤ s.size) (hs : s.size ≤ 1000000) (hlt : k < s.size) (hdp : 24 ≤ deep) (hd9 : deep ≤ 24) (q : bt s k = 91) (r : Except Int (Nd × List UInt8)) (hr : r = .error 4) :
    Calls Tryd.prog 46 #[.pointer (some ⟨rb, 0, none⟩), .int .i64 deep] w (ValEnd rb s r w) := by
  have HE := Lib.hid hr
  clear hr
  have hdI : (24 : Int) ≤ (deep : Int) := by omega
  have ne1 : ((k : Int) == (s.size : Int)) = false := by rw [beq_eq_false_iff_ne]; omega
  have i1 : (k : Int) < (s.size : Int) := by omega
  have b0 := bt_nonneg s k
  have b1 := bt_le s k
  have hb := get_bt s
  have V0 := Lib.hid (VInv.start w rb deep h.lt)
  have R0 : Hid (RdSt (((w.alloc (.cells #[.pointer (some ⟨rb, 0, none⟩)] 75)).alloc (.cells #[.int .i64 deep] 3)).alloc (.cells #[.int .i64 0, .int .i64 0, .string ⟨#[]⟩, .slice none 0 0, .slice none 0 0] 25)) rb s k) := ((h.alloc _).alloc _).alloc _
  have hrb : rb < w.heap.size := h.lt
  have i0 : (0 : Int) ≤ (k : Int) := by omega
  clear h
  go_enter Tryd.func46, Tryd.ntmps46
  go_wp2_with fail
  generalize (((w.alloc (.cells #[.pointer (some ⟨rb, 0, none⟩)] 75)).alloc (.cells #[.int .i64 deep] 3)).alloc (.cells #[.int .i64 0, .int .i64 0, .string ⟨#[]⟩, .slice none 0 0, .slice none 0 0] 25)) = W at *
  have r0 : W.cell? ⟨w.heap.size, 0, none⟩ = some (.pointer (some ⟨rb, 0, none⟩)) := V0.out.rbox.cell 0
  have d0 : W.cell? ⟨w.heap.size + 1, 0, none⟩ = some (.int .i64 deep) := V0.out.dbox.cell 0
  obtain ⟨c0, c1, c2⟩ := R0.out.cells3
  go_quiet (fail)
  go_wp2_with fail
  go_quiet (fail)
  go_wp2_with fail
  clear r0 d0 c0 c1 c2
  have V1 : Hid (∀ n, VInv w rb deep (W.drewN n)) := fun n => V0.out.drewN n
  have R1 : Hid (∀ n, RdSt (W.drewN n) rb s k) := fun n => R0.out
  refine (fail_any rb s k 4 _ (R1.out _)).mono ?_; rintro e w9 ⟨rfl, h9, g9⟩
  have H9 := Lib.hid h9
  have G9 := Lib.hid g9
  clear h9 g9
  go_wp2_with fail
  exact ⟨rfl, ValEnd.bad HE.out ⟨rfl, H9.out, G9.out⟩ (V1.out _).grow⟩
set_option maxRecDepth 100000 in
set_option maxHeartbeats 4000000 in
theorem value_deep_obj (rb : Nat) (s : ByteArray) (deep k : Nat) (w : World) (h : RdSt w rb s k) (hk : k ≤ s.size) (hs : s.size ≤ 1000000) (hlt : k < s.size) (hdp : 24 ≤ deep) (hd9 : deep ≤ 24) (q : bt s k = 123) (r : Except Int (Nd × List UInt8)) (hr : r = .error 4) :
    Calls Tryd.prog 46 #[.pointer (some ⟨rb, 0, none⟩), .int .i64 deep] w (ValEnd rb s r w) := by
  have HE := Lib.hid hr
  clear hr
  have hdI : (24 : Int) ≤ (deep : Int) := by omega
  have ne1 : ((k : Int) == (s.size : Int)) = false := by rw [beq_eq_false_iff_ne]; omega
  have i1 : (k : Int) < (s.size : Int) := by omega
  have b0 := bt_nonneg s k
  have b1 := bt_le s k
  have hb := get_bt s
  have V0 := Lib.hid (VInv.start w rb deep h.lt)
  have R0 : Hid (RdSt (((w.alloc (.cells #[.pointer (some ⟨rb, 0, none⟩)] 75)).alloc (.cells #[.int .i64 deep] 3)).alloc (.cells #[.int .i64 0, .int .i64 0, .string ⟨#[]⟩, .slice none 0 0, .slice none 0 0] 25)) rb s k) := ((h.alloc _).alloc _).alloc _
  have hrb : rb < w.heap.size := h.lt
  have i0 : (0 : Int) ≤ (k : Int) := by omega
  clear h
  go_enter Tryd.func46, Tryd.ntmps46
  go_wp2_with fail
  generalize (((w.alloc (.cells #[.pointer (some ⟨rb, 0, none⟩)] 75)).alloc (.cells #[.int .i64 deep] 3)).alloc (.cells #[.int .i64 0, .int .i64 0, .string ⟨#[]⟩, .slice none 0 0, .slice none 0 0] 25)) = W at *
  have r0 : W.cell? ⟨w.heap.size, 0, none⟩ = some (.pointer (some ⟨rb, 0, none⟩)) := V0.out.rbox.cell 0
  have d0 : W.cell? ⟨w.heap.size + 1, 0, none⟩ = some (.int .i64 deep) := V0.out.dbox.cell 0
  obtain ⟨c0, c1, c2⟩ := R0.out.cells3
  go_quiet (fail)
  go_wp2_with fail
  go_quiet (fail)
  go_wp2_with fail
  clear r0 d0 c0 c1 c2
  have V1 : Hid (∀ n, VInv w rb deep (W.drewN n)) := fun n => V0.out.drewN n
  have R1 : Hid (∀ n, RdSt (W.drewN n) rb s k) := fun n => R0.out
  refine (fail_any rb s k 4 _ (R1.out _)).mono ?_; rintro e w9 ⟨rfl, h9, g9⟩
  have H9 := Lib.hid h9
  have G9 := Lib.hid g9
  clear h9 g9
  go_wp2_with fail
  exact ⟨rfl, ValEnd.bad HE.out ⟨rfl, H9.out, G9.out⟩ (V1.out _).grow⟩
set_option maxRecDepth 100000 in
set_option maxHeartbeats 4000000 in
theorem value_str (rb : Nat) (s : ByteArray) (deep k : Nat) (w : World) (h : RdSt w rb s k) (hk : k ≤ s.size) (hs : s.size ≤ 1000000) (hlt : k < s.size) (q : bt s k = 34) (u : UInt8) (rest : List UInt8) (hd : s.toList.drop k = u :: rest) (hu : bt s k = u.toNat) (r : Except Int (Nd × List UInt8))
    (hr : r = match textL (s.toList.drop k) with
    | none => .error 3
    | some (t, r) => .ok (.mk 5 0 ⟨t.toArray⟩ [] [], r)) :
    Calls Tryd.prog 46 #[.pointer (some ⟨rb, 0, none⟩), .int .i64 deep] w (ValEnd rb s r w) := by
  have ne1 : ((k : Int) == (s.size : Int)) = false := by rw [beq_eq_false_iff_ne]; omega
  have i1 : (k : Int) < (s.size : Int) := by omega
  have b0 := bt_nonneg s k
  have b1 := bt_le s k
  have une : ∀ c : UInt8, ¬ bt s k = c.toNat → u ≠ c := fun c h e => h (by rw [hu, e])
  have q91 : ¬ bt s k = 91 := by omega
  have q123 : ¬ bt s k = 123 := by omega
  have HU91 := Lib.hid (une 91 q91)
  have HU123 := Lib.hid (une 123 q123)
  have HD := Lib.hid hd
  clear hd hu une
  have n91 : (bt s k == 91) = false := by rw [beq_eq_false_iff_ne]; exact q91
  have n123 : (bt s k == 123) = false := by rw [beq_eq_false_iff_ne]; exact q123
  have hb := get_bt s
  have V0 := Lib.hid (VInv.start w rb deep h.lt)
  have R0 : Hid (RdSt (((w.alloc (.cells #[.pointer (some ⟨rb, 0, none⟩)] 75)).alloc (.cells #[.int .i64 deep] 3)).alloc (.cells #[.int .i64 0, .int .i64 0, .string ⟨#[]⟩, .slice none 0 0, .slice none 0 0] 25)) rb s k) := ((h.alloc _).alloc _).alloc _
  have hrb : rb < w.heap.size := h.lt
  have i0 : (0 : Int) ≤ (k : Int) := by omega
  clear h
  cases ht : textL (s.toList.drop k) with
  | none =>
    have HE : Hid (r = .error 3) := Lib.hid (by rw [hr, ht])
    have HT := Lib.hid ht
    clear hr ht
    go_enter Tryd.func46, Tryd.ntmps46
    go_wp2_with fail
    generalize (((w.alloc (.cells #[.pointer (some ⟨rb, 0, none⟩)] 75)).alloc (.cells #[.int .i64 deep] 3)).alloc (.cells #[.int .i64 0, .int .i64 0, .string ⟨#[]⟩, .slice none 0 0, .slice none 0 0] 25)) = W at *
    have r0 : W.cell? ⟨w.heap.size, 0, none⟩ = some (.pointer (some ⟨rb, 0, none⟩)) := V0.out.rbox.cell 0
    have d0 : W.cell? ⟨w.heap.size + 1, 0, none⟩ = some (.int .i64 deep) := V0.out.dbox.cell 0
    obtain ⟨c0, c1, c2⟩ := R0.out.cells3
    go_quiet (fail)
    go_wp2_with fail
    go_quiet (fail)
    go_wp2_with fail
    clear r0 d0 c0 c1 c2
    have V1 : Hid (∀ n, VInv w rb deep (W.drewN n)) := fun n => V0.out.drewN n
    have R1 : Hid (∀ n, RdSt (W.drewN n) rb s k) := fun n => R0.out
    refine (may_no rb s ⟨#[91]⟩ k _ (R1.out _) hk hs (by decide) (by rw [lit_toList [91]]; exact fst_ne HD.out HU91.out)).mono ?_; rintro e w2 ⟨rfl, h9, g9⟩
    have V2 : Hid (VInv w rb deep w2) := (V1.out _).next g9
    have R2 := Lib.hid h9
    clear h9 g9
    have r2 : w2.cell? ⟨w.heap.size, 0, none⟩ = some (.pointer (some ⟨rb, 0, none⟩)) := V2.out.rbox.cell 0
    have d2 : w2.cell? ⟨w.heap.size + 1, 0, none⟩ = some (.int .i64 deep) := V2.out.dbox.cell 0
    go_wp2_with fail
    refine (may_no rb s ⟨#[123]⟩ k _ R2.out hk hs (by decide) (by rw [lit_toList [123]]; exact fst_ne HD.out HU123.out)).mono ?_; rintro e w3 ⟨rfl, h9, g9⟩
    have V3 : Hid (VInv w rb deep w3) := V2.out.next g9
    have R3 := Lib.hid h9
    clear h9 g9
    clear r2 d2
    have r3 : w3.cell? ⟨w.heap.size, 0, none⟩ = some (.pointer (some ⟨rb, 0, none⟩)) := V3.out.rbox.cell 0
    have d3 : w3.cell? ⟨w.heap.size + 1, 0, none⟩ = some (.int .i64 deep) := V3.out.dbox.cell 0
    go_wp2_with fail
    refine (text_any rb s k _ R3.out hk hs).mono ?_; rintro e w9 he
    rw [HT.out] at he
    obtain ⟨rfl, h9, g9⟩ := he
    have H9 := Lib.hid h9
    have G9 := Lib.hid g9
    clear h9 g9
    go_wp2_with fail
    exact ⟨rfl, ValEnd.bad HE.out ⟨rfl, H9.out, G9.out⟩ V3.out.grow⟩
  | some p =>
    obtain ⟨t, l⟩ := p
    have HE : Hid (r = .ok (.mk 5 0 ⟨t.toArray⟩ [] [], l)) := Lib.hid (by rw [hr, ht])
    have HTS : Hid ((⟨t.toArray⟩ : ByteArray).size ≤ 1000000000) := by
      show _ ≤ _
      have h1 := (textL_ok ht).2
      have h2 := quote_ge t
      rw [len_drop] at h1
      show t.toArray.size ≤ _
      simp; omega
    have HT := Lib.hid ht
    clear hr ht
    go_enter Tryd.func46, Tryd.ntmps46
    go_wp2_with fail
    generalize (((w.alloc (.cells #[.pointer (some ⟨rb, 0, none⟩)] 75)).alloc (.cells #[.int .i64 deep] 3)).alloc (.cells #[.int .i64 0, .int .i64 0, .string ⟨#[]⟩, .slice none 0 0, .slice none 0 0] 25)) = W at *
    have r0 : W.cell? ⟨w.heap.size, 0, none⟩ = some (.pointer (some ⟨rb, 0, none⟩)) := V0.out.rbox.cell 0
    have d0 : W.cell? ⟨w.heap.size + 1, 0, none⟩ = some (.int .i64 deep) := V0.out.dbox.cell 0
    obtain ⟨c0, c1, c2⟩ := R0.out.cells3
    go_quiet (fail)
    go_wp2_with fail
    go_quiet (fail)
    go_wp2_with fail
    clear r0 d0 c0 c1 c2
    have V1 : Hid (∀ n, VInv w rb deep (W.drewN n)) := fun n => V0.out.drewN n
    have R1 : Hid (∀ n, RdSt (W.drewN n) rb s k) := fun n => R0.out
    refine (may_no rb s ⟨#[91]⟩ k _ (R1.out _) hk hs (by decide) (by rw [lit_toList [91]]; exact fst_ne HD.out HU91.out)).mono ?_; rintro e w2 ⟨rfl, h9, g9⟩
    have V2 : Hid (VInv w rb deep w2) := (V1.out _).next g9
    have R2 := Lib.hid h9
    clear h9 g9
    have r2 : w2.cell? ⟨w.heap.size, 0, none⟩ = some (.pointer (some ⟨rb, 0, none⟩)) := V2.out.rbox.cell 0
    have d2 : w2.cell? ⟨w.heap.size + 1, 0, none⟩ = some (.int .i64 deep) := V2.out.dbox.cell 0
    go_wp2_with fail
    refine (may_no rb s ⟨#[123]⟩ k _ R2.out hk hs (by decide) (by rw [lit_toList [123]]; exact fst_ne HD.out HU123.out)).mono ?_; rintro e w3 ⟨rfl, h9, g9⟩
    have V3 : Hid (VInv w rb deep w3) := V2.out.next g9
    have R3 := Lib.hid h9
    clear h9 g9
    clear r2 d2
    have r3 : w3.cell? ⟨w.heap.size, 0, none⟩ = some (.pointer (some ⟨rb, 0, none⟩)) := V3.out.rbox.cell 0
    have d3 : w3.cell? ⟨w.heap.size + 1, 0, none⟩ = some (.int .i64 deep) := V3.out.dbox.cell 0
    go_wp2_with fail
    refine (text_any rb s k _ R3.out hk hs).mono ?_; rintro e w4 he
    rw [HT.out] at he
    obtain ⟨rfl, k4, hk4, e4, h9, g9⟩ := he
    have V4 : Hid (VInv w rb deep w4) := V3.out.next g9
    have R4 := Lib.hid h9
    have E4 := Lib.hid e4
    clear h9 g9 e4 r3 d3
    have f0 := V4.out.frozen 0
    have f1 := V4.out.frozen 1
    have f2 := V4.out.frozen 2
    have f3 := V4.out.frozen 3
    have f4 := V4.out.frozen 4
    obtain ⟨z0, z1, z2, z3, z4⟩ := V4.out.res.cells5
    obtain ⟨hfin, hgr, hsz, hot⟩ := V4.out.laid (.int .i64 5) (.int .i64 0) (.string ⟨t.toArray⟩) (.slice none 0 0) (.slice none 0 0)
    have HFIN := Lib.hid hfin
    have HGR := Lib.hid hgr
    have HSZ := Lib.hid hsz
    have HOT := Lib.hid hot
    clear hfin hgr hsz hot
    go_wp2_with fail
    clear f0 f1 f2 f3 f4 z0 z1 z2 z3 z4
    generalize (((((w4.setCell ⟨w.heap.size + 1 + 1, 0, none⟩ (.int .i64 5)).setCell ⟨w.heap.size + 1 + 1, 1, none⟩ (.int .i64 0)).setCell ⟨w.heap.size + 1 + 1, 2, none⟩ (.string ⟨t.toArray⟩)).setCell ⟨w.heap.size + 1 + 1, 3, none⟩ (.slice none 0 0)).setCell ⟨w.heap.size + 1 + 1, 4, none⟩ (.slice none 0 0)) = WF at *
    obtain ⟨q0, q1, q2, q3, q4⟩ := HFIN.out.cells5
    refine bodyPost_ret (v := .agg #[.int .i64 5, .int .i64 0, .string ⟨t.toArray⟩, .slice none 0 0, .slice none 0 0]) (by simp [results, Tryd.results46, go_sem, q0, q1, q2, q3, q4]) rfl ?_
    exact ValEnd.good _ _ _ _ _ _ _ _ _ HE.out rfl (nd_plain 5 0 _ (by unfold I64; omega) (by unfold I64; omega) HTS.out) ⟨k4, hk4, E4.out, (HOT.out rb (by omega)).trans R4.out, HGR.out⟩
set_option maxRecDepth 100000 in
set_option maxHeartbeats 4000000 in
theorem value_null (rb : Nat) (s : ByteArray) (deep k : Nat) (w : World) (h : RdSt w rb s k) (hk : k ≤ s.size) (hs : s.size ≤ 1000000) (hlt : k < s.size) (q91 : ¬ bt s k = 91) (q123 : ¬ bt s k = 123) (q34 : ¬ bt s k = 34) (u : UInt8) (rest : List UInt8) (hd : s.toList.drop k = u :: rest) (hu : bt s k = u.toNat)  (hy : (s.toList.drop k).take 4 = [110, 117, 108, 108]) (r : Except Int (Nd × List UInt8)) (hr : r = .ok (nd0 1, (s.toList.drop k).drop 4)) :
    Calls Tryd.prog 46 #[.pointer (some ⟨rb, 0, none⟩), .int .i64 deep] w (ValEnd rb s r w) := by
  have HE := Lib.hid hr
  have ne1 : ((k : Int) == (s.size : Int)) = false := by rw [beq_eq_false_iff_ne]; omega
  have i1 : (k : Int) < (s.size : Int) := by omega
  have b0 := bt_nonneg s k
  have b1 := bt_le s k
  have une : ∀ c : UInt8, ¬ bt s k = c.toNat → u ≠ c := fun c h e => h (by rw [hu, e])
  have HU91 := Lib.hid (une 91 q91)
  have HU123 := Lib.hid (une 123 q123)
  have HD := Lib.hid hd
  have HY := Lib.hid hy
  clear hd hu une hr hy 
  have n91 : (bt s k == 91) = false := by rw [beq_eq_false_iff_ne]; exact q91
  have n123 : (bt s k == 123) = false := by rw [beq_eq_false_iff_ne]; exact q123
  have n34 : (bt s k == 34) = false := by rw [beq_eq_false_iff_ne]; exact q34
  have hb := get_bt s
  have V0 := Lib.hid (VInv.start w rb deep h.lt)
  have R0 : Hid (RdSt (((w.alloc (.cells #[.pointer (some ⟨rb, 0, none⟩)] 75)).alloc (.cells #[.int .i64 deep] 3)).alloc (.cells #[.int .i64 0, .int .i64 0, .string ⟨#[]⟩, .slice none 0 0, .slice none 0 0] 25)) rb s k) := ((h.alloc _).alloc _).alloc _
  have hrb : rb < w.heap.size := h.lt
  have i0 : (0 : Int) ≤ (k : Int) := by omega
  clear h
  go_enter Tryd.func46, Tryd.ntmps46
  go_wp2_with fail
  generalize (((w.alloc (.cells #[.pointer (some ⟨rb, 0, none⟩)] 75)).alloc (.cells #[.int .i64 deep] 3)).alloc (.cells #[.int .i64 0, .int .i64 0, .string ⟨#[]⟩, .slice none 0 0, .slice none 0 0] 25)) = W at *
  have r0 : W.cell? ⟨w.heap.size, 0, none⟩ = some (.pointer (some ⟨rb, 0, none⟩)) := V0.out.rbox.cell 0
  have d0 : W.cell? ⟨w.heap.size + 1, 0, none⟩ = some (.int .i64 deep) := V0.out.dbox.cell 0
  obtain ⟨c0, c1, c2⟩ := R0.out.cells3
  go_quiet (fail)
  go_wp2_with fail
  go_quiet (fail)
  go_wp2_with fail
  clear r0 d0 c0 c1 c2
  have V1 : Hid (∀ n, VInv w rb deep (W.drewN n)) := fun n => V0.out.drewN n
  have R1 : Hid (∀ n, RdSt (W.drewN n) rb s k) := fun n => R0.out
  refine (may_no rb s ⟨#[91]⟩ k _ (R1.out _) hk hs (by decide) (by rw [lit_toList [91]]; exact fst_ne HD.out HU91.out)).mono ?_; rintro e w2 ⟨rfl, h9, g9⟩
  have V2 : Hid (VInv w rb deep w2) := (V1.out _).next g9
  have R2 := Lib.hid h9
  clear h9 g9
  have r2 : w2.cell? ⟨w.heap.size, 0, none⟩ = some (.pointer (some ⟨rb, 0, none⟩)) := V2.out.rbox.cell 0
  have d2 : w2.cell? ⟨w.heap.size + 1, 0, none⟩ = some (.int .i64 deep) := V2.out.dbox.cell 0
  go_wp2_with fail
  refine (may_no rb s ⟨#[123]⟩ k _ R2.out hk hs (by decide) (by rw [lit_toList [123]]; exact fst_ne HD.out HU123.out)).mono ?_; rintro e w3 ⟨rfl, h9, g9⟩
  have V3 : Hid (VInv w rb deep w3) := V2.out.next g9
  have R3 := Lib.hid h9
  clear h9 g9
  clear r2 d2
  have r3 : w3.cell? ⟨w.heap.size, 0, none⟩ = some (.pointer (some ⟨rb, 0, none⟩)) := V3.out.rbox.cell 0
  have d3 : w3.cell? ⟨w.heap.size + 1, 0, none⟩ = some (.int .i64 deep) := V3.out.dbox.cell 0
  go_wp2_with fail
  refine (may_yes rb s ⟨#[110, 117, 108, 108]⟩ k _ R3.out hk hs (by rw [lit_toList [110, 117, 108, 108]]; exact HY.out)).mono ?_; rintro e w4 ⟨rfl, k4, hk4, e4, h9, g9⟩
  have V4 : Hid (VInv w rb deep w4) := V3.out.next g9
  have R4 := Lib.hid h9
  have E4 := Lib.hid e4
  clear h9 g9 e4
  clear r3 d3
  have r4 : w4.cell? ⟨w.heap.size, 0, none⟩ = some (.pointer (some ⟨rb, 0, none⟩)) := V4.out.rbox.cell 0
  have d4 : w4.cell? ⟨w.heap.size + 1, 0, none⟩ = some (.int .i64 deep) := V4.out.dbox.cell 0
  clear r4 d4
  have f0 := V4.out.frozen 0
  have f1 := V4.out.frozen 1
  have f2 := V4.out.frozen 2
  have f3 := V4.out.frozen 3
  have f4 := V4.out.frozen 4
  obtain ⟨z0, z1, z2, z3, z4⟩ := V4.out.res.cells5
  obtain ⟨hfin, hgr, hsz, hot⟩ := V4.out.laid (.int .i64 1) (.int .i64 0) (.string ⟨#[]⟩) (.slice none 0 0) (.slice none 0 0)
  have HFIN := Lib.hid hfin
  have HGR := Lib.hid hgr
  have HSZ := Lib.hid hsz
  have HOT := Lib.hid hot
  clear hfin hgr hsz hot
  go_wp2_with fail
  clear f0 f1 f2 f3 f4 z0 z1 z2 z3 z4
  generalize (((((w4.setCell ⟨w.heap.size + 1 + 1, 0, none⟩ (.int .i64 1)).setCell ⟨w.heap.size + 1 + 1, 1, none⟩ (.int .i64 0)).setCell ⟨w.heap.size + 1 + 1, 2, none⟩ (.string ⟨#[]⟩)).setCell ⟨w.heap.size + 1 + 1, 3, none⟩ (.slice none 0 0)).setCell ⟨w.heap.size + 1 + 1, 4, none⟩ (.slice none 0 0)) = WF at *
  obtain ⟨q0, q1, q2, q3, q4⟩ := HFIN.out.cells5
  refine bodyPost_ret (v := .agg #[.int .i64 1, .int .i64 0, .string ⟨#[]⟩, .slice none 0 0, .slice none 0 0]) (by simp [results, Tryd.results46, go_sem, q0, q1, q2, q3, q4]) rfl ?_
  exact ValEnd.good _ _ _ _ _ _ _ _ _ HE.out rfl (nd_plain 1 0 ⟨#[]⟩ (by unfold I64; omega) (by unfold I64; omega) (by decide)) ⟨k4, hk4, E4.out, (HOT.out rb (by omega)).trans R4.out, HGR.out⟩
set_option maxRecDepth 100000 in
set_option maxHeartbeats 4000000 in
theorem value_false (rb : Nat) (s : ByteArray) (deep k : Nat) (w : World) (h : RdSt w rb s k) (hk : k ≤ s.size) (hs : s.size ≤ 1000000) (hlt : k < s.size) (q91 : ¬ bt s k = 91) (q123 : ¬ bt s k = 123) (q34 : ¬ bt s k = 34) (u : UInt8) (rest : List UInt8) (hd : s.toList.drop k = u :: rest) (hu : bt s k = u.toNat) (hn0 : (s.toList.drop k).take 4 ≠ [110, 117, 108, 108]) (hy : (s.toList.drop k).take 5 = [102, 97, 108, 115, 101]) (r : Except Int (Nd × List UInt8)) (hr : r = .ok (nd0 2, (s.toList.drop k).drop 5)) :
    Calls Tryd.prog 46 #[.pointer (some ⟨rb, 0, none⟩), .int .i64 deep] w (ValEnd rb s r w) := by
  have HE := Lib.hid hr
  have ne1 : ((k : Int) == (s.size : Int)) = false := by rw [beq_eq_false_iff_ne]; omega
  have i1 : (k : Int) < (s.size : Int) := by omega
  have b0 := bt_nonneg s k
  have b1 := bt_le s k
  have une : ∀ c : UInt8, ¬ bt s k = c.toNat → u ≠ c := fun c h e => h (by rw [hu, e])
  have HU91 := Lib.hid (une 91 q91)
  have HU123 := Lib.hid (une 123 q123)
  have HD := Lib.hid hd
  have HN0 := Lib.hid hn0
  have HY := Lib.hid hy
  clear hd hu une hr hy hn0
  have n91 : (bt s k == 91) = false := by rw [beq_eq_false_iff_ne]; exact q91
  have n123 : (bt s k == 123) = false := by rw [beq_eq_false_iff_ne]; exact q123
  have n34 : (bt s k == 34) = false := by rw [beq_eq_false_iff_ne]; exact q34
  have hb := get_bt s
  have V0 := Lib.hid (VInv.start w rb deep h.lt)
  have R0 : Hid (RdSt (((w.alloc (.cells #[.pointer (some ⟨rb, 0, none⟩)] 75)).alloc (.cells #[.int .i64 deep] 3)).alloc (.cells #[.int .i64 0, .int .i64 0, .string ⟨#[]⟩, .slice none 0 0, .slice none 0 0] 25)) rb s k) := ((h.alloc _).alloc _).alloc _
  have hrb : rb < w.heap.size := h.lt
  have i0 : (0 : Int) ≤ (k : Int) := by omega
  clear h
  go_enter Tryd.func46, Tryd.ntmps46
  go_wp2_with fail
  generalize (((w.alloc (.cells #[.pointer (some ⟨rb, 0, none⟩)] 75)).alloc (.cells #[.int .i64 deep] 3)).alloc (.cells #[.int .i64 0, .int .i64 0, .string ⟨#[]⟩, .slice none 0 0, .slice none 0 0] 25)) = W at *
  have r0 : W.cell? ⟨w.heap.size, 0, none⟩ = some (.pointer (some ⟨rb, 0, none⟩)) := V0.out.rbox.cell 0
  have d0 : W.cell? ⟨w.heap.size + 1, 0, none⟩ = some (.int .i64 deep) := V0.out.dbox.cell 0
  obtain ⟨c0, c1, c2⟩ := R0.out.cells3
  go_quiet (fail)
  go_wp2_with fail
  go_quiet (fail)
  go_wp2_with fail
  clear r0 d0 c0 c1 c2
  have V1 : Hid (∀ n, VInv w rb deep (W.drewN n)) := fun n => V0.out.drewN n
  have R1 : Hid (∀ n, RdSt (W.drewN n) rb s k) := fun n => R0.out
  refine (may_no rb s ⟨#[91]⟩ k _ (R1.out _) hk hs (by decide) (by rw [lit_toList [91]]; exact fst_ne HD.out HU91.out)).mono ?_; rintro e w2 ⟨rfl, h9, g9⟩
  have V2 : Hid (VInv w rb deep w2) := (V1.out _).next g9
  have R2 := Lib.hid h9
  clear h9 g9
  have r2 : w2.cell? ⟨w.heap.size, 0, none⟩ = some (.pointer (some ⟨rb, 0, none⟩)) := V2.out.rbox.cell 0
  have d2 : w2.cell? ⟨w.heap.size + 1, 0, none⟩ = some (.int .i64 deep) := V2.out.dbox.cell 0
  go_wp2_with fail
  refine (may_no rb s ⟨#[123]⟩ k _ R2.out hk hs (by decide) (by rw [lit_toList [123]]; exact fst_ne HD.out HU123.out)).mono ?_; rintro e w3 ⟨rfl, h9, g9⟩
  have V3 : Hid (VInv w rb deep w3) := V2.out.next g9
  have R3 := Lib.hid h9
  clear h9 g9
  clear r2 d2
  have r3 : w3.cell? ⟨w.heap.size, 0, none⟩ = some (.pointer (some ⟨rb, 0, none⟩)) := V3.out.rbox.cell 0
  have d3 : w3.cell? ⟨w.heap.size + 1, 0, none⟩ = some (.int .i64 deep) := V3.out.dbox.cell 0
  go_wp2_with fail
  refine (may_no rb s ⟨#[110, 117, 108, 108]⟩ k _ R3.out hk hs (by decide) (by rw [lit_toList [110, 117, 108, 108]]; exact HN0.out)).mono ?_; rintro e w4 ⟨rfl, h9, g9⟩
  have V4 : Hid (VInv w rb deep w4) := V3.out.next g9
  have R4 := Lib.hid h9
  clear h9 g9
  clear r3 d3
  have r4 : w4.cell? ⟨w.heap.size, 0, none⟩ = some (.pointer (some ⟨rb, 0, none⟩)) := V4.out.rbox.cell 0
  have d4 : w4.cell? ⟨w.heap.size + 1, 0, none⟩ = some (.int .i64 deep) := V4.out.dbox.cell 0
  go_wp2_with fail
  refine (may_yes rb s ⟨#[102, 97, 108, 115, 101]⟩ k _ R4.out hk hs (by rw [lit_toList [102, 97, 108, 115, 101]]; exact HY.out)).mono ?_; rintro e w5 ⟨rfl, k5, hk5, e5, h9, g9⟩
  have V5 : Hid (VInv w rb deep w5) := V4.out.next g9
  have R5 := Lib.hid h9
  have E5 := Lib.hid e5
  clear h9 g9 e5
  clear r4 d4
  have r5 : w5.cell? ⟨w.heap.size, 0, none⟩ = some (.pointer (some ⟨rb, 0, none⟩)) := V5.out.rbox.cell 0
  have d5 : w5.cell? ⟨w.heap.size + 1, 0, none⟩ = some (.int .i64 deep) := V5.out.dbox.cell 0
  clear r5 d5
  have f0 := V5.out.frozen 0
  have f1 := V5.out.frozen 1
  have f2 := V5.out.frozen 2
  have f3 := V5.out.frozen 3
  have f4 := V5.out.frozen 4
  obtain ⟨z0, z1, z2, z3, z4⟩ := V5.out.res.cells5
  obtain ⟨hfin, hgr, hsz, hot⟩ := V5.out.laid (.int .i64 2) (.int .i64 0) (.string ⟨#[]⟩) (.slice none 0 0) (.slice none 0 0)
  have HFIN := Lib.hid hfin
  have HGR := Lib.hid hgr
  have HSZ := Lib.hid hsz
  have HOT := Lib.hid hot
  clear hfin hgr hsz hot
  go_wp2_with fail
  clear f0 f1 f2 f3 f4 z0 z1 z2 z3 z4
  generalize (((((w5.setCell ⟨w.heap.size + 1 + 1, 0, none⟩ (.int .i64 2)).setCell ⟨w.heap.size + 1 + 1, 1, none⟩ (.int .i64 0)).setCell ⟨w.heap.size + 1 + 1, 2, none⟩ (.string ⟨#[]⟩)).setCell ⟨w.heap.size + 1 + 1, 3, none⟩ (.slice none 0 0)).setCell ⟨w.heap.size + 1 + 1, 4, none⟩ (.slice none 0 0)) = WF at *
  obtain ⟨q0, q1, q2, q3, q4⟩ := HFIN.out.cells5
  refine bodyPost_ret (v := .agg #[.int .i64 2, .int .i64 0, .string ⟨#[]⟩, .slice none 0 0, .slice none 0 0]) (by simp [results, Tryd.results46, go_sem, q0, q1, q2, q3, q4]) rfl ?_
  exact ValEnd.good _ _ _ _ _ _ _ _ _ HE.out rfl (nd_plain 2 0 ⟨#[]⟩ (by unfold I64; omega) (by unfold I64; omega) (by decide)) ⟨k5, hk5, E5.out, (HOT.out rb (by omega)).trans R5.out, HGR.out⟩
set_option maxRecDepth 100000 in
set_option maxHeartbeats 4000000 in
theorem value_true (rb : Nat) (s : ByteArray) (deep k : Nat) (w : World) (h : RdSt w rb s k) (hk : k ≤ s.size) (hs : s.size ≤ 1000000) (hlt : k < s.size) (q91 : ¬ bt s k = 91) (q123 : ¬ bt s k = 123) (q34 : ¬ bt s k = 34) (u : UInt8) (rest : List UInt8) (hd : s.toList.drop k = u :: rest) (hu : bt s k = u.toNat) (hn0 : (s.toList.drop k).take 4 ≠ [110, 117, 108, 108]) (hn1 : (s.toList.drop k).take 5 ≠ [102, 97, 108, 115, 101]) (hy : (s.toList.drop k).take 4 = [116, 114, 117, 101]) (r : Except Int (Nd × List UInt8)) (hr : r = .ok (nd0 3, (s.toList.drop k).drop 4)) :
    Calls Tryd.prog 46 #[.pointer (some ⟨rb, 0, none⟩), .int .i64 deep] w (ValEnd rb s r w) := by
  have HE := Lib.hid hr
  have ne1 : ((k : Int) == (s.size : Int)) = false := by rw [beq_eq_false_iff_ne]; omega
  have i1 : (k : Int) < (s.size : Int) := by omega
  have b0 := bt_nonneg s k
  have b1 := bt_le s k
  have une : ∀ c : UInt8, ¬ bt s k = c.toNat → u ≠ c := fun c h e => h (by rw [hu, e])
  have HU91 := Lib.hid (une 91 q91)
  have HU123 := Lib.hid (une 123 q123)
  have HD := Lib.hid hd
  have HN0 := Lib.hid hn0
  have HN1 := Lib.hid hn1
  have HY := Lib.hid hy
  clear hd hu une hr hy hn0 hn1
  have n91 : (bt s k == 91) = false := by rw [beq_eq_false_iff_ne]; exact q91
  have n123 : (bt s k == 123) = false := by rw [beq_eq_false_iff_ne]; exact q123
  have n34 : (bt s k == 34) = false := by rw [beq_eq_false_iff_ne]; exact q34
  have hb := get_bt s
  have V0 := Lib.hid (VInv.start w rb deep h.lt)
  have R0 : Hid (RdSt (((w.alloc (.cells #[.pointer (some ⟨rb, 0, none⟩)] 75)).alloc (.cells #[.int .i64 deep] 3)).alloc (.cells #[.int .i64 0, .int .i64 0, .string ⟨#[]⟩, .slice none 0 0, .slice none 0 0] 25)) rb s k) := ((h.alloc _).alloc _).alloc _
  have hrb : rb < w.heap.size := h.lt
  have i0 : (0 : Int) ≤ (k : Int) := by omega
  clear h
  go_enter Tryd.func46, Tryd.ntmps46
  go_wp2_with fail
  generalize (((w.alloc (.cells #[.pointer (some ⟨rb, 0, none⟩)] 75)).alloc (.cells #[.int .i64 deep] 3)).alloc (.cells #[.int .i64 0, .int .i64 0, .string ⟨#[]⟩, .slice none 0 0, .slice none 0 0] 25)) = W at *
  have r0 : W.cell? ⟨w.heap.size, 0, none⟩ = some (.pointer (some ⟨rb, 0, none⟩)) := V0.out.rbox.cell 0
  have d0 : W.cell? ⟨w.heap.size + 1, 0, none⟩ = some (.int .i64 deep) := V0.out.dbox.cell 0
  obtain ⟨c0, c1, c2⟩ := R0.out.cells3
  go_quiet (fail)
  go_wp2_with fail
  go_quiet (fail)
  go_wp2_with fail
  clear r0 d0 c0 c1 c2
  have V1 : Hid (∀ n, VInv w rb deep (W.drewN n)) := fun n => V0.out.drewN n
  have R1 : Hid (∀ n, RdSt (W.drewN n) rb s k) := fun n => R0.out
  refine (may_no rb s ⟨#[91]⟩ k _ (R1.out _) hk hs (by decide) (by rw [lit_toList [91]]; exact fst_ne HD.out HU91.out)).mono ?_; rintro e w2 ⟨rfl, h9, g9⟩
  have V2 : Hid (VInv w rb deep w2) := (V1.out _).next g9
  have R2 := Lib.hid h9
  clear h9 g9
  have r2 : w2.cell? ⟨w.heap.size, 0, none⟩ = some (.pointer (some ⟨rb, 0, none⟩)) := V2.out.rbox.cell 0
  have d2 : w2.cell? ⟨w.heap.size + 1, 0, none⟩ = some (.int .i64 deep) := V2.out.dbox.cell 0
  go_wp2_with fail
  refine (may_no rb s ⟨#[123]⟩ k _ R2.out hk hs (by decide) (by rw [lit_toList [123]]; exact fst_ne HD.out HU123.out)).mono ?_; rintro e w3 ⟨rfl, h9, g9⟩
  have V3 : Hid (VInv w rb deep w3) := V2.out.next g9
  have R3 := Lib.hid h9
  clear h9 g9
  clear r2 d2
  have r3 : w3.cell? ⟨w.heap.size, 0, none⟩ = some (.pointer (some ⟨rb, 0, none⟩)) := V3.out.rbox.cell 0
  have d3 : w3.cell? ⟨w.heap.size + 1, 0, none⟩ = some (.int .i64 deep) := V3.out.dbox.cell 0
  go_wp2_with fail
  refine (may_no rb s ⟨#[110, 117, 108, 108]⟩ k _ R3.out hk hs (by decide) (by rw [lit_toList [110, 117, 108, 108]]; exact HN0.out)).mono ?_; rintro e w4 ⟨rfl, h9, g9⟩
  have V4 : Hid (VInv w rb deep w4) := V3.out.next g9
  have R4 := Lib.hid h9
  clear h9 g9
  clear r3 d3
  have r4 : w4.cell? ⟨w.heap.size, 0, none⟩ = some (.pointer (some ⟨rb, 0, none⟩)) := V4.out.rbox.cell 0
  have d4 : w4.cell? ⟨w.heap.size + 1, 0, none⟩ = some (.int .i64 deep) := V4.out.dbox.cell 0
  go_wp2_with fail
  refine (may_no rb s ⟨#[102, 97, 108, 115, 101]⟩ k _ R4.out hk hs (by decide) (by rw [lit_toList [102, 97, 108, 115, 101]]; exact HN1.out)).mono ?_; rintro e w5 ⟨rfl, h9, g9⟩
  have V5 : Hid (VInv w rb deep w5) := V4.out.next g9
  have R5 := Lib.hid h9
  clear h9 g9
  clear r4 d4
  have r5 : w5.cell? ⟨w.heap.size, 0, none⟩ = some (.pointer (some ⟨rb, 0, none⟩)) := V5.out.rbox.cell 0
  have d5 : w5.cell? ⟨w.heap.size + 1, 0, none⟩ = some (.int .i64 deep) := V5.out.dbox.cell 0
  go_wp2_with fail
  refine (may_yes rb s ⟨#[116, 114, 117, 101]⟩ k _ R5.out hk hs (by rw [lit_toList [116, 114, 117, 101]]; exact HY.out)).mono ?_; rintro e w6 ⟨rfl, k6, hk6, e6, h9, g9⟩
  have V6 : Hid (VInv w rb deep w6) := V5.out.next g9
  have R6 := Lib.hid h9
  have E6 := Lib.hid e6
  clear h9 g9 e6
  clear r5 d5
  have r6 : w6.cell? ⟨w.heap.size, 0, none⟩ = some (.pointer (some ⟨rb, 0, none⟩)) := V6.out.rbox.cell 0
  have d6 : w6.cell? ⟨w.heap.size + 1, 0, none⟩ = some (.int .i64 deep) := V6.out.dbox.cell 0
  clear r6 d6
  have f0 := V6.out.frozen 0
  have f1 := V6.out.frozen 1
  have f2 := V6.out.frozen 2
  have f3 := V6.out.frozen 3
  have f4 := V6.out.frozen 4
  obtain ⟨z0, z1, z2, z3, z4⟩ := V6.out.res.cells5
  obtain ⟨hfin, hgr, hsz, hot⟩ := V6.out.laid (.int .i64 3) (.int .i64 0) (.string ⟨#[]⟩) (.slice none 0 0) (.slice none 0 0)
  have HFIN := Lib.hid hfin
  have HGR := Lib.hid hgr
  have HSZ := Lib.hid hsz
  have HOT := Lib.hid hot
  clear hfin hgr hsz hot
  go_wp2_with fail
  clear f0 f1 f2 f3 f4 z0 z1 z2 z3 z4
  generalize (((((w6.setCell ⟨w.heap.size + 1 + 1, 0, none⟩ (.int .i64 3)).setCell ⟨w.heap.size + 1 + 1, 1, none⟩ (.int .i64 0)).setCell ⟨w.heap.size + 1 + 1, 2, none⟩ (.string ⟨#[]⟩)).setCell ⟨w.heap.size + 1 + 1, 3, none⟩ (.slice none 0 0)).setCell ⟨w.heap.size + 1 + 1, 4, none⟩ (.slice none 0 0)) = WF at *
  obtain ⟨q0, q1, q2, q3, q4⟩ := HFIN.out.cells5
  refine bodyPost_ret (v := .agg #[.int .i64 3, .int .i64 0, .string ⟨#[]⟩, .slice none 0 0, .slice none 0 0]) (by simp [results, Tryd.results46, go_sem, q0, q1, q2, q3, q4]) rfl ?_
  exact ValEnd.good _ _ _ _ _ _ _ _ _ HE.out rfl (nd_plain 3 0 ⟨#[]⟩ (by unfold I64; omega) (by unfold I64; omega) (by decide)) ⟨k6, hk6, E6.out, (HOT.out rb (by omega)).trans R6.out, HGR.out⟩
set_option maxRecDepth 100000 in
set_option maxHeartbeats 4000000 in
theorem value_num (rb : Nat) (s : ByteArray) (deep k : Nat) (w : World) (h : RdSt w rb s k) (hk : k ≤ s.size) (hs : s.size ≤ 1000000) (hlt : k < s.size) (q91 : ¬ bt s k = 91) (q123 : ¬ bt s k = 123) (q34 : ¬ bt s k = 34) (u : UInt8) (rest : List UInt8) (hd : s.toList.drop k = u :: rest) (hu : bt s k = u.toNat) (hn0 : (s.toList.drop k).take 4 ≠ [110, 117, 108, 108]) (hn1 : (s.toList.drop k).take 5 ≠ [102, 97, 108, 115, 101]) (hn2 : (s.toList.drop k).take 4 ≠ [116, 114, 117, 101]) (r : Except Int (Nd × List UInt8))
    (hr : r = match numL (s.toList.drop k) with
      | none => .error 3
      | some (n, r) => .ok (.mk 4 n ⟨#[]⟩ [] [], r)) :
    Calls Tryd.prog 46 #[.pointer (some ⟨rb, 0, none⟩), .int .i64 deep] w (ValEnd rb s r w) := by
  have ne1 : ((k : Int) == (s.size : Int)) = false := by rw [beq_eq_false_iff_ne]; omega
  have i1 : (k : Int) < (s.size : Int) := by omega
  have b0 := bt_nonneg s k
  have b1 := bt_le s k
  have une : ∀ c : UInt8, ¬ bt s k = c.toNat → u ≠ c := fun c h e => h (by rw [hu, e])
  have HU91 := Lib.hid (une 91 q91)
  have HU123 := Lib.hid (une 123 q123)
  have HD := Lib.hid hd
  have HN0 := Lib.hid hn0
  have HN1 := Lib.hid hn1
  have HN2 := Lib.hid hn2
  clear hd hu une hn0 hn1 hn2
  have n91 : (bt s k == 91) = false := by rw [beq_eq_false_iff_ne]; exact q91
  have n123 : (bt s k == 123) = false := by rw [beq_eq_false_iff_ne]; exact q123
  have n34 : (bt s k == 34) = false := by rw [beq_eq_false_iff_ne]; exact q34
  have hb := get_bt s
  have V0 := Lib.hid (VInv.start w rb deep h.lt)
  have R0 : Hid (RdSt (((w.alloc (.cells #[.pointer (some ⟨rb, 0, none⟩)] 75)).alloc (.cells #[.int .i64 deep] 3)).alloc (.cells #[.int .i64 0, .int .i64 0, .string ⟨#[]⟩, .slice none 0 0, .slice none 0 0] 25)) rb s k) := ((h.alloc _).alloc _).alloc _
  have hrb : rb < w.heap.size := h.lt
  have i0 : (0 : Int) ≤ (k : Int) := by omega
  clear h
  cases ht : numL (s.toList.drop k) with
  | none =>
    have HE : Hid (r = .error 3) := Lib.hid (by rw [hr, ht])
    have HT := Lib.hid ht
    clear hr ht
    go_enter Tryd.func46, Tryd.ntmps46
    go_wp2_with fail
    generalize (((w.alloc (.cells #[.pointer (some ⟨rb, 0, none⟩)] 75)).alloc (.cells #[.int .i64 deep] 3)).alloc (.cells #[.int .i64 0, .int .i64 0, .string ⟨#[]⟩, .slice none 0 0, .slice none 0 0] 25)) = W at *
    have r0 : W.cell? ⟨w.heap.size, 0, none⟩ = some (.pointer (some ⟨rb, 0, none⟩)) := V0.out.rbox.cell 0
    have d0 : W.cell? ⟨w.heap.size + 1, 0, none⟩ = some (.int .i64 deep) := V0.out.dbox.cell 0
    obtain ⟨c0, c1, c2⟩ := R0.out.cells3
    go_quiet (fail)
    go_wp2_with fail
    go_quiet (fail)
    go_wp2_with fail
    clear r0 d0 c0 c1 c2
    have V1 : Hid (∀ n, VInv w rb deep (W.drewN n)) := fun n => V0.out.drewN n
    have R1 : Hid (∀ n, RdSt (W.drewN n) rb s k) := fun n => R0.out
    refine (may_no rb s ⟨#[91]⟩ k _ (R1.out _) hk hs (by decide) (by rw [lit_toList [91]]; exact fst_ne HD.out HU91.out)).mono ?_; rintro e w2 ⟨rfl, h9, g9⟩
    have V2 : Hid (VInv w rb deep w2) := (V1.out _).next g9
    have R2 := Lib.hid h9
    clear h9 g9
    have r2 : w2.cell? ⟨w.heap.size, 0, none⟩ = some (.pointer (some ⟨rb, 0, none⟩)) := V2.out.rbox.cell 0
    have d2 : w2.cell? ⟨w.heap.size + 1, 0, none⟩ = some (.int .i64 deep) := V2.out.dbox.cell 0
    go_wp2_with fail
    refine (may_no rb s ⟨#[123]⟩ k _ R2.out hk hs (by decide) (by rw [lit_toList [123]]; exact fst_ne HD.out HU123.out)).mono ?_; rintro e w3 ⟨rfl, h9, g9⟩
    have V3 : Hid (VInv w rb deep w3) := V2.out.next g9
    have R3 := Lib.hid h9
    clear h9 g9
    clear r2 d2
    have r3 : w3.cell? ⟨w.heap.size, 0, none⟩ = some (.pointer (some ⟨rb, 0, none⟩)) := V3.out.rbox.cell 0
    have d3 : w3.cell? ⟨w.heap.size + 1, 0, none⟩ = some (.int .i64 deep) := V3.out.dbox.cell 0
    go_wp2_with fail
    refine (may_no rb s ⟨#[110, 117, 108, 108]⟩ k _ R3.out hk hs (by decide) (by rw [lit_toList [110, 117, 108, 108]]; exact HN0.out)).mono ?_; rintro e w4 ⟨rfl, h9, g9⟩
    have V4 : Hid (VInv w rb deep w4) := V3.out.next g9
    have R4 := Lib.hid h9
    clear h9 g9
    clear r3 d3
    have r4 : w4.cell? ⟨w.heap.size, 0, none⟩ = some (.pointer (some ⟨rb, 0, none⟩)) := V4.out.rbox.cell 0
    have d4 : w4.cell? ⟨w.heap.size + 1, 0, none⟩ = some (.int .i64 deep) := V4.out.dbox.cell 0
    go_wp2_with fail
    refine (may_no rb s ⟨#[102, 97, 108, 115, 101]⟩ k _ R4.out hk hs (by decide) (by rw [lit_toList [102, 97, 108, 115, 101]]; exact HN1.out)).mono ?_; rintro e w5 ⟨rfl, h9, g9⟩
    have V5 : Hid (VInv w rb deep w5) := V4.out.next g9
    have R5 := Lib.hid h9
    clear h9 g9
    clear r4 d4
    have r5 : w5.cell? ⟨w.heap.size, 0, none⟩ = some (.pointer (some ⟨rb, 0, none⟩)) := V5.out.rbox.cell 0
    have d5 : w5.cell? ⟨w.heap.size + 1, 0, none⟩ = some (.int .i64 deep) := V5.out.dbox.cell 0
    go_wp2_with fail
    refine (may_no rb s ⟨#[116, 114, 117, 101]⟩ k _ R5.out hk hs (by decide) (by rw [lit_toList [116, 114, 117, 101]]; exact HN2.out)).mono ?_; rintro e w6 ⟨rfl, h9, g9⟩
    have V6 : Hid (VInv w rb deep w6) := V5.out.next g9
    have R6 := Lib.hid h9
    clear h9 g9
    clear r5 d5
    have r6 : w6.cell? ⟨w.heap.size, 0, none⟩ = some (.pointer (some ⟨rb, 0, none⟩)) := V6.out.rbox.cell 0
    have d6 : w6.cell? ⟨w.heap.size + 1, 0, none⟩ = some (.int .i64 deep) := V6.out.dbox.cell 0
    go_wp2_with fail
    refine (number_any rb s k _ R6.out hk hs).mono ?_; rintro e w9 he
    rw [HT.out] at he
    obtain ⟨rfl, h9, g9⟩ := he
    have H9 := Lib.hid h9
    have G9 := Lib.hid g9
    clear h9 g9
    go_wp2_with fail
    exact ⟨rfl, ValEnd.bad HE.out ⟨rfl, H9.out, G9.out⟩ V6.out.grow⟩
  | some p =>
    obtain ⟨n, l⟩ := p
    have HE : Hid (r = .ok (.mk 4 n ⟨#[]⟩ [] [], l)) := Lib.hid (by rw [hr, ht])
    have HTS : Hid (I64 n) := by
      have h1 := numL_ok ht
      show I64 n
      unfold I64; omega
    have HT := Lib.hid ht
    clear hr ht
    go_enter Tryd.func46, Tryd.ntmps46
    go_wp2_with fail
    generalize (((w.alloc (.cells #[.pointer (some ⟨rb, 0, none⟩)] 75)).alloc (.cells #[.int .i64 deep] 3)).alloc (.cells #[.int .i64 0, .int .i64 0, .string ⟨#[]⟩, .slice none 0 0, .slice none 0 0] 25)) = W at *
    have r0 : W.cell? ⟨w.heap.size, 0, none⟩ = some (.pointer (some ⟨rb, 0, none⟩)) := V0.out.rbox.cell 0
    have d0 : W.cell? ⟨w.heap.size + 1, 0, none⟩ = some (.int .i64 deep) := V0.out.dbox.cell 0
    obtain ⟨c0, c1, c2⟩ := R0.out.cells3
    go_quiet (fail)
    go_wp2_with fail
    go_quiet (fail)
    go_wp2_with fail
    clear r0 d0 c0 c1 c2
    have V1 : Hid (∀ n, VInv w rb deep (W.drewN n)) := fun n => V0.out.drewN n
    have R1 : Hid (∀ n, RdSt (W.drewN n) rb s k) := fun n => R0.out
    refine (may_no rb s ⟨#[91]⟩ k _ (R1.out _) hk hs (by decide) (by rw [lit_toList [91]]; exact fst_ne HD.out HU91.out)).mono ?_; rintro e w2 ⟨rfl, h9, g9⟩
    have V2 : Hid (VInv w rb deep w2) := (V1.out _).next g9
    have R2 := Lib.hid h9
    clear h9 g9
    have r2 : w2.cell? ⟨w.heap.size, 0, none⟩ = some (.pointer (some ⟨rb, 0, none⟩)) := V2.out.rbox.cell 0
    have d2 : w2.cell? ⟨w.heap.size + 1, 0, none⟩ = some (.int .i64 deep) := V2.out.dbox.cell 0
    go_wp2_with fail
    refine (may_no rb s ⟨#[123]⟩ k _ R2.out hk hs (by decide) (by rw [lit_toList [123]]; exact fst_ne HD.out HU123.out)).mono ?_; rintro e w3 ⟨rfl, h9, g9⟩
    have V3 : Hid (VInv w rb deep w3) := V2.out.next g9
    have R3 := Lib.hid h9
    clear h9 g9
    clear r2 d2
    have r3 : w3.cell? ⟨w.heap.size, 0, none⟩ = some (.pointer (some ⟨rb, 0, none⟩)) := V3.out.rbox.cell 0
    have d3 : w3.cell? ⟨w.heap.size + 1, 0, none⟩ = some (.int .i64 deep) := V3.out.dbox.cell 0
    go_wp2_with fail
    refine (may_no rb s ⟨#[110, 117, 108, 108]⟩ k _ R3.out hk hs (by decide) (by rw [lit_toList [110, 117, 108, 108]]; exact HN0.out)).mono ?_; rintro e w4 ⟨rfl, h9, g9⟩
    have V4 : Hid (VInv w rb deep w4) := V3.out.next g9
    have R4 := Lib.hid h9
    clear h9 g9
    clear r3 d3
    have r4 : w4.cell? ⟨w.heap.size, 0, none⟩ = some (.pointer (some ⟨rb, 0, none⟩)) := V4.out.rbox.cell 0
    have d4 : w4.cell? ⟨w.heap.size + 1, 0, none⟩ = some (.int .i64 deep) := V4.out.dbox.cell 0
    go_wp2_with fail
    refine (may_no rb s ⟨#[102, 97, 108, 115, 101]⟩ k _ R4.out hk hs (by decide) (by rw [lit_toList [102, 97, 108, 115, 101]]; exact HN1.out)).mono ?_; rintro e w5 ⟨rfl, h9, g9⟩
    have V5 : Hid (VInv w rb deep w5) := V4.out.next g9
    have R5 := Lib.hid h9
    clear h9 g9
    clear r4 d4
    have r5 : w5.cell? ⟨w.heap.size, 0, none⟩ = some (.pointer (some ⟨rb, 0, none⟩)) := V5.out.rbox.cell 0
    have d5 : w5.cell? ⟨w.heap.size + 1, 0, none⟩ = some (.int .i64 deep) := V5.out.dbox.cell 0
    go_wp2_with fail
    refine (may_no rb s ⟨#[116, 114, 117, 101]⟩ k _ R5.out hk hs (by decide) (by rw [lit_toList [116, 114, 117, 101]]; exact HN2.out)).mono ?_; rintro e w6 ⟨rfl, h9, g9⟩
    have V6 : Hid (VInv w rb deep w6) := V5.out.next g9
    have R6 := Lib.hid h9
    clear h9 g9
    clear r5 d5
    have r6 : w6.cell? ⟨w.heap.size, 0, none⟩ = some (.pointer (some ⟨rb, 0, none⟩)) := V6.out.rbox.cell 0
    have d6 : w6.cell? ⟨w.heap.size + 1, 0, none⟩ = some (.int .i64 deep) := V6.out.dbox.cell 0
    go_wp2_with fail
    refine (number_any rb s k _ R6.out hk hs).mono ?_; rintro e w7 he
    rw [HT.out] at he
    obtain ⟨rfl, k7, hk7, e7, h9, g9⟩ := he
    have V7 : Hid (VInv w rb deep w7) := V6.out.next g9
    have R7 := Lib.hid h9
    have E7 := Lib.hid e7
    clear h9 g9 e7 r6 d6
    have f0 := V7.out.frozen 0
    have f1 := V7.out.frozen 1
    have f2 := V7.out.frozen 2
    have f3 := V7.out.frozen 3
    have f4 := V7.out.frozen 4
    obtain ⟨z0, z1, z2, z3, z4⟩ := V7.out.res.cells5
    obtain ⟨hfin, hgr, hsz, hot⟩ := V7.out.laid (.int .i64 4) (.int .i64 n) (.string ⟨#[]⟩) (.slice none 0 0) (.slice none 0 0)
    have HFIN := Lib.hid hfin
    have HGR := Lib.hid hgr
    have HSZ := Lib.hid hsz
    have HOT := Lib.hid hot
    clear hfin hgr hsz hot
    go_wp2_with fail
    clear f0 f1 f2 f3 f4 z0 z1 z2 z3 z4
    generalize (((((w7.setCell ⟨w.heap.size + 1 + 1, 0, none⟩ (.int .i64 4)).setCell ⟨w.heap.size + 1 + 1, 1, none⟩ (.int .i64 n)).setCell ⟨w.heap.size + 1 + 1, 2, none⟩ (.string ⟨#[]⟩)).setCell ⟨w.heap.size + 1 + 1, 3, none⟩ (.slice none 0 0)).setCell ⟨w.heap.size + 1 + 1, 4, none⟩ (.slice none 0 0)) = WF at *
    obtain ⟨q0, q1, q2, q3, q4⟩ := HFIN.out.cells5
    refine bodyPost_ret (v := .agg #[.int .i64 4, .int .i64 n, .string ⟨#[]⟩, .slice none 0 0, .slice none 0 0]) (by simp [results, Tryd.results46, go_sem, q0, q1, q2, q3, q4]) rfl ?_
    exact ValEnd.good _ _ _ _ _ _ _ _ _ HE.out rfl (nd_plain 4 n ⟨#[]⟩ (by unfold I64; omega) HTS.out (by decide)) ⟨k7, hk7, E7.out, (HOT.out rb (by omega)).trans R7.out, HGR.out⟩
end Go.Proofs.YthbjehbpanhdoaaDoor
