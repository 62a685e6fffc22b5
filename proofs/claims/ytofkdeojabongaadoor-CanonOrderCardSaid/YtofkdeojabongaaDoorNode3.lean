/- The walks of slices.Equal, slices.EqualFunc and canon's Same. -/
import Derived.Test.YtofkdeojabongaaDoorNode2
namespace Go.Proofs.YtofkdeojabongaaDoor
open Go.RowKit
set_option linter.unusedVariables false
set_option linter.unusedSimpArgs false
set_option maxRecDepth 100000 in
set_option maxHeartbeats 1000000 in
theorem sEqual_any (ks ks' : List ByteArray) (A A' : Option Addr) (ck ck' : Nat) (w : World) (B : Nat) (hks : Reads w B 1 A ks.length (ks.map Value.string)) (hks' : Reads w B 1 A' ks'.length (ks'.map Value.string)) (hB : B ≤ w.heap.size) (hk : ks.length ≤ 9223372036854775807) (hk' : ks'.length ≤ 9223372036854775807) :
    Calls Tryd.prog 28 #[.slice A ks.length ck, .slice A' ks'.length ck'] w (BoolBel (ks.length == ks'.length && sameK ks ks') w) := by
  have hW := Below.refl w.heap.size w
  obtain ⟨V, hV⟩ : ∃ V, V = (ks.length == ks'.length && sameK ks ks') := ⟨_, rfl⟩
  rw [← hV]
  cases e4 : (ks.length == ks'.length) with
  | false =>
    have HE : Hid (V = false) := by show _ = _; rw [hV, e4]; rfl
    have n4 : ((ks.length : Int) != (ks'.length : Int)) = true := by rw [bne_iff_ne]; have := beq_eq_false_iff_ne.1 e4; omega
    clear hV e4 hks hks'
    go_enter Tryd.func28, Tryd.ntmps28
    go_wp2_with fail
    go_ret
    exact ⟨by rw [HE.out]; rfl, hW⟩
  | true =>
    have n4 : ((ks.length : Int) != (ks'.length : Int)) = false := by rw [bne_eq_false_iff_eq]; have := beq_iff_eq.1 e4; omega
    have l4 : Hid (ks.length = ks'.length) := beq_iff_eq.1 e4
    have HV2 : Hid (V = sameK (ks.drop 0) (ks'.drop 0)) := by show _ = _; rw [hV, e4]; rfl
    clear hV e4
    have HKS := Lib.hid hks
    have HKS' := Lib.hid hks'
    clear hks hks'
    go_enter Tryd.func28, Tryd.ntmps28
    go_wp2_with fail
    go_loopw [13] (fun t5 wr => ∃ (i : Nat), i ≤ ks.length ∧ t5 = .int .i64 i ∧ Hid (V = sameK (ks.drop i) (ks'.drop i)) ∧ Below w.heap.size w wr) (fun t5 _ => ks.length - (intOf t5).toNat)
    case atStart => exact ⟨0, by omega, rfl, HV2, hW⟩
    case round =>
      clear hW
      obtain ⟨i, hi, rfl, hv, hW⟩ := hrel
      obtain ⟨wo, rfl⟩ : ∃ wo : World, wo = wr := ⟨_, rfl⟩
      have hkeep : ∀ p : Addr, p.block < B → wo.cell? p = w.cell? p := fun p hp => hW.cell (by omega)
      by_cases hlt : i < ks.length
      · have hlt' : i < ks'.length := by rw [← l4.out]; exact hlt
        obtain ⟨ad, s, rfl, hadb, hs, hcell⟩ := (HKS.out.keep hkeep).str hlt
        obtain ⟨ad', s', rfl, hadb', hs', hcell'⟩ := (HKS'.out.keep hkeep).str hlt'
        have hstep := sameK_at ks ks' i s s' hs hs'
        have i0 : (0 : Int) ≤ (i : Int) := by omega
        have i1 : (i : Int) < (ks.length : Int) := by omega
        have i2 : (i : Int) < (ks'.length : Int) := by omega
        cases he : (s.toList == s'.toList) with
        | false =>
          have HE : Hid (V = false) := by show _ = _; rw [hv.out, hstep, he]; rfl
          clear hstep hs hs' hkeep
          go_wp2_with fail
          go_quiet (fail)
          go_wp2_with fail
          go_ret
          exact ⟨by rw [HE.out]; rfl, below_drewN hW _⟩
        | true =>
          have HE : Hid (V = sameK (ks.drop (i + 1)) (ks'.drop (i + 1))) := by show _ = _; rw [hv.out, hstep, he, Bool.true_and]
          clear hstep hs hs' hkeep
          go_wp2_with fail
          go_quiet (fail)
          go_wp2_with fail
          go_roundw
          case rel => exact ⟨i + 1, by omega, by go_num, HE, below_drewN hW _⟩
          case measure => simp [intOf]; omega
      · have HE : Hid (V = true) := by
          show _ = _
          rw [hv.out, List.drop_eq_nil_of_le (by omega)]
          rfl
        clear hkeep
        go_wp2_with fail
        go_ret
        exact ⟨by rw [HE.out]; rfl, hW⟩
theorem NdIs.form {w : World} {B : Nat} {n : Nd} {v0 v1 v2 v3 v4 : Value} (h : NdIs w B n [v0, v1, v2, v3, v4]) : ∃ (k m : Int) (t : ByteArray) (A : Option Addr) (a c : Nat) (A2 : Option Addr) (b d : Nat),
    v0 = .int .i64 k ∧ v1 = .int .i64 m ∧ v2 = .string t ∧ v3 = .slice A a c ∧ v4 = .slice A2 b d := by
  cases n
  unfold NdIs at h
  obtain ⟨A, ck, A2, c, xs, h1, _⟩ := h
  simp only [List.cons.injEq, and_true] at h1
  obtain ⟨rfl, rfl, rfl, rfl, rfl⟩ := h1
  exact ⟨_, _, _, _, _, _, _, _, _, rfl, rfl, rfl, rfl, rfl⟩
def SameC (vs vs' : Array Value) (b : Bool) (w' : World) : Prop := Calls Tryd.prog 16 #[.agg vs, .agg vs'] w' (BoolBel b w')
set_option maxRecDepth 100000 in
set_option maxHeartbeats 1000000 in
theorem sEqualFunc_any (ns ns' : List Nd) (A A' : Option Addr) (ck ck' : Nat) (xs xs' : List Value) (w : World) (B : Nat) (hks : Reads w B 5 A ns.length xs) (hks' : Reads w B 5 A' ns'.length xs') (hns : NdsIs w B ns xs) (hns' : NdsIs w B ns' xs') (hB : B ≤ w.heap.size) (hk : ns.length ≤ 9223372036854775807) (hk' : ns'.length ≤ 9223372036854775807)
    (HIH : Hid (∀ (i : Nat) (n m : Nd) (cs ds : List Value) (w' : World), ns[i]? = some n → ns'[i]? = some m → NdIs w' B n cs → NdIs w' B m ds → B ≤ w'.heap.size → SameC cs.toArray ds.toArray (sameN n m) w')) :
    Calls Tryd.prog 29 #[.slice A ns.length ck, .slice A' ns'.length ck', .func (.func 16) #[] #[]] w (BoolBel (ns.length == ns'.length && sameL ns ns') w) := by
  obtain ⟨V, hV⟩ : ∃ V, V = (ns.length == ns'.length && sameL ns ns') := ⟨_, rfl⟩
  rw [← hV]
  have hW := Below.refl w.heap.size w
  cases e4 : (ns.length == ns'.length) with
  | false =>
    have HE : Hid (V = false) := by show _ = _; rw [hV, e4]; rfl
    have n4 : ((ns.length : Int) != (ns'.length : Int)) = true := by rw [bne_iff_ne]; have := beq_eq_false_iff_ne.1 e4; omega
    clear hV e4 hks hks' hns hns'
    go_enter Tryd.func29, Tryd.ntmps29
    go_wp2_with fail
    go_ret
    exact ⟨by rw [HE.out]; rfl, hW⟩
  | true =>
    have n4 : ((ns.length : Int) != (ns'.length : Int)) = false := by rw [bne_eq_false_iff_eq]; have := beq_iff_eq.1 e4; omega
    have l4 : Hid (ns.length = ns'.length) := beq_iff_eq.1 e4
    have HV2 : Hid (V = sameL (ns.drop 0) (ns'.drop 0)) := by show _ = _; rw [hV, e4]; rfl
    clear hV e4
    have HXS := Lib.hid hks
    have HXS' := Lib.hid hks'
    have HNS := Lib.hid hns
    have HNS' := Lib.hid hns'
    clear hks hks' hns hns'
    go_enter Tryd.func29, Tryd.ntmps29
    go_wp2_with fail
    go_loopw [17] (fun t5 wr => ∃ (i : Nat), i ≤ ns.length ∧ t5 = .int .i64 i ∧ Hid (V = sameL (ns.drop i) (ns'.drop i)) ∧ Below w.heap.size w wr) (fun t5 _ => ns.length - (intOf t5).toNat)
    case atStart => exact ⟨0, by omega, rfl, HV2, hW⟩
    case round =>
      clear hW
      obtain ⟨i, hi, rfl, hv, hW⟩ := hrel
      obtain ⟨wo, rfl⟩ : ∃ wo : World, wo = wr := ⟨_, rfl⟩
      have hsz := hW.size
      by_cases hlt : i < ns.length
      · have hlt' : i < ns'.length := by rw [← l4.out]; exact hlt
        have hkeep : ∀ p : Addr, p.block < B → wo.cell? p = w.cell? p := fun p hp => hW.cell (by omega)
        obtain ⟨ad, n, v0, v1, v2, v3, v4, rfl, hadb, hni, hnd, e0, e1, e2, e3, e4⟩ := (HXS.out.keep hkeep).nd (NdsIs.keep hkeep _ _ HNS.out) hlt
        obtain ⟨ad', n', u0, u1, u2, u3, u4, rfl, hadb', hni', hnd', f0, f1, f2, f3, f4⟩ := (HXS'.out.keep hkeep).nd (NdsIs.keep hkeep _ _ HNS'.out) hlt'
        obtain ⟨x0, x1, x2, x3, x4, x5, x6, x7, x8, rfl, rfl, rfl, rfl, rfl⟩ := hnd.form
        obtain ⟨y0, y1, y2, y3, y4, y5, y6, y7, y8, rfl, rfl, rfl, rfl, rfl⟩ := hnd'.form
        have hstep := sameL_at ns ns' i n n' hni hni'
        have HW2 : Hid (∀ w', Below wo.heap.size wo w' → SameC #[.int .i64 x0, .int .i64 x1, .string x2, .slice x3 x4 x5, .slice x6 x7 x8] #[.int .i64 y0, .int .i64 y1, .string y2, .slice y3 y4 y5, .slice y6 y7 y8] (sameN n n') w') := fun w' hb =>
          HIH.out i n n' [.int .i64 x0, .int .i64 x1, .string x2, .slice x3 x4 x5, .slice x6 x7 x8] [.int .i64 y0, .int .i64 y1, .string y2, .slice y3 y4 y5, .slice y6 y7 y8] w' hni hni' (hnd.below (hb.mono (by omega))) (hnd'.below (hb.mono (by omega))) (by have := hb.size; omega)
        have hW0 := Below.refl wo.heap.size wo
        have q1 : (ad.add (i * 5)).block < wo.heap.size := by rw [block_of_add]; omega
        have q2 : (ad'.add (i * 5)).block < wo.heap.size := by rw [block_of_add]; omega
        have q3 : ¬ (ad'.add (i * 5)).block = wo.heap.size := by omega
        clear hni hni' hnd hnd' hkeep
        have HST := Lib.hid hstep
        clear hstep
        generalize sameN n n' = b at *
        go_wp2_with fail
        refine (HW2.out _ ((hW0.alloc (Nat.le_refl _) _).alloc (by simp) _)).mono ?_; rintro e w1 ⟨rfl, hw1⟩
        replace hw1 := nextAA hW0 hw1
        clear e0 e1 e2 e3 e4 f0 f1 f2 f3 f4
        cases b with
        | false =>
          have HE : Hid (V = false) := by show _ = _; rw [hv.out, HST.out]; rfl
          go_wp2_with fail
          go_ret
          exact ⟨by rw [HE.out]; rfl, hW.trans (hw1.mono (by omega))⟩
        | true =>
          have HE : Hid (V = sameL (ns.drop (i + 1)) (ns'.drop (i + 1))) := by show _ = _; rw [hv.out, HST.out, Bool.true_and]
          go_wp2_with fail
          go_roundw
          case rel => exact ⟨i + 1, by omega, by go_num, HE, hW.trans (hw1.mono (by omega))⟩
          case measure => simp [intOf]; omega
      · have HE : Hid (V = true) := by
          show _ = _
          rw [hv.out, List.drop_eq_nil_of_le (by omega)]
          unfold sameL; rfl
        go_wp2_with fail
        go_ret
        exact ⟨by rw [HE.out]; rfl, hW⟩
set_option maxRecDepth 100000 in
set_option maxHeartbeats 1000000 in
theorem cSame_any (c : Nat) : ∀ (n m : Nd) (cs ds : List Value) (w : World) (B : Nat), n.count ≤ c → NdIs w B n cs → NdIs w B m ds → B ≤ w.heap.size → SameC cs.toArray ds.toArray (sameN n m) w := by
  induction c with
  | zero => intro n m cs ds w B hc; have := n.count_pos; omega
  | succ c ih =>
    intro n m cs ds w B hc hn hm hB
    show Calls Tryd.prog 16 #[.agg cs.toArray, .agg ds.toArray] w (BoolBel (sameN n m) w)
    have hW := Below.refl w.heap.size w
    obtain ⟨k, num, t, ks, ns⟩ := n
    obtain ⟨k', num', t', ks', ns'⟩ := m
    unfold NdIs at hn hm
    obtain ⟨A, ck, A2, cc, xs, rfl, hks, hxs, hns, ik, inn, ht, hkl, hk, hmm⟩ := hn
    obtain ⟨A', ck', A2', cc', xs', rfl, hks', hxs', hns', ik', inn', ht', hkl', hk', hmm'⟩ := hm
    unfold maxLen at *
    have HV : Hid (sameN (.mk k num t ks ns) (.mk k' num' t' ks' ns') = (k == k' && num == num' && t.toList == t'.toList && ks.length == ks'.length && ns.length == ns'.length && sameK ks ks' && sameL ns ns')) := by
      show _ = _; conv => lhs; unfold sameN
    generalize sameN (.mk k num t ks ns) (.mk k' num' t' ks' ns') = V at *
    have HQ : Hid (∀ w', Below w.heap.size w w' → Calls Tryd.prog 28 #[.slice A ks.length ck, .slice A' ks'.length ck'] w' (BoolBel (ks.length == ks'.length && sameK ks ks') w')) := fun w' hb =>
      sEqual_any ks ks' A A' ck ck' w' B (hks.keep fun p hp => hb.cell (by omega)) (hks'.keep fun p hp => hb.cell (by omega)) (by have := hb.size; omega) (by omega) (by omega)
    have HP : Hid (∀ w', Below w.heap.size w w' → Calls Tryd.prog 29 #[.slice A2 ns.length cc, .slice A2' ns'.length cc', .func (.func 16) #[] #[]] w' (BoolBel (ns.length == ns'.length && sameL ns ns') w')) := fun w' hb =>
      sEqualFunc_any ns ns' A2 A2' cc cc' xs xs' w' B (hxs.keep fun p hp => hb.cell (by omega)) (hxs'.keep fun p hp => hb.cell (by omega)) (NdsIs.keep (fun p hp => hb.cell (by omega)) _ _ hns) (NdsIs.keep (fun p hp => hb.cell (by omega)) _ _ hns') (by have := hb.size; omega) (by omega) (by omega)
        (fun i n m cs ds w'' h1 h2 h3 h4 h5 => ih n m cs ds w'' B (by
          have := Nd.counts_get ns i n h1
          simp only [Nd.count] at hc
          omega) h3 h4 h5)
    clear ih hks hxs hns hks' hxs' hns' hkl hkl' hc
    have hA : Below w.heap.size w ((w.alloc (.cells #[.int .i64 k, .int .i64 num, .string t, .slice A ks.length ck, .slice A2 ns.length cc] 25)).alloc (.cells #[.int .i64 k', .int .i64 num', .string t', .slice A' ks'.length ck', .slice A2' ns'.length cc'] 25)) := (hW.alloc hW.size _).alloc (by simp) _
    cases e1 : (k == k') with
    | false =>
      have HE : Hid (V = false) := by show _ = _; rw [HV.out, e1]; rfl
      go_enter Tryd.func16, Tryd.ntmps16
      go_wp2_with fail
      go_ret
      exact ⟨by rw [HE.out]; rfl, hA⟩
    | true =>
    cases e2 : (num == num') with
    | false =>
      have HE : Hid (V = false) := by show _ = _; rw [HV.out, e1, e2]; rfl
      go_enter Tryd.func16, Tryd.ntmps16
      go_wp2_with fail
      go_ret
      exact ⟨by rw [HE.out]; rfl, hA⟩
    | true =>
    cases e3 : (t.toList == t'.toList) with
    | false =>
      have HE : Hid (V = false) := by show _ = _; rw [HV.out, e1, e2, e3]; rfl
      go_enter Tryd.func16, Tryd.ntmps16
      go_wp2_with fail
      go_ret
      exact ⟨by rw [HE.out]; rfl, hA⟩
    | true =>
    have HV2 : Hid (V = ((ks.length == ks'.length && sameK ks ks') && (ns.length == ns'.length && sameL ns ns'))) := by
      show _ = _
      rw [HV.out, e1, e2, e3]
      cases (ks.length == ks'.length) <;> cases (ns.length == ns'.length) <;> cases (sameK ks ks') <;> rfl
    clear HV
    generalize (ks.length == ks'.length && sameK ks ks') = p at *
    generalize (ns.length == ns'.length && sameL ns ns') = q at *
    cases p with
    | false =>
      have HE : Hid (V = false) := by show _ = _; rw [HV2.out]; rfl
      go_enter Tryd.func16, Tryd.ntmps16
      go_wp2_with fail
      refine (HQ.out _ hA).mono ?_; rintro e w1 ⟨rfl, hw1⟩
      have hW1 := hA.trans (hw1.mono (by simp; omega))
      go_wp2_with fail
      go_ret
      exact ⟨by rw [HE.out]; rfl, hW1⟩
    | true =>
      have HE : Hid (V = q) := by show _ = _; rw [HV2.out, Bool.true_and]
      go_enter Tryd.func16, Tryd.ntmps16
      go_wp2_with fail
      refine (HQ.out _ hA).mono ?_; rintro e w1 ⟨rfl, hw1⟩
      have hW1 := hA.trans (hw1.mono (by simp; omega))
      have d4 : w1.cell? ⟨w.heap.size, 4, none⟩ = some (.slice A2 ns.length cc) := (hw1.cell (by simp; omega)).trans (by simp [go_sem])
      have f4 : w1.cell? ⟨w.heap.size + 1, 4, none⟩ = some (.slice A2' ns'.length cc') := (hw1.cell (by simp)).trans (by simp [go_sem])
      go_wp2_with fail
      refine (HP.out _ hW1).mono ?_; rintro e w2 ⟨rfl, hw2⟩
      have hW2 := hW1.trans (hw2.mono (by have := hW1.size; omega))
      go_wp2_with fail
      go_ret
      exact ⟨by rw [HE.out]; rfl, hW2⟩
end Go.Proofs.YtofkdeojabongaaDoor
