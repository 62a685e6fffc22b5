/- The walks of Great and the reference's Same. -/
import Derived.Test.YtofkdeojabongaaDoorNode1
import Derived.Deep.RegionHeld3
import Derived.Deep.QuietTactic
import Derived.BigQuiet
namespace Go.Proofs.YtofkdeojabongaaDoor
open Go.RowKit
set_option linter.unusedVariables false
set_option linter.unusedSimpArgs false
theorem below_drewN {B : Nat} {a w : World} (h : Below B a w) (n : Nat) : Below B a (w.drewN n) := ⟨h.os, h.tape, h.output, h.size, h.block⟩
def greatN (n : Nd) : Bool := decide (2000 < weightN n 0)
def BoolBel (b : Bool) (w : World) (e : Ending) (w' : World) : Prop := e = .returned (.bool b) ∧ Below w.heap.size w w'
theorem great_any (n : Nd) (cs : List Value) (w : World) (B : Nat) (hn : NdIs w B n cs) (hB : B ≤ w.heap.size) : Calls Tryd.prog 9 #[.agg cs.toArray] w (BoolBel (greatN n) w) := by
  have hl := hn.len
  have hW := Below.refl w.heap.size w
  match cs, hl with
  | [v0, v1, v2, v3, v4], _ =>
    have HC : Hid (∀ w', Below w.heap.size w w' → WeightIn #[v0, v1, v2, v3, v4] 0 (weightN n 0) w') := fun w' hb =>
      weight_any n.count n [v0, v1, v2, v3, v4] w' B 0 (Nat.le_refl _) (hn.below (hb.mono (by omega))) (by have := hb.size; omega) (by omega) (by omega)
    unfold greatN
    have hle := weightN_le n 0 (by omega) (by omega)
    clear hn
    generalize weightN n 0 = W at *
    obtain ⟨l0, l1⟩ := hle
    go_enter Tryd.func9, Tryd.ntmps9
    go_wp2_with (go_at_call 21; refine (HC.out _ (hW.alloc hW.size _)).mono ?_; rintro e w1 ⟨rfl, hw1⟩)
    go_ret
    exact ⟨rfl, nextA hW hw1⟩
mutual
def sameN : Nd → Nd → Bool
  | .mk k n t ks ns, .mk k' n' t' ks' ns' => k == k' && n == n' && t.toList == t'.toList && ks.length == ks'.length && ns.length == ns'.length && sameK ks ks' && sameL ns ns'
def sameL : List Nd → List Nd → Bool
  | [], _ => true
  | _ :: _, [] => true
  | n :: ns, m :: ms => sameN n m && sameL ns ms
def sameK : List ByteArray → List ByteArray → Bool
  | [], _ => true
  | _ :: _, [] => true
  | a :: l, b :: m => a.toList == b.toList && sameK l m
end
theorem sameK_at (ks ks' : List ByteArray) (i : Nat) (s s' : ByteArray) (h : ks[i]? = some s) (h' : ks'[i]? = some s') : sameK (ks.drop i) (ks'.drop i) = (s.toList == s'.toList && sameK (ks.drop (i + 1)) (ks'.drop (i + 1))) := by
  rw [List.drop_eq_getElem_cons (List.getElem?_eq_some_iff.1 h).1, (List.getElem?_eq_some_iff.1 h).2, List.drop_eq_getElem_cons (List.getElem?_eq_some_iff.1 h').1, (List.getElem?_eq_some_iff.1 h').2]
  conv => lhs; unfold sameK
theorem sameL_at (ks ks' : List Nd) (i : Nat) (s s' : Nd) (h : ks[i]? = some s) (h' : ks'[i]? = some s') : sameL (ks.drop i) (ks'.drop i) = (sameN s s' && sameL (ks.drop (i + 1)) (ks'.drop (i + 1))) := by
  rw [List.drop_eq_getElem_cons (List.getElem?_eq_some_iff.1 h).1, (List.getElem?_eq_some_iff.1 h).2, List.drop_eq_getElem_cons (List.getElem?_eq_some_iff.1 h').1, (List.getElem?_eq_some_iff.1 h').2]
  conv => lhs; unfold sameL
def SameIn (vs vs' : Array Value) (b : Bool) (w' : World) : Prop := Calls Tryd.prog 17 #[.agg vs, .agg vs'] w' (BoolBel b w')
set_option maxRecDepth 100000 in
set_option maxHeartbeats 2000000 in
theorem rSame_any (c : Nat) : ∀ (n m : Nd) (cs ds : List Value) (w : World) (B : Nat), n.count ≤ c → NdIs w B n cs → NdIs w B m ds → B ≤ w.heap.size → Calls Tryd.prog 17 #[.agg cs.toArray, .agg ds.toArray] w (BoolBel (sameN n m) w) := by
  induction c with
  | zero => intro n m cs ds w B hc; have := n.count_pos; omega
  | succ c ih =>
    intro n m cs ds w B hc hn hm hB
    have hW := Below.refl w.heap.size w
    obtain ⟨k, num, t, ks, ns⟩ := n
    obtain ⟨k', num', t', ks', ns'⟩ := m
    unfold NdIs at hn hm
    obtain ⟨A, ck, A2, cc, xs, rfl, hks, hxs, hns, ik, inn, ht, hkl, hk, hmm⟩ := hn
    obtain ⟨A', ck', A2', cc', xs', rfl, hks', hxs', hns', ik', inn', ht', hkl', hk', hmm'⟩ := hm
    unfold maxLen at *
    have HV : Hid (sameN (.mk k num t ks ns) (.mk k' num' t' ks' ns') = (k == k' && num == num' && t.toList == t'.toList && ks.length == ks'.length && ns.length == ns'.length && sameK ks ks' && sameL ns ns')) := by
      show _ = _; conv => lhs; unfold sameN
    generalize sameN (.mk k num t ks ns) (.mk k' num' t' ks' ns') = V at *
    cases e1 : (k == k') with
    | false =>
      have HE : Hid (V = false) := by show _ = _; rw [HV.out, e1]; rfl
      have n1 : (k != k') = true := by simp only [bne, e1]; rfl
      clear ih hks hxs hns hks' hxs' hns' hkl hkl'
      go_enter Tryd.func17, Tryd.ntmps17
      go_wp2_with fail
      go_ret
      exact ⟨by rw [HE.out]; rfl, (hW.alloc hW.size _).alloc (by simp) _⟩
    | true =>
    have n1 : (k != k') = false := by simp only [bne, e1]; rfl
    cases e2 : (num == num') with
    | false =>
      have HE : Hid (V = false) := by show _ = _; rw [HV.out, e1, e2]; rfl
      have n2 : (num != num') = true := by simp only [bne, e2]; rfl
      clear ih hks hxs hns hks' hxs' hns' hkl hkl'
      go_enter Tryd.func17, Tryd.ntmps17
      go_wp2_with fail
      go_ret
      exact ⟨by rw [HE.out]; rfl, (hW.alloc hW.size _).alloc (by simp) _⟩
    | true =>
    have n2 : (num != num') = false := by simp only [bne, e2]; rfl
    cases e3 : (t.toList == t'.toList) with
    | false =>
      have HE : Hid (V = false) := by show _ = _; rw [HV.out, e1, e2, e3]; rfl
      clear ih hks hxs hns hks' hxs' hns' hkl hkl'
      go_enter Tryd.func17, Tryd.ntmps17
      go_wp2_with fail
      go_ret
      exact ⟨by rw [HE.out]; rfl, (hW.alloc hW.size _).alloc (by simp) _⟩
    | true =>
    cases e4 : (ks.length == ks'.length) with
    | false =>
      have HE : Hid (V = false) := by show _ = _; rw [HV.out, e1, e2, e3, e4]; rfl
      have n4 : ((ks.length : Int) != (ks'.length : Int)) = true := by rw [bne_iff_ne]; have := beq_eq_false_iff_ne.1 e4; omega
      clear ih hks hxs hns hks' hxs' hns' hkl hkl'
      go_enter Tryd.func17, Tryd.ntmps17
      go_wp2_with fail
      go_ret
      exact ⟨by rw [HE.out]; rfl, (hW.alloc hW.size _).alloc (by simp) _⟩
    | true =>
    have n4 : ((ks.length : Int) != (ks'.length : Int)) = false := by rw [bne_eq_false_iff_eq]; have := beq_iff_eq.1 e4; omega
    cases e5 : (ns.length == ns'.length) with
    | false =>
      have HE : Hid (V = false) := by show _ = _; rw [HV.out, e1, e2, e3, e4, e5]; rfl
      have n5 : ((ns.length : Int) != (ns'.length : Int)) = true := by rw [bne_iff_ne]; have := beq_eq_false_iff_ne.1 e5; omega
      clear ih hks hxs hns hks' hxs' hns' hkl hkl'
      go_enter Tryd.func17, Tryd.ntmps17
      go_wp2_with fail
      go_ret
      exact ⟨by rw [HE.out]; rfl, (hW.alloc hW.size _).alloc (by simp) _⟩
    | true =>
    have n5 : ((ns.length : Int) != (ns'.length : Int)) = false := by rw [bne_eq_false_iff_eq]; have := beq_iff_eq.1 e5; omega
    have HV2 : Hid (V = (sameK (ks.drop 0) (ks'.drop 0) && sameL ns ns')) := by show _ = _; rw [HV.out, e1, e2, e3, e4, e5]; simp
    have l4 : Hid (ks.length = ks'.length) := beq_iff_eq.1 e4
    have l5 : Hid (ns.length = ns'.length) := beq_iff_eq.1 e5
    clear HV e4 e5
    have HIH : Hid (∀ (n m : Nd) (cs ds : List Value) (w : World) (B : Nat), n.count ≤ c → NdIs w B n cs → NdIs w B m ds → B ≤ w.heap.size → Calls Tryd.prog 17 #[.agg cs.toArray, .agg ds.toArray] w (BoolBel (sameN n m) w)) := ih
    have HC : Hid (∀ (i : Nat) (n : Nd), ns[i]? = some n → n.count ≤ c) := fun i n hi => by
      have := Nd.counts_get ns i n hi
      simp only [Nd.count] at hc
      omega
    have HKS := Lib.hid hks
    have HXS := Lib.hid hxs
    have HNS := Lib.hid hns
    have HKS' := Lib.hid hks'
    have HXS' := Lib.hid hxs'
    have HNS' := Lib.hid hns'
    clear ih hks hxs hns hks' hxs' hns' hkl hkl' ht ht' ik ik' inn inn' hc
    go_enter Tryd.func17, Tryd.ntmps17
    go_wp2_with fail
    have hblk : Blk ((w.alloc (.cells #[.int .i64 k, .int .i64 num, .string t, .slice A ks.length ck, .slice A2 ns.length cc] 25)).alloc (.cells #[.int .i64 k', .int .i64 num', .string t', .slice A' ks'.length ck', .slice A2' ns'.length cc'] 25)) w.heap.size 25 #[.int .i64 k, .int .i64 num, .string t, .slice A ks.length ck, .slice A2 ns.length cc] := (Blk.new w _ _).alloc _
    have hblk' : Blk ((w.alloc (.cells #[.int .i64 k, .int .i64 num, .string t, .slice A ks.length ck, .slice A2 ns.length cc] 25)).alloc (.cells #[.int .i64 k', .int .i64 num', .string t', .slice A' ks'.length ck', .slice A2' ns'.length cc'] 25)) (w.heap.size + 1) 25 #[.int .i64 k', .int .i64 num', .string t', .slice A' ks'.length ck', .slice A2' ns'.length cc'] := by
      have := Blk.new (w.alloc (.cells #[.int .i64 k, .int .i64 num, .string t, .slice A ks.length ck, .slice A2 ns.length cc] 25)) 25 #[.int .i64 k', .int .i64 num', .string t', .slice A' ks'.length ck', .slice A2' ns'.length cc']
      simpa using this
    replace hW : Below w.heap.size w ((w.alloc (.cells #[.int .i64 k, .int .i64 num, .string t, .slice A ks.length ck, .slice A2 ns.length cc] 25)).alloc (.cells #[.int .i64 k', .int .i64 num', .string t', .slice A' ks'.length ck', .slice A2' ns'.length cc'] 25)) := (hW.alloc hW.size _).alloc (by simp) _
    have hsz : w.heap.size + 1 < ((w.alloc (.cells #[.int .i64 k, .int .i64 num, .string t, .slice A ks.length ck, .slice A2 ns.length cc] 25)).alloc (.cells #[.int .i64 k', .int .i64 num', .string t', .slice A' ks'.length ck', .slice A2' ns'.length cc'] 25)).heap.size := by simp
    generalize (w.alloc (.cells #[.int .i64 k, .int .i64 num, .string t, .slice A ks.length ck, .slice A2 ns.length cc] 25)).alloc (.cells #[.int .i64 k', .int .i64 num', .string t', .slice A' ks'.length ck', .slice A2' ns'.length cc'] 25) = wa at *
    go_loopw [5] (fun t5 wr => ∃ i : Nat, i ≤ ks.length ∧ t5 = .int .i64 i ∧ Hid (V = (sameK (ks.drop i) (ks'.drop i) && sameL ns ns')) ∧ Blk wr w.heap.size 25 #[.int .i64 k, .int .i64 num, .string t, .slice A ks.length ck, .slice A2 ns.length cc] ∧ Blk wr (w.heap.size + 1) 25 #[.int .i64 k', .int .i64 num', .string t', .slice A' ks'.length ck', .slice A2' ns'.length cc'] ∧ Below w.heap.size w wr ∧ w.heap.size + 1 < wr.heap.size) (fun t5 _ => ks.length - (intOf t5).toNat)
    case atStart => exact ⟨0, by omega, rfl, HV2, hblk, hblk', hW, hsz⟩
    case round =>
      clear HV2 hblk hblk' hW hsz
      obtain ⟨i, hi, rfl, hv, hblk, hblk', hW, hsz⟩ := hrel
      have c3 : wr.cell? ⟨w.heap.size, 3, none⟩ = some (.slice A ks.length ck) := hblk.cell 3
      have d3 : wr.cell? ⟨w.heap.size + 1, 3, none⟩ = some (.slice A' ks'.length ck') := hblk'.cell 3
      obtain ⟨wo, rfl⟩ : ∃ wo : World, wo = wr := ⟨_, rfl⟩
      by_cases hlt : i < ks.length
      · have hlt' : i < ks'.length := by rw [← l4.out]; exact hlt
        have hkeep : ∀ p : Addr, p.block < B → wo.cell? p = w.cell? p := fun p hp => hW.cell (by omega)
        obtain ⟨ad, s, rfl, hadb, hs, hcell⟩ := (HKS.out.keep hkeep).str hlt
        obtain ⟨ad', s', rfl, hadb', hs', hcell'⟩ := (HKS'.out.keep hkeep).str hlt'
        have hstep := sameK_at ks ks' i s s' hs hs'
        have i0 : (0 : Int) ≤ (i : Int) := by omega
        have i1 : (i : Int) < (ks.length : Int) := by omega
        have i2 : (i : Int) < (ks'.length : Int) := by omega
        cases he : (s.toList == s'.toList) with
        | false =>
          have HE : Hid (V = false) := by show _ = _; rw [hv.out, hstep, he]; rfl
          clear hstep hs hs' hkeep
          go_wp2_with fail
          go_quiet (fail)
          go_wp2_with fail
          go_ret
          exact ⟨by rw [HE.out]; rfl, by first | exact hW | exact below_drewN hW _⟩
        | true =>
          have HE : Hid (V = (sameK (ks.drop (i + 1)) (ks'.drop (i + 1)) && sameL ns ns')) := by show _ = _; rw [hv.out, hstep, he, Bool.true_and]
          clear hstep hs hs' hkeep
          go_wp2_with fail
          go_quiet (fail)
          go_wp2_with fail
          go_roundw
          case rel => exact ⟨i + 1, by omega, by go_num, HE, by first | exact hblk | exact hblk.drewN _, by first | exact hblk' | exact hblk'.drewN _, by first | exact hW | exact below_drewN hW _, by first | exact hsz | exact hsz⟩
          case measure => simp [intOf]; omega
      · have HV3 : Hid (V = sameL (ns.drop 0) (ns'.drop 0)) := by
          show _ = _
          rw [hv.out, List.drop_eq_nil_of_le (by omega)]
          rfl
        go_wp2_with fail
        go_loopw [6] (fun t6 wr => ∃ i : Nat, i ≤ ns.length ∧ t6 = .int .i64 i ∧ Hid (V = sameL (ns.drop i) (ns'.drop i)) ∧ Blk wr w.heap.size 25 #[.int .i64 k, .int .i64 num, .string t, .slice A ks.length ck, .slice A2 ns.length cc] ∧ Blk wr (w.heap.size + 1) 25 #[.int .i64 k', .int .i64 num', .string t', .slice A' ks'.length ck', .slice A2' ns'.length cc'] ∧ Below w.heap.size w wr ∧ w.heap.size + 1 < wr.heap.size) (fun t6 _ => ns.length - (intOf t6).toNat)
        case atStart => exact ⟨0, by omega, rfl, HV3, hblk, hblk', hW, hsz⟩
        case round =>
          clear hblk hblk' hW hsz c3 d3
          obtain ⟨i, hi, rfl, hv, hblk, hblk', hW, hsz⟩ := hrel
          have c4 : wr.cell? ⟨w.heap.size, 4, none⟩ = some (.slice A2 ns.length cc) := hblk.cell 4
          have d4 : wr.cell? ⟨w.heap.size + 1, 4, none⟩ = some (.slice A2' ns'.length cc') := hblk'.cell 4
          obtain ⟨wo, rfl⟩ : ∃ wo : World, wo = wr := ⟨_, rfl⟩
          by_cases hlt : i < ns.length
          · have hlt' : i < ns'.length := by rw [← l5.out]; exact hlt
            have hkeep : ∀ p : Addr, p.block < B → wo.cell? p = w.cell? p := fun p hp => hW.cell (by omega)
            obtain ⟨ad, n, v0, v1, v2, v3, v4, rfl, hadb, hni, hnd, e0, e1', e2', e3', e4'⟩ := (HXS.out.keep hkeep).nd (NdsIs.keep hkeep _ _ HNS.out) hlt
            obtain ⟨ad', n', u0, u1, u2, u3, u4, rfl, hadb', hni', hnd', f0, f1, f2, f3, f4⟩ := (HXS'.out.keep hkeep).nd (NdsIs.keep hkeep _ _ HNS'.out) hlt'
            have hcn := HC.out i n hni
            have hstep := sameL_at ns ns' i n n' hni hni'
            have i0 : (0 : Int) ≤ (i : Int) := by omega
            have i1 : (i : Int) < (ns.length : Int) := by omega
            have i2 : (i : Int) < (ns'.length : Int) := by omega
            have HW2 : Hid (∀ w', Below wo.heap.size wo w' → SameIn #[v0, v1, v2, v3, v4] #[u0, u1, u2, u3, u4] (sameN n n') w') := fun w' hb =>
              HIH.out n n' [v0, v1, v2, v3, v4] [u0, u1, u2, u3, u4] w' B hcn (hnd.below (hb.mono (by omega))) (hnd'.below (hb.mono (by omega))) (by have := hb.size; omega)
            have hW0 := Below.refl wo.heap.size wo
            have q1 : ad.block < wo.heap.size := by omega
            have q2 : ad'.block < wo.heap.size := by omega
            clear hni hni' hnd hnd' hkeep
            have HST := Lib.hid hstep
            clear hstep
            generalize sameN n n' = b at *
            go_wp2_with fail
            have K : (fun w' => w'.cell? ⟨w.heap.size, 4, none⟩ = some (.slice (some ad) ns.length cc) ∧ w'.cell? ⟨w.heap.size + 1, 4, none⟩ = some (.slice (some ad') ns'.length cc') ∧ w'.cell? (ad.add (i * 5)) = some v0 ∧ w'.cell? ⟨(ad.add (i * 5)).block, (ad.add (i * 5)).off + 1, none⟩ = some v1 ∧ w'.cell? ⟨(ad.add (i * 5)).block, (ad.add (i * 5)).off + 2, none⟩ = some v2 ∧ w'.cell? ⟨(ad.add (i * 5)).block, (ad.add (i * 5)).off + 3, none⟩ = some v3 ∧ w'.cell? ⟨(ad.add (i * 5)).block, (ad.add (i * 5)).off + 4, none⟩ = some v4 ∧ w'.cell? (ad'.add (i * 5)) = some u0 ∧ w'.cell? ⟨(ad'.add (i * 5)).block, (ad'.add (i * 5)).off + 1, none⟩ = some u1 ∧ w'.cell? ⟨(ad'.add (i * 5)).block, (ad'.add (i * 5)).off + 2, none⟩ = some u2 ∧ w'.cell? ⟨(ad'.add (i * 5)).block, (ad'.add (i * 5)).off + 3, none⟩ = some u3 ∧ w'.cell? ⟨(ad'.add (i * 5)).block, (ad'.add (i * 5)).off + 4, none⟩ = some u4) wo := ⟨c4, d4, e0, e1', e2', e3', e4', f0, f1, f2, f3, f4⟩
            have HK := Lib.hid K
            clear K
            go_region_held3 (fun w' => w'.cell? ⟨w.heap.size, 4, none⟩ = some (.slice (some ad) ns.length cc) ∧ w'.cell? ⟨w.heap.size + 1, 4, none⟩ = some (.slice (some ad') ns'.length cc') ∧ w'.cell? (ad.add (i * 5)) = some v0 ∧ w'.cell? ⟨(ad.add (i * 5)).block, (ad.add (i * 5)).off + 1, none⟩ = some v1 ∧ w'.cell? ⟨(ad.add (i * 5)).block, (ad.add (i * 5)).off + 2, none⟩ = some v2 ∧ w'.cell? ⟨(ad.add (i * 5)).block, (ad.add (i * 5)).off + 3, none⟩ = some v3 ∧ w'.cell? ⟨(ad.add (i * 5)).block, (ad.add (i * 5)).off + 4, none⟩ = some v4 ∧ w'.cell? (ad'.add (i * 5)) = some u0 ∧ w'.cell? ⟨(ad'.add (i * 5)).block, (ad'.add (i * 5)).off + 1, none⟩ = some u1 ∧ w'.cell? ⟨(ad'.add (i * 5)).block, (ad'.add (i * 5)).off + 2, none⟩ = some u2 ∧ w'.cell? ⟨(ad'.add (i * 5)).block, (ad'.add (i * 5)).off + 3, none⟩ = some u3 ∧ w'.cell? ⟨(ad'.add (i * 5)).block, (ad'.add (i * 5)).off + 4, none⟩ = some u4) (first | go_keep | exact HKK.out) (first | (go_at_call 17; refine (HW2.out _ hW0.drew).mono ?_; rintro e w1 ⟨rfl, hw1⟩; have HKK : Hid ((fun w' => w'.cell? ⟨w.heap.size, 4, none⟩ = some (.slice (some ad) ns.length cc) ∧ w'.cell? ⟨w.heap.size + 1, 4, none⟩ = some (.slice (some ad') ns'.length cc') ∧ w'.cell? (ad.add (i * 5)) = some v0 ∧ w'.cell? ⟨(ad.add (i * 5)).block, (ad.add (i * 5)).off + 1, none⟩ = some v1 ∧ w'.cell? ⟨(ad.add (i * 5)).block, (ad.add (i * 5)).off + 2, none⟩ = some v2 ∧ w'.cell? ⟨(ad.add (i * 5)).block, (ad.add (i * 5)).off + 3, none⟩ = some v3 ∧ w'.cell? ⟨(ad.add (i * 5)).block, (ad.add (i * 5)).off + 4, none⟩ = some v4 ∧ w'.cell? (ad'.add (i * 5)) = some u0 ∧ w'.cell? ⟨(ad'.add (i * 5)).block, (ad'.add (i * 5)).off + 1, none⟩ = some u1 ∧ w'.cell? ⟨(ad'.add (i * 5)).block, (ad'.add (i * 5)).off + 2, none⟩ = some u2 ∧ w'.cell? ⟨(ad'.add (i * 5)).block, (ad'.add (i * 5)).off + 3, none⟩ = some u3 ∧ w'.cell? ⟨(ad'.add (i * 5)).block, (ad'.add (i * 5)).off + 4, none⟩ = some u4) w1) := (by show _ ∧ _; obtain ⟨y0, y1, y2, y3, y4, y5, y6, y7, y8, y9, y10, y11⟩ := HK.out; exact ⟨(hw1.cell (by simp; omega)).trans y0, (hw1.cell (by simp; omega)).trans y1, (hw1.cell (by simp [block_of_add]; omega)).trans y2, (hw1.cell (by simp [block_of_add]; omega)).trans y3, (hw1.cell (by simp [block_of_add]; omega)).trans y4, (hw1.cell (by simp [block_of_add]; omega)).trans y5, (hw1.cell (by simp [block_of_add]; omega)).trans y6, (hw1.cell (by simp [block_of_add]; omega)).trans y7, (hw1.cell (by simp [block_of_add]; omega)).trans y8, (hw1.cell (by simp [block_of_add]; omega)).trans y9, (hw1.cell (by simp [block_of_add]; omega)).trans y10, (hw1.cell (by simp [block_of_add]; omega)).trans y11⟩); replace hw1 := hW0.drew.trans hw1))
            clear c4 d4 e0 e1' e2' e3' e4' f0 f1 f2 f3 f4
            cases b with
            | false =>
              have HE : Hid (V = false) := by show _ = _; rw [hv.out, HST.out]; rfl
              go_wp2_with fail
              go_ret
              exact ⟨by rw [HE.out]; rfl, hW.trans (hw1.mono (by omega))⟩
            | true =>
              have HE : Hid (V = sameL (ns.drop (i + 1)) (ns'.drop (i + 1))) := by show _ = _; rw [hv.out, HST.out, Bool.true_and]
              go_wp2_with fail
              go_roundw
              case rel => exact ⟨i + 1, by omega, by go_num, HE, hblk.below hw1 (by omega), hblk'.below hw1 (by omega), hW.trans (hw1.mono (by omega)), by have := hw1.size; omega⟩
              case measure => simp [intOf]; omega
          · have HE : Hid (V = true) := by
              show _ = _
              rw [hv.out, List.drop_eq_nil_of_le (by omega)]
              unfold sameL; rfl
            go_wp2_with fail
            go_ret
            exact ⟨by rw [HE.out]; rfl, hW⟩
end Go.Proofs.YtofkdeojabongaaDoor
