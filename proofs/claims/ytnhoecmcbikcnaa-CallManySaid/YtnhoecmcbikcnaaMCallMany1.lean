/- Texts of one seat, one behind the other: Ck0, Ck0b, Ck0c, Ck1, Ck2, Ck3, Ck4, Ck5, Mn0, Cr0, Ob0, Cr1, Cs, Ck6, Mn1. No condition. -/
import Derived.Test.YtnhoecmcbikcnaaQ9
import Derived.Deep.RegionWith
import Derived.Deep.DeepCutAuto
/-! What call.Read asks of nodes: whether one is odd, of three kinds, known; slices.EqualFunc, IndexFunc, ContainsFunc. -/
namespace Go.Proofs.Ytnhoecmcbikcnaa
open Go.RowKit Go.PlainAid
set_option linter.unusedVariables false
set_option linter.unusedSimpArgs false
def Nd.kind : Nd → Int
  | .mk k _ _ _ _ => k
def Nd.kids : Nd → List Nd
  | .mk _ _ _ _ ns => ns
def Nd.num : Nd → Int
  | .mk _ n _ _ _ => n
def Nd.text : Nd → ByteArray
  | .mk _ _ t _ _ => t
def Nd.keys : Nd → List ByteArray
  | .mk _ _ _ ks _ => ks
theorem NdIs.open_ {w : World} {B : Nat} {n : Nd} {cs : List Value} (h : NdIs w B n cs) : ∃ (A : Option Addr) (ck : Nat) (A2 : Option Addr) (c : Nat) (xs : List Value), cs = [.int .i64 n.kind, .int .i64 n.num, .string n.text, .slice A n.keys.length ck, .slice A2 n.kids.length c] ∧
      Reads w B 1 A n.keys.length (n.keys.map Value.string) ∧ Reads w B 5 A2 n.kids.length xs ∧ NdsIs w B n.kids xs ∧
      I64 n.kind ∧ I64 n.num ∧ n.text.size ≤ maxLen ∧ (∀ s ∈ n.keys, s.size ≤ maxLen) ∧ n.keys.length ≤ maxLen ∧ n.kids.length ≤ maxLen := by
  cases n
  unfold NdIs at h
  exact h
def knownS (s : ByteArray) : Bool := s.toList == [117, 114, 110, 58, 105, 101, 116, 102, 58, 112, 97, 114, 97, 109, 115, 58, 106, 109, 97, 112, 58, 99, 111, 114, 101] || s.toList == [117, 114, 110, 58, 105, 101, 116, 102, 58, 112, 97, 114, 97, 109, 115, 58, 106, 109, 97, 112, 58, 109, 97, 105, 108]
/-- a closure of one node, as a contract -/
def FnN (f : Nat) (vs : Array Value) (b : Bool) (w : World) : Prop := Calls Try.prog f #[.agg vs] w (BoolBel b w)
def FnNI (f : Nat) (vs : Array Value) (k : Int) (b : Bool) (w : World) : Prop := Calls Try.prog f #[.agg vs, .int .i64 k] w (BoolBel b w)
set_option maxRecDepth 100000 in
theorem kRead1_any (n : Nd) (cs : List Value) (w : World) (B : Nat) (hn : NdIs w B n cs) : FnN 31 cs.toArray (n.kind != 5) w := by
  obtain ⟨A, ck, A2, cc, xs, rfl, _⟩ := hn.open_
  have hW := Below.refl w.heap.size w
  generalize n.kind = k at *
  show Calls Try.prog 31 #[.agg #[_, _, _, _, _]] w (BoolBel _ w)
  go_enter Try.func31, Try.ntmps31
  go_wp2_with fail
  go_ret
  exact ⟨rfl, hW.alloc (Nat.le_refl _) _⟩
set_option maxRecDepth 100000 in
theorem kkinds1_any (n : Nd) (cs : List Value) (w : World) (B : Nat) (hn : NdIs w B n cs) (j : Int) : FnNI 54 cs.toArray j (n.kind == j) w := by
  obtain ⟨A, ck, A2, cc, xs, rfl, _⟩ := hn.open_
  have hW := Below.refl w.heap.size w
  generalize n.kind = k at *
  show Calls Try.prog 54 #[.agg #[_, _, _, _, _], _] w (BoolBel _ w)
  go_enter Try.func54, Try.ntmps54
  go_wp2_with fail
  go_ret
  exact ⟨rfl, hW.alloc (Nat.le_refl _) _⟩
set_option maxRecDepth 100000 in
theorem kknown_any (s : ByteArray) (w : World) : Calls Try.prog 36 #[.string s] w fun e w' => e = .returned (.bool (knownS s)) ∧ w = w' := by
  unfold knownS
  cases h1 : (s.toList == [117, 114, 110, 58, 105, 101, 116, 102, 58, 112, 97, 114, 97, 109, 115, 58, 106, 109, 97, 112, 58, 99, 111, 114, 101]) with
  | true =>
    go_enter Try.func36, Try.ntmps36
    go_wp2_with fail
    go_ret
    exact ⟨rfl, rfl⟩
  | false =>
    go_enter Try.func36, Try.ntmps36
    go_wp2_with fail
    go_ret
    exact ⟨rfl, rfl⟩
set_option maxRecDepth 100000 in
theorem kRead3_any (n : Nd) (cs : List Value) (w : World) (B : Nat) (hn : NdIs w B n cs) : FnN 35 cs.toArray (!knownS n.text) w := by
  obtain ⟨A, ck, A2, cc, xs, rfl, _⟩ := hn.open_
  have hW := Below.refl w.heap.size w
  generalize n.text = t at *
  show Calls Try.prog 35 #[.agg #[_, _, _, _, _]] w (BoolBel _ w)
  go_enter Try.func35, Try.ntmps35
  go_wp2_with fail
  refine (kknown_any t _).mono ?_; rintro e w1 ⟨rfl, hw⟩; obtain rfl : _ = w1 := hw
  go_wp2_with fail
  go_ret
  exact ⟨rfl, hW.alloc (Nat.le_refl _) _⟩
/-- do nodes have these kinds, one by one -/
def eqK : List Nd → List Int → Bool
  | [], [] => true
  | n :: ns, k :: ks => (n.kind == k) && eqK ns ks
  | _, _ => false
theorem eqK_len : ∀ (ns : List Nd) (ks : List Int), ns.length ≠ ks.length → eqK ns ks = false
  | [], [], h => absurd rfl h
  | [], k :: ks, h => rfl
  | n :: ns, [], h => rfl
  | n :: ns, k :: ks, h => by unfold eqK; rw [eqK_len ns ks (by simpa using h), Bool.and_false]
theorem eqK_at (ns : List Nd) (ks : List Int) (i : Nat) (n : Nd) (k : Int) (h : ns[i]? = some n) (h2 : ks[i]? = some k) : eqK (ns.drop i) (ks.drop i) = ((n.kind == k) && eqK (ns.drop (i + 1)) (ks.drop (i + 1))) := by
  rw [List.drop_eq_getElem_cons (List.getElem?_eq_some_iff.1 h).1, (List.getElem?_eq_some_iff.1 h).2, List.drop_eq_getElem_cons (List.getElem?_eq_some_iff.1 h2).1, (List.getElem?_eq_some_iff.1 h2).2]
  rfl
theorem Reads.intAt {w : World} {B : Nat} {A : Option Addr} {ks : List Int} (h : Reads w B 1 A ks.length (ks.map (Value.int .i64))) {i : Nat} (hi : i < ks.length) : ∃ ad k, A = some ad ∧ ad.block < B ∧ ks[i]? = some k ∧ w.cell? (ad.add i) = some (.int .i64 k) := by
  obtain ⟨ad, u, e, hb, hu, hc⟩ := h.at_ hi
  rw [List.getElem?_map, List.getElem?_eq_getElem hi] at hu
  injection hu with hu
  exact ⟨ad, ks[i], e, hb, List.getElem?_eq_getElem hi, by rw [hu]; exact hc⟩
set_option maxRecDepth 100000 in
set_option maxHeartbeats 1000000 in
theorem sEqI_any (ns : List Nd) (ks : List Int) (A A' : Option Addr) (ck ck' : Nat) (xs : List Value) (w : World) (B : Nat) (hks : Reads w B 5 A ns.length xs) (hks' : Reads w B 1 A' ks.length (ks.map (Value.int .i64))) (hns : NdsIs w B ns xs) (hB : B ≤ w.heap.size) (hk : ns.length ≤ 9223372036854775807) (hk' : ks.length ≤ 9223372036854775807) :
    Calls Try.prog 53 #[.slice A ns.length ck, .slice A' ks.length ck', .func (.func 54) #[] #[]] w (BoolBel (eqK ns ks) w) := by
  obtain ⟨V, hV⟩ : ∃ V, V = eqK ns ks := ⟨_, rfl⟩
  rw [← hV]
  have hW := Below.refl w.heap.size w
  by_cases e4 : ns.length = ks.length
  case neg =>
    have HE : Hid (V = false) := by show _ = _; rw [hV, eqK_len _ _ e4]
    have n4 : ((ns.length : Int) != (ks.length : Int)) = true := by rw [bne_iff_ne]; omega
    clear hV e4 hks hks' hns
    go_enter Try.func53, Try.ntmps53
    go_wp2_with fail
    go_ret
    exact ⟨by rw [HE.out]; rfl, hW⟩
  have n4 : ((ns.length : Int) != (ks.length : Int)) = false := by rw [bne_eq_false_iff_eq]; omega
  have l4 := Lib.hid e4
  have HV2 : Hid (V = eqK (ns.drop 0) (ks.drop 0)) := hV
  clear hV e4
  have HXS := Lib.hid hks
  have HXS' := Lib.hid hks'
  have HNS := Lib.hid hns
  clear hks hks' hns
  go_enter Try.func53, Try.ntmps53
  go_wp2_with fail
  go_loopw [17] (fun t5 wr => ∃ (i : Nat), i ≤ ns.length ∧ t5 = .int .i64 i ∧ Hid (V = eqK (ns.drop i) (ks.drop i)) ∧ Below w.heap.size w wr) (fun t5 _ => ns.length - (intOf t5).toNat)
  case atStart => exact ⟨0, by omega, rfl, HV2, hW⟩
  case round =>
    clear hW
    obtain ⟨i, hi, rfl, hv, hW⟩ := hrel
    obtain ⟨wo, rfl⟩ : ∃ wo : World, wo = wr := ⟨_, rfl⟩
    have hsz := hW.size
    by_cases hlt : i < ns.length
    · have hlt' : i < ks.length := by rw [← l4.out]; exact hlt
      have hkeep : ∀ p : Addr, p.block < B → wo.cell? p = w.cell? p := fun p hp => hW.cell (by omega)
      obtain ⟨ad, n, v0, v1, v2, v3, v4, rfl, hadb, hni, hnd, e0, e1, e2, e3, e4⟩ := (HXS.out.keep hkeep).nd (NdsIs.keep hkeep _ _ HNS.out) hlt
      obtain ⟨ad', k, rfl, hadb', hki, f0⟩ := (HXS'.out.keep hkeep).intAt hlt'
      obtain ⟨x0, x1, x2, x3, x4, x5, x6, x7, x8, rfl, rfl, rfl, rfl, rfl⟩ := hnd.form
      have HST := Lib.hid (eqK_at ns ks i n k hni hki)
      have HW2 : Hid (∀ w', Below wo.heap.size wo w' → FnNI 54 #[.int .i64 x0, .int .i64 x1, .string x2, .slice x3 x4 x5, .slice x6 x7 x8] k (n.kind == k) w') := fun w' hb =>
        kkinds1_any n [.int .i64 x0, .int .i64 x1, .string x2, .slice x3 x4 x5, .slice x6 x7 x8] w' B (hnd.below (hb.mono (by omega))) k
      have hW0 := Below.refl wo.heap.size wo
      have q1 : (ad.add (i * 5)).block < wo.heap.size := by rw [block_of_add]; omega
      have q2 : (ad'.add i).block < wo.heap.size := by rw [block_of_add]; omega
      have q3 : ¬ (ad'.add i).block = wo.heap.size := by omega
      clear hni hnd hkeep hki
      generalize (n.kind == k) = b at *
      go_wp2_with fail
      refine (HW2.out _ (hW0.alloc (Nat.le_refl _) _)).mono ?_; rintro e w1 ⟨rfl, hw1⟩
      replace hw1 := nextA hW0 hw1
      clear e0 e1 e2 e3 e4 f0
      cases b with
      | false =>
        have HE : Hid (V = false) := by show _ = _; rw [hv.out, HST.out]; rfl
        go_wp2_with fail
        go_ret
        exact ⟨by rw [HE.out]; rfl, hW.trans (hw1.mono (by omega))⟩
      | true =>
        have HE : Hid (V = eqK (ns.drop (i + 1)) (ks.drop (i + 1))) := by show _ = _; rw [hv.out, HST.out, Bool.true_and]
        go_wp2_with fail
        go_roundw
        case rel => exact ⟨i + 1, by omega, by go_num, HE, hW.trans (hw1.mono (by omega))⟩
        case measure => simp [intOf]; omega
    · have HE : Hid (V = true) := by
        have h4 := l4.out
        show _ = _
        rw [hv.out, List.drop_eq_nil_of_le (by omega), List.drop_eq_nil_of_le (by omega)]
        rfl
      go_wp2_with fail
      go_ret
      exact ⟨by rw [HE.out]; rfl, hW⟩
def kindsK (n : Nd) (l : List Int) : Bool := n.kind == 6 && eqK n.kids l
set_option maxRecDepth 100000 in
set_option maxHeartbeats 1000000 in
theorem kkinds_any (n : Nd) (cs : List Value) (ks : List Int) (A' : Option Addr) (ck' : Nat) (w : World) (B : Nat) (hn : NdIs w B n cs) (hks' : Reads w B 1 A' ks.length (ks.map (Value.int .i64))) (hB : B ≤ w.heap.size) (hk' : ks.length ≤ 9223372036854775807) :
    Calls Try.prog 33 #[.agg cs.toArray, .slice A' ks.length ck'] w (BoolBel (kindsK n ks) w) := by
  obtain ⟨A, ck, A2, cc, xs, rfl, _, h2, h3, _, _, _, _, _, h4⟩ := hn.open_
  have hW := Below.refl w.heap.size w
  have HE : Hid (∀ w', Below w.heap.size w w' → Calls Try.prog 53 #[.slice A2 n.kids.length cc, .slice A' ks.length ck', .func (.func 54) #[] #[]] w' (BoolBel (eqK n.kids ks) w')) := fun w' hb =>
    sEqI_any n.kids ks A2 A' cc ck' xs w' B (h2.keep fun p hp => hb.cell (by omega)) (hks'.keep fun p hp => hb.cell (by omega)) (NdsIs.keep (fun p hp => hb.cell (by omega)) _ _ h3) (by have := hb.size; omega) h4 hk'
  show Calls Try.prog 33 #[.agg #[_, _, _, _, _], _] w (BoolBel _ w)
  obtain ⟨V, hV⟩ : ∃ V, V = kindsK n ks := ⟨_, rfl⟩
  rw [← hV]
  have HV := Lib.hid hV
  clear h2 h3 hks' hV
  generalize hq : eqK n.kids ks = q at *
  have HQ := Lib.hid hq
  clear hq
  by_cases h6 : n.kind = 6
  · have e6 : (n.kind == 6) = true := by rw [beq_iff_eq]; exact h6
    have E : Hid (V = q) := by show _ = _; rw [HV.out]; unfold kindsK; rw [e6, HQ.out]; rfl
    clear h6
    go_enter Try.func33, Try.ntmps33
    go_wp2_with fail
    refine (HE.out _ (hW.alloc (Nat.le_refl _) _)).mono ?_; rintro e w1 ⟨rfl, hw1⟩
    replace hw1 := nextA hW hw1
    go_wp2_with fail
    go_ret
    exact ⟨by rw [E.out]; rfl, hw1⟩
  · have e6 : (n.kind == 6) = false := by rw [beq_eq_false_iff_ne]; exact h6
    have E : Hid (V = false) := by show _ = _; rw [HV.out]; unfold kindsK; rw [e6]; rfl
    clear h6
    go_enter Try.func33, Try.ntmps33
    go_wp2_with fail
    go_ret
    exact ⟨by rw [E.out]; rfl, hW.alloc (Nat.le_refl _) _⟩
end Go.Proofs.Ytnhoecmcbikcnaa
/-! A call's array has its three kinds. -/
namespace Go.Proofs.Ytnhoecmcbikcnaa
open Go.RowKit Go.PlainAid
set_option linter.unusedVariables false
set_option linter.unusedSimpArgs false
theorem ints_reads (w : World) (g : Nat) (ks : List Int) (h : Blk w g 3 (ks.map (Value.int .i64)).toArray) : Reads w (g + 1) 1 (some ⟨g, 0, none⟩) ks.length (ks.map (Value.int .i64)) := by
  refine ⟨by simp, fun _ => ⟨_, rfl, by simp, fun j u hj => ?_⟩⟩
  have e : (⟨g, 0, none⟩ : Addr).add j = ⟨g, j, none⟩ := by unfold Addr.add; split <;> simp_all
  rw [e, h.cell]
  simpa using hj
set_option maxRecDepth 100000 in
set_option maxHeartbeats 400000 in
theorem kRead2_any (n : Nd) (cs : List Value) (w : World) (B : Nat) (hn : NdIs w B n cs) (hB : B ≤ w.heap.size) : FnN 32 cs.toArray (!kindsK n [5, 7, 5]) w := by
  have hn2 := hn
  obtain ⟨A, ck, A2, cc, xs, rfl, _⟩ := hn.open_
  have hW := Below.refl w.heap.size w
  have hb1 := hW.alloc (Nat.le_refl _) (.cells #[.int .i64 n.kind, .int .i64 n.num, .string n.text, .slice A n.keys.length ck, .slice A2 n.kids.length cc] 27)
  have hb2 := hb1.alloc hb1.size (.cells #[.int .i64 5, .int .i64 7, .int .i64 5] 3)
  have HK : Hid (Calls Try.prog 33 #[.agg #[.int .i64 n.kind, .int .i64 n.num, .string n.text, .slice A n.keys.length ck, .slice A2 n.kids.length cc], .slice (some ⟨w.heap.size + 1, 0, none⟩) 3 3] ((w.alloc (.cells #[.int .i64 n.kind, .int .i64 n.num, .string n.text, .slice A n.keys.length ck, .slice A2 n.kids.length cc] 27)).alloc (.cells #[.int .i64 5, .int .i64 7, .int .i64 5] 3)) (BoolBel (kindsK n [5, 7, 5]) ((w.alloc (.cells #[.int .i64 n.kind, .int .i64 n.num, .string n.text, .slice A n.keys.length ck, .slice A2 n.kids.length cc] 27)).alloc (.cells #[.int .i64 5, .int .i64 7, .int .i64 5] 3)))) := by
    have hbk : Blk ((w.alloc (.cells #[.int .i64 n.kind, .int .i64 n.num, .string n.text, .slice A n.keys.length ck, .slice A2 n.kids.length cc] 27)).alloc (.cells #[.int .i64 5, .int .i64 7, .int .i64 5] 3)) (w.heap.size + 1) 3 (([5, 7, 5] : List Int).map (Value.int .i64)).toArray := by
      have := Blk.new (w.alloc (.cells #[.int .i64 n.kind, .int .i64 n.num, .string n.text, .slice A n.keys.length ck, .slice A2 n.kids.length cc] 27)) 3 #[.int .i64 5, .int .i64 7, .int .i64 5]
      rw [show (w.alloc (.cells #[.int .i64 n.kind, .int .i64 n.num, .string n.text, .slice A n.keys.length ck, .slice A2 n.kids.length cc] 27)).heap.size = w.heap.size + 1 by simp] at this
      exact this
    have HN : NdIs ((w.alloc (.cells #[.int .i64 n.kind, .int .i64 n.num, .string n.text, .slice A n.keys.length ck, .slice A2 n.kids.length cc] 27)).alloc (.cells #[.int .i64 5, .int .i64 7, .int .i64 5] 3)) (w.heap.size + 1 + 1) n [.int .i64 n.kind, .int .i64 n.num, .string n.text, .slice A n.keys.length ck, .slice A2 n.kids.length cc] := NdIs.more (by omega) _ _ (hn2.below (hb2.mono hB))
    exact kkinds_any n _ [5, 7, 5] (some ⟨w.heap.size + 1, 0, none⟩) 3 _ (w.heap.size + 1 + 1) HN (ints_reads _ _ [5, 7, 5] hbk) (by simp) (by simp)
  have HB2 := Lib.hid hb2
  show Calls Try.prog 32 #[.agg #[_, _, _, _, _]] w (BoolBel _ w)
  clear hn hn2 hb1 hb2
  generalize kindsK n [5, 7, 5] = b at *
  go_enter Try.func32, Try.ntmps32
  go_wp2_with fail
  refine HK.out.mono ?_; rintro e w1 ⟨rfl, hw1⟩
  have HW1 := Lib.hid (nextB HB2.out hw1)
  clear hw1
  go_wp2_with fail
  go_ret
  exact ⟨rfl, HW1.out⟩
end Go.Proofs.Ytnhoecmcbikcnaa
/-! slices.IndexFunc, ContainsFunc of call.Read's closures. -/
namespace Go.Proofs.Ytnhoecmcbikcnaa
open Go.RowKit Go.PlainAid
set_option linter.unusedVariables false
set_option linter.unusedSimpArgs false
theorem any_at (ns : List Nd) (p : Nd → Bool) (i : Nat) (n : Nd) (h : ns[i]? = some n) : (ns.drop i).any p = (p n || (ns.drop (i + 1)).any p) := by
  rw [List.drop_eq_getElem_cons (List.getElem?_eq_some_iff.1 h).1, (List.getElem?_eq_some_iff.1 h).2, List.any_cons]
set_option maxRecDepth 100000 in
set_option maxHeartbeats 1000000 in
theorem sIndexFunc_kRead1 (p : Nd → Bool) (ns : List Nd) (A : Option Addr) (cc : Nat) (xs : List Value) (w : World) (B : Nat) (hxs : Reads w B 5 A ns.length xs) (hns : NdsIs w B ns xs) (hB : B ≤ w.heap.size) (hk : ns.length ≤ 9223372036854775807)
    (HIH : Hid (∀ (n : Nd) (cs : List Value) (w' : World), NdIs w' B n cs → B ≤ w'.heap.size → FnN 31 cs.toArray (p n) w')) :
    Calls Try.prog 55 #[.slice A ns.length cc, .func (.func 31) #[] #[]] w (IdxPost (!ns.any p) w) := by
  have hW := Below.refl w.heap.size w
  obtain ⟨V, hV⟩ : ∃ V, V = ns.any p := ⟨_, rfl⟩
  rw [← hV]
  have HV : Hid (V = (ns.drop 0).any p) := hV
  have HXS := Lib.hid hxs
  have HNS := Lib.hid hns
  clear hxs hns hV
  go_enter Try.func55, Try.ntmps55
  go_wp2_with fail
  go_loopw [8] (fun t wr => ∃ (i : Nat), i ≤ ns.length ∧ t = .int .i64 i ∧ Hid (V = (ns.drop i).any p) ∧ Below w.heap.size w wr) (fun t _ => ns.length - (intOf t).toNat)
  case atStart => exact ⟨0, by omega, rfl, HV, hW⟩
  case round =>
    clear hW
    obtain ⟨i, hi, rfl, hv, hW⟩ := hrel
    obtain ⟨wo, rfl⟩ : ∃ wo : World, wo = wr := ⟨_, rfl⟩
    have hsz := hW.size
    by_cases hlt : i < ns.length
    · have hkeep : ∀ p : Addr, p.block < B → wo.cell? p = w.cell? p := fun p hp => hW.cell (by omega)
      obtain ⟨ad, n, v0, v1, v2, v3, v4, rfl, hadb, hni, hnd, e0, e1, e2, e3, e4⟩ := (HXS.out.keep hkeep).nd (NdsIs.keep hkeep _ _ HNS.out) hlt
      have HSTEP := Lib.hid (any_at ns p i n hni)
      have HO : Hid (∀ w', Below wo.heap.size wo w' → FnN 31 #[v0, v1, v2, v3, v4] (p n) w') := fun w' hb =>
        HIH.out n [v0, v1, v2, v3, v4] w' (hnd.below (hb.mono (by omega))) (by have := hb.size; omega)
      clear hni hnd hkeep
      generalize p n = b at *
      go_wp2_with fail
      refine (HO.out _ (Below.refl _ _)).mono ?_; rintro e w1 ⟨rfl, hw1⟩
      cases b with
      | true =>
        have HE : Hid (V = true) := by show _ = _; rw [hv.out, HSTEP.out]; rfl
        go_wp2_with fail
        go_ret
        exact ⟨_, rfl, by rw [HE.out]; simp, hW.trans (hw1.mono hsz)⟩
      | false =>
        have HE : Hid (V = (ns.drop (i + 1)).any p) := by show _ = _; rw [hv.out, HSTEP.out]; rfl
        go_wp2_with fail
        go_roundw
        case rel => exact ⟨i + 1, by omega, by go_num, HE, hW.trans (hw1.mono hsz)⟩
        case measure => simp [intOf]; omega
    · have HE : Hid (V = false) := by
        show _ = _
        rw [hv.out, List.drop_eq_nil_of_le (by omega)]; rfl
      go_wp2_with fail
      go_ret
      exact ⟨_, rfl, by rw [HE.out]; rfl, hW⟩
set_option maxRecDepth 100000 in
set_option maxHeartbeats 1000000 in
theorem sContainsFunc_kRead1 (p : Nd → Bool) (ns : List Nd) (A : Option Addr) (cc : Nat) (xs : List Value) (w : World) (B : Nat) (hxs : Reads w B 5 A ns.length xs) (hns : NdsIs w B ns xs) (hB : B ≤ w.heap.size) (hk : ns.length ≤ 9223372036854775807)
    (HIH : Hid (∀ (n : Nd) (cs : List Value) (w' : World), NdIs w' B n cs → B ≤ w'.heap.size → FnN 31 cs.toArray (p n) w')) :
    Calls Try.prog 34 #[.slice A ns.length cc, .func (.func 31) #[] #[]] w (BoolBel (ns.any p) w) := by
  have HC := Lib.hid (sIndexFunc_kRead1 p ns A cc xs w B hxs hns hB hk HIH)
  clear hxs hns HIH
  generalize ns.any p = V at *
  go_enter Try.func34, Try.ntmps34
  go_wp2_with fail
  refine HC.out.mono ?_; rintro e w1 ⟨v, rfl, hv, hw1⟩
  go_wp2_with fail
  go_ret
  exact ⟨by first | (rw [← Bool.not_not (b := V), ← hv]; rfl) | (rw [hv]; simp) | (simp [hv]), hw1⟩
set_option maxRecDepth 100000 in
set_option maxHeartbeats 1000000 in
theorem sIndexFunc_kRead2 (p : Nd → Bool) (ns : List Nd) (A : Option Addr) (cc : Nat) (xs : List Value) (w : World) (B : Nat) (hxs : Reads w B 5 A ns.length xs) (hns : NdsIs w B ns xs) (hB : B ≤ w.heap.size) (hk : ns.length ≤ 9223372036854775807)
    (HIH : Hid (∀ (n : Nd) (cs : List Value) (w' : World), NdIs w' B n cs → B ≤ w'.heap.size → FnN 32 cs.toArray (p n) w')) :
    Calls Try.prog 55 #[.slice A ns.length cc, .func (.func 32) #[] #[]] w (IdxPost (!ns.any p) w) := by
  have hW := Below.refl w.heap.size w
  obtain ⟨V, hV⟩ : ∃ V, V = ns.any p := ⟨_, rfl⟩
  rw [← hV]
  have HV : Hid (V = (ns.drop 0).any p) := hV
  have HXS := Lib.hid hxs
  have HNS := Lib.hid hns
  clear hxs hns hV
  go_enter Try.func55, Try.ntmps55
  go_wp2_with fail
  go_loopw [8] (fun t wr => ∃ (i : Nat), i ≤ ns.length ∧ t = .int .i64 i ∧ Hid (V = (ns.drop i).any p) ∧ Below w.heap.size w wr) (fun t _ => ns.length - (intOf t).toNat)
  case atStart => exact ⟨0, by omega, rfl, HV, hW⟩
  case round =>
    clear hW
    obtain ⟨i, hi, rfl, hv, hW⟩ := hrel
    obtain ⟨wo, rfl⟩ : ∃ wo : World, wo = wr := ⟨_, rfl⟩
    have hsz := hW.size
    by_cases hlt : i < ns.length
    · have hkeep : ∀ p : Addr, p.block < B → wo.cell? p = w.cell? p := fun p hp => hW.cell (by omega)
      obtain ⟨ad, n, v0, v1, v2, v3, v4, rfl, hadb, hni, hnd, e0, e1, e2, e3, e4⟩ := (HXS.out.keep hkeep).nd (NdsIs.keep hkeep _ _ HNS.out) hlt
      have HSTEP := Lib.hid (any_at ns p i n hni)
      have HO : Hid (∀ w', Below wo.heap.size wo w' → FnN 32 #[v0, v1, v2, v3, v4] (p n) w') := fun w' hb =>
        HIH.out n [v0, v1, v2, v3, v4] w' (hnd.below (hb.mono (by omega))) (by have := hb.size; omega)
      clear hni hnd hkeep
      generalize p n = b at *
      go_wp2_with fail
      refine (HO.out _ (Below.refl _ _)).mono ?_; rintro e w1 ⟨rfl, hw1⟩
      cases b with
      | true =>
        have HE : Hid (V = true) := by show _ = _; rw [hv.out, HSTEP.out]; rfl
        go_wp2_with fail
        go_ret
        exact ⟨_, rfl, by rw [HE.out]; simp, hW.trans (hw1.mono hsz)⟩
      | false =>
        have HE : Hid (V = (ns.drop (i + 1)).any p) := by show _ = _; rw [hv.out, HSTEP.out]; rfl
        go_wp2_with fail
        go_roundw
        case rel => exact ⟨i + 1, by omega, by go_num, HE, hW.trans (hw1.mono hsz)⟩
        case measure => simp [intOf]; omega
    · have HE : Hid (V = false) := by
        show _ = _
        rw [hv.out, List.drop_eq_nil_of_le (by omega)]; rfl
      go_wp2_with fail
      go_ret
      exact ⟨_, rfl, by rw [HE.out]; rfl, hW⟩
set_option maxRecDepth 100000 in
set_option maxHeartbeats 1000000 in
theorem sContainsFunc_kRead2 (p : Nd → Bool) (ns : List Nd) (A : Option Addr) (cc : Nat) (xs : List Value) (w : World) (B : Nat) (hxs : Reads w B 5 A ns.length xs) (hns : NdsIs w B ns xs) (hB : B ≤ w.heap.size) (hk : ns.length ≤ 9223372036854775807)
    (HIH : Hid (∀ (n : Nd) (cs : List Value) (w' : World), NdIs w' B n cs → B ≤ w'.heap.size → FnN 32 cs.toArray (p n) w')) :
    Calls Try.prog 34 #[.slice A ns.length cc, .func (.func 32) #[] #[]] w (BoolBel (ns.any p) w) := by
  have HC := Lib.hid (sIndexFunc_kRead2 p ns A cc xs w B hxs hns hB hk HIH)
  clear hxs hns HIH
  generalize ns.any p = V at *
  go_enter Try.func34, Try.ntmps34
  go_wp2_with fail
  refine HC.out.mono ?_; rintro e w1 ⟨v, rfl, hv, hw1⟩
  go_wp2_with fail
  go_ret
  exact ⟨by first | (rw [← Bool.not_not (b := V), ← hv]; rfl) | (rw [hv]; simp) | (simp [hv]), hw1⟩
set_option maxRecDepth 100000 in
set_option maxHeartbeats 1000000 in
theorem sIndexFunc_kRead3 (p : Nd → Bool) (ns : List Nd) (A : Option Addr) (cc : Nat) (xs : List Value) (w : World) (B : Nat) (hxs : Reads w B 5 A ns.length xs) (hns : NdsIs w B ns xs) (hB : B ≤ w.heap.size) (hk : ns.length ≤ 9223372036854775807)
    (HIH : Hid (∀ (n : Nd) (cs : List Value) (w' : World), NdIs w' B n cs → B ≤ w'.heap.size → FnN 35 cs.toArray (p n) w')) :
    Calls Try.prog 55 #[.slice A ns.length cc, .func (.func 35) #[] #[]] w (IdxPost (!ns.any p) w) := by
  have hW := Below.refl w.heap.size w
  obtain ⟨V, hV⟩ : ∃ V, V = ns.any p := ⟨_, rfl⟩
  rw [← hV]
  have HV : Hid (V = (ns.drop 0).any p) := hV
  have HXS := Lib.hid hxs
  have HNS := Lib.hid hns
  clear hxs hns hV
  go_enter Try.func55, Try.ntmps55
  go_wp2_with fail
  go_loopw [8] (fun t wr => ∃ (i : Nat), i ≤ ns.length ∧ t = .int .i64 i ∧ Hid (V = (ns.drop i).any p) ∧ Below w.heap.size w wr) (fun t _ => ns.length - (intOf t).toNat)
  case atStart => exact ⟨0, by omega, rfl, HV, hW⟩
  case round =>
    clear hW
    obtain ⟨i, hi, rfl, hv, hW⟩ := hrel
    obtain ⟨wo, rfl⟩ : ∃ wo : World, wo = wr := ⟨_, rfl⟩
    have hsz := hW.size
    by_cases hlt : i < ns.length
    · have hkeep : ∀ p : Addr, p.block < B → wo.cell? p = w.cell? p := fun p hp => hW.cell (by omega)
      obtain ⟨ad, n, v0, v1, v2, v3, v4, rfl, hadb, hni, hnd, e0, e1, e2, e3, e4⟩ := (HXS.out.keep hkeep).nd (NdsIs.keep hkeep _ _ HNS.out) hlt
      have HSTEP := Lib.hid (any_at ns p i n hni)
      have HO : Hid (∀ w', Below wo.heap.size wo w' → FnN 35 #[v0, v1, v2, v3, v4] (p n) w') := fun w' hb =>
        HIH.out n [v0, v1, v2, v3, v4] w' (hnd.below (hb.mono (by omega))) (by have := hb.size; omega)
      clear hni hnd hkeep
      generalize p n = b at *
      go_wp2_with fail
      refine (HO.out _ (Below.refl _ _)).mono ?_; rintro e w1 ⟨rfl, hw1⟩
      cases b with
      | true =>
        have HE : Hid (V = true) := by show _ = _; rw [hv.out, HSTEP.out]; rfl
        go_wp2_with fail
        go_ret
        exact ⟨_, rfl, by rw [HE.out]; simp, hW.trans (hw1.mono hsz)⟩
      | false =>
        have HE : Hid (V = (ns.drop (i + 1)).any p) := by show _ = _; rw [hv.out, HSTEP.out]; rfl
        go_wp2_with fail
        go_roundw
        case rel => exact ⟨i + 1, by omega, by go_num, HE, hW.trans (hw1.mono hsz)⟩
        case measure => simp [intOf]; omega
    · have HE : Hid (V = false) := by
        show _ = _
        rw [hv.out, List.drop_eq_nil_of_le (by omega)]; rfl
      go_wp2_with fail
      go_ret
      exact ⟨_, rfl, by rw [HE.out]; rfl, hW⟩
set_option maxRecDepth 100000 in
set_option maxHeartbeats 1000000 in
theorem sContainsFunc_kRead3 (p : Nd → Bool) (ns : List Nd) (A : Option Addr) (cc : Nat) (xs : List Value) (w : World) (B : Nat) (hxs : Reads w B 5 A ns.length xs) (hns : NdsIs w B ns xs) (hB : B ≤ w.heap.size) (hk : ns.length ≤ 9223372036854775807)
    (HIH : Hid (∀ (n : Nd) (cs : List Value) (w' : World), NdIs w' B n cs → B ≤ w'.heap.size → FnN 35 cs.toArray (p n) w')) :
    Calls Try.prog 34 #[.slice A ns.length cc, .func (.func 35) #[] #[]] w (BoolBel (ns.any p) w) := by
  have HC := Lib.hid (sIndexFunc_kRead3 p ns A cc xs w B hxs hns hB hk HIH)
  clear hxs hns HIH
  generalize ns.any p = V at *
  go_enter Try.func34, Try.ntmps34
  go_wp2_with fail
  refine HC.out.mono ?_; rintro e w1 ⟨v, rfl, hv, hw1⟩
  go_wp2_with fail
  go_ret
  exact ⟨by first | (rw [← Bool.not_not (b := V), ← hv]; rfl) | (rw [hv]; simp) | (simp [hv]), hw1⟩
end Go.Proofs.Ytnhoecmcbikcnaa
/-! Plain words for call.Read: its answer as a function of the text, calls as they lie in memory. -/
namespace Go.Proofs.Ytnhoecmcbikcnaa
open Go.RowKit Go.PlainAid
set_option linter.unusedVariables false
set_option linter.unusedSimpArgs false
theorem gL_len : ∀ (ns : List Nd) (ks : List ByteArray), ns.length * 50 ≤ gL ks ns
  | [], ks => by simp [gL]
  | n :: ns, ks => by
    have := gL_len ns ks.tail
    have h4 : 40 ≤ gN n := by cases n; unfold gN; omega
    unfold gL
    rw [List.length_cons]
    omega
mutual
theorem size_good : ∀ (n : Nd) (deep : Int), goodN n → rightD n deep = true → gN n ≤ 10000000 → sizeOk n
  | .mk k num t ks ns, deep, hg, hr, hs => by
    unfold goodN at hg
    obtain ⟨h1, hk7, h2, h3, h4⟩ := hg
    rw [rightD_eq, Bool.and_eq_true] at hr
    obtain ⟨hb, hr⟩ := hr
    unfold gN at hs
    have hl := gL_len ns ks
    unfold bareF at hb
    simp only [Bool.and_eq_true, Bool.or_eq_true, beq_iff_eq] at hb
    have hks : ks.length ≤ 1000000 := by
      rcases hb.1.2 with h | h
      · have := hk7 h; omega
      · omega
    unfold sizeOk
    refine ⟨h1, h2, h3, ⟨hks, by omega⟩, ?_⟩
    by_cases h67 : k = 6 ∨ k = 7
    · refine sizeL_good ns ks (deep + 1) h4 ?_ (by omega)
      simp only [Bool.or_eq_true, Bool.and_eq_true, beq_iff_eq, decide_eq_true_eq] at hr
      rcases h67 with rfl | rfl
      · simp at hr; exact hr.2
      · simp at hr; exact hr.2
    · have : ns = [] := by
        rcases hb.2 with h | h
        · exact absurd h h67
        · exact List.eq_nil_of_length_eq_zero h
      subst this
      unfold sizeOkL; trivial
theorem sizeL_good : ∀ (ns : List Nd) (ks : List ByteArray) (deep : Int), goodL ns → rightLD ns deep = true → gL ks ns ≤ 10000000 → sizeOkL ns
  | [], ks, deep, h, hr, hs => by unfold sizeOkL; trivial
  | n :: ns, ks, deep, h, hr, hs => by
    unfold goodL at h
    unfold gL at hs
    unfold sizeOkL
    have h0 := rightLD_at (n :: ns) 0 n deep rfl
    rw [List.drop_zero, hr] at h0
    have h0 := (Bool.and_eq_true _ _).mp h0.symm
    exact ⟨size_good n deep h.1 h0.1 (by omega), sizeL_good ns ks.tail deep h.2 (by simpa using h0.2) (by omega)⟩
end
theorem parse_size {l : List UInt8} {n : Nd} (h : parseL l = .ok n) : sizeOk n := by
  obtain ⟨h1, h2, h3, _⟩ := parse_back h
  obtain ⟨g1, g2⟩ := gN_put n 0 h1
  exact size_good n 0 (g2 (by omega)) h1 (by omega)
/-- a call -/
structure Cl where
  name : ByteArray
  args : Nd
  id : ByteArray
def usingS : ByteArray := ⟨#[117, 115, 105, 110, 103]⟩
def callsS : ByteArray := ⟨#[109, 101, 116, 104, 111, 100, 67, 97, 108, 108, 115]⟩
def notJ : ByteArray := ⟨#[110, 111, 116, 74, 83, 79, 78]⟩
def notR : ByteArray := ⟨#[110, 111, 116, 82, 101, 113, 117, 101, 115, 116]⟩
def unkC : ByteArray := ⟨#[117, 110, 107, 110, 111, 119, 110, 67, 97, 112, 97, 98, 105, 108, 105, 116, 121]⟩
def limS : ByteArray := ⟨#[108, 105, 109, 105, 116]⟩
def oddN (n : Nd) : Bool := n.kind != 5
def noneN (n : Nd) : Bool := !kindsK n [5, 7, 5]
def unkN (n : Nd) : Bool := !knownS n.text
def clOf (n : Nd) : Cl := match n.kids with
  | [a, b, c] => ⟨a.text, b, c.text⟩
  | _ => ⟨⟨#[]⟩, nd0 0, ⟨#[]⟩⟩
/-- the calls of a value, or what is wrong with it -/
def readN (u c : Option Nd) : Except ByteArray (List Cl) :=
  if u.isSome = false then .error notR else if c.isSome = false then .error notR
  else if ((u.getD (nd0 0)).kind != 6) = true then .error notR else if ((c.getD (nd0 0)).kind != 6) = true then .error notR
  else if (u.getD (nd0 0)).kids.any oddN = true then .error notR else if (c.getD (nd0 0)).kids.any noneN = true then .error notR
  else if (u.getD (nd0 0)).kids.any unkN = true then .error unkC else if 16 < (c.getD (nd0 0)).kids.length then .error limS
  else .ok ((c.getD (nd0 0)).kids.map clOf)
def readK (n : Nd) : Except ByteArray (List Cl) := readN (findN n usingS) (findN n callsS)
def readL (l : List UInt8) : Except ByteArray (List Cl) := match parseL l with
  | .error _ => .error notJ
  | .ok n => readK n
def okL (r : Except ByteArray (List Cl)) : List Cl := match r with
  | .error _ => []
  | .ok l => l
def errS (r : Except ByteArray (List Cl)) : ByteArray := match r with
  | .error e => e
  | .ok _ => ⟨#[]⟩
/-- calls in memory -/
def ClsIs (w : World) (B : Nat) : List Cl → List Value → Prop
  | [], xs => xs = []
  | c :: l, xs => ∃ v ys, xs = .string c.name :: (v ++ .string c.id :: ys) ∧ NdIs w B c.args v ∧ ClsIs w B l ys
theorem ClsIs.keep {w w' : World} {B : Nat} (hk : ∀ p : Addr, p.block < B → w'.cell? p = w.cell? p) : ∀ (l : List Cl) (xs : List Value), ClsIs w B l xs → ClsIs w' B l xs
  | [], xs, h => h
  | c :: l, xs, h => by
    unfold ClsIs at h ⊢
    obtain ⟨v, ys, rfl, h2, h3⟩ := h
    exact ⟨v, ys, rfl, NdIs.keep hk _ _ h2, ClsIs.keep hk l ys h3⟩
theorem ClsIs.below {w w' : World} {B : Nat} {l : List Cl} {xs : List Value} (h : ClsIs w B l xs) (hb : Below B w w') : ClsIs w' B l xs := ClsIs.keep (fun p hp => hb.cell hp) l xs h
theorem ClsIs.more {w : World} {B B' : Nat} (hB : B ≤ B') : ∀ (l : List Cl) (xs : List Value), ClsIs w B l xs → ClsIs w B' l xs
  | [], xs, h => h
  | c :: l, xs, h => by
    unfold ClsIs at h ⊢
    obtain ⟨v, ys, rfl, h2, h3⟩ := h
    exact ⟨v, ys, rfl, NdIs.more hB _ _ h2, ClsIs.more hB l ys h3⟩
theorem ClsIs.nil {w : World} {B : Nat} : ClsIs w B [] [] := rfl
theorem ClsIs.snoc {w : World} {B : Nat} {a b : ByteArray} {n : Nd} {v : List Value} (hn : NdIs w B n v) : ∀ (l : List Cl) (xs : List Value), ClsIs w B l xs → ClsIs w B (l ++ [⟨a, n, b⟩]) (xs ++ .string a :: (v ++ [.string b]))
  | [], xs, h => by
    unfold ClsIs at h
    subst h
    exact ⟨v, [], rfl, hn, rfl⟩
  | c :: l, xs, h => by
    unfold ClsIs at h
    obtain ⟨u, ys, rfl, h2, h3⟩ := h
    refine ⟨u, ys ++ .string a :: (v ++ [.string b]), by simp, h2, ClsIs.snoc hn l ys h3⟩
theorem ClsIs.len {w : World} {B : Nat} : ∀ (l : List Cl) (xs : List Value), ClsIs w B l xs → xs.length = l.length * 7
  | [], xs, h => by unfold ClsIs at h; subst h; rfl
  | c :: l, xs, h => by
    unfold ClsIs at h
    obtain ⟨v, ys, rfl, h2, h3⟩ := h
    have := ClsIs.len l ys h3
    have := h2.len
    simp; omega
/-- what call.Read ends with -/
def ReadP (r : Except ByteArray (List Cl)) (w : World) (e : Ending) (w' : World) : Prop := ∃ (A : Option Addr) (c : Nat) (xs : List Value),
  e = .returned (.tuple #[.slice A (okL r).length c, .string (errS r)]) ∧ Reads w' w'.heap.size 7 A (okL r).length xs ∧ ClsIs w' w'.heap.size (okL r) xs ∧ Below w.heap.size w w'
theorem ReadP.err {r : Except ByteArray (List Cl)} {w w' : World} {s : ByteArray} (h : r = .error s) (hb : Below w.heap.size w w') : ReadP r w (.returned (.tuple #[.slice none 0 0, .string s])) w' := by
  subst h
  exact ⟨none, 0, [], rfl, Reads.none_, rfl, hb⟩
theorem kid3 {n : Nd} (h : noneN n = false) : ∃ a b c, n.kids = [a, b, c] ∧ n.kind = 6 ∧ a.kind = 5 ∧ b.kind = 7 ∧ c.kind = 5 := by
  unfold noneN kindsK at h
  rw [Bool.not_eq_false', Bool.and_eq_true, beq_iff_eq] at h
  obtain ⟨h6, h⟩ := h
  match hk : n.kids with
  | [] => rw [hk] at h; cases h
  | [a] => rw [hk] at h; simp [eqK] at h
  | [a, b] => rw [hk] at h; simp [eqK] at h
  | [a, b, c] =>
    rw [hk] at h
    simp only [eqK, Bool.and_eq_true, beq_iff_eq] at h
    exact ⟨a, b, c, rfl, h6, h.1, h.2.1, h.2.2.1⟩
  | a :: b :: c :: d :: l => rw [hk] at h; simp [eqK] at h
theorem any_get {ns : List Nd} {p : Nd → Bool} (h : ns.any p = false) {i : Nat} {n : Nd} (hi : ns[i]? = some n) : p n = false := by
  rw [List.any_eq_false] at h
  have := h n (List.mem_of_getElem? hi)
  simpa using this
theorem map_take {ns : List Nd} {i : Nat} {n : Nd} (h : ns[i]? = some n) : (ns.take (i + 1)).map clOf = (ns.take i).map clOf ++ [clOf n] := by
  obtain ⟨hl, he⟩ := List.getElem?_eq_some_iff.1 h
  rw [List.take_add_one, h]
  simp
theorem callInfo : (Try.prog.info? 45).map (fun i => (i.zero, i.size, i.bytes)) = some (some (.agg #[.string ⟨#[]⟩, .int .i64 0, .int .i64 0, .string ⟨#[]⟩, .slice none 0 0, .slice none 0 0, .string ⟨#[]⟩]), 7, 112) := by kernel_rfl
theorem step_pushCl {w : World} {ops : Array Oper} {o : Oper} {a : Act} {K : Act → World → Prop} {Q : Exit → Act → World → Prop} {E : Prop} (hgd : o.guard = none) (s x : Operand)
    (ho : o.op = .call { callee := .builtin .append, args := #[s, x], argTypes := #[36, 36] })
    (B : Nat) (v : Value) (n : Nat) (xs : List Value) (hs : a.eval s = v) (hown : w.ownsRow B 45 7 v n xs) (B2 : Nat) (A : Option Addr) (m c : Nat) (ys : List Value) (hr : Reads w B2 7 A m ys) (h1 : ∀ u ∈ ys, u.oneCell' = true)
    (hx : a.eval x = .slice A m c)
    (hlim : n + m ≤ 1000000000) (hB : B ≤ w.heap.size)
    (h : ∀ v' w', w'.ownsRow B 45 7 v' (n + m) (xs ++ ys) → w.grownBy w' v.ownBlock → K (a.put o.dst v') w') :
    if Region.wanted o (yielded ops a.tmps) = true then Oper.wp Try.prog o a w K Q else E := by
  have hw : Region.wanted o (yielded ops a.tmps) = true := by simp [Region.wanted, hgd]
  rw [if_pos hw]
  obtain ⟨i0, hi0, hz0, hz1, hz2⟩ := info_parts callInfo
  obtain ⟨v', w', h1, h2, h3, h4⟩ := run_append_any (P := Try.prog) w B 36 o.type 45 i0 _ 7 112 Try.underlying36 hi0 hz0 hz1 hz2 rfl (by omega) v n _ hown B2 _ m c _ hr
    h1 (by simp only [maxLen]; omega) (by omega) hB
  unfold Oper.wp execOp
  simp only [ho, resolve, invoke, builtin, Sem.run_bind, Sem.run_pure, Result.andThen_ok, List.map_toArray, List.map_cons, List.map_nil, hs, hx, h1]
  exact h v' w' h2 h3
theorem reads7 (w : World) (v0 v1 v2 v3 v4 v5 v6 : Value) : Reads (w.alloc (.cells #[v0, v1, v2, v3, v4, v5, v6] 45)) (w.heap.size + 1) 7 (some ⟨w.heap.size, 0, none⟩) 1 [v0, v1, v2, v3, v4, v5, v6] := by
  refine ⟨rfl, fun _ => ⟨_, rfl, by simp, fun j u hj => ?_⟩⟩
  have e : (⟨w.heap.size, 0, none⟩ : Addr).add j = ⟨w.heap.size, j, none⟩ := by unfold Addr.add; split <;> simp_all
  rw [e, World.cell?_alloc_mark]
  simpa using hj
end Go.Proofs.Ytnhoecmcbikcnaa
/-! The walk of call.Read: what it does behind two findings. -/
namespace Go.Proofs.Ytnhoecmcbikcnaa
open Go.RowKit Go.PlainAid
set_option linter.unusedVariables false
set_option linter.unusedSimpArgs false
theorem readL_err {l : List UInt8} {c : Int} (h : parseL l = .error c) : readL l = .error notJ := by unfold readL; rw [h]
theorem readL_ok {l : List UInt8} {n : Nd} (h : parseL l = .ok n) : readL l = readN (findN n usingS) (findN n callsS) := by unfold readL; rw [h]; rfl
theorem NdIs.cells (n : Nd) {w : World} {B : Nat} {c0 c1 : Int} {c2 : ByteArray} {c3 : Option Addr} {c4 c5 : Nat} {c6 : Option Addr} {c7 c8 : Nat} (h : NdIs w B n [.int .i64 c0, .int .i64 c1, .string c2, .slice c3 c4 c5, .slice c6 c7 c8]) :
    c0 = n.kind ∧ c2 = n.text ∧ c7 = n.kids.length ∧ ∃ xs, Reads w B 5 c6 n.kids.length xs ∧ NdsIs w B n.kids xs ∧ n.kids.length ≤ maxLen := by
  obtain ⟨A, ck, A2, c, xs, h1, _, h3, h4, _, _, _, _, _, h9⟩ := h.open_
  simp only [List.cons.injEq, Value.int.injEq, Value.string.injEq, Value.slice.injEq, and_true, true_and] at h1
  obtain ⟨e1, e2, e3, e4, e5, e6, e7⟩ := h1
  subst e5
  exact ⟨e1, e3, e6, xs, h3, h4, h9⟩
theorem kids15 {w : World} {B : Nat} {n a b c : Nd} {c0 c1 : Int} {c2 : ByteArray} {c3 : Option Addr} {c4 c5 : Nat} {c6 : Option Addr} {c7 c8 : Nat} (h : NdIs w B n [.int .i64 c0, .int .i64 c1, .string c2, .slice c3 c4 c5, .slice c6 c7 c8]) (hk : n.kids = [a, b, c]) :
    ∃ (kb ko : Nat) (a0 a1 : Int) (a2 : ByteArray) (a3 : Option Addr) (a4 a5 : Nat) (a6 : Option Addr) (a7 a8 : Nat), c6 = some ⟨kb, ko, none⟩ ∧ c7 = 3 ∧ kb < B ∧ NdIs w B b [.int .i64 a0, .int .i64 a1, .string a2, .slice a3 a4 a5, .slice a6 a7 a8] ∧
      w.cell? ⟨kb, ko + 2, none⟩ = some (.string a.text) ∧ w.cell? ⟨kb, ko + 5, none⟩ = some (.int .i64 a0) ∧ w.cell? ⟨kb, ko + 6, none⟩ = some (.int .i64 a1) ∧ w.cell? ⟨kb, ko + 7, none⟩ = some (.string a2) ∧ w.cell? ⟨kb, ko + 8, none⟩ = some (.slice a3 a4 a5) ∧ w.cell? ⟨kb, ko + 9, none⟩ = some (.slice a6 a7 a8) ∧ w.cell? ⟨kb, ko + 12, none⟩ = some (.string c.text) := by
  cases n with
  | mk k m t ks ns =>
    have hk2 : ns = [a, b, c] := hk
    subst hk2
    obtain ⟨hl, hq⟩ := kid_cells h
    obtain ⟨kb, ko, e, hb, hcell⟩ := hq (by simp)
    obtain ⟨ca, na, ha⟩ := hcell 0 a rfl
    obtain ⟨cb, nb, hbb⟩ := hcell 1 b rfl
    obtain ⟨cc, nc, hcc⟩ := hcell 2 c rfl
    obtain ⟨A3, k3, B3, l3, x3, eb, _⟩ := nb.open_
    subst eb
    obtain ⟨A1, k1, B1, l1, x1, ea, _⟩ := na.open_
    obtain ⟨A2, k2, B2, l2, x2, ec, _⟩ := nc.open_
    refine ⟨kb, ko, _, _, _, _, _, _, _, _, _, e, hl, hb, nb, ha 2 _ (by rw [ea]; rfl), hbb 0 _ rfl, hbb 1 _ rfl, hbb 2 _ rfl, hbb 3 _ rfl, hbb 4 _ rfl, hcc 2 _ (by rw [ec]; rfl)⟩
theorem readN_1 {c : Option Nd} {u : Option Nd} (h : u.isSome = false) : readN u c = .error notR := by unfold readN; rw [if_pos h]
theorem readN_2 {c : Option Nd} {u : Option Nd} (h1 : u.isSome = true) (h : c.isSome = false) : readN u c = .error notR := by unfold readN; rw [if_neg (by rw [h1]; simp), if_pos h]
def readM (U M : Nd) : Except ByteArray (List Cl) := if (U.kind != 6) = true then .error notR else if (M.kind != 6) = true then .error notR
  else if U.kids.any oddN = true then .error notR else if M.kids.any noneN = true then .error notR
  else if U.kids.any unkN = true then .error unkC else if 16 < M.kids.length then .error limS
  else .ok (M.kids.map clOf)
theorem readN_3 {c : Option Nd} {u : Option Nd} (h1 : u.isSome = true) (h : c.isSome = true) : readN u c = readM (u.getD (nd0 0)) (c.getD (nd0 0)) := by unfold readN readM; rw [if_neg (by rw [h1]; simp), if_neg (by rw [h]; simp)]
def CInv (w4 : World) (M : Nd) (i : Nat) (Ao : Option Addr) (co : Nat) (wr : World) : Prop := ∃ xs, wr.ownsRow w4.heap.size 45 7 (.slice Ao i co) i xs ∧ ClsIs wr w4.heap.size ((M.kids.take i).map clOf) xs ∧ Below w4.heap.size w4 wr
/-- the cells that one call is made of -/
def KidC (g kb ko y8 : Nat) (ta tc : ByteArray) (b0 b1 : Int) (b2 : ByteArray) (b3 : Option Addr) (b4 b5 : Nat) (b6 : Option Addr) (b7 b8 : Nat) (w' : World) : Prop :=
  w'.cell? ⟨g, 4, none⟩ = some (.slice (some ⟨kb, ko, none⟩) 3 y8) ∧ w'.cell? ⟨kb, ko + 2, none⟩ = some (.string ta) ∧ w'.cell? ⟨kb, ko + 5, none⟩ = some (.int .i64 b0) ∧ w'.cell? ⟨kb, ko + 6, none⟩ = some (.int .i64 b1) ∧ w'.cell? ⟨kb, ko + 7, none⟩ = some (.string b2) ∧ w'.cell? ⟨kb, ko + 8, none⟩ = some (.slice b3 b4 b5) ∧ w'.cell? ⟨kb, ko + 9, none⟩ = some (.slice b6 b7 b8) ∧ w'.cell? ⟨kb, ko + 12, none⟩ = some (.string tc)
theorem KidC.keep {g kb ko y8 : Nat} {ta tc : ByteArray} {b0 b1 : Int} {b2 : ByteArray} {b3 : Option Addr} {b4 b5 : Nat} {b6 : Option Addr} {b7 b8 : Nat} {w w' : World} {n : Nat} (hk : ∀ p : Addr, p.block < n → w'.cell? p = w.cell? p) (h1 : kb < n) (h2 : g < n) (h : KidC g kb ko y8 ta tc b0 b1 b2 b3 b4 b5 b6 b7 b8 w) : KidC g kb ko y8 ta tc b0 b1 b2 b3 b4 b5 b6 b7 b8 w' := by
  obtain ⟨k0, k1, k2, k3, k4, k5, k6, k7⟩ := h
  exact ⟨(hk _ h2).trans k0, (hk _ h1).trans k1, (hk _ h1).trans k2, (hk _ h1).trans k3, (hk _ h1).trans k4, (hk _ h1).trans k5, (hk _ h1).trans k6, (hk _ h1).trans k7⟩
theorem KidC.keep_ {g kb ko y8 : Nat} {ta tc : ByteArray} {b0 b1 : Int} {b2 : ByteArray} {b3 : Option Addr} {b4 b5 : Nat} {b6 : Option Addr} {b7 b8 : Nat} {w w' : World} (hk : w'.heap[kb]? = w.heap[kb]?) (hg : w'.heap[g]? = w.heap[g]?) (h : KidC g kb ko y8 ta tc b0 b1 b2 b3 b4 b5 b6 b7 b8 w) : KidC g kb ko y8 ta tc b0 b1 b2 b3 b4 b5 b6 b7 b8 w' := by
  have h1 : ∀ j, w'.cell? ⟨kb, j, none⟩ = w.cell? ⟨kb, j, none⟩ := fun j => World.cell?_of_block hk
  have h2 : ∀ j, w'.cell? ⟨g, j, none⟩ = w.cell? ⟨g, j, none⟩ := fun j => World.cell?_of_block hg
  obtain ⟨k0, k1, k2, k3, k4, k5, k6, k7⟩ := h
  exact ⟨(h2 _).trans k0, (h1 _).trans k1, (h1 _).trans k2, (h1 _).trans k3, (h1 _).trans k4, (h1 _).trans k5, (h1 _).trans k6, (h1 _).trans k7⟩
theorem cells_one7 {t1 t2 : ByteArray} {c0 c1 : Int} {c2 : ByteArray} {c3 : Option Addr} {c4 c5 : Nat} {c6 : Option Addr} {c7 c8 : Nat} : ∀ u ∈ ([.string t1, .int .i64 c0, .int .i64 c1, .string c2, .slice c3 c4 c5, .slice c6 c7 c8, .string t2] : List Value), u.oneCell' = true := by
  intro u hu
  simp at hu
  rcases hu with rfl | rfl | rfl | rfl | rfl | rfl | rfl <;> rfl
theorem KidC.start {wo : World} {kb ko y8 : Nat} {y0 y1 : Int} {y2 : ByteArray} {y3 : Option Addr} {y4 y5 : Nat} {ta tc : ByteArray} {b0 b1 : Int} {b2 : ByteArray} {b3 : Option Addr} {b4 b5 : Nat} {b6 : Option Addr} {b7 b8 : Nat} (hkw : kb < wo.heap.size)
    (f0 : wo.cell? ⟨kb, ko + 2, none⟩ = some (.string ta)) (f1 : wo.cell? ⟨kb, ko + 5, none⟩ = some (.int .i64 b0)) (f2 : wo.cell? ⟨kb, ko + 6, none⟩ = some (.int .i64 b1)) (f3 : wo.cell? ⟨kb, ko + 7, none⟩ = some (.string b2)) (f4 : wo.cell? ⟨kb, ko + 8, none⟩ = some (.slice b3 b4 b5)) (f5 : wo.cell? ⟨kb, ko + 9, none⟩ = some (.slice b6 b7 b8)) (f6 : wo.cell? ⟨kb, ko + 12, none⟩ = some (.string tc)) :
    KidC wo.heap.size kb ko y8 ta tc b0 b1 b2 b3 b4 b5 b6 b7 b8 (wo.alloc (.cells #[.int .i64 y0, .int .i64 y1, .string y2, .slice y3 y4 y5, .slice (some ⟨kb, ko, none⟩) 3 y8] 27)) := by
  have hk : ∀ p : Addr, p.block < wo.heap.size → (wo.alloc (.cells #[.int .i64 y0, .int .i64 y1, .string y2, .slice y3 y4 y5, .slice (some ⟨kb, ko, none⟩) 3 y8] 27)).cell? p = wo.cell? p := fun p hp => World.cell?_alloc_lt _ _ _ hp
  exact ⟨(Blk.new wo 27 #[.int .i64 y0, .int .i64 y1, .string y2, .slice y3 y4 y5, .slice (some ⟨kb, ko, none⟩) 3 y8]).cell 4, (hk _ hkw).trans f0, (hk _ hkw).trans f1, (hk _ hkw).trans f2, (hk _ hkw).trans f3, (hk _ hkw).trans f4, (hk _ hkw).trans f5, (hk _ hkw).trans f6⟩

set_option maxRecDepth 100000 in
set_option maxHeartbeats 4000000 in
theorem kRead_bad (s : ByteArray) (A : Option Addr) (c : Nat) (w : World) (ec : Int) (h : BytesAt w A c s) (hr : parseL s.toList = .error ec) : Calls Try.prog 14 #[.slice A s.size c] w (ReadP (readL s.toList) w) := by
  have HP := Lib.hid (parse_law s A c w h)
  rw [hr] at HP
  have E := Lib.hid (readL_err hr)
  have h1 := parse_err hr
  have n0 : (ec != 0) = true := by rw [bne_iff_ne]; omega
  clear hr h h1
  generalize readL s.toList = V at *
  go_enter Try.func14, Try.ntmps14
  go_wp2_with fail
  refine (HP.out : Calls _ _ _ _ _).mono ?_
  rintro e w1 ⟨rfl, hb⟩
  go_wp2_with fail
  refine bodyPost_ret (v := .tuple #[.slice none 0 0, .string ⟨#[110, 111, 116, 74, 83, 79, 78]⟩]) (by simp [results, Try.results14, go_sem]) rfl ?_
  exact ReadP.err E.out (hb.alloc hb.size _)
/-- what stands behind the two findings -/
def KIn (w w4 : World) (gu gm : Nat) (U M : Nd) (u0 u1 : Int) (u2 : ByteArray) (u3 : Option Addr) (u4 u5 : Nat) (u6 : Option Addr) (u8 : Nat) (m0 m1 : Int) (m2 : ByteArray) (m3 : Option Addr) (m4 m5 : Nat) (m6 : Option Addr) (m8 : Nat) : Prop :=
  Blk w4 gu 27 #[.int .i64 u0, .int .i64 u1, .string u2, .slice u3 u4 u5, .slice u6 U.kids.length u8] ∧ Blk w4 gm 27 #[.int .i64 m0, .int .i64 m1, .string m2, .slice m3 m4 m5, .slice m6 M.kids.length m8] ∧ Below w.heap.size w w4 ∧
  (∃ xs, Reads w4 w4.heap.size 5 u6 U.kids.length xs ∧ NdsIs w4 w4.heap.size U.kids xs ∧ U.kids.length ≤ maxLen) ∧ (∃ xs, Reads w4 w4.heap.size 5 m6 M.kids.length xs ∧ NdsIs w4 w4.heap.size M.kids xs ∧ M.kids.length ≤ maxLen)
set_option maxRecDepth 100000 in
set_option maxHeartbeats 4000000 in
theorem kRead_ok (s : ByteArray) (A : Option Addr) (c : Nat) (w : World) (n : Nd) (h : BytesAt w A c s) (hr : parseL s.toList = .ok n) : Calls Try.prog 14 #[.slice A s.size c] w (ReadP (readL s.toList) w) := by
  have HP := Lib.hid (parse_law s A c w h)
  rw [hr] at HP
  have E := Lib.hid (readL_ok hr)
  have HSZ := Lib.hid (parse_size hr)
  clear hr h
  generalize readL s.toList = V at *
  go_enter Try.func14, Try.ntmps14
  go_wp2_with fail
  refine (HP.out : Calls _ _ _ _ _).mono ?_
  rintro e w1 ⟨x0, x1, x2, x3, x4, x5, x6, x7, x8, rfl, hn, hb⟩
  have HB1 : Hid (Below w.heap.size w (w1.alloc (.cells #[.int .i64 x0, .int .i64 x1, .string x2, .slice x3 x4 x5, .slice x6 x7 x8] 27))) := hb.alloc hb.size _
  have HBX : Hid (Blk (w1.alloc (.cells #[.int .i64 x0, .int .i64 x1, .string x2, .slice x3 x4 x5, .slice x6 x7 x8] 27)) w1.heap.size 27 #[.int .i64 x0, .int .i64 x1, .string x2, .slice x3 x4 x5, .slice x6 x7 x8]) := Blk.new _ _ _
  have HN1 : Hid (NdIs (w1.alloc (.cells #[.int .i64 x0, .int .i64 x1, .string x2, .slice x3 x4 x5, .slice x6 x7 x8] 27)) w1.heap.size n [.int .i64 x0, .int .i64 x1, .string x2, .slice x3 x4 x5, .slice x6 x7 x8]) := hn.below ((Below.refl _ _).alloc (Nat.le_refl _) _)
  have HF1 : Hid (Calls Try.prog 30 #[.agg #[.int .i64 x0, .int .i64 x1, .string x2, .slice x3 x4 x5, .slice x6 x7 x8], .string ⟨#[117, 115, 105, 110, 103]⟩] (w1.alloc (.cells #[.int .i64 x0, .int .i64 x1, .string x2, .slice x3 x4 x5, .slice x6 x7 x8] 27)) (FindP (findN n usingS) (w1.alloc (.cells #[.int .i64 x0, .int .i64 x1, .string x2, .slice x3 x4 x5, .slice x6 x7 x8] 27)))) :=
    cFind_any n usingS [.int .i64 x0, .int .i64 x1, .string x2, .slice x3 x4 x5, .slice x6 x7 x8] _ w1.heap.size HN1.out (by simp) HSZ.out
  clear hn hb HP
  go_wp2_with fail
  refine (HF1.out : Calls _ _ _ _ _).mono ?_
  rintro e w2 ⟨u0, u1, u2, u3, u4, u5, u6, u7, u8, rfl, hu, hb2⟩
  have hba : Below w2.heap.size w2 (w2.alloc (.cells #[.int .i64 u0, .int .i64 u1, .string u2, .slice u3 u4 u5, .slice u6 u7 u8] 27)) := (Below.refl _ _).alloc (Nat.le_refl _) _
  have hb3 := hb2.trans (hba.mono hb2.size)
  have HB2 : Hid (Below w.heap.size w (w2.alloc (.cells #[.int .i64 u0, .int .i64 u1, .string u2, .slice u3 u4 u5, .slice u6 u7 u8] 27))) := nextB HB1.out hb3
  have HBX2 : Hid (Blk (w2.alloc (.cells #[.int .i64 u0, .int .i64 u1, .string u2, .slice u3 u4 u5, .slice u6 u7 u8] 27)) w1.heap.size 27 #[.int .i64 x0, .int .i64 x1, .string x2, .slice x3 x4 x5, .slice x6 x7 x8]) := HBX.out.below hb3 HBX.out.lt
  have HBU : Hid (Blk (w2.alloc (.cells #[.int .i64 u0, .int .i64 u1, .string u2, .slice u3 u4 u5, .slice u6 u7 u8] 27)) w2.heap.size 27 #[.int .i64 u0, .int .i64 u1, .string u2, .slice u3 u4 u5, .slice u6 u7 u8]) := Blk.new _ _ _
  have HN2 : Hid (NdIs (w2.alloc (.cells #[.int .i64 u0, .int .i64 u1, .string u2, .slice u3 u4 u5, .slice u6 u7 u8] 27)) w1.heap.size n [.int .i64 x0, .int .i64 x1, .string x2, .slice x3 x4 x5, .slice x6 x7 x8]) := HN1.out.below (hb3.mono (by simp))
  have HU2 : Hid (NdIs (w2.alloc (.cells #[.int .i64 u0, .int .i64 u1, .string u2, .slice u3 u4 u5, .slice u6 u7 u8] 27)) w2.heap.size ((findN n usingS).getD (nd0 0)) [.int .i64 u0, .int .i64 u1, .string u2, .slice u3 u4 u5, .slice u6 u7 u8]) := (NdIn.is (fun b hb => hb.2) _ _ hu).below hba
  have hz12 : w1.heap.size < w2.heap.size := by have := hb2.size; simp at this; omega
  have HF2 : Hid (Calls Try.prog 30 #[.agg #[.int .i64 x0, .int .i64 x1, .string x2, .slice x3 x4 x5, .slice x6 x7 x8], .string ⟨#[109, 101, 116, 104, 111, 100, 67, 97, 108, 108, 115]⟩] (w2.alloc (.cells #[.int .i64 u0, .int .i64 u1, .string u2, .slice u3 u4 u5, .slice u6 u7 u8] 27)) (FindP (findN n callsS) (w2.alloc (.cells #[.int .i64 u0, .int .i64 u1, .string u2, .slice u3 u4 u5, .slice u6 u7 u8] 27)))) :=
    cFind_any n callsS [.int .i64 x0, .int .i64 x1, .string x2, .slice x3 x4 x5, .slice x6 x7 x8] _ w1.heap.size HN2.out (by simp; omega) HSZ.out
  obtain ⟨e0, e1, e2, e3, e4⟩ := HBX2.out.cells5
  clear hu hb2 hba hb3 HF1 HN1 HB1 HBX HN2 HSZ
  go_wp2_with fail
  refine (HF2.out : Calls _ _ _ _ _).mono ?_
  rintro e w3 ⟨m0, m1, m2, m3, m4, m5, m6, m7, m8, rfl, hm, hb2⟩
  have hba : Below w3.heap.size w3 (w3.alloc (.cells #[.int .i64 m0, .int .i64 m1, .string m2, .slice m3 m4 m5, .slice m6 m7 m8] 27)) := (Below.refl _ _).alloc (Nat.le_refl _) _
  have hb3 := hb2.trans (hba.mono hb2.size)
  have hB4 := nextB HB2.out hb3
  have hU4 : Blk (w3.alloc (.cells #[.int .i64 m0, .int .i64 m1, .string m2, .slice m3 m4 m5, .slice m6 m7 m8] 27)) w2.heap.size 27 #[.int .i64 u0, .int .i64 u1, .string u2, .slice u3 u4 u5, .slice u6 u7 u8] := HBU.out.below hb3 HBU.out.lt
  have hM4 : Blk (w3.alloc (.cells #[.int .i64 m0, .int .i64 m1, .string m2, .slice m3 m4 m5, .slice m6 m7 m8] 27)) w3.heap.size 27 #[.int .i64 m0, .int .i64 m1, .string m2, .slice m3 m4 m5, .slice m6 m7 m8] := Blk.new _ _ _
  have hNU : NdIs (w3.alloc (.cells #[.int .i64 m0, .int .i64 m1, .string m2, .slice m3 m4 m5, .slice m6 m7 m8] 27)) (w3.alloc (.cells #[.int .i64 m0, .int .i64 m1, .string m2, .slice m3 m4 m5, .slice m6 m7 m8] 27)).heap.size ((findN n usingS).getD (nd0 0)) [.int .i64 u0, .int .i64 u1, .string u2, .slice u3 u4 u5, .slice u6 u7 u8] := NdIs.more (by have := hb3.size; simp at this ⊢; omega) _ _ (HU2.out.below (hb3.mono (by simp)))
  have hNM : NdIs (w3.alloc (.cells #[.int .i64 m0, .int .i64 m1, .string m2, .slice m3 m4 m5, .slice m6 m7 m8] 27)) (w3.alloc (.cells #[.int .i64 m0, .int .i64 m1, .string m2, .slice m3 m4 m5, .slice m6 m7 m8] 27)).heap.size ((findN n callsS).getD (nd0 0)) [.int .i64 m0, .int .i64 m1, .string m2, .slice m3 m4 m5, .slice m6 m7 m8] := NdIs.more (by simp) _ _ ((NdIn.is (fun b hb => hb.2) _ _ hm).below hba)
  obtain ⟨k1, -, k2, ku⟩ := NdIs.cells _ hNU
  obtain ⟨l1, -, l2, km⟩ := NdIs.cells _ hNM
  subst k1 k2 l1 l2
  have KI : Hid (KIn w (w3.alloc (.cells #[.int .i64 ((findN n callsS).getD (nd0 0)).kind, .int .i64 m1, .string m2, .slice m3 m4 m5, .slice m6 ((findN n callsS).getD (nd0 0)).kids.length m8] 27)) w2.heap.size w3.heap.size ((findN n usingS).getD (nd0 0)) ((findN n callsS).getD (nd0 0)) ((findN n usingS).getD (nd0 0)).kind u1 u2 u3 u4 u5 u6 u8 ((findN n callsS).getD (nd0 0)).kind m1 m2 m3 m4 m5 m6 m8) := ⟨hU4, hM4, hB4, ku, km⟩
  have hg : w2.heap.size < (w3.alloc (.cells #[.int .i64 ((findN n callsS).getD (nd0 0)).kind, .int .i64 m1, .string m2, .slice m3 m4 m5, .slice m6 ((findN n callsS).getD (nd0 0)).kids.length m8] 27)).heap.size := hU4.lt
  clear hb2 hba hb3 hU4 hM4 hNU hNM hm ku km hB4 HBX2 HBU HU2 HF2 HB2 e0 e1 e2 e3 e4
  go_upto_region 6 with fail
  generalize w3.alloc (.cells #[.int .i64 ((findN n callsS).getD (nd0 0)).kind, .int .i64 m1, .string m2, .slice m3 m4 m5, .slice m6 ((findN n callsS).getD (nd0 0)).kids.length m8] 27) = w4 at *
  generalize w2.heap.size = gu at *
  generalize w3.heap.size = gm at *
  generalize findN n usingS = fu at *
  generalize findN n callsS = fm at *
  have E1 : Hid (fu.isSome = false → V = .error notR) := fun h => E.out.trans (readN_1 h)
  have E2 : Hid (fu.isSome = true → fm.isSome = false → V = .error notR) := fun h1 h2 => E.out.trans (readN_2 h1 h2)
  have E3 : Hid (fu.isSome = true → fm.isSome = true → V = readM (fu.getD (nd0 0)) (fm.getD (nd0 0))) := fun h1 h2 => E.out.trans (readN_3 h1 h2)
  generalize fu.isSome = ba at *
  generalize fm.isSome = bb at *
  generalize fu.getD (nd0 0) = UU at *
  generalize fm.getD (nd0 0) = MM at *
  clear E
  obtain ⟨hBU, hBM, hB4, hxu, hxm⟩ := KI.out
  have HB4 := Lib.hid hB4
  obtain ⟨yu, hru, hnu, hlu⟩ := hxu
  obtain ⟨ym, hrm, hnm, hlm⟩ := hxm
  obtain ⟨p0, p1, p2, p3, p4⟩ := hBU.cells5
  obtain ⟨q0, q1, q2, q3, q4⟩ := hBM.cells5
  have HLU := Lib.hid hlu
  have HLM := Lib.hid hlm
  have HRM := Lib.hid hrm
  have HNM := Lib.hid hnm
  have HBM := Lib.hid hBM
  have HBU := Lib.hid hBU
  have hlu2 : UU.kids.length ≤ 9223372036854775807 := by simp only [maxLen] at hlu; omega
  have hlm2 : MM.kids.length ≤ 9223372036854775807 := by simp only [maxLen] at hlm; omega
  have HC1 : Hid (∀ w', Below w4.heap.size w4 w' → Calls Try.prog 34 #[.slice u6 UU.kids.length u8, .func (.func 31) #[] #[]] w' (BoolBel (UU.kids.any oddN) w')) := fun w' h => sContainsFunc_kRead1 oddN UU.kids u6 u8 yu w' w4.heap.size (hru.keep fun p hp => h.cell hp) (NdsIs.keep (fun p hp => h.cell hp) _ _ hnu) h.size hlu2 (fun n cs w9 h1 h2 => kRead1_any n cs w9 _ h1)
  have HC2 : Hid (∀ w', Below w4.heap.size w4 w' → Calls Try.prog 34 #[.slice m6 MM.kids.length m8, .func (.func 32) #[] #[]] w' (BoolBel (MM.kids.any noneN) w')) := fun w' h => sContainsFunc_kRead2 noneN MM.kids m6 m8 ym w' w4.heap.size (hrm.keep fun p hp => h.cell hp) (NdsIs.keep (fun p hp => h.cell hp) _ _ hnm) h.size hlm2 (fun n cs w9 h1 h2 => kRead2_any n cs w9 _ h1 h2)
  have HC3 : Hid (∀ w', Below w4.heap.size w4 w' → Calls Try.prog 34 #[.slice u6 UU.kids.length u8, .func (.func 35) #[] #[]] w' (BoolBel (UU.kids.any unkN) w')) := fun w' h => sContainsFunc_kRead3 unkN UU.kids u6 u8 yu w' w4.heap.size (hru.keep fun p hp => h.cell hp) (NdsIs.keep (fun p hp => h.cell hp) _ _ hnu) h.size hlu2 (fun n cs w9 h1 h2 => kRead3_any n cs w9 _ h1)
  have hgu : gu < w4.heap.size := hBU.lt
  have hgm : gm < w4.heap.size := hBM.lt
  clear hBU hBM hB4 hru hnu hlu hrm hnm hlm KI hlu2 hlm2
  have hW := Below.refl w4.heap.size w4
  cases ba with
  | false =>
    have EE := Lib.hid (E1.out rfl)
    clear E1 E2 E3 HC1 HC2 HC3
    go_wp2_with fail
    refine bodyPost_ret (v := .tuple #[.slice none 0 0, .string ⟨#[110, 111, 116, 82, 101, 113, 117, 101, 115, 116]⟩]) (by simp [results, Try.results14, go_sem]) rfl ?_
    exact ReadP.err EE.out (HB4.out.trans (hW.mono HB4.out.size))
  | true =>
    clear E1
    cases bb with
    | false =>
      have EE := Lib.hid (E2.out rfl rfl)
      clear E2 E3 HC1 HC2 HC3
      go_wp2_with fail
      refine bodyPost_ret (v := .tuple #[.slice none 0 0, .string ⟨#[110, 111, 116, 82, 101, 113, 117, 101, 115, 116]⟩]) (by simp [results, Try.results14, go_sem]) rfl ?_
      exact ReadP.err EE.out (HB4.out.trans (hW.mono HB4.out.size))
    | true =>
      have EM := Lib.hid (E3.out rfl rfl)
      clear E2 E3
      unfold readM at EM
      cases t1 : (UU.kind != 6) with
      | true =>
        have EE : Hid (V = .error notR) := by show _ = _; rw [EM.out, if_pos t1]
        clear EM HC1 HC2 HC3
        go_wp2_with fail
        refine bodyPost_ret (v := .tuple #[.slice none 0 0, .string ⟨#[110, 111, 116, 82, 101, 113, 117, 101, 115, 116]⟩]) (by simp [results, Try.results14, go_sem]) rfl ?_
        exact ReadP.err EE.out (HB4.out.trans (hW.mono HB4.out.size))
      | false =>
        have EM2 : Hid (V = if (MM.kind != 6) = true then .error notR else if UU.kids.any oddN = true then .error notR else if MM.kids.any noneN = true then .error notR else if UU.kids.any unkN = true then .error unkC else if 16 < MM.kids.length then .error limS else .ok (MM.kids.map clOf)) := by show _ = _; rw [EM.out, if_neg (by rw [t1]; simp)]
        clear EM
        cases t2 : (MM.kind != 6) with
        | true =>
          have EE : Hid (V = .error notR) := by show _ = _; rw [EM2.out, if_pos t2]
          clear EM2 HC1 HC2 HC3
          go_wp2_with fail
          refine bodyPost_ret (v := .tuple #[.slice none 0 0, .string ⟨#[110, 111, 116, 82, 101, 113, 117, 101, 115, 116]⟩]) (by simp [results, Try.results14, go_sem]) rfl ?_
          exact ReadP.err EE.out (HB4.out.trans (hW.mono HB4.out.size))
        | false =>
          have EM3 : Hid (V = if UU.kids.any oddN = true then .error notR else if MM.kids.any noneN = true then .error notR else if UU.kids.any unkN = true then .error unkC else if 16 < MM.kids.length then .error limS else .ok (MM.kids.map clOf)) := by show _ = _; rw [EM2.out, if_neg (by rw [t2]; simp)]
          clear EM2
          have HNO : Hid (MM.kids.any noneN = false → ∀ (j : Nat) (x : Nd), MM.kids[j]? = some x → noneN x = false) := fun h j x hx => any_get h hx
          generalize UU.kids.any oddN = z1 at *
          generalize UU.kids.any unkN = z3 at *
          obtain ⟨z2, hz2⟩ : ∃ z2, z2 = MM.kids.any noneN := ⟨_, rfl⟩
          rw [← hz2] at HC2 EM3 HNO
          clear hz2
          go_wp2_with fail
          refine (HC1.out _ hW).mono ?_; rintro e w5 ⟨rfl, hw5⟩
          replace hW := nextB hW hw5; clear hw5
          obtain ⟨wk, rfl⟩ : ∃ wk : World, wk = w5 := ⟨_, rfl⟩
          clear p0 p1 p2 p3 p4 q0 q1 q2 q3 q4
          obtain ⟨p0, p1, p2, p3, p4⟩ := (HBU.out.below hW HBU.out.lt).cells5
          obtain ⟨q0, q1, q2, q3, q4⟩ := (HBM.out.below hW HBM.out.lt).cells5
          cases z1 with
          | true =>
            have EE : Hid (V = .error notR) := by show _ = _; rw [EM3.out, if_pos rfl]
            clear EM3 HC1 HC2 HC3 HNO
            go_wp2_with fail
            refine bodyPost_ret (v := .tuple #[.slice none 0 0, .string ⟨#[110, 111, 116, 82, 101, 113, 117, 101, 115, 116]⟩]) (by simp [results, Try.results14, go_sem]) rfl ?_
            exact ReadP.err EE.out (HB4.out.trans (hW.mono HB4.out.size))
          | false =>
            go_wp2_with fail
            refine (HC2.out _ hW).mono ?_; rintro e w5 ⟨rfl, hw5⟩
            replace hW := nextB hW hw5; clear hw5
            obtain ⟨wk, rfl⟩ : ∃ wk : World, wk = w5 := ⟨_, rfl⟩
            clear p0 p1 p2 p3 p4 q0 q1 q2 q3 q4
            obtain ⟨p0, p1, p2, p3, p4⟩ := (HBU.out.below hW HBU.out.lt).cells5
            obtain ⟨q0, q1, q2, q3, q4⟩ := (HBM.out.below hW HBM.out.lt).cells5
            cases z2 with
            | true =>
              have EE : Hid (V = .error notR) := by show _ = _; rw [EM3.out, if_neg (by simp), if_pos rfl]
              clear EM3 HC1 HC2 HC3 HNO
              go_wp2_with fail
              refine bodyPost_ret (v := .tuple #[.slice none 0 0, .string ⟨#[110, 111, 116, 82, 101, 113, 117, 101, 115, 116]⟩]) (by simp [results, Try.results14, go_sem]) rfl ?_
              exact ReadP.err EE.out (HB4.out.trans (hW.mono HB4.out.size))
            | false =>
              have HNO2 := Lib.hid (HNO.out rfl)
              go_wp2_with fail
              refine (HC3.out _ hW).mono ?_; rintro e w5 ⟨rfl, hw5⟩
              replace hW := nextB hW hw5; clear hw5
              obtain ⟨wk, rfl⟩ : ∃ wk : World, wk = w5 := ⟨_, rfl⟩
              clear p0 p1 p2 p3 p4 q0 q1 q2 q3 q4
              obtain ⟨p0, p1, p2, p3, p4⟩ := (HBU.out.below hW HBU.out.lt).cells5
              obtain ⟨q0, q1, q2, q3, q4⟩ := (HBM.out.below hW HBM.out.lt).cells5
              cases z3 with
              | true =>
                have EE : Hid (V = .error unkC) := by show _ = _; rw [EM3.out, if_neg (by simp), if_neg (by simp), if_pos rfl]
                clear EM3 HC1 HC2 HC3 HNO
                go_wp2_with fail
                refine bodyPost_ret (v := .tuple #[.slice none 0 0, .string ⟨#[117, 110, 107, 110, 111, 119, 110, 67, 97, 112, 97, 98, 105, 108, 105, 116, 121]⟩]) (by simp [results, Try.results14, go_sem]) rfl ?_
                exact ReadP.err EE.out (HB4.out.trans (hW.mono HB4.out.size))
              | false =>
                have EM4 : Hid (V = if 16 < MM.kids.length then .error limS else .ok (MM.kids.map clOf)) := by show _ = _; rw [EM3.out, if_neg (by simp), if_neg (by simp), if_neg (by simp)]
                clear EM3 HC1 HC2 HC3 HNO t1 t2
                by_cases h16 : 16 < MM.kids.length
                · have EE : Hid (V = .error limS) := by show _ = _; rw [EM4.out, if_pos h16]
                  have h16i : decide ((16 : Int) < (MM.kids.length : Int)) = true := decide_eq_true (by omega)
                  clear EM4 h16
                  go_wp2_with fail
                  refine bodyPost_ret (v := .tuple #[.slice none 0 0, .string ⟨#[108, 105, 109, 105, 116]⟩]) (by simp [results, Try.results14, go_sem]) rfl ?_
                  exact ReadP.err EE.out (HB4.out.trans (hW.mono HB4.out.size))
                have EE : Hid (V = .ok (MM.kids.map clOf)) := by show _ = _; rw [EM4.out, if_neg h16]
                have h16i : decide ((16 : Int) < (MM.kids.length : Int)) = false := decide_eq_false (by omega)
                clear EM4
                have HK16 := Lib.hid h16
                clear p0 p1 p2 p3 p4 HBU h16
                have HI0 : Hid (CInv w4 MM 0 none 0 wk) := ⟨[], World.ownsRow_nil _ _ _ _, rfl, hW⟩
                clear hW
                go_wp2_with fail
                go_loopw [12, 63] (fun t12 t63 wr => ∃ (i : Nat) (Ao : Option Addr) (co : Nat), i ≤ MM.kids.length ∧ t63 = .int .i64 i ∧ t12 = .slice Ao i co ∧ Hid (CInv w4 MM i Ao co wr)) (fun _ t63 _ => MM.kids.length - (intOf t63).toNat)
                case atStart => exact ⟨0, none, 0, by omega, rfl, rfl, HI0⟩
                case round =>
                  clear HI0 q0 q1 q2 q3 q4
                  obtain ⟨i, Ao, co, hi, rfl, rfl, hI⟩ := hrel
                  obtain ⟨wo, rfl⟩ : ∃ wo : World, wo = wr := ⟨_, rfl⟩
                  by_cases hlt : i < MM.kids.length
                  · obtain ⟨xs, hown, hcls, hW⟩ := hI.out
                    have hsz := hW.size
                    have hkeep : ∀ p : Addr, p.block < w4.heap.size → wo.cell? p = w4.cell? p := fun p hp => hW.cell hp
                    obtain ⟨ad, nn, v0, v1, v2, v3, v4, hm6, hadb, hni, hnd, e0, e1, e2, e3, e4⟩ := (HRM.out.keep hkeep).nd (NdsIs.keep hkeep _ _ HNM.out) hlt
                    subst hm6
                    obtain ⟨y0, y1, y2, y3, y4, y5, y6, y7, y8, rfl, rfl, rfl, rfl, rfl⟩ := hnd.form
                    obtain ⟨na, nb, nc, hk3, -, -, -, -⟩ := kid3 (HNO2.out i nn hni)
                    obtain ⟨kb, ko, b0, b1, b2, b3, b4, b5, b6, b7, b8, rfl, rfl, hkb, hnb, f0, f1, f2, f3, f4, f5, f6⟩ := kids15 hnd hk3
                    have HKB := Lib.hid hkb
                    have HCL : Hid (clOf nn = ⟨na.text, nb, nc.text⟩) := by show _ = _; unfold clOf; rw [hk3]
                    have HTK := Lib.hid (map_take hni)
                    have HOW : Hid (wo.ownsRow w4.heap.size 45 7 (.slice Ao i co) i xs) := hown
                    have HOWL : Hid (∀ g, (Value.slice Ao i co).ownBlock = some g → w4.heap.size ≤ g ∧ g < wo.heap.size) := fun g hg => own_lt hown hg
                    have HCS := Lib.hid hcls
                    have HNB := Lib.hid hnb
                    have HWW := Lib.hid hW
                    have i0 : (0 : Int) ≤ (i : Int) := by omega
                    have i1 : (i : Int) < (MM.kids.length : Int) := by omega
                    have hi5 : i ≤ 16 := by have := HK16.out; omega
                    have hbw : ad.block < wo.heap.size := by omega
                    have hkw : kb < wo.heap.size := by omega
                    have S0 : Hid (KidC wo.heap.size kb ko y8 na.text nc.text b0 b1 b2 b3 b4 b5 b6 b7 b8 (wo.alloc (.cells #[.int .i64 y0, .int .i64 y1, .string y2, .slice y3 y4 y5, .slice (some ⟨kb, ko, none⟩) 3 y8] 27))) := KidC.start hkw f0 f1 f2 f3 f4 f5 f6
                    have hz : (wo.alloc (.cells #[.int .i64 y0, .int .i64 y1, .string y2, .slice y3 y4 y5, .slice (some ⟨kb, ko, none⟩) 3 y8] 27)).heap.size = wo.heap.size + 1 := by simp
                    have HZ := Lib.hid hz
                    have HZ2 : Hid (((wo.alloc (.cells #[.int .i64 y0, .int .i64 y1, .string y2, .slice y3 y4 y5, .slice (some ⟨kb, ko, none⟩) 3 y8] 27)).alloc (.cells #[.string na.text, .int .i64 b0, .int .i64 b1, .string b2, .slice b3 b4 b5, .slice b6 b7 b8, .string nc.text] 45)).drew.heap.size = wo.heap.size + 2) := by show ((wo.alloc (.cells #[.int .i64 y0, .int .i64 y1, .string y2, .slice y3 y4 y5, .slice (some ⟨kb, ko, none⟩) 3 y8] 27)).alloc (.cells #[.string na.text, .int .i64 b0, .int .i64 b1, .string b2, .slice b3 b4 b5, .slice b6 b7 b8, .string nc.text] 45)).heap.size = _; rw [World.size_alloc, hz]
                    have HS0 : Hid (KidC wo.heap.size kb ko y8 na.text nc.text b0 b1 b2 b3 b4 b5 b6 b7 b8 (wo.alloc (.cells #[.int .i64 y0, .int .i64 y1, .string y2, .slice y3 y4 y5, .slice (some ⟨kb, ko, none⟩) 3 y8] 27)).drew) := S0.out
                    have HS1 : Hid (KidC wo.heap.size kb ko y8 na.text nc.text b0 b1 b2 b3 b4 b5 b6 b7 b8 ((wo.alloc (.cells #[.int .i64 y0, .int .i64 y1, .string y2, .slice y3 y4 y5, .slice (some ⟨kb, ko, none⟩) 3 y8] 27)).alloc (.cells #[.string na.text, .int .i64 b0, .int .i64 b1, .string b2, .slice b3 b4 b5, .slice b6 b7 b8, .string nc.text] 45)).drew) := KidC.keep (fun p hp => World.cell?_alloc_lt _ _ _ hp) (by rw [HZ.out]; omega) (by rw [HZ.out]; omega) S0.out
                    have HS1b := HS1
                    clear hnd hni hk3 hown hcls hnb hW hI hkeep hkb hz
                    go_wp2_with fail
                    unfold KidC at HS0 HS1
                    go_region_held3 (fun w' => w'.cell? ⟨wo.heap.size, 4, none⟩ = some (.slice (some ⟨kb, ko, none⟩) 3 y8) ∧ w'.cell? ⟨kb, ko + 2, none⟩ = some (.string na.text) ∧ w'.cell? ⟨kb, ko + 5, none⟩ = some (.int .i64 b0) ∧ w'.cell? ⟨kb, ko + 6, none⟩ = some (.int .i64 b1) ∧ w'.cell? ⟨kb, ko + 7, none⟩ = some (.string b2) ∧ w'.cell? ⟨kb, ko + 8, none⟩ = some (.slice b3 b4 b5) ∧ w'.cell? ⟨kb, ko + 9, none⟩ = some (.slice b6 b7 b8) ∧ w'.cell? ⟨kb, ko + 12, none⟩ = some (.string nc.text)) (first | with_reducible exact HS0.out | with_reducible exact HS1.out | with_reducible exact HS2.out) (first
                      | (refine step_pushCl rfl _ _ rfl w4.heap.size (.slice Ao i co) i xs (by rfl) (show (((wo.alloc (.cells #[.int .i64 y0, .int .i64 y1, .string y2, .slice y3 y4 y5, .slice (some ⟨kb, ko, none⟩) 3 y8] 27)).alloc (.cells #[.string na.text, .int .i64 b0, .int .i64 b1, .string b2, .slice b3 b4 b5, .slice b6 b7 b8, .string nc.text] 45)).drew).ownsRow w4.heap.size 45 7 (.slice Ao i co) i xs from World.ownsRow.alloc (World.ownsRow.alloc HOW.out _) _) (wo.heap.size + 2) (some ⟨wo.heap.size + 1, 0, none⟩) 1 1 [.string na.text, .int .i64 b0, .int .i64 b1, .string b2, .slice b3 b4 b5, .slice b6 b7 b8, .string nc.text] (by have := reads7 (wo.alloc (.cells #[.int .i64 y0, .int .i64 y1, .string y2, .slice y3 y4 y5, .slice (some ⟨kb, ko, none⟩) 3 y8] 27)) (.string na.text) (.int .i64 b0) (.int .i64 b1) (.string b2) (.slice b3 b4 b5) (.slice b6 b7 b8) (.string nc.text); rw [HZ.out] at this; exact this) cells_one7 (by rfl) (by omega) (by rw [HZ2.out]; have := HWW.out.size; omega) ?_; intro v9 w9 p1 p2; obtain ⟨A9, c9, rfl⟩ := own_form p1; have P1 := Lib.hid p1; have P2 := Lib.hid p2; have HS2 := Lib.hid (KidC.keep_ (p2.block kb (by rw [HZ2.out]; omega) (fun e => by have := (HOWL.out _ e.symm).1; have := HKB.out; omega)) (p2.block wo.heap.size (by rw [HZ2.out]; omega) (fun e => by have := (HOWL.out _ e.symm).2; omega)) HS1b.out); unfold KidC at HS2; clear p1 p2))
                    go_wp2_with fail
                    go_roundw
                    case rel =>
                      refine ⟨i + 1, A9, c9, by omega, by go_num, rfl, xs ++ [.string na.text, .int .i64 b0, .int .i64 b1, .string b2, .slice b3 b4 b5, .slice b6 b7 b8, .string nc.text], P1.out, ?_, ?_⟩
                      · rw [HTK.out, HCL.out]
                        have hk9 : ∀ p : Addr, p.block < w4.heap.size → w9.cell? p = wo.cell? p := fun p hp => (World.cell?_of_block (P2.out.block p.block (by rw [HZ2.out]; have := HWW.out.size; omega) (fun e => by have := (HOWL.out _ e.symm).1; omega))).trans ((World.cell?_alloc_lt _ _ _ (by simp; have := HWW.out.size; omega)).trans (World.cell?_alloc_lt _ _ _ (by have := HWW.out.size; omega)))
                        exact ClsIs.snoc (NdIs.keep hk9 _ _ HNB.out) _ _ (ClsIs.keep hk9 _ _ HCS.out)
                      · refine HWW.out.trans ?_
                        have hb0 : Below w4.heap.size wo (((wo.alloc (.cells #[.int .i64 y0, .int .i64 y1, .string y2, .slice y3 y4 y5, .slice (some ⟨kb, ko, none⟩) 3 y8] 27)).alloc (.cells #[.string na.text, .int .i64 b0, .int .i64 b1, .string b2, .slice b3 b4 b5, .slice b6 b7 b8, .string nc.text] 45)).drew) := (((Below.refl _ _).alloc HWW.out.size _).alloc (by simp; have := HWW.out.size; omega) _).drew
                        exact hb0.grown P2.out (by rw [HZ2.out]; have := HWW.out.size; omega) (fun g hg => (HOWL.out _ hg).1)
                    case measure => simp [intOf]; omega
                  · obtain rfl : i = MM.kids.length := by omega
                    obtain ⟨xs, hown, hcls, hW⟩ := hI.out
                    have HOW := Lib.hid hown
                    have HWW := Lib.hid hW
                    have HCS : Hid (ClsIs wo wo.heap.size (MM.kids.map clOf) xs) := by
                      rw [List.take_length] at hcls
                      exact ClsIs.more hW.size _ _ hcls
                    have i1 : ¬ (MM.kids.length : Int) < (MM.kids.length : Int) := by omega
                    clear hown hcls hW hI
                    go_wp2_with fail
                    refine bodyPost_ret (v := .tuple #[.slice Ao MM.kids.length co, .string ⟨#[]⟩]) (by simp [results, Try.results14, go_sem]) rfl ?_
                    have e1 : (okL V).length = MM.kids.length := by rw [EE.out]; show (MM.kids.map clOf).length = _; rw [List.length_map]
                    have e2 : errS V = ⟨#[]⟩ := by rw [EE.out]; rfl
                    have e3 : okL V = MM.kids.map clOf := by rw [EE.out]; rfl
                    refine ⟨Ao, co, xs, by rw [e1, e2], by rw [e1]; exact own_reads HOW.out, by rw [e3]; exact HCS.out, HB4.out.trans (HWW.out.mono HB4.out.size)⟩
end Go.Proofs.Ytnhoecmcbikcnaa
/-! Plain: reading texts that stand there letter by letter. -/
namespace Go.Proofs.Ytnhoecmcbikcnaa
open Go.RowKit Go.PlainAid
set_option linter.unusedVariables false
set_option linter.unusedSimpArgs false
theorem decL_asc {c : UInt8} (r : List UInt8) (h : c.toNat < 128) : decL (c :: r) = some ((c.toNat : Int), 1) := by
  have hp : putN (c.toNat : Int) = [(c.toNat : Int)] := by
    unfold putN
    rw [if_neg (by omega), if_pos (by omega)]
  have hb : putB (c.toNat : Int) = [c] := by
    rw [putB_of hp]
    simp
  have := decW_put sizeN (fun c => .inl rfl) (c.toNat : Int) r (by rw [hb]; simp)
  rw [hb] at this
  exact this
theorem textT_asc {c : UInt8} (r acc : List UInt8) (h0 : 32 ≤ c.toNat) (h : c.toNat < 128) (h34 : c ≠ 34) (h92 : c ≠ 92) : textT (c :: r) acc = textT r (acc ++ [c]) := by
  rw [textT_cons, if_neg (by rw [UInt8.lt_iff_toNat_lt]; have e : ((32 : UInt8).toNat) = 32 := rfl; omega), if_neg h34, if_neg h92, decL_asc r h]
  rfl
theorem textT_end (r acc : List UInt8) : textT (34 :: r) acc = some (acc, r) := by
  rw [textT_cons, if_neg (by decide), if_pos rfl]
theorem valL_123 (d : Nat) (r : List UInt8) (hd : d < 24) : valL d (123 :: r) = if (blanksL r).head? = some 125 then .ok (.mk 7 0 ⟨#[]⟩ [] [], (blanksL r).tail) else objL d (blanksL r) [] [] := by
  rw [valL_obj d _ rfl (by omega)]; rfl
theorem valL_91 (d : Nat) (r : List UInt8) (hd : d < 24) : valL d (91 :: r) = if (blanksL r).head? = some 93 then .ok (.mk 6 0 ⟨#[]⟩ [] [], (blanksL r).tail) else arrL d (blanksL r) [] := by
  rw [valL_arr d _ rfl (by omega)]; rfl
theorem valL_34 (d : Nat) (r : List UInt8) : valL d (34 :: r) = match textT r [] with
    | none => .error 3
    | some (t, r) => .ok (.mk 5 0 ⟨t.toArray⟩ [] [], r) := by
  rw [valL_str d _ rfl]
  have e : textL (34 :: r) = textT r [] := by unfold textL; simp
  rw [e]
  cases textT r [] <;> rfl
theorem valL_49 (d : Nat) (r : List UInt8) (h : digH r = false) (h2 : pointB r = false) : valL d (49 :: r) = .ok (.mk 4 1 ⟨#[]⟩ [] [], r) := by
  rw [valL_num d _ 49 rfl (.inr (by decide))]
  have hn : numL (49 :: r) = some (1, r) := by
    unfold numL
    rw [if_neg (by simp)]
    obtain ⟨e1, e2⟩ := takeW_none h
    have h49 : digB 49 = true := by decide
    unfold numTail
    rw [List.takeWhile_cons, List.dropWhile_cons, h49, if_pos rfl, if_pos rfl, e1, e2, h2]
    simp [valD]
  rw [hn]
theorem textL_34 (r : List UInt8) : textL (34 :: r) = textT r [] := by unfold textL; simp
theorem blank_cons (c : UInt8) (r : List UInt8) (h : blankB c = false) : blanksL (c :: r) = c :: r := by unfold blanksL; rw [List.dropWhile_cons, h]; rfl
theorem blank_nil : blanksL [] = [] := rfl
theorem tst1 : parseL [123, 125] = .ok (.mk 7 0 ⟨#[]⟩ [] []) := by
  simp [parseL, valL_123, blank_cons, blank_nil, blankB]
theorem tst2 : parseL [123, 34, 117, 34, 58, 91, 93, 125] = .ok (.mk 7 0 ⟨#[]⟩ [⟨#[117]⟩] [.mk 6 0 ⟨#[]⟩ [] []]) := by
  simp [parseL, valL_123, valL_91, arrL_eq, objL_eq, blank_cons, blank_nil, blankB, textL_34, textT_asc, textT_end]
theorem tst3 : parseL [91, 49, 93, 120] = .error 3 := by
  simp [parseL, valL_123, valL_91, valL_49, digH, digB, pointB, arrL_eq, objL_eq, blank_cons, blank_nil, blankB, textL_34, textT_asc, textT_end]
end Go.Proofs.Ytnhoecmcbikcnaa
/-! Plain: the fixed requests of CallBad and of the document's example. -/
namespace Go.Proofs.Ytnhoecmcbikcnaa
open Go.RowKit Go.PlainAid
set_option linter.unusedVariables false
set_option linter.unusedSimpArgs false
set_option maxRecDepth 10000
theorem reqA_p : parseL [123, 34, 117, 115, 105, 110, 103, 34, 58, 91, 93, 44, 34, 109, 101, 116, 104, 111, 100, 67, 97, 108, 108, 115, 34, 58, 91, 93, 125] = .ok (.mk 7 0 ⟨#[]⟩ [⟨#[117, 115, 105, 110, 103]⟩, ⟨#[109, 101, 116, 104, 111, 100, 67, 97, 108, 108, 115]⟩] [(.mk 6 0 ⟨#[]⟩ [] []), (.mk 6 0 ⟨#[]⟩ [] [])]) := by simp [parseL, valL_49 0 [] rfl rfl, valL_123, valL_91, valL_34, valL_49, digH, digB, pointB, arrL_eq, objL_eq, blank_cons, blank_nil, blankB, textL_34, textT_asc, textT_end, lit_toList]
theorem reqA_r : readL [123, 34, 117, 115, 105, 110, 103, 34, 58, 91, 93, 44, 34, 109, 101, 116, 104, 111, 100, 67, 97, 108, 108, 115, 34, 58, 91, 93, 125] = .ok [] := by
  rw [readL_ok reqA_p]
  simp [readN, findN, idxK, List.findIdx?_cons, usingS, callsS, Nd.kind, Nd.kids, Nd.text, oddN, noneN, unkN, kindsK, eqK, clOf, lit_toList]
theorem req0_p : parseL [91, 93] = .ok (.mk 6 0 ⟨#[]⟩ [] []) := by simp [parseL, valL_49 0 [] rfl rfl, valL_123, valL_91, valL_34, valL_49, digH, digB, pointB, arrL_eq, objL_eq, blank_cons, blank_nil, blankB, textL_34, textT_asc, textT_end, lit_toList]
theorem req0_r : readL [91, 93] = .error notR := by
  rw [readL_ok req0_p]
  simp [readN, findN, idxK, List.findIdx?_cons, usingS, callsS, Nd.kind, Nd.kids, Nd.text, oddN, noneN, unkN, kindsK, eqK, clOf, lit_toList]
theorem req0_x : readL [91, 93, 120] = .error notJ := by
  refine readL_err (c := 3) ?_
  simp [parseL, valL_49 0 [] rfl rfl, valL_123, valL_91, valL_34, valL_49, digH, digB, pointB, arrL_eq, objL_eq, blank_cons, blank_nil, blankB, textL_34, textT_asc, textT_end, lit_toList]
theorem req1_p : parseL [123, 125] = .ok (.mk 7 0 ⟨#[]⟩ [] []) := by simp [parseL, valL_49 0 [] rfl rfl, valL_123, valL_91, valL_34, valL_49, digH, digB, pointB, arrL_eq, objL_eq, blank_cons, blank_nil, blankB, textL_34, textT_asc, textT_end, lit_toList]
theorem req1_r : readL [123, 125] = .error notR := by
  rw [readL_ok req1_p]
  simp [readN, findN, idxK, List.findIdx?_cons, usingS, callsS, Nd.kind, Nd.kids, Nd.text, oddN, noneN, unkN, kindsK, eqK, clOf, lit_toList]
theorem req1_x : readL [123, 125, 120] = .error notJ := by
  refine readL_err (c := 3) ?_
  simp [parseL, valL_49 0 [] rfl rfl, valL_123, valL_91, valL_34, valL_49, digH, digB, pointB, arrL_eq, objL_eq, blank_cons, blank_nil, blankB, textL_34, textT_asc, textT_end, lit_toList]
theorem req2_p : parseL [123, 34, 117, 115, 105, 110, 103, 34, 58, 91, 93, 125] = .ok (.mk 7 0 ⟨#[]⟩ [⟨#[117, 115, 105, 110, 103]⟩] [(.mk 6 0 ⟨#[]⟩ [] [])]) := by simp [parseL, valL_49 0 [] rfl rfl, valL_123, valL_91, valL_34, valL_49, digH, digB, pointB, arrL_eq, objL_eq, blank_cons, blank_nil, blankB, textL_34, textT_asc, textT_end, lit_toList]
theorem req2_r : readL [123, 34, 117, 115, 105, 110, 103, 34, 58, 91, 93, 125] = .error notR := by
  rw [readL_ok req2_p]
  simp [readN, findN, idxK, List.findIdx?_cons, usingS, callsS, Nd.kind, Nd.kids, Nd.text, oddN, noneN, unkN, kindsK, eqK, clOf, lit_toList]
theorem req2_x : readL [123, 34, 117, 115, 105, 110, 103, 34, 58, 91, 93, 125, 120] = .error notJ := by
  refine readL_err (c := 3) ?_
  simp [parseL, valL_49 0 [] rfl rfl, valL_123, valL_91, valL_34, valL_49, digH, digB, pointB, arrL_eq, objL_eq, blank_cons, blank_nil, blankB, textL_34, textT_asc, textT_end, lit_toList]
theorem req3_p : parseL [123, 34, 109, 101, 116, 104, 111, 100, 67, 97, 108, 108, 115, 34, 58, 91, 93, 125] = .ok (.mk 7 0 ⟨#[]⟩ [⟨#[109, 101, 116, 104, 111, 100, 67, 97, 108, 108, 115]⟩] [(.mk 6 0 ⟨#[]⟩ [] [])]) := by simp [parseL, valL_49 0 [] rfl rfl, valL_123, valL_91, valL_34, valL_49, digH, digB, pointB, arrL_eq, objL_eq, blank_cons, blank_nil, blankB, textL_34, textT_asc, textT_end, lit_toList]
theorem req3_r : readL [123, 34, 109, 101, 116, 104, 111, 100, 67, 97, 108, 108, 115, 34, 58, 91, 93, 125] = .error notR := by
  rw [readL_ok req3_p]
  simp [readN, findN, idxK, List.findIdx?_cons, usingS, callsS, Nd.kind, Nd.kids, Nd.text, oddN, noneN, unkN, kindsK, eqK, clOf, lit_toList]
theorem req3_x : readL [123, 34, 109, 101, 116, 104, 111, 100, 67, 97, 108, 108, 115, 34, 58, 91, 93, 125, 120] = .error notJ := by
  refine readL_err (c := 3) ?_
  simp [parseL, valL_49 0 [] rfl rfl, valL_123, valL_91, valL_34, valL_49, digH, digB, pointB, arrL_eq, objL_eq, blank_cons, blank_nil, blankB, textL_34, textT_asc, textT_end, lit_toList]
theorem req4_p : parseL [123, 34, 117, 115, 105, 110, 103, 34, 58, 123, 125, 44, 34, 109, 101, 116, 104, 111, 100, 67, 97, 108, 108, 115, 34, 58, 91, 93, 125] = .ok (.mk 7 0 ⟨#[]⟩ [⟨#[117, 115, 105, 110, 103]⟩, ⟨#[109, 101, 116, 104, 111, 100, 67, 97, 108, 108, 115]⟩] [(.mk 7 0 ⟨#[]⟩ [] []), (.mk 6 0 ⟨#[]⟩ [] [])]) := by simp [parseL, valL_49 0 [] rfl rfl, valL_123, valL_91, valL_34, valL_49, digH, digB, pointB, arrL_eq, objL_eq, blank_cons, blank_nil, blankB, textL_34, textT_asc, textT_end, lit_toList]
theorem req4_r : readL [123, 34, 117, 115, 105, 110, 103, 34, 58, 123, 125, 44, 34, 109, 101, 116, 104, 111, 100, 67, 97, 108, 108, 115, 34, 58, 91, 93, 125] = .error notR := by
  rw [readL_ok req4_p]
  simp [readN, findN, idxK, List.findIdx?_cons, usingS, callsS, Nd.kind, Nd.kids, Nd.text, oddN, noneN, unkN, kindsK, eqK, clOf, lit_toList]
theorem req4_x : readL [123, 34, 117, 115, 105, 110, 103, 34, 58, 123, 125, 44, 34, 109, 101, 116, 104, 111, 100, 67, 97, 108, 108, 115, 34, 58, 91, 93, 125, 120] = .error notJ := by
  refine readL_err (c := 3) ?_
  simp [parseL, valL_49 0 [] rfl rfl, valL_123, valL_91, valL_34, valL_49, digH, digB, pointB, arrL_eq, objL_eq, blank_cons, blank_nil, blankB, textL_34, textT_asc, textT_end, lit_toList]
theorem req5_p : parseL [123, 34, 117, 115, 105, 110, 103, 34, 58, 91, 49, 93, 44, 34, 109, 101, 116, 104, 111, 100, 67, 97, 108, 108, 115, 34, 58, 91, 93, 125] = .ok (.mk 7 0 ⟨#[]⟩ [⟨#[117, 115, 105, 110, 103]⟩, ⟨#[109, 101, 116, 104, 111, 100, 67, 97, 108, 108, 115]⟩] [(.mk 6 0 ⟨#[]⟩ [] [(.mk 4 1 ⟨#[]⟩ [] [])]), (.mk 6 0 ⟨#[]⟩ [] [])]) := by simp [parseL, valL_49 0 [] rfl rfl, valL_123, valL_91, valL_34, valL_49, digH, digB, pointB, arrL_eq, objL_eq, blank_cons, blank_nil, blankB, textL_34, textT_asc, textT_end, lit_toList]
theorem req5_r : readL [123, 34, 117, 115, 105, 110, 103, 34, 58, 91, 49, 93, 44, 34, 109, 101, 116, 104, 111, 100, 67, 97, 108, 108, 115, 34, 58, 91, 93, 125] = .error notR := by
  rw [readL_ok req5_p]
  simp [readN, findN, idxK, List.findIdx?_cons, usingS, callsS, Nd.kind, Nd.kids, Nd.text, oddN, noneN, unkN, kindsK, eqK, clOf, lit_toList]
theorem req5_x : readL [123, 34, 117, 115, 105, 110, 103, 34, 58, 91, 49, 93, 44, 34, 109, 101, 116, 104, 111, 100, 67, 97, 108, 108, 115, 34, 58, 91, 93, 125, 120] = .error notJ := by
  refine readL_err (c := 3) ?_
  simp [parseL, valL_49 0 [] rfl rfl, valL_123, valL_91, valL_34, valL_49, digH, digB, pointB, arrL_eq, objL_eq, blank_cons, blank_nil, blankB, textL_34, textT_asc, textT_end, lit_toList]
theorem req6_p : parseL [123, 34, 117, 115, 105, 110, 103, 34, 58, 91, 93, 44, 34, 109, 101, 116, 104, 111, 100, 67, 97, 108, 108, 115, 34, 58, 123, 125, 125] = .ok (.mk 7 0 ⟨#[]⟩ [⟨#[117, 115, 105, 110, 103]⟩, ⟨#[109, 101, 116, 104, 111, 100, 67, 97, 108, 108, 115]⟩] [(.mk 6 0 ⟨#[]⟩ [] []), (.mk 7 0 ⟨#[]⟩ [] [])]) := by simp [parseL, valL_49 0 [] rfl rfl, valL_123, valL_91, valL_34, valL_49, digH, digB, pointB, arrL_eq, objL_eq, blank_cons, blank_nil, blankB, textL_34, textT_asc, textT_end, lit_toList]
theorem req6_r : readL [123, 34, 117, 115, 105, 110, 103, 34, 58, 91, 93, 44, 34, 109, 101, 116, 104, 111, 100, 67, 97, 108, 108, 115, 34, 58, 123, 125, 125] = .error notR := by
  rw [readL_ok req6_p]
  simp [readN, findN, idxK, List.findIdx?_cons, usingS, callsS, Nd.kind, Nd.kids, Nd.text, oddN, noneN, unkN, kindsK, eqK, clOf, lit_toList]
theorem req6_x : readL [123, 34, 117, 115, 105, 110, 103, 34, 58, 91, 93, 44, 34, 109, 101, 116, 104, 111, 100, 67, 97, 108, 108, 115, 34, 58, 123, 125, 125, 120] = .error notJ := by
  refine readL_err (c := 3) ?_
  simp [parseL, valL_49 0 [] rfl rfl, valL_123, valL_91, valL_34, valL_49, digH, digB, pointB, arrL_eq, objL_eq, blank_cons, blank_nil, blankB, textL_34, textT_asc, textT_end, lit_toList]
theorem req7_p : parseL [123, 34, 117, 115, 105, 110, 103, 34, 58, 91, 93, 44, 34, 109, 101, 116, 104, 111, 100, 67, 97, 108, 108, 115, 34, 58, 91, 123, 125, 93, 125] = .ok (.mk 7 0 ⟨#[]⟩ [⟨#[117, 115, 105, 110, 103]⟩, ⟨#[109, 101, 116, 104, 111, 100, 67, 97, 108, 108, 115]⟩] [(.mk 6 0 ⟨#[]⟩ [] []), (.mk 6 0 ⟨#[]⟩ [] [(.mk 7 0 ⟨#[]⟩ [] [])])]) := by simp [parseL, valL_49 0 [] rfl rfl, valL_123, valL_91, valL_34, valL_49, digH, digB, pointB, arrL_eq, objL_eq, blank_cons, blank_nil, blankB, textL_34, textT_asc, textT_end, lit_toList]
theorem req7_r : readL [123, 34, 117, 115, 105, 110, 103, 34, 58, 91, 93, 44, 34, 109, 101, 116, 104, 111, 100, 67, 97, 108, 108, 115, 34, 58, 91, 123, 125, 93, 125] = .error notR := by
  rw [readL_ok req7_p]
  simp [readN, findN, idxK, List.findIdx?_cons, usingS, callsS, Nd.kind, Nd.kids, Nd.text, oddN, noneN, unkN, kindsK, eqK, clOf, lit_toList]
theorem req7_x : readL [123, 34, 117, 115, 105, 110, 103, 34, 58, 91, 93, 44, 34, 109, 101, 116, 104, 111, 100, 67, 97, 108, 108, 115, 34, 58, 91, 123, 125, 93, 125, 120] = .error notJ := by
  refine readL_err (c := 3) ?_
  simp [parseL, valL_49 0 [] rfl rfl, valL_123, valL_91, valL_34, valL_49, digH, digB, pointB, arrL_eq, objL_eq, blank_cons, blank_nil, blankB, textL_34, textT_asc, textT_end, lit_toList]
theorem req8_p : parseL [123, 34, 117, 115, 105, 110, 103, 34, 58, 91, 93, 44, 34, 109, 101, 116, 104, 111, 100, 67, 97, 108, 108, 115, 34, 58, 91, 91, 34, 97, 34, 44, 123, 125, 93, 93, 125] = .ok (.mk 7 0 ⟨#[]⟩ [⟨#[117, 115, 105, 110, 103]⟩, ⟨#[109, 101, 116, 104, 111, 100, 67, 97, 108, 108, 115]⟩] [(.mk 6 0 ⟨#[]⟩ [] []), (.mk 6 0 ⟨#[]⟩ [] [(.mk 6 0 ⟨#[]⟩ [] [(.mk 5 0 ⟨#[97]⟩ [] []), (.mk 7 0 ⟨#[]⟩ [] [])])])]) := by simp [parseL, valL_49 0 [] rfl rfl, valL_123, valL_91, valL_34, valL_49, digH, digB, pointB, arrL_eq, objL_eq, blank_cons, blank_nil, blankB, textL_34, textT_asc, textT_end, lit_toList]
theorem req8_r : readL [123, 34, 117, 115, 105, 110, 103, 34, 58, 91, 93, 44, 34, 109, 101, 116, 104, 111, 100, 67, 97, 108, 108, 115, 34, 58, 91, 91, 34, 97, 34, 44, 123, 125, 93, 93, 125] = .error notR := by
  rw [readL_ok req8_p]
  simp [readN, findN, idxK, List.findIdx?_cons, usingS, callsS, Nd.kind, Nd.kids, Nd.text, oddN, noneN, unkN, kindsK, eqK, clOf, lit_toList]
theorem req8_x : readL [123, 34, 117, 115, 105, 110, 103, 34, 58, 91, 93, 44, 34, 109, 101, 116, 104, 111, 100, 67, 97, 108, 108, 115, 34, 58, 91, 91, 34, 97, 34, 44, 123, 125, 93, 93, 125, 120] = .error notJ := by
  refine readL_err (c := 3) ?_
  simp [parseL, valL_49 0 [] rfl rfl, valL_123, valL_91, valL_34, valL_49, digH, digB, pointB, arrL_eq, objL_eq, blank_cons, blank_nil, blankB, textL_34, textT_asc, textT_end, lit_toList]
theorem req9_p : parseL [123, 34, 117, 115, 105, 110, 103, 34, 58, 91, 93, 44, 34, 109, 101, 116, 104, 111, 100, 67, 97, 108, 108, 115, 34, 58, 91, 91, 34, 97, 34, 44, 91, 93, 44, 34, 98, 34, 93, 93, 125] = .ok (.mk 7 0 ⟨#[]⟩ [⟨#[117, 115, 105, 110, 103]⟩, ⟨#[109, 101, 116, 104, 111, 100, 67, 97, 108, 108, 115]⟩] [(.mk 6 0 ⟨#[]⟩ [] []), (.mk 6 0 ⟨#[]⟩ [] [(.mk 6 0 ⟨#[]⟩ [] [(.mk 5 0 ⟨#[97]⟩ [] []), (.mk 6 0 ⟨#[]⟩ [] []), (.mk 5 0 ⟨#[98]⟩ [] [])])])]) := by simp [parseL, valL_49 0 [] rfl rfl, valL_123, valL_91, valL_34, valL_49, digH, digB, pointB, arrL_eq, objL_eq, blank_cons, blank_nil, blankB, textL_34, textT_asc, textT_end, lit_toList]
theorem req9_r : readL [123, 34, 117, 115, 105, 110, 103, 34, 58, 91, 93, 44, 34, 109, 101, 116, 104, 111, 100, 67, 97, 108, 108, 115, 34, 58, 91, 91, 34, 97, 34, 44, 91, 93, 44, 34, 98, 34, 93, 93, 125] = .error notR := by
  rw [readL_ok req9_p]
  simp [readN, findN, idxK, List.findIdx?_cons, usingS, callsS, Nd.kind, Nd.kids, Nd.text, oddN, noneN, unkN, kindsK, eqK, clOf, lit_toList]
theorem req9_x : readL [123, 34, 117, 115, 105, 110, 103, 34, 58, 91, 93, 44, 34, 109, 101, 116, 104, 111, 100, 67, 97, 108, 108, 115, 34, 58, 91, 91, 34, 97, 34, 44, 91, 93, 44, 34, 98, 34, 93, 93, 125, 120] = .error notJ := by
  refine readL_err (c := 3) ?_
  simp [parseL, valL_49 0 [] rfl rfl, valL_123, valL_91, valL_34, valL_49, digH, digB, pointB, arrL_eq, objL_eq, blank_cons, blank_nil, blankB, textL_34, textT_asc, textT_end, lit_toList]
theorem req10_p : parseL [123, 34, 117, 115, 105, 110, 103, 34, 58, 91, 93, 44, 34, 109, 101, 116, 104, 111, 100, 67, 97, 108, 108, 115, 34, 58, 91, 91, 49, 44, 123, 125, 44, 34, 98, 34, 93, 93, 125] = .ok (.mk 7 0 ⟨#[]⟩ [⟨#[117, 115, 105, 110, 103]⟩, ⟨#[109, 101, 116, 104, 111, 100, 67, 97, 108, 108, 115]⟩] [(.mk 6 0 ⟨#[]⟩ [] []), (.mk 6 0 ⟨#[]⟩ [] [(.mk 6 0 ⟨#[]⟩ [] [(.mk 4 1 ⟨#[]⟩ [] []), (.mk 7 0 ⟨#[]⟩ [] []), (.mk 5 0 ⟨#[98]⟩ [] [])])])]) := by simp [parseL, valL_49 0 [] rfl rfl, valL_123, valL_91, valL_34, valL_49, digH, digB, pointB, arrL_eq, objL_eq, blank_cons, blank_nil, blankB, textL_34, textT_asc, textT_end, lit_toList]
theorem req10_r : readL [123, 34, 117, 115, 105, 110, 103, 34, 58, 91, 93, 44, 34, 109, 101, 116, 104, 111, 100, 67, 97, 108, 108, 115, 34, 58, 91, 91, 49, 44, 123, 125, 44, 34, 98, 34, 93, 93, 125] = .error notR := by
  rw [readL_ok req10_p]
  simp [readN, findN, idxK, List.findIdx?_cons, usingS, callsS, Nd.kind, Nd.kids, Nd.text, oddN, noneN, unkN, kindsK, eqK, clOf, lit_toList]
theorem req10_x : readL [123, 34, 117, 115, 105, 110, 103, 34, 58, 91, 93, 44, 34, 109, 101, 116, 104, 111, 100, 67, 97, 108, 108, 115, 34, 58, 91, 91, 49, 44, 123, 125, 44, 34, 98, 34, 93, 93, 125, 120] = .error notJ := by
  refine readL_err (c := 3) ?_
  simp [parseL, valL_49 0 [] rfl rfl, valL_123, valL_91, valL_34, valL_49, digH, digB, pointB, arrL_eq, objL_eq, blank_cons, blank_nil, blankB, textL_34, textT_asc, textT_end, lit_toList]
theorem req11_p : parseL [49] = .ok (.mk 4 1 ⟨#[]⟩ [] []) := by simp [parseL, valL_49 0 [] rfl rfl, valL_123, valL_91, valL_34, valL_49, digH, digB, pointB, arrL_eq, objL_eq, blank_cons, blank_nil, blankB, textL_34, textT_asc, textT_end, lit_toList]
theorem req11_r : readL [49] = .error notR := by
  rw [readL_ok req11_p]
  simp [readN, findN, idxK, List.findIdx?_cons, usingS, callsS, Nd.kind, Nd.kids, Nd.text, oddN, noneN, unkN, kindsK, eqK, clOf, lit_toList]
theorem req11_x : readL [49, 120] = .error notJ := by
  refine readL_err (c := 3) ?_
  simp [parseL, valL_49 0 [] rfl rfl, valL_123, valL_91, valL_34, valL_49, digH, digB, pointB, arrL_eq, objL_eq, blank_cons, blank_nil, blankB, textL_34, textT_asc, textT_end, lit_toList]
def reqs : List ByteArray := [⟨#[91, 93]⟩, ⟨#[123, 125]⟩, ⟨#[123, 34, 117, 115, 105, 110, 103, 34, 58, 91, 93, 125]⟩, ⟨#[123, 34, 109, 101, 116, 104, 111, 100, 67, 97, 108, 108, 115, 34, 58, 91, 93, 125]⟩, ⟨#[123, 34, 117, 115, 105, 110, 103, 34, 58, 123, 125, 44, 34, 109, 101, 116, 104, 111, 100, 67, 97, 108, 108, 115, 34, 58, 91, 93, 125]⟩, ⟨#[123, 34, 117, 115, 105, 110, 103, 34, 58, 91, 49, 93, 44, 34, 109, 101, 116, 104, 111, 100, 67, 97, 108, 108, 115, 34, 58, 91, 93, 125]⟩, ⟨#[123, 34, 117, 115, 105, 110, 103, 34, 58, 91, 93, 44, 34, 109, 101, 116, 104, 111, 100, 67, 97, 108, 108, 115, 34, 58, 123, 125, 125]⟩, ⟨#[123, 34, 117, 115, 105, 110, 103, 34, 58, 91, 93, 44, 34, 109, 101, 116, 104, 111, 100, 67, 97, 108, 108, 115, 34, 58, 91, 123, 125, 93, 125]⟩, ⟨#[123, 34, 117, 115, 105, 110, 103, 34, 58, 91, 93, 44, 34, 109, 101, 116, 104, 111, 100, 67, 97, 108, 108, 115, 34, 58, 91, 91, 34, 97, 34, 44, 123, 125, 93, 93, 125]⟩, ⟨#[123, 34, 117, 115, 105, 110, 103, 34, 58, 91, 93, 44, 34, 109, 101, 116, 104, 111, 100, 67, 97, 108, 108, 115, 34, 58, 91, 91, 34, 97, 34, 44, 91, 93, 44, 34, 98, 34, 93, 93, 125]⟩, ⟨#[123, 34, 117, 115, 105, 110, 103, 34, 58, 91, 93, 44, 34, 109, 101, 116, 104, 111, 100, 67, 97, 108, 108, 115, 34, 58, 91, 91, 49, 44, 123, 125, 44, 34, 98, 34, 93, 93, 125]⟩, ⟨#[49]⟩]
theorem reqs_bad : ∀ s ∈ reqs, readL s.toList = .error notR ∧ readL (s ++ (⟨#[120]⟩ : ByteArray)).toList = .error notJ := by
  intro s hs
  unfold reqs at hs
  simp only [List.mem_cons, List.not_mem_nil, or_false] at hs
  rcases hs with rfl | rfl | rfl | rfl | rfl | rfl | rfl | rfl | rfl | rfl | rfl | rfl
  · exact ⟨by rw [lit_toList]; exact req0_r, by rw [app_toList, lit_toList, lit_toList]; exact req0_x⟩
  · exact ⟨by rw [lit_toList]; exact req1_r, by rw [app_toList, lit_toList, lit_toList]; exact req1_x⟩
  · exact ⟨by rw [lit_toList]; exact req2_r, by rw [app_toList, lit_toList, lit_toList]; exact req2_x⟩
  · exact ⟨by rw [lit_toList]; exact req3_r, by rw [app_toList, lit_toList, lit_toList]; exact req3_x⟩
  · exact ⟨by rw [lit_toList]; exact req4_r, by rw [app_toList, lit_toList, lit_toList]; exact req4_x⟩
  · exact ⟨by rw [lit_toList]; exact req5_r, by rw [app_toList, lit_toList, lit_toList]; exact req5_x⟩
  · exact ⟨by rw [lit_toList]; exact req6_r, by rw [app_toList, lit_toList, lit_toList]; exact req6_x⟩
  · exact ⟨by rw [lit_toList]; exact req7_r, by rw [app_toList, lit_toList, lit_toList]; exact req7_x⟩
  · exact ⟨by rw [lit_toList]; exact req8_r, by rw [app_toList, lit_toList, lit_toList]; exact req8_x⟩
  · exact ⟨by rw [lit_toList]; exact req9_r, by rw [app_toList, lit_toList, lit_toList]; exact req9_x⟩
  · exact ⟨by rw [lit_toList]; exact req10_r, by rw [app_toList, lit_toList, lit_toList]; exact req10_x⟩
  · exact ⟨by rw [lit_toList]; exact req11_r, by rw [app_toList, lit_toList, lit_toList]; exact req11_x⟩
end Go.Proofs.Ytnhoecmcbikcnaa
/-! The document's example of calls holds; CallBad. -/
namespace Go.Proofs.Ytnhoecmcbikcnaa
open Go.RowKit Go.PlainAid
set_option linter.unusedVariables false
set_option linter.unusedSimpArgs false
theorem kRead_any (s : ByteArray) (A : Option Addr) (c : Nat) (w : World) (h : BytesAt w A c s) : Calls Try.prog 14 #[.slice A s.size c] w (ReadP (readL s.toList) w) := by
  cases hr : parseL s.toList with
  | error ec => exact kRead_bad s A c w ec h hr
  | ok n => exact kRead_ok s A c w n h hr
theorem ReadP.bad {s : ByteArray} {r : Except ByteArray (List Cl)} {w : World} {e : Ending} {w' : World} (hr : r = .error s) (h : ReadP r w e w') : ∃ (A : Option Addr) (c : Nat), e = .returned (.tuple #[.slice A 0 c, .string s]) ∧ Below w.heap.size w w' := by
  subst hr
  obtain ⟨A, c, xs, he, _, _, hb⟩ := h
  exact ⟨A, c, he, hb⟩
theorem ReadP.none_ {r : Except ByteArray (List Cl)} {w : World} {e : Ending} {w' : World} (hr : r = .ok []) (h : ReadP r w e w') : ∃ (A : Option Addr) (c : Nat), e = .returned (.tuple #[.slice A 0 c, .string ⟨#[]⟩]) ∧ Below w.heap.size w w' := by
  subst hr
  obtain ⟨A, c, xs, he, _, _, hb⟩ := h
  exact ⟨A, c, he, hb⟩
theorem cells_at (w : World) (C : List Value) (fr : Nat × Nat) (s : ByteArray) (hn : C.length = s.size) (h : ∀ i, i < s.size → C[i]? = some (.int .u8 (bt s i))) : BytesAt (w.alloc (.cells C.toArray 5 fr)) (some ⟨w.heap.size, 0, none⟩) s.size s := by
  refine BytesAt.of_cells (fun _ => by simp) (fun i hi => ?_)
  rw [World.cell?_alloc_mark, Nat.zero_add]
  simpa using h i hi
set_option maxRecDepth 100000 in
set_option maxHeartbeats 2000000 in
theorem awake26_any (w : World) : Calls Try.prog 13 #[] w (BoolBel true w) := by
  have HP : Hid (Calls Try.prog 14 #[.slice (some ⟨w.heap.size, 0, none⟩) 29 29] (w.alloc (.cells #[.int .u8 123, .int .u8 34, .int .u8 117, .int .u8 115, .int .u8 105, .int .u8 110, .int .u8 103, .int .u8 34, .int .u8 58, .int .u8 91, .int .u8 93, .int .u8 44, .int .u8 34, .int .u8 109, .int .u8 101, .int .u8 116, .int .u8 104, .int .u8 111, .int .u8 100, .int .u8 67, .int .u8 97, .int .u8 108, .int .u8 108, .int .u8 115, .int .u8 34, .int .u8 58, .int .u8 91, .int .u8 93, .int .u8 125] 5 (29, 30))) (fun e w' => ∃ (A : Option Addr) (c : Nat), e = .returned (.tuple #[.slice A 0 c, .string ⟨#[]⟩]) ∧ Below (w.alloc (.cells #[.int .u8 123, .int .u8 34, .int .u8 117, .int .u8 115, .int .u8 105, .int .u8 110, .int .u8 103, .int .u8 34, .int .u8 58, .int .u8 91, .int .u8 93, .int .u8 44, .int .u8 34, .int .u8 109, .int .u8 101, .int .u8 116, .int .u8 104, .int .u8 111, .int .u8 100, .int .u8 67, .int .u8 97, .int .u8 108, .int .u8 108, .int .u8 115, .int .u8 34, .int .u8 58, .int .u8 91, .int .u8 93, .int .u8 125] 5 (29, 30))).heap.size (w.alloc (.cells #[.int .u8 123, .int .u8 34, .int .u8 117, .int .u8 115, .int .u8 105, .int .u8 110, .int .u8 103, .int .u8 34, .int .u8 58, .int .u8 91, .int .u8 93, .int .u8 44, .int .u8 34, .int .u8 109, .int .u8 101, .int .u8 116, .int .u8 104, .int .u8 111, .int .u8 100, .int .u8 67, .int .u8 97, .int .u8 108, .int .u8 108, .int .u8 115, .int .u8 34, .int .u8 58, .int .u8 91, .int .u8 93, .int .u8 125] 5 (29, 30))) w')) := by
    have hby : BytesAt (w.alloc (.cells #[.int .u8 123, .int .u8 34, .int .u8 117, .int .u8 115, .int .u8 105, .int .u8 110, .int .u8 103, .int .u8 34, .int .u8 58, .int .u8 91, .int .u8 93, .int .u8 44, .int .u8 34, .int .u8 109, .int .u8 101, .int .u8 116, .int .u8 104, .int .u8 111, .int .u8 100, .int .u8 67, .int .u8 97, .int .u8 108, .int .u8 108, .int .u8 115, .int .u8 34, .int .u8 58, .int .u8 91, .int .u8 93, .int .u8 125] 5 (29, 30))) (some ⟨w.heap.size, 0, none⟩) 29 ⟨#[123, 34, 117, 115, 105, 110, 103, 34, 58, 91, 93, 44, 34, 109, 101, 116, 104, 111, 100, 67, 97, 108, 108, 115, 34, 58, 91, 93, 125]⟩ := by
      refine BytesAt.of_cells (fun _ => by simp) (fun i hi => ?_)
      have hi : i < 29 := hi
      rw [World.cell?_alloc_mark]
      have : i = 0 ∨ i = 1 ∨ i = 2 ∨ i = 3 ∨ i = 4 ∨ i = 5 ∨ i = 6 ∨ i = 7 ∨ i = 8 ∨ i = 9 ∨ i = 10 ∨ i = 11 ∨ i = 12 ∨ i = 13 ∨ i = 14 ∨ i = 15 ∨ i = 16 ∨ i = 17 ∨ i = 18 ∨ i = 19 ∨ i = 20 ∨ i = 21 ∨ i = 22 ∨ i = 23 ∨ i = 24 ∨ i = 25 ∨ i = 26 ∨ i = 27 ∨ i = 28 := by omega
      rcases this with rfl | rfl | rfl | rfl | rfl | rfl | rfl | rfl | rfl | rfl | rfl | rfl | rfl | rfl | rfl | rfl | rfl | rfl | rfl | rfl | rfl | rfl | rfl | rfl | rfl | rfl | rfl | rfl | rfl <;> rfl
    exact (kRead_any ⟨#[123, 34, 117, 115, 105, 110, 103, 34, 58, 91, 93, 44, 34, 109, 101, 116, 104, 111, 100, 67, 97, 108, 108, 115, 34, 58, 91, 93, 125]⟩ _ _ _ hby).mono (fun e w' h => ReadP.none_ (by rw [lit_toList]; exact reqA_r) h)
  have HP2 : Hid (∀ w1 : World, Calls Try.prog 14 #[.slice (some ⟨w1.heap.size, 0, none⟩) 2 2] (w1.alloc (.cells #[.int .u8 123, .int .u8 125] 5 (2, 3))) (fun e w' => ∃ (A : Option Addr) (c : Nat), e = .returned (.tuple #[.slice A 0 c, .string notR]) ∧ Below (w1.alloc (.cells #[.int .u8 123, .int .u8 125] 5 (2, 3))).heap.size (w1.alloc (.cells #[.int .u8 123, .int .u8 125] 5 (2, 3))) w')) := fun w1 => by
    have hby : BytesAt (w1.alloc (.cells #[.int .u8 123, .int .u8 125] 5 (2, 3))) (some ⟨w1.heap.size, 0, none⟩) 2 ⟨#[123, 125]⟩ := by
      refine BytesAt.of_cells (fun _ => by simp) (fun i hi => ?_)
      have hi : i < 2 := hi
      rw [World.cell?_alloc_mark]
      have : i = 0 ∨ i = 1 := by omega
      rcases this with rfl | rfl <;> rfl
    exact (kRead_any ⟨#[123, 125]⟩ _ _ _ hby).mono (fun e w' h => ReadP.bad (by rw [lit_toList]; exact req1_r) h)
  unfold notR at HP2
  have HA : Hid (Below w.heap.size w (w.alloc (.cells #[.int .u8 123, .int .u8 34, .int .u8 117, .int .u8 115, .int .u8 105, .int .u8 110, .int .u8 103, .int .u8 34, .int .u8 58, .int .u8 91, .int .u8 93, .int .u8 44, .int .u8 34, .int .u8 109, .int .u8 101, .int .u8 116, .int .u8 104, .int .u8 111, .int .u8 100, .int .u8 67, .int .u8 97, .int .u8 108, .int .u8 108, .int .u8 115, .int .u8 34, .int .u8 58, .int .u8 91, .int .u8 93, .int .u8 125] 5 (29, 30)))) := (Below.refl _ _).alloc (Nat.le_refl _) _
  have kc := fun (w : World) (C : Array Value) (n c : Nat) => Lib.run_convert_bytes_const (P := Try.prog) w 22 5 C n c Try.underlying22 Try.underlying5
  go_enter Try.func13, Try.ntmps13
  go_wp2_with fail
  refine (HP.out : Calls _ _ _ _ _).mono ?_
  rintro e w1 ⟨A1, c1, rfl, hb⟩
  have HB := Lib.hid (nextB HA.out hb)
  clear hb
  go_wp2_with fail
  refine (HP2.out _ : Calls _ _ _ _ _).mono ?_
  rintro e w2 ⟨A2, c2, rfl, hb⟩
  have HB2 := Lib.hid (nextB (HB.out.alloc HB.out.size _) hb)
  clear hb
  go_wp2_with fail
  go_ret
  exact ⟨rfl, HB2.out⟩
end Go.Proofs.Ytnhoecmcbikcnaa
/-! Plain: the request of CallMany. -/
namespace Go.Proofs.Ytnhoecmcbikcnaa
open Go.RowKit Go.PlainAid
set_option linter.unusedVariables false
set_option linter.unusedSimpArgs false
theorem textT_plain : ∀ (t r acc : List UInt8), (∀ c ∈ t, 32 ≤ c.toNat ∧ c.toNat < 128 ∧ c ≠ 34 ∧ c ≠ 92) → textT (t ++ 34 :: r) acc = some (acc ++ t, r)
  | [], r, acc, _ => by rw [List.nil_append, textT_end, List.append_nil]
  | c :: t, r, acc, h => by
    obtain ⟨h0, h1, h2, h3⟩ := h c (by simp)
    rw [List.cons_append, textT_asc _ _ h0 h1 h2 h3, textT_plain t r _ (fun c hc => h c (by simp [hc])), List.append_assoc, List.singleton_append]
theorem dec_plain (n : Nat) : ∀ c ∈ Lib.decDigits n, 48 ≤ c.toNat ∧ c.toNat ≤ 57 := by
  induction n using Nat.strongRecOn with
  | ind n ih =>
    intro c hc
    rw [Lib.decDigits] at hc
    split at hc
    · simp only [List.mem_singleton] at hc
      subst hc
      simp only [UInt8.toNat_ofNat']
      omega
    · rw [List.mem_append, List.mem_singleton] at hc
      rcases hc with hc | rfl
      · exact ih (n / 10) (by omega) c hc
      · simp only [UInt8.toNat_ofNat']
        omega
def digL (i : Nat) : List UInt8 := (digS (i : Int)).toList
theorem digL_ok (i : Nat) : ∀ c ∈ digL i, 32 ≤ c.toNat ∧ c.toNat < 128 ∧ c ≠ 34 ∧ c ≠ 92 := by
  intro c hc
  unfold digL at hc
  rw [digS_toList _ (by omega)] at hc
  have h := dec_plain _ c hc
  refine ⟨by omega, by omega, ?_, ?_⟩ <;> (rintro rfl; have e1 : ((34 : UInt8).toNat) = 34 := rfl; have e2 : ((92 : UInt8).toNat) = 92 := rfl; omega)
theorem textT_dig (i : Nat) (r acc : List UInt8) : textT (digL i ++ 34 :: r) acc = some (acc ++ digL i, r) := textT_plain _ _ _ (digL_ok i)
def itemL (i : Nat) : List UInt8 := 91 :: 34 :: 109 :: (digL i ++ 34 :: 44 :: 123 :: 125 :: 44 :: 34 :: 99 :: (digL i ++ [34, 93]))
def mS (i : Nat) : ByteArray := (⟨#[109]⟩ : ByteArray) ++ digS (i : Int)
def cS (i : Nat) : ByteArray := (⟨#[99]⟩ : ByteArray) ++ digS (i : Int)
theorem mS_eq (i : Nat) : (⟨(109 :: digL i).toArray⟩ : ByteArray) = mS i := by
  have e : (⟨#[109]⟩ : ByteArray).toList = [109] := lit_toList [109]
  apply ba_ext'; unfold mS digL; rw [lit_toList, app_toList, e]; rfl
theorem cS_eq (i : Nat) : (⟨(99 :: digL i).toArray⟩ : ByteArray) = cS i := by
  have e : (⟨#[99]⟩ : ByteArray).toList = [99] := lit_toList [99]
  apply ba_ext'; unfold cS digL; rw [lit_toList, app_toList, e]; rfl
def callN (i : Nat) : Nd := .mk 6 0 ⟨#[]⟩ [] [.mk 5 0 (mS i) [] [], .mk 7 0 ⟨#[]⟩ [] [], .mk 5 0 (cS i) [] []]
theorem valL_item (i : Nat) (r : List UInt8) : valL 2 (itemL i ++ r) = .ok (callN i, r) := by
  have e : itemL i ++ r = 91 :: 34 :: 109 :: (digL i ++ 34 :: 44 :: 123 :: 125 :: 44 :: 34 :: 99 :: (digL i ++ 34 :: 93 :: r)) := by simp [itemL]
  rw [e]
  unfold callN
  rw [← mS_eq, ← cS_eq]
  simp [valL_123, valL_91, valL_34, arrL_eq, blank_cons, blankB, textL_34, textT_asc, textT_dig]
def joinL : Nat → Nat → List UInt8
  | j, 0 => itemL j
  | j, m + 1 => itemL j ++ 44 :: joinL (j + 1) m
theorem blanks_item (j : Nat) (r : List UInt8) : blanksL (itemL j ++ r) = itemL j ++ r := by
  unfold itemL; simp only [List.cons_append]; exact blank_cons 91 _ (by decide)
theorem arrL_join (m : Nat) : ∀ (j : Nat) (ns : List Nd) (r : List UInt8), arrL 1 (joinL j m ++ 93 :: r) ns = .ok (.mk 6 0 ⟨#[]⟩ [] (ns ++ (List.range' j (m + 1)).map callN), r) := by
  induction m with
  | zero =>
    intro j ns r
    unfold joinL
    rw [arrL_eq, blanks_item, valL_item]
    simp [blank_cons, blankB, List.range'_succ]
  | succ m ih =>
    intro j ns r
    unfold joinL
    rw [List.append_assoc, arrL_eq, blanks_item, valL_item]
    simp only [List.cons_append, blank_cons 44 _ (by decide), List.head?_cons, List.tail_cons]
    rw [if_neg (by decide), if_pos trivial, ih]
    rw [List.range'_succ (n := m + 1)]
    simp
theorem joinL_snoc (m : Nat) : ∀ j, joinL j (m + 1) = joinL j m ++ 44 :: itemL (j + m + 1) := by
  induction m with
  | zero => intro j; simp [joinL]
  | succ m ih => intro j; rw [joinL, ih (j + 1), joinL]; simp; congr 1; omega
def listL : Nat → List UInt8
  | 0 => []
  | m + 1 => joinL 0 m
def callsN (k : Nat) : List Nd := (List.range' 0 k).map callN
theorem valL_list (k : Nat) (r : List UInt8) : valL 1 (91 :: (listL k ++ 93 :: r)) = .ok (.mk 6 0 ⟨#[]⟩ [] (callsN k), r) := by
  cases k with
  | zero => simp [listL, callsN, valL_91, blank_cons, blankB]
  | succ m =>
    have e : joinL 0 m = 91 :: (joinL 0 m).tail := by cases m <;> simp [joinL, itemL]
    have hb : blanksL (joinL 0 m ++ 93 :: r) = joinL 0 m ++ 93 :: r := by rw [e, List.cons_append]; exact blank_cons 91 _ (by decide)
    have hh : (joinL 0 m ++ 93 :: r).head? = some 91 := by rw [e]; rfl
    unfold listL
    rw [valL_91 1 _ (by decide), hb, hh, if_neg (by decide), arrL_join]
    rfl
/-- the text as the law makes it -/
def preS : ByteArray := ⟨#[123, 34, 109, 101, 116, 104, 111, 100, 67, 97, 108, 108, 115, 34, 58, 91]⟩
def sepS (i : Nat) (s : ByteArray) : ByteArray := if i = 0 then s else s ++ (⟨#[44]⟩ : ByteArray)
def addS (i : Nat) (s : ByteArray) : ByteArray := ((((s ++ (⟨#[91, 34, 109]⟩ : ByteArray)) ++ digS (i : Int)) ++ (⟨#[34, 44, 123, 125, 44, 34, 99]⟩ : ByteArray)) ++ digS (i : Int)) ++ (⟨#[34, 93]⟩ : ByteArray)
def manyS : Nat → ByteArray
  | 0 => preS
  | i + 1 => addS i (sepS i (manyS i))
theorem addS_toList (i : Nat) (s : ByteArray) : (addS i s).toList = s.toList ++ itemL i := by
  unfold addS
  simp only [app_toList, lit_toList]
  simp [itemL, digL]
theorem manyS_toList : ∀ i, (manyS i).toList = preS.toList ++ listL i
  | 0 => by simp [manyS, listL]
  | 1 => by
    show (addS 0 (sepS 0 (manyS 0))).toList = _
    rw [addS_toList]; unfold sepS; rw [if_pos rfl, manyS_toList 0]; simp [listL, joinL]
  | i + 2 => by
    show (addS (i + 1) (sepS (i + 1) (manyS (i + 1)))).toList = _
    rw [addS_toList]; unfold sepS; rw [if_neg (by omega), app_toList, manyS_toList (i + 1), lit_toList]
    simp only [listL]
    rw [joinL_snoc]; simp
theorem digS_le (i : Nat) (h : i < 30) : (digS (i : Int)).size ≤ 21 := itoa_len _ (by omega) (by omega)
theorem addS_size (i : Nat) (s : ByteArray) (h : i < 30) : (addS i s).size ≤ s.size + 54 := by
  unfold addS
  have := digS_le i h
  simp only [ByteArray.size_append]
  have e1 : (⟨#[91, 34, 109]⟩ : ByteArray).size = 3 := rfl
  have e2 : (⟨#[34, 44, 123, 125, 44, 34, 99]⟩ : ByteArray).size = 7 := rfl
  have e3 : (⟨#[34, 93]⟩ : ByteArray).size = 2 := rfl
  omega
theorem sepS_size (i : Nat) (s : ByteArray) : (sepS i s).size ≤ s.size + 1 := by
  unfold sepS
  split
  · omega
  · rw [ByteArray.size_append]; exact Nat.le_refl _
theorem manyS_size : ∀ i, i ≤ 30 → (manyS i).size ≤ 16 + 55 * i
  | 0, _ => by decide
  | i + 1, h => by
    have h1 := manyS_size i (by omega)
    have h2 := sepS_size i (manyS i)
    have h3 := addS_size i (sepS i (manyS i)) (by omega)
    show (addS i (sepS i (manyS i))).size ≤ _
    omega
def coreT : ByteArray := ⟨#[117, 114, 110, 58, 105, 101, 116, 102, 58, 112, 97, 114, 97, 109, 115, 58, 106, 109, 97, 112, 58, 99, 111, 114, 101]⟩
def usA : ByteArray := ⟨#[34, 117, 114, 110, 58, 105, 101, 116, 102, 58, 112, 97, 114, 97, 109, 115, 58, 106, 109, 97, 112, 58, 99, 111, 114, 101, 34]⟩
def usB : ByteArray := usA ++ (⟨#[44, 34, 117, 114, 110, 58, 120, 34]⟩ : ByteArray)
def wholeS (k : Nat) (u : ByteArray) : ByteArray := ((manyS k ++ (⟨#[93, 44, 34, 117, 115, 105, 110, 103, 34, 58, 91]⟩ : ByteArray)) ++ u) ++ (⟨#[93, 125]⟩ : ByteArray)
theorem whole_size (k : Nat) (u : ByteArray) (h : k ≤ 30) : (wholeS k u).size ≤ 1700 + u.size := by
  have := manyS_size k h
  unfold wholeS
  simp only [ByteArray.size_append]
  have e1 : (⟨#[93, 44, 34, 117, 115, 105, 110, 103, 34, 58, 91]⟩ : ByteArray).size = 11 := rfl
  have e2 : (⟨#[93, 125]⟩ : ByteArray).size = 2 := rfl
  omega
def coreN : Nd := .mk 5 0 coreT [] []
def xN : Nd := .mk 5 0 ⟨#[117, 114, 110, 58, 120]⟩ [] []
set_option maxRecDepth 10000
theorem valL_usA (r : List UInt8) : valL 1 (91 :: (usA.toList ++ 93 :: r)) = .ok (.mk 6 0 ⟨#[]⟩ [] [coreN], r) := by
  unfold usA coreN coreT
  rw [lit_toList]
  simp [valL_91, valL_34, arrL_eq, blank_cons, blankB, textL_34, textT_asc, textT_end]
theorem valL_usB (r : List UInt8) : valL 1 (91 :: (usB.toList ++ 93 :: r)) = .ok (.mk 6 0 ⟨#[]⟩ [] [coreN, xN], r) := by
  unfold usB usA coreN coreT xN
  rw [app_toList, lit_toList, lit_toList]
  simp [valL_91, valL_34, arrL_eq, blank_cons, blankB, textL_34, textT_asc, textT_end]
theorem parse_whole (k : Nat) (u : ByteArray) (us : List Nd) (hk : k ≤ 30) (hu : u.size ≤ 100) (h : ∀ r, valL 1 (91 :: (u.toList ++ 93 :: r)) = .ok (.mk 6 0 ⟨#[]⟩ [] us, r)) :
    parseL (wholeS k u).toList = .ok (.mk 7 0 ⟨#[]⟩ [callsS, usingS] [.mk 6 0 ⟨#[]⟩ [] (callsN k), .mk 6 0 ⟨#[]⟩ [] us]) := by
  have hs := whole_size k u hk
  have hl : ¬ 65536 < (wholeS k u).toList.length := by rw [ByteArray.toList_eq, Array.length_toList]; show ¬ 65536 < (wholeS k u).size; omega
  have e : (wholeS k u).toList = 123 :: 34 :: 109 :: 101 :: 116 :: 104 :: 111 :: 100 :: 67 :: 97 :: 108 :: 108 :: 115 :: 34 :: 58 :: 91 :: (listL k ++ 93 :: 44 :: 34 :: 117 :: 115 :: 105 :: 110 :: 103 :: 34 :: 58 :: 91 :: (u.toList ++ [93, 125])) := by
    unfold wholeS
    simp only [app_toList, lit_toList, manyS_toList, preS]
    simp
  unfold parseL
  rw [if_neg hl, e]
  unfold callsS usingS
  simp [valL_123, valL_list, h, objL_eq, blank_cons, blank_nil, blankB, textL_34, textT_asc, textT_end, lit_toList]
theorem callN_ok (k : Nat) : (callsN k).any noneN = false := by
  rw [List.any_eq_false]
  intro n hn
  unfold callsN at hn
  rw [List.mem_map] at hn
  obtain ⟨i, _, rfl⟩ := hn
  simp [callN, noneN, kindsK, eqK, Nd.kind, Nd.kids]
theorem core_known : knownS coreT = true := by unfold knownS coreT; rw [lit_toList]; rfl
theorem x_known : knownS ⟨#[117, 114, 110, 58, 120]⟩ = false := by unfold knownS; rw [lit_toList]; rfl
theorem read_whole (k : Nat) (u : ByteArray) (us : List Nd) (hk : k ≤ 30) (hu : u.size ≤ 100) (h : ∀ r, valL 1 (91 :: (u.toList ++ 93 :: r)) = .ok (.mk 6 0 ⟨#[]⟩ [] us, r)) (ho : us.any oddN = false) :
    readL (wholeS k u).toList = if us.any unkN = true then .error unkC else if 16 < k then .error limS else .ok ((callsN k).map clOf) := by
  rw [readL_ok (parse_whole k u us hk hu h)]
  have hc : (callsN k).length = k := by simp [callsN]
  have f1 : findN (.mk 7 0 ⟨#[]⟩ [callsS, usingS] [.mk 6 0 ⟨#[]⟩ [] (callsN k), .mk 6 0 ⟨#[]⟩ [] us]) usingS = some (.mk 6 0 ⟨#[]⟩ [] us) := by
    simp [findN, idxK, List.findIdx?_cons, usingS, callsS, lit_toList]
  have f2 : findN (.mk 7 0 ⟨#[]⟩ [callsS, usingS] [.mk 6 0 ⟨#[]⟩ [] (callsN k), .mk 6 0 ⟨#[]⟩ [] us]) callsS = some (.mk 6 0 ⟨#[]⟩ [] (callsN k)) := by
    simp [findN, idxK, List.findIdx?_cons, usingS, callsS, lit_toList]
  rw [f1, f2]
  simp [readN, Nd.kind, Nd.kids, ho, callN_ok, hc]
theorem read_other (k : Nat) (hk : k ≤ 30) : readL (wholeS k usB).toList = .error unkC := by
  rw [read_whole k usB [coreN, xN] hk (by decide) valL_usB (by decide), if_pos (by simp [unkN, coreN, xN, Nd.text, core_known, x_known])]
theorem read_more (k : Nat) (hk : k ≤ 30) (h : 16 < k) : readL (wholeS k usA).toList = .error limS := by
  rw [read_whole k usA [coreN] hk (by decide) valL_usA (by decide), if_neg (by simp [unkN, coreN, xN, Nd.text, core_known, x_known]), if_pos h]
def clsN (k : Nat) : List Cl := (List.range' 0 k).map fun i => ⟨mS i, .mk 7 0 ⟨#[]⟩ [] [], cS i⟩
theorem read_all (k : Nat) (h : k ≤ 16) : readL (wholeS k usA).toList = .ok (clsN k) := by
  rw [read_whole k usA [coreN] (by omega) (by decide) valL_usA (by decide), if_neg (by simp [unkN, coreN, xN, Nd.text, core_known, x_known]), if_neg (by omega)]
  unfold callsN clsN
  rw [List.map_map]
  rfl
theorem clsN_len (k : Nat) : (clsN k).length = k := by simp [clsN]
theorem clsN_at (k i : Nat) (h : i < k) : (clsN k)[i]? = some ⟨mS i, .mk 7 0 ⟨#[]⟩ [] [], cS i⟩ := by
  unfold clsN
  rw [List.getElem?_map, List.getElem?_range' h]
  simp
end Go.Proofs.Ytnhoecmcbikcnaa
/-! Rows of the reference's calls. -/
namespace Go.Proofs.Ytnhoecmcbikcnaa
open Go.RowKit Go.PlainAid
set_option linter.unusedVariables false
set_option linter.unusedSimpArgs false
theorem rcallInfo : (Try.prog.info? 68).map (fun i => (i.zero, i.size, i.bytes)) = some (some (.agg #[.string ⟨#[]⟩, .int .i64 0, .int .i64 0, .string ⟨#[]⟩, .slice none 0 0, .slice none 0 0, .string ⟨#[]⟩]), 7, 112) := by kernel_rfl
theorem step_pushRc {w : World} {ops : Array Oper} {o : Oper} {a : Act} {K : Act → World → Prop} {Q : Exit → Act → World → Prop} {E : Prop} (hgd : o.guard = none) (s x : Operand)
    (ho : o.op = .call { callee := .builtin .append, args := #[s, x], argTypes := #[39, 39] })
    (B : Nat) (v : Value) (n : Nat) (xs : List Value) (hs : a.eval s = v) (hown : w.ownsRow B 68 7 v n xs) (B2 : Nat) (A : Option Addr) (m c : Nat) (ys : List Value) (hr : Reads w B2 7 A m ys) (h1 : ∀ u ∈ ys, u.oneCell' = true)
    (hx : a.eval x = .slice A m c)
    (hlim : n + m ≤ 1000000000) (hB : B ≤ w.heap.size)
    (h : ∀ v' w', w'.ownsRow B 68 7 v' (n + m) (xs ++ ys) → w.grownBy w' v.ownBlock → K (a.put o.dst v') w') :
    if Region.wanted o (yielded ops a.tmps) = true then Oper.wp Try.prog o a w K Q else E := by
  have hw : Region.wanted o (yielded ops a.tmps) = true := by simp [Region.wanted, hgd]
  rw [if_pos hw]
  obtain ⟨i0, hi0, hz0, hz1, hz2⟩ := info_parts rcallInfo
  obtain ⟨v', w', h1, h2, h3, h4⟩ := run_append_any (P := Try.prog) w B 39 o.type 68 i0 _ 7 112 Try.underlying39 hi0 hz0 hz1 hz2 rfl (by omega) v n _ hown B2 _ m c _ hr
    h1 (by simp only [maxLen]; omega) (by omega) hB
  unfold Oper.wp execOp
  simp only [ho, resolve, invoke, builtin, Sem.run_bind, Sem.run_pure, Result.andThen_ok, List.map_toArray, List.map_cons, List.map_nil, hs, hx, h1]
  exact h v' w' h2 h3
theorem rreads7 (w : World) (v0 v1 v2 v3 v4 v5 v6 : Value) : Reads (w.alloc (.cells #[v0, v1, v2, v3, v4, v5, v6] 68)) (w.heap.size + 1) 7 (some ⟨w.heap.size, 0, none⟩) 1 [v0, v1, v2, v3, v4, v5, v6] := by
  refine ⟨rfl, fun _ => ⟨_, rfl, by simp, fun j u hj => ?_⟩⟩
  have e : (⟨w.heap.size, 0, none⟩ : Addr).add j = ⟨w.heap.size, j, none⟩ := by unfold Addr.add; split <;> simp_all
  rw [e, World.cell?_alloc_mark]
  simpa using hj
def RCInv (w4 : World) (M : Nd) (i : Nat) (Ao : Option Addr) (co : Nat) (wr : World) : Prop := ∃ xs, wr.ownsRow w4.heap.size 68 7 (.slice Ao i co) i xs ∧ ClsIs wr w4.heap.size ((M.kids.take i).map clOf) xs ∧ Below w4.heap.size w4 wr
theorem any_yes' {ns : List Nd} {p : Nd → Bool} {i : Nat} {n : Nd} (h : ns[i]? = some n) (hp : p n = true) : ns.any p = true := by
  rw [List.any_eq_true]; exact ⟨n, List.mem_of_getElem? h, hp⟩
theorem any_no' {ns : List Nd} {p : Nd → Bool} (h : ∀ (j : Nat) (x : Nd), j < ns.length → ns[j]? = some x → p x = false) : ns.any p = false := by
  rw [List.any_eq_false]
  intro x hx
  obtain ⟨j, hj⟩ := List.mem_iff_getElem?.1 hx
  rw [h j x (List.getElem?_eq_some_iff.1 hj).1 hj]; simp
/-- the cells that one call is made of, beside the list -/
def KidR (kb ko : Nat) (ta tc : ByteArray) (b0 b1 : Int) (b2 : ByteArray) (b3 : Option Addr) (b4 b5 : Nat) (b6 : Option Addr) (b7 b8 : Nat) (w' : World) : Prop :=
  w'.cell? ⟨kb, ko + 2, none⟩ = some (.string ta) ∧ w'.cell? ⟨kb, ko + 5, none⟩ = some (.int .i64 b0) ∧ w'.cell? ⟨kb, ko + 6, none⟩ = some (.int .i64 b1) ∧ w'.cell? ⟨kb, ko + 7, none⟩ = some (.string b2) ∧ w'.cell? ⟨kb, ko + 8, none⟩ = some (.slice b3 b4 b5) ∧ w'.cell? ⟨kb, ko + 9, none⟩ = some (.slice b6 b7 b8) ∧ w'.cell? ⟨kb, ko + 12, none⟩ = some (.string tc)
theorem KidR.keep {kb ko : Nat} {ta tc : ByteArray} {b0 b1 : Int} {b2 : ByteArray} {b3 : Option Addr} {b4 b5 : Nat} {b6 : Option Addr} {b7 b8 : Nat} {w w' : World} (hk : w'.heap[kb]? = w.heap[kb]?) (h : KidR kb ko ta tc b0 b1 b2 b3 b4 b5 b6 b7 b8 w) : KidR kb ko ta tc b0 b1 b2 b3 b4 b5 b6 b7 b8 w' := by
  have h1 : ∀ j, w'.cell? ⟨kb, j, none⟩ = w.cell? ⟨kb, j, none⟩ := fun j => World.cell?_of_block hk
  obtain ⟨k1, k2, k3, k4, k5, k6, k7⟩ := h
  exact ⟨(h1 _).trans k1, (h1 _).trans k2, (h1 _).trans k3, (h1 _).trans k4, (h1 _).trans k5, (h1 _).trans k6, (h1 _).trans k7⟩
/-- three kids' kinds as they lie -/
theorem kinds3 {w : World} {B : Nat} {n a b c : Nd} {c0 c1 : Int} {c2 : ByteArray} {c3 : Option Addr} {c4 c5 : Nat} {kb ko c7 c8 : Nat} (h : NdIs w B n [.int .i64 c0, .int .i64 c1, .string c2, .slice c3 c4 c5, .slice (some ⟨kb, ko, none⟩) c7 c8]) (hk : n.kids = [a, b, c]) :
    w.cell? ⟨kb, ko, none⟩ = some (.int .i64 a.kind) ∧ w.cell? ⟨kb, ko + 5, none⟩ = some (.int .i64 b.kind) ∧ w.cell? ⟨kb, ko + 10, none⟩ = some (.int .i64 c.kind) := by
  cases n with
  | mk k m t ks ns =>
    have hk2 : ns = [a, b, c] := hk
    subst hk2
    obtain ⟨hl, hq⟩ := kid_cells h
    obtain ⟨kb', ko', e, hb, hcell⟩ := hq (by simp)
    injection e with e; injection e with e1 e2
    subst e1 e2
    obtain ⟨ca, na, ha⟩ := hcell 0 a rfl
    obtain ⟨cb, nb, hbb⟩ := hcell 1 b rfl
    obtain ⟨cc, nc, hcc⟩ := hcell 2 c rfl
    obtain ⟨A1, k1, B1, l1, x1, ea, _⟩ := na.open_
    obtain ⟨A3, k3, B3, l3, x3, eb, _⟩ := nb.open_
    obtain ⟨A2, k2, B2, l2, x2, ec, _⟩ := nc.open_
    exact ⟨ha 0 _ (by rw [ea]; rfl), hbb 0 _ (by rw [eb]; rfl), hcc 0 _ (by rw [ec]; rfl)⟩
theorem none_1 {n : Nd} (h : n.kind ≠ 6) : noneN n = true := by unfold noneN kindsK; rw [show (n.kind == 6) = false by rw [beq_eq_false_iff_ne]; exact h]; rfl
theorem none_2 {n : Nd} (h : n.kids.length ≠ 3) : noneN n = true := by unfold noneN kindsK; rw [eqK_len _ _ (by simpa using h), Bool.and_false]; rfl
theorem none_3 {n a b c : Nd} (h6 : n.kind = 6) (hk : n.kids = [a, b, c]) : noneN n = !((a.kind == 5) && ((b.kind == 7) && (c.kind == 5))) := by
  unfold noneN kindsK
  rw [hk, h6]
  simp [eqK]
theorem find_size {n : Nd} {x : ByteArray} (h : sizeOk n) : ((findN n x).getD (nd0 0)).kids.length ≤ 1000000 := by
  cases hq : findN n x with
  | none => show (nd0 0).kids.length ≤ _; unfold nd0 Nd.kids; simp
  | some k =>
    cases n with
    | mk a b t ks ns =>
      replace hq : (if a = 7 then match idxK ks x with | none => none | some i => ns[i]? else none) = some k := hq
      by_cases h7 : a = 7
      · rw [if_pos h7] at hq
        cases hi : idxK ks x with
        | none => rw [hi] at hq; cases hq
        | some i =>
          rw [hi] at hq
          have hm : k ∈ ns := List.mem_of_getElem? hq
          unfold sizeOk at h
          have hk : sizeOk k := by
            have hL : ∀ (l : List Nd), sizeOkL l → k ∈ l → sizeOk k := by
              intro l
              induction l with
              | nil => intro _ h; cases h
              | cons m l ih =>
                intro h1 h2
                unfold sizeOkL at h1
                rcases List.mem_cons.1 h2 with rfl | h2
                · exact h1.1
                · exact ih h1.2 h2
            exact hL ns h.2.2.2.2 hm
          show k.kids.length ≤ _
          cases k
          unfold sizeOk at hk
          exact hk.2.2.2.1.2
      · rw [if_neg h7] at hq; cases hq
theorem list3 {l : List Nd} (h : l.length = 3) : ∃ a b c, l = [a, b, c] := by
  match l, h with
  | [a, b, c], _ => exact ⟨a, b, c, rfl⟩
end Go.Proofs.Ytnhoecmcbikcnaa
/-! Objects put together: plain words, what their making keeps. -/
namespace Go.Proofs.Ytnhoecmcbikcnaa
open Go.RowKit Go.PlainAid
set_option linter.unusedVariables false
set_option linter.unusedSimpArgs false
def keysO : List Nd → List ByteArray
  | a :: _ :: r => a.text :: keysO r
  | _ => []
def kidsO : List Nd → List Nd
  | _ :: b :: r => b :: kidsO r
  | _ => []
def objO (ns : List Nd) : Nd := .mk 7 0 ⟨#[]⟩ (keysO ns) (kidsO ns)
theorem keysO_at {ns : List Nd} {j : Nat} {a b : Nd} (h : ns[j]? = some a) (h2 : ns[j + 1]? = some b) : keysO (ns.drop j) = a.text :: keysO (ns.drop (j + 2)) ∧ kidsO (ns.drop j) = b :: kidsO (ns.drop (j + 2)) := by
  rw [List.drop_eq_getElem_cons (List.getElem?_eq_some_iff.1 h).1, (List.getElem?_eq_some_iff.1 h).2, List.drop_eq_getElem_cons (List.getElem?_eq_some_iff.1 h2).1, (List.getElem?_eq_some_iff.1 h2).2]
  exact ⟨rfl, rfl⟩
theorem keysO_end {ns : List Nd} {j : Nat} (h : ns.length ≤ j + 1) : keysO (ns.drop j) = [] ∧ kidsO (ns.drop j) = [] := by
  have : (ns.drop j).length ≤ 1 := by rw [List.length_drop]; omega
  match hq : ns.drop j with
  | [] => exact ⟨rfl, rfl⟩
  | [a] => exact ⟨rfl, rfl⟩
  | a :: b :: r => rw [hq] at this; simp at this
theorem keysO_text {ns : List Nd} (h : ∀ n ∈ ns, n.text.size ≤ maxLen) : ∀ t ∈ keysO ns, t.size ≤ maxLen := by
  match ns with
  | [] => intro t ht; cases ht
  | [a] => intro t ht; cases ht
  | a :: b :: r =>
    intro t ht
    rw [show keysO (a :: b :: r) = a.text :: keysO r from rfl, List.mem_cons] at ht
    rcases ht with rfl | ht
    · exact h a (by simp)
    · exact keysO_text (fun n hn => h n (by simp [hn])) t ht
theorem NdsIs.snoc {w : World} {B : Nat} {n : Nd} {cs : List Value} (hn : NdIs w B n cs) : ∀ (ns : List Nd) (xs : List Value), NdsIs w B ns xs → NdsIs w B (ns ++ [n]) (xs ++ cs)
  | [], xs, h => by
    unfold NdsIs at h
    subst h
    show NdsIs w B (n :: []) _
    unfold NdsIs
    exact ⟨cs, [], by simp, hn, by unfold NdsIs; rfl⟩
  | m :: ns, xs, h => by
    unfold NdsIs at h
    obtain ⟨ds, ys, rfl, h2, h3⟩ := h
    show NdsIs w B (m :: (ns ++ [n])) _
    unfold NdsIs
    exact ⟨ds, ys ++ cs, by simp, h2, NdsIs.snoc hn ns ys h3⟩
/-- a text appended as one step of a region that draws its order -/
theorem step_pushStr {ops : Array Oper} {o : Oper} {a : Act} {w : World} {K : Act → World → Prop} {Q : Exit → Act → World → Prop} {E : Prop}
    (hg : o.guard = none) (s x : Operand) (hop : o.op = Op.call { callee := Callee.builtin Builtin.append, args := #[s, x], argTypes := #[24, 24] })
    (B : Nat) (v : Value) (n : Nat) (xs : List Value) (hs : a.eval s = v) (hown : w.ownsRow B 9 1 v n xs) (R : Nat) (A : Option Addr) (c : Nat) (t : ByteArray) (hx : a.eval x = .slice A 1 c) (hr : Reads w R 1 A 1 [.string t])
    (hlim : n + 1 ≤ 1000000000000) (hB : B ≤ w.heap.size)
    (hK : ∀ v' w', w'.ownsRow B 9 1 v' (n + 1) (xs ++ [.string t]) → w.grownBy w' v.ownBlock → (v'.ownBlock = v.ownBlock ∨ ∃ g, v'.ownBlock = some g ∧ w.heap.size ≤ g) → K (a.put o.dst v') w') :
    if Region.wanted o (yielded ops a.tmps) = true then Oper.wp Try.prog o a w K Q else E := by
  have hw : Region.wanted o (yielded ops a.tmps) = true := by simp [Region.wanted, hg]
  rw [if_pos hw]
  obtain ⟨i0, hi0, hz0, hz1, hz2⟩ := info_parts strInfo
  obtain ⟨v', w', h1', h2, h3, h4⟩ := run_append_any (P := Try.prog) w B 24 o.type 9 i0 _ 1 16 Try.underlying24 hi0 hz0 hz1 hz2 rfl (by omega) v n _ hown R A 1 c _ hr (fun u hu => by simp at hu; rcases hu with rfl; rfl) (by simp only [maxLen]; omega) (by omega) hB
  unfold Oper.wp execOp
  simp only [hop, resolve, invoke, builtin, Sem.run_bind, Sem.run_pure, Result.andThen_ok, List.map_toArray, List.map_cons, List.map_nil, hs, hx, h1']
  refine hK _ _ h2 h3 ?_
  rcases h4 with h4 | h4
  · exact .inl h4
  · exact .inr ⟨_, h4, Nat.le_refl _⟩
theorem str_reads (w : World) (t : ByteArray) : Reads (w.alloc (.cells #[.string t] 9)).drew (w.heap.size + 1) 1 (some ⟨w.heap.size, 0, none⟩) 1 [.string t] := by
  refine ⟨rfl, fun _ => ⟨_, rfl, by simp, fun j u hj => ?_⟩⟩
  have e : (⟨w.heap.size, 0, none⟩ : Addr).add j = ⟨w.heap.size, j, none⟩ := by unfold Addr.add; split <;> simp_all
  rw [e]
  show (w.alloc (.cells #[.string t] 9)).cell? _ = _
  rw [World.cell?_alloc_mark]
  simpa using hj
theorem node_reads (w : World) (l : List Value) (hl : l.length = 1 * 5) : Reads (w.alloc (.cells l.toArray 27)).drew (w.heap.size + 1) 5 (some ⟨w.heap.size, 0, none⟩) 1 l := by
  refine ⟨hl, fun _ => ⟨_, rfl, by simp, fun j u hj => ?_⟩⟩
  have e : (⟨w.heap.size, 0, none⟩ : Addr).add j = ⟨w.heap.size, j, none⟩ := by unfold Addr.add; split <;> simp_all
  rw [e]
  show (w.alloc (.cells l.toArray 27)).cell? _ = _
  rw [World.cell?_alloc_mark]
  simpa using hj
theorem grown_lo {w0 w' : World} {rb n : Nat} (hg : w0.grownBy w' (some rb)) (hr : n ≤ rb) (hn : n ≤ w0.heap.size) : Below n w0 w' := ⟨hg.os, hg.tape, hg.output, hg.size, fun i hi => hg.block i (by omega) (fun e => by injection e with e; omega)⟩
theorem NdIs.cells_ {n : Nd} {w : World} {B : Nat} {c0 c1 : Int} {c2 : ByteArray} {c3 : Option Addr} {c4 c5 : Nat} {c6 : Option Addr} {c7 c8 : Nat} (h : NdIs w B n [.int .i64 c0, .int .i64 c1, .string c2, .slice c3 c4 c5, .slice c6 c7 c8]) : c0 = n.kind ∧ c2 = n.text ∧ c1 = n.num := by
  obtain ⟨A, ck, A2, c, xs, h1, _⟩ := h.open_
  simp only [List.cons.injEq, Value.int.injEq, Value.string.injEq, Value.slice.injEq, and_true, true_and] at h1
  obtain ⟨e1, e2, e3, e4, e5, e6, e7⟩ := h1
  exact ⟨e1, e3, e2⟩
/-- an object under way -/
structure OI (w0 w : World) (ks : List ByteArray) (ns : List Nd) (K : Option Addr) (kc : Nat) (A : Option Addr) (c : Nat) (ys : List Value) : Prop where
  node : Blk w (w0.heap.size + 1) 27 #[.int .i64 7, .int .i64 0, .string ⟨#[]⟩, .slice K ks.length kc, .slice A ns.length c]
  res : Blk w w0.heap.size 27 #[.int .i64 0, .int .i64 0, .string ⟨#[]⟩, .slice none 0 0, .slice none 0 0]
  keys : w.ownsRow (w0.heap.size + 2) 9 1 (.slice K ks.length kc) ks.length (ks.map Value.string)
  own : w.ownsRow (w0.heap.size + 2) 27 5 (.slice A ns.length c) ns.length ys
  kids : NdsIs w w0.heap.size ns ys
  low : Below w0.heap.size w0 w
  size : w0.heap.size + 2 ≤ w.heap.size
theorem OI.start (w : World) : OI w ((w.alloc (.cells #[.int .i64 0, .int .i64 0, .string ⟨#[]⟩, .slice none 0 0, .slice none 0 0] 27)).alloc (.cells #[.int .i64 7, .int .i64 0, .string ⟨#[]⟩, .slice none 0 0, .slice none 0 0] 27)) [] [] none 0 none 0 [] := by
  refine ⟨?_, (Blk.new w _ _).alloc _, World.ownsRow_nil _ _ _ _, World.ownsRow_nil _ _ _ _, (by unfold NdsIs; rfl), ((Below.refl _ _).alloc (Nat.le_refl _) _).alloc (by simp) _, by simp⟩
  have := Blk.new (w.alloc (.cells #[.int .i64 0, .int .i64 0, .string ⟨#[]⟩, .slice none 0 0, .slice none 0 0] 27)) 27 #[.int .i64 7, .int .i64 0, .string ⟨#[]⟩, .slice none 0 0, .slice none 0 0]
  simpa using this
theorem OI.below {w0 w w' : World} {ks : List ByteArray} {ns : List Nd} {K : Option Addr} {kc : Nat} {A : Option Addr} {c : Nat} {ys : List Value} (h : OI w0 w ks ns K kc A c ys) (hb : Below w.heap.size w w') : OI w0 w' ks ns K kc A c ys :=
  ⟨h.node.below hb h.node.lt, h.res.below hb h.res.lt, own_old h.keys hb, own_old h.own hb, NdsIs.keep (fun p hp => hb.cell (by have := h.low.size; omega)) _ _ h.kids, nextB h.low hb, Nat.le_trans h.size hb.size⟩
/-- one key more -/
theorem OI.key {w0 w2 w3 : World} {ks : List ByteArray} {ns : List Nd} {K : Option Addr} {kc : Nat} {A : Option Addr} {c : Nat} {ys : List Value} (hI : OI w0 w2 ks ns K kc A c ys)
    {t : ByteArray} {g c3 : Nat} (hown : w3.ownsRow (w0.heap.size + 2) 9 1 (.slice (some ⟨g, 0, none⟩) (ks.length + 1) c3) (ks.length + 1) (ks.map Value.string ++ [.string t]))
    (p2 : w2.grownBy w3 (Value.slice K ks.length kc).ownBlock) (p3 : (Value.slice (some ⟨g, 0, none⟩) (ks.length + 1) c3).ownBlock = (Value.slice K ks.length kc).ownBlock ∨ ∃ g1, (Value.slice (some ⟨g, 0, none⟩) (ks.length + 1) c3).ownBlock = some g1 ∧ w2.heap.size ≤ g1) :
    OI w0 (w3.setCell ⟨w0.heap.size + 1, 3, none⟩ (.slice (some ⟨g, 0, none⟩) (ks.length + 1) c3)) (ks ++ [t]) ns (some ⟨g, 0, none⟩) c3 A c ys := by
  have ho : ∀ g, (Value.slice A ns.length c).ownBlock = some g → w0.heap.size + 2 ≤ g ∧ g < w2.heap.size := fun g hg => own_lt hI.own hg
  have hk : ∀ g, (Value.slice K ks.length kc).ownBlock = some g → w0.heap.size + 2 ≤ g ∧ g < w2.heap.size := fun g hg => own_lt hI.keys hg
  have s2 := hI.size
  have s3 := p2.size
  have hn3 := hI.node.grown p2 (fun e => by have := (hk (w0.heap.size + 1) e.symm).1; omega)
  have hr3 := hI.res.grown p2 (fun e => by have := (hk w0.heap.size e.symm).1; omega)
  have hl3 : Below w0.heap.size w0 w3 := hI.low.grown p2 (by have := hI.low.size; omega) (fun g hg => by have := (hk g hg).1; omega)
  have hl4 : Below w0.heap.size w0 (w3.setCell ⟨w0.heap.size + 1, 3, none⟩ (.slice (some ⟨g, 0, none⟩) (ks.length + 1) c3)) := grown_lo (grown_set ((show w0.grownBy w3 (some (w0.heap.size + 1)) from ⟨hl3.os, hl3.tape, hl3.output, hl3.size, fun i hi _ => hl3.block i hi⟩)) 3 _) (by omega) (Nat.le_refl _)
  refine ⟨?_, (set_far (by omega)).trans hr3, ?_, ?_, NdsIs.keep (fun p hp => World.cell?_of_block ((set_far (by omega)).trans (p2.block p.block (by omega) (fun e => by have := (hk _ e.symm).1; omega)))) _ _ hI.kids, hl4, by simp; omega⟩
  · have := hn3.set_ 3 (.slice (some ⟨g, 0, none⟩) (ks.length + 1) c3)
    simpa using this
  · have := ownsRow_setCell_below hown (a := ⟨w0.heap.size + 1, 3, none⟩) (show w0.heap.size + 1 < w0.heap.size + 2 by omega) (.slice (some ⟨g, 0, none⟩) (ks.length + 1) c3)
    simpa using this
  · exact own_moved hI.own (fun b e => (set_far (by have := (ho b e).1; omega)).trans (p2.block b (ho b e).2 (fun e2 => own_apart hI.own hI.keys (by decide) e e2.symm))) (by simp; omega)
/-- one kid more -/
theorem OI.kid {w0 w2 w3 : World} {ks : List ByteArray} {ns : List Nd} {K : Option Addr} {kc : Nat} {A : Option Addr} {c : Nat} {ys : List Value} (hI : OI w0 w2 ks ns K kc A c ys)
    {n : Nd} {cs : List Value} (hn : NdIs w2 w0.heap.size n cs) {g c3 : Nat} (hown : w3.ownsRow (w0.heap.size + 2) 27 5 (.slice (some ⟨g, 0, none⟩) (ns.length + 1) c3) (ns.length + 1) (ys ++ cs))
    (p2 : w2.grownBy w3 (Value.slice A ns.length c).ownBlock) :
    OI w0 (w3.setCell ⟨w0.heap.size + 1, 4, none⟩ (.slice (some ⟨g, 0, none⟩) (ns.length + 1) c3)) ks (ns ++ [n]) K kc (some ⟨g, 0, none⟩) c3 (ys ++ cs) := by
  have ho : ∀ g, (Value.slice A ns.length c).ownBlock = some g → w0.heap.size + 2 ≤ g ∧ g < w2.heap.size := fun g hg => own_lt hI.own hg
  have hk : ∀ g, (Value.slice K ks.length kc).ownBlock = some g → w0.heap.size + 2 ≤ g ∧ g < w2.heap.size := fun g hg => own_lt hI.keys hg
  have s2 := hI.size
  have s3 := p2.size
  have hn3 := hI.node.grown p2 (fun e => by have := (ho (w0.heap.size + 1) e.symm).1; omega)
  have hr3 := hI.res.grown p2 (fun e => by have := (ho w0.heap.size e.symm).1; omega)
  have hl3 : Below w0.heap.size w0 w3 := hI.low.grown p2 (by have := hI.low.size; omega) (fun g hg => by have := (ho g hg).1; omega)
  have hl4 : Below w0.heap.size w0 (w3.setCell ⟨w0.heap.size + 1, 4, none⟩ (.slice (some ⟨g, 0, none⟩) (ns.length + 1) c3)) := grown_lo (grown_set ((show w0.grownBy w3 (some (w0.heap.size + 1)) from ⟨hl3.os, hl3.tape, hl3.output, hl3.size, fun i hi _ => hl3.block i hi⟩)) 4 _) (by omega) (Nat.le_refl _)
  have hkp : ∀ p : Addr, p.block < w0.heap.size → (w3.setCell ⟨w0.heap.size + 1, 4, none⟩ (.slice (some ⟨g, 0, none⟩) (ns.length + 1) c3)).cell? p = w2.cell? p := fun p hp => World.cell?_of_block ((set_far (by omega)).trans (p2.block p.block (by omega) (fun e => by have := (ho _ e.symm).1; omega)))
  refine ⟨?_, (set_far (by omega)).trans hr3, ?_, ?_, NdsIs.snoc (NdIs.keep hkp _ _ hn) _ _ (NdsIs.keep hkp _ _ hI.kids), hl4, by simp; omega⟩
  · have := hn3.set_ 4 (.slice (some ⟨g, 0, none⟩) (ns.length + 1) c3)
    simpa using this
  · exact own_moved hI.keys (fun b e => (set_far (by have := (hk b e).1; omega)).trans (p2.block b (hk b e).2 (fun e2 => own_apart hI.keys hI.own (by decide) e e2.symm))) (by simp; omega)
  · have := ownsRow_setCell_below hown (a := ⟨w0.heap.size + 1, 4, none⟩) (show w0.heap.size + 1 < w0.heap.size + 2 by omega) (.slice (some ⟨g, 0, none⟩) (ns.length + 1) c3)
    simpa using this
theorem OI.is {w0 w WF : World} {ks : List ByteArray} {ns : List Nd} {K : Option Addr} {kc : Nat} {A : Option Addr} {c : Nat} {ys : List Value} (hI : OI w0 w ks ns K kc A c ys) (hks : ∀ t ∈ ks, t.size ≤ maxLen) (hot : ∀ g, g ≠ w0.heap.size → WF.heap[g]? = w.heap[g]?) (hsz : WF.heap.size = w.heap.size) :
    NdIs WF WF.heap.size (.mk 7 0 ⟨#[]⟩ ks ns) [.int .i64 7, .int .i64 0, .string ⟨#[]⟩, .slice K ks.length kc, .slice A ns.length c] := by
  unfold NdIs
  have h1 := hI.low.size
  refine ⟨K, kc, A, c, ys, rfl, ?_, ?_, ?_, by unfold I64; omega, by unfold I64; omega, by decide, hks, own_len hI.keys, own_len hI.own⟩
  · exact ((own_RS hI.keys).keep (fun p hp => World.cell?_of_block (hot p.block (by have := hp.1; omega)))).reads (fun b hb => by rw [hsz]; exact hb.2)
  · exact ((own_RS hI.own).keep (fun p hp => World.cell?_of_block (hot p.block (by have := hp.1; omega)))).reads (fun b hb => by rw [hsz]; exact hb.2)
  · exact NdsIs.more (by rw [hsz]; exact h1) _ _ (NdsIs.keep (fun p hp => World.cell?_of_block (hot p.block (by omega))) _ _ hI.kids)
end Go.Proofs.Ytnhoecmcbikcnaa
/-! The walk of the reference's Read of calls. -/
namespace Go.Proofs.Ytnhoecmcbikcnaa
open Go.RowKit Go.PlainAid
set_option linter.unusedVariables false
set_option linter.unusedSimpArgs false
set_option maxRecDepth 100000 in
set_option maxHeartbeats 4000000 in
theorem rRead_bad (s : ByteArray) (A : Option Addr) (c : Nat) (w : World) (ec : Int) (h : BytesAt w A c s) (hr : parseL s.toList = .error ec) : Calls Try.prog 15 #[.slice A s.size c] w (ReadP (readL s.toList) w) := by
  have HP := Lib.hid (rParse_any s A c w h)
  rw [hr] at HP
  have E := Lib.hid (readL_err hr)
  have h1 := parse_err hr
  have n0 : (ec != 0) = true := by rw [bne_iff_ne]; omega
  clear hr h h1
  generalize readL s.toList = V at *
  go_enter Try.func15, Try.ntmps15
  go_wp2_with fail
  refine (HP.out : Calls _ _ _ _ _).mono ?_
  rintro e w1 ⟨rfl, hb⟩
  go_wp2_with fail
  refine bodyPost_ret (v := .tuple #[.slice none 0 0, .string ⟨#[110, 111, 116, 74, 83, 79, 78]⟩]) (by simp [results, Try.results15, go_sem]) rfl ?_
  exact ReadP.err E.out (hb.alloc hb.size _)
set_option maxRecDepth 100000 in
set_option maxHeartbeats 4000000 in
theorem rRead_ok (s : ByteArray) (A : Option Addr) (c : Nat) (w : World) (n : Nd) (h : BytesAt w A c s) (hr : parseL s.toList = .ok n) : Calls Try.prog 15 #[.slice A s.size c] w (ReadP (readL s.toList) w) := by
  have HP := Lib.hid (rParse_any s A c w h)
  rw [hr] at HP
  have E := Lib.hid (readL_ok hr)
  have HLM2 : Hid (((findN n callsS).getD (nd0 0)).kids.length ≤ 1000000) := find_size (parse_size hr)
  clear hr h
  generalize readL s.toList = V at *
  go_enter Try.func15, Try.ntmps15
  go_wp2_with fail
  refine (HP.out : Calls _ _ _ _ _).mono ?_
  rintro e w1 ⟨x0, x1, x2, x3, x4, x5, x6, x7, x8, rfl, hn, hb⟩
  have HB1 : Hid (Below w.heap.size w (w1.alloc (.cells #[.int .i64 x0, .int .i64 x1, .string x2, .slice x3 x4 x5, .slice x6 x7 x8] 27))) := hb.alloc hb.size _
  have HBX : Hid (Blk (w1.alloc (.cells #[.int .i64 x0, .int .i64 x1, .string x2, .slice x3 x4 x5, .slice x6 x7 x8] 27)) w1.heap.size 27 #[.int .i64 x0, .int .i64 x1, .string x2, .slice x3 x4 x5, .slice x6 x7 x8]) := Blk.new _ _ _
  have HN1 : Hid (NdIs (w1.alloc (.cells #[.int .i64 x0, .int .i64 x1, .string x2, .slice x3 x4 x5, .slice x6 x7 x8] 27)) w1.heap.size n [.int .i64 x0, .int .i64 x1, .string x2, .slice x3 x4 x5, .slice x6 x7 x8]) := hn.below ((Below.refl _ _).alloc (Nat.le_refl _) _)
  have HF1 : Hid (Calls Try.prog 37 #[.agg #[.int .i64 x0, .int .i64 x1, .string x2, .slice x3 x4 x5, .slice x6 x7 x8], .string ⟨#[117, 115, 105, 110, 103]⟩] (w1.alloc (.cells #[.int .i64 x0, .int .i64 x1, .string x2, .slice x3 x4 x5, .slice x6 x7 x8] 27)) (RfindP (findN n usingS) w1.heap.size (w1.alloc (.cells #[.int .i64 x0, .int .i64 x1, .string x2, .slice x3 x4 x5, .slice x6 x7 x8] 27)))) :=
    rFind_any n usingS [.int .i64 x0, .int .i64 x1, .string x2, .slice x3 x4 x5, .slice x6 x7 x8] _ w1.heap.size HN1.out (by simp)
  clear hn hb HP
  go_wp2_with fail
  refine (HF1.out : Calls _ _ _ _ _).mono ?_
  rintro e w2 ⟨u0, u1, u2, u3, u4, u5, u6, u7, u8, rfl, hu, hb2⟩
  have hba : Below w2.heap.size w2 (w2.alloc (.cells #[.int .i64 u0, .int .i64 u1, .string u2, .slice u3 u4 u5, .slice u6 u7 u8] 27)) := (Below.refl _ _).alloc (Nat.le_refl _) _
  have hb3 := hb2.trans (hba.mono hb2.size)
  have HB2 : Hid (Below w.heap.size w (w2.alloc (.cells #[.int .i64 u0, .int .i64 u1, .string u2, .slice u3 u4 u5, .slice u6 u7 u8] 27))) := nextB HB1.out hb3
  have HBX2 : Hid (Blk (w2.alloc (.cells #[.int .i64 u0, .int .i64 u1, .string u2, .slice u3 u4 u5, .slice u6 u7 u8] 27)) w1.heap.size 27 #[.int .i64 x0, .int .i64 x1, .string x2, .slice x3 x4 x5, .slice x6 x7 x8]) := HBX.out.below hb3 HBX.out.lt
  have HBU : Hid (Blk (w2.alloc (.cells #[.int .i64 u0, .int .i64 u1, .string u2, .slice u3 u4 u5, .slice u6 u7 u8] 27)) w2.heap.size 27 #[.int .i64 u0, .int .i64 u1, .string u2, .slice u3 u4 u5, .slice u6 u7 u8]) := Blk.new _ _ _
  have HN2 : Hid (NdIs (w2.alloc (.cells #[.int .i64 u0, .int .i64 u1, .string u2, .slice u3 u4 u5, .slice u6 u7 u8] 27)) w1.heap.size n [.int .i64 x0, .int .i64 x1, .string x2, .slice x3 x4 x5, .slice x6 x7 x8]) := HN1.out.below (hb3.mono (by simp))
  have HU2 : Hid (NdIs (w2.alloc (.cells #[.int .i64 u0, .int .i64 u1, .string u2, .slice u3 u4 u5, .slice u6 u7 u8] 27)) w2.heap.size ((findN n usingS).getD (nd0 0)) [.int .i64 u0, .int .i64 u1, .string u2, .slice u3 u4 u5, .slice u6 u7 u8]) := (NdIs.more (by have := hb2.size; simp at this; omega) _ _ hu).below hba
  have hz12 : w1.heap.size < w2.heap.size := by have := hb2.size; simp at this; omega
  have HF2 : Hid (Calls Try.prog 37 #[.agg #[.int .i64 x0, .int .i64 x1, .string x2, .slice x3 x4 x5, .slice x6 x7 x8], .string ⟨#[109, 101, 116, 104, 111, 100, 67, 97, 108, 108, 115]⟩] (w2.alloc (.cells #[.int .i64 u0, .int .i64 u1, .string u2, .slice u3 u4 u5, .slice u6 u7 u8] 27)) (RfindP (findN n callsS) w1.heap.size (w2.alloc (.cells #[.int .i64 u0, .int .i64 u1, .string u2, .slice u3 u4 u5, .slice u6 u7 u8] 27)))) :=
    rFind_any n callsS [.int .i64 x0, .int .i64 x1, .string x2, .slice x3 x4 x5, .slice x6 x7 x8] _ w1.heap.size HN2.out (by simp; omega)
  obtain ⟨e0, e1, e2, e3, e4⟩ := HBX2.out.cells5
  clear hu hb2 hba hb3 HF1 HN1 HB1 HBX HN2
  go_wp2_with fail
  refine (HF2.out : Calls _ _ _ _ _).mono ?_
  rintro e w3 ⟨m0, m1, m2, m3, m4, m5, m6, m7, m8, rfl, hm, hb2⟩
  have hba : Below w3.heap.size w3 (w3.alloc (.cells #[.int .i64 m0, .int .i64 m1, .string m2, .slice m3 m4 m5, .slice m6 m7 m8] 27)) := (Below.refl _ _).alloc (Nat.le_refl _) _
  have hb3 := hb2.trans (hba.mono hb2.size)
  have hB4 := nextB HB2.out hb3
  have hU4 : Blk (w3.alloc (.cells #[.int .i64 m0, .int .i64 m1, .string m2, .slice m3 m4 m5, .slice m6 m7 m8] 27)) w2.heap.size 27 #[.int .i64 u0, .int .i64 u1, .string u2, .slice u3 u4 u5, .slice u6 u7 u8] := HBU.out.below hb3 HBU.out.lt
  have hM4 : Blk (w3.alloc (.cells #[.int .i64 m0, .int .i64 m1, .string m2, .slice m3 m4 m5, .slice m6 m7 m8] 27)) w3.heap.size 27 #[.int .i64 m0, .int .i64 m1, .string m2, .slice m3 m4 m5, .slice m6 m7 m8] := Blk.new _ _ _
  have hNU : NdIs (w3.alloc (.cells #[.int .i64 m0, .int .i64 m1, .string m2, .slice m3 m4 m5, .slice m6 m7 m8] 27)) (w3.alloc (.cells #[.int .i64 m0, .int .i64 m1, .string m2, .slice m3 m4 m5, .slice m6 m7 m8] 27)).heap.size ((findN n usingS).getD (nd0 0)) [.int .i64 u0, .int .i64 u1, .string u2, .slice u3 u4 u5, .slice u6 u7 u8] := NdIs.more (by have := hb3.size; simp at this ⊢; omega) _ _ (HU2.out.below (hb3.mono (by simp)))
  have hNM : NdIs (w3.alloc (.cells #[.int .i64 m0, .int .i64 m1, .string m2, .slice m3 m4 m5, .slice m6 m7 m8] 27)) (w3.alloc (.cells #[.int .i64 m0, .int .i64 m1, .string m2, .slice m3 m4 m5, .slice m6 m7 m8] 27)).heap.size ((findN n callsS).getD (nd0 0)) [.int .i64 m0, .int .i64 m1, .string m2, .slice m3 m4 m5, .slice m6 m7 m8] := NdIs.more (by have := hb2.size; simp at this ⊢; omega) _ _ (hm.below (hba.mono (by have := hb2.size; simp at this; omega)))
  obtain ⟨k1, -, k2, ku⟩ := NdIs.cells _ hNU
  obtain ⟨l1, -, l2, km⟩ := NdIs.cells _ hNM
  subst k1 k2 l1 l2
  have KI : Hid (KIn w (w3.alloc (.cells #[.int .i64 ((findN n callsS).getD (nd0 0)).kind, .int .i64 m1, .string m2, .slice m3 m4 m5, .slice m6 ((findN n callsS).getD (nd0 0)).kids.length m8] 27)) w2.heap.size w3.heap.size ((findN n usingS).getD (nd0 0)) ((findN n callsS).getD (nd0 0)) ((findN n usingS).getD (nd0 0)).kind u1 u2 u3 u4 u5 u6 u8 ((findN n callsS).getD (nd0 0)).kind m1 m2 m3 m4 m5 m6 m8) := ⟨hU4, hM4, hB4, ku, km⟩
  have hg : w2.heap.size < (w3.alloc (.cells #[.int .i64 ((findN n callsS).getD (nd0 0)).kind, .int .i64 m1, .string m2, .slice m3 m4 m5, .slice m6 ((findN n callsS).getD (nd0 0)).kids.length m8] 27)).heap.size := hU4.lt
  clear hb2 hba hb3 hU4 hM4 hNU hNM hm ku km hB4 HBX2 HBU HU2 HF2 HB2 e0 e1 e2 e3 e4
  go_upto_region 6 with fail
  generalize w3.alloc (.cells #[.int .i64 ((findN n callsS).getD (nd0 0)).kind, .int .i64 m1, .string m2, .slice m3 m4 m5, .slice m6 ((findN n callsS).getD (nd0 0)).kids.length m8] 27) = w4 at *
  generalize w2.heap.size = gu at *
  generalize w3.heap.size = gm at *
  generalize findN n usingS = fu at *
  generalize findN n callsS = fm at *
  have E1 : Hid (fu.isSome = false → V = .error notR) := fun h => E.out.trans (readN_1 h)
  have E2 : Hid (fu.isSome = true → fm.isSome = false → V = .error notR) := fun h1 h2 => E.out.trans (readN_2 h1 h2)
  have E3 : Hid (fu.isSome = true → fm.isSome = true → V = readM (fu.getD (nd0 0)) (fm.getD (nd0 0))) := fun h1 h2 => E.out.trans (readN_3 h1 h2)
  generalize fu.isSome = ba at *
  generalize fm.isSome = bb at *
  generalize fu.getD (nd0 0) = UU at *
  generalize fm.getD (nd0 0) = MM at *
  clear E
  obtain ⟨hBU, hBM, hB4, hxu, hxm⟩ := KI.out
  have HB4 := Lib.hid hB4
  obtain ⟨yu, hru, hnu, hlu⟩ := hxu
  obtain ⟨ym, hrm, hnm, hlm⟩ := hxm
  obtain ⟨p0, p1, p2, p3, p4⟩ := hBU.cells5
  obtain ⟨q0, q1, q2, q3, q4⟩ := hBM.cells5
  have HLU := Lib.hid hlu
  have HLM := Lib.hid hlm
  have HRM := Lib.hid hrm
  have HNM := Lib.hid hnm
  have HBM := Lib.hid hBM
  have HBU := Lib.hid hBU
  have hlu2 : UU.kids.length ≤ 9223372036854775807 := by simp only [maxLen] at hlu; omega
  have hlm2 : MM.kids.length ≤ 9223372036854775807 := by simp only [maxLen] at hlm; omega
  have HRU := Lib.hid hru
  have HNU := Lib.hid hnu
  have hgu : gu < w4.heap.size := hBU.lt
  have hgm : gm < w4.heap.size := hBM.lt
  clear hBU hBM hB4 hru hnu hlu hrm hnm hlm KI hlu2 hlm2
  have hW := Below.refl w4.heap.size w4
  cases ba with
  | false =>
    have EE := Lib.hid (E1.out rfl)
    clear E1 E2 E3
    go_wp2_with fail
    refine bodyPost_ret (v := .tuple #[.slice none 0 0, .string ⟨#[110, 111, 116, 82, 101, 113, 117, 101, 115, 116]⟩]) (by simp [results, Try.results15, go_sem]) rfl ?_
    exact ReadP.err EE.out (HB4.out.trans (hW.mono HB4.out.size))
  | true =>
    clear E1
    cases bb with
    | false =>
      have EE := Lib.hid (E2.out rfl rfl)
      clear E2 E3
      go_wp2_with fail
      refine bodyPost_ret (v := .tuple #[.slice none 0 0, .string ⟨#[110, 111, 116, 82, 101, 113, 117, 101, 115, 116]⟩]) (by simp [results, Try.results15, go_sem]) rfl ?_
      exact ReadP.err EE.out (HB4.out.trans (hW.mono HB4.out.size))
    | true =>
      have EM := Lib.hid (E3.out rfl rfl)
      clear E2 E3
      unfold readM at EM
      cases t1 : (UU.kind != 6) with
      | true =>
        have EE : Hid (V = .error notR) := by show _ = _; rw [EM.out, if_pos t1]
        clear EM
        go_wp2_with fail
        refine bodyPost_ret (v := .tuple #[.slice none 0 0, .string ⟨#[110, 111, 116, 82, 101, 113, 117, 101, 115, 116]⟩]) (by simp [results, Try.results15, go_sem]) rfl ?_
        exact ReadP.err EE.out (HB4.out.trans (hW.mono HB4.out.size))
      | false =>
        have EM2 : Hid (V = if (MM.kind != 6) = true then .error notR else if UU.kids.any oddN = true then .error notR else if MM.kids.any noneN = true then .error notR else if UU.kids.any unkN = true then .error unkC else if 16 < MM.kids.length then .error limS else .ok (MM.kids.map clOf)) := by show _ = _; rw [EM.out, if_neg (by rw [t1]; simp)]
        clear EM
        cases t2 : (MM.kind != 6) with
        | true =>
          have EE : Hid (V = .error notR) := by show _ = _; rw [EM2.out, if_pos t2]
          clear EM2
          go_wp2_with fail
          refine bodyPost_ret (v := .tuple #[.slice none 0 0, .string ⟨#[110, 111, 116, 82, 101, 113, 117, 101, 115, 116]⟩]) (by simp [results, Try.results15, go_sem]) rfl ?_
          exact ReadP.err EE.out (HB4.out.trans (hW.mono HB4.out.size))
        | false =>
          have EM3 : Hid (V = if UU.kids.any oddN = true then .error notR else if MM.kids.any noneN = true then .error notR else if UU.kids.any unkN = true then .error unkC else if 16 < MM.kids.length then .error limS else .ok (MM.kids.map clOf)) := by show _ = _; rw [EM2.out, if_neg (by rw [t2]; simp)]
          clear EM2
          have HLU2 : Hid (UU.kids.length ≤ 9223372036854775807) := by show _ ≤ _; have := HLU.out; simp only [maxLen] at this; omega
          have O0 : Hid (∀ (j : Nat) (x : Nd), j < 0 → UU.kids[j]? = some x → oddN x = false) := fun j x h => absurd h (by omega)
          go_wp2_with fail
          go_loopw [10] (fun t10 wr => ∃ i : Nat, i ≤ UU.kids.length ∧ t10 = .int .i64 i ∧ Hid (∀ (j : Nat) (x : Nd), j < i → UU.kids[j]? = some x → oddN x = false) ∧ Below w4.heap.size w4 wr) (fun t10 _ => UU.kids.length - (intOf t10).toNat)
          case atStart => exact ⟨0, by omega, rfl, O0, hW⟩
          case round =>
            clear hW O0 p0 p1 p2 p3 p4 q0 q1 q2 q3 q4
            obtain ⟨i, hi, rfl, hO, hW⟩ := hrel
            obtain ⟨wo, rfl⟩ : ∃ wo : World, wo = wr := ⟨_, rfl⟩
            obtain ⟨p0, p1, p2, p3, p4⟩ := (HBU.out.below hW HBU.out.lt).cells5
            have hsz := hW.size
            have hl63 := HLU2.out
            by_cases hlt : i < UU.kids.length
            · have hkeep : ∀ p : Addr, p.block < w4.heap.size → wo.cell? p = w4.cell? p := fun p hp => hW.cell hp
              obtain ⟨ad, nn, v0, v1, v2, v3, v4, hm6, hadb, hni, hnd, e0, e1, e2, e3, e4⟩ := (HRU.out.keep hkeep).nd (NdsIs.keep hkeep _ _ HNU.out) hlt
              subst hm6
              obtain ⟨y0, y1, y2, y3, y4, y5, y6, y7, y8, rfl, rfl, rfl, rfl, rfl⟩ := hnd.form
              obtain ⟨hk0, -, -⟩ := NdIs.cells_ hnd
              subst hk0
              have i0 : (0 : Int) ≤ (i : Int) := by omega
              have i1 : (i : Int) < (UU.kids.length : Int) := by omega
              cases ho : (nn.kind != 5) with
              | true =>
                have EE : Hid (V = .error notR) := by show _ = _; rw [EM3.out, if_pos (any_yes' hni (show oddN nn = true from ho))]
                clear EM3 hnd hni hkeep
                go_wp2_with fail
                refine bodyPost_ret (v := .tuple #[.slice none 0 0, .string ⟨#[110, 111, 116, 82, 101, 113, 117, 101, 115, 116]⟩]) (by simp [results, Try.results15, go_sem]) rfl ?_
                exact ReadP.err EE.out (HB4.out.trans (hW.mono HB4.out.size))
              | false =>
                have HO2 : Hid (∀ (j : Nat) (x : Nd), j < i + 1 → UU.kids[j]? = some x → oddN x = false) := fun j x hj hx => by
                  by_cases e : j = i
                  · subst e; rw [hni] at hx; injection hx with hx; rw [← hx]; exact ho
                  · exact hO.out j x (by omega) hx
                clear hnd hni hkeep
                go_wp2_with fail
                go_roundw
                case rel => exact ⟨i + 1, by omega, by go_num, HO2, hW⟩
                case measure => simp [intOf]; omega
            · obtain rfl : i = UU.kids.length := by omega
              have EM4 : Hid (V = if MM.kids.any noneN = true then .error notR else if UU.kids.any unkN = true then .error unkC else if 16 < MM.kids.length then .error limS else .ok (MM.kids.map clOf)) := by
                show _ = _
                rw [EM3.out, if_neg (by rw [any_no' (fun j x hj hx => hO.out j x hj hx)]; simp)]
              have i1 : ¬ (UU.kids.length : Int) < (UU.kids.length : Int) := by omega
              have HI0 : Hid (RCInv w4 MM 0 none 0 wo) := ⟨[], World.ownsRow_nil _ _ _ _, rfl, hW⟩
              have N0 : Hid (∀ (j : Nat) (x : Nd), j < 0 → MM.kids[j]? = some x → noneN x = false) := fun j x h => absurd h (by omega)
              clear EM3 hO hi hW hl63
              go_wp2_with fail
              clear p0 p1 p2 p3 p4
              go_loopw [11, 12, 13] (fun t11 t12 t13 wr => ∃ (i : Nat) (Ao : Option Addr) (co : Nat), i ≤ MM.kids.length ∧ t12 = .int .i64 i ∧ t11 = .slice Ao i co ∧ Hid (∀ (j : Nat) (x : Nd), j < i → MM.kids[j]? = some x → noneN x = false) ∧ Hid (RCInv w4 MM i Ao co wr)) (fun _ t12 _ _ => MM.kids.length - (intOf t12).toNat)
              case atStart => exact ⟨0, none, 0, by omega, rfl, rfl, N0, HI0⟩
              case round =>
                clear HI0 N0
                obtain ⟨i, Ao, co, hi, rfl, rfl, hN, hI⟩ := hrel
                obtain ⟨wo, rfl⟩ : ∃ wo : World, wo = wr := ⟨_, rfl⟩
                obtain ⟨xs, hown, hcls, hW⟩ := hI.out
                have hsz := hW.size
                obtain ⟨q0, q1, q2, q3, q4⟩ := (HBM.out.below hW HBM.out.lt).cells5
                have hl63 := HLM2.out
                by_cases hlt : i < MM.kids.length
                · have hkeep : ∀ p : Addr, p.block < w4.heap.size → wo.cell? p = w4.cell? p := fun p hp => hW.cell hp
                  obtain ⟨ad, nn, v0, v1, v2, v3, v4, hm6, hadb, hni, hnd, e0, e1, e2, e3, e4⟩ := (HRM.out.keep hkeep).nd (NdsIs.keep hkeep _ _ HNM.out) hlt
                  subst hm6
                  obtain ⟨y0, y1, y2, y3, y4, y5, y6, y7, y8, rfl, rfl, rfl, rfl, rfl⟩ := hnd.form
                  obtain ⟨hk0, -, hk7, -⟩ := NdIs.cells nn hnd
                  subst hk0 hk7
                  have i0 : (0 : Int) ≤ (i : Int) := by omega
                  have i1 : (i : Int) < (MM.kids.length : Int) := by omega
                  have HND := Lib.hid hnd
                  have HNI := Lib.hid hni
                  have HOW : Hid (wo.ownsRow w4.heap.size 68 7 (.slice Ao i co) i xs) := hown
                  have HCS := Lib.hid hcls
                  have HWW := Lib.hid hW
                  clear hnd hni hkeep hown hcls hI
                  go_upto_region 18 with fail
                  go_cut [108] (fun t wx => t = .bool (noneN nn) ∧ wx = wo)
                  case first =>
                    by_cases k6 : nn.kind = 6
                    case neg =>
                      have hb : (nn.kind != 6) = true := bne_iff_ne.2 k6
                      have HZ := Lib.hid (none_1 k6)
                      clear k6
                      go_wp2_with fail
                      go_meet
                      exact ⟨by rw [HZ.out], rfl⟩
                    have hb : (nn.kind != 6) = false := by rw [bne_eq_false_iff_eq]; exact k6
                    by_cases l3 : nn.kids.length = 3
                    case neg =>
                      have hb2 : ((nn.kids.length : Int) != 3) = true := by rw [bne_iff_ne]; omega
                      have HZ := Lib.hid (none_2 l3)
                      clear l3 k6
                      go_wp2_with fail
                      go_meet
                      exact ⟨by rw [HZ.out], rfl⟩
                    obtain ⟨ka, kb1, kc, hk3⟩ := list3 l3
                    obtain ⟨kb, ko, b0, b1, b2, b3, b4, b5, b6, b7, b8, hy6, -, hkb, -⟩ := kids15 HND.out hk3
                    subst hy6
                    obtain ⟨f0, f1, f2⟩ := kinds3 HND.out hk3
                    have HZ := Lib.hid (none_3 k6 hk3)
                    clear k6 hk3 HRM HNM HBM HNI
                    generalize nn.kids.length = NL at *
                    subst l3
                    generalize noneN nn = NZ at *
                    cases z1 : (ka.kind == 5) with
                    | false =>
                      have z1' : (ka.kind != 5) = true := by rw [bne, z1]; rfl
                      have HZ2 : Hid (NZ = true) := by show _ = _; rw [HZ.out, z1]; rfl
                      clear HZ
                      go_wp2_with fail
                      go_meet
                      exact ⟨by rw [HZ2.out], rfl⟩
                    | true =>
                      have z1' : (ka.kind != 5) = false := by rw [bne, z1]; rfl
                      cases z2 : (kb1.kind == 7) with
                      | false =>
                        have z2' : (kb1.kind != 7) = true := by rw [bne, z2]; rfl
                        have HZ2 : Hid (NZ = true) := by show _ = _; rw [HZ.out, z1, z2]; rfl
                        clear HZ
                        go_wp2_with fail
                        go_meet
                        exact ⟨by rw [HZ2.out], rfl⟩
                      | true =>
                        have z2' : (kb1.kind != 7) = false := by rw [bne, z2]; rfl
                        cases z3 : (kc.kind == 5) with
                        | false =>
                          have z3' : (kc.kind != 5) = true := by rw [bne, z3]; rfl
                          have HZ2 : Hid (NZ = true) := by show _ = _; rw [HZ.out, z1, z2, z3]; rfl
                          clear HZ
                          go_wp2_with fail
                          go_meet
                          exact ⟨by rw [HZ2.out], rfl⟩
                        | true =>
                          have z3' : (kc.kind != 5) = false := by rw [bne, z3]; rfl
                          have HZ2 : Hid (NZ = false) := by show _ = _; rw [HZ.out, z1, z2, z3]; rfl
                          clear HZ
                          go_wp2_with fail
                          go_meet
                          exact ⟨by rw [HZ2.out], rfl⟩
                  case rest =>
                    obtain ⟨rfl, hwc⟩ := hcut
                    obtain rfl : wc = wo := hwc
                    obtain ⟨wo, rfl⟩ : ∃ wo : World, wo = wc := ⟨_, rfl⟩
                    cases ho : noneN nn with
                    | true =>
                      have EE : Hid (V = .error notR) := by show _ = _; rw [EM4.out, if_pos (any_yes' HNI.out ho)]
                      have hW := HWW.out
                      clear EM4
                      go_wp2_with fail
                      refine bodyPost_ret (v := .tuple #[.slice none 0 0, .string ⟨#[110, 111, 116, 82, 101, 113, 117, 101, 115, 116]⟩]) (by simp [results, Try.results15, go_sem]) rfl ?_
                      exact ReadP.err EE.out (HB4.out.trans (hW.mono HB4.out.size))
                    | false =>
                      have HN2 : Hid (∀ (j : Nat) (x : Nd), j < i + 1 → MM.kids[j]? = some x → noneN x = false) := fun j x hj hx => by
                        by_cases e : j = i
                        · subst e; rw [HNI.out] at hx; injection hx with hx; rw [← hx]; exact ho
                        · exact hN.out j x (by omega) hx
                      obtain ⟨na, nb, nc, hk3, -, -, -, -⟩ := kid3 ho
                      obtain ⟨kb, ko, b0, b1, b2, b3, b4, b5, b6, b7, b8, hy6, hl3, hkb, hnb, f0, f1, f2, f3, f4, f5, f6⟩ := kids15 HND.out hk3
                      subst hy6
                      have HCL : Hid (clOf nn = ⟨na.text, nb, nc.text⟩) := by show _ = _; unfold clOf; rw [hk3]
                      have HTK := Lib.hid (map_take HNI.out)
                      have HNB := Lib.hid hnb
                      have HKB := Lib.hid hkb
                      have HOWL : Hid (∀ g, (Value.slice Ao i co).ownBlock = some g → w4.heap.size ≤ g ∧ g < wo.heap.size) := fun g hg => own_lt HOW.out hg
                      have hi9 : i ≤ 1000000 := by omega
                      have hkw : kb < wo.heap.size := by omega
                      have S0 : Hid (KidR kb ko na.text nc.text b0 b1 b2 b3 b4 b5 b6 b7 b8 wo.drew) := ⟨f0, f1, f2, f3, f4, f5, f6⟩
                      have S1 : Hid (KidR kb ko na.text nc.text b0 b1 b2 b3 b4 b5 b6 b7 b8 (wo.alloc (.cells #[.string na.text, .int .i64 b0, .int .i64 b1, .string b2, .slice b3 b4 b5, .slice b6 b7 b8, .string nc.text] 68)).drew) := KidR.keep (((Below.refl wo.heap.size wo).alloc (Nat.le_refl _) _).block kb hkw) S0.out
                      have HZ2 : Hid ((wo.alloc (.cells #[.string na.text, .int .i64 b0, .int .i64 b1, .string b2, .slice b3 b4 b5, .slice b6 b7 b8, .string nc.text] 68)).drew.heap.size = wo.heap.size + 1) := by show (wo.alloc (.cells #[.string na.text, .int .i64 b0, .int .i64 b1, .string b2, .slice b3 b4 b5, .slice b6 b7 b8, .string nc.text] 68)).heap.size = _; rw [World.size_alloc]
                      have S1b := S1
                      clear hk3 hnb hkb f0 f1 f2 f3 f4 f5 f6 ho HND HNI hN q0 q1 q2 q3 q4 e0 e1 e2 e3 e4
                      unfold KidR at S0 S1
                      generalize nn.kids.length = NL at *
                      subst hl3
                      go_wp2_with fail
                      go_region_held3 (fun w' => w'.cell? ⟨kb, ko + 2, none⟩ = some (.string na.text) ∧ w'.cell? ⟨kb, ko + 5, none⟩ = some (.int .i64 b0) ∧ w'.cell? ⟨kb, ko + 6, none⟩ = some (.int .i64 b1) ∧ w'.cell? ⟨kb, ko + 7, none⟩ = some (.string b2) ∧ w'.cell? ⟨kb, ko + 8, none⟩ = some (.slice b3 b4 b5) ∧ w'.cell? ⟨kb, ko + 9, none⟩ = some (.slice b6 b7 b8) ∧ w'.cell? ⟨kb, ko + 12, none⟩ = some (.string nc.text)) (first | with_reducible exact S0.out | with_reducible exact S1.out | with_reducible exact HS2.out) (first
                        | (refine step_pushRc rfl _ _ rfl w4.heap.size (.slice Ao i co) i xs (by rfl) (show ((wo.alloc (.cells #[.string na.text, .int .i64 b0, .int .i64 b1, .string b2, .slice b3 b4 b5, .slice b6 b7 b8, .string nc.text] 68)).drew).ownsRow w4.heap.size 68 7 (.slice Ao i co) i xs from World.ownsRow.alloc HOW.out _) (wo.heap.size + 1) (some ⟨wo.heap.size, 0, none⟩) 1 1 [.string na.text, .int .i64 b0, .int .i64 b1, .string b2, .slice b3 b4 b5, .slice b6 b7 b8, .string nc.text] (by have := rreads7 wo (.string na.text) (.int .i64 b0) (.int .i64 b1) (.string b2) (.slice b3 b4 b5) (.slice b6 b7 b8) (.string nc.text); exact this) cells_one7 (by rfl) (by omega) (by rw [HZ2.out]; have := HWW.out.size; omega) ?_; intro v9 w9 p1 p2; obtain ⟨A9, c9, rfl⟩ := own_form p1; have P1 := Lib.hid p1; have P2 := Lib.hid p2; have HS2 := Lib.hid (KidR.keep (p2.block kb (by rw [HZ2.out]; omega) (fun e => by have := (HOWL.out _ e.symm).1; have := HKB.out; omega)) S1b.out); unfold KidR at HS2; clear p1 p2))
                      go_wp2_with fail
                      go_roundw
                      case rel =>
                        refine ⟨i + 1, A9, c9, by omega, by go_num, rfl, HN2, xs ++ [.string na.text, .int .i64 b0, .int .i64 b1, .string b2, .slice b3 b4 b5, .slice b6 b7 b8, .string nc.text], P1.out, ?_, ?_⟩
                        · rw [HTK.out, HCL.out]
                          have hk9 : ∀ p : Addr, p.block < w4.heap.size → w9.cell? p = wo.cell? p := fun p hp => (World.cell?_of_block (P2.out.block p.block (by rw [HZ2.out]; have := HWW.out.size; omega) (fun e => by have := (HOWL.out _ e.symm).1; omega))).trans (World.cell?_alloc_lt _ _ _ (by have := HWW.out.size; omega))
                          exact ClsIs.snoc (NdIs.keep hk9 _ _ HNB.out) _ _ (ClsIs.keep hk9 _ _ HCS.out)
                        · refine HWW.out.trans ?_
                          have hb0 : Below w4.heap.size wo ((wo.alloc (.cells #[.string na.text, .int .i64 b0, .int .i64 b1, .string b2, .slice b3 b4 b5, .slice b6 b7 b8, .string nc.text] 68)).drew) := ((Below.refl _ _).alloc HWW.out.size _).drew
                          exact hb0.grown P2.out (by rw [HZ2.out]; have := HWW.out.size; omega) (fun g hg => (HOWL.out _ hg).1)
                      case measure => simp [intOf]; omega
                · obtain rfl : i = MM.kids.length := by omega
                  have EM5 : Hid (V = if UU.kids.any unkN = true then .error unkC else if 16 < MM.kids.length then .error limS else .ok (MM.kids.map clOf)) := by
                    show _ = _
                    rw [EM4.out, if_neg (by rw [any_no' (fun j x hj hx => hN.out j x hj hx)]; simp)]
                  have i1 : ¬ (MM.kids.length : Int) < (MM.kids.length : Int) := by omega
                  have HCI : Hid (ClsIs wo w4.heap.size (MM.kids.map clOf) xs) := by rw [List.take_length] at hcls; exact hcls
                  have HOW := Lib.hid hown
                  have HWI := Lib.hid hW
                  have K0 : Hid (∀ (j : Nat) (x : Nd), j < 0 → UU.kids[j]? = some x → unkN x = false) := fun j x h => absurd h (by omega)
                  obtain ⟨w5, rfl⟩ : ∃ w5 : World, w5 = wo := ⟨_, rfl⟩
                  have hW5 := Below.refl w5.heap.size w5
                  obtain ⟨p0, p1, p2, p3, p4⟩ := (HBU.out.below hW HBU.out.lt).cells5
                  have hz5 := hW.size
                  clear EM4 hN hi hI hown hcls hW
                  go_wp2_with fail
                  clear q0 q1 q2 q3 q4
                  go_loopw [14, 15] (fun t14 t15 wr => ∃ i : Nat, i ≤ UU.kids.length ∧ t14 = .int .i64 i ∧ Hid (∀ (j : Nat) (x : Nd), j < i → UU.kids[j]? = some x → unkN x = false) ∧ Below w5.heap.size w5 wr) (fun t14 _ _ => UU.kids.length - (intOf t14).toNat)
                  case atStart => exact ⟨0, by omega, rfl, K0, hW5⟩
                  case round =>
                    clear hW5 K0 p0 p1 p2 p3 p4
                    obtain ⟨i, hi, rfl, hO, hW5⟩ := hrel
                    obtain ⟨wo, rfl⟩ : ∃ wo : World, wo = wr := ⟨_, rfl⟩
                    have hW := nextB HWI.out hW5
                    obtain ⟨p0, p1, p2, p3, p4⟩ := (HBU.out.below hW HBU.out.lt).cells5
                    have hl64 := HLU2.out
                    by_cases hlt : i < UU.kids.length
                    · have hkeep : ∀ p : Addr, p.block < w4.heap.size → wo.cell? p = w4.cell? p := fun p hp => hW.cell hp
                      obtain ⟨ad, nn, v0, v1, v2, v3, v4, hm6, hadb, hni, hnd, e0, e1, e2, e3, e4⟩ := (HRU.out.keep hkeep).nd (NdsIs.keep hkeep _ _ HNU.out) hlt
                      subst hm6
                      obtain ⟨y0, y1, y2, y3, y4, y5, y6, y7, y8, rfl, rfl, rfl, rfl, rfl⟩ := hnd.form
                      obtain ⟨-, ht2, -⟩ := NdIs.cells_ hnd
                      subst ht2
                      have i0 : (0 : Int) ≤ (i : Int) := by omega
                      have i1 : (i : Int) < (UU.kids.length : Int) := by omega
                      have HUK : Hid (unkN nn = !((nn.text.toList == [117, 114, 110, 58, 105, 101, 116, 102, 58, 112, 97, 114, 97, 109, 115, 58, 106, 109, 97, 112, 58, 99, 111, 114, 101]) || (nn.text.toList == [117, 114, 110, 58, 105, 101, 116, 102, 58, 112, 97, 114, 97, 109, 115, 58, 106, 109, 97, 112, 58, 109, 97, 105, 108]))) := rfl
                      have HNI := Lib.hid hni
                      have HOO := hO
                      clear hnd hni hkeep hO
                      generalize nn.text = tx at *
                      cases z1 : (tx.toList == [117, 114, 110, 58, 105, 101, 116, 102, 58, 112, 97, 114, 97, 109, 115, 58, 106, 109, 97, 112, 58, 99, 111, 114, 101]) with
                      | true =>
                        have HU2 : Hid (unkN nn = false) := by show _ = _; rw [HUK.out, z1]; rfl
                        have HO2 : Hid (∀ (j : Nat) (x : Nd), j < i + 1 → UU.kids[j]? = some x → unkN x = false) := fun j x hj hx => by
                          by_cases e : j = i
                          · subst e; rw [HNI.out] at hx; injection hx with hx; rw [← hx]; exact HU2.out
                          · exact HOO.out j x (by omega) hx
                        go_wp2_with fail
                        go_roundw
                        case rel => exact ⟨i + 1, by omega, by go_num, HO2, hW5⟩
                        case measure => simp [intOf]; omega
                      | false =>
                        cases z2 : (tx.toList == [117, 114, 110, 58, 105, 101, 116, 102, 58, 112, 97, 114, 97, 109, 115, 58, 106, 109, 97, 112, 58, 109, 97, 105, 108]) with
                        | true =>
                          have HU2 : Hid (unkN nn = false) := by show _ = _; rw [HUK.out, z1, z2]; rfl
                          have HO2 : Hid (∀ (j : Nat) (x : Nd), j < i + 1 → UU.kids[j]? = some x → unkN x = false) := fun j x hj hx => by
                            by_cases e : j = i
                            · subst e; rw [HNI.out] at hx; injection hx with hx; rw [← hx]; exact HU2.out
                            · exact HOO.out j x (by omega) hx
                          go_wp2_with fail
                          go_roundw
                          case rel => exact ⟨i + 1, by omega, by go_num, HO2, hW5⟩
                          case measure => simp [intOf]; omega
                        | false =>
                          have EE : Hid (V = .error unkC) := by show _ = _; rw [EM5.out, if_pos (any_yes' HNI.out (by rw [HUK.out, z1, z2]; rfl))]
                          go_wp2_with fail
                          refine bodyPost_ret (v := .tuple #[.slice none 0 0, .string ⟨#[117, 110, 107, 110, 111, 119, 110, 67, 97, 112, 97, 98, 105, 108, 105, 116, 121]⟩]) (by simp [results, Try.results15, go_sem]) rfl ?_
                          exact ReadP.err EE.out (HB4.out.trans (hW.mono HB4.out.size))
                    · obtain rfl : i = UU.kids.length := by omega
                      have EM6 : Hid (V = if 16 < MM.kids.length then .error limS else .ok (MM.kids.map clOf)) := by
                        show _ = _
                        rw [EM5.out, if_neg (by rw [any_no' (fun j x hj hx => hO.out j x hj hx)]; simp)]
                      have i1 : ¬ (UU.kids.length : Int) < (UU.kids.length : Int) := by omega
                      clear EM5 hO hi
                      by_cases h16 : 16 < MM.kids.length
                      · have EE : Hid (V = .error limS) := by show _ = _; rw [EM6.out, if_pos h16]
                        have h16i : decide ((16 : Int) < (MM.kids.length : Int)) = true := decide_eq_true (by omega)
                        clear EM6 h16
                        go_wp2_with fail
                        refine bodyPost_ret (v := .tuple #[.slice none 0 0, .string ⟨#[108, 105, 109, 105, 116]⟩]) (by simp [results, Try.results15, go_sem]) rfl ?_
                        exact ReadP.err EE.out (HB4.out.trans (hW.mono HB4.out.size))
                      · have EE : Hid (V = .ok (MM.kids.map clOf)) := by show _ = _; rw [EM6.out, if_neg h16]
                        have h16i : decide ((16 : Int) < (MM.kids.length : Int)) = false := decide_eq_false (by omega)
                        clear EM6 h16
                        go_wp2_with fail
                        refine bodyPost_ret (v := .tuple #[.slice Ao MM.kids.length co, .string ⟨#[]⟩]) (by simp [results, Try.results15, go_sem]) rfl ?_
                        have e1 : (okL V).length = MM.kids.length := by rw [EE.out]; show (MM.kids.map clOf).length = _; rw [List.length_map]
                        have e2 : errS V = ⟨#[]⟩ := by rw [EE.out]; rfl
                        have e3 : okL V = MM.kids.map clOf := by rw [EE.out]; rfl
                        have hOW2 := own_old HOW.out hW5
                        refine ⟨Ao, co, xs, by rw [e1, e2], by rw [e1]; exact own_reads hOW2, by rw [e3]; exact ClsIs.more hW.size _ _ (ClsIs.keep (fun p hp => hW5.cell (by omega)) _ _ HCI.out), HB4.out.trans (hW.mono HB4.out.size)⟩
end Go.Proofs.Ytnhoecmcbikcnaa
/-! CallReads: two lists of calls that are one are told so; the calls of any bytes are the document's. -/
namespace Go.Proofs.Ytnhoecmcbikcnaa
open Go.RowKit Go.PlainAid
set_option linter.unusedVariables false
set_option linter.unusedSimpArgs false
theorem ClsIs.at_ {w : World} {B : Nat} : ∀ (l : List Cl) (xs : List Value) (i : Nat) (cl : Cl), ClsIs w B l xs → l[i]? = some cl → ∃ cs, NdIs w B cl.args cs ∧ ∀ j, j < 7 → xs[i * 7 + j]? = (.string cl.name :: (cs ++ [.string cl.id]))[j]?
  | [], xs, i, n, h, hi => by simp at hi
  | a :: l, xs, i, cl, h, hi => by
    unfold ClsIs at h
    obtain ⟨cs, ys, rfl, h2, h3⟩ := h
    have hl := h2.len
    cases i with
    | zero =>
      simp at hi; subst hi
      refine ⟨cs, h2, fun j hj => ?_⟩
      rw [Nat.zero_mul, Nat.zero_add, show (Value.string a.name :: (cs ++ Value.string a.id :: ys)) = (Value.string a.name :: (cs ++ [Value.string a.id])) ++ ys by simp]
      exact List.getElem?_append_left (by simp; omega)
    | succ i =>
      obtain ⟨cs', k1, k2⟩ := ClsIs.at_ l ys i cl h3 (by simpa using hi)
      refine ⟨cs', k1, fun j hj => ?_⟩
      rw [← k2 j hj, show (Value.string a.name :: (cs ++ Value.string a.id :: ys)) = (Value.string a.name :: (cs ++ [Value.string a.id])) ++ ys by simp, List.getElem?_append_right (by simp; omega)]
      congr 1
      simp; omega
/-- one call of a slice of calls -/
theorem Reads.cl {w : World} {B : Nat} {A : Option Addr} {l : List Cl} {xs : List Value} (h : Reads w B 7 A l.length xs) (hs : ClsIs w B l xs) {i : Nat} (hi : i < l.length) :
    ∃ ad cl x0 x1 x2 x3 x4 x5 x6 x7 x8, A = some ad ∧ ad.block < B ∧ l[i]? = some cl ∧ NdIs w B cl.args [.int .i64 x0, .int .i64 x1, .string x2, .slice x3 x4 x5, .slice x6 x7 x8] ∧ w.cell? (ad.add (i * 7)) = some (.string cl.name) ∧ w.cell? ⟨(ad.add (i * 7)).block, (ad.add (i * 7)).off + 1, none⟩ = some (.int .i64 x0) ∧ w.cell? ⟨(ad.add (i * 7)).block, (ad.add (i * 7)).off + 2, none⟩ = some (.int .i64 x1) ∧ w.cell? ⟨(ad.add (i * 7)).block, (ad.add (i * 7)).off + 3, none⟩ = some (.string x2) ∧ w.cell? ⟨(ad.add (i * 7)).block, (ad.add (i * 7)).off + 4, none⟩ = some (.slice x3 x4 x5) ∧ w.cell? ⟨(ad.add (i * 7)).block, (ad.add (i * 7)).off + 5, none⟩ = some (.slice x6 x7 x8) ∧ w.cell? ⟨(ad.add (i * 7)).block, (ad.add (i * 7)).off + 6, none⟩ = some (.string cl.id) := by
  obtain ⟨ad, e, hb, hc⟩ := h.2 (by omega)
  obtain ⟨cs, h1, h2⟩ := ClsIs.at_ l xs i l[i] hs (List.getElem?_eq_getElem hi)
  obtain ⟨A1, ck, A2, c, ys, rfl, _⟩ := h1.open_
  have g : ∀ j u, j < 7 → ([.string l[i].name, .int .i64 l[i].args.kind, .int .i64 l[i].args.num, .string l[i].args.text, .slice A1 l[i].args.keys.length ck, .slice A2 l[i].args.kids.length c, .string l[i].id] : List Value)[j]? = some u → w.cell? ((ad.add (i * 7)).add j) = some u := fun j u hj hu => by
    rw [add_of_add]; exact hc _ _ ((h2 j hj).trans hu)
  have g0 := g 0 _ (by omega) rfl
  rw [show (ad.add (i * 7)).add 0 = ad.add (i * 7) by simp [Addr.add]] at g0
  exact ⟨ad, l[i], _, _, _, _, _, _, _, _, _, e, hb, List.getElem?_eq_getElem hi, h1, g0, g 1 _ (by omega) rfl, g 2 _ (by omega) rfl, g 3 _ (by omega) rfl, g 4 _ (by omega) rfl, g 5 _ (by omega) rfl, g 6 _ (by omega) rfl⟩
def TwoC (i : Nat) (ad ad2 : Addr) (cl : Cl) (x0 x1 : Int) (x2 : ByteArray) (x3 : Option Addr) (x4 x5 : Nat) (x6 : Option Addr) (x7 x8 : Nat) (y0 y1 : Int) (y2 : ByteArray) (y3 : Option Addr) (y4 y5 : Nat) (y6 : Option Addr) (y7 y8 : Nat) (w' : World) : Prop := w'.cell? (ad.add (i * 7)) = some (.string cl.name) ∧ w'.cell? ⟨(ad.add (i * 7)).block, (ad.add (i * 7)).off + 1, none⟩ = some (.int .i64 x0) ∧ w'.cell? ⟨(ad.add (i * 7)).block, (ad.add (i * 7)).off + 2, none⟩ = some (.int .i64 x1) ∧ w'.cell? ⟨(ad.add (i * 7)).block, (ad.add (i * 7)).off + 3, none⟩ = some (.string x2) ∧ w'.cell? ⟨(ad.add (i * 7)).block, (ad.add (i * 7)).off + 4, none⟩ = some (.slice x3 x4 x5) ∧ w'.cell? ⟨(ad.add (i * 7)).block, (ad.add (i * 7)).off + 5, none⟩ = some (.slice x6 x7 x8) ∧ w'.cell? ⟨(ad.add (i * 7)).block, (ad.add (i * 7)).off + 6, none⟩ = some (.string cl.id) ∧ w'.cell? (ad2.add (i * 7)) = some (.string cl.name) ∧ w'.cell? ⟨(ad2.add (i * 7)).block, (ad2.add (i * 7)).off + 1, none⟩ = some (.int .i64 y0) ∧ w'.cell? ⟨(ad2.add (i * 7)).block, (ad2.add (i * 7)).off + 2, none⟩ = some (.int .i64 y1) ∧ w'.cell? ⟨(ad2.add (i * 7)).block, (ad2.add (i * 7)).off + 3, none⟩ = some (.string y2) ∧ w'.cell? ⟨(ad2.add (i * 7)).block, (ad2.add (i * 7)).off + 4, none⟩ = some (.slice y3 y4 y5) ∧ w'.cell? ⟨(ad2.add (i * 7)).block, (ad2.add (i * 7)).off + 5, none⟩ = some (.slice y6 y7 y8) ∧ w'.cell? ⟨(ad2.add (i * 7)).block, (ad2.add (i * 7)).off + 6, none⟩ = some (.string cl.id)
theorem TwoC.keep {i : Nat} {ad ad2 : Addr} {cl : Cl} {x0 x1 : Int} {x2 : ByteArray} {x3 : Option Addr} {x4 x5 : Nat} {x6 : Option Addr} {x7 x8 : Nat} {y0 y1 : Int} {y2 : ByteArray} {y3 : Option Addr} {y4 y5 : Nat} {y6 : Option Addr} {y7 y8 : Nat} {w w' : World} {B : Nat} (hk : Below B w w') (h1 : ad.block < B) (h2 : ad2.block < B) (h : TwoC i ad ad2 cl x0 x1 x2 x3 x4 x5 x6 x7 x8 y0 y1 y2 y3 y4 y5 y6 y7 y8 w) : TwoC i ad ad2 cl x0 x1 x2 x3 x4 x5 x6 x7 x8 y0 y1 y2 y3 y4 y5 y6 y7 y8 w' := by
  have k1 : ∀ (p : Addr) (v : Value), w.cell? p = some v → p.block = (ad.add (i * 7)).block → w'.cell? p = some v := fun p v hv hp => (hk.cell (by rw [hp, block_of_add]; exact h1)).trans hv
  have k2 : ∀ (p : Addr) (v : Value), w.cell? p = some v → p.block = (ad2.add (i * 7)).block → w'.cell? p = some v := fun p v hv hp => (hk.cell (by rw [hp, block_of_add]; exact h2)).trans hv
  obtain ⟨a0, a1, a2, a3, a4, a5, a6, b0, b1, b2, b3, b4, b5, b6⟩ := h
  exact ⟨k1 _ _ a0 rfl, k1 _ _ a1 rfl, k1 _ _ a2 rfl, k1 _ _ a3 rfl, k1 _ _ a4 rfl, k1 _ _ a5 rfl, k1 _ _ a6 rfl, k2 _ _ b0 rfl, k2 _ _ b1 rfl, k2 _ _ b2 rfl, k2 _ _ b3 rfl, k2 _ _ b4 rfl, k2 _ _ b5 rfl, k2 _ _ b6 rfl⟩
set_option maxRecDepth 100000 in
set_option maxHeartbeats 4000000 in
theorem same26_any (l : List Cl) (A A2 : Option Addr) (c c2 : Nat) (xs ys : List Value) (w : World) (B : Nat) (h1 : Reads w B 7 A l.length xs) (h2 : ClsIs w B l xs) (h3 : Reads w B 7 A2 l.length ys) (h4 : ClsIs w B l ys) (hB : B ≤ w.heap.size) (hl : l.length ≤ 1000000) :
    Calls Try.prog 16 #[.slice A l.length c, .slice A2 l.length c2] w (BoolBel true w) := by
  have hW := Below.refl w.heap.size w
  have H1 := Lib.hid h1
  have H2 := Lib.hid h2
  have H3 := Lib.hid h3
  have H4 := Lib.hid h4
  clear h1 h2 h3 h4
  go_enter Try.func16, Try.ntmps16
  go_wp2_with fail
  go_loopw [5] (fun t5 wr => ∃ i : Nat, i ≤ l.length ∧ t5 = .int .i64 i ∧ Below w.heap.size w wr) (fun t5 _ => l.length - (intOf t5).toNat)
  case atStart => exact ⟨0, by omega, rfl, hW⟩
  case round =>
    clear hW
    obtain ⟨i, hi, rfl, hW⟩ := hrel
    obtain ⟨wo, rfl⟩ : ∃ wo : World, wo = wr := ⟨_, rfl⟩
    have hsz := hW.size
    by_cases hlt : i < l.length
    · have hkeep : ∀ p : Addr, p.block < B → wo.cell? p = w.cell? p := fun p hp => hW.cell (by omega)
      obtain ⟨ad, cl, x0, x1, x2, x3, x4, x5, x6, x7, x8, rfl, hadb, hci, hnx, a0, a1, a2, a3, a4, a5, a6⟩ := (H1.out.keep hkeep).cl (ClsIs.keep hkeep _ _ H2.out) hlt
      obtain ⟨ad2, cl2, y0, y1, y2, y3, y4, y5, y6, y7, y8, rfl, hadb2, hci2, hny, b0, b1, b2, b3, b4, b5, b6⟩ := (H3.out.keep hkeep).cl (ClsIs.keep hkeep _ _ H4.out) hlt
      rw [hci] at hci2
      injection hci2 with hci2
      subst hci2
      have T0 : Hid (TwoC i ad ad2 cl x0 x1 x2 x3 x4 x5 x6 x7 x8 y0 y1 y2 y3 y4 y5 y6 y7 y8 wo.drew) := ⟨a0, a1, a2, a3, a4, a5, a6, b0, b1, b2, b3, b4, b5, b6⟩
      have T0b := T0
      have hbd : Below wo.heap.size wo wo.drew := (Below.refl _ _).drew
      have HS := Lib.hid (rSame_any cl.args.count cl.args cl.args _ _ wo.drew B (Nat.le_refl _) (hnx.below (hbd.mono (by omega))) (hny.below (hbd.mono (by omega))) (show B ≤ wo.heap.size by omega))
      rw [sameN_refl] at HS
      have HWD := Lib.hid (nextB hW hbd)
      have i0 : (0 : Int) ≤ (i : Int) := by omega
      have i1 : (i : Int) < (l.length : Int) := by omega
      have HAB : Hid (ad.block < wo.drew.heap.size) := by show ad.block < wo.heap.size; omega
      have HAB2 : Hid (ad2.block < wo.drew.heap.size) := by show ad2.block < wo.heap.size; omega
      clear hnx hny hci hkeep hbd
      unfold TwoC at T0
      go_wp2_with fail
      go_region_held3 (fun w' => w'.cell? (ad.add (i * 7)) = some (.string cl.name) ∧ w'.cell? ⟨(ad.add (i * 7)).block, (ad.add (i * 7)).off + 1, none⟩ = some (.int .i64 x0) ∧ w'.cell? ⟨(ad.add (i * 7)).block, (ad.add (i * 7)).off + 2, none⟩ = some (.int .i64 x1) ∧ w'.cell? ⟨(ad.add (i * 7)).block, (ad.add (i * 7)).off + 3, none⟩ = some (.string x2) ∧ w'.cell? ⟨(ad.add (i * 7)).block, (ad.add (i * 7)).off + 4, none⟩ = some (.slice x3 x4 x5) ∧ w'.cell? ⟨(ad.add (i * 7)).block, (ad.add (i * 7)).off + 5, none⟩ = some (.slice x6 x7 x8) ∧ w'.cell? ⟨(ad.add (i * 7)).block, (ad.add (i * 7)).off + 6, none⟩ = some (.string cl.id) ∧ w'.cell? (ad2.add (i * 7)) = some (.string cl.name) ∧ w'.cell? ⟨(ad2.add (i * 7)).block, (ad2.add (i * 7)).off + 1, none⟩ = some (.int .i64 y0) ∧ w'.cell? ⟨(ad2.add (i * 7)).block, (ad2.add (i * 7)).off + 2, none⟩ = some (.int .i64 y1) ∧ w'.cell? ⟨(ad2.add (i * 7)).block, (ad2.add (i * 7)).off + 3, none⟩ = some (.string y2) ∧ w'.cell? ⟨(ad2.add (i * 7)).block, (ad2.add (i * 7)).off + 4, none⟩ = some (.slice y3 y4 y5) ∧ w'.cell? ⟨(ad2.add (i * 7)).block, (ad2.add (i * 7)).off + 5, none⟩ = some (.slice y6 y7 y8) ∧ w'.cell? ⟨(ad2.add (i * 7)).block, (ad2.add (i * 7)).off + 6, none⟩ = some (.string cl.id)) (first | with_reducible exact T0.out | with_reducible exact T1.out) ((go_at_call 11; refine HS.out.mono ?_; rintro e w5 ⟨rfl, hb⟩; have HW5 := Lib.hid (nextB HWD.out hb); have T1 := Lib.hid (TwoC.keep hb HAB.out HAB2.out T0b.out); unfold TwoC at T1; clear hb))
      go_wp2_with fail
      go_roundw
      case rel => exact ⟨i + 1, by omega, by go_num, HW5.out⟩
      case measure => simp [intOf]; omega
    · obtain rfl : i = l.length := by omega
      have i1 : ¬ (l.length : Int) < (l.length : Int) := by omega
      go_wp2_with fail
      go_ret
      exact ⟨rfl, hW⟩
theorem okL_len {l : List UInt8} : (okL (readL l)).length ≤ 1000000 := by
  unfold readL
  cases hp : parseL l with
  | error e => show (okL (.error notJ)).length ≤ _; simp [okL]
  | ok n =>
    show (okL (readK n)).length ≤ _
    unfold readK
    have h1 := find_size (x := callsS) (parse_size hp)
    unfold readN
    repeat' split
    all_goals first | (simp [okL]; done) | (simp only [okL, List.length_map]; omega)
theorem rRead_any26 (s : ByteArray) (A : Option Addr) (c : Nat) (w : World) (h : BytesAt w A c s) : Calls Try.prog 15 #[.slice A s.size c] w (ReadP (readL s.toList) w) := by
  cases hr : parseL s.toList with
  | error ec => exact rRead_bad s A c w ec h hr
  | ok n => exact rRead_ok s A c w n h hr
set_option maxRecDepth 100000 in
set_option maxHeartbeats 4000000 in
theorem callReads_walk (a0 : Option Addr) (len cap : Nat) (zs : List Int) (w : World) (w0 : IsRow .u8 w a0 len cap zs) :
    Calls Try.prog 4 #[.slice a0 len cap] w fun e w' => e = .returned (.bool true) ∧ Below w.heap.size w w' := by
  obtain ⟨s, rfl, hby, hcap, hmax, _, _⟩ := BytesAt.of_arg w0
  clear w0
  have hW := Below.refl w.heap.size w
  by_cases hl : 5000 < s.size
  · have hli : (5000 : Int) < (s.size : Int) := by omega
    clear hby
    go_enter Try.func4, Try.ntmps4
    go_wp2_with (go_at_call 13; refine (awake26_any _).mono ?_; rintro e w1 ⟨rfl, hw1⟩; (first | replace hW := nextB hW hw1 | replace hW := nextA hW hw1 | replace hW := nextB hW.drew hw1 | replace hW := nextAA hW hw1 | replace hW := nextAD hW hw1); clear hw1)
    go_ret
    exact ⟨rfl, hW⟩
  have hli : ¬ (5000 : Int) < (s.size : Int) := by omega
  have HP := Lib.hid (kRead_any s a0 cap w hby)
  have HR : Hid (∀ w', Below w.heap.size w w' → Calls Try.prog 15 #[.slice a0 s.size cap] w' (ReadP (readL s.toList) w')) := fun w' hb => rRead_any26 s a0 cap w' (hby.later hb)
  have hn := okL_len (l := s.toList)
  generalize readL s.toList = V at *
  clear hby hl
  unfold ReadP at HP HR
  generalize okL V = l at *
  generalize errS V = es at *
  go_enter Try.func4, Try.ntmps4
  go_wp2_with fail
  refine (HP.out : Calls _ _ _ _ _).mono ?_; rintro e w1 ⟨A1, c1, xs, rfl, r1, k1, hb⟩
  replace hW := nextB hW hb
  have R1 := Lib.hid r1
  have K1 := Lib.hid k1
  clear hb HP r1 k1
  go_wp2_with fail
  refine (HR.out _ hW : Calls _ _ _ _ _).mono ?_; rintro e w2 ⟨A2, c2, ys, rfl, r2, k2, hb⟩
  have HS := Lib.hid (same26_any l A1 A2 c1 c2 xs ys w2 w2.heap.size (RS.reads (S := (· < w1.heap.size)) (R1.out.keep fun p hp => hb.cell hp) (fun b h => Nat.lt_of_lt_of_le h hb.size)) (ClsIs.more hb.size _ _ (ClsIs.keep (fun p hp => hb.cell hp) _ _ K1.out)) r2 k2 (Nat.le_refl _) hn)
  replace hW := nextB hW hb
  clear hb HR r2 k2 R1 K1
  go_wp2_with fail
  refine (HS.out : Calls _ _ _ _ _).mono ?_; rintro e w3 ⟨rfl, hb⟩
  replace hW := nextB hW hb
  clear hb HS
  go_wp2_with (go_at_call 13; refine (awake26_any _).mono ?_; rintro e w4 ⟨rfl, hw1⟩; (first | replace hW := nextB hW hw1 | replace hW := nextA hW hw1 | replace hW := nextB hW.drew hw1 | replace hW := nextAA hW hw1 | replace hW := nextAD hW hw1); clear hw1)
  go_ret
  exact ⟨rfl, hW⟩
end Go.Proofs.Ytnhoecmcbikcnaa
/-! CallBad: requests that lack something, or have it of another kind, are told so. -/
namespace Go.Proofs.Ytnhoecmcbikcnaa
open Go.RowKit Go.PlainAid
set_option linter.unusedVariables false
set_option linter.unusedSimpArgs false
theorem reqs_size : ∀ s ∈ reqs, s.size ≤ 60 := by
  intro s hs
  unfold reqs at hs
  simp only [List.mem_cons, List.not_mem_nil, or_false] at hs
  rcases hs with rfl | rfl | rfl | rfl | rfl | rfl | rfl | rfl | rfl | rfl | rfl | rfl <;> decide
theorem reqs_len : reqs.length = 12 := rfl
theorem reqs_cells : (#[.string ⟨#[91, 93]⟩, .string ⟨#[123, 125]⟩, .string ⟨#[123, 34, 117, 115, 105, 110, 103, 34, 58, 91, 93, 125]⟩, .string ⟨#[123, 34, 109, 101, 116, 104, 111, 100, 67, 97, 108, 108, 115, 34, 58, 91, 93, 125]⟩, .string ⟨#[123, 34, 117, 115, 105, 110, 103, 34, 58, 123, 125, 44, 34, 109, 101, 116, 104, 111, 100, 67, 97, 108, 108, 115, 34, 58, 91, 93, 125]⟩, .string ⟨#[123, 34, 117, 115, 105, 110, 103, 34, 58, 91, 49, 93, 44, 34, 109, 101, 116, 104, 111, 100, 67, 97, 108, 108, 115, 34, 58, 91, 93, 125]⟩, .string ⟨#[123, 34, 117, 115, 105, 110, 103, 34, 58, 91, 93, 44, 34, 109, 101, 116, 104, 111, 100, 67, 97, 108, 108, 115, 34, 58, 123, 125, 125]⟩, .string ⟨#[123, 34, 117, 115, 105, 110, 103, 34, 58, 91, 93, 44, 34, 109, 101, 116, 104, 111, 100, 67, 97, 108, 108, 115, 34, 58, 91, 123, 125, 93, 125]⟩, .string ⟨#[123, 34, 117, 115, 105, 110, 103, 34, 58, 91, 93, 44, 34, 109, 101, 116, 104, 111, 100, 67, 97, 108, 108, 115, 34, 58, 91, 91, 34, 97, 34, 44, 123, 125, 93, 93, 125]⟩, .string ⟨#[123, 34, 117, 115, 105, 110, 103, 34, 58, 91, 93, 44, 34, 109, 101, 116, 104, 111, 100, 67, 97, 108, 108, 115, 34, 58, 91, 91, 34, 97, 34, 44, 91, 93, 44, 34, 98, 34, 93, 93, 125]⟩, .string ⟨#[123, 34, 117, 115, 105, 110, 103, 34, 58, 91, 93, 44, 34, 109, 101, 116, 104, 111, 100, 67, 97, 108, 108, 115, 34, 58, 91, 91, 49, 44, 123, 125, 44, 34, 98, 34, 93, 93, 125]⟩, .string ⟨#[49]⟩] : Array Value) = (reqs.map Value.string).toArray := by unfold reqs; rfl
theorem reqs_at (w : World) (q : Nat) (S : ByteArray) (hS : reqs[q]? = some S) : (w.alloc (.cells #[.string ⟨#[91, 93]⟩, .string ⟨#[123, 125]⟩, .string ⟨#[123, 34, 117, 115, 105, 110, 103, 34, 58, 91, 93, 125]⟩, .string ⟨#[123, 34, 109, 101, 116, 104, 111, 100, 67, 97, 108, 108, 115, 34, 58, 91, 93, 125]⟩, .string ⟨#[123, 34, 117, 115, 105, 110, 103, 34, 58, 123, 125, 44, 34, 109, 101, 116, 104, 111, 100, 67, 97, 108, 108, 115, 34, 58, 91, 93, 125]⟩, .string ⟨#[123, 34, 117, 115, 105, 110, 103, 34, 58, 91, 49, 93, 44, 34, 109, 101, 116, 104, 111, 100, 67, 97, 108, 108, 115, 34, 58, 91, 93, 125]⟩, .string ⟨#[123, 34, 117, 115, 105, 110, 103, 34, 58, 91, 93, 44, 34, 109, 101, 116, 104, 111, 100, 67, 97, 108, 108, 115, 34, 58, 123, 125, 125]⟩, .string ⟨#[123, 34, 117, 115, 105, 110, 103, 34, 58, 91, 93, 44, 34, 109, 101, 116, 104, 111, 100, 67, 97, 108, 108, 115, 34, 58, 91, 123, 125, 93, 125]⟩, .string ⟨#[123, 34, 117, 115, 105, 110, 103, 34, 58, 91, 93, 44, 34, 109, 101, 116, 104, 111, 100, 67, 97, 108, 108, 115, 34, 58, 91, 91, 34, 97, 34, 44, 123, 125, 93, 93, 125]⟩, .string ⟨#[123, 34, 117, 115, 105, 110, 103, 34, 58, 91, 93, 44, 34, 109, 101, 116, 104, 111, 100, 67, 97, 108, 108, 115, 34, 58, 91, 91, 34, 97, 34, 44, 91, 93, 44, 34, 98, 34, 93, 93, 125]⟩, .string ⟨#[123, 34, 117, 115, 105, 110, 103, 34, 58, 91, 93, 44, 34, 109, 101, 116, 104, 111, 100, 67, 97, 108, 108, 115, 34, 58, 91, 91, 49, 44, 123, 125, 44, 34, 98, 34, 93, 93, 125]⟩, .string ⟨#[49]⟩] 9)).cell? ⟨w.heap.size, q, none⟩ = some (.string S) := by
  rw [World.cell?_alloc_mark, reqs_cells, List.getElem?_toArray, List.getElem?_map, hS]
  rfl
theorem reqs_get (q : Nat) (h : q < 12) : ∃ S, reqs[q]? = some S := by
  rw [← reqs_len] at h
  exact ⟨_, List.getElem?_eq_getElem h⟩
def ErrP (r : ByteArray) (w : World) (e : Ending) (w' : World) : Prop := ∃ (A : Option Addr) (c : Nat), e = .returned (.tuple #[.slice A 0 c, .string r]) ∧ Below w.heap.size w w'
theorem read_bad (s r : ByteArray) (hr : readL s.toList = .error r) (A : Option Addr) (c : Nat) (w : World) (h : BytesAt w A c s) : Calls Try.prog 14 #[.slice A s.size c] w (ErrP r w) := by
  have h1 := kRead_any s A c w h
  rw [hr] at h1
  exact h1.mono (fun e w' h => ReadP.bad rfl h)
set_option maxRecDepth 100000 in
set_option maxHeartbeats 800000 in
theorem callBad_walk (n : Int) (w0 : (Lit.int .u8 n).wf = true) (w : World) :
    Calls Try.prog 6 #[.int .u8 n] w fun e w' => e = .returned (.bool true) ∧ Below w.heap.size w w' := by
  have hr : 0 ≤ n ∧ n ≤ 255 := by
    simp [Lit.wf, IntKind.min, IntKind.max, IntKind.signed, IntKind.bits] at w0; omega
  obtain ⟨h0, h1⟩ := hr
  obtain ⟨q, hq⟩ : ∃ q : Nat, (q : Int) = n % 12 := ⟨(n % 12).toNat, by omega⟩
  have hq12 : q < 12 := by omega
  have hK : n.tmod 12 = (q : Int) := by rw [hq]; exact Int.tmod_eq_emod_of_nonneg h0
  obtain ⟨S, hS⟩ := reqs_get q hq12
  have hm : S ∈ reqs := List.mem_of_getElem? hS
  have hbad := reqs_bad S hm
  have hsz := reqs_size S hm
  have hc := reqs_at w q S hS
  have HP : Hid (∀ w' A c, BytesAt w' A c S → Calls Try.prog 14 #[.slice A S.size c] w' (ErrP ⟨#[110, 111, 116, 82, 101, 113, 117, 101, 115, 116]⟩ w')) := fun w' A c hb => read_bad S notR hbad.1 A c w' hb
  have hx1 : (S ++ (⟨#[120]⟩ : ByteArray)).size = S.size + 1 := by rw [ByteArray.size_append]; rfl
  have HP2 : Hid (∀ w' A c, BytesAt w' A c (S ++ (⟨#[120]⟩ : ByteArray)) → Calls Try.prog 14 #[.slice A (S.size + 1) c] w' (ErrP ⟨#[110, 111, 116, 74, 83, 79, 78]⟩ w')) := fun w' A c hb => by
    have := read_bad (S ++ (⟨#[120]⟩ : ByteArray)) notJ hbad.2 A c w' hb
    rw [hx1] at this
    exact this
  clear hx1
  have HA : Hid (Below w.heap.size w (w.alloc (.cells #[.string ⟨#[91, 93]⟩, .string ⟨#[123, 125]⟩, .string ⟨#[123, 34, 117, 115, 105, 110, 103, 34, 58, 91, 93, 125]⟩, .string ⟨#[123, 34, 109, 101, 116, 104, 111, 100, 67, 97, 108, 108, 115, 34, 58, 91, 93, 125]⟩, .string ⟨#[123, 34, 117, 115, 105, 110, 103, 34, 58, 123, 125, 44, 34, 109, 101, 116, 104, 111, 100, 67, 97, 108, 108, 115, 34, 58, 91, 93, 125]⟩, .string ⟨#[123, 34, 117, 115, 105, 110, 103, 34, 58, 91, 49, 93, 44, 34, 109, 101, 116, 104, 111, 100, 67, 97, 108, 108, 115, 34, 58, 91, 93, 125]⟩, .string ⟨#[123, 34, 117, 115, 105, 110, 103, 34, 58, 91, 93, 44, 34, 109, 101, 116, 104, 111, 100, 67, 97, 108, 108, 115, 34, 58, 123, 125, 125]⟩, .string ⟨#[123, 34, 117, 115, 105, 110, 103, 34, 58, 91, 93, 44, 34, 109, 101, 116, 104, 111, 100, 67, 97, 108, 108, 115, 34, 58, 91, 123, 125, 93, 125]⟩, .string ⟨#[123, 34, 117, 115, 105, 110, 103, 34, 58, 91, 93, 44, 34, 109, 101, 116, 104, 111, 100, 67, 97, 108, 108, 115, 34, 58, 91, 91, 34, 97, 34, 44, 123, 125, 93, 93, 125]⟩, .string ⟨#[123, 34, 117, 115, 105, 110, 103, 34, 58, 91, 93, 44, 34, 109, 101, 116, 104, 111, 100, 67, 97, 108, 108, 115, 34, 58, 91, 91, 34, 97, 34, 44, 91, 93, 44, 34, 98, 34, 93, 93, 125]⟩, .string ⟨#[123, 34, 117, 115, 105, 110, 103, 34, 58, 91, 93, 44, 34, 109, 101, 116, 104, 111, 100, 67, 97, 108, 108, 115, 34, 58, 91, 91, 49, 44, 123, 125, 44, 34, 98, 34, 93, 93, 125]⟩, .string ⟨#[49]⟩] 9))) := (Below.refl _ _).alloc (Nat.le_refl _) _
  have q0 : (0 : Int) ≤ (q : Int) := by omega
  have q1 : (q : Int) < 12 := by omega
  clear hbad hm hS hq w0
  go_enter Try.func6, Try.ntmps6
  go_wp2_with (with_reducible refine wpList_bytes_of _ rfl (.tmp 19) rfl _ rfl ?_; intro g c9 w4 hg1 hg2 hrow hb4)
  have HPC := HP.out w4 _ c9 (BytesAt.of_row hg2 hrow)
  have hW := nextB HA.out hb4
  clear hg1 hg2 hrow hb4 HP hc HA
  refine (HPC : Calls _ _ _ _ _).mono ?_; rintro e w5 ⟨A5, c5, rfl, hw5⟩
  replace hW := nextB hW hw5
  clear hw5 HPC
  go_wp2_with (with_reducible refine wpList_bytes_of _ rfl (.tmp 26) rfl _ rfl ?_; intro g c9 w6 hg1 hg2 hrow hb4)
  generalize (S ++ (⟨#[120]⟩ : ByteArray)) = X at *
  have HPC := HP2.out w6 _ c9 (BytesAt.of_row hg2 hrow)
  replace hW := nextB hW hb4
  clear hg1 hg2 hrow hb4 HP2
  refine (HPC : Calls _ _ _ _ _).mono ?_; rintro e w7 ⟨A7, c7, rfl, hw5⟩
  replace hW := nextB hW hw5
  clear hw5 HPC
  go_wp2_with (go_at_call 13; refine (awake26_any _).mono ?_; rintro e w8 ⟨rfl, hw1⟩; (first | replace hW := nextB hW hw1 | replace hW := nextA hW hw1 | replace hW := nextB hW.drew hw1 | replace hW := nextAA hW hw1 | replace hW := nextAD hW hw1); clear hw1)
  go_ret
  exact ⟨rfl, hW⟩
end Go.Proofs.Ytnhoecmcbikcnaa
/-! CallMany: its walk. -/
namespace Go.Proofs.Ytnhoecmcbikcnaa
open Go.RowKit Go.PlainAid
set_option linter.unusedVariables false
set_option linter.unusedSimpArgs false
def DigM (n : Int) (D : ByteArray) : Prop := ∀ w : World, Calls Try.prog 17 #[.int .i64 n] w fun e w' => e = .returned (.string D) ∧ Below w.heap.size w w'
theorem digM (i : Nat) (h : i < 30) : DigM (i : Int) (digS (i : Int)) := fun w => rdigits_any 30 _ w (by omega) (by omega)
def LC (W : World) (a1 a2 a3 : Addr) (v1 v2 v3 : Value) (w : World) : Prop := w.cell? a1 = some v1 ∧ w.cell? a2 = some v2 ∧ w.cell? a3 = some v3 ∧ Below W.heap.size W w
theorem lc_below {W w w' : World} {a1 a2 a3 : Addr} {v1 v2 v3 : Value} (h : LC W a1 a2 a3 v1 v2 v3 w) (k : Below w.heap.size w w') : LC W a1 a2 a3 v1 v2 v3 w' := by
  obtain ⟨h1, h2, h3, h8⟩ := h
  have f : ∀ (p : Addr) (v : Value), w.cell? p = some v → w'.cell? p = some v := fun p v h => (k.cell (World.block_lt_of_cell? _ _ h)).trans h
  exact ⟨f _ _ h1, f _ _ h2, f _ _ h3, nextB h8 k⟩
theorem lc_drew {W w : World} {a1 a2 a3 : Addr} {v1 v2 v3 : Value} (h : LC W a1 a2 a3 v1 v2 v3 w) : LC W a1 a2 a3 v1 v2 v3 w.drew := ⟨h.1, h.2.1, h.2.2.1, h.2.2.2.drew⟩
theorem read_free {r : Except ByteArray (List Cl)} (s : ByteArray) (hr : readL s.toList = r) : ∀ (w : World) (n : Nat) (A : Option Addr) (c : Nat), n = s.size → BytesAt w A c s → Calls Try.prog 14 #[.slice A n c] w (ReadP r w) := by
  rintro w n A c rfl h
  rw [← hr]
  exact kRead_any s A c w h
set_option maxRecDepth 100000 in
set_option maxHeartbeats 400000 in
theorem callMany_walk (n : Int) (ot : Bool) (w0 : (Lit.int .u8 n).wf = true) (w : World) :
    Calls Try.prog 5 #[.int .u8 n, .bool ot] w fun e w' => e = .returned (.bool true) ∧ Below w.heap.size w w' := by
  have hr : 0 ≤ n ∧ n ≤ 255 := by
    simp [Lit.wf, IntKind.min, IntKind.max, IntKind.signed, IntKind.bits] at w0; omega
  obtain ⟨h0, h1⟩ := hr
  obtain ⟨k, hk⟩ : ∃ k : Nat, (k : Int) = n % 30 := ⟨(n % 30).toNat, by omega⟩
  have hk30 : k < 30 := by omega
  have hK : n.tmod 30 = (k : Int) := by rw [hk]; exact Int.tmod_eq_emod_of_nonneg h0
  clear hk w0
  go_enter Try.func5, Try.ntmps5
  go_wp2_with fail
  go_loopw [6, 7] (fun t6 t7 wr => ∃ i : Nat, i ≤ k ∧ t6 = .string (manyS i) ∧ t7 = .int .i64 i ∧ Hid (Below w.heap.size w wr)) (fun _ t7 _ => k - (intOf t7).toNat)
  case atStart => exact ⟨0, by omega, rfl, rfl, Below.refl _ _⟩
  case round =>
    obtain ⟨i, hi, rfl, rfl, hw⟩ := hrel
    have hS := manyS_size i (by omega)
    by_cases hlt : i < k
    · have HNX : Hid (manyS (i + 1) = addS i (sepS i (manyS i))) := rfl
      have HE := Lib.hid (digM i (by omega))
      have hE := digS_le i (by omega)
      have hlti : (i : Int) < (k : Int) := by omega
      unfold addS sepS at HNX
      generalize manyS i = S at *
      generalize digS (i : Int) = E at *
      have z1 : (⟨#[91, 34, 109]⟩ : ByteArray).size = 3 := rfl
      have z2 : (⟨#[34, 44, 123, 125, 44, 34, 99]⟩ : ByteArray).size = 7 := rfl
      have z3 : (⟨#[34, 93]⟩ : ByteArray).size = 2 := rfl
      have z4 : (⟨#[44]⟩ : ByteArray).size = 1 := rfl
      by_cases h0 : i = 0
      · rw [if_pos h0] at HNX
        have h0i : ¬ (0 : Int) < (i : Int) := by omega
        have H0 := Lib.hid h0
        clear h0
        go_wp2_with fail
        refine (HE.out _ : Calls _ _ _ _ _).mono ?_; rintro e w2 ⟨rfl, hw2⟩
        replace hw := Lib.hid (nextB hw.out hw2); clear hw2
        go_wp2_with fail
        refine (HE.out _ : Calls _ _ _ _ _).mono ?_; rintro e w2 ⟨rfl, hw2⟩
        replace hw := Lib.hid (nextB hw.out hw2); clear hw2
        go_wp2_with fail
        go_roundw
        case rel => exact ⟨i + 1, by omega, congrArg Value.string HNX.out.symm, by go_num, hw⟩
        case measure => simp [intOf]; omega
      · rw [if_neg h0] at HNX
        have h0i : (0 : Int) < (i : Int) := by omega
        go_wp2_with fail
        refine (HE.out _ : Calls _ _ _ _ _).mono ?_; rintro e w2 ⟨rfl, hw2⟩
        replace hw := Lib.hid (nextB hw.out hw2); clear hw2
        go_wp2_with fail
        refine (HE.out _ : Calls _ _ _ _ _).mono ?_; rintro e w2 ⟨rfl, hw2⟩
        replace hw := Lib.hid (nextB hw.out hw2); clear hw2
        go_wp2_with fail
        go_roundw
        case rel => exact ⟨i + 1, by omega, congrArg Value.string HNX.out.symm, by go_num, hw⟩
        case measure => simp [intOf]; omega
    · obtain rfl : i = k := by omega
      have z1 : (⟨#[93, 44, 34, 117, 115, 105, 110, 103, 34, 58, 91]⟩ : ByteArray).size = 11 := rfl
      have z2 : (⟨#[93, 125]⟩ : ByteArray).size = 2 := rfl
      cases ot with
      | true =>
        have HP := Lib.hid (read_free (wholeS i usB) (read_other i (by omega)))
        unfold wholeS usB usA at HP
        generalize manyS i = S at *
        have z3 : (⟨#[44, 34, 117, 114, 110, 58, 120, 34]⟩ : ByteArray).size = 8 := rfl
        go_wp2_with (with_reducible refine wpList_bytes_of _ rfl (.tmp 42) rfl _ rfl ?_; intro g c9 w4 hg1 hg2 hrow hb4)
        have HPC := HP.out w4
        replace hw := Lib.hid (nextB hw.out hb4)
        have hby := BytesAt.of_row (c := c9) hg2 hrow
        clear hg1 hg2 hrow hb4 HP
        refine (HPC _ _ _ (by simp [ByteArray.size_append]; rfl) hby : Calls _ _ _ _ _).mono ?_; rintro e w5 h5
        obtain ⟨A5, c5, rfl, hw5⟩ := ReadP.bad rfl h5
        unfold unkC
        have hW := nextB hw.out hw5
        clear hw hw5 h5 HPC hby
        go_wp2_with (go_at_call 13; refine (awake26_any _).mono ?_; rintro e w8 ⟨rfl, hw1⟩; (first | replace hW := nextB hW hw1 | replace hW := nextA hW hw1 | replace hW := nextB hW.drew hw1 | replace hW := nextAA hW hw1 | replace hW := nextAD hW hw1); clear hw1)
        go_ret
        exact ⟨rfl, hW⟩
      | false =>
        by_cases hm : 16 < i
        · have hmi : (16 : Int) < (i : Int) := by omega
          have HP := Lib.hid (read_free (wholeS i usA) (read_more i (by omega) hm))
          unfold wholeS usA at HP
          generalize manyS i = S at *
          go_wp2_with (with_reducible refine wpList_bytes_of _ rfl (.tmp 42) rfl _ rfl ?_; intro g c9 w4 hg1 hg2 hrow hb4)
          have HPC := HP.out w4
          replace hw := Lib.hid (nextB hw.out hb4)
          have hby := BytesAt.of_row (c := c9) hg2 hrow
          clear hg1 hg2 hrow hb4 HP
          refine (HPC _ _ _ (by simp [ByteArray.size_append]; rfl) hby : Calls _ _ _ _ _).mono ?_; rintro e w5 h5
          obtain ⟨A5, c5, rfl, hw5⟩ := ReadP.bad rfl h5
          unfold limS
          have hW := nextB hw.out hw5
          clear hw hw5 h5 HPC hby
          go_wp2_with (go_at_call 13; refine (awake26_any _).mono ?_; rintro e w8 ⟨rfl, hw1⟩; (first | replace hW := nextB hW hw1 | replace hW := nextA hW hw1 | replace hW := nextB hW.drew hw1 | replace hW := nextAA hW hw1 | replace hW := nextAD hW hw1); clear hw1)
          go_ret
          exact ⟨rfl, hW⟩
        · have hmi : ¬ (16 : Int) < (i : Int) := by omega
          have HP := Lib.hid (read_free (wholeS i usA) (read_all i (by omega)))
          unfold wholeS usA at HP
          generalize manyS i = S at *
          go_wp2_with (with_reducible refine wpList_bytes_of _ rfl (.tmp 42) rfl _ rfl ?_; intro g c9 w4 hg1 hg2 hrow hb4)
          have HPC := HP.out w4
          replace hw := Lib.hid (nextB hw.out hb4)
          have hby := BytesAt.of_row (c := c9) hg2 hrow
          clear hg1 hg2 hrow hb4 HP
          refine (HPC _ _ _ (by simp [ByteArray.size_append]; rfl) hby : Calls _ _ _ _ _).mono ?_; rintro e w5 ⟨A5, c5, xs, rfl, hr5, hx5, hw5⟩
          rw [show (okL (.ok (clsN i))).length = i from clsN_len i] at hr5 ⊢
          rw [show errS (.ok (clsN i)) = ⟨#[]⟩ from rfl]
          have HR := Lib.hid hr5
          have HX : Hid (ClsIs w5 w5.heap.size (clsN i) xs) := hx5
          have HW := Lib.hid (nextB hw.out hw5)
          have hn1 : ((i : Int) != (i : Int)) = false := by simp
          clear hw hw5 HPC hby hr5 hx5 hS hK h0 h1
          go_wp2_with fail
          go_loopw [11] (fun t11 wr => ∃ j : Nat, j ≤ i ∧ t11 = .int .i64 j ∧ Hid (Below w5.heap.size w5 wr)) (fun t11 _ => i - (intOf t11).toNat)
          case atStart => exact ⟨0, by omega, rfl, Below.refl _ _⟩
          case round =>
            obtain ⟨j, hj, rfl, hwo⟩ := hrel
            by_cases hlt : j < i
            · have hc := clsN_at i j hlt
              obtain ⟨ad, cl, x0, x1, x2, x3, x4, x5, x6, x7, x8, rfl, hadb, hci, hnx, a0, a1, a2, a3, a4, a5, a6⟩ := Reads.cl (l := clsN i) (by rw [clsN_len]; exact HR.out) HX.out (show j < (clsN i).length by rw [clsN_len]; exact hlt)
              rw [hc] at hci
              injection hci with hci
              subst hci
              have hx0 : x0 = 7 := by have h := (NdIs.head hnx).1; simpa using h
              subst hx0
              have HE := Lib.hid (digM j (by omega))
              have hE := digS_le j (by omega)
              have a0 : w5.cell? (ad.add (j * 7)) = some (.string ((⟨#[109]⟩ : ByteArray) ++ digS (j : Int))) := a0
              have a6 : w5.cell? ⟨(ad.add (j * 7)).block, (ad.add (j * 7)).off + 6, none⟩ = some (.string ((⟨#[99]⟩ : ByteArray) ++ digS (j : Int))) := a6
              clear hc hnx
              generalize digS (j : Int) = E at *
              have HLC := Lib.hid (lc_below (W := w5) ⟨a0, a6, a1, Below.refl _ _⟩ hwo.out)
              have z1 : (⟨#[109]⟩ : ByteArray).size = 1 := rfl
              have z2 : (⟨#[99]⟩ : ByteArray).size = 1 := rfl
              have q1 : ¬ 9223372036854775807 < 1 + E.size := by omega
              have j0 : (0 : Int) ≤ (j : Int) := by omega
              have j1 : (j : Int) < (i : Int) := by omega
              clear a0 a1 a2 a3 a4 a5 a6
              go_wp2_with fail
              go_region_held3 (fun w' => w'.cell? (ad.add (j * 7)) = some (.string ((⟨#[109]⟩ : ByteArray) ++ E)) ∧ w'.cell? ⟨(ad.add (j * 7)).block, (ad.add (j * 7)).off + 6, none⟩ = some (.string ((⟨#[99]⟩ : ByteArray) ++ E)) ∧ w'.cell? ⟨(ad.add (j * 7)).block, (ad.add (j * 7)).off + 1, none⟩ = some (.int .i64 7) ∧ Below w5.heap.size w5 w') (first | assumption | exact lc_drew HLC.out | exact lc_below (by assumption) (by assumption)) (first
                | (go_at_call 17; refine (HE.out _ : Calls _ _ _ _ _).mono ?_; rintro e w6 ⟨rfl, hw6⟩))
              all_goals
                go_wp2_with fail
                exact ⟨⟨j + 1, by omega, by simp, (show LC w5 (ad.add (j * 7)) ⟨(ad.add (j * 7)).block, (ad.add (j * 7)).off + 6, none⟩ ⟨(ad.add (j * 7)).block, (ad.add (j * 7)).off + 1, none⟩ (.string ((⟨#[109]⟩ : ByteArray) ++ E)) (.string ((⟨#[99]⟩ : ByteArray) ++ E)) (.int .i64 7) _ by assumption).2.2.2⟩, by simp [intOf]; omega⟩
            · obtain rfl : j = i := by omega
              have hW := nextB HW.out hwo.out
              clear HW hwo HR HX
              go_wp2_with (go_at_call 13; refine (awake26_any _).mono ?_; rintro e w1 ⟨rfl, hw1⟩; (first | replace hW := nextB hW hw1 | replace hW := nextA hW hw1 | replace hW := nextB hW.drew hw1 | replace hW := nextAA hW hw1 | replace hW := nextAD hW hw1); clear hw1)
              go_ret
              exact ⟨rfl, hW⟩
end Go.Proofs.Ytnhoecmcbikcnaa
