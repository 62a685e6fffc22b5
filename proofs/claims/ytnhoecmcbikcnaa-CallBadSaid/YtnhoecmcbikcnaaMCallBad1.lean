/- Texts of one seat, one behind the other: Ck0, Ck0b, Ck0c, Ck1, Ck2, Ck3, Ck4, Ck5, Ck6. No condition. -/
import Derived.Test.YtnhoecmcbikcnaaQ9
import Derived.Deep.RegionWith
import Derived.Deep.DeepCutAuto
/-! What call.Read asks of nodes: whether one is odd, of three kinds, known; slices.EqualFunc, IndexFunc, ContainsFunc. -/
namespace Go.Proofs.Ytnhoecmcbikcnaa
open Go.RowKit Go.PlainAid
set_option linter.unusedVariables false
set_option linter.unusedSimpArgs false
def Nd.kind : Nd → Int
  | .mk k _ _ _ _ => k
def Nd.kids : Nd → List Nd
  | .mk _ _ _ _ ns => ns
def Nd.num : Nd → Int
  | .mk _ n _ _ _ => n
def Nd.text : Nd → ByteArray
  | .mk _ _ t _ _ => t
def Nd.keys : Nd → List ByteArray
  | .mk _ _ _ ks _ => ks
theorem NdIs.open_ {w : World} {B : Nat} {n : Nd} {cs : List Value} (h : NdIs w B n cs) : ∃ (A : Option Addr) (ck : Nat) (A2 : Option Addr) (c : Nat) (xs : List Value), cs = [.int .i64 n.kind, .int .i64 n.num, .string n.text, .slice A n.keys.length ck, .slice A2 n.kids.length c] ∧
      Reads w B 1 A n.keys.length (n.keys.map Value.string) ∧ Reads w B 5 A2 n.kids.length xs ∧ NdsIs w B n.kids xs ∧
      I64 n.kind ∧ I64 n.num ∧ n.text.size ≤ maxLen ∧ (∀ s ∈ n.keys, s.size ≤ maxLen) ∧ n.keys.length ≤ maxLen ∧ n.kids.length ≤ maxLen := by
  cases n
  unfold NdIs at h
  exact h
def knownS (s : ByteArray) : Bool := s.toList == [117, 114, 110, 58, 105, 101, 116, 102, 58, 112, 97, 114, 97, 109, 115, 58, 106, 109, 97, 112, 58, 99, 111, 114, 101] || s.toList == [117, 114, 110, 58, 105, 101, 116, 102, 58, 112, 97, 114, 97, 109, 115, 58, 106, 109, 97, 112, 58, 109, 97, 105, 108]
/-- a closure of one node, as a contract -/
def FnN (f : Nat) (vs : Array Value) (b : Bool) (w : World) : Prop := Calls Try.prog f #[.agg vs] w (BoolBel b w)
def FnNI (f : Nat) (vs : Array Value) (k : Int) (b : Bool) (w : World) : Prop := Calls Try.prog f #[.agg vs, .int .i64 k] w (BoolBel b w)
set_option maxRecDepth 100000 in
theorem kRead1_any (n : Nd) (cs : List Value) (w : World) (B : Nat) (hn : NdIs w B n cs) : FnN 31 cs.toArray (n.kind != 5) w := by
  obtain ⟨A, ck, A2, cc, xs, rfl, _⟩ := hn.open_
  have hW := Below.refl w.heap.size w
  generalize n.kind = k at *
  show Calls Try.prog 31 #[.agg #[_, _, _, _, _]] w (BoolBel _ w)
  go_enter Try.func31, Try.ntmps31
  go_wp2_with fail
  go_ret
  exact ⟨rfl, hW.alloc (Nat.le_refl _) _⟩
set_option maxRecDepth 100000 in
theorem kkinds1_any (n : Nd) (cs : List Value) (w : World) (B : Nat) (hn : NdIs w B n cs) (j : Int) : FnNI 54 cs.toArray j (n.kind == j) w := by
  obtain ⟨A, ck, A2, cc, xs, rfl, _⟩ := hn.open_
  have hW := Below.refl w.heap.size w
  generalize n.kind = k at *
  show Calls Try.prog 54 #[.agg #[_, _, _, _, _], _] w (BoolBel _ w)
  go_enter Try.func54, Try.ntmps54
  go_wp2_with fail
  go_ret
  exact ⟨rfl, hW.alloc (Nat.le_refl _) _⟩
set_option maxRecDepth 100000 in
theorem kknown_any (s : ByteArray) (w : World) : Calls Try.prog 36 #[.string s] w fun e w' => e = .returned (.bool (knownS s)) ∧ w = w' := by
  unfold knownS
  cases h1 : (s.toList == [117, 114, 110, 58, 105, 101, 116, 102, 58, 112, 97, 114, 97, 109, 115, 58, 106, 109, 97, 112, 58, 99, 111, 114, 101]) with
  | true =>
    go_enter Try.func36, Try.ntmps36
    go_wp2_with fail
    go_ret
    exact ⟨rfl, rfl⟩
  | false =>
    go_enter Try.func36, Try.ntmps36
    go_wp2_with fail
    go_ret
    exact ⟨rfl, rfl⟩
set_option maxRecDepth 100000 in
theorem kRead3_any (n : Nd) (cs : List Value) (w : World) (B : Nat) (hn : NdIs w B n cs) : FnN 35 cs.toArray (!knownS n.text) w := by
  obtain ⟨A, ck, A2, cc, xs, rfl, _⟩ := hn.open_
  have hW := Below.refl w.heap.size w
  generalize n.text = t at *
  show Calls Try.prog 35 #[.agg #[_, _, _, _, _]] w (BoolBel _ w)
  go_enter Try.func35, Try.ntmps35
  go_wp2_with fail
  refine (kknown_any t _).mono ?_; rintro e w1 ⟨rfl, hw⟩; obtain rfl : _ = w1 := hw
  go_wp2_with fail
  go_ret
  exact ⟨rfl, hW.alloc (Nat.le_refl _) _⟩
/-- do nodes have these kinds, one by one -/
def eqK : List Nd → List Int → Bool
  | [], [] => true
  | n :: ns, k :: ks => (n.kind == k) && eqK ns ks
  | _, _ => false
theorem eqK_len : ∀ (ns : List Nd) (ks : List Int), ns.length ≠ ks.length → eqK ns ks = false
  | [], [], h => absurd rfl h
  | [], k :: ks, h => rfl
  | n :: ns, [], h => rfl
  | n :: ns, k :: ks, h => by unfold eqK; rw [eqK_len ns ks (by simpa using h), Bool.and_false]
theorem eqK_at (ns : List Nd) (ks : List Int) (i : Nat) (n : Nd) (k : Int) (h : ns[i]? = some n) (h2 : ks[i]? = some k) : eqK (ns.drop i) (ks.drop i) = ((n.kind == k) && eqK (ns.drop (i + 1)) (ks.drop (i + 1))) := by
  rw [List.drop_eq_getElem_cons (List.getElem?_eq_some_iff.1 h).1, (List.getElem?_eq_some_iff.1 h).2, List.drop_eq_getElem_cons (List.getElem?_eq_some_iff.1 h2).1, (List.getElem?_eq_some_iff.1 h2).2]
  rfl
theorem Reads.intAt {w : World} {B : Nat} {A : Option Addr} {ks : List Int} (h : Reads w B 1 A ks.length (ks.map (Value.int .i64))) {i : Nat} (hi : i < ks.length) : ∃ ad k, A = some ad ∧ ad.block < B ∧ ks[i]? = some k ∧ w.cell? (ad.add i) = some (.int .i64 k) := by
  obtain ⟨ad, u, e, hb, hu, hc⟩ := h.at_ hi
  rw [List.getElem?_map, List.getElem?_eq_getElem hi] at hu
  injection hu with hu
  exact ⟨ad, ks[i], e, hb, List.getElem?_eq_getElem hi, by rw [hu]; exact hc⟩
set_option maxRecDepth 100000 in
set_option maxHeartbeats 1000000 in
theorem sEqI_any (ns : List Nd) (ks : List Int) (A A' : Option Addr) (ck ck' : Nat) (xs : List Value) (w : World) (B : Nat) (hks : Reads w B 5 A ns.length xs) (hks' : Reads w B 1 A' ks.length (ks.map (Value.int .i64))) (hns : NdsIs w B ns xs) (hB : B ≤ w.heap.size) (hk : ns.length ≤ 9223372036854775807) (hk' : ks.length ≤ 9223372036854775807) :
    Calls Try.prog 53 #[.slice A ns.length ck, .slice A' ks.length ck', .func (.func 54) #[] #[]] w (BoolBel (eqK ns ks) w) := by
  obtain ⟨V, hV⟩ : ∃ V, V = eqK ns ks := ⟨_, rfl⟩
  rw [← hV]
  have hW := Below.refl w.heap.size w
  by_cases e4 : ns.length = ks.length
  case neg =>
    have HE : Hid (V = false) := by show _ = _; rw [hV, eqK_len _ _ e4]
    have n4 : ((ns.length : Int) != (ks.length : Int)) = true := by rw [bne_iff_ne]; omega
    clear hV e4 hks hks' hns
    go_enter Try.func53, Try.ntmps53
    go_wp2_with fail
    go_ret
    exact ⟨by rw [HE.out]; rfl, hW⟩
  have n4 : ((ns.length : Int) != (ks.length : Int)) = false := by rw [bne_eq_false_iff_eq]; omega
  have l4 := Lib.hid e4
  have HV2 : Hid (V = eqK (ns.drop 0) (ks.drop 0)) := hV
  clear hV e4
  have HXS := Lib.hid hks
  have HXS' := Lib.hid hks'
  have HNS := Lib.hid hns
  clear hks hks' hns
  go_enter Try.func53, Try.ntmps53
  go_wp2_with fail
  go_loopw [17] (fun t5 wr => ∃ (i : Nat), i ≤ ns.length ∧ t5 = .int .i64 i ∧ Hid (V = eqK (ns.drop i) (ks.drop i)) ∧ Below w.heap.size w wr) (fun t5 _ => ns.length - (intOf t5).toNat)
  case atStart => exact ⟨0, by omega, rfl, HV2, hW⟩
  case round =>
    clear hW
    obtain ⟨i, hi, rfl, hv, hW⟩ := hrel
    obtain ⟨wo, rfl⟩ : ∃ wo : World, wo = wr := ⟨_, rfl⟩
    have hsz := hW.size
    by_cases hlt : i < ns.length
    · have hlt' : i < ks.length := by rw [← l4.out]; exact hlt
      have hkeep : ∀ p : Addr, p.block < B → wo.cell? p = w.cell? p := fun p hp => hW.cell (by omega)
      obtain ⟨ad, n, v0, v1, v2, v3, v4, rfl, hadb, hni, hnd, e0, e1, e2, e3, e4⟩ := (HXS.out.keep hkeep).nd (NdsIs.keep hkeep _ _ HNS.out) hlt
      obtain ⟨ad', k, rfl, hadb', hki, f0⟩ := (HXS'.out.keep hkeep).intAt hlt'
      obtain ⟨x0, x1, x2, x3, x4, x5, x6, x7, x8, rfl, rfl, rfl, rfl, rfl⟩ := hnd.form
      have HST := Lib.hid (eqK_at ns ks i n k hni hki)
      have HW2 : Hid (∀ w', Below wo.heap.size wo w' → FnNI 54 #[.int .i64 x0, .int .i64 x1, .string x2, .slice x3 x4 x5, .slice x6 x7 x8] k (n.kind == k) w') := fun w' hb =>
        kkinds1_any n [.int .i64 x0, .int .i64 x1, .string x2, .slice x3 x4 x5, .slice x6 x7 x8] w' B (hnd.below (hb.mono (by omega))) k
      have hW0 := Below.refl wo.heap.size wo
      have q1 : (ad.add (i * 5)).block < wo.heap.size := by rw [block_of_add]; omega
      have q2 : (ad'.add i).block < wo.heap.size := by rw [block_of_add]; omega
      have q3 : ¬ (ad'.add i).block = wo.heap.size := by omega
      clear hni hnd hkeep hki
      generalize (n.kind == k) = b at *
      go_wp2_with fail
      refine (HW2.out _ (hW0.alloc (Nat.le_refl _) _)).mono ?_; rintro e w1 ⟨rfl, hw1⟩
      replace hw1 := nextA hW0 hw1
      clear e0 e1 e2 e3 e4 f0
      cases b with
      | false =>
        have HE : Hid (V = false) := by show _ = _; rw [hv.out, HST.out]; rfl
        go_wp2_with fail
        go_ret
        exact ⟨by rw [HE.out]; rfl, hW.trans (hw1.mono (by omega))⟩
      | true =>
        have HE : Hid (V = eqK (ns.drop (i + 1)) (ks.drop (i + 1))) := by show _ = _; rw [hv.out, HST.out, Bool.true_and]
        go_wp2_with fail
        go_roundw
        case rel => exact ⟨i + 1, by omega, by go_num, HE, hW.trans (hw1.mono (by omega))⟩
        case measure => simp [intOf]; omega
    · have HE : Hid (V = true) := by
        have h4 := l4.out
        show _ = _
        rw [hv.out, List.drop_eq_nil_of_le (by omega), List.drop_eq_nil_of_le (by omega)]
        rfl
      go_wp2_with fail
      go_ret
      exact ⟨by rw [HE.out]; rfl, hW⟩
def kindsK (n : Nd) (l : List Int) : Bool := n.kind == 6 && eqK n.kids l
set_option maxRecDepth 100000 in
set_option maxHeartbeats 1000000 in
theorem kkinds_any (n : Nd) (cs : List Value) (ks : List Int) (A' : Option Addr) (ck' : Nat) (w : World) (B : Nat) (hn : NdIs w B n cs) (hks' : Reads w B 1 A' ks.length (ks.map (Value.int .i64))) (hB : B ≤ w.heap.size) (hk' : ks.length ≤ 9223372036854775807) :
    Calls Try.prog 33 #[.agg cs.toArray, .slice A' ks.length ck'] w (BoolBel (kindsK n ks) w) := by
  obtain ⟨A, ck, A2, cc, xs, rfl, _, h2, h3, _, _, _, _, _, h4⟩ := hn.open_
  have hW := Below.refl w.heap.size w
  have HE : Hid (∀ w', Below w.heap.size w w' → Calls Try.prog 53 #[.slice A2 n.kids.length cc, .slice A' ks.length ck', .func (.func 54) #[] #[]] w' (BoolBel (eqK n.kids ks) w')) := fun w' hb =>
    sEqI_any n.kids ks A2 A' cc ck' xs w' B (h2.keep fun p hp => hb.cell (by omega)) (hks'.keep fun p hp => hb.cell (by omega)) (NdsIs.keep (fun p hp => hb.cell (by omega)) _ _ h3) (by have := hb.size; omega) h4 hk'
  show Calls Try.prog 33 #[.agg #[_, _, _, _, _], _] w (BoolBel _ w)
  obtain ⟨V, hV⟩ : ∃ V, V = kindsK n ks := ⟨_, rfl⟩
  rw [← hV]
  have HV := Lib.hid hV
  clear h2 h3 hks' hV
  generalize hq : eqK n.kids ks = q at *
  have HQ := Lib.hid hq
  clear hq
  by_cases h6 : n.kind = 6
  · have e6 : (n.kind == 6) = true := by rw [beq_iff_eq]; exact h6
    have E : Hid (V = q) := by show _ = _; rw [HV.out]; unfold kindsK; rw [e6, HQ.out]; rfl
    clear h6
    go_enter Try.func33, Try.ntmps33
    go_wp2_with fail
    refine (HE.out _ (hW.alloc (Nat.le_refl _) _)).mono ?_; rintro e w1 ⟨rfl, hw1⟩
    replace hw1 := nextA hW hw1
    go_wp2_with fail
    go_ret
    exact ⟨by rw [E.out]; rfl, hw1⟩
  · have e6 : (n.kind == 6) = false := by rw [beq_eq_false_iff_ne]; exact h6
    have E : Hid (V = false) := by show _ = _; rw [HV.out]; unfold kindsK; rw [e6]; rfl
    clear h6
    go_enter Try.func33, Try.ntmps33
    go_wp2_with fail
    go_ret
    exact ⟨by rw [E.out]; rfl, hW.alloc (Nat.le_refl _) _⟩
end Go.Proofs.Ytnhoecmcbikcnaa
/-! A call's array has its three kinds. -/
namespace Go.Proofs.Ytnhoecmcbikcnaa
open Go.RowKit Go.PlainAid
set_option linter.unusedVariables false
set_option linter.unusedSimpArgs false
theorem ints_reads (w : World) (g : Nat) (ks : List Int) (h : Blk w g 3 (ks.map (Value.int .i64)).toArray) : Reads w (g + 1) 1 (some ⟨g, 0, none⟩) ks.length (ks.map (Value.int .i64)) := by
  refine ⟨by simp, fun _ => ⟨_, rfl, by simp, fun j u hj => ?_⟩⟩
  have e : (⟨g, 0, none⟩ : Addr).add j = ⟨g, j, none⟩ := by unfold Addr.add; split <;> simp_all
  rw [e, h.cell]
  simpa using hj
set_option maxRecDepth 100000 in
set_option maxHeartbeats 400000 in
theorem kRead2_any (n : Nd) (cs : List Value) (w : World) (B : Nat) (hn : NdIs w B n cs) (hB : B ≤ w.heap.size) : FnN 32 cs.toArray (!kindsK n [5, 7, 5]) w := by
  have hn2 := hn
  obtain ⟨A, ck, A2, cc, xs, rfl, _⟩ := hn.open_
  have hW := Below.refl w.heap.size w
  have hb1 := hW.alloc (Nat.le_refl _) (.cells #[.int .i64 n.kind, .int .i64 n.num, .string n.text, .slice A n.keys.length ck, .slice A2 n.kids.length cc] 27)
  have hb2 := hb1.alloc hb1.size (.cells #[.int .i64 5, .int .i64 7, .int .i64 5] 3)
  have HK : Hid (Calls Try.prog 33 #[.agg #[.int .i64 n.kind, .int .i64 n.num, .string n.text, .slice A n.keys.length ck, .slice A2 n.kids.length cc], .slice (some ⟨w.heap.size + 1, 0, none⟩) 3 3] ((w.alloc (.cells #[.int .i64 n.kind, .int .i64 n.num, .string n.text, .slice A n.keys.length ck, .slice A2 n.kids.length cc] 27)).alloc (.cells #[.int .i64 5, .int .i64 7, .int .i64 5] 3)) (BoolBel (kindsK n [5, 7, 5]) ((w.alloc (.cells #[.int .i64 n.kind, .int .i64 n.num, .string n.text, .slice A n.keys.length ck, .slice A2 n.kids.length cc] 27)).alloc (.cells #[.int .i64 5, .int .i64 7, .int .i64 5] 3)))) := by
    have hbk : Blk ((w.alloc (.cells #[.int .i64 n.kind, .int .i64 n.num, .string n.text, .slice A n.keys.length ck, .slice A2 n.kids.length cc] 27)).alloc (.cells #[.int .i64 5, .int .i64 7, .int .i64 5] 3)) (w.heap.size + 1) 3 (([5, 7, 5] : List Int).map (Value.int .i64)).toArray := by
      have := Blk.new (w.alloc (.cells #[.int .i64 n.kind, .int .i64 n.num, .string n.text, .slice A n.keys.length ck, .slice A2 n.kids.length cc] 27)) 3 #[.int .i64 5, .int .i64 7, .int .i64 5]
      rw [show (w.alloc (.cells #[.int .i64 n.kind, .int .i64 n.num, .string n.text, .slice A n.keys.length ck, .slice A2 n.kids.length cc] 27)).heap.size = w.heap.size + 1 by simp] at this
      exact this
    have HN : NdIs ((w.alloc (.cells #[.int .i64 n.kind, .int .i64 n.num, .string n.text, .slice A n.keys.length ck, .slice A2 n.kids.length cc] 27)).alloc (.cells #[.int .i64 5, .int .i64 7, .int .i64 5] 3)) (w.heap.size + 1 + 1) n [.int .i64 n.kind, .int .i64 n.num, .string n.text, .slice A n.keys.length ck, .slice A2 n.kids.length cc] := NdIs.more (by omega) _ _ (hn2.below (hb2.mono hB))
    exact kkinds_any n _ [5, 7, 5] (some ⟨w.heap.size + 1, 0, none⟩) 3 _ (w.heap.size + 1 + 1) HN (ints_reads _ _ [5, 7, 5] hbk) (by simp) (by simp)
  have HB2 := Lib.hid hb2
  show Calls Try.prog 32 #[.agg #[_, _, _, _, _]] w (BoolBel _ w)
  clear hn hn2 hb1 hb2
  generalize kindsK n [5, 7, 5] = b at *
  go_enter Try.func32, Try.ntmps32
  go_wp2_with fail
  refine HK.out.mono ?_; rintro e w1 ⟨rfl, hw1⟩
  have HW1 := Lib.hid (nextB HB2.out hw1)
  clear hw1
  go_wp2_with fail
  go_ret
  exact ⟨rfl, HW1.out⟩
end Go.Proofs.Ytnhoecmcbikcnaa
/-! slices.IndexFunc, ContainsFunc of call.Read's closures. -/
namespace Go.Proofs.Ytnhoecmcbikcnaa
open Go.RowKit Go.PlainAid
set_option linter.unusedVariables false
set_option linter.unusedSimpArgs false
theorem any_at (ns : List Nd) (p : Nd → Bool) (i : Nat) (n : Nd) (h : ns[i]? = some n) : (ns.drop i).any p = (p n || (ns.drop (i + 1)).any p) := by
  rw [List.drop_eq_getElem_cons (List.getElem?_eq_some_iff.1 h).1, (List.getElem?_eq_some_iff.1 h).2, List.any_cons]
set_option maxRecDepth 100000 in
set_option maxHeartbeats 1000000 in
theorem sIndexFunc_kRead1 (p : Nd → Bool) (ns : List Nd) (A : Option Addr) (cc : Nat) (xs : List Value) (w : World) (B : Nat) (hxs : Reads w B 5 A ns.length xs) (hns : NdsIs w B ns xs) (hB : B ≤ w.heap.size) (hk : ns.length ≤ 9223372036854775807)
    (HIH : Hid (∀ (n : Nd) (cs : List Value) (w' : World), NdIs w' B n cs → B ≤ w'.heap.size → FnN 31 cs.toArray (p n) w')) :
    Calls Try.prog 55 #[.slice A ns.length cc, .func (.func 31) #[] #[]] w (IdxPost (!ns.any p) w) := by
  have hW := Below.refl w.heap.size w
  obtain ⟨V, hV⟩ : ∃ V, V = ns.any p := ⟨_, rfl⟩
  rw [← hV]
  have HV : Hid (V = (ns.drop 0).any p) := hV
  have HXS := Lib.hid hxs
  have HNS := Lib.hid hns
  clear hxs hns hV
  go_enter Try.func55, Try.ntmps55
  go_wp2_with fail
  go_loopw [8] (fun t wr => ∃ (i : Nat), i ≤ ns.length ∧ t = .int .i64 i ∧ Hid (V = (ns.drop i).any p) ∧ Below w.heap.size w wr) (fun t _ => ns.length - (intOf t).toNat)
  case atStart => exact ⟨0, by omega, rfl, HV, hW⟩
  case round =>
    clear hW
    obtain ⟨i, hi, rfl, hv, hW⟩ := hrel
    obtain ⟨wo, rfl⟩ : ∃ wo : World, wo = wr := ⟨_, rfl⟩
    have hsz := hW.size
    by_cases hlt : i < ns.length
    · have hkeep : ∀ p : Addr, p.block < B → wo.cell? p = w.cell? p := fun p hp => hW.cell (by omega)
      obtain ⟨ad, n, v0, v1, v2, v3, v4, rfl, hadb, hni, hnd, e0, e1, e2, e3, e4⟩ := (HXS.out.keep hkeep).nd (NdsIs.keep hkeep _ _ HNS.out) hlt
      have HSTEP := Lib.hid (any_at ns p i n hni)
      have HO : Hid (∀ w', Below wo.heap.size wo w' → FnN 31 #[v0, v1, v2, v3, v4] (p n) w') := fun w' hb =>
        HIH.out n [v0, v1, v2, v3, v4] w' (hnd.below (hb.mono (by omega))) (by have := hb.size; omega)
      clear hni hnd hkeep
      generalize p n = b at *
      go_wp2_with fail
      refine (HO.out _ (Below.refl _ _)).mono ?_; rintro e w1 ⟨rfl, hw1⟩
      cases b with
      | true =>
        have HE : Hid (V = true) := by show _ = _; rw [hv.out, HSTEP.out]; rfl
        go_wp2_with fail
        go_ret
        exact ⟨_, rfl, by rw [HE.out]; simp, hW.trans (hw1.mono hsz)⟩
      | false =>
        have HE : Hid (V = (ns.drop (i + 1)).any p) := by show _ = _; rw [hv.out, HSTEP.out]; rfl
        go_wp2_with fail
        go_roundw
        case rel => exact ⟨i + 1, by omega, by go_num, HE, hW.trans (hw1.mono hsz)⟩
        case measure => simp [intOf]; omega
    · have HE : Hid (V = false) := by
        show _ = _
        rw [hv.out, List.drop_eq_nil_of_le (by omega)]; rfl
      go_wp2_with fail
      go_ret
      exact ⟨_, rfl, by rw [HE.out]; rfl, hW⟩
set_option maxRecDepth 100000 in
set_option maxHeartbeats 1000000 in
theorem sContainsFunc_kRead1 (p : Nd → Bool) (ns : List Nd) (A : Option Addr) (cc : Nat) (xs : List Value) (w : World) (B : Nat) (hxs : Reads w B 5 A ns.length xs) (hns : NdsIs w B ns xs) (hB : B ≤ w.heap.size) (hk : ns.length ≤ 9223372036854775807)
    (HIH : Hid (∀ (n : Nd) (cs : List Value) (w' : World), NdIs w' B n cs → B ≤ w'.heap.size → FnN 31 cs.toArray (p n) w')) :
    Calls Try.prog 34 #[.slice A ns.length cc, .func (.func 31) #[] #[]] w (BoolBel (ns.any p) w) := by
  have HC := Lib.hid (sIndexFunc_kRead1 p ns A cc xs w B hxs hns hB hk HIH)
  clear hxs hns HIH
  generalize ns.any p = V at *
  go_enter Try.func34, Try.ntmps34
  go_wp2_with fail
  refine HC.out.mono ?_; rintro e w1 ⟨v, rfl, hv, hw1⟩
  go_wp2_with fail
  go_ret
  exact ⟨by first | (rw [← Bool.not_not (b := V), ← hv]; rfl) | (rw [hv]; simp) | (simp [hv]), hw1⟩
set_option maxRecDepth 100000 in
set_option maxHeartbeats 1000000 in
theorem sIndexFunc_kRead2 (p : Nd → Bool) (ns : List Nd) (A : Option Addr) (cc : Nat) (xs : List Value) (w : World) (B : Nat) (hxs : Reads w B 5 A ns.length xs) (hns : NdsIs w B ns xs) (hB : B ≤ w.heap.size) (hk : ns.length ≤ 9223372036854775807)
    (HIH : Hid (∀ (n : Nd) (cs : List Value) (w' : World), NdIs w' B n cs → B ≤ w'.heap.size → FnN 32 cs.toArray (p n) w')) :
    Calls Try.prog 55 #[.slice A ns.length cc, .func (.func 32) #[] #[]] w (IdxPost (!ns.any p) w) := by
  have hW := Below.refl w.heap.size w
  obtain ⟨V, hV⟩ : ∃ V, V = ns.any p := ⟨_, rfl⟩
  rw [← hV]
  have HV : Hid (V = (ns.drop 0).any p) := hV
  have HXS := Lib.hid hxs
  have HNS := Lib.hid hns
  clear hxs hns hV
  go_enter Try.func55, Try.ntmps55
  go_wp2_with fail
  go_loopw [8] (fun t wr => ∃ (i : Nat), i ≤ ns.length ∧ t = .int .i64 i ∧ Hid (V = (ns.drop i).any p) ∧ Below w.heap.size w wr) (fun t _ => ns.length - (intOf t).toNat)
  case atStart => exact ⟨0, by omega, rfl, HV, hW⟩
  case round =>
    clear hW
    obtain ⟨i, hi, rfl, hv, hW⟩ := hrel
    obtain ⟨wo, rfl⟩ : ∃ wo : World, wo = wr := ⟨_, rfl⟩
    have hsz := hW.size
    by_cases hlt : i < ns.length
    · have hkeep : ∀ p : Addr, p.block < B → wo.cell? p = w.cell? p := fun p hp => hW.cell (by omega)
      obtain ⟨ad, n, v0, v1, v2, v3, v4, rfl, hadb, hni, hnd, e0, e1, e2, e3, e4⟩ := (HXS.out.keep hkeep).nd (NdsIs.keep hkeep _ _ HNS.out) hlt
      have HSTEP := Lib.hid (any_at ns p i n hni)
      have HO : Hid (∀ w', Below wo.heap.size wo w' → FnN 32 #[v0, v1, v2, v3, v4] (p n) w') := fun w' hb =>
        HIH.out n [v0, v1, v2, v3, v4] w' (hnd.below (hb.mono (by omega))) (by have := hb.size; omega)
      clear hni hnd hkeep
      generalize p n = b at *
      go_wp2_with fail
      refine (HO.out _ (Below.refl _ _)).mono ?_; rintro e w1 ⟨rfl, hw1⟩
      cases b with
      | true =>
        have HE : Hid (V = true) := by show _ = _; rw [hv.out, HSTEP.out]; rfl
        go_wp2_with fail
        go_ret
        exact ⟨_, rfl, by rw [HE.out]; simp, hW.trans (hw1.mono hsz)⟩
      | false =>
        have HE : Hid (V = (ns.drop (i + 1)).any p) := by show _ = _; rw [hv.out, HSTEP.out]; rfl
        go_wp2_with fail
        go_roundw
        case rel => exact ⟨i + 1, by omega, by go_num, HE, hW.trans (hw1.mono hsz)⟩
        case measure => simp [intOf]; omega
    · have HE : Hid (V = false) := by
        show _ = _
        rw [hv.out, List.drop_eq_nil_of_le (by omega)]; rfl
      go_wp2_with fail
      go_ret
      exact ⟨_, rfl, by rw [HE.out]; rfl, hW⟩
set_option maxRecDepth 100000 in
set_option maxHeartbeats 1000000 in
theorem sContainsFunc_kRead2 (p : Nd → Bool) (ns : List Nd) (A : Option Addr) (cc : Nat) (xs : List Value) (w : World) (B : Nat) (hxs : Reads w B 5 A ns.length xs) (hns : NdsIs w B ns xs) (hB : B ≤ w.heap.size) (hk : ns.length ≤ 9223372036854775807)
    (HIH : Hid (∀ (n : Nd) (cs : List Value) (w' : World), NdIs w' B n cs → B ≤ w'.heap.size → FnN 32 cs.toArray (p n) w')) :
    Calls Try.prog 34 #[.slice A ns.length cc, .func (.func 32) #[] #[]] w (BoolBel (ns.any p) w) := by
  have HC := Lib.hid (sIndexFunc_kRead2 p ns A cc xs w B hxs hns hB hk HIH)
  clear hxs hns HIH
  generalize ns.any p = V at *
  go_enter Try.func34, Try.ntmps34
  go_wp2_with fail
  refine HC.out.mono ?_; rintro e w1 ⟨v, rfl, hv, hw1⟩
  go_wp2_with fail
  go_ret
  exact ⟨by first | (rw [← Bool.not_not (b := V), ← hv]; rfl) | (rw [hv]; simp) | (simp [hv]), hw1⟩
set_option maxRecDepth 100000 in
set_option maxHeartbeats 1000000 in
theorem sIndexFunc_kRead3 (p : Nd → Bool) (ns : List Nd) (A : Option Addr) (cc : Nat) (xs : List Value) (w : World) (B : Nat) (hxs : Reads w B 5 A ns.length xs) (hns : NdsIs w B ns xs) (hB : B ≤ w.heap.size) (hk : ns.length ≤ 9223372036854775807)
    (HIH : Hid (∀ (n : Nd) (cs : List Value) (w' : World), NdIs w' B n cs → B ≤ w'.heap.size → FnN 35 cs.toArray (p n) w')) :
    Calls Try.prog 55 #[.slice A ns.length cc, .func (.func 35) #[] #[]] w (IdxPost (!ns.any p) w) := by
  have hW := Below.refl w.heap.size w
  obtain ⟨V, hV⟩ : ∃ V, V = ns.any p := ⟨_, rfl⟩
  rw [← hV]
  have HV : Hid (V = (ns.drop 0).any p) := hV
  have HXS := Lib.hid hxs
  have HNS := Lib.hid hns
  clear hxs hns hV
  go_enter Try.func55, Try.ntmps55
  go_wp2_with fail
  go_loopw [8] (fun t wr => ∃ (i : Nat), i ≤ ns.length ∧ t = .int .i64 i ∧ Hid (V = (ns.drop i).any p) ∧ Below w.heap.size w wr) (fun t _ => ns.length - (intOf t).toNat)
  case atStart => exact ⟨0, by omega, rfl, HV, hW⟩
  case round =>
    clear hW
    obtain ⟨i, hi, rfl, hv, hW⟩ := hrel
    obtain ⟨wo, rfl⟩ : ∃ wo : World, wo = wr := ⟨_, rfl⟩
    have hsz := hW.size
    by_cases hlt : i < ns.length
    · have hkeep : ∀ p : Addr, p.block < B → wo.cell? p = w.cell? p := fun p hp => hW.cell (by omega)
      obtain ⟨ad, n, v0, v1, v2, v3, v4, rfl, hadb, hni, hnd, e0, e1, e2, e3, e4⟩ := (HXS.out.keep hkeep).nd (NdsIs.keep hkeep _ _ HNS.out) hlt
      have HSTEP := Lib.hid (any_at ns p i n hni)
      have HO : Hid (∀ w', Below wo.heap.size wo w' → FnN 35 #[v0, v1, v2, v3, v4] (p n) w') := fun w' hb =>
        HIH.out n [v0, v1, v2, v3, v4] w' (hnd.below (hb.mono (by omega))) (by have := hb.size; omega)
      clear hni hnd hkeep
      generalize p n = b at *
      go_wp2_with fail
      refine (HO.out _ (Below.refl _ _)).mono ?_; rintro e w1 ⟨rfl, hw1⟩
      cases b with
      | true =>
        have HE : Hid (V = true) := by show _ = _; rw [hv.out, HSTEP.out]; rfl
        go_wp2_with fail
        go_ret
        exact ⟨_, rfl, by rw [HE.out]; simp, hW.trans (hw1.mono hsz)⟩
      | false =>
        have HE : Hid (V = (ns.drop (i + 1)).any p) := by show _ = _; rw [hv.out, HSTEP.out]; rfl
        go_wp2_with fail
        go_roundw
        case rel => exact ⟨i + 1, by omega, by go_num, HE, hW.trans (hw1.mono hsz)⟩
        case measure => simp [intOf]; omega
    · have HE : Hid (V = false) := by
        show _ = _
        rw [hv.out, List.drop_eq_nil_of_le (by omega)]; rfl
      go_wp2_with fail
      go_ret
      exact ⟨_, rfl, by rw [HE.out]; rfl, hW⟩
set_option maxRecDepth 100000 in
set_option maxHeartbeats 1000000 in
theorem sContainsFunc_kRead3 (p : Nd → Bool) (ns : List Nd) (A : Option Addr) (cc : Nat) (xs : List Value) (w : World) (B : Nat) (hxs : Reads w B 5 A ns.length xs) (hns : NdsIs w B ns xs) (hB : B ≤ w.heap.size) (hk : ns.length ≤ 9223372036854775807)
    (HIH : Hid (∀ (n : Nd) (cs : List Value) (w' : World), NdIs w' B n cs → B ≤ w'.heap.size → FnN 35 cs.toArray (p n) w')) :
    Calls Try.prog 34 #[.slice A ns.length cc, .func (.func 35) #[] #[]] w (BoolBel (ns.any p) w) := by
  have HC := Lib.hid (sIndexFunc_kRead3 p ns A cc xs w B hxs hns hB hk HIH)
  clear hxs hns HIH
  generalize ns.any p = V at *
  go_enter Try.func34, Try.ntmps34
  go_wp2_with fail
  refine HC.out.mono ?_; rintro e w1 ⟨v, rfl, hv, hw1⟩
  go_wp2_with fail
  go_ret
  exact ⟨by first | (rw [← Bool.not_not (b := V), ← hv]; rfl) | (rw [hv]; simp) | (simp [hv]), hw1⟩
end Go.Proofs.Ytnhoecmcbikcnaa
/-! Plain words for call.Read: its answer as a function of the text, calls as they lie in memory. -/
namespace Go.Proofs.Ytnhoecmcbikcnaa
open Go.RowKit Go.PlainAid
set_option linter.unusedVariables false
set_option linter.unusedSimpArgs false
theorem gL_len : ∀ (ns : List Nd) (ks : List ByteArray), ns.length * 50 ≤ gL ks ns
  | [], ks => by simp [gL]
  | n :: ns, ks => by
    have := gL_len ns ks.tail
    have h4 : 40 ≤ gN n := by cases n; unfold gN; omega
    unfold gL
    rw [List.length_cons]
    omega
mutual
theorem size_good : ∀ (n : Nd) (deep : Int), goodN n → rightD n deep = true → gN n ≤ 10000000 → sizeOk n
  | .mk k num t ks ns, deep, hg, hr, hs => by
    unfold goodN at hg
    obtain ⟨h1, hk7, h2, h3, h4⟩ := hg
    rw [rightD_eq, Bool.and_eq_true] at hr
    obtain ⟨hb, hr⟩ := hr
    unfold gN at hs
    have hl := gL_len ns ks
    unfold bareF at hb
    simp only [Bool.and_eq_true, Bool.or_eq_true, beq_iff_eq] at hb
    have hks : ks.length ≤ 1000000 := by
      rcases hb.1.2 with h | h
      · have := hk7 h; omega
      · omega
    unfold sizeOk
    refine ⟨h1, h2, h3, ⟨hks, by omega⟩, ?_⟩
    by_cases h67 : k = 6 ∨ k = 7
    · refine sizeL_good ns ks (deep + 1) h4 ?_ (by omega)
      simp only [Bool.or_eq_true, Bool.and_eq_true, beq_iff_eq, decide_eq_true_eq] at hr
      rcases h67 with rfl | rfl
      · simp at hr; exact hr.2
      · simp at hr; exact hr.2
    · have : ns = [] := by
        rcases hb.2 with h | h
        · exact absurd h h67
        · exact List.eq_nil_of_length_eq_zero h
      subst this
      unfold sizeOkL; trivial
theorem sizeL_good : ∀ (ns : List Nd) (ks : List ByteArray) (deep : Int), goodL ns → rightLD ns deep = true → gL ks ns ≤ 10000000 → sizeOkL ns
  | [], ks, deep, h, hr, hs => by unfold sizeOkL; trivial
  | n :: ns, ks, deep, h, hr, hs => by
    unfold goodL at h
    unfold gL at hs
    unfold sizeOkL
    have h0 := rightLD_at (n :: ns) 0 n deep rfl
    rw [List.drop_zero, hr] at h0
    have h0 := (Bool.and_eq_true _ _).mp h0.symm
    exact ⟨size_good n deep h.1 h0.1 (by omega), sizeL_good ns ks.tail deep h.2 (by simpa using h0.2) (by omega)⟩
end
theorem parse_size {l : List UInt8} {n : Nd} (h : parseL l = .ok n) : sizeOk n := by
  obtain ⟨h1, h2, h3, _⟩ := parse_back h
  obtain ⟨g1, g2⟩ := gN_put n 0 h1
  exact size_good n 0 (g2 (by omega)) h1 (by omega)
/-- a call -/
structure Cl where
  name : ByteArray
  args : Nd
  id : ByteArray
def usingS : ByteArray := ⟨#[117, 115, 105, 110, 103]⟩
def callsS : ByteArray := ⟨#[109, 101, 116, 104, 111, 100, 67, 97, 108, 108, 115]⟩
def notJ : ByteArray := ⟨#[110, 111, 116, 74, 83, 79, 78]⟩
def notR : ByteArray := ⟨#[110, 111, 116, 82, 101, 113, 117, 101, 115, 116]⟩
def unkC : ByteArray := ⟨#[117, 110, 107, 110, 111, 119, 110, 67, 97, 112, 97, 98, 105, 108, 105, 116, 121]⟩
def limS : ByteArray := ⟨#[108, 105, 109, 105, 116]⟩
def oddN (n : Nd) : Bool := n.kind != 5
def noneN (n : Nd) : Bool := !kindsK n [5, 7, 5]
def unkN (n : Nd) : Bool := !knownS n.text
def clOf (n : Nd) : Cl := match n.kids with
  | [a, b, c] => ⟨a.text, b, c.text⟩
  | _ => ⟨⟨#[]⟩, nd0 0, ⟨#[]⟩⟩
/-- the calls of a value, or what is wrong with it -/
def readN (u c : Option Nd) : Except ByteArray (List Cl) :=
  if u.isSome = false then .error notR else if c.isSome = false then .error notR
  else if ((u.getD (nd0 0)).kind != 6) = true then .error notR else if ((c.getD (nd0 0)).kind != 6) = true then .error notR
  else if (u.getD (nd0 0)).kids.any oddN = true then .error notR else if (c.getD (nd0 0)).kids.any noneN = true then .error notR
  else if (u.getD (nd0 0)).kids.any unkN = true then .error unkC else if 16 < (c.getD (nd0 0)).kids.length then .error limS
  else .ok ((c.getD (nd0 0)).kids.map clOf)
def readK (n : Nd) : Except ByteArray (List Cl) := readN (findN n usingS) (findN n callsS)
def readL (l : List UInt8) : Except ByteArray (List Cl) := match parseL l with
  | .error _ => .error notJ
  | .ok n => readK n
def okL (r : Except ByteArray (List Cl)) : List Cl := match r with
  | .error _ => []
  | .ok l => l
def errS (r : Except ByteArray (List Cl)) : ByteArray := match r with
  | .error e => e
  | .ok _ => ⟨#[]⟩
/-- calls in memory -/
def ClsIs (w : World) (B : Nat) : List Cl → List Value → Prop
  | [], xs => xs = []
  | c :: l, xs => ∃ v ys, xs = .string c.name :: (v ++ .string c.id :: ys) ∧ NdIs w B c.args v ∧ ClsIs w B l ys
theorem ClsIs.keep {w w' : World} {B : Nat} (hk : ∀ p : Addr, p.block < B → w'.cell? p = w.cell? p) : ∀ (l : List Cl) (xs : List Value), ClsIs w B l xs → ClsIs w' B l xs
  | [], xs, h => h
  | c :: l, xs, h => by
    unfold ClsIs at h ⊢
    obtain ⟨v, ys, rfl, h2, h3⟩ := h
    exact ⟨v, ys, rfl, NdIs.keep hk _ _ h2, ClsIs.keep hk l ys h3⟩
theorem ClsIs.below {w w' : World} {B : Nat} {l : List Cl} {xs : List Value} (h : ClsIs w B l xs) (hb : Below B w w') : ClsIs w' B l xs := ClsIs.keep (fun p hp => hb.cell hp) l xs h
theorem ClsIs.more {w : World} {B B' : Nat} (hB : B ≤ B') : ∀ (l : List Cl) (xs : List Value), ClsIs w B l xs → ClsIs w B' l xs
  | [], xs, h => h
  | c :: l, xs, h => by
    unfold ClsIs at h ⊢
    obtain ⟨v, ys, rfl, h2, h3⟩ := h
    exact ⟨v, ys, rfl, NdIs.more hB _ _ h2, ClsIs.more hB l ys h3⟩
theorem ClsIs.nil {w : World} {B : Nat} : ClsIs w B [] [] := rfl
theorem ClsIs.snoc {w : World} {B : Nat} {a b : ByteArray} {n : Nd} {v : List Value} (hn : NdIs w B n v) : ∀ (l : List Cl) (xs : List Value), ClsIs w B l xs → ClsIs w B (l ++ [⟨a, n, b⟩]) (xs ++ .string a :: (v ++ [.string b]))
  | [], xs, h => by
    unfold ClsIs at h
    subst h
    exact ⟨v, [], rfl, hn, rfl⟩
  | c :: l, xs, h => by
    unfold ClsIs at h
    obtain ⟨u, ys, rfl, h2, h3⟩ := h
    refine ⟨u, ys ++ .string a :: (v ++ [.string b]), by simp, h2, ClsIs.snoc hn l ys h3⟩
theorem ClsIs.len {w : World} {B : Nat} : ∀ (l : List Cl) (xs : List Value), ClsIs w B l xs → xs.length = l.length * 7
  | [], xs, h => by unfold ClsIs at h; subst h; rfl
  | c :: l, xs, h => by
    unfold ClsIs at h
    obtain ⟨v, ys, rfl, h2, h3⟩ := h
    have := ClsIs.len l ys h3
    have := h2.len
    simp; omega
/-- what call.Read ends with -/
def ReadP (r : Except ByteArray (List Cl)) (w : World) (e : Ending) (w' : World) : Prop := ∃ (A : Option Addr) (c : Nat) (xs : List Value),
  e = .returned (.tuple #[.slice A (okL r).length c, .string (errS r)]) ∧ Reads w' w'.heap.size 7 A (okL r).length xs ∧ ClsIs w' w'.heap.size (okL r) xs ∧ Below w.heap.size w w'
theorem ReadP.err {r : Except ByteArray (List Cl)} {w w' : World} {s : ByteArray} (h : r = .error s) (hb : Below w.heap.size w w') : ReadP r w (.returned (.tuple #[.slice none 0 0, .string s])) w' := by
  subst h
  exact ⟨none, 0, [], rfl, Reads.none_, rfl, hb⟩
theorem kid3 {n : Nd} (h : noneN n = false) : ∃ a b c, n.kids = [a, b, c] ∧ n.kind = 6 ∧ a.kind = 5 ∧ b.kind = 7 ∧ c.kind = 5 := by
  unfold noneN kindsK at h
  rw [Bool.not_eq_false', Bool.and_eq_true, beq_iff_eq] at h
  obtain ⟨h6, h⟩ := h
  match hk : n.kids with
  | [] => rw [hk] at h; cases h
  | [a] => rw [hk] at h; simp [eqK] at h
  | [a, b] => rw [hk] at h; simp [eqK] at h
  | [a, b, c] =>
    rw [hk] at h
    simp only [eqK, Bool.and_eq_true, beq_iff_eq] at h
    exact ⟨a, b, c, rfl, h6, h.1, h.2.1, h.2.2.1⟩
  | a :: b :: c :: d :: l => rw [hk] at h; simp [eqK] at h
theorem any_get {ns : List Nd} {p : Nd → Bool} (h : ns.any p = false) {i : Nat} {n : Nd} (hi : ns[i]? = some n) : p n = false := by
  rw [List.any_eq_false] at h
  have := h n (List.mem_of_getElem? hi)
  simpa using this
theorem map_take {ns : List Nd} {i : Nat} {n : Nd} (h : ns[i]? = some n) : (ns.take (i + 1)).map clOf = (ns.take i).map clOf ++ [clOf n] := by
  obtain ⟨hl, he⟩ := List.getElem?_eq_some_iff.1 h
  rw [List.take_add_one, h]
  simp
theorem callInfo : (Try.prog.info? 45).map (fun i => (i.zero, i.size, i.bytes)) = some (some (.agg #[.string ⟨#[]⟩, .int .i64 0, .int .i64 0, .string ⟨#[]⟩, .slice none 0 0, .slice none 0 0, .string ⟨#[]⟩]), 7, 112) := by kernel_rfl
theorem step_pushCl {w : World} {ops : Array Oper} {o : Oper} {a : Act} {K : Act → World → Prop} {Q : Exit → Act → World → Prop} {E : Prop} (hgd : o.guard = none) (s x : Operand)
    (ho : o.op = .call { callee := .builtin .append, args := #[s, x], argTypes := #[36, 36] })
    (B : Nat) (v : Value) (n : Nat) (xs : List Value) (hs : a.eval s = v) (hown : w.ownsRow B 45 7 v n xs) (B2 : Nat) (A : Option Addr) (m c : Nat) (ys : List Value) (hr : Reads w B2 7 A m ys) (h1 : ∀ u ∈ ys, u.oneCell' = true)
    (hx : a.eval x = .slice A m c)
    (hlim : n + m ≤ 1000000000) (hB : B ≤ w.heap.size)
    (h : ∀ v' w', w'.ownsRow B 45 7 v' (n + m) (xs ++ ys) → w.grownBy w' v.ownBlock → K (a.put o.dst v') w') :
    if Region.wanted o (yielded ops a.tmps) = true then Oper.wp Try.prog o a w K Q else E := by
  have hw : Region.wanted o (yielded ops a.tmps) = true := by simp [Region.wanted, hgd]
  rw [if_pos hw]
  obtain ⟨i0, hi0, hz0, hz1, hz2⟩ := info_parts callInfo
  obtain ⟨v', w', h1, h2, h3, h4⟩ := run_append_any (P := Try.prog) w B 36 o.type 45 i0 _ 7 112 Try.underlying36 hi0 hz0 hz1 hz2 rfl (by omega) v n _ hown B2 _ m c _ hr
    h1 (by simp only [maxLen]; omega) (by omega) hB
  unfold Oper.wp execOp
  simp only [ho, resolve, invoke, builtin, Sem.run_bind, Sem.run_pure, Result.andThen_ok, List.map_toArray, List.map_cons, List.map_nil, hs, hx, h1]
  exact h v' w' h2 h3
theorem reads7 (w : World) (v0 v1 v2 v3 v4 v5 v6 : Value) : Reads (w.alloc (.cells #[v0, v1, v2, v3, v4, v5, v6] 45)) (w.heap.size + 1) 7 (some ⟨w.heap.size, 0, none⟩) 1 [v0, v1, v2, v3, v4, v5, v6] := by
  refine ⟨rfl, fun _ => ⟨_, rfl, by simp, fun j u hj => ?_⟩⟩
  have e : (⟨w.heap.size, 0, none⟩ : Addr).add j = ⟨w.heap.size, j, none⟩ := by unfold Addr.add; split <;> simp_all
  rw [e, World.cell?_alloc_mark]
  simpa using hj
end Go.Proofs.Ytnhoecmcbikcnaa
/-! The walk of call.Read: what it does behind two findings. -/
namespace Go.Proofs.Ytnhoecmcbikcnaa
open Go.RowKit Go.PlainAid
set_option linter.unusedVariables false
set_option linter.unusedSimpArgs false
theorem readL_err {l : List UInt8} {c : Int} (h : parseL l = .error c) : readL l = .error notJ := by unfold readL; rw [h]
theorem readL_ok {l : List UInt8} {n : Nd} (h : parseL l = .ok n) : readL l = readN (findN n usingS) (findN n callsS) := by unfold readL; rw [h]; rfl
theorem NdIs.cells (n : Nd) {w : World} {B : Nat} {c0 c1 : Int} {c2 : ByteArray} {c3 : Option Addr} {c4 c5 : Nat} {c6 : Option Addr} {c7 c8 : Nat} (h : NdIs w B n [.int .i64 c0, .int .i64 c1, .string c2, .slice c3 c4 c5, .slice c6 c7 c8]) :
    c0 = n.kind ∧ c2 = n.text ∧ c7 = n.kids.length ∧ ∃ xs, Reads w B 5 c6 n.kids.length xs ∧ NdsIs w B n.kids xs ∧ n.kids.length ≤ maxLen := by
  obtain ⟨A, ck, A2, c, xs, h1, _, h3, h4, _, _, _, _, _, h9⟩ := h.open_
  simp only [List.cons.injEq, Value.int.injEq, Value.string.injEq, Value.slice.injEq, and_true, true_and] at h1
  obtain ⟨e1, e2, e3, e4, e5, e6, e7⟩ := h1
  subst e5
  exact ⟨e1, e3, e6, xs, h3, h4, h9⟩
theorem kids15 {w : World} {B : Nat} {n a b c : Nd} {c0 c1 : Int} {c2 : ByteArray} {c3 : Option Addr} {c4 c5 : Nat} {c6 : Option Addr} {c7 c8 : Nat} (h : NdIs w B n [.int .i64 c0, .int .i64 c1, .string c2, .slice c3 c4 c5, .slice c6 c7 c8]) (hk : n.kids = [a, b, c]) :
    ∃ (kb ko : Nat) (a0 a1 : Int) (a2 : ByteArray) (a3 : Option Addr) (a4 a5 : Nat) (a6 : Option Addr) (a7 a8 : Nat), c6 = some ⟨kb, ko, none⟩ ∧ c7 = 3 ∧ kb < B ∧ NdIs w B b [.int .i64 a0, .int .i64 a1, .string a2, .slice a3 a4 a5, .slice a6 a7 a8] ∧
      w.cell? ⟨kb, ko + 2, none⟩ = some (.string a.text) ∧ w.cell? ⟨kb, ko + 5, none⟩ = some (.int .i64 a0) ∧ w.cell? ⟨kb, ko + 6, none⟩ = some (.int .i64 a1) ∧ w.cell? ⟨kb, ko + 7, none⟩ = some (.string a2) ∧ w.cell? ⟨kb, ko + 8, none⟩ = some (.slice a3 a4 a5) ∧ w.cell? ⟨kb, ko + 9, none⟩ = some (.slice a6 a7 a8) ∧ w.cell? ⟨kb, ko + 12, none⟩ = some (.string c.text) := by
  cases n with
  | mk k m t ks ns =>
    have hk2 : ns = [a, b, c] := hk
    subst hk2
    obtain ⟨hl, hq⟩ := kid_cells h
    obtain ⟨kb, ko, e, hb, hcell⟩ := hq (by simp)
    obtain ⟨ca, na, ha⟩ := hcell 0 a rfl
    obtain ⟨cb, nb, hbb⟩ := hcell 1 b rfl
    obtain ⟨cc, nc, hcc⟩ := hcell 2 c rfl
    obtain ⟨A3, k3, B3, l3, x3, eb, _⟩ := nb.open_
    subst eb
    obtain ⟨A1, k1, B1, l1, x1, ea, _⟩ := na.open_
    obtain ⟨A2, k2, B2, l2, x2, ec, _⟩ := nc.open_
    refine ⟨kb, ko, _, _, _, _, _, _, _, _, _, e, hl, hb, nb, ha 2 _ (by rw [ea]; rfl), hbb 0 _ rfl, hbb 1 _ rfl, hbb 2 _ rfl, hbb 3 _ rfl, hbb 4 _ rfl, hcc 2 _ (by rw [ec]; rfl)⟩
theorem readN_1 {c : Option Nd} {u : Option Nd} (h : u.isSome = false) : readN u c = .error notR := by unfold readN; rw [if_pos h]
theorem readN_2 {c : Option Nd} {u : Option Nd} (h1 : u.isSome = true) (h : c.isSome = false) : readN u c = .error notR := by unfold readN; rw [if_neg (by rw [h1]; simp), if_pos h]
def readM (U M : Nd) : Except ByteArray (List Cl) := if (U.kind != 6) = true then .error notR else if (M.kind != 6) = true then .error notR
  else if U.kids.any oddN = true then .error notR else if M.kids.any noneN = true then .error notR
  else if U.kids.any unkN = true then .error unkC else if 16 < M.kids.length then .error limS
  else .ok (M.kids.map clOf)
theorem readN_3 {c : Option Nd} {u : Option Nd} (h1 : u.isSome = true) (h : c.isSome = true) : readN u c = readM (u.getD (nd0 0)) (c.getD (nd0 0)) := by unfold readN readM; rw [if_neg (by rw [h1]; simp), if_neg (by rw [h]; simp)]
def CInv (w4 : World) (M : Nd) (i : Nat) (Ao : Option Addr) (co : Nat) (wr : World) : Prop := ∃ xs, wr.ownsRow w4.heap.size 45 7 (.slice Ao i co) i xs ∧ ClsIs wr w4.heap.size ((M.kids.take i).map clOf) xs ∧ Below w4.heap.size w4 wr
/-- the cells that one call is made of -/
def KidC (g kb ko y8 : Nat) (ta tc : ByteArray) (b0 b1 : Int) (b2 : ByteArray) (b3 : Option Addr) (b4 b5 : Nat) (b6 : Option Addr) (b7 b8 : Nat) (w' : World) : Prop :=
  w'.cell? ⟨g, 4, none⟩ = some (.slice (some ⟨kb, ko, none⟩) 3 y8) ∧ w'.cell? ⟨kb, ko + 2, none⟩ = some (.string ta) ∧ w'.cell? ⟨kb, ko + 5, none⟩ = some (.int .i64 b0) ∧ w'.cell? ⟨kb, ko + 6, none⟩ = some (.int .i64 b1) ∧ w'.cell? ⟨kb, ko + 7, none⟩ = some (.string b2) ∧ w'.cell? ⟨kb, ko + 8, none⟩ = some (.slice b3 b4 b5) ∧ w'.cell? ⟨kb, ko + 9, none⟩ = some (.slice b6 b7 b8) ∧ w'.cell? ⟨kb, ko + 12, none⟩ = some (.string tc)
theorem KidC.keep {g kb ko y8 : Nat} {ta tc : ByteArray} {b0 b1 : Int} {b2 : ByteArray} {b3 : Option Addr} {b4 b5 : Nat} {b6 : Option Addr} {b7 b8 : Nat} {w w' : World} {n : Nat} (hk : ∀ p : Addr, p.block < n → w'.cell? p = w.cell? p) (h1 : kb < n) (h2 : g < n) (h : KidC g kb ko y8 ta tc b0 b1 b2 b3 b4 b5 b6 b7 b8 w) : KidC g kb ko y8 ta tc b0 b1 b2 b3 b4 b5 b6 b7 b8 w' := by
  obtain ⟨k0, k1, k2, k3, k4, k5, k6, k7⟩ := h
  exact ⟨(hk _ h2).trans k0, (hk _ h1).trans k1, (hk _ h1).trans k2, (hk _ h1).trans k3, (hk _ h1).trans k4, (hk _ h1).trans k5, (hk _ h1).trans k6, (hk _ h1).trans k7⟩
theorem KidC.keep_ {g kb ko y8 : Nat} {ta tc : ByteArray} {b0 b1 : Int} {b2 : ByteArray} {b3 : Option Addr} {b4 b5 : Nat} {b6 : Option Addr} {b7 b8 : Nat} {w w' : World} (hk : w'.heap[kb]? = w.heap[kb]?) (hg : w'.heap[g]? = w.heap[g]?) (h : KidC g kb ko y8 ta tc b0 b1 b2 b3 b4 b5 b6 b7 b8 w) : KidC g kb ko y8 ta tc b0 b1 b2 b3 b4 b5 b6 b7 b8 w' := by
  have h1 : ∀ j, w'.cell? ⟨kb, j, none⟩ = w.cell? ⟨kb, j, none⟩ := fun j => World.cell?_of_block hk
  have h2 : ∀ j, w'.cell? ⟨g, j, none⟩ = w.cell? ⟨g, j, none⟩ := fun j => World.cell?_of_block hg
  obtain ⟨k0, k1, k2, k3, k4, k5, k6, k7⟩ := h
  exact ⟨(h2 _).trans k0, (h1 _).trans k1, (h1 _).trans k2, (h1 _).trans k3, (h1 _).trans k4, (h1 _).trans k5, (h1 _).trans k6, (h1 _).trans k7⟩
theorem cells_one7 {t1 t2 : ByteArray} {c0 c1 : Int} {c2 : ByteArray} {c3 : Option Addr} {c4 c5 : Nat} {c6 : Option Addr} {c7 c8 : Nat} : ∀ u ∈ ([.string t1, .int .i64 c0, .int .i64 c1, .string c2, .slice c3 c4 c5, .slice c6 c7 c8, .string t2] : List Value), u.oneCell' = true := by
  intro u hu
  simp at hu
  rcases hu with rfl | rfl | rfl | rfl | rfl | rfl | rfl <;> rfl
theorem KidC.start {wo : World} {kb ko y8 : Nat} {y0 y1 : Int} {y2 : ByteArray} {y3 : Option Addr} {y4 y5 : Nat} {ta tc : ByteArray} {b0 b1 : Int} {b2 : ByteArray} {b3 : Option Addr} {b4 b5 : Nat} {b6 : Option Addr} {b7 b8 : Nat} (hkw : kb < wo.heap.size)
    (f0 : wo.cell? ⟨kb, ko + 2, none⟩ = some (.string ta)) (f1 : wo.cell? ⟨kb, ko + 5, none⟩ = some (.int .i64 b0)) (f2 : wo.cell? ⟨kb, ko + 6, none⟩ = some (.int .i64 b1)) (f3 : wo.cell? ⟨kb, ko + 7, none⟩ = some (.string b2)) (f4 : wo.cell? ⟨kb, ko + 8, none⟩ = some (.slice b3 b4 b5)) (f5 : wo.cell? ⟨kb, ko + 9, none⟩ = some (.slice b6 b7 b8)) (f6 : wo.cell? ⟨kb, ko + 12, none⟩ = some (.string tc)) :
    KidC wo.heap.size kb ko y8 ta tc b0 b1 b2 b3 b4 b5 b6 b7 b8 (wo.alloc (.cells #[.int .i64 y0, .int .i64 y1, .string y2, .slice y3 y4 y5, .slice (some ⟨kb, ko, none⟩) 3 y8] 27)) := by
  have hk : ∀ p : Addr, p.block < wo.heap.size → (wo.alloc (.cells #[.int .i64 y0, .int .i64 y1, .string y2, .slice y3 y4 y5, .slice (some ⟨kb, ko, none⟩) 3 y8] 27)).cell? p = wo.cell? p := fun p hp => World.cell?_alloc_lt _ _ _ hp
  exact ⟨(Blk.new wo 27 #[.int .i64 y0, .int .i64 y1, .string y2, .slice y3 y4 y5, .slice (some ⟨kb, ko, none⟩) 3 y8]).cell 4, (hk _ hkw).trans f0, (hk _ hkw).trans f1, (hk _ hkw).trans f2, (hk _ hkw).trans f3, (hk _ hkw).trans f4, (hk _ hkw).trans f5, (hk _ hkw).trans f6⟩

set_option maxRecDepth 100000 in
set_option maxHeartbeats 4000000 in
theorem kRead_bad (s : ByteArray) (A : Option Addr) (c : Nat) (w : World) (ec : Int) (h : BytesAt w A c s) (hr : parseL s.toList = .error ec) : Calls Try.prog 14 #[.slice A s.size c] w (ReadP (readL s.toList) w) := by
  have HP := Lib.hid (parse_law s A c w h)
  rw [hr] at HP
  have E := Lib.hid (readL_err hr)
  have h1 := parse_err hr
  have n0 : (ec != 0) = true := by rw [bne_iff_ne]; omega
  clear hr h h1
  generalize readL s.toList = V at *
  go_enter Try.func14, Try.ntmps14
  go_wp2_with fail
  refine (HP.out : Calls _ _ _ _ _).mono ?_
  rintro e w1 ⟨rfl, hb⟩
  go_wp2_with fail
  refine bodyPost_ret (v := .tuple #[.slice none 0 0, .string ⟨#[110, 111, 116, 74, 83, 79, 78]⟩]) (by simp [results, Try.results14, go_sem]) rfl ?_
  exact ReadP.err E.out (hb.alloc hb.size _)
/-- what stands behind the two findings -/
def KIn (w w4 : World) (gu gm : Nat) (U M : Nd) (u0 u1 : Int) (u2 : ByteArray) (u3 : Option Addr) (u4 u5 : Nat) (u6 : Option Addr) (u8 : Nat) (m0 m1 : Int) (m2 : ByteArray) (m3 : Option Addr) (m4 m5 : Nat) (m6 : Option Addr) (m8 : Nat) : Prop :=
  Blk w4 gu 27 #[.int .i64 u0, .int .i64 u1, .string u2, .slice u3 u4 u5, .slice u6 U.kids.length u8] ∧ Blk w4 gm 27 #[.int .i64 m0, .int .i64 m1, .string m2, .slice m3 m4 m5, .slice m6 M.kids.length m8] ∧ Below w.heap.size w w4 ∧
  (∃ xs, Reads w4 w4.heap.size 5 u6 U.kids.length xs ∧ NdsIs w4 w4.heap.size U.kids xs ∧ U.kids.length ≤ maxLen) ∧ (∃ xs, Reads w4 w4.heap.size 5 m6 M.kids.length xs ∧ NdsIs w4 w4.heap.size M.kids xs ∧ M.kids.length ≤ maxLen)
set_option maxRecDepth 100000 in
set_option maxHeartbeats 4000000 in
theorem kRead_ok (s : ByteArray) (A : Option Addr) (c : Nat) (w : World) (n : Nd) (h : BytesAt w A c s) (hr : parseL s.toList = .ok n) : Calls Try.prog 14 #[.slice A s.size c] w (ReadP (readL s.toList) w) := by
  have HP := Lib.hid (parse_law s A c w h)
  rw [hr] at HP
  have E := Lib.hid (readL_ok hr)
  have HSZ := Lib.hid (parse_size hr)
  clear hr h
  generalize readL s.toList = V at *
  go_enter Try.func14, Try.ntmps14
  go_wp2_with fail
  refine (HP.out : Calls _ _ _ _ _).mono ?_
  rintro e w1 ⟨x0, x1, x2, x3, x4, x5, x6, x7, x8, rfl, hn, hb⟩
  have HB1 : Hid (Below w.heap.size w (w1.alloc (.cells #[.int .i64 x0, .int .i64 x1, .string x2, .slice x3 x4 x5, .slice x6 x7 x8] 27))) := hb.alloc hb.size _
  have HBX : Hid (Blk (w1.alloc (.cells #[.int .i64 x0, .int .i64 x1, .string x2, .slice x3 x4 x5, .slice x6 x7 x8] 27)) w1.heap.size 27 #[.int .i64 x0, .int .i64 x1, .string x2, .slice x3 x4 x5, .slice x6 x7 x8]) := Blk.new _ _ _
  have HN1 : Hid (NdIs (w1.alloc (.cells #[.int .i64 x0, .int .i64 x1, .string x2, .slice x3 x4 x5, .slice x6 x7 x8] 27)) w1.heap.size n [.int .i64 x0, .int .i64 x1, .string x2, .slice x3 x4 x5, .slice x6 x7 x8]) := hn.below ((Below.refl _ _).alloc (Nat.le_refl _) _)
  have HF1 : Hid (Calls Try.prog 30 #[.agg #[.int .i64 x0, .int .i64 x1, .string x2, .slice x3 x4 x5, .slice x6 x7 x8], .string ⟨#[117, 115, 105, 110, 103]⟩] (w1.alloc (.cells #[.int .i64 x0, .int .i64 x1, .string x2, .slice x3 x4 x5, .slice x6 x7 x8] 27)) (FindP (findN n usingS) (w1.alloc (.cells #[.int .i64 x0, .int .i64 x1, .string x2, .slice x3 x4 x5, .slice x6 x7 x8] 27)))) :=
    cFind_any n usingS [.int .i64 x0, .int .i64 x1, .string x2, .slice x3 x4 x5, .slice x6 x7 x8] _ w1.heap.size HN1.out (by simp) HSZ.out
  clear hn hb HP
  go_wp2_with fail
  refine (HF1.out : Calls _ _ _ _ _).mono ?_
  rintro e w2 ⟨u0, u1, u2, u3, u4, u5, u6, u7, u8, rfl, hu, hb2⟩
  have hba : Below w2.heap.size w2 (w2.alloc (.cells #[.int .i64 u0, .int .i64 u1, .string u2, .slice u3 u4 u5, .slice u6 u7 u8] 27)) := (Below.refl _ _).alloc (Nat.le_refl _) _
  have hb3 := hb2.trans (hba.mono hb2.size)
  have HB2 : Hid (Below w.heap.size w (w2.alloc (.cells #[.int .i64 u0, .int .i64 u1, .string u2, .slice u3 u4 u5, .slice u6 u7 u8] 27))) := nextB HB1.out hb3
  have HBX2 : Hid (Blk (w2.alloc (.cells #[.int .i64 u0, .int .i64 u1, .string u2, .slice u3 u4 u5, .slice u6 u7 u8] 27)) w1.heap.size 27 #[.int .i64 x0, .int .i64 x1, .string x2, .slice x3 x4 x5, .slice x6 x7 x8]) := HBX.out.below hb3 HBX.out.lt
  have HBU : Hid (Blk (w2.alloc (.cells #[.int .i64 u0, .int .i64 u1, .string u2, .slice u3 u4 u5, .slice u6 u7 u8] 27)) w2.heap.size 27 #[.int .i64 u0, .int .i64 u1, .string u2, .slice u3 u4 u5, .slice u6 u7 u8]) := Blk.new _ _ _
  have HN2 : Hid (NdIs (w2.alloc (.cells #[.int .i64 u0, .int .i64 u1, .string u2, .slice u3 u4 u5, .slice u6 u7 u8] 27)) w1.heap.size n [.int .i64 x0, .int .i64 x1, .string x2, .slice x3 x4 x5, .slice x6 x7 x8]) := HN1.out.below (hb3.mono (by simp))
  have HU2 : Hid (NdIs (w2.alloc (.cells #[.int .i64 u0, .int .i64 u1, .string u2, .slice u3 u4 u5, .slice u6 u7 u8] 27)) w2.heap.size ((findN n usingS).getD (nd0 0)) [.int .i64 u0, .int .i64 u1, .string u2, .slice u3 u4 u5, .slice u6 u7 u8]) := (NdIn.is (fun b hb => hb.2) _ _ hu).below hba
  have hz12 : w1.heap.size < w2.heap.size := by have := hb2.size; simp at this; omega
  have HF2 : Hid (Calls Try.prog 30 #[.agg #[.int .i64 x0, .int .i64 x1, .string x2, .slice x3 x4 x5, .slice x6 x7 x8], .string ⟨#[109, 101, 116, 104, 111, 100, 67, 97, 108, 108, 115]⟩] (w2.alloc (.cells #[.int .i64 u0, .int .i64 u1, .string u2, .slice u3 u4 u5, .slice u6 u7 u8] 27)) (FindP (findN n callsS) (w2.alloc (.cells #[.int .i64 u0, .int .i64 u1, .string u2, .slice u3 u4 u5, .slice u6 u7 u8] 27)))) :=
    cFind_any n callsS [.int .i64 x0, .int .i64 x1, .string x2, .slice x3 x4 x5, .slice x6 x7 x8] _ w1.heap.size HN2.out (by simp; omega) HSZ.out
  obtain ⟨e0, e1, e2, e3, e4⟩ := HBX2.out.cells5
  clear hu hb2 hba hb3 HF1 HN1 HB1 HBX HN2 HSZ
  go_wp2_with fail
  refine (HF2.out : Calls _ _ _ _ _).mono ?_
  rintro e w3 ⟨m0, m1, m2, m3, m4, m5, m6, m7, m8, rfl, hm, hb2⟩
  have hba : Below w3.heap.size w3 (w3.alloc (.cells #[.int .i64 m0, .int .i64 m1, .string m2, .slice m3 m4 m5, .slice m6 m7 m8] 27)) := (Below.refl _ _).alloc (Nat.le_refl _) _
  have hb3 := hb2.trans (hba.mono hb2.size)
  have hB4 := nextB HB2.out hb3
  have hU4 : Blk (w3.alloc (.cells #[.int .i64 m0, .int .i64 m1, .string m2, .slice m3 m4 m5, .slice m6 m7 m8] 27)) w2.heap.size 27 #[.int .i64 u0, .int .i64 u1, .string u2, .slice u3 u4 u5, .slice u6 u7 u8] := HBU.out.below hb3 HBU.out.lt
  have hM4 : Blk (w3.alloc (.cells #[.int .i64 m0, .int .i64 m1, .string m2, .slice m3 m4 m5, .slice m6 m7 m8] 27)) w3.heap.size 27 #[.int .i64 m0, .int .i64 m1, .string m2, .slice m3 m4 m5, .slice m6 m7 m8] := Blk.new _ _ _
  have hNU : NdIs (w3.alloc (.cells #[.int .i64 m0, .int .i64 m1, .string m2, .slice m3 m4 m5, .slice m6 m7 m8] 27)) (w3.alloc (.cells #[.int .i64 m0, .int .i64 m1, .string m2, .slice m3 m4 m5, .slice m6 m7 m8] 27)).heap.size ((findN n usingS).getD (nd0 0)) [.int .i64 u0, .int .i64 u1, .string u2, .slice u3 u4 u5, .slice u6 u7 u8] := NdIs.more (by have := hb3.size; simp at this ⊢; omega) _ _ (HU2.out.below (hb3.mono (by simp)))
  have hNM : NdIs (w3.alloc (.cells #[.int .i64 m0, .int .i64 m1, .string m2, .slice m3 m4 m5, .slice m6 m7 m8] 27)) (w3.alloc (.cells #[.int .i64 m0, .int .i64 m1, .string m2, .slice m3 m4 m5, .slice m6 m7 m8] 27)).heap.size ((findN n callsS).getD (nd0 0)) [.int .i64 m0, .int .i64 m1, .string m2, .slice m3 m4 m5, .slice m6 m7 m8] := NdIs.more (by simp) _ _ ((NdIn.is (fun b hb => hb.2) _ _ hm).below hba)
  obtain ⟨k1, -, k2, ku⟩ := NdIs.cells _ hNU
  obtain ⟨l1, -, l2, km⟩ := NdIs.cells _ hNM
  subst k1 k2 l1 l2
  have KI : Hid (KIn w (w3.alloc (.cells #[.int .i64 ((findN n callsS).getD (nd0 0)).kind, .int .i64 m1, .string m2, .slice m3 m4 m5, .slice m6 ((findN n callsS).getD (nd0 0)).kids.length m8] 27)) w2.heap.size w3.heap.size ((findN n usingS).getD (nd0 0)) ((findN n callsS).getD (nd0 0)) ((findN n usingS).getD (nd0 0)).kind u1 u2 u3 u4 u5 u6 u8 ((findN n callsS).getD (nd0 0)).kind m1 m2 m3 m4 m5 m6 m8) := ⟨hU4, hM4, hB4, ku, km⟩
  have hg : w2.heap.size < (w3.alloc (.cells #[.int .i64 ((findN n callsS).getD (nd0 0)).kind, .int .i64 m1, .string m2, .slice m3 m4 m5, .slice m6 ((findN n callsS).getD (nd0 0)).kids.length m8] 27)).heap.size := hU4.lt
  clear hb2 hba hb3 hU4 hM4 hNU hNM hm ku km hB4 HBX2 HBU HU2 HF2 HB2 e0 e1 e2 e3 e4
  go_upto_region 6 with fail
  generalize w3.alloc (.cells #[.int .i64 ((findN n callsS).getD (nd0 0)).kind, .int .i64 m1, .string m2, .slice m3 m4 m5, .slice m6 ((findN n callsS).getD (nd0 0)).kids.length m8] 27) = w4 at *
  generalize w2.heap.size = gu at *
  generalize w3.heap.size = gm at *
  generalize findN n usingS = fu at *
  generalize findN n callsS = fm at *
  have E1 : Hid (fu.isSome = false → V = .error notR) := fun h => E.out.trans (readN_1 h)
  have E2 : Hid (fu.isSome = true → fm.isSome = false → V = .error notR) := fun h1 h2 => E.out.trans (readN_2 h1 h2)
  have E3 : Hid (fu.isSome = true → fm.isSome = true → V = readM (fu.getD (nd0 0)) (fm.getD (nd0 0))) := fun h1 h2 => E.out.trans (readN_3 h1 h2)
  generalize fu.isSome = ba at *
  generalize fm.isSome = bb at *
  generalize fu.getD (nd0 0) = UU at *
  generalize fm.getD (nd0 0) = MM at *
  clear E
  obtain ⟨hBU, hBM, hB4, hxu, hxm⟩ := KI.out
  have HB4 := Lib.hid hB4
  obtain ⟨yu, hru, hnu, hlu⟩ := hxu
  obtain ⟨ym, hrm, hnm, hlm⟩ := hxm
  obtain ⟨p0, p1, p2, p3, p4⟩ := hBU.cells5
  obtain ⟨q0, q1, q2, q3, q4⟩ := hBM.cells5
  have HLU := Lib.hid hlu
  have HLM := Lib.hid hlm
  have HRM := Lib.hid hrm
  have HNM := Lib.hid hnm
  have HBM := Lib.hid hBM
  have HBU := Lib.hid hBU
  have hlu2 : UU.kids.length ≤ 9223372036854775807 := by simp only [maxLen] at hlu; omega
  have hlm2 : MM.kids.length ≤ 9223372036854775807 := by simp only [maxLen] at hlm; omega
  have HC1 : Hid (∀ w', Below w4.heap.size w4 w' → Calls Try.prog 34 #[.slice u6 UU.kids.length u8, .func (.func 31) #[] #[]] w' (BoolBel (UU.kids.any oddN) w')) := fun w' h => sContainsFunc_kRead1 oddN UU.kids u6 u8 yu w' w4.heap.size (hru.keep fun p hp => h.cell hp) (NdsIs.keep (fun p hp => h.cell hp) _ _ hnu) h.size hlu2 (fun n cs w9 h1 h2 => kRead1_any n cs w9 _ h1)
  have HC2 : Hid (∀ w', Below w4.heap.size w4 w' → Calls Try.prog 34 #[.slice m6 MM.kids.length m8, .func (.func 32) #[] #[]] w' (BoolBel (MM.kids.any noneN) w')) := fun w' h => sContainsFunc_kRead2 noneN MM.kids m6 m8 ym w' w4.heap.size (hrm.keep fun p hp => h.cell hp) (NdsIs.keep (fun p hp => h.cell hp) _ _ hnm) h.size hlm2 (fun n cs w9 h1 h2 => kRead2_any n cs w9 _ h1 h2)
  have HC3 : Hid (∀ w', Below w4.heap.size w4 w' → Calls Try.prog 34 #[.slice u6 UU.kids.length u8, .func (.func 35) #[] #[]] w' (BoolBel (UU.kids.any unkN) w')) := fun w' h => sContainsFunc_kRead3 unkN UU.kids u6 u8 yu w' w4.heap.size (hru.keep fun p hp => h.cell hp) (NdsIs.keep (fun p hp => h.cell hp) _ _ hnu) h.size hlu2 (fun n cs w9 h1 h2 => kRead3_any n cs w9 _ h1)
  have hgu : gu < w4.heap.size := hBU.lt
  have hgm : gm < w4.heap.size := hBM.lt
  clear hBU hBM hB4 hru hnu hlu hrm hnm hlm KI hlu2 hlm2
  have hW := Below.refl w4.heap.size w4
  cases ba with
  | false =>
    have EE := Lib.hid (E1.out rfl)
    clear E1 E2 E3 HC1 HC2 HC3
    go_wp2_with fail
    refine bodyPost_ret (v := .tuple #[.slice none 0 0, .string ⟨#[110, 111, 116, 82, 101, 113, 117, 101, 115, 116]⟩]) (by simp [results, Try.results14, go_sem]) rfl ?_
    exact ReadP.err EE.out (HB4.out.trans (hW.mono HB4.out.size))
  | true =>
    clear E1
    cases bb with
    | false =>
      have EE := Lib.hid (E2.out rfl rfl)
      clear E2 E3 HC1 HC2 HC3
      go_wp2_with fail
      refine bodyPost_ret (v := .tuple #[.slice none 0 0, .string ⟨#[110, 111, 116, 82, 101, 113, 117, 101, 115, 116]⟩]) (by simp [results, Try.results14, go_sem]) rfl ?_
      exact ReadP.err EE.out (HB4.out.trans (hW.mono HB4.out.size))
    | true =>
      have EM := Lib.hid (E3.out rfl rfl)
      clear E2 E3
      unfold readM at EM
      cases t1 : (UU.kind != 6) with
      | true =>
        have EE : Hid (V = .error notR) := by show _ = _; rw [EM.out, if_pos t1]
        clear EM HC1 HC2 HC3
        go_wp2_with fail
        refine bodyPost_ret (v := .tuple #[.slice none 0 0, .string ⟨#[110, 111, 116, 82, 101, 113, 117, 101, 115, 116]⟩]) (by simp [results, Try.results14, go_sem]) rfl ?_
        exact ReadP.err EE.out (HB4.out.trans (hW.mono HB4.out.size))
      | false =>
        have EM2 : Hid (V = if (MM.kind != 6) = true then .error notR else if UU.kids.any oddN = true then .error notR else if MM.kids.any noneN = true then .error notR else if UU.kids.any unkN = true then .error unkC else if 16 < MM.kids.length then .error limS else .ok (MM.kids.map clOf)) := by show _ = _; rw [EM.out, if_neg (by rw [t1]; simp)]
        clear EM
        cases t2 : (MM.kind != 6) with
        | true =>
          have EE : Hid (V = .error notR) := by show _ = _; rw [EM2.out, if_pos t2]
          clear EM2 HC1 HC2 HC3
          go_wp2_with fail
          refine bodyPost_ret (v := .tuple #[.slice none 0 0, .string ⟨#[110, 111, 116, 82, 101, 113, 117, 101, 115, 116]⟩]) (by simp [results, Try.results14, go_sem]) rfl ?_
          exact ReadP.err EE.out (HB4.out.trans (hW.mono HB4.out.size))
        | false =>
          have EM3 : Hid (V = if UU.kids.any oddN = true then .error notR else if MM.kids.any noneN = true then .error notR else if UU.kids.any unkN = true then .error unkC else if 16 < MM.kids.length then .error limS else .ok (MM.kids.map clOf)) := by show _ = _; rw [EM2.out, if_neg (by rw [t2]; simp)]
          clear EM2
          have HNO : Hid (MM.kids.any noneN = false → ∀ (j : Nat) (x : Nd), MM.kids[j]? = some x → noneN x = false) := fun h j x hx => any_get h hx
          generalize UU.kids.any oddN = z1 at *
          generalize UU.kids.any unkN = z3 at *
          obtain ⟨z2, hz2⟩ : ∃ z2, z2 = MM.kids.any noneN := ⟨_, rfl⟩
          rw [← hz2] at HC2 EM3 HNO
          clear hz2
          go_wp2_with fail
          refine (HC1.out _ hW).mono ?_; rintro e w5 ⟨rfl, hw5⟩
          replace hW := nextB hW hw5; clear hw5
          obtain ⟨wk, rfl⟩ : ∃ wk : World, wk = w5 := ⟨_, rfl⟩
          clear p0 p1 p2 p3 p4 q0 q1 q2 q3 q4
          obtain ⟨p0, p1, p2, p3, p4⟩ := (HBU.out.below hW HBU.out.lt).cells5
          obtain ⟨q0, q1, q2, q3, q4⟩ := (HBM.out.below hW HBM.out.lt).cells5
          cases z1 with
          | true =>
            have EE : Hid (V = .error notR) := by show _ = _; rw [EM3.out, if_pos rfl]
            clear EM3 HC1 HC2 HC3 HNO
            go_wp2_with fail
            refine bodyPost_ret (v := .tuple #[.slice none 0 0, .string ⟨#[110, 111, 116, 82, 101, 113, 117, 101, 115, 116]⟩]) (by simp [results, Try.results14, go_sem]) rfl ?_
            exact ReadP.err EE.out (HB4.out.trans (hW.mono HB4.out.size))
          | false =>
            go_wp2_with fail
            refine (HC2.out _ hW).mono ?_; rintro e w5 ⟨rfl, hw5⟩
            replace hW := nextB hW hw5; clear hw5
            obtain ⟨wk, rfl⟩ : ∃ wk : World, wk = w5 := ⟨_, rfl⟩
            clear p0 p1 p2 p3 p4 q0 q1 q2 q3 q4
            obtain ⟨p0, p1, p2, p3, p4⟩ := (HBU.out.below hW HBU.out.lt).cells5
            obtain ⟨q0, q1, q2, q3, q4⟩ := (HBM.out.below hW HBM.out.lt).cells5
            cases z2 with
            | true =>
              have EE : Hid (V = .error notR) := by show _ = _; rw [EM3.out, if_neg (by simp), if_pos rfl]
              clear EM3 HC1 HC2 HC3 HNO
              go_wp2_with fail
              refine bodyPost_ret (v := .tuple #[.slice none 0 0, .string ⟨#[110, 111, 116, 82, 101, 113, 117, 101, 115, 116]⟩]) (by simp [results, Try.results14, go_sem]) rfl ?_
              exact ReadP.err EE.out (HB4.out.trans (hW.mono HB4.out.size))
            | false =>
              have HNO2 := Lib.hid (HNO.out rfl)
              go_wp2_with fail
              refine (HC3.out _ hW).mono ?_; rintro e w5 ⟨rfl, hw5⟩
              replace hW := nextB hW hw5; clear hw5
              obtain ⟨wk, rfl⟩ : ∃ wk : World, wk = w5 := ⟨_, rfl⟩
              clear p0 p1 p2 p3 p4 q0 q1 q2 q3 q4
              obtain ⟨p0, p1, p2, p3, p4⟩ := (HBU.out.below hW HBU.out.lt).cells5
              obtain ⟨q0, q1, q2, q3, q4⟩ := (HBM.out.below hW HBM.out.lt).cells5
              cases z3 with
              | true =>
                have EE : Hid (V = .error unkC) := by show _ = _; rw [EM3.out, if_neg (by simp), if_neg (by simp), if_pos rfl]
                clear EM3 HC1 HC2 HC3 HNO
                go_wp2_with fail
                refine bodyPost_ret (v := .tuple #[.slice none 0 0, .string ⟨#[117, 110, 107, 110, 111, 119, 110, 67, 97, 112, 97, 98, 105, 108, 105, 116, 121]⟩]) (by simp [results, Try.results14, go_sem]) rfl ?_
                exact ReadP.err EE.out (HB4.out.trans (hW.mono HB4.out.size))
              | false =>
                have EM4 : Hid (V = if 16 < MM.kids.length then .error limS else .ok (MM.kids.map clOf)) := by show _ = _; rw [EM3.out, if_neg (by simp), if_neg (by simp), if_neg (by simp)]
                clear EM3 HC1 HC2 HC3 HNO t1 t2
                by_cases h16 : 16 < MM.kids.length
                · have EE : Hid (V = .error limS) := by show _ = _; rw [EM4.out, if_pos h16]
                  have h16i : decide ((16 : Int) < (MM.kids.length : Int)) = true := decide_eq_true (by omega)
                  clear EM4 h16
                  go_wp2_with fail
                  refine bodyPost_ret (v := .tuple #[.slice none 0 0, .string ⟨#[108, 105, 109, 105, 116]⟩]) (by simp [results, Try.results14, go_sem]) rfl ?_
                  exact ReadP.err EE.out (HB4.out.trans (hW.mono HB4.out.size))
                have EE : Hid (V = .ok (MM.kids.map clOf)) := by show _ = _; rw [EM4.out, if_neg h16]
                have h16i : decide ((16 : Int) < (MM.kids.length : Int)) = false := decide_eq_false (by omega)
                clear EM4
                have HK16 := Lib.hid h16
                clear p0 p1 p2 p3 p4 HBU h16
                have HI0 : Hid (CInv w4 MM 0 none 0 wk) := ⟨[], World.ownsRow_nil _ _ _ _, rfl, hW⟩
                clear hW
                go_wp2_with fail
                go_loopw [12, 63] (fun t12 t63 wr => ∃ (i : Nat) (Ao : Option Addr) (co : Nat), i ≤ MM.kids.length ∧ t63 = .int .i64 i ∧ t12 = .slice Ao i co ∧ Hid (CInv w4 MM i Ao co wr)) (fun _ t63 _ => MM.kids.length - (intOf t63).toNat)
                case atStart => exact ⟨0, none, 0, by omega, rfl, rfl, HI0⟩
                case round =>
                  clear HI0 q0 q1 q2 q3 q4
                  obtain ⟨i, Ao, co, hi, rfl, rfl, hI⟩ := hrel
                  obtain ⟨wo, rfl⟩ : ∃ wo : World, wo = wr := ⟨_, rfl⟩
                  by_cases hlt : i < MM.kids.length
                  · obtain ⟨xs, hown, hcls, hW⟩ := hI.out
                    have hsz := hW.size
                    have hkeep : ∀ p : Addr, p.block < w4.heap.size → wo.cell? p = w4.cell? p := fun p hp => hW.cell hp
                    obtain ⟨ad, nn, v0, v1, v2, v3, v4, hm6, hadb, hni, hnd, e0, e1, e2, e3, e4⟩ := (HRM.out.keep hkeep).nd (NdsIs.keep hkeep _ _ HNM.out) hlt
                    subst hm6
                    obtain ⟨y0, y1, y2, y3, y4, y5, y6, y7, y8, rfl, rfl, rfl, rfl, rfl⟩ := hnd.form
                    obtain ⟨na, nb, nc, hk3, -, -, -, -⟩ := kid3 (HNO2.out i nn hni)
                    obtain ⟨kb, ko, b0, b1, b2, b3, b4, b5, b6, b7, b8, rfl, rfl, hkb, hnb, f0, f1, f2, f3, f4, f5, f6⟩ := kids15 hnd hk3
                    have HKB := Lib.hid hkb
                    have HCL : Hid (clOf nn = ⟨na.text, nb, nc.text⟩) := by show _ = _; unfold clOf; rw [hk3]
                    have HTK := Lib.hid (map_take hni)
                    have HOW : Hid (wo.ownsRow w4.heap.size 45 7 (.slice Ao i co) i xs) := hown
                    have HOWL : Hid (∀ g, (Value.slice Ao i co).ownBlock = some g → w4.heap.size ≤ g ∧ g < wo.heap.size) := fun g hg => own_lt hown hg
                    have HCS := Lib.hid hcls
                    have HNB := Lib.hid hnb
                    have HWW := Lib.hid hW
                    have i0 : (0 : Int) ≤ (i : Int) := by omega
                    have i1 : (i : Int) < (MM.kids.length : Int) := by omega
                    have hi5 : i ≤ 16 := by have := HK16.out; omega
                    have hbw : ad.block < wo.heap.size := by omega
                    have hkw : kb < wo.heap.size := by omega
                    have S0 : Hid (KidC wo.heap.size kb ko y8 na.text nc.text b0 b1 b2 b3 b4 b5 b6 b7 b8 (wo.alloc (.cells #[.int .i64 y0, .int .i64 y1, .string y2, .slice y3 y4 y5, .slice (some ⟨kb, ko, none⟩) 3 y8] 27))) := KidC.start hkw f0 f1 f2 f3 f4 f5 f6
                    have hz : (wo.alloc (.cells #[.int .i64 y0, .int .i64 y1, .string y2, .slice y3 y4 y5, .slice (some ⟨kb, ko, none⟩) 3 y8] 27)).heap.size = wo.heap.size + 1 := by simp
                    have HZ := Lib.hid hz
                    have HZ2 : Hid (((wo.alloc (.cells #[.int .i64 y0, .int .i64 y1, .string y2, .slice y3 y4 y5, .slice (some ⟨kb, ko, none⟩) 3 y8] 27)).alloc (.cells #[.string na.text, .int .i64 b0, .int .i64 b1, .string b2, .slice b3 b4 b5, .slice b6 b7 b8, .string nc.text] 45)).drew.heap.size = wo.heap.size + 2) := by show ((wo.alloc (.cells #[.int .i64 y0, .int .i64 y1, .string y2, .slice y3 y4 y5, .slice (some ⟨kb, ko, none⟩) 3 y8] 27)).alloc (.cells #[.string na.text, .int .i64 b0, .int .i64 b1, .string b2, .slice b3 b4 b5, .slice b6 b7 b8, .string nc.text] 45)).heap.size = _; rw [World.size_alloc, hz]
                    have HS0 : Hid (KidC wo.heap.size kb ko y8 na.text nc.text b0 b1 b2 b3 b4 b5 b6 b7 b8 (wo.alloc (.cells #[.int .i64 y0, .int .i64 y1, .string y2, .slice y3 y4 y5, .slice (some ⟨kb, ko, none⟩) 3 y8] 27)).drew) := S0.out
                    have HS1 : Hid (KidC wo.heap.size kb ko y8 na.text nc.text b0 b1 b2 b3 b4 b5 b6 b7 b8 ((wo.alloc (.cells #[.int .i64 y0, .int .i64 y1, .string y2, .slice y3 y4 y5, .slice (some ⟨kb, ko, none⟩) 3 y8] 27)).alloc (.cells #[.string na.text, .int .i64 b0, .int .i64 b1, .string b2, .slice b3 b4 b5, .slice b6 b7 b8, .string nc.text] 45)).drew) := KidC.keep (fun p hp => World.cell?_alloc_lt _ _ _ hp) (by rw [HZ.out]; omega) (by rw [HZ.out]; omega) S0.out
                    have HS1b := HS1
                    clear hnd hni hk3 hown hcls hnb hW hI hkeep hkb hz
                    go_wp2_with fail
                    unfold KidC at HS0 HS1
                    go_region_held3 (fun w' => w'.cell? ⟨wo.heap.size, 4, none⟩ = some (.slice (some ⟨kb, ko, none⟩) 3 y8) ∧ w'.cell? ⟨kb, ko + 2, none⟩ = some (.string na.text) ∧ w'.cell? ⟨kb, ko + 5, none⟩ = some (.int .i64 b0) ∧ w'.cell? ⟨kb, ko + 6, none⟩ = some (.int .i64 b1) ∧ w'.cell? ⟨kb, ko + 7, none⟩ = some (.string b2) ∧ w'.cell? ⟨kb, ko + 8, none⟩ = some (.slice b3 b4 b5) ∧ w'.cell? ⟨kb, ko + 9, none⟩ = some (.slice b6 b7 b8) ∧ w'.cell? ⟨kb, ko + 12, none⟩ = some (.string nc.text)) (first | with_reducible exact HS0.out | with_reducible exact HS1.out | with_reducible exact HS2.out) (first
                      | (refine step_pushCl rfl _ _ rfl w4.heap.size (.slice Ao i co) i xs (by rfl) (show (((wo.alloc (.cells #[.int .i64 y0, .int .i64 y1, .string y2, .slice y3 y4 y5, .slice (some ⟨kb, ko, none⟩) 3 y8] 27)).alloc (.cells #[.string na.text, .int .i64 b0, .int .i64 b1, .string b2, .slice b3 b4 b5, .slice b6 b7 b8, .string nc.text] 45)).drew).ownsRow w4.heap.size 45 7 (.slice Ao i co) i xs from World.ownsRow.alloc (World.ownsRow.alloc HOW.out _) _) (wo.heap.size + 2) (some ⟨wo.heap.size + 1, 0, none⟩) 1 1 [.string na.text, .int .i64 b0, .int .i64 b1, .string b2, .slice b3 b4 b5, .slice b6 b7 b8, .string nc.text] (by have := reads7 (wo.alloc (.cells #[.int .i64 y0, .int .i64 y1, .string y2, .slice y3 y4 y5, .slice (some ⟨kb, ko, none⟩) 3 y8] 27)) (.string na.text) (.int .i64 b0) (.int .i64 b1) (.string b2) (.slice b3 b4 b5) (.slice b6 b7 b8) (.string nc.text); rw [HZ.out] at this; exact this) cells_one7 (by rfl) (by omega) (by rw [HZ2.out]; have := HWW.out.size; omega) ?_; intro v9 w9 p1 p2; obtain ⟨A9, c9, rfl⟩ := own_form p1; have P1 := Lib.hid p1; have P2 := Lib.hid p2; have HS2 := Lib.hid (KidC.keep_ (p2.block kb (by rw [HZ2.out]; omega) (fun e => by have := (HOWL.out _ e.symm).1; have := HKB.out; omega)) (p2.block wo.heap.size (by rw [HZ2.out]; omega) (fun e => by have := (HOWL.out _ e.symm).2; omega)) HS1b.out); unfold KidC at HS2; clear p1 p2))
                    go_wp2_with fail
                    go_roundw
                    case rel =>
                      refine ⟨i + 1, A9, c9, by omega, by go_num, rfl, xs ++ [.string na.text, .int .i64 b0, .int .i64 b1, .string b2, .slice b3 b4 b5, .slice b6 b7 b8, .string nc.text], P1.out, ?_, ?_⟩
                      · rw [HTK.out, HCL.out]
                        have hk9 : ∀ p : Addr, p.block < w4.heap.size → w9.cell? p = wo.cell? p := fun p hp => (World.cell?_of_block (P2.out.block p.block (by rw [HZ2.out]; have := HWW.out.size; omega) (fun e => by have := (HOWL.out _ e.symm).1; omega))).trans ((World.cell?_alloc_lt _ _ _ (by simp; have := HWW.out.size; omega)).trans (World.cell?_alloc_lt _ _ _ (by have := HWW.out.size; omega)))
                        exact ClsIs.snoc (NdIs.keep hk9 _ _ HNB.out) _ _ (ClsIs.keep hk9 _ _ HCS.out)
                      · refine HWW.out.trans ?_
                        have hb0 : Below w4.heap.size wo (((wo.alloc (.cells #[.int .i64 y0, .int .i64 y1, .string y2, .slice y3 y4 y5, .slice (some ⟨kb, ko, none⟩) 3 y8] 27)).alloc (.cells #[.string na.text, .int .i64 b0, .int .i64 b1, .string b2, .slice b3 b4 b5, .slice b6 b7 b8, .string nc.text] 45)).drew) := (((Below.refl _ _).alloc HWW.out.size _).alloc (by simp; have := HWW.out.size; omega) _).drew
                        exact hb0.grown P2.out (by rw [HZ2.out]; have := HWW.out.size; omega) (fun g hg => (HOWL.out _ hg).1)
                    case measure => simp [intOf]; omega
                  · obtain rfl : i = MM.kids.length := by omega
                    obtain ⟨xs, hown, hcls, hW⟩ := hI.out
                    have HOW := Lib.hid hown
                    have HWW := Lib.hid hW
                    have HCS : Hid (ClsIs wo wo.heap.size (MM.kids.map clOf) xs) := by
                      rw [List.take_length] at hcls
                      exact ClsIs.more hW.size _ _ hcls
                    have i1 : ¬ (MM.kids.length : Int) < (MM.kids.length : Int) := by omega
                    clear hown hcls hW hI
                    go_wp2_with fail
                    refine bodyPost_ret (v := .tuple #[.slice Ao MM.kids.length co, .string ⟨#[]⟩]) (by simp [results, Try.results14, go_sem]) rfl ?_
                    have e1 : (okL V).length = MM.kids.length := by rw [EE.out]; show (MM.kids.map clOf).length = _; rw [List.length_map]
                    have e2 : errS V = ⟨#[]⟩ := by rw [EE.out]; rfl
                    have e3 : okL V = MM.kids.map clOf := by rw [EE.out]; rfl
                    refine ⟨Ao, co, xs, by rw [e1, e2], by rw [e1]; exact own_reads HOW.out, by rw [e3]; exact HCS.out, HB4.out.trans (HWW.out.mono HB4.out.size)⟩
end Go.Proofs.Ytnhoecmcbikcnaa
/-! Plain: reading texts that stand there letter by letter. -/
namespace Go.Proofs.Ytnhoecmcbikcnaa
open Go.RowKit Go.PlainAid
set_option linter.unusedVariables false
set_option linter.unusedSimpArgs false
theorem decL_asc {c : UInt8} (r : List UInt8) (h : c.toNat < 128) : decL (c :: r) = some ((c.toNat : Int), 1) := by
  have hp : putN (c.toNat : Int) = [(c.toNat : Int)] := by
    unfold putN
    rw [if_neg (by omega), if_pos (by omega)]
  have hb : putB (c.toNat : Int) = [c] := by
    rw [putB_of hp]
    simp
  have := decW_put sizeN (fun c => .inl rfl) (c.toNat : Int) r (by rw [hb]; simp)
  rw [hb] at this
  exact this
theorem textT_asc {c : UInt8} (r acc : List UInt8) (h0 : 32 ≤ c.toNat) (h : c.toNat < 128) (h34 : c ≠ 34) (h92 : c ≠ 92) : textT (c :: r) acc = textT r (acc ++ [c]) := by
  rw [textT_cons, if_neg (by rw [UInt8.lt_iff_toNat_lt]; have e : ((32 : UInt8).toNat) = 32 := rfl; omega), if_neg h34, if_neg h92, decL_asc r h]
  rfl
theorem textT_end (r acc : List UInt8) : textT (34 :: r) acc = some (acc, r) := by
  rw [textT_cons, if_neg (by decide), if_pos rfl]
theorem valL_123 (d : Nat) (r : List UInt8) (hd : d < 24) : valL d (123 :: r) = if (blanksL r).head? = some 125 then .ok (.mk 7 0 ⟨#[]⟩ [] [], (blanksL r).tail) else objL d (blanksL r) [] [] := by
  rw [valL_obj d _ rfl (by omega)]; rfl
theorem valL_91 (d : Nat) (r : List UInt8) (hd : d < 24) : valL d (91 :: r) = if (blanksL r).head? = some 93 then .ok (.mk 6 0 ⟨#[]⟩ [] [], (blanksL r).tail) else arrL d (blanksL r) [] := by
  rw [valL_arr d _ rfl (by omega)]; rfl
theorem valL_34 (d : Nat) (r : List UInt8) : valL d (34 :: r) = match textT r [] with
    | none => .error 3
    | some (t, r) => .ok (.mk 5 0 ⟨t.toArray⟩ [] [], r) := by
  rw [valL_str d _ rfl]
  have e : textL (34 :: r) = textT r [] := by unfold textL; simp
  rw [e]
  cases textT r [] <;> rfl
theorem valL_49 (d : Nat) (r : List UInt8) (h : digH r = false) (h2 : pointB r = false) : valL d (49 :: r) = .ok (.mk 4 1 ⟨#[]⟩ [] [], r) := by
  rw [valL_num d _ 49 rfl (.inr (by decide))]
  have hn : numL (49 :: r) = some (1, r) := by
    unfold numL
    rw [if_neg (by simp)]
    obtain ⟨e1, e2⟩ := takeW_none h
    have h49 : digB 49 = true := by decide
    unfold numTail
    rw [List.takeWhile_cons, List.dropWhile_cons, h49, if_pos rfl, if_pos rfl, e1, e2, h2]
    simp [valD]
  rw [hn]
theorem textL_34 (r : List UInt8) : textL (34 :: r) = textT r [] := by unfold textL; simp
theorem blank_cons (c : UInt8) (r : List UInt8) (h : blankB c = false) : blanksL (c :: r) = c :: r := by unfold blanksL; rw [List.dropWhile_cons, h]; rfl
theorem blank_nil : blanksL [] = [] := rfl
theorem tst1 : parseL [123, 125] = .ok (.mk 7 0 ⟨#[]⟩ [] []) := by
  simp [parseL, valL_123, blank_cons, blank_nil, blankB]
theorem tst2 : parseL [123, 34, 117, 34, 58, 91, 93, 125] = .ok (.mk 7 0 ⟨#[]⟩ [⟨#[117]⟩] [.mk 6 0 ⟨#[]⟩ [] []]) := by
  simp [parseL, valL_123, valL_91, arrL_eq, objL_eq, blank_cons, blank_nil, blankB, textL_34, textT_asc, textT_end]
theorem tst3 : parseL [91, 49, 93, 120] = .error 3 := by
  simp [parseL, valL_123, valL_91, valL_49, digH, digB, pointB, arrL_eq, objL_eq, blank_cons, blank_nil, blankB, textL_34, textT_asc, textT_end]
end Go.Proofs.Ytnhoecmcbikcnaa
/-! Plain: the fixed requests of CallBad and of the document's example. -/
namespace Go.Proofs.Ytnhoecmcbikcnaa
open Go.RowKit Go.PlainAid
set_option linter.unusedVariables false
set_option linter.unusedSimpArgs false
set_option maxRecDepth 10000
theorem reqA_p : parseL [123, 34, 117, 115, 105, 110, 103, 34, 58, 91, 93, 44, 34, 109, 101, 116, 104, 111, 100, 67, 97, 108, 108, 115, 34, 58, 91, 93, 125] = .ok (.mk 7 0 ⟨#[]⟩ [⟨#[117, 115, 105, 110, 103]⟩, ⟨#[109, 101, 116, 104, 111, 100, 67, 97, 108, 108, 115]⟩] [(.mk 6 0 ⟨#[]⟩ [] []), (.mk 6 0 ⟨#[]⟩ [] [])]) := by simp [parseL, valL_49 0 [] rfl rfl, valL_123, valL_91, valL_34, valL_49, digH, digB, pointB, arrL_eq, objL_eq, blank_cons, blank_nil, blankB, textL_34, textT_asc, textT_end, lit_toList]
theorem reqA_r : readL [123, 34, 117, 115, 105, 110, 103, 34, 58, 91, 93, 44, 34, 109, 101, 116, 104, 111, 100, 67, 97, 108, 108, 115, 34, 58, 91, 93, 125] = .ok [] := by
  rw [readL_ok reqA_p]
  simp [readN, findN, idxK, List.findIdx?_cons, usingS, callsS, Nd.kind, Nd.kids, Nd.text, oddN, noneN, unkN, kindsK, eqK, clOf, lit_toList]
theorem req0_p : parseL [91, 93] = .ok (.mk 6 0 ⟨#[]⟩ [] []) := by simp [parseL, valL_49 0 [] rfl rfl, valL_123, valL_91, valL_34, valL_49, digH, digB, pointB, arrL_eq, objL_eq, blank_cons, blank_nil, blankB, textL_34, textT_asc, textT_end, lit_toList]
theorem req0_r : readL [91, 93] = .error notR := by
  rw [readL_ok req0_p]
  simp [readN, findN, idxK, List.findIdx?_cons, usingS, callsS, Nd.kind, Nd.kids, Nd.text, oddN, noneN, unkN, kindsK, eqK, clOf, lit_toList]
theorem req0_x : readL [91, 93, 120] = .error notJ := by
  refine readL_err (c := 3) ?_
  simp [parseL, valL_49 0 [] rfl rfl, valL_123, valL_91, valL_34, valL_49, digH, digB, pointB, arrL_eq, objL_eq, blank_cons, blank_nil, blankB, textL_34, textT_asc, textT_end, lit_toList]
theorem req1_p : parseL [123, 125] = .ok (.mk 7 0 ⟨#[]⟩ [] []) := by simp [parseL, valL_49 0 [] rfl rfl, valL_123, valL_91, valL_34, valL_49, digH, digB, pointB, arrL_eq, objL_eq, blank_cons, blank_nil, blankB, textL_34, textT_asc, textT_end, lit_toList]
theorem req1_r : readL [123, 125] = .error notR := by
  rw [readL_ok req1_p]
  simp [readN, findN, idxK, List.findIdx?_cons, usingS, callsS, Nd.kind, Nd.kids, Nd.text, oddN, noneN, unkN, kindsK, eqK, clOf, lit_toList]
theorem req1_x : readL [123, 125, 120] = .error notJ := by
  refine readL_err (c := 3) ?_
  simp [parseL, valL_49 0 [] rfl rfl, valL_123, valL_91, valL_34, valL_49, digH, digB, pointB, arrL_eq, objL_eq, blank_cons, blank_nil, blankB, textL_34, textT_asc, textT_end, lit_toList]
theorem req2_p : parseL [123, 34, 117, 115, 105, 110, 103, 34, 58, 91, 93, 125] = .ok (.mk 7 0 ⟨#[]⟩ [⟨#[117, 115, 105, 110, 103]⟩] [(.mk 6 0 ⟨#[]⟩ [] [])]) := by simp [parseL, valL_49 0 [] rfl rfl, valL_123, valL_91, valL_34, valL_49, digH, digB, pointB, arrL_eq, objL_eq, blank_cons, blank_nil, blankB, textL_34, textT_asc, textT_end, lit_toList]
theorem req2_r : readL [123, 34, 117, 115, 105, 110, 103, 34, 58, 91, 93, 125] = .error notR := by
  rw [readL_ok req2_p]
  simp [readN, findN, idxK, List.findIdx?_cons, usingS, callsS, Nd.kind, Nd.kids, Nd.text, oddN, noneN, unkN, kindsK, eqK, clOf, lit_toList]
theorem req2_x : readL [123, 34, 117, 115, 105, 110, 103, 34, 58, 91, 93, 125, 120] = .error notJ := by
  refine readL_err (c := 3) ?_
  simp [parseL, valL_49 0 [] rfl rfl, valL_123, valL_91, valL_34, valL_49, digH, digB, pointB, arrL_eq, objL_eq, blank_cons, blank_nil, blankB, textL_34, textT_asc, textT_end, lit_toList]
theorem req3_p : parseL [123, 34, 109, 101, 116, 104, 111, 100, 67, 97, 108, 108, 115, 34, 58, 91, 93, 125] = .ok (.mk 7 0 ⟨#[]⟩ [⟨#[109, 101, 116, 104, 111, 100, 67, 97, 108, 108, 115]⟩] [(.mk 6 0 ⟨#[]⟩ [] [])]) := by simp [parseL, valL_49 0 [] rfl rfl, valL_123, valL_91, valL_34, valL_49, digH, digB, pointB, arrL_eq, objL_eq, blank_cons, blank_nil, blankB, textL_34, textT_asc, textT_end, lit_toList]
theorem req3_r : readL [123, 34, 109, 101, 116, 104, 111, 100, 67, 97, 108, 108, 115, 34, 58, 91, 93, 125] = .error notR := by
  rw [readL_ok req3_p]
  simp [readN, findN, idxK, List.findIdx?_cons, usingS, callsS, Nd.kind, Nd.kids, Nd.text, oddN, noneN, unkN, kindsK, eqK, clOf, lit_toList]
theorem req3_x : readL [123, 34, 109, 101, 116, 104, 111, 100, 67, 97, 108, 108, 115, 34, 58, 91, 93, 125, 120] = .error notJ := by
  refine readL_err (c := 3) ?_
  simp [parseL, valL_49 0 [] rfl rfl, valL_123, valL_91, valL_34, valL_49, digH, digB, pointB, arrL_eq, objL_eq, blank_cons, blank_nil, blankB, textL_34, textT_asc, textT_end, lit_toList]
theorem req4_p : parseL [123, 34, 117, 115, 105, 110, 103, 34, 58, 123, 125, 44, 34, 109, 101, 116, 104, 111, 100, 67, 97, 108, 108, 115, 34, 58, 91, 93, 125] = .ok (.mk 7 0 ⟨#[]⟩ [⟨#[117, 115, 105, 110, 103]⟩, ⟨#[109, 101, 116, 104, 111, 100, 67, 97, 108, 108, 115]⟩] [(.mk 7 0 ⟨#[]⟩ [] []), (.mk 6 0 ⟨#[]⟩ [] [])]) := by simp [parseL, valL_49 0 [] rfl rfl, valL_123, valL_91, valL_34, valL_49, digH, digB, pointB, arrL_eq, objL_eq, blank_cons, blank_nil, blankB, textL_34, textT_asc, textT_end, lit_toList]
theorem req4_r : readL [123, 34, 117, 115, 105, 110, 103, 34, 58, 123, 125, 44, 34, 109, 101, 116, 104, 111, 100, 67, 97, 108, 108, 115, 34, 58, 91, 93, 125] = .error notR := by
  rw [readL_ok req4_p]
  simp [readN, findN, idxK, List.findIdx?_cons, usingS, callsS, Nd.kind, Nd.kids, Nd.text, oddN, noneN, unkN, kindsK, eqK, clOf, lit_toList]
theorem req4_x : readL [123, 34, 117, 115, 105, 110, 103, 34, 58, 123, 125, 44, 34, 109, 101, 116, 104, 111, 100, 67, 97, 108, 108, 115, 34, 58, 91, 93, 125, 120] = .error notJ := by
  refine readL_err (c := 3) ?_
  simp [parseL, valL_49 0 [] rfl rfl, valL_123, valL_91, valL_34, valL_49, digH, digB, pointB, arrL_eq, objL_eq, blank_cons, blank_nil, blankB, textL_34, textT_asc, textT_end, lit_toList]
theorem req5_p : parseL [123, 34, 117, 115, 105, 110, 103, 34, 58, 91, 49, 93, 44, 34, 109, 101, 116, 104, 111, 100, 67, 97, 108, 108, 115, 34, 58, 91, 93, 125] = .ok (.mk 7 0 ⟨#[]⟩ [⟨#[117, 115, 105, 110, 103]⟩, ⟨#[109, 101, 116, 104, 111, 100, 67, 97, 108, 108, 115]⟩] [(.mk 6 0 ⟨#[]⟩ [] [(.mk 4 1 ⟨#[]⟩ [] [])]), (.mk 6 0 ⟨#[]⟩ [] [])]) := by simp [parseL, valL_49 0 [] rfl rfl, valL_123, valL_91, valL_34, valL_49, digH, digB, pointB, arrL_eq, objL_eq, blank_cons, blank_nil, blankB, textL_34, textT_asc, textT_end, lit_toList]
theorem req5_r : readL [123, 34, 117, 115, 105, 110, 103, 34, 58, 91, 49, 93, 44, 34, 109, 101, 116, 104, 111, 100, 67, 97, 108, 108, 115, 34, 58, 91, 93, 125] = .error notR := by
  rw [readL_ok req5_p]
  simp [readN, findN, idxK, List.findIdx?_cons, usingS, callsS, Nd.kind, Nd.kids, Nd.text, oddN, noneN, unkN, kindsK, eqK, clOf, lit_toList]
theorem req5_x : readL [123, 34, 117, 115, 105, 110, 103, 34, 58, 91, 49, 93, 44, 34, 109, 101, 116, 104, 111, 100, 67, 97, 108, 108, 115, 34, 58, 91, 93, 125, 120] = .error notJ := by
  refine readL_err (c := 3) ?_
  simp [parseL, valL_49 0 [] rfl rfl, valL_123, valL_91, valL_34, valL_49, digH, digB, pointB, arrL_eq, objL_eq, blank_cons, blank_nil, blankB, textL_34, textT_asc, textT_end, lit_toList]
theorem req6_p : parseL [123, 34, 117, 115, 105, 110, 103, 34, 58, 91, 93, 44, 34, 109, 101, 116, 104, 111, 100, 67, 97, 108, 108, 115, 34, 58, 123, 125, 125] = .ok (.mk 7 0 ⟨#[]⟩ [⟨#[117, 115, 105, 110, 103]⟩, ⟨#[109, 101, 116, 104, 111, 100, 67, 97, 108, 108, 115]⟩] [(.mk 6 0 ⟨#[]⟩ [] []), (.mk 7 0 ⟨#[]⟩ [] [])]) := by simp [parseL, valL_49 0 [] rfl rfl, valL_123, valL_91, valL_34, valL_49, digH, digB, pointB, arrL_eq, objL_eq, blank_cons, blank_nil, blankB, textL_34, textT_asc, textT_end, lit_toList]
theorem req6_r : readL [123, 34, 117, 115, 105, 110, 103, 34, 58, 91, 93, 44, 34, 109, 101, 116, 104, 111, 100, 67, 97, 108, 108, 115, 34, 58, 123, 125, 125] = .error notR := by
  rw [readL_ok req6_p]
  simp [readN, findN, idxK, List.findIdx?_cons, usingS, callsS, Nd.kind, Nd.kids, Nd.text, oddN, noneN, unkN, kindsK, eqK, clOf, lit_toList]
theorem req6_x : readL [123, 34, 117, 115, 105, 110, 103, 34, 58, 91, 93, 44, 34, 109, 101, 116, 104, 111, 100, 67, 97, 108, 108, 115, 34, 58, 123, 125, 125, 120] = .error notJ := by
  refine readL_err (c := 3) ?_
  simp [parseL, valL_49 0 [] rfl rfl, valL_123, valL_91, valL_34, valL_49, digH, digB, pointB, arrL_eq, objL_eq, blank_cons, blank_nil, blankB, textL_34, textT_asc, textT_end, lit_toList]
theorem req7_p : parseL [123, 34, 117, 115, 105, 110, 103, 34, 58, 91, 93, 44, 34, 109, 101, 116, 104, 111, 100, 67, 97, 108, 108, 115, 34, 58, 91, 123, 125, 93, 125] = .ok (.mk 7 0 ⟨#[]⟩ [⟨#[117, 115, 105, 110, 103]⟩, ⟨#[109, 101, 116, 104, 111, 100, 67, 97, 108, 108, 115]⟩] [(.mk 6 0 ⟨#[]⟩ [] []), (.mk 6 0 ⟨#[]⟩ [] [(.mk 7 0 ⟨#[]⟩ [] [])])]) := by simp [parseL, valL_49 0 [] rfl rfl, valL_123, valL_91, valL_34, valL_49, digH, digB, pointB, arrL_eq, objL_eq, blank_cons, blank_nil, blankB, textL_34, textT_asc, textT_end, lit_toList]
theorem req7_r : readL [123, 34, 117, 115, 105, 110, 103, 34, 58, 91, 93, 44, 34, 109, 101, 116, 104, 111, 100, 67, 97, 108, 108, 115, 34, 58, 91, 123, 125, 93, 125] = .error notR := by
  rw [readL_ok req7_p]
  simp [readN, findN, idxK, List.findIdx?_cons, usingS, callsS, Nd.kind, Nd.kids, Nd.text, oddN, noneN, unkN, kindsK, eqK, clOf, lit_toList]
theorem req7_x : readL [123, 34, 117, 115, 105, 110, 103, 34, 58, 91, 93, 44, 34, 109, 101, 116, 104, 111, 100, 67, 97, 108, 108, 115, 34, 58, 91, 123, 125, 93, 125, 120] = .error notJ := by
  refine readL_err (c := 3) ?_
  simp [parseL, valL_49 0 [] rfl rfl, valL_123, valL_91, valL_34, valL_49, digH, digB, pointB, arrL_eq, objL_eq, blank_cons, blank_nil, blankB, textL_34, textT_asc, textT_end, lit_toList]
theorem req8_p : parseL [123, 34, 117, 115, 105, 110, 103, 34, 58, 91, 93, 44, 34, 109, 101, 116, 104, 111, 100, 67, 97, 108, 108, 115, 34, 58, 91, 91, 34, 97, 34, 44, 123, 125, 93, 93, 125] = .ok (.mk 7 0 ⟨#[]⟩ [⟨#[117, 115, 105, 110, 103]⟩, ⟨#[109, 101, 116, 104, 111, 100, 67, 97, 108, 108, 115]⟩] [(.mk 6 0 ⟨#[]⟩ [] []), (.mk 6 0 ⟨#[]⟩ [] [(.mk 6 0 ⟨#[]⟩ [] [(.mk 5 0 ⟨#[97]⟩ [] []), (.mk 7 0 ⟨#[]⟩ [] [])])])]) := by simp [parseL, valL_49 0 [] rfl rfl, valL_123, valL_91, valL_34, valL_49, digH, digB, pointB, arrL_eq, objL_eq, blank_cons, blank_nil, blankB, textL_34, textT_asc, textT_end, lit_toList]
theorem req8_r : readL [123, 34, 117, 115, 105, 110, 103, 34, 58, 91, 93, 44, 34, 109, 101, 116, 104, 111, 100, 67, 97, 108, 108, 115, 34, 58, 91, 91, 34, 97, 34, 44, 123, 125, 93, 93, 125] = .error notR := by
  rw [readL_ok req8_p]
  simp [readN, findN, idxK, List.findIdx?_cons, usingS, callsS, Nd.kind, Nd.kids, Nd.text, oddN, noneN, unkN, kindsK, eqK, clOf, lit_toList]
theorem req8_x : readL [123, 34, 117, 115, 105, 110, 103, 34, 58, 91, 93, 44, 34, 109, 101, 116, 104, 111, 100, 67, 97, 108, 108, 115, 34, 58, 91, 91, 34, 97, 34, 44, 123, 125, 93, 93, 125, 120] = .error notJ := by
  refine readL_err (c := 3) ?_
  simp [parseL, valL_49 0 [] rfl rfl, valL_123, valL_91, valL_34, valL_49, digH, digB, pointB, arrL_eq, objL_eq, blank_cons, blank_nil, blankB, textL_34, textT_asc, textT_end, lit_toList]
theorem req9_p : parseL [123, 34, 117, 115, 105, 110, 103, 34, 58, 91, 93, 44, 34, 109, 101, 116, 104, 111, 100, 67, 97, 108, 108, 115, 34, 58, 91, 91, 34, 97, 34, 44, 91, 93, 44, 34, 98, 34, 93, 93, 125] = .ok (.mk 7 0 ⟨#[]⟩ [⟨#[117, 115, 105, 110, 103]⟩, ⟨#[109, 101, 116, 104, 111, 100, 67, 97, 108, 108, 115]⟩] [(.mk 6 0 ⟨#[]⟩ [] []), (.mk 6 0 ⟨#[]⟩ [] [(.mk 6 0 ⟨#[]⟩ [] [(.mk 5 0 ⟨#[97]⟩ [] []), (.mk 6 0 ⟨#[]⟩ [] []), (.mk 5 0 ⟨#[98]⟩ [] [])])])]) := by simp [parseL, valL_49 0 [] rfl rfl, valL_123, valL_91, valL_34, valL_49, digH, digB, pointB, arrL_eq, objL_eq, blank_cons, blank_nil, blankB, textL_34, textT_asc, textT_end, lit_toList]
theorem req9_r : readL [123, 34, 117, 115, 105, 110, 103, 34, 58, 91, 93, 44, 34, 109, 101, 116, 104, 111, 100, 67, 97, 108, 108, 115, 34, 58, 91, 91, 34, 97, 34, 44, 91, 93, 44, 34, 98, 34, 93, 93, 125] = .error notR := by
  rw [readL_ok req9_p]
  simp [readN, findN, idxK, List.findIdx?_cons, usingS, callsS, Nd.kind, Nd.kids, Nd.text, oddN, noneN, unkN, kindsK, eqK, clOf, lit_toList]
theorem req9_x : readL [123, 34, 117, 115, 105, 110, 103, 34, 58, 91, 93, 44, 34, 109, 101, 116, 104, 111, 100, 67, 97, 108, 108, 115, 34, 58, 91, 91, 34, 97, 34, 44, 91, 93, 44, 34, 98, 34, 93, 93, 125, 120] = .error notJ := by
  refine readL_err (c := 3) ?_
  simp [parseL, valL_49 0 [] rfl rfl, valL_123, valL_91, valL_34, valL_49, digH, digB, pointB, arrL_eq, objL_eq, blank_cons, blank_nil, blankB, textL_34, textT_asc, textT_end, lit_toList]
theorem req10_p : parseL [123, 34, 117, 115, 105, 110, 103, 34, 58, 91, 93, 44, 34, 109, 101, 116, 104, 111, 100, 67, 97, 108, 108, 115, 34, 58, 91, 91, 49, 44, 123, 125, 44, 34, 98, 34, 93, 93, 125] = .ok (.mk 7 0 ⟨#[]⟩ [⟨#[117, 115, 105, 110, 103]⟩, ⟨#[109, 101, 116, 104, 111, 100, 67, 97, 108, 108, 115]⟩] [(.mk 6 0 ⟨#[]⟩ [] []), (.mk 6 0 ⟨#[]⟩ [] [(.mk 6 0 ⟨#[]⟩ [] [(.mk 4 1 ⟨#[]⟩ [] []), (.mk 7 0 ⟨#[]⟩ [] []), (.mk 5 0 ⟨#[98]⟩ [] [])])])]) := by simp [parseL, valL_49 0 [] rfl rfl, valL_123, valL_91, valL_34, valL_49, digH, digB, pointB, arrL_eq, objL_eq, blank_cons, blank_nil, blankB, textL_34, textT_asc, textT_end, lit_toList]
theorem req10_r : readL [123, 34, 117, 115, 105, 110, 103, 34, 58, 91, 93, 44, 34, 109, 101, 116, 104, 111, 100, 67, 97, 108, 108, 115, 34, 58, 91, 91, 49, 44, 123, 125, 44, 34, 98, 34, 93, 93, 125] = .error notR := by
  rw [readL_ok req10_p]
  simp [readN, findN, idxK, List.findIdx?_cons, usingS, callsS, Nd.kind, Nd.kids, Nd.text, oddN, noneN, unkN, kindsK, eqK, clOf, lit_toList]
theorem req10_x : readL [123, 34, 117, 115, 105, 110, 103, 34, 58, 91, 93, 44, 34, 109, 101, 116, 104, 111, 100, 67, 97, 108, 108, 115, 34, 58, 91, 91, 49, 44, 123, 125, 44, 34, 98, 34, 93, 93, 125, 120] = .error notJ := by
  refine readL_err (c := 3) ?_
  simp [parseL, valL_49 0 [] rfl rfl, valL_123, valL_91, valL_34, valL_49, digH, digB, pointB, arrL_eq, objL_eq, blank_cons, blank_nil, blankB, textL_34, textT_asc, textT_end, lit_toList]
theorem req11_p : parseL [49] = .ok (.mk 4 1 ⟨#[]⟩ [] []) := by simp [parseL, valL_49 0 [] rfl rfl, valL_123, valL_91, valL_34, valL_49, digH, digB, pointB, arrL_eq, objL_eq, blank_cons, blank_nil, blankB, textL_34, textT_asc, textT_end, lit_toList]
theorem req11_r : readL [49] = .error notR := by
  rw [readL_ok req11_p]
  simp [readN, findN, idxK, List.findIdx?_cons, usingS, callsS, Nd.kind, Nd.kids, Nd.text, oddN, noneN, unkN, kindsK, eqK, clOf, lit_toList]
theorem req11_x : readL [49, 120] = .error notJ := by
  refine readL_err (c := 3) ?_
  simp [parseL, valL_49 0 [] rfl rfl, valL_123, valL_91, valL_34, valL_49, digH, digB, pointB, arrL_eq, objL_eq, blank_cons, blank_nil, blankB, textL_34, textT_asc, textT_end, lit_toList]
def reqs : List ByteArray := [⟨#[91, 93]⟩, ⟨#[123, 125]⟩, ⟨#[123, 34, 117, 115, 105, 110, 103, 34, 58, 91, 93, 125]⟩, ⟨#[123, 34, 109, 101, 116, 104, 111, 100, 67, 97, 108, 108, 115, 34, 58, 91, 93, 125]⟩, ⟨#[123, 34, 117, 115, 105, 110, 103, 34, 58, 123, 125, 44, 34, 109, 101, 116, 104, 111, 100, 67, 97, 108, 108, 115, 34, 58, 91, 93, 125]⟩, ⟨#[123, 34, 117, 115, 105, 110, 103, 34, 58, 91, 49, 93, 44, 34, 109, 101, 116, 104, 111, 100, 67, 97, 108, 108, 115, 34, 58, 91, 93, 125]⟩, ⟨#[123, 34, 117, 115, 105, 110, 103, 34, 58, 91, 93, 44, 34, 109, 101, 116, 104, 111, 100, 67, 97, 108, 108, 115, 34, 58, 123, 125, 125]⟩, ⟨#[123, 34, 117, 115, 105, 110, 103, 34, 58, 91, 93, 44, 34, 109, 101, 116, 104, 111, 100, 67, 97, 108, 108, 115, 34, 58, 91, 123, 125, 93, 125]⟩, ⟨#[123, 34, 117, 115, 105, 110, 103, 34, 58, 91, 93, 44, 34, 109, 101, 116, 104, 111, 100, 67, 97, 108, 108, 115, 34, 58, 91, 91, 34, 97, 34, 44, 123, 125, 93, 93, 125]⟩, ⟨#[123, 34, 117, 115, 105, 110, 103, 34, 58, 91, 93, 44, 34, 109, 101, 116, 104, 111, 100, 67, 97, 108, 108, 115, 34, 58, 91, 91, 34, 97, 34, 44, 91, 93, 44, 34, 98, 34, 93, 93, 125]⟩, ⟨#[123, 34, 117, 115, 105, 110, 103, 34, 58, 91, 93, 44, 34, 109, 101, 116, 104, 111, 100, 67, 97, 108, 108, 115, 34, 58, 91, 91, 49, 44, 123, 125, 44, 34, 98, 34, 93, 93, 125]⟩, ⟨#[49]⟩]
theorem reqs_bad : ∀ s ∈ reqs, readL s.toList = .error notR ∧ readL (s ++ (⟨#[120]⟩ : ByteArray)).toList = .error notJ := by
  intro s hs
  unfold reqs at hs
  simp only [List.mem_cons, List.not_mem_nil, or_false] at hs
  rcases hs with rfl | rfl | rfl | rfl | rfl | rfl | rfl | rfl | rfl | rfl | rfl | rfl
  · exact ⟨by rw [lit_toList]; exact req0_r, by rw [app_toList, lit_toList, lit_toList]; exact req0_x⟩
  · exact ⟨by rw [lit_toList]; exact req1_r, by rw [app_toList, lit_toList, lit_toList]; exact req1_x⟩
  · exact ⟨by rw [lit_toList]; exact req2_r, by rw [app_toList, lit_toList, lit_toList]; exact req2_x⟩
  · exact ⟨by rw [lit_toList]; exact req3_r, by rw [app_toList, lit_toList, lit_toList]; exact req3_x⟩
  · exact ⟨by rw [lit_toList]; exact req4_r, by rw [app_toList, lit_toList, lit_toList]; exact req4_x⟩
  · exact ⟨by rw [lit_toList]; exact req5_r, by rw [app_toList, lit_toList, lit_toList]; exact req5_x⟩
  · exact ⟨by rw [lit_toList]; exact req6_r, by rw [app_toList, lit_toList, lit_toList]; exact req6_x⟩
  · exact ⟨by rw [lit_toList]; exact req7_r, by rw [app_toList, lit_toList, lit_toList]; exact req7_x⟩
  · exact ⟨by rw [lit_toList]; exact req8_r, by rw [app_toList, lit_toList, lit_toList]; exact req8_x⟩
  · exact ⟨by rw [lit_toList]; exact req9_r, by rw [app_toList, lit_toList, lit_toList]; exact req9_x⟩
  · exact ⟨by rw [lit_toList]; exact req10_r, by rw [app_toList, lit_toList, lit_toList]; exact req10_x⟩
  · exact ⟨by rw [lit_toList]; exact req11_r, by rw [app_toList, lit_toList, lit_toList]; exact req11_x⟩
end Go.Proofs.Ytnhoecmcbikcnaa
/-! The document's example of calls holds; CallBad. -/
namespace Go.Proofs.Ytnhoecmcbikcnaa
open Go.RowKit Go.PlainAid
set_option linter.unusedVariables false
set_option linter.unusedSimpArgs false
theorem kRead_any (s : ByteArray) (A : Option Addr) (c : Nat) (w : World) (h : BytesAt w A c s) : Calls Try.prog 14 #[.slice A s.size c] w (ReadP (readL s.toList) w) := by
  cases hr : parseL s.toList with
  | error ec => exact kRead_bad s A c w ec h hr
  | ok n => exact kRead_ok s A c w n h hr
theorem ReadP.bad {s : ByteArray} {r : Except ByteArray (List Cl)} {w : World} {e : Ending} {w' : World} (hr : r = .error s) (h : ReadP r w e w') : ∃ (A : Option Addr) (c : Nat), e = .returned (.tuple #[.slice A 0 c, .string s]) ∧ Below w.heap.size w w' := by
  subst hr
  obtain ⟨A, c, xs, he, _, _, hb⟩ := h
  exact ⟨A, c, he, hb⟩
theorem ReadP.none_ {r : Except ByteArray (List Cl)} {w : World} {e : Ending} {w' : World} (hr : r = .ok []) (h : ReadP r w e w') : ∃ (A : Option Addr) (c : Nat), e = .returned (.tuple #[.slice A 0 c, .string ⟨#[]⟩]) ∧ Below w.heap.size w w' := by
  subst hr
  obtain ⟨A, c, xs, he, _, _, hb⟩ := h
  exact ⟨A, c, he, hb⟩
theorem cells_at (w : World) (C : List Value) (fr : Nat × Nat) (s : ByteArray) (hn : C.length = s.size) (h : ∀ i, i < s.size → C[i]? = some (.int .u8 (bt s i))) : BytesAt (w.alloc (.cells C.toArray 5 fr)) (some ⟨w.heap.size, 0, none⟩) s.size s := by
  refine BytesAt.of_cells (fun _ => by simp) (fun i hi => ?_)
  rw [World.cell?_alloc_mark, Nat.zero_add]
  simpa using h i hi
set_option maxRecDepth 100000 in
set_option maxHeartbeats 2000000 in
theorem awake26_any (w : World) : Calls Try.prog 13 #[] w (BoolBel true w) := by
  have HP : Hid (Calls Try.prog 14 #[.slice (some ⟨w.heap.size, 0, none⟩) 29 29] (w.alloc (.cells #[.int .u8 123, .int .u8 34, .int .u8 117, .int .u8 115, .int .u8 105, .int .u8 110, .int .u8 103, .int .u8 34, .int .u8 58, .int .u8 91, .int .u8 93, .int .u8 44, .int .u8 34, .int .u8 109, .int .u8 101, .int .u8 116, .int .u8 104, .int .u8 111, .int .u8 100, .int .u8 67, .int .u8 97, .int .u8 108, .int .u8 108, .int .u8 115, .int .u8 34, .int .u8 58, .int .u8 91, .int .u8 93, .int .u8 125] 5 (29, 30))) (fun e w' => ∃ (A : Option Addr) (c : Nat), e = .returned (.tuple #[.slice A 0 c, .string ⟨#[]⟩]) ∧ Below (w.alloc (.cells #[.int .u8 123, .int .u8 34, .int .u8 117, .int .u8 115, .int .u8 105, .int .u8 110, .int .u8 103, .int .u8 34, .int .u8 58, .int .u8 91, .int .u8 93, .int .u8 44, .int .u8 34, .int .u8 109, .int .u8 101, .int .u8 116, .int .u8 104, .int .u8 111, .int .u8 100, .int .u8 67, .int .u8 97, .int .u8 108, .int .u8 108, .int .u8 115, .int .u8 34, .int .u8 58, .int .u8 91, .int .u8 93, .int .u8 125] 5 (29, 30))).heap.size (w.alloc (.cells #[.int .u8 123, .int .u8 34, .int .u8 117, .int .u8 115, .int .u8 105, .int .u8 110, .int .u8 103, .int .u8 34, .int .u8 58, .int .u8 91, .int .u8 93, .int .u8 44, .int .u8 34, .int .u8 109, .int .u8 101, .int .u8 116, .int .u8 104, .int .u8 111, .int .u8 100, .int .u8 67, .int .u8 97, .int .u8 108, .int .u8 108, .int .u8 115, .int .u8 34, .int .u8 58, .int .u8 91, .int .u8 93, .int .u8 125] 5 (29, 30))) w')) := by
    have hby : BytesAt (w.alloc (.cells #[.int .u8 123, .int .u8 34, .int .u8 117, .int .u8 115, .int .u8 105, .int .u8 110, .int .u8 103, .int .u8 34, .int .u8 58, .int .u8 91, .int .u8 93, .int .u8 44, .int .u8 34, .int .u8 109, .int .u8 101, .int .u8 116, .int .u8 104, .int .u8 111, .int .u8 100, .int .u8 67, .int .u8 97, .int .u8 108, .int .u8 108, .int .u8 115, .int .u8 34, .int .u8 58, .int .u8 91, .int .u8 93, .int .u8 125] 5 (29, 30))) (some ⟨w.heap.size, 0, none⟩) 29 ⟨#[123, 34, 117, 115, 105, 110, 103, 34, 58, 91, 93, 44, 34, 109, 101, 116, 104, 111, 100, 67, 97, 108, 108, 115, 34, 58, 91, 93, 125]⟩ := by
      refine BytesAt.of_cells (fun _ => by simp) (fun i hi => ?_)
      have hi : i < 29 := hi
      rw [World.cell?_alloc_mark]
      have : i = 0 ∨ i = 1 ∨ i = 2 ∨ i = 3 ∨ i = 4 ∨ i = 5 ∨ i = 6 ∨ i = 7 ∨ i = 8 ∨ i = 9 ∨ i = 10 ∨ i = 11 ∨ i = 12 ∨ i = 13 ∨ i = 14 ∨ i = 15 ∨ i = 16 ∨ i = 17 ∨ i = 18 ∨ i = 19 ∨ i = 20 ∨ i = 21 ∨ i = 22 ∨ i = 23 ∨ i = 24 ∨ i = 25 ∨ i = 26 ∨ i = 27 ∨ i = 28 := by omega
      rcases this with rfl | rfl | rfl | rfl | rfl | rfl | rfl | rfl | rfl | rfl | rfl | rfl | rfl | rfl | rfl | rfl | rfl | rfl | rfl | rfl | rfl | rfl | rfl | rfl | rfl | rfl | rfl | rfl | rfl <;> rfl
    exact (kRead_any ⟨#[123, 34, 117, 115, 105, 110, 103, 34, 58, 91, 93, 44, 34, 109, 101, 116, 104, 111, 100, 67, 97, 108, 108, 115, 34, 58, 91, 93, 125]⟩ _ _ _ hby).mono (fun e w' h => ReadP.none_ (by rw [lit_toList]; exact reqA_r) h)
  have HP2 : Hid (∀ w1 : World, Calls Try.prog 14 #[.slice (some ⟨w1.heap.size, 0, none⟩) 2 2] (w1.alloc (.cells #[.int .u8 123, .int .u8 125] 5 (2, 3))) (fun e w' => ∃ (A : Option Addr) (c : Nat), e = .returned (.tuple #[.slice A 0 c, .string notR]) ∧ Below (w1.alloc (.cells #[.int .u8 123, .int .u8 125] 5 (2, 3))).heap.size (w1.alloc (.cells #[.int .u8 123, .int .u8 125] 5 (2, 3))) w')) := fun w1 => by
    have hby : BytesAt (w1.alloc (.cells #[.int .u8 123, .int .u8 125] 5 (2, 3))) (some ⟨w1.heap.size, 0, none⟩) 2 ⟨#[123, 125]⟩ := by
      refine BytesAt.of_cells (fun _ => by simp) (fun i hi => ?_)
      have hi : i < 2 := hi
      rw [World.cell?_alloc_mark]
      have : i = 0 ∨ i = 1 := by omega
      rcases this with rfl | rfl <;> rfl
    exact (kRead_any ⟨#[123, 125]⟩ _ _ _ hby).mono (fun e w' h => ReadP.bad (by rw [lit_toList]; exact req1_r) h)
  unfold notR at HP2
  have HA : Hid (Below w.heap.size w (w.alloc (.cells #[.int .u8 123, .int .u8 34, .int .u8 117, .int .u8 115, .int .u8 105, .int .u8 110, .int .u8 103, .int .u8 34, .int .u8 58, .int .u8 91, .int .u8 93, .int .u8 44, .int .u8 34, .int .u8 109, .int .u8 101, .int .u8 116, .int .u8 104, .int .u8 111, .int .u8 100, .int .u8 67, .int .u8 97, .int .u8 108, .int .u8 108, .int .u8 115, .int .u8 34, .int .u8 58, .int .u8 91, .int .u8 93, .int .u8 125] 5 (29, 30)))) := (Below.refl _ _).alloc (Nat.le_refl _) _
  have kc := fun (w : World) (C : Array Value) (n c : Nat) => Lib.run_convert_bytes_const (P := Try.prog) w 22 5 C n c Try.underlying22 Try.underlying5
  go_enter Try.func13, Try.ntmps13
  go_wp2_with fail
  refine (HP.out : Calls _ _ _ _ _).mono ?_
  rintro e w1 ⟨A1, c1, rfl, hb⟩
  have HB := Lib.hid (nextB HA.out hb)
  clear hb
  go_wp2_with fail
  refine (HP2.out _ : Calls _ _ _ _ _).mono ?_
  rintro e w2 ⟨A2, c2, rfl, hb⟩
  have HB2 := Lib.hid (nextB (HB.out.alloc HB.out.size _) hb)
  clear hb
  go_wp2_with fail
  go_ret
  exact ⟨rfl, HB2.out⟩
end Go.Proofs.Ytnhoecmcbikcnaa
/-! CallBad: requests that lack something, or have it of another kind, are told so. -/
namespace Go.Proofs.Ytnhoecmcbikcnaa
open Go.RowKit Go.PlainAid
set_option linter.unusedVariables false
set_option linter.unusedSimpArgs false
theorem reqs_size : ∀ s ∈ reqs, s.size ≤ 60 := by
  intro s hs
  unfold reqs at hs
  simp only [List.mem_cons, List.not_mem_nil, or_false] at hs
  rcases hs with rfl | rfl | rfl | rfl | rfl | rfl | rfl | rfl | rfl | rfl | rfl | rfl <;> decide
theorem reqs_len : reqs.length = 12 := rfl
theorem reqs_cells : (#[.string ⟨#[91, 93]⟩, .string ⟨#[123, 125]⟩, .string ⟨#[123, 34, 117, 115, 105, 110, 103, 34, 58, 91, 93, 125]⟩, .string ⟨#[123, 34, 109, 101, 116, 104, 111, 100, 67, 97, 108, 108, 115, 34, 58, 91, 93, 125]⟩, .string ⟨#[123, 34, 117, 115, 105, 110, 103, 34, 58, 123, 125, 44, 34, 109, 101, 116, 104, 111, 100, 67, 97, 108, 108, 115, 34, 58, 91, 93, 125]⟩, .string ⟨#[123, 34, 117, 115, 105, 110, 103, 34, 58, 91, 49, 93, 44, 34, 109, 101, 116, 104, 111, 100, 67, 97, 108, 108, 115, 34, 58, 91, 93, 125]⟩, .string ⟨#[123, 34, 117, 115, 105, 110, 103, 34, 58, 91, 93, 44, 34, 109, 101, 116, 104, 111, 100, 67, 97, 108, 108, 115, 34, 58, 123, 125, 125]⟩, .string ⟨#[123, 34, 117, 115, 105, 110, 103, 34, 58, 91, 93, 44, 34, 109, 101, 116, 104, 111, 100, 67, 97, 108, 108, 115, 34, 58, 91, 123, 125, 93, 125]⟩, .string ⟨#[123, 34, 117, 115, 105, 110, 103, 34, 58, 91, 93, 44, 34, 109, 101, 116, 104, 111, 100, 67, 97, 108, 108, 115, 34, 58, 91, 91, 34, 97, 34, 44, 123, 125, 93, 93, 125]⟩, .string ⟨#[123, 34, 117, 115, 105, 110, 103, 34, 58, 91, 93, 44, 34, 109, 101, 116, 104, 111, 100, 67, 97, 108, 108, 115, 34, 58, 91, 91, 34, 97, 34, 44, 91, 93, 44, 34, 98, 34, 93, 93, 125]⟩, .string ⟨#[123, 34, 117, 115, 105, 110, 103, 34, 58, 91, 93, 44, 34, 109, 101, 116, 104, 111, 100, 67, 97, 108, 108, 115, 34, 58, 91, 91, 49, 44, 123, 125, 44, 34, 98, 34, 93, 93, 125]⟩, .string ⟨#[49]⟩] : Array Value) = (reqs.map Value.string).toArray := by unfold reqs; rfl
theorem reqs_at (w : World) (q : Nat) (S : ByteArray) (hS : reqs[q]? = some S) : (w.alloc (.cells #[.string ⟨#[91, 93]⟩, .string ⟨#[123, 125]⟩, .string ⟨#[123, 34, 117, 115, 105, 110, 103, 34, 58, 91, 93, 125]⟩, .string ⟨#[123, 34, 109, 101, 116, 104, 111, 100, 67, 97, 108, 108, 115, 34, 58, 91, 93, 125]⟩, .string ⟨#[123, 34, 117, 115, 105, 110, 103, 34, 58, 123, 125, 44, 34, 109, 101, 116, 104, 111, 100, 67, 97, 108, 108, 115, 34, 58, 91, 93, 125]⟩, .string ⟨#[123, 34, 117, 115, 105, 110, 103, 34, 58, 91, 49, 93, 44, 34, 109, 101, 116, 104, 111, 100, 67, 97, 108, 108, 115, 34, 58, 91, 93, 125]⟩, .string ⟨#[123, 34, 117, 115, 105, 110, 103, 34, 58, 91, 93, 44, 34, 109, 101, 116, 104, 111, 100, 67, 97, 108, 108, 115, 34, 58, 123, 125, 125]⟩, .string ⟨#[123, 34, 117, 115, 105, 110, 103, 34, 58, 91, 93, 44, 34, 109, 101, 116, 104, 111, 100, 67, 97, 108, 108, 115, 34, 58, 91, 123, 125, 93, 125]⟩, .string ⟨#[123, 34, 117, 115, 105, 110, 103, 34, 58, 91, 93, 44, 34, 109, 101, 116, 104, 111, 100, 67, 97, 108, 108, 115, 34, 58, 91, 91, 34, 97, 34, 44, 123, 125, 93, 93, 125]⟩, .string ⟨#[123, 34, 117, 115, 105, 110, 103, 34, 58, 91, 93, 44, 34, 109, 101, 116, 104, 111, 100, 67, 97, 108, 108, 115, 34, 58, 91, 91, 34, 97, 34, 44, 91, 93, 44, 34, 98, 34, 93, 93, 125]⟩, .string ⟨#[123, 34, 117, 115, 105, 110, 103, 34, 58, 91, 93, 44, 34, 109, 101, 116, 104, 111, 100, 67, 97, 108, 108, 115, 34, 58, 91, 91, 49, 44, 123, 125, 44, 34, 98, 34, 93, 93, 125]⟩, .string ⟨#[49]⟩] 9)).cell? ⟨w.heap.size, q, none⟩ = some (.string S) := by
  rw [World.cell?_alloc_mark, reqs_cells, List.getElem?_toArray, List.getElem?_map, hS]
  rfl
theorem reqs_get (q : Nat) (h : q < 12) : ∃ S, reqs[q]? = some S := by
  rw [← reqs_len] at h
  exact ⟨_, List.getElem?_eq_getElem h⟩
def ErrP (r : ByteArray) (w : World) (e : Ending) (w' : World) : Prop := ∃ (A : Option Addr) (c : Nat), e = .returned (.tuple #[.slice A 0 c, .string r]) ∧ Below w.heap.size w w'
theorem read_bad (s r : ByteArray) (hr : readL s.toList = .error r) (A : Option Addr) (c : Nat) (w : World) (h : BytesAt w A c s) : Calls Try.prog 14 #[.slice A s.size c] w (ErrP r w) := by
  have h1 := kRead_any s A c w h
  rw [hr] at h1
  exact h1.mono (fun e w' h => ReadP.bad rfl h)
set_option maxRecDepth 100000 in
set_option maxHeartbeats 800000 in
theorem callBad_walk (n : Int) (w0 : (Lit.int .u8 n).wf = true) (w : World) :
    Calls Try.prog 6 #[.int .u8 n] w fun e w' => e = .returned (.bool true) ∧ Below w.heap.size w w' := by
  have hr : 0 ≤ n ∧ n ≤ 255 := by
    simp [Lit.wf, IntKind.min, IntKind.max, IntKind.signed, IntKind.bits] at w0; omega
  obtain ⟨h0, h1⟩ := hr
  obtain ⟨q, hq⟩ : ∃ q : Nat, (q : Int) = n % 12 := ⟨(n % 12).toNat, by omega⟩
  have hq12 : q < 12 := by omega
  have hK : n.tmod 12 = (q : Int) := by rw [hq]; exact Int.tmod_eq_emod_of_nonneg h0
  obtain ⟨S, hS⟩ := reqs_get q hq12
  have hm : S ∈ reqs := List.mem_of_getElem? hS
  have hbad := reqs_bad S hm
  have hsz := reqs_size S hm
  have hc := reqs_at w q S hS
  have HP : Hid (∀ w' A c, BytesAt w' A c S → Calls Try.prog 14 #[.slice A S.size c] w' (ErrP ⟨#[110, 111, 116, 82, 101, 113, 117, 101, 115, 116]⟩ w')) := fun w' A c hb => read_bad S notR hbad.1 A c w' hb
  have hx1 : (S ++ (⟨#[120]⟩ : ByteArray)).size = S.size + 1 := by rw [ByteArray.size_append]; rfl
  have HP2 : Hid (∀ w' A c, BytesAt w' A c (S ++ (⟨#[120]⟩ : ByteArray)) → Calls Try.prog 14 #[.slice A (S.size + 1) c] w' (ErrP ⟨#[110, 111, 116, 74, 83, 79, 78]⟩ w')) := fun w' A c hb => by
    have := read_bad (S ++ (⟨#[120]⟩ : ByteArray)) notJ hbad.2 A c w' hb
    rw [hx1] at this
    exact this
  clear hx1
  have HA : Hid (Below w.heap.size w (w.alloc (.cells #[.string ⟨#[91, 93]⟩, .string ⟨#[123, 125]⟩, .string ⟨#[123, 34, 117, 115, 105, 110, 103, 34, 58, 91, 93, 125]⟩, .string ⟨#[123, 34, 109, 101, 116, 104, 111, 100, 67, 97, 108, 108, 115, 34, 58, 91, 93, 125]⟩, .string ⟨#[123, 34, 117, 115, 105, 110, 103, 34, 58, 123, 125, 44, 34, 109, 101, 116, 104, 111, 100, 67, 97, 108, 108, 115, 34, 58, 91, 93, 125]⟩, .string ⟨#[123, 34, 117, 115, 105, 110, 103, 34, 58, 91, 49, 93, 44, 34, 109, 101, 116, 104, 111, 100, 67, 97, 108, 108, 115, 34, 58, 91, 93, 125]⟩, .string ⟨#[123, 34, 117, 115, 105, 110, 103, 34, 58, 91, 93, 44, 34, 109, 101, 116, 104, 111, 100, 67, 97, 108, 108, 115, 34, 58, 123, 125, 125]⟩, .string ⟨#[123, 34, 117, 115, 105, 110, 103, 34, 58, 91, 93, 44, 34, 109, 101, 116, 104, 111, 100, 67, 97, 108, 108, 115, 34, 58, 91, 123, 125, 93, 125]⟩, .string ⟨#[123, 34, 117, 115, 105, 110, 103, 34, 58, 91, 93, 44, 34, 109, 101, 116, 104, 111, 100, 67, 97, 108, 108, 115, 34, 58, 91, 91, 34, 97, 34, 44, 123, 125, 93, 93, 125]⟩, .string ⟨#[123, 34, 117, 115, 105, 110, 103, 34, 58, 91, 93, 44, 34, 109, 101, 116, 104, 111, 100, 67, 97, 108, 108, 115, 34, 58, 91, 91, 34, 97, 34, 44, 91, 93, 44, 34, 98, 34, 93, 93, 125]⟩, .string ⟨#[123, 34, 117, 115, 105, 110, 103, 34, 58, 91, 93, 44, 34, 109, 101, 116, 104, 111, 100, 67, 97, 108, 108, 115, 34, 58, 91, 91, 49, 44, 123, 125, 44, 34, 98, 34, 93, 93, 125]⟩, .string ⟨#[49]⟩] 9))) := (Below.refl _ _).alloc (Nat.le_refl _) _
  have q0 : (0 : Int) ≤ (q : Int) := by omega
  have q1 : (q : Int) < 12 := by omega
  clear hbad hm hS hq w0
  go_enter Try.func6, Try.ntmps6
  go_wp2_with (with_reducible refine wpList_bytes_of _ rfl (.tmp 19) rfl _ rfl ?_; intro g c9 w4 hg1 hg2 hrow hb4)
  have HPC := HP.out w4 _ c9 (BytesAt.of_row hg2 hrow)
  have hW := nextB HA.out hb4
  clear hg1 hg2 hrow hb4 HP hc HA
  refine (HPC : Calls _ _ _ _ _).mono ?_; rintro e w5 ⟨A5, c5, rfl, hw5⟩
  replace hW := nextB hW hw5
  clear hw5 HPC
  go_wp2_with (with_reducible refine wpList_bytes_of _ rfl (.tmp 26) rfl _ rfl ?_; intro g c9 w6 hg1 hg2 hrow hb4)
  generalize (S ++ (⟨#[120]⟩ : ByteArray)) = X at *
  have HPC := HP2.out w6 _ c9 (BytesAt.of_row hg2 hrow)
  replace hW := nextB hW hb4
  clear hg1 hg2 hrow hb4 HP2
  refine (HPC : Calls _ _ _ _ _).mono ?_; rintro e w7 ⟨A7, c7, rfl, hw5⟩
  replace hW := nextB hW hw5
  clear hw5 HPC
  go_wp2_with (go_at_call 13; refine (awake26_any _).mono ?_; rintro e w8 ⟨rfl, hw1⟩; (first | replace hW := nextB hW hw1 | replace hW := nextA hW hw1 | replace hW := nextB hW.drew hw1 | replace hW := nextAA hW hw1 | replace hW := nextAD hW hw1); clear hw1)
  go_ret
  exact ⟨rfl, hW⟩
end Go.Proofs.Ytnhoecmcbikcnaa
