/- Texts of one seat, one behind the other: Ck0, Ob0, Ob1, Tx, NdOpen, NdOpen2, Ck0b, Ck0c, Ck1, Ck2, Ck3, Ck4, Ck5, Cm. No condition. -/
import Derived.Test.YtnhoecmcbikcnaaQ9
import Derived.Deep.DeepCutAuto
import Derived.Deep.Slices
import Derived.ReadAgain
import Derived.ChangeReads
import Derived.ProofKit
import Derived.OpenShut
import Derived.Deep.RegionWith
/-! What call.Read asks of nodes: whether one is odd, of three kinds, known; slices.EqualFunc, IndexFunc, ContainsFunc. -/
namespace Go.Proofs.Ytnhoecmcbikcnaa
open Go.RowKit Go.PlainAid
set_option linter.unusedVariables false
set_option linter.unusedSimpArgs false
def Nd.kind : Nd → Int
  | .mk k _ _ _ _ => k
def Nd.kids : Nd → List Nd
  | .mk _ _ _ _ ns => ns
def Nd.num : Nd → Int
  | .mk _ n _ _ _ => n
def Nd.text : Nd → ByteArray
  | .mk _ _ t _ _ => t
def Nd.keys : Nd → List ByteArray
  | .mk _ _ _ ks _ => ks
theorem NdIs.open_ {w : World} {B : Nat} {n : Nd} {cs : List Value} (h : NdIs w B n cs) : ∃ (A : Option Addr) (ck : Nat) (A2 : Option Addr) (c : Nat) (xs : List Value), cs = [.int .i64 n.kind, .int .i64 n.num, .string n.text, .slice A n.keys.length ck, .slice A2 n.kids.length c] ∧
      Reads w B 1 A n.keys.length (n.keys.map Value.string) ∧ Reads w B 5 A2 n.kids.length xs ∧ NdsIs w B n.kids xs ∧
      I64 n.kind ∧ I64 n.num ∧ n.text.size ≤ maxLen ∧ (∀ s ∈ n.keys, s.size ≤ maxLen) ∧ n.keys.length ≤ maxLen ∧ n.kids.length ≤ maxLen := by
  cases n
  unfold NdIs at h
  exact h
def knownS (s : ByteArray) : Bool := s.toList == [117, 114, 110, 58, 105, 101, 116, 102, 58, 112, 97, 114, 97, 109, 115, 58, 106, 109, 97, 112, 58, 99, 111, 114, 101] || s.toList == [117, 114, 110, 58, 105, 101, 116, 102, 58, 112, 97, 114, 97, 109, 115, 58, 106, 109, 97, 112, 58, 109, 97, 105, 108]
/-- a closure of one node, as a contract -/
def FnN (f : Nat) (vs : Array Value) (b : Bool) (w : World) : Prop := Calls Try.prog f #[.agg vs] w (BoolBel b w)
def FnNI (f : Nat) (vs : Array Value) (k : Int) (b : Bool) (w : World) : Prop := Calls Try.prog f #[.agg vs, .int .i64 k] w (BoolBel b w)
set_option maxRecDepth 100000 in
theorem kRead1_any (n : Nd) (cs : List Value) (w : World) (B : Nat) (hn : NdIs w B n cs) : FnN 31 cs.toArray (n.kind != 5) w := by
  obtain ⟨A, ck, A2, cc, xs, rfl, _⟩ := hn.open_
  have hW := Below.refl w.heap.size w
  generalize n.kind = k at *
  show Calls Try.prog 31 #[.agg #[_, _, _, _, _]] w (BoolBel _ w)
  go_enter Try.func31, Try.ntmps31
  go_wp2_with fail
  go_ret
  exact ⟨rfl, hW.alloc (Nat.le_refl _) _⟩
set_option maxRecDepth 100000 in
theorem kkinds1_any (n : Nd) (cs : List Value) (w : World) (B : Nat) (hn : NdIs w B n cs) (j : Int) : FnNI 54 cs.toArray j (n.kind == j) w := by
  obtain ⟨A, ck, A2, cc, xs, rfl, _⟩ := hn.open_
  have hW := Below.refl w.heap.size w
  generalize n.kind = k at *
  show Calls Try.prog 54 #[.agg #[_, _, _, _, _], _] w (BoolBel _ w)
  go_enter Try.func54, Try.ntmps54
  go_wp2_with fail
  go_ret
  exact ⟨rfl, hW.alloc (Nat.le_refl _) _⟩
set_option maxRecDepth 100000 in
theorem kknown_any (s : ByteArray) (w : World) : Calls Try.prog 36 #[.string s] w fun e w' => e = .returned (.bool (knownS s)) ∧ w = w' := by
  unfold knownS
  cases h1 : (s.toList == [117, 114, 110, 58, 105, 101, 116, 102, 58, 112, 97, 114, 97, 109, 115, 58, 106, 109, 97, 112, 58, 99, 111, 114, 101]) with
  | true =>
    go_enter Try.func36, Try.ntmps36
    go_wp2_with fail
    go_ret
    exact ⟨rfl, rfl⟩
  | false =>
    go_enter Try.func36, Try.ntmps36
    go_wp2_with fail
    go_ret
    exact ⟨rfl, rfl⟩
set_option maxRecDepth 100000 in
theorem kRead3_any (n : Nd) (cs : List Value) (w : World) (B : Nat) (hn : NdIs w B n cs) : FnN 35 cs.toArray (!knownS n.text) w := by
  obtain ⟨A, ck, A2, cc, xs, rfl, _⟩ := hn.open_
  have hW := Below.refl w.heap.size w
  generalize n.text = t at *
  show Calls Try.prog 35 #[.agg #[_, _, _, _, _]] w (BoolBel _ w)
  go_enter Try.func35, Try.ntmps35
  go_wp2_with fail
  refine (kknown_any t _).mono ?_; rintro e w1 ⟨rfl, hw⟩; obtain rfl : _ = w1 := hw
  go_wp2_with fail
  go_ret
  exact ⟨rfl, hW.alloc (Nat.le_refl _) _⟩
/-- do nodes have these kinds, one by one -/
def eqK : List Nd → List Int → Bool
  | [], [] => true
  | n :: ns, k :: ks => (n.kind == k) && eqK ns ks
  | _, _ => false
theorem eqK_len : ∀ (ns : List Nd) (ks : List Int), ns.length ≠ ks.length → eqK ns ks = false
  | [], [], h => absurd rfl h
  | [], k :: ks, h => rfl
  | n :: ns, [], h => rfl
  | n :: ns, k :: ks, h => by unfold eqK; rw [eqK_len ns ks (by simpa using h), Bool.and_false]
theorem eqK_at (ns : List Nd) (ks : List Int) (i : Nat) (n : Nd) (k : Int) (h : ns[i]? = some n) (h2 : ks[i]? = some k) : eqK (ns.drop i) (ks.drop i) = ((n.kind == k) && eqK (ns.drop (i + 1)) (ks.drop (i + 1))) := by
  rw [List.drop_eq_getElem_cons (List.getElem?_eq_some_iff.1 h).1, (List.getElem?_eq_some_iff.1 h).2, List.drop_eq_getElem_cons (List.getElem?_eq_some_iff.1 h2).1, (List.getElem?_eq_some_iff.1 h2).2]
  rfl
theorem Reads.intAt {w : World} {B : Nat} {A : Option Addr} {ks : List Int} (h : Reads w B 1 A ks.length (ks.map (Value.int .i64))) {i : Nat} (hi : i < ks.length) : ∃ ad k, A = some ad ∧ ad.block < B ∧ ks[i]? = some k ∧ w.cell? (ad.add i) = some (.int .i64 k) := by
  obtain ⟨ad, u, e, hb, hu, hc⟩ := h.at_ hi
  rw [List.getElem?_map, List.getElem?_eq_getElem hi] at hu
  injection hu with hu
  exact ⟨ad, ks[i], e, hb, List.getElem?_eq_getElem hi, by rw [hu]; exact hc⟩
set_option maxRecDepth 100000 in
set_option maxHeartbeats 1000000 in
theorem sEqI_any (ns : List Nd) (ks : List Int) (A A' : Option Addr) (ck ck' : Nat) (xs : List Value) (w : World) (B : Nat) (hks : Reads w B 5 A ns.length xs) (hks' : Reads w B 1 A' ks.length (ks.map (Value.int .i64))) (hns : NdsIs w B ns xs) (hB : B ≤ w.heap.size) (hk : ns.length ≤ 9223372036854775807) (hk' : ks.length ≤ 9223372036854775807) :
    Calls Try.prog 53 #[.slice A ns.length ck, .slice A' ks.length ck', .func (.func 54) #[] #[]] w (BoolBel (eqK ns ks) w) := by
  obtain ⟨V, hV⟩ : ∃ V, V = eqK ns ks := ⟨_, rfl⟩
  rw [← hV]
  have hW := Below.refl w.heap.size w
  by_cases e4 : ns.length = ks.length
  case neg =>
    have HE : Hid (V = false) := by show _ = _; rw [hV, eqK_len _ _ e4]
    have n4 : ((ns.length : Int) != (ks.length : Int)) = true := by rw [bne_iff_ne]; omega
    clear hV e4 hks hks' hns
    go_enter Try.func53, Try.ntmps53
    go_wp2_with fail
    go_ret
    exact ⟨by rw [HE.out]; rfl, hW⟩
  have n4 : ((ns.length : Int) != (ks.length : Int)) = false := by rw [bne_eq_false_iff_eq]; omega
  have l4 := Lib.hid e4
  have HV2 : Hid (V = eqK (ns.drop 0) (ks.drop 0)) := hV
  clear hV e4
  have HXS := Lib.hid hks
  have HXS' := Lib.hid hks'
  have HNS := Lib.hid hns
  clear hks hks' hns
  go_enter Try.func53, Try.ntmps53
  go_wp2_with fail
  go_loopw [17] (fun t5 wr => ∃ (i : Nat), i ≤ ns.length ∧ t5 = .int .i64 i ∧ Hid (V = eqK (ns.drop i) (ks.drop i)) ∧ Below w.heap.size w wr) (fun t5 _ => ns.length - (intOf t5).toNat)
  case atStart => exact ⟨0, by omega, rfl, HV2, hW⟩
  case round =>
    clear hW
    obtain ⟨i, hi, rfl, hv, hW⟩ := hrel
    obtain ⟨wo, rfl⟩ : ∃ wo : World, wo = wr := ⟨_, rfl⟩
    have hsz := hW.size
    by_cases hlt : i < ns.length
    · have hlt' : i < ks.length := by rw [← l4.out]; exact hlt
      have hkeep : ∀ p : Addr, p.block < B → wo.cell? p = w.cell? p := fun p hp => hW.cell (by omega)
      obtain ⟨ad, n, v0, v1, v2, v3, v4, rfl, hadb, hni, hnd, e0, e1, e2, e3, e4⟩ := (HXS.out.keep hkeep).nd (NdsIs.keep hkeep _ _ HNS.out) hlt
      obtain ⟨ad', k, rfl, hadb', hki, f0⟩ := (HXS'.out.keep hkeep).intAt hlt'
      obtain ⟨x0, x1, x2, x3, x4, x5, x6, x7, x8, rfl, rfl, rfl, rfl, rfl⟩ := hnd.form
      have HST := Lib.hid (eqK_at ns ks i n k hni hki)
      have HW2 : Hid (∀ w', Below wo.heap.size wo w' → FnNI 54 #[.int .i64 x0, .int .i64 x1, .string x2, .slice x3 x4 x5, .slice x6 x7 x8] k (n.kind == k) w') := fun w' hb =>
        kkinds1_any n [.int .i64 x0, .int .i64 x1, .string x2, .slice x3 x4 x5, .slice x6 x7 x8] w' B (hnd.below (hb.mono (by omega))) k
      have hW0 := Below.refl wo.heap.size wo
      have q1 : (ad.add (i * 5)).block < wo.heap.size := by rw [block_of_add]; omega
      have q2 : (ad'.add i).block < wo.heap.size := by rw [block_of_add]; omega
      have q3 : ¬ (ad'.add i).block = wo.heap.size := by omega
      clear hni hnd hkeep hki
      generalize (n.kind == k) = b at *
      go_wp2_with fail
      refine (HW2.out _ (hW0.alloc (Nat.le_refl _) _)).mono ?_; rintro e w1 ⟨rfl, hw1⟩
      replace hw1 := nextA hW0 hw1
      clear e0 e1 e2 e3 e4 f0
      cases b with
      | false =>
        have HE : Hid (V = false) := by show _ = _; rw [hv.out, HST.out]; rfl
        go_wp2_with fail
        go_ret
        exact ⟨by rw [HE.out]; rfl, hW.trans (hw1.mono (by omega))⟩
      | true =>
        have HE : Hid (V = eqK (ns.drop (i + 1)) (ks.drop (i + 1))) := by show _ = _; rw [hv.out, HST.out, Bool.true_and]
        go_wp2_with fail
        go_roundw
        case rel => exact ⟨i + 1, by omega, by go_num, HE, hW.trans (hw1.mono (by omega))⟩
        case measure => simp [intOf]; omega
    · have HE : Hid (V = true) := by
        have h4 := l4.out
        show _ = _
        rw [hv.out, List.drop_eq_nil_of_le (by omega), List.drop_eq_nil_of_le (by omega)]
        rfl
      go_wp2_with fail
      go_ret
      exact ⟨by rw [HE.out]; rfl, hW⟩
def kindsK (n : Nd) (l : List Int) : Bool := n.kind == 6 && eqK n.kids l
set_option maxRecDepth 100000 in
set_option maxHeartbeats 1000000 in
theorem kkinds_any (n : Nd) (cs : List Value) (ks : List Int) (A' : Option Addr) (ck' : Nat) (w : World) (B : Nat) (hn : NdIs w B n cs) (hks' : Reads w B 1 A' ks.length (ks.map (Value.int .i64))) (hB : B ≤ w.heap.size) (hk' : ks.length ≤ 9223372036854775807) :
    Calls Try.prog 33 #[.agg cs.toArray, .slice A' ks.length ck'] w (BoolBel (kindsK n ks) w) := by
  obtain ⟨A, ck, A2, cc, xs, rfl, _, h2, h3, _, _, _, _, _, h4⟩ := hn.open_
  have hW := Below.refl w.heap.size w
  have HE : Hid (∀ w', Below w.heap.size w w' → Calls Try.prog 53 #[.slice A2 n.kids.length cc, .slice A' ks.length ck', .func (.func 54) #[] #[]] w' (BoolBel (eqK n.kids ks) w')) := fun w' hb =>
    sEqI_any n.kids ks A2 A' cc ck' xs w' B (h2.keep fun p hp => hb.cell (by omega)) (hks'.keep fun p hp => hb.cell (by omega)) (NdsIs.keep (fun p hp => hb.cell (by omega)) _ _ h3) (by have := hb.size; omega) h4 hk'
  show Calls Try.prog 33 #[.agg #[_, _, _, _, _], _] w (BoolBel _ w)
  obtain ⟨V, hV⟩ : ∃ V, V = kindsK n ks := ⟨_, rfl⟩
  rw [← hV]
  have HV := Lib.hid hV
  clear h2 h3 hks' hV
  generalize hq : eqK n.kids ks = q at *
  have HQ := Lib.hid hq
  clear hq
  by_cases h6 : n.kind = 6
  · have e6 : (n.kind == 6) = true := by rw [beq_iff_eq]; exact h6
    have E : Hid (V = q) := by show _ = _; rw [HV.out]; unfold kindsK; rw [e6, HQ.out]; rfl
    clear h6
    go_enter Try.func33, Try.ntmps33
    go_wp2_with fail
    refine (HE.out _ (hW.alloc (Nat.le_refl _) _)).mono ?_; rintro e w1 ⟨rfl, hw1⟩
    replace hw1 := nextA hW hw1
    go_wp2_with fail
    go_ret
    exact ⟨by rw [E.out]; rfl, hw1⟩
  · have e6 : (n.kind == 6) = false := by rw [beq_eq_false_iff_ne]; exact h6
    have E : Hid (V = false) := by show _ = _; rw [HV.out]; unfold kindsK; rw [e6]; rfl
    clear h6
    go_enter Try.func33, Try.ntmps33
    go_wp2_with fail
    go_ret
    exact ⟨by rw [E.out]; rfl, hW.alloc (Nat.le_refl _) _⟩
end Go.Proofs.Ytnhoecmcbikcnaa
/-! Objects put together: plain words, what their making keeps. -/
namespace Go.Proofs.Ytnhoecmcbikcnaa
open Go.RowKit Go.PlainAid
set_option linter.unusedVariables false
set_option linter.unusedSimpArgs false
def keysO : List Nd → List ByteArray
  | a :: _ :: r => a.text :: keysO r
  | _ => []
def kidsO : List Nd → List Nd
  | _ :: b :: r => b :: kidsO r
  | _ => []
def objO (ns : List Nd) : Nd := .mk 7 0 ⟨#[]⟩ (keysO ns) (kidsO ns)
theorem keysO_at {ns : List Nd} {j : Nat} {a b : Nd} (h : ns[j]? = some a) (h2 : ns[j + 1]? = some b) : keysO (ns.drop j) = a.text :: keysO (ns.drop (j + 2)) ∧ kidsO (ns.drop j) = b :: kidsO (ns.drop (j + 2)) := by
  rw [List.drop_eq_getElem_cons (List.getElem?_eq_some_iff.1 h).1, (List.getElem?_eq_some_iff.1 h).2, List.drop_eq_getElem_cons (List.getElem?_eq_some_iff.1 h2).1, (List.getElem?_eq_some_iff.1 h2).2]
  exact ⟨rfl, rfl⟩
theorem keysO_end {ns : List Nd} {j : Nat} (h : ns.length ≤ j + 1) : keysO (ns.drop j) = [] ∧ kidsO (ns.drop j) = [] := by
  have : (ns.drop j).length ≤ 1 := by rw [List.length_drop]; omega
  match hq : ns.drop j with
  | [] => exact ⟨rfl, rfl⟩
  | [a] => exact ⟨rfl, rfl⟩
  | a :: b :: r => rw [hq] at this; simp at this
theorem keysO_text {ns : List Nd} (h : ∀ n ∈ ns, n.text.size ≤ maxLen) : ∀ t ∈ keysO ns, t.size ≤ maxLen := by
  match ns with
  | [] => intro t ht; cases ht
  | [a] => intro t ht; cases ht
  | a :: b :: r =>
    intro t ht
    rw [show keysO (a :: b :: r) = a.text :: keysO r from rfl, List.mem_cons] at ht
    rcases ht with rfl | ht
    · exact h a (by simp)
    · exact keysO_text (fun n hn => h n (by simp [hn])) t ht
theorem NdsIs.snoc {w : World} {B : Nat} {n : Nd} {cs : List Value} (hn : NdIs w B n cs) : ∀ (ns : List Nd) (xs : List Value), NdsIs w B ns xs → NdsIs w B (ns ++ [n]) (xs ++ cs)
  | [], xs, h => by
    unfold NdsIs at h
    subst h
    show NdsIs w B (n :: []) _
    unfold NdsIs
    exact ⟨cs, [], by simp, hn, by unfold NdsIs; rfl⟩
  | m :: ns, xs, h => by
    unfold NdsIs at h
    obtain ⟨ds, ys, rfl, h2, h3⟩ := h
    show NdsIs w B (m :: (ns ++ [n])) _
    unfold NdsIs
    exact ⟨ds, ys ++ cs, by simp, h2, NdsIs.snoc hn ns ys h3⟩
/-- a text appended as one step of a region that draws its order -/
theorem step_pushStr {ops : Array Oper} {o : Oper} {a : Act} {w : World} {K : Act → World → Prop} {Q : Exit → Act → World → Prop} {E : Prop}
    (hg : o.guard = none) (s x : Operand) (hop : o.op = Op.call { callee := Callee.builtin Builtin.append, args := #[s, x], argTypes := #[24, 24] })
    (B : Nat) (v : Value) (n : Nat) (xs : List Value) (hs : a.eval s = v) (hown : w.ownsRow B 9 1 v n xs) (R : Nat) (A : Option Addr) (c : Nat) (t : ByteArray) (hx : a.eval x = .slice A 1 c) (hr : Reads w R 1 A 1 [.string t])
    (hlim : n + 1 ≤ 1000000000000) (hB : B ≤ w.heap.size)
    (hK : ∀ v' w', w'.ownsRow B 9 1 v' (n + 1) (xs ++ [.string t]) → w.grownBy w' v.ownBlock → (v'.ownBlock = v.ownBlock ∨ ∃ g, v'.ownBlock = some g ∧ w.heap.size ≤ g) → K (a.put o.dst v') w') :
    if Region.wanted o (yielded ops a.tmps) = true then Oper.wp Try.prog o a w K Q else E := by
  have hw : Region.wanted o (yielded ops a.tmps) = true := by simp [Region.wanted, hg]
  rw [if_pos hw]
  obtain ⟨i0, hi0, hz0, hz1, hz2⟩ := info_parts strInfo
  obtain ⟨v', w', h1', h2, h3, h4⟩ := run_append_any (P := Try.prog) w B 24 o.type 9 i0 _ 1 16 Try.underlying24 hi0 hz0 hz1 hz2 rfl (by omega) v n _ hown R A 1 c _ hr (fun u hu => by simp at hu; rcases hu with rfl; rfl) (by simp only [maxLen]; omega) (by omega) hB
  unfold Oper.wp execOp
  simp only [hop, resolve, invoke, builtin, Sem.run_bind, Sem.run_pure, Result.andThen_ok, List.map_toArray, List.map_cons, List.map_nil, hs, hx, h1']
  refine hK _ _ h2 h3 ?_
  rcases h4 with h4 | h4
  · exact .inl h4
  · exact .inr ⟨_, h4, Nat.le_refl _⟩
theorem str_reads (w : World) (t : ByteArray) : Reads (w.alloc (.cells #[.string t] 9)).drew (w.heap.size + 1) 1 (some ⟨w.heap.size, 0, none⟩) 1 [.string t] := by
  refine ⟨rfl, fun _ => ⟨_, rfl, by simp, fun j u hj => ?_⟩⟩
  have e : (⟨w.heap.size, 0, none⟩ : Addr).add j = ⟨w.heap.size, j, none⟩ := by unfold Addr.add; split <;> simp_all
  rw [e]
  show (w.alloc (.cells #[.string t] 9)).cell? _ = _
  rw [World.cell?_alloc_mark]
  simpa using hj
theorem node_reads (w : World) (l : List Value) (hl : l.length = 1 * 5) : Reads (w.alloc (.cells l.toArray 27)).drew (w.heap.size + 1) 5 (some ⟨w.heap.size, 0, none⟩) 1 l := by
  refine ⟨hl, fun _ => ⟨_, rfl, by simp, fun j u hj => ?_⟩⟩
  have e : (⟨w.heap.size, 0, none⟩ : Addr).add j = ⟨w.heap.size, j, none⟩ := by unfold Addr.add; split <;> simp_all
  rw [e]
  show (w.alloc (.cells l.toArray 27)).cell? _ = _
  rw [World.cell?_alloc_mark]
  simpa using hj
theorem grown_lo {w0 w' : World} {rb n : Nat} (hg : w0.grownBy w' (some rb)) (hr : n ≤ rb) (hn : n ≤ w0.heap.size) : Below n w0 w' := ⟨hg.os, hg.tape, hg.output, hg.size, fun i hi => hg.block i (by omega) (fun e => by injection e with e; omega)⟩
theorem NdIs.cells_ {n : Nd} {w : World} {B : Nat} {c0 c1 : Int} {c2 : ByteArray} {c3 : Option Addr} {c4 c5 : Nat} {c6 : Option Addr} {c7 c8 : Nat} (h : NdIs w B n [.int .i64 c0, .int .i64 c1, .string c2, .slice c3 c4 c5, .slice c6 c7 c8]) : c0 = n.kind ∧ c2 = n.text ∧ c1 = n.num := by
  obtain ⟨A, ck, A2, c, xs, h1, _⟩ := h.open_
  simp only [List.cons.injEq, Value.int.injEq, Value.string.injEq, Value.slice.injEq, and_true, true_and] at h1
  obtain ⟨e1, e2, e3, e4, e5, e6, e7⟩ := h1
  exact ⟨e1, e3, e2⟩
/-- an object under way -/
structure OI (w0 w : World) (ks : List ByteArray) (ns : List Nd) (K : Option Addr) (kc : Nat) (A : Option Addr) (c : Nat) (ys : List Value) : Prop where
  node : Blk w (w0.heap.size + 1) 27 #[.int .i64 7, .int .i64 0, .string ⟨#[]⟩, .slice K ks.length kc, .slice A ns.length c]
  res : Blk w w0.heap.size 27 #[.int .i64 0, .int .i64 0, .string ⟨#[]⟩, .slice none 0 0, .slice none 0 0]
  keys : w.ownsRow (w0.heap.size + 2) 9 1 (.slice K ks.length kc) ks.length (ks.map Value.string)
  own : w.ownsRow (w0.heap.size + 2) 27 5 (.slice A ns.length c) ns.length ys
  kids : NdsIs w w0.heap.size ns ys
  low : Below w0.heap.size w0 w
  size : w0.heap.size + 2 ≤ w.heap.size
theorem OI.start (w : World) : OI w ((w.alloc (.cells #[.int .i64 0, .int .i64 0, .string ⟨#[]⟩, .slice none 0 0, .slice none 0 0] 27)).alloc (.cells #[.int .i64 7, .int .i64 0, .string ⟨#[]⟩, .slice none 0 0, .slice none 0 0] 27)) [] [] none 0 none 0 [] := by
  refine ⟨?_, (Blk.new w _ _).alloc _, World.ownsRow_nil _ _ _ _, World.ownsRow_nil _ _ _ _, (by unfold NdsIs; rfl), ((Below.refl _ _).alloc (Nat.le_refl _) _).alloc (by simp) _, by simp⟩
  have := Blk.new (w.alloc (.cells #[.int .i64 0, .int .i64 0, .string ⟨#[]⟩, .slice none 0 0, .slice none 0 0] 27)) 27 #[.int .i64 7, .int .i64 0, .string ⟨#[]⟩, .slice none 0 0, .slice none 0 0]
  simpa using this
theorem OI.below {w0 w w' : World} {ks : List ByteArray} {ns : List Nd} {K : Option Addr} {kc : Nat} {A : Option Addr} {c : Nat} {ys : List Value} (h : OI w0 w ks ns K kc A c ys) (hb : Below w.heap.size w w') : OI w0 w' ks ns K kc A c ys :=
  ⟨h.node.below hb h.node.lt, h.res.below hb h.res.lt, own_old h.keys hb, own_old h.own hb, NdsIs.keep (fun p hp => hb.cell (by have := h.low.size; omega)) _ _ h.kids, nextB h.low hb, Nat.le_trans h.size hb.size⟩
/-- one key more -/
theorem OI.key {w0 w2 w3 : World} {ks : List ByteArray} {ns : List Nd} {K : Option Addr} {kc : Nat} {A : Option Addr} {c : Nat} {ys : List Value} (hI : OI w0 w2 ks ns K kc A c ys)
    {t : ByteArray} {g c3 : Nat} (hown : w3.ownsRow (w0.heap.size + 2) 9 1 (.slice (some ⟨g, 0, none⟩) (ks.length + 1) c3) (ks.length + 1) (ks.map Value.string ++ [.string t]))
    (p2 : w2.grownBy w3 (Value.slice K ks.length kc).ownBlock) (p3 : (Value.slice (some ⟨g, 0, none⟩) (ks.length + 1) c3).ownBlock = (Value.slice K ks.length kc).ownBlock ∨ ∃ g1, (Value.slice (some ⟨g, 0, none⟩) (ks.length + 1) c3).ownBlock = some g1 ∧ w2.heap.size ≤ g1) :
    OI w0 (w3.setCell ⟨w0.heap.size + 1, 3, none⟩ (.slice (some ⟨g, 0, none⟩) (ks.length + 1) c3)) (ks ++ [t]) ns (some ⟨g, 0, none⟩) c3 A c ys := by
  have ho : ∀ g, (Value.slice A ns.length c).ownBlock = some g → w0.heap.size + 2 ≤ g ∧ g < w2.heap.size := fun g hg => own_lt hI.own hg
  have hk : ∀ g, (Value.slice K ks.length kc).ownBlock = some g → w0.heap.size + 2 ≤ g ∧ g < w2.heap.size := fun g hg => own_lt hI.keys hg
  have s2 := hI.size
  have s3 := p2.size
  have hn3 := hI.node.grown p2 (fun e => by have := (hk (w0.heap.size + 1) e.symm).1; omega)
  have hr3 := hI.res.grown p2 (fun e => by have := (hk w0.heap.size e.symm).1; omega)
  have hl3 : Below w0.heap.size w0 w3 := hI.low.grown p2 (by have := hI.low.size; omega) (fun g hg => by have := (hk g hg).1; omega)
  have hl4 : Below w0.heap.size w0 (w3.setCell ⟨w0.heap.size + 1, 3, none⟩ (.slice (some ⟨g, 0, none⟩) (ks.length + 1) c3)) := grown_lo (grown_set ((show w0.grownBy w3 (some (w0.heap.size + 1)) from ⟨hl3.os, hl3.tape, hl3.output, hl3.size, fun i hi _ => hl3.block i hi⟩)) 3 _) (by omega) (Nat.le_refl _)
  refine ⟨?_, (set_far (by omega)).trans hr3, ?_, ?_, NdsIs.keep (fun p hp => World.cell?_of_block ((set_far (by omega)).trans (p2.block p.block (by omega) (fun e => by have := (hk _ e.symm).1; omega)))) _ _ hI.kids, hl4, by simp; omega⟩
  · have := hn3.set_ 3 (.slice (some ⟨g, 0, none⟩) (ks.length + 1) c3)
    simpa using this
  · have := ownsRow_setCell_below hown (a := ⟨w0.heap.size + 1, 3, none⟩) (show w0.heap.size + 1 < w0.heap.size + 2 by omega) (.slice (some ⟨g, 0, none⟩) (ks.length + 1) c3)
    simpa using this
  · exact own_moved hI.own (fun b e => (set_far (by have := (ho b e).1; omega)).trans (p2.block b (ho b e).2 (fun e2 => own_apart hI.own hI.keys (by decide) e e2.symm))) (by simp; omega)
/-- one kid more -/
theorem OI.kid {w0 w2 w3 : World} {ks : List ByteArray} {ns : List Nd} {K : Option Addr} {kc : Nat} {A : Option Addr} {c : Nat} {ys : List Value} (hI : OI w0 w2 ks ns K kc A c ys)
    {n : Nd} {cs : List Value} (hn : NdIs w2 w0.heap.size n cs) {g c3 : Nat} (hown : w3.ownsRow (w0.heap.size + 2) 27 5 (.slice (some ⟨g, 0, none⟩) (ns.length + 1) c3) (ns.length + 1) (ys ++ cs))
    (p2 : w2.grownBy w3 (Value.slice A ns.length c).ownBlock) :
    OI w0 (w3.setCell ⟨w0.heap.size + 1, 4, none⟩ (.slice (some ⟨g, 0, none⟩) (ns.length + 1) c3)) ks (ns ++ [n]) K kc (some ⟨g, 0, none⟩) c3 (ys ++ cs) := by
  have ho : ∀ g, (Value.slice A ns.length c).ownBlock = some g → w0.heap.size + 2 ≤ g ∧ g < w2.heap.size := fun g hg => own_lt hI.own hg
  have hk : ∀ g, (Value.slice K ks.length kc).ownBlock = some g → w0.heap.size + 2 ≤ g ∧ g < w2.heap.size := fun g hg => own_lt hI.keys hg
  have s2 := hI.size
  have s3 := p2.size
  have hn3 := hI.node.grown p2 (fun e => by have := (ho (w0.heap.size + 1) e.symm).1; omega)
  have hr3 := hI.res.grown p2 (fun e => by have := (ho w0.heap.size e.symm).1; omega)
  have hl3 : Below w0.heap.size w0 w3 := hI.low.grown p2 (by have := hI.low.size; omega) (fun g hg => by have := (ho g hg).1; omega)
  have hl4 : Below w0.heap.size w0 (w3.setCell ⟨w0.heap.size + 1, 4, none⟩ (.slice (some ⟨g, 0, none⟩) (ns.length + 1) c3)) := grown_lo (grown_set ((show w0.grownBy w3 (some (w0.heap.size + 1)) from ⟨hl3.os, hl3.tape, hl3.output, hl3.size, fun i hi _ => hl3.block i hi⟩)) 4 _) (by omega) (Nat.le_refl _)
  have hkp : ∀ p : Addr, p.block < w0.heap.size → (w3.setCell ⟨w0.heap.size + 1, 4, none⟩ (.slice (some ⟨g, 0, none⟩) (ns.length + 1) c3)).cell? p = w2.cell? p := fun p hp => World.cell?_of_block ((set_far (by omega)).trans (p2.block p.block (by omega) (fun e => by have := (ho _ e.symm).1; omega)))
  refine ⟨?_, (set_far (by omega)).trans hr3, ?_, ?_, NdsIs.snoc (NdIs.keep hkp _ _ hn) _ _ (NdsIs.keep hkp _ _ hI.kids), hl4, by simp; omega⟩
  · have := hn3.set_ 4 (.slice (some ⟨g, 0, none⟩) (ns.length + 1) c3)
    simpa using this
  · exact own_moved hI.keys (fun b e => (set_far (by have := (hk b e).1; omega)).trans (p2.block b (hk b e).2 (fun e2 => own_apart hI.keys hI.own (by decide) e e2.symm))) (by simp; omega)
  · have := ownsRow_setCell_below hown (a := ⟨w0.heap.size + 1, 4, none⟩) (show w0.heap.size + 1 < w0.heap.size + 2 by omega) (.slice (some ⟨g, 0, none⟩) (ns.length + 1) c3)
    simpa using this
theorem OI.is {w0 w WF : World} {ks : List ByteArray} {ns : List Nd} {K : Option Addr} {kc : Nat} {A : Option Addr} {c : Nat} {ys : List Value} (hI : OI w0 w ks ns K kc A c ys) (hks : ∀ t ∈ ks, t.size ≤ maxLen) (hot : ∀ g, g ≠ w0.heap.size → WF.heap[g]? = w.heap[g]?) (hsz : WF.heap.size = w.heap.size) :
    NdIs WF WF.heap.size (.mk 7 0 ⟨#[]⟩ ks ns) [.int .i64 7, .int .i64 0, .string ⟨#[]⟩, .slice K ks.length kc, .slice A ns.length c] := by
  unfold NdIs
  have h1 := hI.low.size
  refine ⟨K, kc, A, c, ys, rfl, ?_, ?_, ?_, by unfold I64; omega, by unfold I64; omega, by decide, hks, own_len hI.keys, own_len hI.own⟩
  · exact ((own_RS hI.keys).keep (fun p hp => World.cell?_of_block (hot p.block (by have := hp.1; omega)))).reads (fun b hb => by rw [hsz]; exact hb.2)
  · exact ((own_RS hI.own).keep (fun p hp => World.cell?_of_block (hot p.block (by have := hp.1; omega)))).reads (fun b hb => by rw [hsz]; exact hb.2)
  · exact NdsIs.more (by rw [hsz]; exact h1) _ _ (NdsIs.keep (fun p hp => World.cell?_of_block (hot p.block (by omega))) _ _ hI.kids)
end Go.Proofs.Ytnhoecmcbikcnaa
/-! The walks of call.Obj and of the reference's Obj. -/
namespace Go.Proofs.Ytnhoecmcbikcnaa
open Go.RowKit Go.PlainAid
set_option linter.unusedVariables false
set_option linter.unusedSimpArgs false
/-- what both end with -/
def ObjP (n : Nd) (w : World) (e : Ending) (w' : World) : Prop := ∃ (c0 c1 : Int) (c2 : ByteArray) (c3 : Option Addr) (c4 c5 : Nat) (c6 : Option Addr) (c7 c8 : Nat),
  e = .returned (.agg #[.int .i64 c0, .int .i64 c1, .string c2, .slice c3 c4 c5, .slice c6 c7 c8]) ∧ NdIs w' w'.heap.size n [.int .i64 c0, .int .i64 c1, .string c2, .slice c3 c4 c5, .slice c6 c7 c8] ∧ Below w.heap.size w w'
set_option maxRecDepth 100000 in
set_option maxHeartbeats 4000000 in
theorem kObj_any (ns : List Nd) (A : Option Addr) (cc : Nat) (xs : List Value) (w : World) (hxs : Reads w w.heap.size 5 A ns.length xs) (hns : NdsIs w w.heap.size ns xs) (hlen : ns.length ≤ 1000000) :
    Calls Try.prog 19 #[.slice A ns.length cc] w (ObjP (objO ns) w) := by
  have HXS := Lib.hid hxs
  have HNS := Lib.hid hns
  have HTX : Hid (∀ n ∈ ns, n.text.size ≤ maxLen) := fun n hn => by
    obtain ⟨i, hi⟩ := List.mem_iff_getElem?.1 hn
    obtain ⟨cs, h1, _⟩ := NdsIs.at_ ns xs i n hns hi
    obtain ⟨_, _, _, _, _, _, _, _, _, _, _, h2, _⟩ := h1.open_
    exact h2
  have I0 := Lib.hid (OI.start w)
  clear hxs hns
  go_enter Try.func19, Try.ntmps19
  go_wp2_with fail
  generalize (w.alloc (.cells #[.int .i64 0, .int .i64 0, .string ⟨#[]⟩, .slice none 0 0, .slice none 0 0] 27)).alloc (.cells #[.int .i64 7, .int .i64 0, .string ⟨#[]⟩, .slice none 0 0, .slice none 0 0] 27) = W at *
  go_loopw [4] (fun t4 wr => ∃ (j : Nat) (ks : List ByteArray) (ms : List Nd) (K : Option Addr) (kc : Nat) (A2 : Option Addr) (c2 : Nat) (ys : List Value), j ≤ ns.length + 1 ∧ ks.length ≤ j ∧ ms.length ≤ j ∧ t4 = .int .i64 j ∧ Hid (keysO ns = ks ++ keysO (ns.drop j) ∧ kidsO ns = ms ++ kidsO (ns.drop j)) ∧ Hid (OI w wr ks ms K kc A2 c2 ys)) (fun t4 _ => ns.length + 1 - (intOf t4).toNat)
  case atStart => exact ⟨0, [], [], none, 0, none, 0, [], by omega, by simp, by simp, rfl, ⟨rfl, rfl⟩, I0⟩
  case round =>
    clear I0
    obtain ⟨j, ks, ms, K, kc, A2, c2, ys, hj, hkl, hml, rfl, hO, hI⟩ := hrel
    obtain ⟨wo, rfl⟩ : ∃ wo : World, wo = wr := ⟨_, rfl⟩
    have x1 : IntKind.i64.wrap ((j : Int) + 1) = (j : Int) + 1 := IntWalk.i64_in _ (by omega)
    have x2 : IntKind.i64.wrap ((j : Int) + 2) = (j : Int) + 2 := IntWalk.i64_in _ (by omega)
    by_cases hlt : j + 1 < ns.length
    · have hsz := hI.out.low.size
      have hkeep : ∀ p : Addr, p.block < w.heap.size → wo.cell? p = w.cell? p := fun p hp => hI.out.low.cell hp
      obtain ⟨ad, na, v0, v1, v2, v3, v4, rfl, hadb, hna, hnda, e0, e1, e2, e3, e4⟩ := (HXS.out.keep hkeep).nd (NdsIs.keep hkeep _ _ HNS.out) (show j < ns.length by omega)
      obtain ⟨ad2, nb, y0', y1', y2', y3', y4', had2, hadb2, hnb, hndb, g0, g1, g2, g3, g4⟩ := (HXS.out.keep hkeep).nd (NdsIs.keep hkeep _ _ HNS.out) hlt
      injection had2 with had2
      subst had2
      obtain ⟨z0, z1, z2, z3, z4, z5, z6, z7, z8, rfl, rfl, rfl, rfl, rfl⟩ := hnda.form
      obtain ⟨y0, y1, y2, y3, y4, y5, y6, y7, y8, rfl, rfl, rfl, rfl, rfl⟩ := hndb.form
      obtain ⟨-, ht, -⟩ := NdIs.cells_ hnda
      subst ht
      obtain ⟨hk1, hk2⟩ := keysO_at hna hnb
      have HO2 : Hid (keysO ns = (ks ++ [na.text]) ++ keysO (ns.drop (j + 2)) ∧ kidsO ns = (ms ++ [nb]) ++ kidsO (ns.drop (j + 2))) := by
        obtain ⟨h1, h2⟩ := hO.out
        exact ⟨by rw [h1, hk1, List.append_assoc]; rfl, by rw [h2, hk2, List.append_assoc]; rfl⟩
      have HNB := Lib.hid hndb
      have i0 : (0 : Int) ≤ (j : Int) := by omega
      have i1 : (j : Int) < (ns.length : Int) := by omega
      have i2 : (0 : Int) ≤ (j : Int) + 1 := by omega
      have i3 : (j : Int) + 1 < (ns.length : Int) := by omega
      have i4 : ((j : Int) + 1).toNat = j + 1 := by omega
      have hbw : ad.block < wo.heap.size := by omega
      have hadw : ad.block < w.heap.size := hadb
      have hk6 : ks.length ≤ 1000001 := by omega
      have hm6 : ms.length ≤ 1000001 := by omega
      have nc3 := hI.out.node.cell 3
      have LA : Hid (OI w (wo.alloc (.cells #[.string na.text] 9)).drew ks ms K kc A2 c2 ys) := hI.out.below ((Below.refl _ _).alloc (Nat.le_refl _) _).drew
      have la3 : (wo.alloc (.cells #[.string na.text] 9)).cell? ⟨w.heap.size + 1, 3, none⟩ = some (.slice K ks.length kc) := LA.out.node.cell 3
      have la5 : (wo.alloc (.cells #[.string na.text] 9)).cell? ⟨(ad.add (j * 5)).block, (ad.add (j * 5)).off + 2, none⟩ = some (.string na.text) := (World.cell?_alloc_lt _ _ _ (by rw [show (⟨(ad.add (j * 5)).block, (ad.add (j * 5)).off + 2, none⟩ : Addr).block = ad.block from block_of_add _ _]; exact hbw)).trans e2
      have HLW := Lib.hid hkeep
      clear hna hnb hnda hndb hk1 hk2 hkeep hO
      go_wp2_with fail
      go_cut [] (fun wx => ∃ (K3 : Option Addr) (kc3 : Nat), Hid (OI w wx (ks ++ [na.text]) ms K3 kc3 A2 c2 ys))
      case first =>
        go_region_law (first
          | (refine step_pushStr rfl _ _ rfl (w.heap.size + 2) (.slice K ks.length kc) ks.length (ks.map Value.string) (by rfl) LA.out.keys (wo.heap.size + 1) (some ⟨wo.heap.size, 0, none⟩) 1 na.text (by rfl) (str_reads wo na.text) (by omega) LA.out.size ?_; intro v5 w5 p1 p2 p3; obtain ⟨g, cp, rfl, hg1, hg2⟩ := World.ownsRow.form p1 (by omega); have LP := Lib.hid (LA.out.key p1 p2 p3); have n5 := LA.out.node.grown p2 (fun e => by have := (own_lt LA.out.keys e.symm).1; omega); have l5c := n5.cell 3; have l5f := n5.frozen 3; clear n5 p1 p2 p3)
          | (go_simp; fail))
        all_goals
          go_wp2_with fail
          go_meet
          exact ⟨_, _, LP⟩
      case rest =>
        obtain ⟨K3, kc3, hI3⟩ := hcut
        obtain ⟨wo, rfl⟩ : ∃ wo : World, wo = wc := ⟨_, rfl⟩
        obtain ⟨ks', hks'⟩ : ∃ ks', ks' = ks ++ [na.text] := ⟨_, rfl⟩
        rw [← hks'] at hI3 HO2
        have hkl' : ks'.length = ks.length + 1 := by rw [hks', List.length_append]; simp
        have HKL := Lib.hid hkl'
        clear hks' hkl' nc3 LA la3 la5 e0 e1 e2 e3 e4
        have hsz := hI3.out.low.size
        have hlow : ∀ p : Addr, p.block < w.heap.size → wo.cell? p = w.cell? p := fun p hp => hI3.out.low.cell hp
        have HNB3 : Hid (NdIs wo w.heap.size nb [.int .i64 y0, .int .i64 y1, .string y2, .slice y3 y4 y5, .slice y6 y7 y8]) := NdIs.keep (fun p hp => (hlow p hp).trans (HLW.out p hp).symm) _ _ HNB.out
        have e0 := (hlow (ad.add ((j + 1) * 5)) (by rw [block_of_add]; exact hadw)).trans ((HLW.out _ (by rw [block_of_add]; exact hadw)).symm.trans g0)
        have e1 := (hlow ⟨(ad.add ((j + 1) * 5)).block, (ad.add ((j + 1) * 5)).off + 1, none⟩ (by show (ad.add _).block < _; rw [block_of_add]; exact hadw)).trans ((HLW.out _ (by show (ad.add _).block < _; rw [block_of_add]; exact hadw)).symm.trans g1)
        have e2 := (hlow ⟨(ad.add ((j + 1) * 5)).block, (ad.add ((j + 1) * 5)).off + 2, none⟩ (by show (ad.add _).block < _; rw [block_of_add]; exact hadw)).trans ((HLW.out _ (by show (ad.add _).block < _; rw [block_of_add]; exact hadw)).symm.trans g2)
        have e3 := (hlow ⟨(ad.add ((j + 1) * 5)).block, (ad.add ((j + 1) * 5)).off + 3, none⟩ (by show (ad.add _).block < _; rw [block_of_add]; exact hadw)).trans ((HLW.out _ (by show (ad.add _).block < _; rw [block_of_add]; exact hadw)).symm.trans g3)
        have e4 := (hlow ⟨(ad.add ((j + 1) * 5)).block, (ad.add ((j + 1) * 5)).off + 4, none⟩ (by show (ad.add _).block < _; rw [block_of_add]; exact hadw)).trans ((HLW.out _ (by show (ad.add _).block < _; rw [block_of_add]; exact hadw)).symm.trans g4)
        have hbw2 : ad.block < wo.heap.size := by omega
        have nc4 := hI3.out.node.cell 4
        have LB : Hid (OI w (wo.alloc (.cells #[.int .i64 y0, .int .i64 y1, .string y2, .slice y3 y4 y5, .slice y6 y7 y8] 27)).drew ks' ms K3 kc3 A2 c2 ys) := hI3.out.below ((Below.refl _ _).alloc (Nat.le_refl _) _).drew
        have HNB4 : Hid (NdIs (wo.alloc (.cells #[.int .i64 y0, .int .i64 y1, .string y2, .slice y3 y4 y5, .slice y6 y7 y8] 27)).drew w.heap.size nb [.int .i64 y0, .int .i64 y1, .string y2, .slice y3 y4 y5, .slice y6 y7 y8]) := HNB3.out.below (((Below.refl _ _).alloc hsz _).drew)
        have la4 : (wo.alloc (.cells #[.int .i64 y0, .int .i64 y1, .string y2, .slice y3 y4 y5, .slice y6 y7 y8] 27)).cell? ⟨w.heap.size + 1, 4, none⟩ = some (.slice A2 ms.length c2) := LB.out.node.cell 4
        clear g0 g1 g2 g3 g4 hlow HNB HNB3 HLW
        go_wp2_with fail
        go_region_law (first
          | (refine step_pushNd rfl _ _ rfl (w.heap.size + 2) (.slice A2 ms.length c2) ms.length ys (by rfl) LB.out.own (wo.heap.size + 1) (some ⟨wo.heap.size, 0, none⟩) 1 [.int .i64 y0, .int .i64 y1, .string y2, .slice y3 y4 y5, .slice y6 y7 y8] (by rfl) (node_reads wo _ rfl) cells_one (by omega) LB.out.size ?_; intro v5 w5 p1 p2 p3; obtain ⟨g, cp, rfl, hg1, hg2⟩ := World.ownsRow.form p1 (by omega); have LP := Lib.hid (LB.out.kid HNB4.out p1 p2); have n5 := LB.out.node.grown p2 (fun e => by have := (own_lt LB.out.own e.symm).1; omega); have l5c := n5.cell 4; have l5f := n5.frozen 4; clear n5 p1 p2 p3)
          | (go_simp; fail))
        all_goals
          have HIN := LP
          clear nc4 LB HNB4 la4 e0 e1 e2 e3 e4
          go_wp2_with fail
          go_roundw
          case rel => exact ⟨j + 2, ks', ms ++ [nb], K3, kc3, _, _, _, by omega, by have := HKL.out; omega, by rw [List.length_append]; simp; omega, by go_num, HO2, HIN⟩
          case measure => simp [intOf]; omega
    · have HE : Hid (keysO ns = ks ∧ kidsO ns = ms) := by
        obtain ⟨h1, h2⟩ := hO.out
        have h3 := keysO_end (ns := ns) (j := j) (by omega)
        rw [h3.1, List.append_nil] at h1
        rw [h3.2, List.append_nil] at h2
        exact ⟨h1, h2⟩
      have i3 : ¬ (j : Int) + 1 < (ns.length : Int) := by omega
      obtain ⟨e1, e2⟩ := HE.out
      have HE2 : Hid (objO ns = .mk 7 0 ⟨#[]⟩ ks ms) := by show _ = _; unfold objO; rw [e1, e2]
      have HKS : Hid (∀ t ∈ ks, t.size ≤ maxLen) := by rw [← e1]; exact keysO_text HTX.out
      have HI := hI
      have HGR : Hid (w.grownBy wo (some w.heap.size)) := ⟨hI.out.low.os, hI.out.low.tape, hI.out.low.output, hI.out.low.size, fun i hi _ => hI.out.low.block i hi⟩
      obtain ⟨n0, n1, n2, n3, n4⟩ := hI.out.node.cells5
      obtain ⟨z0, z1, z2, z3, z4⟩ := hI.out.res.cells5
      have f0 := hI.out.res.frozen 0
      have f1 := hI.out.res.frozen 1
      have f2 := hI.out.res.frozen 2
      have f3 := hI.out.res.frozen 3
      have f4 := hI.out.res.frozen 4
      obtain ⟨hfin, hgr, hsz, hot⟩ := laid5 hI.out.res HGR.out (Nat.le_refl _) (.int .i64 7) (.int .i64 0) (.string ⟨#[]⟩) (.slice K ks.length kc) (.slice A2 ms.length c2)
      have HFIN := Lib.hid hfin; have HGF := Lib.hid hgr; have HSZ := Lib.hid hsz; have HOT := Lib.hid hot
      clear hfin hgr hsz hot e1 e2 hO HE
      go_wp2_with fail
      clear f0 f1 f2 f3 f4 z0 z1 z2 z3 z4 n0 n1 n2 n3 n4
      generalize (((((wo.setCell ⟨w.heap.size, 0, none⟩ (.int .i64 7)).setCell ⟨w.heap.size, 1, none⟩ (.int .i64 0)).setCell ⟨w.heap.size, 2, none⟩ (.string ⟨#[]⟩)).setCell ⟨w.heap.size, 3, none⟩ (.slice K ks.length kc)).setCell ⟨w.heap.size, 4, none⟩ (.slice A2 ms.length c2)) = WF at *
      obtain ⟨q0, q1, q2, q3, q4⟩ := HFIN.out.cells5
      refine bodyPost_ret (v := .agg #[.int .i64 7, .int .i64 0, .string ⟨#[]⟩, .slice K ks.length kc, .slice A2 ms.length c2]) (by simp [results, Try.results19, go_sem, q0, q1, q2, q3, q4]) rfl ?_
      refine ⟨_, _, _, _, _, _, _, _, _, rfl, ?_, grown_lo HGF.out (Nat.le_refl _) (Nat.le_refl _)⟩
      rw [HE2.out]
      exact HI.out.is HKS.out (fun b hb => HOT.out b hb) HSZ.out
set_option maxRecDepth 100000 in
set_option maxHeartbeats 4000000 in
theorem rObj_any (ns : List Nd) (A : Option Addr) (cc : Nat) (xs : List Value) (w : World) (hxs : Reads w w.heap.size 5 A ns.length xs) (hns : NdsIs w w.heap.size ns xs) (hlen : ns.length ≤ 1000000) :
    Calls Try.prog 22 #[.slice A ns.length cc] w (ObjP (objO ns) w) := by
  have HXS := Lib.hid hxs
  have HNS := Lib.hid hns
  have HTX : Hid (∀ n ∈ ns, n.text.size ≤ maxLen) := fun n hn => by
    obtain ⟨i, hi⟩ := List.mem_iff_getElem?.1 hn
    obtain ⟨cs, h1, _⟩ := NdsIs.at_ ns xs i n hns hi
    obtain ⟨_, _, _, _, _, _, _, _, _, _, _, h2, _⟩ := h1.open_
    exact h2
  have I0 := Lib.hid (OI.start w)
  clear hxs hns
  go_enter Try.func22, Try.ntmps22
  go_wp2_with fail
  generalize (w.alloc (.cells #[.int .i64 0, .int .i64 0, .string ⟨#[]⟩, .slice none 0 0, .slice none 0 0] 27)).alloc (.cells #[.int .i64 7, .int .i64 0, .string ⟨#[]⟩, .slice none 0 0, .slice none 0 0] 27) = W at *
  go_loopw [4] (fun t4 wr => ∃ (j : Nat) (ks : List ByteArray) (ms : List Nd) (K : Option Addr) (kc : Nat) (A2 : Option Addr) (c2 : Nat) (ys : List Value), j ≤ ns.length + 1 ∧ ks.length ≤ j ∧ ms.length ≤ j ∧ t4 = .int .i64 j ∧ Hid (keysO ns = ks ++ keysO (ns.drop j) ∧ kidsO ns = ms ++ kidsO (ns.drop j)) ∧ Hid (OI w wr ks ms K kc A2 c2 ys)) (fun t4 _ => ns.length + 1 - (intOf t4).toNat)
  case atStart => exact ⟨0, [], [], none, 0, none, 0, [], by omega, by simp, by simp, rfl, ⟨rfl, rfl⟩, I0⟩
  case round =>
    clear I0
    obtain ⟨j, ks, ms, K, kc, A2, c2, ys, hj, hkl, hml, rfl, hO, hI⟩ := hrel
    obtain ⟨wo, rfl⟩ : ∃ wo : World, wo = wr := ⟨_, rfl⟩
    have x1 : IntKind.i64.wrap ((j : Int) + 1) = (j : Int) + 1 := IntWalk.i64_in _ (by omega)
    have x2 : IntKind.i64.wrap ((j : Int) + 2) = (j : Int) + 2 := IntWalk.i64_in _ (by omega)
    by_cases hlt : j + 1 < ns.length
    · have hsz := hI.out.low.size
      have hkeep : ∀ p : Addr, p.block < w.heap.size → wo.cell? p = w.cell? p := fun p hp => hI.out.low.cell hp
      obtain ⟨ad, na, v0, v1, v2, v3, v4, rfl, hadb, hna, hnda, e0, e1, e2, e3, e4⟩ := (HXS.out.keep hkeep).nd (NdsIs.keep hkeep _ _ HNS.out) (show j < ns.length by omega)
      obtain ⟨ad2, nb, y0', y1', y2', y3', y4', had2, hadb2, hnb, hndb, g0, g1, g2, g3, g4⟩ := (HXS.out.keep hkeep).nd (NdsIs.keep hkeep _ _ HNS.out) hlt
      injection had2 with had2
      subst had2
      obtain ⟨z0, z1, z2, z3, z4, z5, z6, z7, z8, rfl, rfl, rfl, rfl, rfl⟩ := hnda.form
      obtain ⟨y0, y1, y2, y3, y4, y5, y6, y7, y8, rfl, rfl, rfl, rfl, rfl⟩ := hndb.form
      obtain ⟨-, ht, -⟩ := NdIs.cells_ hnda
      subst ht
      obtain ⟨hk1, hk2⟩ := keysO_at hna hnb
      have HO2 : Hid (keysO ns = (ks ++ [na.text]) ++ keysO (ns.drop (j + 2)) ∧ kidsO ns = (ms ++ [nb]) ++ kidsO (ns.drop (j + 2))) := by
        obtain ⟨h1, h2⟩ := hO.out
        exact ⟨by rw [h1, hk1, List.append_assoc]; rfl, by rw [h2, hk2, List.append_assoc]; rfl⟩
      have HNB := Lib.hid hndb
      have i0 : (0 : Int) ≤ (j : Int) := by omega
      have i1 : (j : Int) < (ns.length : Int) := by omega
      have i2 : (0 : Int) ≤ (j : Int) + 1 := by omega
      have i3 : (j : Int) + 1 < (ns.length : Int) := by omega
      have i4 : ((j : Int) + 1).toNat = j + 1 := by omega
      have hbw : ad.block < wo.heap.size := by omega
      have hadw : ad.block < w.heap.size := hadb
      have hk6 : ks.length ≤ 1000001 := by omega
      have hm6 : ms.length ≤ 1000001 := by omega
      have nc3 := hI.out.node.cell 3
      have LA : Hid (OI w (wo.alloc (.cells #[.string na.text] 9)).drew ks ms K kc A2 c2 ys) := hI.out.below ((Below.refl _ _).alloc (Nat.le_refl _) _).drew
      have la3 : (wo.alloc (.cells #[.string na.text] 9)).cell? ⟨w.heap.size + 1, 3, none⟩ = some (.slice K ks.length kc) := LA.out.node.cell 3
      have la5 : (wo.alloc (.cells #[.string na.text] 9)).cell? ⟨(ad.add (j * 5)).block, (ad.add (j * 5)).off + 2, none⟩ = some (.string na.text) := (World.cell?_alloc_lt _ _ _ (by rw [show (⟨(ad.add (j * 5)).block, (ad.add (j * 5)).off + 2, none⟩ : Addr).block = ad.block from block_of_add _ _]; exact hbw)).trans e2
      have HLW := Lib.hid hkeep
      clear hna hnb hnda hndb hk1 hk2 hkeep hO
      go_wp2_with fail
      go_cut [] (fun wx => ∃ (K3 : Option Addr) (kc3 : Nat), Hid (OI w wx (ks ++ [na.text]) ms K3 kc3 A2 c2 ys))
      case first =>
        go_region_law (first
          | (refine step_pushStr rfl _ _ rfl (w.heap.size + 2) (.slice K ks.length kc) ks.length (ks.map Value.string) (by rfl) LA.out.keys (wo.heap.size + 1) (some ⟨wo.heap.size, 0, none⟩) 1 na.text (by rfl) (str_reads wo na.text) (by omega) LA.out.size ?_; intro v5 w5 p1 p2 p3; obtain ⟨g, cp, rfl, hg1, hg2⟩ := World.ownsRow.form p1 (by omega); have LP := Lib.hid (LA.out.key p1 p2 p3); have n5 := LA.out.node.grown p2 (fun e => by have := (own_lt LA.out.keys e.symm).1; omega); have l5c := n5.cell 3; have l5f := n5.frozen 3; clear n5 p1 p2 p3)
          | (go_simp; fail))
        all_goals
          go_wp2_with fail
          go_meet
          exact ⟨_, _, LP⟩
      case rest =>
        obtain ⟨K3, kc3, hI3⟩ := hcut
        obtain ⟨wo, rfl⟩ : ∃ wo : World, wo = wc := ⟨_, rfl⟩
        obtain ⟨ks', hks'⟩ : ∃ ks', ks' = ks ++ [na.text] := ⟨_, rfl⟩
        rw [← hks'] at hI3 HO2
        have hkl' : ks'.length = ks.length + 1 := by rw [hks', List.length_append]; simp
        have HKL := Lib.hid hkl'
        clear hks' hkl' nc3 LA la3 la5 e0 e1 e2 e3 e4
        have hsz := hI3.out.low.size
        have hlow : ∀ p : Addr, p.block < w.heap.size → wo.cell? p = w.cell? p := fun p hp => hI3.out.low.cell hp
        have HNB3 : Hid (NdIs wo w.heap.size nb [.int .i64 y0, .int .i64 y1, .string y2, .slice y3 y4 y5, .slice y6 y7 y8]) := NdIs.keep (fun p hp => (hlow p hp).trans (HLW.out p hp).symm) _ _ HNB.out
        have e0 := (hlow (ad.add ((j + 1) * 5)) (by rw [block_of_add]; exact hadw)).trans ((HLW.out _ (by rw [block_of_add]; exact hadw)).symm.trans g0)
        have e1 := (hlow ⟨(ad.add ((j + 1) * 5)).block, (ad.add ((j + 1) * 5)).off + 1, none⟩ (by show (ad.add _).block < _; rw [block_of_add]; exact hadw)).trans ((HLW.out _ (by show (ad.add _).block < _; rw [block_of_add]; exact hadw)).symm.trans g1)
        have e2 := (hlow ⟨(ad.add ((j + 1) * 5)).block, (ad.add ((j + 1) * 5)).off + 2, none⟩ (by show (ad.add _).block < _; rw [block_of_add]; exact hadw)).trans ((HLW.out _ (by show (ad.add _).block < _; rw [block_of_add]; exact hadw)).symm.trans g2)
        have e3 := (hlow ⟨(ad.add ((j + 1) * 5)).block, (ad.add ((j + 1) * 5)).off + 3, none⟩ (by show (ad.add _).block < _; rw [block_of_add]; exact hadw)).trans ((HLW.out _ (by show (ad.add _).block < _; rw [block_of_add]; exact hadw)).symm.trans g3)
        have e4 := (hlow ⟨(ad.add ((j + 1) * 5)).block, (ad.add ((j + 1) * 5)).off + 4, none⟩ (by show (ad.add _).block < _; rw [block_of_add]; exact hadw)).trans ((HLW.out _ (by show (ad.add _).block < _; rw [block_of_add]; exact hadw)).symm.trans g4)
        have hbw2 : ad.block < wo.heap.size := by omega
        have nc4 := hI3.out.node.cell 4
        have LB : Hid (OI w (wo.alloc (.cells #[.int .i64 y0, .int .i64 y1, .string y2, .slice y3 y4 y5, .slice y6 y7 y8] 27)).drew ks' ms K3 kc3 A2 c2 ys) := hI3.out.below ((Below.refl _ _).alloc (Nat.le_refl _) _).drew
        have HNB4 : Hid (NdIs (wo.alloc (.cells #[.int .i64 y0, .int .i64 y1, .string y2, .slice y3 y4 y5, .slice y6 y7 y8] 27)).drew w.heap.size nb [.int .i64 y0, .int .i64 y1, .string y2, .slice y3 y4 y5, .slice y6 y7 y8]) := HNB3.out.below (((Below.refl _ _).alloc hsz _).drew)
        have la4 : (wo.alloc (.cells #[.int .i64 y0, .int .i64 y1, .string y2, .slice y3 y4 y5, .slice y6 y7 y8] 27)).cell? ⟨w.heap.size + 1, 4, none⟩ = some (.slice A2 ms.length c2) := LB.out.node.cell 4
        clear g0 g1 g2 g3 g4 hlow HNB HNB3 HLW
        go_wp2_with fail
        go_region_law (first
          | (refine step_pushNd rfl _ _ rfl (w.heap.size + 2) (.slice A2 ms.length c2) ms.length ys (by rfl) LB.out.own (wo.heap.size + 1) (some ⟨wo.heap.size, 0, none⟩) 1 [.int .i64 y0, .int .i64 y1, .string y2, .slice y3 y4 y5, .slice y6 y7 y8] (by rfl) (node_reads wo _ rfl) cells_one (by omega) LB.out.size ?_; intro v5 w5 p1 p2 p3; obtain ⟨g, cp, rfl, hg1, hg2⟩ := World.ownsRow.form p1 (by omega); have LP := Lib.hid (LB.out.kid HNB4.out p1 p2); have n5 := LB.out.node.grown p2 (fun e => by have := (own_lt LB.out.own e.symm).1; omega); have l5c := n5.cell 4; have l5f := n5.frozen 4; clear n5 p1 p2 p3)
          | (go_simp; fail))
        all_goals
          have HIN := LP
          clear nc4 LB HNB4 la4 e0 e1 e2 e3 e4
          go_wp2_with fail
          go_roundw
          case rel => exact ⟨j + 2, ks', ms ++ [nb], K3, kc3, _, _, _, by omega, by have := HKL.out; omega, by rw [List.length_append]; simp; omega, by go_num, HO2, HIN⟩
          case measure => simp [intOf]; omega
    · have HE : Hid (keysO ns = ks ∧ kidsO ns = ms) := by
        obtain ⟨h1, h2⟩ := hO.out
        have h3 := keysO_end (ns := ns) (j := j) (by omega)
        rw [h3.1, List.append_nil] at h1
        rw [h3.2, List.append_nil] at h2
        exact ⟨h1, h2⟩
      have i3 : ¬ (j : Int) + 1 < (ns.length : Int) := by omega
      obtain ⟨e1, e2⟩ := HE.out
      have HE2 : Hid (objO ns = .mk 7 0 ⟨#[]⟩ ks ms) := by show _ = _; unfold objO; rw [e1, e2]
      have HKS : Hid (∀ t ∈ ks, t.size ≤ maxLen) := by rw [← e1]; exact keysO_text HTX.out
      have HI := hI
      have HGR : Hid (w.grownBy wo (some w.heap.size)) := ⟨hI.out.low.os, hI.out.low.tape, hI.out.low.output, hI.out.low.size, fun i hi _ => hI.out.low.block i hi⟩
      obtain ⟨n0, n1, n2, n3, n4⟩ := hI.out.node.cells5
      obtain ⟨z0, z1, z2, z3, z4⟩ := hI.out.res.cells5
      have f0 := hI.out.res.frozen 0
      have f1 := hI.out.res.frozen 1
      have f2 := hI.out.res.frozen 2
      have f3 := hI.out.res.frozen 3
      have f4 := hI.out.res.frozen 4
      obtain ⟨hfin, hgr, hsz, hot⟩ := laid5 hI.out.res HGR.out (Nat.le_refl _) (.int .i64 7) (.int .i64 0) (.string ⟨#[]⟩) (.slice K ks.length kc) (.slice A2 ms.length c2)
      have HFIN := Lib.hid hfin; have HGF := Lib.hid hgr; have HSZ := Lib.hid hsz; have HOT := Lib.hid hot
      clear hfin hgr hsz hot e1 e2 hO HE
      go_wp2_with fail
      clear f0 f1 f2 f3 f4 z0 z1 z2 z3 z4 n0 n1 n2 n3 n4
      generalize (((((wo.setCell ⟨w.heap.size, 0, none⟩ (.int .i64 7)).setCell ⟨w.heap.size, 1, none⟩ (.int .i64 0)).setCell ⟨w.heap.size, 2, none⟩ (.string ⟨#[]⟩)).setCell ⟨w.heap.size, 3, none⟩ (.slice K ks.length kc)).setCell ⟨w.heap.size, 4, none⟩ (.slice A2 ms.length c2)) = WF at *
      obtain ⟨q0, q1, q2, q3, q4⟩ := HFIN.out.cells5
      refine bodyPost_ret (v := .agg #[.int .i64 7, .int .i64 0, .string ⟨#[]⟩, .slice K ks.length kc, .slice A2 ms.length c2]) (by simp [results, Try.results22, go_sem, q0, q1, q2, q3, q4]) rfl ?_
      refine ⟨_, _, _, _, _, _, _, _, _, rfl, ?_, grown_lo HGF.out (Nat.le_refl _) (Nat.le_refl _)⟩
      rw [HE2.out]
      exact HI.out.is HKS.out (fun b hb => HOT.out b hb) HSZ.out
end Go.Proofs.Ytnhoecmcbikcnaa
/-! The walks of call.Text and of the reference's Text. -/
namespace Go.Proofs.Ytnhoecmcbikcnaa
open Go.RowKit Go.PlainAid
set_option linter.unusedVariables false
set_option linter.unusedSimpArgs false
def textO (n : Nd) (x : ByteArray) : Option ByteArray := match findN n x with
  | none => none
  | some k => if k.kind = 5 then some k.text else none
def TextP (r : Option ByteArray) (w : World) (e : Ending) (w' : World) : Prop := e = .returned (.tuple #[.string (r.getD ⟨#[]⟩), .bool r.isSome]) ∧ Below w.heap.size w w'
theorem TextP.no {r : Option ByteArray} {w : World} {e : Ending} {w' : World} (hr : r = none) (h : e = .returned (.tuple #[.string ⟨#[]⟩, .bool false]) ∧ Below w.heap.size w w') : TextP r w e w' := by subst hr; exact h
theorem TextP.yes {r : Option ByteArray} {s : ByteArray} {w : World} {e : Ending} {w' : World} (hr : r = some s) (h : e = .returned (.tuple #[.string s, .bool true]) ∧ Below w.heap.size w w') : TextP r w e w' := by subst hr; exact h

set_option maxRecDepth 100000 in
set_option maxHeartbeats 1000000 in
theorem kText_any (n : Nd) (x : ByteArray) (cs : List Value) (w : World) (B : Nat) (hn : NdIs w B n cs) (hB : B ≤ w.heap.size) (hs : sizeOk n) : Calls Try.prog 20 #[.agg cs.toArray, .string x] w (TextP (textO n x) w) := by
  obtain ⟨x0, x1, x2, x3, x4, x5, x6, x7, x8, rfl⟩ := (NdIs.in_ _ _ hn).form
  have hB2 : B ≤ (w.alloc (.cells #[.int .i64 x0, .int .i64 x1, .string x2, .slice x3 x4 x5, .slice x6 x7 x8] 27)).heap.size := by simp; omega
  have hal : Below w.heap.size w (w.alloc (.cells #[.int .i64 x0, .int .i64 x1, .string x2, .slice x3 x4 x5, .slice x6 x7 x8] 27)) := (Below.refl _ _).alloc (Nat.le_refl _) _
  have HX := hn.below (hal.mono hB)
  have HF := Lib.hid (cFind_any n x _ _ B HX hB2 hs)
  have HAL := Lib.hid hal
  have HT : Hid (findN n x = none → textO n x = none) := fun h => by unfold textO; rw [h]
  have HT2 : Hid (∀ k, findN n x = some k → textO n x = if k.kind = 5 then some k.text else none) := fun k h => by unfold textO; rw [h]
  generalize textO n x = V at *
  clear hal HX hn hB2
  show Calls Try.prog 20 #[.agg #[_, _, _, _, _], _] w _
  go_enter Try.func20, Try.ntmps20
  go_wp2_with fail
  refine HF.out.mono ?_
  rintro e w1 ⟨u0, u1, u2, u3, u4, u5, u6, u7, u8, rfl, hu, hb⟩
  have HB := Lib.hid (nextB HAL.out hb)
  have hu2 : ∃ B', NdIs w1 B' ((findN n x).getD (nd0 0)) [.int .i64 u0, .int .i64 u1, .string u2, .slice u3 u4 u5, .slice u6 u7 u8] := ⟨_, NdIn.is (fun b hb => hb.2) _ _ hu⟩
  obtain ⟨B', hu3⟩ := hu2
  obtain ⟨k1, k2, -⟩ := NdIs.cells_ hu3
  clear hu hb hu3 HF HAL
  cases hq : findN n x with
  | none =>
    have E := Lib.hid (HT.out hq)
    rw [hq] at k1 k2
    clear HT HT2 hq k1 k2
    go_wp2_with fail
    refine bodyPost_ret (v := .tuple #[.string ⟨#[]⟩, .bool false]) (by simp [results, Try.results20, go_sem]) rfl ?_
    exact TextP.no E.out ⟨rfl, HB.out.alloc HB.out.size _⟩
  | some k =>
    have E := Lib.hid (HT2.out k hq)
    rw [hq] at k1 k2
    replace k1 : u0 = k.kind := k1
    replace k2 : u2 = k.text := k2
    subst k1 k2
    clear HT HT2 hq
    by_cases h5 : k.kind = 5
    · have E1 : Hid (V = some k.text) := by show _ = _; rw [E.out, if_pos h5]
      have h5b : (k.kind != 5) = false := by rw [bne_eq_false_iff_eq]; exact h5
      clear E h5
      go_wp2_with fail
      refine bodyPost_ret (v := .tuple #[.string k.text, .bool true]) (by simp [results, Try.results20, go_sem]) rfl ?_
      exact TextP.yes E1.out ⟨rfl, HB.out.alloc HB.out.size _⟩
    · have E1 : Hid (V = none) := by show _ = _; rw [E.out, if_neg h5]
      have h5b : (k.kind != 5) = true := bne_iff_ne.2 h5
      clear E h5
      go_wp2_with fail
      refine bodyPost_ret (v := .tuple #[.string ⟨#[]⟩, .bool false]) (by simp [results, Try.results20, go_sem]) rfl ?_
      exact TextP.no E1.out ⟨rfl, HB.out.alloc HB.out.size _⟩
set_option maxRecDepth 100000 in
set_option maxHeartbeats 1000000 in
theorem rText_any (n : Nd) (x : ByteArray) (cs : List Value) (w : World) (B : Nat) (hn : NdIs w B n cs) (hB : B ≤ w.heap.size) : Calls Try.prog 21 #[.agg cs.toArray, .string x] w (TextP (textO n x) w) := by
  obtain ⟨x0, x1, x2, x3, x4, x5, x6, x7, x8, rfl⟩ := (NdIs.in_ _ _ hn).form
  have hB2 : B ≤ (w.alloc (.cells #[.int .i64 x0, .int .i64 x1, .string x2, .slice x3 x4 x5, .slice x6 x7 x8] 27)).heap.size := by simp; omega
  have hal : Below w.heap.size w (w.alloc (.cells #[.int .i64 x0, .int .i64 x1, .string x2, .slice x3 x4 x5, .slice x6 x7 x8] 27)) := (Below.refl _ _).alloc (Nat.le_refl _) _
  have HX := hn.below (hal.mono hB)
  have HF := Lib.hid (rFind_any n x _ _ B HX hB2)
  have HAL := Lib.hid hal
  have HT : Hid (findN n x = none → textO n x = none) := fun h => by unfold textO; rw [h]
  have HT2 : Hid (∀ k, findN n x = some k → textO n x = if k.kind = 5 then some k.text else none) := fun k h => by unfold textO; rw [h]
  generalize textO n x = V at *
  clear hal HX hn hB2
  show Calls Try.prog 21 #[.agg #[_, _, _, _, _], _] w _
  go_enter Try.func21, Try.ntmps21
  go_wp2_with fail
  refine HF.out.mono ?_
  rintro e w1 ⟨u0, u1, u2, u3, u4, u5, u6, u7, u8, rfl, hu, hb⟩
  have HB := Lib.hid (nextB HAL.out hb)
  have hu2 : ∃ B', NdIs w1 B' ((findN n x).getD (nd0 0)) [.int .i64 u0, .int .i64 u1, .string u2, .slice u3 u4 u5, .slice u6 u7 u8] := ⟨_, hu⟩
  obtain ⟨B', hu3⟩ := hu2
  obtain ⟨k1, k2, -⟩ := NdIs.cells_ hu3
  clear hu hb hu3 HF HAL
  cases hq : findN n x with
  | none =>
    have E := Lib.hid (HT.out hq)
    rw [hq] at k1 k2
    clear HT HT2 hq k1 k2
    go_wp2_with fail
    refine bodyPost_ret (v := .tuple #[.string ⟨#[]⟩, .bool false]) (by simp [results, Try.results21, go_sem]) rfl ?_
    exact TextP.no E.out ⟨rfl, HB.out.alloc HB.out.size _⟩
  | some k =>
    have E := Lib.hid (HT2.out k hq)
    rw [hq] at k1 k2
    replace k1 : u0 = k.kind := k1
    replace k2 : u2 = k.text := k2
    subst k1 k2
    clear HT HT2 hq
    by_cases h5 : k.kind = 5
    · have E1 : Hid (V = some k.text) := by show _ = _; rw [E.out, if_pos h5]
      have h5b : (k.kind != 5) = false := by rw [bne_eq_false_iff_eq]; exact h5
      clear E h5
      go_wp2_with fail
      refine bodyPost_ret (v := .tuple #[.string k.text, .bool true]) (by simp [results, Try.results21, go_sem]) rfl ?_
      exact TextP.yes E1.out ⟨rfl, HB.out.alloc HB.out.size _⟩
    · have E1 : Hid (V = none) := by show _ = _; rw [E.out, if_neg h5]
      have h5b : (k.kind != 5) = true := bne_iff_ne.2 h5
      clear E h5
      go_wp2_with fail
      refine bodyPost_ret (v := .tuple #[.string ⟨#[]⟩, .bool false]) (by simp [results, Try.results21, go_sem]) rfl ?_
      exact TextP.no E1.out ⟨rfl, HB.out.alloc HB.out.size _⟩
end Go.Proofs.Ytnhoecmcbikcnaa
/-! A node that came in, opened to cells; arguments read behind the call as before. -/
namespace Go.Proofs.Ytnhoecmcbikcnaa
open Go.RowKit
set_option linter.unusedVariables false
set_option linter.unusedSimpArgs false
theorem list_of {α : Type} : ∀ (n : Nat) (p : Nat → α → Prop), (∀ i, i < n → ∃ a, p i a) → ∃ l : List α, l.length = n ∧ ∀ i a, l[i]? = some a → p i a
  | 0, p, h => ⟨[], rfl, fun i a hi => by simp at hi⟩
  | n + 1, p, h => by
    obtain ⟨a, ha⟩ := h 0 (by omega)
    obtain ⟨l, hl, hp⟩ := list_of n (fun i => p (i + 1)) (fun i hi => h (i + 1) (by omega))
    refine ⟨a :: l, by simp [hl], fun i b hi => ?_⟩
    cases i with
    | zero => simp at hi; subst hi; exact ha
    | succ i => exact hp i b (by simpa using hi)
theorem cellsStr : Try.prog.cellsOf 9 = 1 := by kernel_rfl
theorem cellsInt : Try.prog.cellsOf 3 = 1 := by kernel_rfl
theorem cellsStrs : Try.prog.cellsOf 24 = 1 := by kernel_rfl
theorem cellsNodes : Try.prog.cellsOf 25 = 1 := by kernel_rfl
theorem cellsNode : Try.prog.cellsOf 27 = 5 := by kernel_rfl
theorem flat_reads {w : World} {a : Addr} : ∀ (l : List (List Value)) (k : Nat), (∀ (i : Nat) (c : List Value), l[i]? = some c → c.length = 5 ∧ ∀ r, r < 5 → w.cell? (a.add ((k + i) * 5 + r)) = c[r]?) → ∀ (j : Nat) (u : Value), l.flatten[j]? = some u → w.cell? (a.add (k * 5 + j)) = some u
  | [], k, h, j, u, hj => by simp at hj
  | c :: l, k, h, j, u, hj => by
    obtain ⟨h5, hc⟩ := h 0 c rfl
    rw [List.flatten_cons] at hj
    by_cases hlt : j < 5
    · rw [List.getElem?_append_left (by omega)] at hj
      rw [← hj, ← hc j hlt, Nat.add_zero]
    · rw [List.getElem?_append_right (by omega), h5] at hj
      have := flat_reads l (k + 1) (fun i c hi => by
        have := h (i + 1) c (by simpa using hi)
        rw [show k + 1 + i = k + (i + 1) by omega]; exact this) (j - 5) u hj
      rw [← this]
      congr 2
      omega
theorem nds_flat {w : World} {B : Nat} : ∀ (l : List (Nd × List Value)), (∀ p ∈ l, NdIs w B p.1 p.2) → NdsIs w B (l.map (·.1)) (l.map (·.2)).flatten
  | [], h => by unfold NdsIs; rfl
  | p :: l, h => by
    show NdsIs w B (p.1 :: l.map (·.1)) _
    unfold NdsIs
    exact ⟨p.2, (l.map (·.2)).flatten, rfl, h p (by simp), nds_flat l (fun q hq => h q (by simp [hq]))⟩
theorem len_flat : ∀ (l : List (List Value)), (∀ c ∈ l, c.length = 5) → l.flatten.length = l.length * 5
  | [], h => rfl
  | c :: l, h => by
    have := len_flat l (fun c hc => h c (by simp [hc]))
    rw [List.flatten_cons, List.length_append, this, h c (by simp), List.length_cons]; omega
section
variable {H : Type} {enc : TypeId × Value → H} {w : World} {sp : Nat → Bool} {held : Bool}
theorem cell_lt {a : Addr} {v : Value} (h : w.cell? a = some v) : a.block < w.heap.size := by
  rcases Nat.lt_or_ge a.block w.heap.size with h' | h'
  · exact h'
  · unfold World.cell? at h
    rw [Array.getElem?_eq_none h'] at h
    simp at h
theorem strs_of_trod {fuel : Nat} {cs : List Value} {x : DataW H × List MemPlace} (h : DataW.trod enc Try.prog w 0 sp held fuel 24 cs = some x) :
    ∃ (A : Option Addr) (c : Nat) (ks : List ByteArray), cs = [.slice A ks.length c] ∧ Reads w w.heap.size 1 A ks.length (ks.map Value.string) ∧ (∀ s ∈ ks, s.size ≤ maxLen) ∧ ks.length ≤ maxLen := by
  rcases Deep.open_slice Try.underlying24 h with ⟨rfl, rfl⟩ | ⟨a, len, cap, m, n, D, Pl, rfl, _, hl, hm, hmm, rfl, hi⟩
  · exact ⟨none, 0, [], rfl, Reads.none_, by simp, by simp [maxLen]⟩
  · have hlm : len ≤ m := by rw [hmm]; split <;> omega
    obtain ⟨ks, hk, hp⟩ := list_of len (fun i (s : ByteArray) => w.cell? (a.add i) = some (.string s) ∧ s.size ≤ maxLen) (fun i hi' => by
      obtain ⟨cs', hc, ht⟩ := hi i (by omega)
      rw [cellsStr, Nat.mul_one] at hc
      obtain ⟨s, rfl, _, hs⟩ := DataW.trod_string Try.underlying9 ht
      obtain ⟨_, _, hc⟩ := World.cells?_some hc
      exact ⟨s, by have := hc 0 (by omega); rw [show (a.add i).add 0 = a.add i by simp [Addr.add]] at this; exact this, hs⟩)
    subst hk
    refine ⟨some a, cap, ks, rfl, ⟨by simp, fun hn => ⟨a, rfl, ?_, fun j u hj => ?_⟩⟩, fun s hs => ?_, by omega⟩
    · have := (hp 0 ks[0] (List.getElem?_eq_getElem hn)).1
      have := cell_lt this
      rw [block_of_add] at this; exact this
    · rw [List.getElem?_map] at hj
      cases hk : ks[j]? with
      | none => rw [hk] at hj; simp at hj
      | some s => rw [hk] at hj; simp at hj; subst hj; exact (hp j s hk).1
    · obtain ⟨j, hj⟩ := List.getElem?_of_mem hs
      exact (hp j s hj).2
theorem wf_I64 {n : Int} (h : (Lit.int .i64 n).wf = true) : I64 n := bounds_i64 h
set_option maxRecDepth 100000 in
theorem nd_of_trod : ∀ (k fuel : Nat), fuel ≤ k → ∀ (cs : List Value) (x : DataW H × List MemPlace), DataW.trod enc Try.prog w 0 sp held fuel 27 cs = some x → ∃ n, NdIs w w.heap.size n cs := by
  intro k
  induction k with
  | zero =>
    intro fuel hf cs x h
    obtain rfl : fuel = 0 := by omega
    simp [DataW.trod] at h
  | succ k ih =>
    intro fuel hf cs x h
    obtain ⟨xs, n, rfl, rfl, hl, hxl, hfld⟩ := DataW.trod_struct Try.underlying27 h
    rw [cellsNode] at hl
    have h0 : DataW.trod enc Try.prog w 0 sp held n 3 ((cs.drop 0).take (Try.prog.cellsOf 3)) = xs[0]? := hfld 0 _ rfl
    have h1 : DataW.trod enc Try.prog w 0 sp held n 3 ((cs.drop 1).take (Try.prog.cellsOf 3)) = xs[1]? := hfld 1 _ rfl
    have h2 : DataW.trod enc Try.prog w 0 sp held n 9 ((cs.drop 2).take (Try.prog.cellsOf 9)) = xs[2]? := hfld 2 _ rfl
    have h3 : DataW.trod enc Try.prog w 0 sp held n 24 ((cs.drop 3).take (Try.prog.cellsOf 24)) = xs[3]? := hfld 3 _ rfl
    have h4 : DataW.trod enc Try.prog w 0 sp held n 25 ((cs.drop 4).take (Try.prog.cellsOf 25)) = xs[4]? := hfld 4 _ rfl
    rw [cellsInt] at h0 h1
    rw [cellsStr] at h2
    rw [cellsStrs] at h3
    rw [cellsNodes] at h4
    clear hfld h
    have hxl : xs.length = 5 := hxl
    match cs, hl with
    | [c0, c1, c2, c3, c4], _ =>
      match xs, hxl with
      | [y0, y1, y2, y3, y4], _ =>
        simp only [List.drop_succ_cons, List.drop_zero, List.take_succ_cons, List.take_zero, List.getElem?_cons_zero, List.getElem?_cons_succ] at h0 h1 h2 h3 h4
        obtain ⟨n0, e0, _, w0⟩ := DataW.trod_int Try.underlying3 h0
        obtain ⟨n1, e1, _, w1⟩ := DataW.trod_int Try.underlying3 h1
        obtain ⟨t, e2, _, w2⟩ := DataW.trod_string Try.underlying9 h2
        obtain ⟨A, ck, ks, e3, r3, s3, l3⟩ := strs_of_trod h3
        obtain rfl : c0 = .int .i64 n0 := by simpa using e0
        obtain rfl : c1 = .int .i64 n1 := by simpa using e1
        obtain rfl : c2 = .string t := by simpa using e2
        obtain rfl : c3 = .slice A ks.length ck := by simpa using e3
        rcases DataW.trod_slice Try.underlying25 h4 with ⟨e4, _⟩ | ⟨a, len, cap, elems, rest, n', rfl, e4, _, _, hlc, hcm, hel, hget, _, _⟩
        · obtain rfl : c4 = .slice none 0 0 := by simpa using e4
          refine ⟨.mk n0 n1 t ks [], ?_⟩
          unfold NdIs
          exact ⟨A, ck, none, 0, [], rfl, r3, Reads.none_, (by unfold NdsIs; rfl), wf_I64 w0, wf_I64 w1, w2, s3, l3, by simp [maxLen]⟩
        · obtain rfl : c4 = .slice (some a) len cap := by simpa using e4
          obtain ⟨l, hll, hp⟩ := list_of len (fun i (p : Nd × List Value) => NdIs w w.heap.size p.1 p.2 ∧ p.2.length = 5 ∧ ∀ r, r < 5 → w.cell? (a.add (i * 5 + r)) = p.2[r]?) (fun i hi => by
            have hg := hget i hi
            rw [List.getElem?_eq_getElem (by omega)] at hg
            obtain ⟨cs', g1, g2⟩ := Option.bind_eq_some_iff.1 hg
            rw [cellsNode] at g1
            obtain ⟨_, g3, g4⟩ := World.cells?_some g1
            obtain ⟨m, hm⟩ := ih n' (by omega) cs' _ g2
            exact ⟨(m, cs'), hm, g3, fun r hr => by have := g4 r hr; rw [add_of_add] at this; exact this⟩)
          subst hll
          refine ⟨.mk n0 n1 t ks (l.map (·.1)), ?_⟩
          unfold NdIs
          have hfr := flat_reads (w := w) (a := a) (l.map (·.2)) 0 (fun i c hc => by
            rw [List.getElem?_map] at hc
            cases hk : l[i]? with
            | none => rw [hk] at hc; simp at hc
            | some p => rw [hk] at hc; simp at hc; subst hc; rw [Nat.zero_add]; exact (hp i p hk).2)
          refine ⟨A, ck, some a, cap, (l.map (·.2)).flatten, (by simp), r3, ⟨?_, fun hn => ⟨a, rfl, ?_, fun j u hj => ?_⟩⟩, ?_, wf_I64 w0, wf_I64 w1, w2, s3, l3, (by simp; omega)⟩
          · rw [len_flat]
            · simp
            · intro c hc
              obtain ⟨p, hp', rfl⟩ := List.mem_map.1 hc
              obtain ⟨i, hi⟩ := List.getElem?_of_mem hp'
              exact (hp i p hi).2.1
          · simp at hn
            have hq := hp 0 l[0] (List.getElem?_eq_getElem hn)
            have h5 := hq.2.1
            have := hq.2.2 0 (by omega)
            rw [List.getElem?_eq_getElem (by omega)] at this
            have := cell_lt this
            rw [block_of_add] at this; exact this
          · have := hfr j u hj
            rw [show 0 * 5 + j = j by omega] at this; exact this
          · refine nds_flat l (fun p hp' => ?_)
            obtain ⟨i, hi⟩ := List.getElem?_of_mem hp'
            exact (hp i p hi).1
end
section
open Go.ChangeShapes Go.WideShapes
variable {H : Type} {enc : TypeId × Value → H} {W W' : World}
set_option maxRecDepth 100000 in
/-- a node that came in -/
theorem open_node {r : Reach} {b0 : Nat} {sp : Nat → Bool} {held : Bool} {v : Value} {d : DataW H} {p : List MemPlace} (hv : Value.okWide Try.prog W r b0 27 v) (h : DataW.Trod enc Try.prog W 0 sp held 27 v d p) :
    ∃ n cs, v = .agg cs.toArray ∧ NdIs W W.heap.size n cs := by
  obtain ⟨cs, rfl, _⟩ := okWide_struct Try.underlying27 hv
  obtain ⟨fuel, hf⟩ := h
  obtain ⟨n, hn⟩ := nd_of_trod fuel fuel (Nat.le_refl _) _ _ hf
  exact ⟨n, cs.toList, by simp, by simpa [Value.cells] using hn⟩
theorem kids : Kids Try.prog (· < Try.prog.types.size) := kids_rows (by kernel_rfl) (by kernel_rfl)
theorem full : ∀ t e, t < Try.prog.types.size → Try.prog.underlying t = some (.slice e) → 0 < Try.prog.cellsOf e := slices_full_of _ (by kernel_rfl)
theorem all_carry : ∀ {ts : List TypeId} {vs : List Value} {ds : List (DataW H)} {ps : List MemPlace} {sp : Nat → Bool}, DataW.TrodAll enc Try.prog W 0 sp true ts vs ds ps → (∀ p ∈ ps, W.sameAt W' p) → DataW.TrodAll enc Try.prog W' 0 sp true ts vs ds ps
  | [], [], [], _, _, h, _ => h
  | _ :: _, _ :: _, _ :: _, _, _, ⟨p, q, ⟨n, h1⟩, h2, e⟩, hs => ⟨p, q, ⟨n, DataW.trod_carry n _ _ _ h1 (fun x hx => hs x (by rw [e]; exact List.mem_append_left _ hx))⟩, all_carry h2 (fun x hx => hs x (by rw [e]; exact List.mem_append_right _ hx)), e⟩
/-- arguments read behind the call as before -/
theorem args_again {ts : List TypeId} {vs : List Value} {ds : List (DataW H)} {ps : List MemPlace} (hT : ∀ t ∈ ts, t < Try.prog.types.size) (h : DataW.TrodAll enc Try.prog W 0 (fun _ => true) true ts vs ds ps) (hlt : ∀ p ∈ ps, p.block < W.heap.size)
    (hb : Below W.heap.size W W') (sp : Nat → Bool) (hs : ∀ p ∈ ps, sp p.block = true) : DataW.TrodAll enc Try.prog W' 0 sp true ts vs ds ps := by
  refine all_carry (DataW.TrodAll.respare kids full hT h hs) (fun p hp => ?_)
  have := hlt p hp
  cases p with
  | cell b off => exact hb.cell this
  | map b => exact hb.block b this
end
end Go.Proofs.Ytnhoecmcbikcnaa
/-! A slice of nodes that came in. -/
namespace Go.Proofs.Ytnhoecmcbikcnaa
open Go.RowKit
set_option linter.unusedVariables false
set_option linter.unusedSimpArgs false
section
variable {H : Type} {enc : TypeId × Value → H} {w : World} {sp : Nat → Bool} {held : Bool}
set_option maxRecDepth 100000 in
theorem nds_of_trod {fuel : Nat} {cs : List Value} {x : DataW H × List MemPlace} (h : DataW.trod enc Try.prog w 0 sp held fuel 25 cs = some x) :
    ∃ (A : Option Addr) (c : Nat) (ns : List Nd) (xs : List Value), cs = [.slice A ns.length c] ∧ Reads w w.heap.size 5 A ns.length xs ∧ NdsIs w w.heap.size ns xs ∧ ns.length ≤ maxLen := by
  rcases DataW.trod_slice Try.underlying25 h with ⟨rfl, _⟩ | ⟨a, len, cap, elems, rest, n', rfl, rfl, _, _, hlc, hcm, hel, hget, _, _⟩
  · exact ⟨none, 0, [], [], rfl, Reads.none_, (by unfold NdsIs; rfl), by simp [maxLen]⟩
  · obtain ⟨l, hll, hp⟩ := list_of len (fun i (p : Nd × List Value) => NdIs w w.heap.size p.1 p.2 ∧ p.2.length = 5 ∧ ∀ r, r < 5 → w.cell? (a.add (i * 5 + r)) = p.2[r]?) (fun i hi => by
      have hg := hget i hi
      rw [List.getElem?_eq_getElem (by omega)] at hg
      obtain ⟨cs', g1, g2⟩ := Option.bind_eq_some_iff.1 hg
      rw [cellsNode] at g1
      obtain ⟨_, g3, g4⟩ := World.cells?_some g1
      obtain ⟨m, hm⟩ := nd_of_trod n' n' (Nat.le_refl _) cs' _ g2
      exact ⟨(m, cs'), hm, g3, fun r hr => by have := g4 r hr; rw [add_of_add] at this; exact this⟩)
    subst hll
    have hfr := flat_reads (w := w) (a := a) (l.map (·.2)) 0 (fun i c hc => by
      rw [List.getElem?_map] at hc
      cases hk : l[i]? with
      | none => rw [hk] at hc; simp at hc
      | some p => rw [hk] at hc; simp at hc; subst hc; rw [Nat.zero_add]; exact (hp i p hk).2)
    refine ⟨some a, cap, l.map (·.1), (l.map (·.2)).flatten, (by simp), ⟨?_, fun hn => ⟨a, rfl, ?_, fun j u hj => ?_⟩⟩, ?_, by simp; omega⟩
    · rw [len_flat]
      · simp
      · intro c hc
        obtain ⟨p, hp', rfl⟩ := List.mem_map.1 hc
        obtain ⟨i, hi⟩ := List.getElem?_of_mem hp'
        exact (hp i p hi).2.1
    · simp at hn
      have hq := hp 0 l[0] (List.getElem?_eq_getElem hn)
      have h5 := hq.2.1
      have := hq.2.2 0 (by omega)
      rw [List.getElem?_eq_getElem (by omega)] at this
      have := cell_lt this
      rw [block_of_add] at this; exact this
    · have := hfr j u hj
      rw [show 0 * 5 + j = j by omega] at this; exact this
    · refine nds_flat l (fun p hp' => ?_)
      obtain ⟨i, hi⟩ := List.getElem?_of_mem hp'
      exact (hp i p hi).1
end
section
open Go.ChangeShapes Go.WideShapes
variable {H : Type} {enc : TypeId × Value → H} {W W' : World}
theorem open_nodes {r : Reach} {b0 : Nat} {sp : Nat → Bool} {held : Bool} {v : Value} {d : DataW H} {p : List MemPlace} (hv : Value.okWide Try.prog W r b0 25 v) (h : DataW.Trod enc Try.prog W 0 sp held 25 v d p) :
    ∃ (A : Option Addr) (c : Nat) (ns : List Nd) (xs : List Value), v = .slice A ns.length c ∧ Reads W W.heap.size 5 A ns.length xs ∧ NdsIs W W.heap.size ns xs ∧ ns.length ≤ 9223372036854775807 := by
  obtain ⟨A, l, c, rfl⟩ := okWide_slice Try.underlying25 hv
  obtain ⟨fuel, hf⟩ := h
  obtain ⟨A', c', ns, xs, e, h1, h2, h3⟩ := nds_of_trod hf
  simp [Value.cells] at e
  obtain ⟨rfl, rfl, rfl⟩ := e
  exact ⟨A, c, ns, xs, rfl, h1, h2, by simp only [maxLen] at h3; omega⟩
end
end Go.Proofs.Ytnhoecmcbikcnaa
/-! A call's array has its three kinds. -/
namespace Go.Proofs.Ytnhoecmcbikcnaa
open Go.RowKit Go.PlainAid
set_option linter.unusedVariables false
set_option linter.unusedSimpArgs false
theorem ints_reads (w : World) (g : Nat) (ks : List Int) (h : Blk w g 3 (ks.map (Value.int .i64)).toArray) : Reads w (g + 1) 1 (some ⟨g, 0, none⟩) ks.length (ks.map (Value.int .i64)) := by
  refine ⟨by simp, fun _ => ⟨_, rfl, by simp, fun j u hj => ?_⟩⟩
  have e : (⟨g, 0, none⟩ : Addr).add j = ⟨g, j, none⟩ := by unfold Addr.add; split <;> simp_all
  rw [e, h.cell]
  simpa using hj
set_option maxRecDepth 100000 in
set_option maxHeartbeats 400000 in
theorem kRead2_any (n : Nd) (cs : List Value) (w : World) (B : Nat) (hn : NdIs w B n cs) (hB : B ≤ w.heap.size) : FnN 32 cs.toArray (!kindsK n [5, 7, 5]) w := by
  have hn2 := hn
  obtain ⟨A, ck, A2, cc, xs, rfl, _⟩ := hn.open_
  have hW := Below.refl w.heap.size w
  have hb1 := hW.alloc (Nat.le_refl _) (.cells #[.int .i64 n.kind, .int .i64 n.num, .string n.text, .slice A n.keys.length ck, .slice A2 n.kids.length cc] 27)
  have hb2 := hb1.alloc hb1.size (.cells #[.int .i64 5, .int .i64 7, .int .i64 5] 3)
  have HK : Hid (Calls Try.prog 33 #[.agg #[.int .i64 n.kind, .int .i64 n.num, .string n.text, .slice A n.keys.length ck, .slice A2 n.kids.length cc], .slice (some ⟨w.heap.size + 1, 0, none⟩) 3 3] ((w.alloc (.cells #[.int .i64 n.kind, .int .i64 n.num, .string n.text, .slice A n.keys.length ck, .slice A2 n.kids.length cc] 27)).alloc (.cells #[.int .i64 5, .int .i64 7, .int .i64 5] 3)) (BoolBel (kindsK n [5, 7, 5]) ((w.alloc (.cells #[.int .i64 n.kind, .int .i64 n.num, .string n.text, .slice A n.keys.length ck, .slice A2 n.kids.length cc] 27)).alloc (.cells #[.int .i64 5, .int .i64 7, .int .i64 5] 3)))) := by
    have hbk : Blk ((w.alloc (.cells #[.int .i64 n.kind, .int .i64 n.num, .string n.text, .slice A n.keys.length ck, .slice A2 n.kids.length cc] 27)).alloc (.cells #[.int .i64 5, .int .i64 7, .int .i64 5] 3)) (w.heap.size + 1) 3 (([5, 7, 5] : List Int).map (Value.int .i64)).toArray := by
      have := Blk.new (w.alloc (.cells #[.int .i64 n.kind, .int .i64 n.num, .string n.text, .slice A n.keys.length ck, .slice A2 n.kids.length cc] 27)) 3 #[.int .i64 5, .int .i64 7, .int .i64 5]
      rw [show (w.alloc (.cells #[.int .i64 n.kind, .int .i64 n.num, .string n.text, .slice A n.keys.length ck, .slice A2 n.kids.length cc] 27)).heap.size = w.heap.size + 1 by simp] at this
      exact this
    have HN : NdIs ((w.alloc (.cells #[.int .i64 n.kind, .int .i64 n.num, .string n.text, .slice A n.keys.length ck, .slice A2 n.kids.length cc] 27)).alloc (.cells #[.int .i64 5, .int .i64 7, .int .i64 5] 3)) (w.heap.size + 1 + 1) n [.int .i64 n.kind, .int .i64 n.num, .string n.text, .slice A n.keys.length ck, .slice A2 n.kids.length cc] := NdIs.more (by omega) _ _ (hn2.below (hb2.mono hB))
    exact kkinds_any n _ [5, 7, 5] (some ⟨w.heap.size + 1, 0, none⟩) 3 _ (w.heap.size + 1 + 1) HN (ints_reads _ _ [5, 7, 5] hbk) (by simp) (by simp)
  have HB2 := Lib.hid hb2
  show Calls Try.prog 32 #[.agg #[_, _, _, _, _]] w (BoolBel _ w)
  clear hn hn2 hb1 hb2
  generalize kindsK n [5, 7, 5] = b at *
  go_enter Try.func32, Try.ntmps32
  go_wp2_with fail
  refine HK.out.mono ?_; rintro e w1 ⟨rfl, hw1⟩
  have HW1 := Lib.hid (nextB HB2.out hw1)
  clear hw1
  go_wp2_with fail
  go_ret
  exact ⟨rfl, HW1.out⟩
end Go.Proofs.Ytnhoecmcbikcnaa
/-! slices.IndexFunc, ContainsFunc of call.Read's closures. -/
namespace Go.Proofs.Ytnhoecmcbikcnaa
open Go.RowKit Go.PlainAid
set_option linter.unusedVariables false
set_option linter.unusedSimpArgs false
theorem any_at (ns : List Nd) (p : Nd → Bool) (i : Nat) (n : Nd) (h : ns[i]? = some n) : (ns.drop i).any p = (p n || (ns.drop (i + 1)).any p) := by
  rw [List.drop_eq_getElem_cons (List.getElem?_eq_some_iff.1 h).1, (List.getElem?_eq_some_iff.1 h).2, List.any_cons]
set_option maxRecDepth 100000 in
set_option maxHeartbeats 1000000 in
theorem sIndexFunc_kRead1 (p : Nd → Bool) (ns : List Nd) (A : Option Addr) (cc : Nat) (xs : List Value) (w : World) (B : Nat) (hxs : Reads w B 5 A ns.length xs) (hns : NdsIs w B ns xs) (hB : B ≤ w.heap.size) (hk : ns.length ≤ 9223372036854775807)
    (HIH : Hid (∀ (n : Nd) (cs : List Value) (w' : World), NdIs w' B n cs → B ≤ w'.heap.size → FnN 31 cs.toArray (p n) w')) :
    Calls Try.prog 55 #[.slice A ns.length cc, .func (.func 31) #[] #[]] w (IdxPost (!ns.any p) w) := by
  have hW := Below.refl w.heap.size w
  obtain ⟨V, hV⟩ : ∃ V, V = ns.any p := ⟨_, rfl⟩
  rw [← hV]
  have HV : Hid (V = (ns.drop 0).any p) := hV
  have HXS := Lib.hid hxs
  have HNS := Lib.hid hns
  clear hxs hns hV
  go_enter Try.func55, Try.ntmps55
  go_wp2_with fail
  go_loopw [8] (fun t wr => ∃ (i : Nat), i ≤ ns.length ∧ t = .int .i64 i ∧ Hid (V = (ns.drop i).any p) ∧ Below w.heap.size w wr) (fun t _ => ns.length - (intOf t).toNat)
  case atStart => exact ⟨0, by omega, rfl, HV, hW⟩
  case round =>
    clear hW
    obtain ⟨i, hi, rfl, hv, hW⟩ := hrel
    obtain ⟨wo, rfl⟩ : ∃ wo : World, wo = wr := ⟨_, rfl⟩
    have hsz := hW.size
    by_cases hlt : i < ns.length
    · have hkeep : ∀ p : Addr, p.block < B → wo.cell? p = w.cell? p := fun p hp => hW.cell (by omega)
      obtain ⟨ad, n, v0, v1, v2, v3, v4, rfl, hadb, hni, hnd, e0, e1, e2, e3, e4⟩ := (HXS.out.keep hkeep).nd (NdsIs.keep hkeep _ _ HNS.out) hlt
      have HSTEP := Lib.hid (any_at ns p i n hni)
      have HO : Hid (∀ w', Below wo.heap.size wo w' → FnN 31 #[v0, v1, v2, v3, v4] (p n) w') := fun w' hb =>
        HIH.out n [v0, v1, v2, v3, v4] w' (hnd.below (hb.mono (by omega))) (by have := hb.size; omega)
      clear hni hnd hkeep
      generalize p n = b at *
      go_wp2_with fail
      refine (HO.out _ (Below.refl _ _)).mono ?_; rintro e w1 ⟨rfl, hw1⟩
      cases b with
      | true =>
        have HE : Hid (V = true) := by show _ = _; rw [hv.out, HSTEP.out]; rfl
        go_wp2_with fail
        go_ret
        exact ⟨_, rfl, by rw [HE.out]; simp, hW.trans (hw1.mono hsz)⟩
      | false =>
        have HE : Hid (V = (ns.drop (i + 1)).any p) := by show _ = _; rw [hv.out, HSTEP.out]; rfl
        go_wp2_with fail
        go_roundw
        case rel => exact ⟨i + 1, by omega, by go_num, HE, hW.trans (hw1.mono hsz)⟩
        case measure => simp [intOf]; omega
    · have HE : Hid (V = false) := by
        show _ = _
        rw [hv.out, List.drop_eq_nil_of_le (by omega)]; rfl
      go_wp2_with fail
      go_ret
      exact ⟨_, rfl, by rw [HE.out]; rfl, hW⟩
set_option maxRecDepth 100000 in
set_option maxHeartbeats 1000000 in
theorem sContainsFunc_kRead1 (p : Nd → Bool) (ns : List Nd) (A : Option Addr) (cc : Nat) (xs : List Value) (w : World) (B : Nat) (hxs : Reads w B 5 A ns.length xs) (hns : NdsIs w B ns xs) (hB : B ≤ w.heap.size) (hk : ns.length ≤ 9223372036854775807)
    (HIH : Hid (∀ (n : Nd) (cs : List Value) (w' : World), NdIs w' B n cs → B ≤ w'.heap.size → FnN 31 cs.toArray (p n) w')) :
    Calls Try.prog 34 #[.slice A ns.length cc, .func (.func 31) #[] #[]] w (BoolBel (ns.any p) w) := by
  have HC := Lib.hid (sIndexFunc_kRead1 p ns A cc xs w B hxs hns hB hk HIH)
  clear hxs hns HIH
  generalize ns.any p = V at *
  go_enter Try.func34, Try.ntmps34
  go_wp2_with fail
  refine HC.out.mono ?_; rintro e w1 ⟨v, rfl, hv, hw1⟩
  go_wp2_with fail
  go_ret
  exact ⟨by first | (rw [← Bool.not_not (b := V), ← hv]; rfl) | (rw [hv]; simp) | (simp [hv]), hw1⟩
set_option maxRecDepth 100000 in
set_option maxHeartbeats 1000000 in
theorem sIndexFunc_kRead2 (p : Nd → Bool) (ns : List Nd) (A : Option Addr) (cc : Nat) (xs : List Value) (w : World) (B : Nat) (hxs : Reads w B 5 A ns.length xs) (hns : NdsIs w B ns xs) (hB : B ≤ w.heap.size) (hk : ns.length ≤ 9223372036854775807)
    (HIH : Hid (∀ (n : Nd) (cs : List Value) (w' : World), NdIs w' B n cs → B ≤ w'.heap.size → FnN 32 cs.toArray (p n) w')) :
    Calls Try.prog 55 #[.slice A ns.length cc, .func (.func 32) #[] #[]] w (IdxPost (!ns.any p) w) := by
  have hW := Below.refl w.heap.size w
  obtain ⟨V, hV⟩ : ∃ V, V = ns.any p := ⟨_, rfl⟩
  rw [← hV]
  have HV : Hid (V = (ns.drop 0).any p) := hV
  have HXS := Lib.hid hxs
  have HNS := Lib.hid hns
  clear hxs hns hV
  go_enter Try.func55, Try.ntmps55
  go_wp2_with fail
  go_loopw [8] (fun t wr => ∃ (i : Nat), i ≤ ns.length ∧ t = .int .i64 i ∧ Hid (V = (ns.drop i).any p) ∧ Below w.heap.size w wr) (fun t _ => ns.length - (intOf t).toNat)
  case atStart => exact ⟨0, by omega, rfl, HV, hW⟩
  case round =>
    clear hW
    obtain ⟨i, hi, rfl, hv, hW⟩ := hrel
    obtain ⟨wo, rfl⟩ : ∃ wo : World, wo = wr := ⟨_, rfl⟩
    have hsz := hW.size
    by_cases hlt : i < ns.length
    · have hkeep : ∀ p : Addr, p.block < B → wo.cell? p = w.cell? p := fun p hp => hW.cell (by omega)
      obtain ⟨ad, n, v0, v1, v2, v3, v4, rfl, hadb, hni, hnd, e0, e1, e2, e3, e4⟩ := (HXS.out.keep hkeep).nd (NdsIs.keep hkeep _ _ HNS.out) hlt
      have HSTEP := Lib.hid (any_at ns p i n hni)
      have HO : Hid (∀ w', Below wo.heap.size wo w' → FnN 32 #[v0, v1, v2, v3, v4] (p n) w') := fun w' hb =>
        HIH.out n [v0, v1, v2, v3, v4] w' (hnd.below (hb.mono (by omega))) (by have := hb.size; omega)
      clear hni hnd hkeep
      generalize p n = b at *
      go_wp2_with fail
      refine (HO.out _ (Below.refl _ _)).mono ?_; rintro e w1 ⟨rfl, hw1⟩
      cases b with
      | true =>
        have HE : Hid (V = true) := by show _ = _; rw [hv.out, HSTEP.out]; rfl
        go_wp2_with fail
        go_ret
        exact ⟨_, rfl, by rw [HE.out]; simp, hW.trans (hw1.mono hsz)⟩
      | false =>
        have HE : Hid (V = (ns.drop (i + 1)).any p) := by show _ = _; rw [hv.out, HSTEP.out]; rfl
        go_wp2_with fail
        go_roundw
        case rel => exact ⟨i + 1, by omega, by go_num, HE, hW.trans (hw1.mono hsz)⟩
        case measure => simp [intOf]; omega
    · have HE : Hid (V = false) := by
        show _ = _
        rw [hv.out, List.drop_eq_nil_of_le (by omega)]; rfl
      go_wp2_with fail
      go_ret
      exact ⟨_, rfl, by rw [HE.out]; rfl, hW⟩
set_option maxRecDepth 100000 in
set_option maxHeartbeats 1000000 in
theorem sContainsFunc_kRead2 (p : Nd → Bool) (ns : List Nd) (A : Option Addr) (cc : Nat) (xs : List Value) (w : World) (B : Nat) (hxs : Reads w B 5 A ns.length xs) (hns : NdsIs w B ns xs) (hB : B ≤ w.heap.size) (hk : ns.length ≤ 9223372036854775807)
    (HIH : Hid (∀ (n : Nd) (cs : List Value) (w' : World), NdIs w' B n cs → B ≤ w'.heap.size → FnN 32 cs.toArray (p n) w')) :
    Calls Try.prog 34 #[.slice A ns.length cc, .func (.func 32) #[] #[]] w (BoolBel (ns.any p) w) := by
  have HC := Lib.hid (sIndexFunc_kRead2 p ns A cc xs w B hxs hns hB hk HIH)
  clear hxs hns HIH
  generalize ns.any p = V at *
  go_enter Try.func34, Try.ntmps34
  go_wp2_with fail
  refine HC.out.mono ?_; rintro e w1 ⟨v, rfl, hv, hw1⟩
  go_wp2_with fail
  go_ret
  exact ⟨by first | (rw [← Bool.not_not (b := V), ← hv]; rfl) | (rw [hv]; simp) | (simp [hv]), hw1⟩
set_option maxRecDepth 100000 in
set_option maxHeartbeats 1000000 in
theorem sIndexFunc_kRead3 (p : Nd → Bool) (ns : List Nd) (A : Option Addr) (cc : Nat) (xs : List Value) (w : World) (B : Nat) (hxs : Reads w B 5 A ns.length xs) (hns : NdsIs w B ns xs) (hB : B ≤ w.heap.size) (hk : ns.length ≤ 9223372036854775807)
    (HIH : Hid (∀ (n : Nd) (cs : List Value) (w' : World), NdIs w' B n cs → B ≤ w'.heap.size → FnN 35 cs.toArray (p n) w')) :
    Calls Try.prog 55 #[.slice A ns.length cc, .func (.func 35) #[] #[]] w (IdxPost (!ns.any p) w) := by
  have hW := Below.refl w.heap.size w
  obtain ⟨V, hV⟩ : ∃ V, V = ns.any p := ⟨_, rfl⟩
  rw [← hV]
  have HV : Hid (V = (ns.drop 0).any p) := hV
  have HXS := Lib.hid hxs
  have HNS := Lib.hid hns
  clear hxs hns hV
  go_enter Try.func55, Try.ntmps55
  go_wp2_with fail
  go_loopw [8] (fun t wr => ∃ (i : Nat), i ≤ ns.length ∧ t = .int .i64 i ∧ Hid (V = (ns.drop i).any p) ∧ Below w.heap.size w wr) (fun t _ => ns.length - (intOf t).toNat)
  case atStart => exact ⟨0, by omega, rfl, HV, hW⟩
  case round =>
    clear hW
    obtain ⟨i, hi, rfl, hv, hW⟩ := hrel
    obtain ⟨wo, rfl⟩ : ∃ wo : World, wo = wr := ⟨_, rfl⟩
    have hsz := hW.size
    by_cases hlt : i < ns.length
    · have hkeep : ∀ p : Addr, p.block < B → wo.cell? p = w.cell? p := fun p hp => hW.cell (by omega)
      obtain ⟨ad, n, v0, v1, v2, v3, v4, rfl, hadb, hni, hnd, e0, e1, e2, e3, e4⟩ := (HXS.out.keep hkeep).nd (NdsIs.keep hkeep _ _ HNS.out) hlt
      have HSTEP := Lib.hid (any_at ns p i n hni)
      have HO : Hid (∀ w', Below wo.heap.size wo w' → FnN 35 #[v0, v1, v2, v3, v4] (p n) w') := fun w' hb =>
        HIH.out n [v0, v1, v2, v3, v4] w' (hnd.below (hb.mono (by omega))) (by have := hb.size; omega)
      clear hni hnd hkeep
      generalize p n = b at *
      go_wp2_with fail
      refine (HO.out _ (Below.refl _ _)).mono ?_; rintro e w1 ⟨rfl, hw1⟩
      cases b with
      | true =>
        have HE : Hid (V = true) := by show _ = _; rw [hv.out, HSTEP.out]; rfl
        go_wp2_with fail
        go_ret
        exact ⟨_, rfl, by rw [HE.out]; simp, hW.trans (hw1.mono hsz)⟩
      | false =>
        have HE : Hid (V = (ns.drop (i + 1)).any p) := by show _ = _; rw [hv.out, HSTEP.out]; rfl
        go_wp2_with fail
        go_roundw
        case rel => exact ⟨i + 1, by omega, by go_num, HE, hW.trans (hw1.mono hsz)⟩
        case measure => simp [intOf]; omega
    · have HE : Hid (V = false) := by
        show _ = _
        rw [hv.out, List.drop_eq_nil_of_le (by omega)]; rfl
      go_wp2_with fail
      go_ret
      exact ⟨_, rfl, by rw [HE.out]; rfl, hW⟩
set_option maxRecDepth 100000 in
set_option maxHeartbeats 1000000 in
theorem sContainsFunc_kRead3 (p : Nd → Bool) (ns : List Nd) (A : Option Addr) (cc : Nat) (xs : List Value) (w : World) (B : Nat) (hxs : Reads w B 5 A ns.length xs) (hns : NdsIs w B ns xs) (hB : B ≤ w.heap.size) (hk : ns.length ≤ 9223372036854775807)
    (HIH : Hid (∀ (n : Nd) (cs : List Value) (w' : World), NdIs w' B n cs → B ≤ w'.heap.size → FnN 35 cs.toArray (p n) w')) :
    Calls Try.prog 34 #[.slice A ns.length cc, .func (.func 35) #[] #[]] w (BoolBel (ns.any p) w) := by
  have HC := Lib.hid (sIndexFunc_kRead3 p ns A cc xs w B hxs hns hB hk HIH)
  clear hxs hns HIH
  generalize ns.any p = V at *
  go_enter Try.func34, Try.ntmps34
  go_wp2_with fail
  refine HC.out.mono ?_; rintro e w1 ⟨v, rfl, hv, hw1⟩
  go_wp2_with fail
  go_ret
  exact ⟨by first | (rw [← Bool.not_not (b := V), ← hv]; rfl) | (rw [hv]; simp) | (simp [hv]), hw1⟩
end Go.Proofs.Ytnhoecmcbikcnaa
/-! Plain words for call.Read: its answer as a function of the text, calls as they lie in memory. -/
namespace Go.Proofs.Ytnhoecmcbikcnaa
open Go.RowKit Go.PlainAid
set_option linter.unusedVariables false
set_option linter.unusedSimpArgs false
theorem gL_len : ∀ (ns : List Nd) (ks : List ByteArray), ns.length * 50 ≤ gL ks ns
  | [], ks => by simp [gL]
  | n :: ns, ks => by
    have := gL_len ns ks.tail
    have h4 : 40 ≤ gN n := by cases n; unfold gN; omega
    unfold gL
    rw [List.length_cons]
    omega
mutual
theorem size_good : ∀ (n : Nd) (deep : Int), goodN n → rightD n deep = true → gN n ≤ 10000000 → sizeOk n
  | .mk k num t ks ns, deep, hg, hr, hs => by
    unfold goodN at hg
    obtain ⟨h1, hk7, h2, h3, h4⟩ := hg
    rw [rightD_eq, Bool.and_eq_true] at hr
    obtain ⟨hb, hr⟩ := hr
    unfold gN at hs
    have hl := gL_len ns ks
    unfold bareF at hb
    simp only [Bool.and_eq_true, Bool.or_eq_true, beq_iff_eq] at hb
    have hks : ks.length ≤ 1000000 := by
      rcases hb.1.2 with h | h
      · have := hk7 h; omega
      · omega
    unfold sizeOk
    refine ⟨h1, h2, h3, ⟨hks, by omega⟩, ?_⟩
    by_cases h67 : k = 6 ∨ k = 7
    · refine sizeL_good ns ks (deep + 1) h4 ?_ (by omega)
      simp only [Bool.or_eq_true, Bool.and_eq_true, beq_iff_eq, decide_eq_true_eq] at hr
      rcases h67 with rfl | rfl
      · simp at hr; exact hr.2
      · simp at hr; exact hr.2
    · have : ns = [] := by
        rcases hb.2 with h | h
        · exact absurd h h67
        · exact List.eq_nil_of_length_eq_zero h
      subst this
      unfold sizeOkL; trivial
theorem sizeL_good : ∀ (ns : List Nd) (ks : List ByteArray) (deep : Int), goodL ns → rightLD ns deep = true → gL ks ns ≤ 10000000 → sizeOkL ns
  | [], ks, deep, h, hr, hs => by unfold sizeOkL; trivial
  | n :: ns, ks, deep, h, hr, hs => by
    unfold goodL at h
    unfold gL at hs
    unfold sizeOkL
    have h0 := rightLD_at (n :: ns) 0 n deep rfl
    rw [List.drop_zero, hr] at h0
    have h0 := (Bool.and_eq_true _ _).mp h0.symm
    exact ⟨size_good n deep h.1 h0.1 (by omega), sizeL_good ns ks.tail deep h.2 (by simpa using h0.2) (by omega)⟩
end
theorem parse_size {l : List UInt8} {n : Nd} (h : parseL l = .ok n) : sizeOk n := by
  obtain ⟨h1, h2, h3, _⟩ := parse_back h
  obtain ⟨g1, g2⟩ := gN_put n 0 h1
  exact size_good n 0 (g2 (by omega)) h1 (by omega)
/-- a call -/
structure Cl where
  name : ByteArray
  args : Nd
  id : ByteArray
def usingS : ByteArray := ⟨#[117, 115, 105, 110, 103]⟩
def callsS : ByteArray := ⟨#[109, 101, 116, 104, 111, 100, 67, 97, 108, 108, 115]⟩
def notJ : ByteArray := ⟨#[110, 111, 116, 74, 83, 79, 78]⟩
def notR : ByteArray := ⟨#[110, 111, 116, 82, 101, 113, 117, 101, 115, 116]⟩
def unkC : ByteArray := ⟨#[117, 110, 107, 110, 111, 119, 110, 67, 97, 112, 97, 98, 105, 108, 105, 116, 121]⟩
def limS : ByteArray := ⟨#[108, 105, 109, 105, 116]⟩
def oddN (n : Nd) : Bool := n.kind != 5
def noneN (n : Nd) : Bool := !kindsK n [5, 7, 5]
def unkN (n : Nd) : Bool := !knownS n.text
def clOf (n : Nd) : Cl := match n.kids with
  | [a, b, c] => ⟨a.text, b, c.text⟩
  | _ => ⟨⟨#[]⟩, nd0 0, ⟨#[]⟩⟩
/-- the calls of a value, or what is wrong with it -/
def readN (u c : Option Nd) : Except ByteArray (List Cl) :=
  if u.isSome = false then .error notR else if c.isSome = false then .error notR
  else if ((u.getD (nd0 0)).kind != 6) = true then .error notR else if ((c.getD (nd0 0)).kind != 6) = true then .error notR
  else if (u.getD (nd0 0)).kids.any oddN = true then .error notR else if (c.getD (nd0 0)).kids.any noneN = true then .error notR
  else if (u.getD (nd0 0)).kids.any unkN = true then .error unkC else if 16 < (c.getD (nd0 0)).kids.length then .error limS
  else .ok ((c.getD (nd0 0)).kids.map clOf)
def readK (n : Nd) : Except ByteArray (List Cl) := readN (findN n usingS) (findN n callsS)
def readL (l : List UInt8) : Except ByteArray (List Cl) := match parseL l with
  | .error _ => .error notJ
  | .ok n => readK n
def okL (r : Except ByteArray (List Cl)) : List Cl := match r with
  | .error _ => []
  | .ok l => l
def errS (r : Except ByteArray (List Cl)) : ByteArray := match r with
  | .error e => e
  | .ok _ => ⟨#[]⟩
/-- calls in memory -/
def ClsIs (w : World) (B : Nat) : List Cl → List Value → Prop
  | [], xs => xs = []
  | c :: l, xs => ∃ v ys, xs = .string c.name :: (v ++ .string c.id :: ys) ∧ NdIs w B c.args v ∧ ClsIs w B l ys
theorem ClsIs.keep {w w' : World} {B : Nat} (hk : ∀ p : Addr, p.block < B → w'.cell? p = w.cell? p) : ∀ (l : List Cl) (xs : List Value), ClsIs w B l xs → ClsIs w' B l xs
  | [], xs, h => h
  | c :: l, xs, h => by
    unfold ClsIs at h ⊢
    obtain ⟨v, ys, rfl, h2, h3⟩ := h
    exact ⟨v, ys, rfl, NdIs.keep hk _ _ h2, ClsIs.keep hk l ys h3⟩
theorem ClsIs.below {w w' : World} {B : Nat} {l : List Cl} {xs : List Value} (h : ClsIs w B l xs) (hb : Below B w w') : ClsIs w' B l xs := ClsIs.keep (fun p hp => hb.cell hp) l xs h
theorem ClsIs.more {w : World} {B B' : Nat} (hB : B ≤ B') : ∀ (l : List Cl) (xs : List Value), ClsIs w B l xs → ClsIs w B' l xs
  | [], xs, h => h
  | c :: l, xs, h => by
    unfold ClsIs at h ⊢
    obtain ⟨v, ys, rfl, h2, h3⟩ := h
    exact ⟨v, ys, rfl, NdIs.more hB _ _ h2, ClsIs.more hB l ys h3⟩
theorem ClsIs.nil {w : World} {B : Nat} : ClsIs w B [] [] := rfl
theorem ClsIs.snoc {w : World} {B : Nat} {a b : ByteArray} {n : Nd} {v : List Value} (hn : NdIs w B n v) : ∀ (l : List Cl) (xs : List Value), ClsIs w B l xs → ClsIs w B (l ++ [⟨a, n, b⟩]) (xs ++ .string a :: (v ++ [.string b]))
  | [], xs, h => by
    unfold ClsIs at h
    subst h
    exact ⟨v, [], rfl, hn, rfl⟩
  | c :: l, xs, h => by
    unfold ClsIs at h
    obtain ⟨u, ys, rfl, h2, h3⟩ := h
    refine ⟨u, ys ++ .string a :: (v ++ [.string b]), by simp, h2, ClsIs.snoc hn l ys h3⟩
theorem ClsIs.len {w : World} {B : Nat} : ∀ (l : List Cl) (xs : List Value), ClsIs w B l xs → xs.length = l.length * 7
  | [], xs, h => by unfold ClsIs at h; subst h; rfl
  | c :: l, xs, h => by
    unfold ClsIs at h
    obtain ⟨v, ys, rfl, h2, h3⟩ := h
    have := ClsIs.len l ys h3
    have := h2.len
    simp; omega
/-- what call.Read ends with -/
def ReadP (r : Except ByteArray (List Cl)) (w : World) (e : Ending) (w' : World) : Prop := ∃ (A : Option Addr) (c : Nat) (xs : List Value),
  e = .returned (.tuple #[.slice A (okL r).length c, .string (errS r)]) ∧ Reads w' w'.heap.size 7 A (okL r).length xs ∧ ClsIs w' w'.heap.size (okL r) xs ∧ Below w.heap.size w w'
theorem ReadP.err {r : Except ByteArray (List Cl)} {w w' : World} {s : ByteArray} (h : r = .error s) (hb : Below w.heap.size w w') : ReadP r w (.returned (.tuple #[.slice none 0 0, .string s])) w' := by
  subst h
  exact ⟨none, 0, [], rfl, Reads.none_, rfl, hb⟩
theorem kid3 {n : Nd} (h : noneN n = false) : ∃ a b c, n.kids = [a, b, c] ∧ n.kind = 6 ∧ a.kind = 5 ∧ b.kind = 7 ∧ c.kind = 5 := by
  unfold noneN kindsK at h
  rw [Bool.not_eq_false', Bool.and_eq_true, beq_iff_eq] at h
  obtain ⟨h6, h⟩ := h
  match hk : n.kids with
  | [] => rw [hk] at h; cases h
  | [a] => rw [hk] at h; simp [eqK] at h
  | [a, b] => rw [hk] at h; simp [eqK] at h
  | [a, b, c] =>
    rw [hk] at h
    simp only [eqK, Bool.and_eq_true, beq_iff_eq] at h
    exact ⟨a, b, c, rfl, h6, h.1, h.2.1, h.2.2.1⟩
  | a :: b :: c :: d :: l => rw [hk] at h; simp [eqK] at h
theorem any_get {ns : List Nd} {p : Nd → Bool} (h : ns.any p = false) {i : Nat} {n : Nd} (hi : ns[i]? = some n) : p n = false := by
  rw [List.any_eq_false] at h
  have := h n (List.mem_of_getElem? hi)
  simpa using this
theorem map_take {ns : List Nd} {i : Nat} {n : Nd} (h : ns[i]? = some n) : (ns.take (i + 1)).map clOf = (ns.take i).map clOf ++ [clOf n] := by
  obtain ⟨hl, he⟩ := List.getElem?_eq_some_iff.1 h
  rw [List.take_add_one, h]
  simp
theorem callInfo : (Try.prog.info? 45).map (fun i => (i.zero, i.size, i.bytes)) = some (some (.agg #[.string ⟨#[]⟩, .int .i64 0, .int .i64 0, .string ⟨#[]⟩, .slice none 0 0, .slice none 0 0, .string ⟨#[]⟩]), 7, 112) := by kernel_rfl
theorem step_pushCl {w : World} {ops : Array Oper} {o : Oper} {a : Act} {K : Act → World → Prop} {Q : Exit → Act → World → Prop} {E : Prop} (hgd : o.guard = none) (s x : Operand)
    (ho : o.op = .call { callee := .builtin .append, args := #[s, x], argTypes := #[36, 36] })
    (B : Nat) (v : Value) (n : Nat) (xs : List Value) (hs : a.eval s = v) (hown : w.ownsRow B 45 7 v n xs) (B2 : Nat) (A : Option Addr) (m c : Nat) (ys : List Value) (hr : Reads w B2 7 A m ys) (h1 : ∀ u ∈ ys, u.oneCell' = true)
    (hx : a.eval x = .slice A m c)
    (hlim : n + m ≤ 1000000000) (hB : B ≤ w.heap.size)
    (h : ∀ v' w', w'.ownsRow B 45 7 v' (n + m) (xs ++ ys) → w.grownBy w' v.ownBlock → K (a.put o.dst v') w') :
    if Region.wanted o (yielded ops a.tmps) = true then Oper.wp Try.prog o a w K Q else E := by
  have hw : Region.wanted o (yielded ops a.tmps) = true := by simp [Region.wanted, hgd]
  rw [if_pos hw]
  obtain ⟨i0, hi0, hz0, hz1, hz2⟩ := info_parts callInfo
  obtain ⟨v', w', h1, h2, h3, h4⟩ := run_append_any (P := Try.prog) w B 36 o.type 45 i0 _ 7 112 Try.underlying36 hi0 hz0 hz1 hz2 rfl (by omega) v n _ hown B2 _ m c _ hr
    h1 (by simp only [maxLen]; omega) (by omega) hB
  unfold Oper.wp execOp
  simp only [ho, resolve, invoke, builtin, Sem.run_bind, Sem.run_pure, Result.andThen_ok, List.map_toArray, List.map_cons, List.map_nil, hs, hx, h1]
  exact h v' w' h2 h3
theorem reads7 (w : World) (v0 v1 v2 v3 v4 v5 v6 : Value) : Reads (w.alloc (.cells #[v0, v1, v2, v3, v4, v5, v6] 45)) (w.heap.size + 1) 7 (some ⟨w.heap.size, 0, none⟩) 1 [v0, v1, v2, v3, v4, v5, v6] := by
  refine ⟨rfl, fun _ => ⟨_, rfl, by simp, fun j u hj => ?_⟩⟩
  have e : (⟨w.heap.size, 0, none⟩ : Addr).add j = ⟨w.heap.size, j, none⟩ := by unfold Addr.add; split <;> simp_all
  rw [e, World.cell?_alloc_mark]
  simpa using hj
end Go.Proofs.Ytnhoecmcbikcnaa
/-! The walk of call.Read: what it does behind two findings. -/
namespace Go.Proofs.Ytnhoecmcbikcnaa
open Go.RowKit Go.PlainAid
set_option linter.unusedVariables false
set_option linter.unusedSimpArgs false
theorem readL_err {l : List UInt8} {c : Int} (h : parseL l = .error c) : readL l = .error notJ := by unfold readL; rw [h]
theorem readL_ok {l : List UInt8} {n : Nd} (h : parseL l = .ok n) : readL l = readN (findN n usingS) (findN n callsS) := by unfold readL; rw [h]; rfl
theorem NdIs.cells (n : Nd) {w : World} {B : Nat} {c0 c1 : Int} {c2 : ByteArray} {c3 : Option Addr} {c4 c5 : Nat} {c6 : Option Addr} {c7 c8 : Nat} (h : NdIs w B n [.int .i64 c0, .int .i64 c1, .string c2, .slice c3 c4 c5, .slice c6 c7 c8]) :
    c0 = n.kind ∧ c2 = n.text ∧ c7 = n.kids.length ∧ ∃ xs, Reads w B 5 c6 n.kids.length xs ∧ NdsIs w B n.kids xs ∧ n.kids.length ≤ maxLen := by
  obtain ⟨A, ck, A2, c, xs, h1, _, h3, h4, _, _, _, _, _, h9⟩ := h.open_
  simp only [List.cons.injEq, Value.int.injEq, Value.string.injEq, Value.slice.injEq, and_true, true_and] at h1
  obtain ⟨e1, e2, e3, e4, e5, e6, e7⟩ := h1
  subst e5
  exact ⟨e1, e3, e6, xs, h3, h4, h9⟩
theorem kids15 {w : World} {B : Nat} {n a b c : Nd} {c0 c1 : Int} {c2 : ByteArray} {c3 : Option Addr} {c4 c5 : Nat} {c6 : Option Addr} {c7 c8 : Nat} (h : NdIs w B n [.int .i64 c0, .int .i64 c1, .string c2, .slice c3 c4 c5, .slice c6 c7 c8]) (hk : n.kids = [a, b, c]) :
    ∃ (kb ko : Nat) (a0 a1 : Int) (a2 : ByteArray) (a3 : Option Addr) (a4 a5 : Nat) (a6 : Option Addr) (a7 a8 : Nat), c6 = some ⟨kb, ko, none⟩ ∧ c7 = 3 ∧ kb < B ∧ NdIs w B b [.int .i64 a0, .int .i64 a1, .string a2, .slice a3 a4 a5, .slice a6 a7 a8] ∧
      w.cell? ⟨kb, ko + 2, none⟩ = some (.string a.text) ∧ w.cell? ⟨kb, ko + 5, none⟩ = some (.int .i64 a0) ∧ w.cell? ⟨kb, ko + 6, none⟩ = some (.int .i64 a1) ∧ w.cell? ⟨kb, ko + 7, none⟩ = some (.string a2) ∧ w.cell? ⟨kb, ko + 8, none⟩ = some (.slice a3 a4 a5) ∧ w.cell? ⟨kb, ko + 9, none⟩ = some (.slice a6 a7 a8) ∧ w.cell? ⟨kb, ko + 12, none⟩ = some (.string c.text) := by
  cases n with
  | mk k m t ks ns =>
    have hk2 : ns = [a, b, c] := hk
    subst hk2
    obtain ⟨hl, hq⟩ := kid_cells h
    obtain ⟨kb, ko, e, hb, hcell⟩ := hq (by simp)
    obtain ⟨ca, na, ha⟩ := hcell 0 a rfl
    obtain ⟨cb, nb, hbb⟩ := hcell 1 b rfl
    obtain ⟨cc, nc, hcc⟩ := hcell 2 c rfl
    obtain ⟨A3, k3, B3, l3, x3, eb, _⟩ := nb.open_
    subst eb
    obtain ⟨A1, k1, B1, l1, x1, ea, _⟩ := na.open_
    obtain ⟨A2, k2, B2, l2, x2, ec, _⟩ := nc.open_
    refine ⟨kb, ko, _, _, _, _, _, _, _, _, _, e, hl, hb, nb, ha 2 _ (by rw [ea]; rfl), hbb 0 _ rfl, hbb 1 _ rfl, hbb 2 _ rfl, hbb 3 _ rfl, hbb 4 _ rfl, hcc 2 _ (by rw [ec]; rfl)⟩
theorem readN_1 {c : Option Nd} {u : Option Nd} (h : u.isSome = false) : readN u c = .error notR := by unfold readN; rw [if_pos h]
theorem readN_2 {c : Option Nd} {u : Option Nd} (h1 : u.isSome = true) (h : c.isSome = false) : readN u c = .error notR := by unfold readN; rw [if_neg (by rw [h1]; simp), if_pos h]
def readM (U M : Nd) : Except ByteArray (List Cl) := if (U.kind != 6) = true then .error notR else if (M.kind != 6) = true then .error notR
  else if U.kids.any oddN = true then .error notR else if M.kids.any noneN = true then .error notR
  else if U.kids.any unkN = true then .error unkC else if 16 < M.kids.length then .error limS
  else .ok (M.kids.map clOf)
theorem readN_3 {c : Option Nd} {u : Option Nd} (h1 : u.isSome = true) (h : c.isSome = true) : readN u c = readM (u.getD (nd0 0)) (c.getD (nd0 0)) := by unfold readN readM; rw [if_neg (by rw [h1]; simp), if_neg (by rw [h]; simp)]
def CInv (w4 : World) (M : Nd) (i : Nat) (Ao : Option Addr) (co : Nat) (wr : World) : Prop := ∃ xs, wr.ownsRow w4.heap.size 45 7 (.slice Ao i co) i xs ∧ ClsIs wr w4.heap.size ((M.kids.take i).map clOf) xs ∧ Below w4.heap.size w4 wr
/-- the cells that one call is made of -/
def KidC (g kb ko y8 : Nat) (ta tc : ByteArray) (b0 b1 : Int) (b2 : ByteArray) (b3 : Option Addr) (b4 b5 : Nat) (b6 : Option Addr) (b7 b8 : Nat) (w' : World) : Prop :=
  w'.cell? ⟨g, 4, none⟩ = some (.slice (some ⟨kb, ko, none⟩) 3 y8) ∧ w'.cell? ⟨kb, ko + 2, none⟩ = some (.string ta) ∧ w'.cell? ⟨kb, ko + 5, none⟩ = some (.int .i64 b0) ∧ w'.cell? ⟨kb, ko + 6, none⟩ = some (.int .i64 b1) ∧ w'.cell? ⟨kb, ko + 7, none⟩ = some (.string b2) ∧ w'.cell? ⟨kb, ko + 8, none⟩ = some (.slice b3 b4 b5) ∧ w'.cell? ⟨kb, ko + 9, none⟩ = some (.slice b6 b7 b8) ∧ w'.cell? ⟨kb, ko + 12, none⟩ = some (.string tc)
theorem KidC.keep {g kb ko y8 : Nat} {ta tc : ByteArray} {b0 b1 : Int} {b2 : ByteArray} {b3 : Option Addr} {b4 b5 : Nat} {b6 : Option Addr} {b7 b8 : Nat} {w w' : World} {n : Nat} (hk : ∀ p : Addr, p.block < n → w'.cell? p = w.cell? p) (h1 : kb < n) (h2 : g < n) (h : KidC g kb ko y8 ta tc b0 b1 b2 b3 b4 b5 b6 b7 b8 w) : KidC g kb ko y8 ta tc b0 b1 b2 b3 b4 b5 b6 b7 b8 w' := by
  obtain ⟨k0, k1, k2, k3, k4, k5, k6, k7⟩ := h
  exact ⟨(hk _ h2).trans k0, (hk _ h1).trans k1, (hk _ h1).trans k2, (hk _ h1).trans k3, (hk _ h1).trans k4, (hk _ h1).trans k5, (hk _ h1).trans k6, (hk _ h1).trans k7⟩
theorem KidC.keep_ {g kb ko y8 : Nat} {ta tc : ByteArray} {b0 b1 : Int} {b2 : ByteArray} {b3 : Option Addr} {b4 b5 : Nat} {b6 : Option Addr} {b7 b8 : Nat} {w w' : World} (hk : w'.heap[kb]? = w.heap[kb]?) (hg : w'.heap[g]? = w.heap[g]?) (h : KidC g kb ko y8 ta tc b0 b1 b2 b3 b4 b5 b6 b7 b8 w) : KidC g kb ko y8 ta tc b0 b1 b2 b3 b4 b5 b6 b7 b8 w' := by
  have h1 : ∀ j, w'.cell? ⟨kb, j, none⟩ = w.cell? ⟨kb, j, none⟩ := fun j => World.cell?_of_block hk
  have h2 : ∀ j, w'.cell? ⟨g, j, none⟩ = w.cell? ⟨g, j, none⟩ := fun j => World.cell?_of_block hg
  obtain ⟨k0, k1, k2, k3, k4, k5, k6, k7⟩ := h
  exact ⟨(h2 _).trans k0, (h1 _).trans k1, (h1 _).trans k2, (h1 _).trans k3, (h1 _).trans k4, (h1 _).trans k5, (h1 _).trans k6, (h1 _).trans k7⟩
theorem cells_one7 {t1 t2 : ByteArray} {c0 c1 : Int} {c2 : ByteArray} {c3 : Option Addr} {c4 c5 : Nat} {c6 : Option Addr} {c7 c8 : Nat} : ∀ u ∈ ([.string t1, .int .i64 c0, .int .i64 c1, .string c2, .slice c3 c4 c5, .slice c6 c7 c8, .string t2] : List Value), u.oneCell' = true := by
  intro u hu
  simp at hu
  rcases hu with rfl | rfl | rfl | rfl | rfl | rfl | rfl <;> rfl
theorem KidC.start {wo : World} {kb ko y8 : Nat} {y0 y1 : Int} {y2 : ByteArray} {y3 : Option Addr} {y4 y5 : Nat} {ta tc : ByteArray} {b0 b1 : Int} {b2 : ByteArray} {b3 : Option Addr} {b4 b5 : Nat} {b6 : Option Addr} {b7 b8 : Nat} (hkw : kb < wo.heap.size)
    (f0 : wo.cell? ⟨kb, ko + 2, none⟩ = some (.string ta)) (f1 : wo.cell? ⟨kb, ko + 5, none⟩ = some (.int .i64 b0)) (f2 : wo.cell? ⟨kb, ko + 6, none⟩ = some (.int .i64 b1)) (f3 : wo.cell? ⟨kb, ko + 7, none⟩ = some (.string b2)) (f4 : wo.cell? ⟨kb, ko + 8, none⟩ = some (.slice b3 b4 b5)) (f5 : wo.cell? ⟨kb, ko + 9, none⟩ = some (.slice b6 b7 b8)) (f6 : wo.cell? ⟨kb, ko + 12, none⟩ = some (.string tc)) :
    KidC wo.heap.size kb ko y8 ta tc b0 b1 b2 b3 b4 b5 b6 b7 b8 (wo.alloc (.cells #[.int .i64 y0, .int .i64 y1, .string y2, .slice y3 y4 y5, .slice (some ⟨kb, ko, none⟩) 3 y8] 27)) := by
  have hk : ∀ p : Addr, p.block < wo.heap.size → (wo.alloc (.cells #[.int .i64 y0, .int .i64 y1, .string y2, .slice y3 y4 y5, .slice (some ⟨kb, ko, none⟩) 3 y8] 27)).cell? p = wo.cell? p := fun p hp => World.cell?_alloc_lt _ _ _ hp
  exact ⟨(Blk.new wo 27 #[.int .i64 y0, .int .i64 y1, .string y2, .slice y3 y4 y5, .slice (some ⟨kb, ko, none⟩) 3 y8]).cell 4, (hk _ hkw).trans f0, (hk _ hkw).trans f1, (hk _ hkw).trans f2, (hk _ hkw).trans f3, (hk _ hkw).trans f4, (hk _ hkw).trans f5, (hk _ hkw).trans f6⟩

set_option maxRecDepth 100000 in
set_option maxHeartbeats 4000000 in
theorem kRead_bad (s : ByteArray) (A : Option Addr) (c : Nat) (w : World) (ec : Int) (h : BytesAt w A c s) (hr : parseL s.toList = .error ec) : Calls Try.prog 14 #[.slice A s.size c] w (ReadP (readL s.toList) w) := by
  have HP := Lib.hid (parse_law s A c w h)
  rw [hr] at HP
  have E := Lib.hid (readL_err hr)
  have h1 := parse_err hr
  have n0 : (ec != 0) = true := by rw [bne_iff_ne]; omega
  clear hr h h1
  generalize readL s.toList = V at *
  go_enter Try.func14, Try.ntmps14
  go_wp2_with fail
  refine (HP.out : Calls _ _ _ _ _).mono ?_
  rintro e w1 ⟨rfl, hb⟩
  go_wp2_with fail
  refine bodyPost_ret (v := .tuple #[.slice none 0 0, .string ⟨#[110, 111, 116, 74, 83, 79, 78]⟩]) (by simp [results, Try.results14, go_sem]) rfl ?_
  exact ReadP.err E.out (hb.alloc hb.size _)
/-- what stands behind the two findings -/
def KIn (w w4 : World) (gu gm : Nat) (U M : Nd) (u0 u1 : Int) (u2 : ByteArray) (u3 : Option Addr) (u4 u5 : Nat) (u6 : Option Addr) (u8 : Nat) (m0 m1 : Int) (m2 : ByteArray) (m3 : Option Addr) (m4 m5 : Nat) (m6 : Option Addr) (m8 : Nat) : Prop :=
  Blk w4 gu 27 #[.int .i64 u0, .int .i64 u1, .string u2, .slice u3 u4 u5, .slice u6 U.kids.length u8] ∧ Blk w4 gm 27 #[.int .i64 m0, .int .i64 m1, .string m2, .slice m3 m4 m5, .slice m6 M.kids.length m8] ∧ Below w.heap.size w w4 ∧
  (∃ xs, Reads w4 w4.heap.size 5 u6 U.kids.length xs ∧ NdsIs w4 w4.heap.size U.kids xs ∧ U.kids.length ≤ maxLen) ∧ (∃ xs, Reads w4 w4.heap.size 5 m6 M.kids.length xs ∧ NdsIs w4 w4.heap.size M.kids xs ∧ M.kids.length ≤ maxLen)
set_option maxRecDepth 100000 in
set_option maxHeartbeats 4000000 in
theorem kRead_ok (s : ByteArray) (A : Option Addr) (c : Nat) (w : World) (n : Nd) (h : BytesAt w A c s) (hr : parseL s.toList = .ok n) : Calls Try.prog 14 #[.slice A s.size c] w (ReadP (readL s.toList) w) := by
  have HP := Lib.hid (parse_law s A c w h)
  rw [hr] at HP
  have E := Lib.hid (readL_ok hr)
  have HSZ := Lib.hid (parse_size hr)
  clear hr h
  generalize readL s.toList = V at *
  go_enter Try.func14, Try.ntmps14
  go_wp2_with fail
  refine (HP.out : Calls _ _ _ _ _).mono ?_
  rintro e w1 ⟨x0, x1, x2, x3, x4, x5, x6, x7, x8, rfl, hn, hb⟩
  have HB1 : Hid (Below w.heap.size w (w1.alloc (.cells #[.int .i64 x0, .int .i64 x1, .string x2, .slice x3 x4 x5, .slice x6 x7 x8] 27))) := hb.alloc hb.size _
  have HBX : Hid (Blk (w1.alloc (.cells #[.int .i64 x0, .int .i64 x1, .string x2, .slice x3 x4 x5, .slice x6 x7 x8] 27)) w1.heap.size 27 #[.int .i64 x0, .int .i64 x1, .string x2, .slice x3 x4 x5, .slice x6 x7 x8]) := Blk.new _ _ _
  have HN1 : Hid (NdIs (w1.alloc (.cells #[.int .i64 x0, .int .i64 x1, .string x2, .slice x3 x4 x5, .slice x6 x7 x8] 27)) w1.heap.size n [.int .i64 x0, .int .i64 x1, .string x2, .slice x3 x4 x5, .slice x6 x7 x8]) := hn.below ((Below.refl _ _).alloc (Nat.le_refl _) _)
  have HF1 : Hid (Calls Try.prog 30 #[.agg #[.int .i64 x0, .int .i64 x1, .string x2, .slice x3 x4 x5, .slice x6 x7 x8], .string ⟨#[117, 115, 105, 110, 103]⟩] (w1.alloc (.cells #[.int .i64 x0, .int .i64 x1, .string x2, .slice x3 x4 x5, .slice x6 x7 x8] 27)) (FindP (findN n usingS) (w1.alloc (.cells #[.int .i64 x0, .int .i64 x1, .string x2, .slice x3 x4 x5, .slice x6 x7 x8] 27)))) :=
    cFind_any n usingS [.int .i64 x0, .int .i64 x1, .string x2, .slice x3 x4 x5, .slice x6 x7 x8] _ w1.heap.size HN1.out (by simp) HSZ.out
  clear hn hb HP
  go_wp2_with fail
  refine (HF1.out : Calls _ _ _ _ _).mono ?_
  rintro e w2 ⟨u0, u1, u2, u3, u4, u5, u6, u7, u8, rfl, hu, hb2⟩
  have hba : Below w2.heap.size w2 (w2.alloc (.cells #[.int .i64 u0, .int .i64 u1, .string u2, .slice u3 u4 u5, .slice u6 u7 u8] 27)) := (Below.refl _ _).alloc (Nat.le_refl _) _
  have hb3 := hb2.trans (hba.mono hb2.size)
  have HB2 : Hid (Below w.heap.size w (w2.alloc (.cells #[.int .i64 u0, .int .i64 u1, .string u2, .slice u3 u4 u5, .slice u6 u7 u8] 27))) := nextB HB1.out hb3
  have HBX2 : Hid (Blk (w2.alloc (.cells #[.int .i64 u0, .int .i64 u1, .string u2, .slice u3 u4 u5, .slice u6 u7 u8] 27)) w1.heap.size 27 #[.int .i64 x0, .int .i64 x1, .string x2, .slice x3 x4 x5, .slice x6 x7 x8]) := HBX.out.below hb3 HBX.out.lt
  have HBU : Hid (Blk (w2.alloc (.cells #[.int .i64 u0, .int .i64 u1, .string u2, .slice u3 u4 u5, .slice u6 u7 u8] 27)) w2.heap.size 27 #[.int .i64 u0, .int .i64 u1, .string u2, .slice u3 u4 u5, .slice u6 u7 u8]) := Blk.new _ _ _
  have HN2 : Hid (NdIs (w2.alloc (.cells #[.int .i64 u0, .int .i64 u1, .string u2, .slice u3 u4 u5, .slice u6 u7 u8] 27)) w1.heap.size n [.int .i64 x0, .int .i64 x1, .string x2, .slice x3 x4 x5, .slice x6 x7 x8]) := HN1.out.below (hb3.mono (by simp))
  have HU2 : Hid (NdIs (w2.alloc (.cells #[.int .i64 u0, .int .i64 u1, .string u2, .slice u3 u4 u5, .slice u6 u7 u8] 27)) w2.heap.size ((findN n usingS).getD (nd0 0)) [.int .i64 u0, .int .i64 u1, .string u2, .slice u3 u4 u5, .slice u6 u7 u8]) := (NdIn.is (fun b hb => hb.2) _ _ hu).below hba
  have hz12 : w1.heap.size < w2.heap.size := by have := hb2.size; simp at this; omega
  have HF2 : Hid (Calls Try.prog 30 #[.agg #[.int .i64 x0, .int .i64 x1, .string x2, .slice x3 x4 x5, .slice x6 x7 x8], .string ⟨#[109, 101, 116, 104, 111, 100, 67, 97, 108, 108, 115]⟩] (w2.alloc (.cells #[.int .i64 u0, .int .i64 u1, .string u2, .slice u3 u4 u5, .slice u6 u7 u8] 27)) (FindP (findN n callsS) (w2.alloc (.cells #[.int .i64 u0, .int .i64 u1, .string u2, .slice u3 u4 u5, .slice u6 u7 u8] 27)))) :=
    cFind_any n callsS [.int .i64 x0, .int .i64 x1, .string x2, .slice x3 x4 x5, .slice x6 x7 x8] _ w1.heap.size HN2.out (by simp; omega) HSZ.out
  obtain ⟨e0, e1, e2, e3, e4⟩ := HBX2.out.cells5
  clear hu hb2 hba hb3 HF1 HN1 HB1 HBX HN2 HSZ
  go_wp2_with fail
  refine (HF2.out : Calls _ _ _ _ _).mono ?_
  rintro e w3 ⟨m0, m1, m2, m3, m4, m5, m6, m7, m8, rfl, hm, hb2⟩
  have hba : Below w3.heap.size w3 (w3.alloc (.cells #[.int .i64 m0, .int .i64 m1, .string m2, .slice m3 m4 m5, .slice m6 m7 m8] 27)) := (Below.refl _ _).alloc (Nat.le_refl _) _
  have hb3 := hb2.trans (hba.mono hb2.size)
  have hB4 := nextB HB2.out hb3
  have hU4 : Blk (w3.alloc (.cells #[.int .i64 m0, .int .i64 m1, .string m2, .slice m3 m4 m5, .slice m6 m7 m8] 27)) w2.heap.size 27 #[.int .i64 u0, .int .i64 u1, .string u2, .slice u3 u4 u5, .slice u6 u7 u8] := HBU.out.below hb3 HBU.out.lt
  have hM4 : Blk (w3.alloc (.cells #[.int .i64 m0, .int .i64 m1, .string m2, .slice m3 m4 m5, .slice m6 m7 m8] 27)) w3.heap.size 27 #[.int .i64 m0, .int .i64 m1, .string m2, .slice m3 m4 m5, .slice m6 m7 m8] := Blk.new _ _ _
  have hNU : NdIs (w3.alloc (.cells #[.int .i64 m0, .int .i64 m1, .string m2, .slice m3 m4 m5, .slice m6 m7 m8] 27)) (w3.alloc (.cells #[.int .i64 m0, .int .i64 m1, .string m2, .slice m3 m4 m5, .slice m6 m7 m8] 27)).heap.size ((findN n usingS).getD (nd0 0)) [.int .i64 u0, .int .i64 u1, .string u2, .slice u3 u4 u5, .slice u6 u7 u8] := NdIs.more (by have := hb3.size; simp at this ⊢; omega) _ _ (HU2.out.below (hb3.mono (by simp)))
  have hNM : NdIs (w3.alloc (.cells #[.int .i64 m0, .int .i64 m1, .string m2, .slice m3 m4 m5, .slice m6 m7 m8] 27)) (w3.alloc (.cells #[.int .i64 m0, .int .i64 m1, .string m2, .slice m3 m4 m5, .slice m6 m7 m8] 27)).heap.size ((findN n callsS).getD (nd0 0)) [.int .i64 m0, .int .i64 m1, .string m2, .slice m3 m4 m5, .slice m6 m7 m8] := NdIs.more (by simp) _ _ ((NdIn.is (fun b hb => hb.2) _ _ hm).below hba)
  obtain ⟨k1, -, k2, ku⟩ := NdIs.cells _ hNU
  obtain ⟨l1, -, l2, km⟩ := NdIs.cells _ hNM
  subst k1 k2 l1 l2
  have KI : Hid (KIn w (w3.alloc (.cells #[.int .i64 ((findN n callsS).getD (nd0 0)).kind, .int .i64 m1, .string m2, .slice m3 m4 m5, .slice m6 ((findN n callsS).getD (nd0 0)).kids.length m8] 27)) w2.heap.size w3.heap.size ((findN n usingS).getD (nd0 0)) ((findN n callsS).getD (nd0 0)) ((findN n usingS).getD (nd0 0)).kind u1 u2 u3 u4 u5 u6 u8 ((findN n callsS).getD (nd0 0)).kind m1 m2 m3 m4 m5 m6 m8) := ⟨hU4, hM4, hB4, ku, km⟩
  have hg : w2.heap.size < (w3.alloc (.cells #[.int .i64 ((findN n callsS).getD (nd0 0)).kind, .int .i64 m1, .string m2, .slice m3 m4 m5, .slice m6 ((findN n callsS).getD (nd0 0)).kids.length m8] 27)).heap.size := hU4.lt
  clear hb2 hba hb3 hU4 hM4 hNU hNM hm ku km hB4 HBX2 HBU HU2 HF2 HB2 e0 e1 e2 e3 e4
  go_upto_region 6 with fail
  generalize w3.alloc (.cells #[.int .i64 ((findN n callsS).getD (nd0 0)).kind, .int .i64 m1, .string m2, .slice m3 m4 m5, .slice m6 ((findN n callsS).getD (nd0 0)).kids.length m8] 27) = w4 at *
  generalize w2.heap.size = gu at *
  generalize w3.heap.size = gm at *
  generalize findN n usingS = fu at *
  generalize findN n callsS = fm at *
  have E1 : Hid (fu.isSome = false → V = .error notR) := fun h => E.out.trans (readN_1 h)
  have E2 : Hid (fu.isSome = true → fm.isSome = false → V = .error notR) := fun h1 h2 => E.out.trans (readN_2 h1 h2)
  have E3 : Hid (fu.isSome = true → fm.isSome = true → V = readM (fu.getD (nd0 0)) (fm.getD (nd0 0))) := fun h1 h2 => E.out.trans (readN_3 h1 h2)
  generalize fu.isSome = ba at *
  generalize fm.isSome = bb at *
  generalize fu.getD (nd0 0) = UU at *
  generalize fm.getD (nd0 0) = MM at *
  clear E
  obtain ⟨hBU, hBM, hB4, hxu, hxm⟩ := KI.out
  have HB4 := Lib.hid hB4
  obtain ⟨yu, hru, hnu, hlu⟩ := hxu
  obtain ⟨ym, hrm, hnm, hlm⟩ := hxm
  obtain ⟨p0, p1, p2, p3, p4⟩ := hBU.cells5
  obtain ⟨q0, q1, q2, q3, q4⟩ := hBM.cells5
  have HLU := Lib.hid hlu
  have HLM := Lib.hid hlm
  have HRM := Lib.hid hrm
  have HNM := Lib.hid hnm
  have HBM := Lib.hid hBM
  have HBU := Lib.hid hBU
  have hlu2 : UU.kids.length ≤ 9223372036854775807 := by simp only [maxLen] at hlu; omega
  have hlm2 : MM.kids.length ≤ 9223372036854775807 := by simp only [maxLen] at hlm; omega
  have HC1 : Hid (∀ w', Below w4.heap.size w4 w' → Calls Try.prog 34 #[.slice u6 UU.kids.length u8, .func (.func 31) #[] #[]] w' (BoolBel (UU.kids.any oddN) w')) := fun w' h => sContainsFunc_kRead1 oddN UU.kids u6 u8 yu w' w4.heap.size (hru.keep fun p hp => h.cell hp) (NdsIs.keep (fun p hp => h.cell hp) _ _ hnu) h.size hlu2 (fun n cs w9 h1 h2 => kRead1_any n cs w9 _ h1)
  have HC2 : Hid (∀ w', Below w4.heap.size w4 w' → Calls Try.prog 34 #[.slice m6 MM.kids.length m8, .func (.func 32) #[] #[]] w' (BoolBel (MM.kids.any noneN) w')) := fun w' h => sContainsFunc_kRead2 noneN MM.kids m6 m8 ym w' w4.heap.size (hrm.keep fun p hp => h.cell hp) (NdsIs.keep (fun p hp => h.cell hp) _ _ hnm) h.size hlm2 (fun n cs w9 h1 h2 => kRead2_any n cs w9 _ h1 h2)
  have HC3 : Hid (∀ w', Below w4.heap.size w4 w' → Calls Try.prog 34 #[.slice u6 UU.kids.length u8, .func (.func 35) #[] #[]] w' (BoolBel (UU.kids.any unkN) w')) := fun w' h => sContainsFunc_kRead3 unkN UU.kids u6 u8 yu w' w4.heap.size (hru.keep fun p hp => h.cell hp) (NdsIs.keep (fun p hp => h.cell hp) _ _ hnu) h.size hlu2 (fun n cs w9 h1 h2 => kRead3_any n cs w9 _ h1)
  have hgu : gu < w4.heap.size := hBU.lt
  have hgm : gm < w4.heap.size := hBM.lt
  clear hBU hBM hB4 hru hnu hlu hrm hnm hlm KI hlu2 hlm2
  have hW := Below.refl w4.heap.size w4
  cases ba with
  | false =>
    have EE := Lib.hid (E1.out rfl)
    clear E1 E2 E3 HC1 HC2 HC3
    go_wp2_with fail
    refine bodyPost_ret (v := .tuple #[.slice none 0 0, .string ⟨#[110, 111, 116, 82, 101, 113, 117, 101, 115, 116]⟩]) (by simp [results, Try.results14, go_sem]) rfl ?_
    exact ReadP.err EE.out (HB4.out.trans (hW.mono HB4.out.size))
  | true =>
    clear E1
    cases bb with
    | false =>
      have EE := Lib.hid (E2.out rfl rfl)
      clear E2 E3 HC1 HC2 HC3
      go_wp2_with fail
      refine bodyPost_ret (v := .tuple #[.slice none 0 0, .string ⟨#[110, 111, 116, 82, 101, 113, 117, 101, 115, 116]⟩]) (by simp [results, Try.results14, go_sem]) rfl ?_
      exact ReadP.err EE.out (HB4.out.trans (hW.mono HB4.out.size))
    | true =>
      have EM := Lib.hid (E3.out rfl rfl)
      clear E2 E3
      unfold readM at EM
      cases t1 : (UU.kind != 6) with
      | true =>
        have EE : Hid (V = .error notR) := by show _ = _; rw [EM.out, if_pos t1]
        clear EM HC1 HC2 HC3
        go_wp2_with fail
        refine bodyPost_ret (v := .tuple #[.slice none 0 0, .string ⟨#[110, 111, 116, 82, 101, 113, 117, 101, 115, 116]⟩]) (by simp [results, Try.results14, go_sem]) rfl ?_
        exact ReadP.err EE.out (HB4.out.trans (hW.mono HB4.out.size))
      | false =>
        have EM2 : Hid (V = if (MM.kind != 6) = true then .error notR else if UU.kids.any oddN = true then .error notR else if MM.kids.any noneN = true then .error notR else if UU.kids.any unkN = true then .error unkC else if 16 < MM.kids.length then .error limS else .ok (MM.kids.map clOf)) := by show _ = _; rw [EM.out, if_neg (by rw [t1]; simp)]
        clear EM
        cases t2 : (MM.kind != 6) with
        | true =>
          have EE : Hid (V = .error notR) := by show _ = _; rw [EM2.out, if_pos t2]
          clear EM2 HC1 HC2 HC3
          go_wp2_with fail
          refine bodyPost_ret (v := .tuple #[.slice none 0 0, .string ⟨#[110, 111, 116, 82, 101, 113, 117, 101, 115, 116]⟩]) (by simp [results, Try.results14, go_sem]) rfl ?_
          exact ReadP.err EE.out (HB4.out.trans (hW.mono HB4.out.size))
        | false =>
          have EM3 : Hid (V = if UU.kids.any oddN = true then .error notR else if MM.kids.any noneN = true then .error notR else if UU.kids.any unkN = true then .error unkC else if 16 < MM.kids.length then .error limS else .ok (MM.kids.map clOf)) := by show _ = _; rw [EM2.out, if_neg (by rw [t2]; simp)]
          clear EM2
          have HNO : Hid (MM.kids.any noneN = false → ∀ (j : Nat) (x : Nd), MM.kids[j]? = some x → noneN x = false) := fun h j x hx => any_get h hx
          generalize UU.kids.any oddN = z1 at *
          generalize UU.kids.any unkN = z3 at *
          obtain ⟨z2, hz2⟩ : ∃ z2, z2 = MM.kids.any noneN := ⟨_, rfl⟩
          rw [← hz2] at HC2 EM3 HNO
          clear hz2
          go_wp2_with fail
          refine (HC1.out _ hW).mono ?_; rintro e w5 ⟨rfl, hw5⟩
          replace hW := nextB hW hw5; clear hw5
          obtain ⟨wk, rfl⟩ : ∃ wk : World, wk = w5 := ⟨_, rfl⟩
          clear p0 p1 p2 p3 p4 q0 q1 q2 q3 q4
          obtain ⟨p0, p1, p2, p3, p4⟩ := (HBU.out.below hW HBU.out.lt).cells5
          obtain ⟨q0, q1, q2, q3, q4⟩ := (HBM.out.below hW HBM.out.lt).cells5
          cases z1 with
          | true =>
            have EE : Hid (V = .error notR) := by show _ = _; rw [EM3.out, if_pos rfl]
            clear EM3 HC1 HC2 HC3 HNO
            go_wp2_with fail
            refine bodyPost_ret (v := .tuple #[.slice none 0 0, .string ⟨#[110, 111, 116, 82, 101, 113, 117, 101, 115, 116]⟩]) (by simp [results, Try.results14, go_sem]) rfl ?_
            exact ReadP.err EE.out (HB4.out.trans (hW.mono HB4.out.size))
          | false =>
            go_wp2_with fail
            refine (HC2.out _ hW).mono ?_; rintro e w5 ⟨rfl, hw5⟩
            replace hW := nextB hW hw5; clear hw5
            obtain ⟨wk, rfl⟩ : ∃ wk : World, wk = w5 := ⟨_, rfl⟩
            clear p0 p1 p2 p3 p4 q0 q1 q2 q3 q4
            obtain ⟨p0, p1, p2, p3, p4⟩ := (HBU.out.below hW HBU.out.lt).cells5
            obtain ⟨q0, q1, q2, q3, q4⟩ := (HBM.out.below hW HBM.out.lt).cells5
            cases z2 with
            | true =>
              have EE : Hid (V = .error notR) := by show _ = _; rw [EM3.out, if_neg (by simp), if_pos rfl]
              clear EM3 HC1 HC2 HC3 HNO
              go_wp2_with fail
              refine bodyPost_ret (v := .tuple #[.slice none 0 0, .string ⟨#[110, 111, 116, 82, 101, 113, 117, 101, 115, 116]⟩]) (by simp [results, Try.results14, go_sem]) rfl ?_
              exact ReadP.err EE.out (HB4.out.trans (hW.mono HB4.out.size))
            | false =>
              have HNO2 := Lib.hid (HNO.out rfl)
              go_wp2_with fail
              refine (HC3.out _ hW).mono ?_; rintro e w5 ⟨rfl, hw5⟩
              replace hW := nextB hW hw5; clear hw5
              obtain ⟨wk, rfl⟩ : ∃ wk : World, wk = w5 := ⟨_, rfl⟩
              clear p0 p1 p2 p3 p4 q0 q1 q2 q3 q4
              obtain ⟨p0, p1, p2, p3, p4⟩ := (HBU.out.below hW HBU.out.lt).cells5
              obtain ⟨q0, q1, q2, q3, q4⟩ := (HBM.out.below hW HBM.out.lt).cells5
              cases z3 with
              | true =>
                have EE : Hid (V = .error unkC) := by show _ = _; rw [EM3.out, if_neg (by simp), if_neg (by simp), if_pos rfl]
                clear EM3 HC1 HC2 HC3 HNO
                go_wp2_with fail
                refine bodyPost_ret (v := .tuple #[.slice none 0 0, .string ⟨#[117, 110, 107, 110, 111, 119, 110, 67, 97, 112, 97, 98, 105, 108, 105, 116, 121]⟩]) (by simp [results, Try.results14, go_sem]) rfl ?_
                exact ReadP.err EE.out (HB4.out.trans (hW.mono HB4.out.size))
              | false =>
                have EM4 : Hid (V = if 16 < MM.kids.length then .error limS else .ok (MM.kids.map clOf)) := by show _ = _; rw [EM3.out, if_neg (by simp), if_neg (by simp), if_neg (by simp)]
                clear EM3 HC1 HC2 HC3 HNO t1 t2
                by_cases h16 : 16 < MM.kids.length
                · have EE : Hid (V = .error limS) := by show _ = _; rw [EM4.out, if_pos h16]
                  have h16i : decide ((16 : Int) < (MM.kids.length : Int)) = true := decide_eq_true (by omega)
                  clear EM4 h16
                  go_wp2_with fail
                  refine bodyPost_ret (v := .tuple #[.slice none 0 0, .string ⟨#[108, 105, 109, 105, 116]⟩]) (by simp [results, Try.results14, go_sem]) rfl ?_
                  exact ReadP.err EE.out (HB4.out.trans (hW.mono HB4.out.size))
                have EE : Hid (V = .ok (MM.kids.map clOf)) := by show _ = _; rw [EM4.out, if_neg h16]
                have h16i : decide ((16 : Int) < (MM.kids.length : Int)) = false := decide_eq_false (by omega)
                clear EM4
                have HK16 := Lib.hid h16
                clear p0 p1 p2 p3 p4 HBU h16
                have HI0 : Hid (CInv w4 MM 0 none 0 wk) := ⟨[], World.ownsRow_nil _ _ _ _, rfl, hW⟩
                clear hW
                go_wp2_with fail
                go_loopw [12, 63] (fun t12 t63 wr => ∃ (i : Nat) (Ao : Option Addr) (co : Nat), i ≤ MM.kids.length ∧ t63 = .int .i64 i ∧ t12 = .slice Ao i co ∧ Hid (CInv w4 MM i Ao co wr)) (fun _ t63 _ => MM.kids.length - (intOf t63).toNat)
                case atStart => exact ⟨0, none, 0, by omega, rfl, rfl, HI0⟩
                case round =>
                  clear HI0 q0 q1 q2 q3 q4
                  obtain ⟨i, Ao, co, hi, rfl, rfl, hI⟩ := hrel
                  obtain ⟨wo, rfl⟩ : ∃ wo : World, wo = wr := ⟨_, rfl⟩
                  by_cases hlt : i < MM.kids.length
                  · obtain ⟨xs, hown, hcls, hW⟩ := hI.out
                    have hsz := hW.size
                    have hkeep : ∀ p : Addr, p.block < w4.heap.size → wo.cell? p = w4.cell? p := fun p hp => hW.cell hp
                    obtain ⟨ad, nn, v0, v1, v2, v3, v4, hm6, hadb, hni, hnd, e0, e1, e2, e3, e4⟩ := (HRM.out.keep hkeep).nd (NdsIs.keep hkeep _ _ HNM.out) hlt
                    subst hm6
                    obtain ⟨y0, y1, y2, y3, y4, y5, y6, y7, y8, rfl, rfl, rfl, rfl, rfl⟩ := hnd.form
                    obtain ⟨na, nb, nc, hk3, -, -, -, -⟩ := kid3 (HNO2.out i nn hni)
                    obtain ⟨kb, ko, b0, b1, b2, b3, b4, b5, b6, b7, b8, rfl, rfl, hkb, hnb, f0, f1, f2, f3, f4, f5, f6⟩ := kids15 hnd hk3
                    have HKB := Lib.hid hkb
                    have HCL : Hid (clOf nn = ⟨na.text, nb, nc.text⟩) := by show _ = _; unfold clOf; rw [hk3]
                    have HTK := Lib.hid (map_take hni)
                    have HOW : Hid (wo.ownsRow w4.heap.size 45 7 (.slice Ao i co) i xs) := hown
                    have HOWL : Hid (∀ g, (Value.slice Ao i co).ownBlock = some g → w4.heap.size ≤ g ∧ g < wo.heap.size) := fun g hg => own_lt hown hg
                    have HCS := Lib.hid hcls
                    have HNB := Lib.hid hnb
                    have HWW := Lib.hid hW
                    have i0 : (0 : Int) ≤ (i : Int) := by omega
                    have i1 : (i : Int) < (MM.kids.length : Int) := by omega
                    have hi5 : i ≤ 16 := by have := HK16.out; omega
                    have hbw : ad.block < wo.heap.size := by omega
                    have hkw : kb < wo.heap.size := by omega
                    have S0 : Hid (KidC wo.heap.size kb ko y8 na.text nc.text b0 b1 b2 b3 b4 b5 b6 b7 b8 (wo.alloc (.cells #[.int .i64 y0, .int .i64 y1, .string y2, .slice y3 y4 y5, .slice (some ⟨kb, ko, none⟩) 3 y8] 27))) := KidC.start hkw f0 f1 f2 f3 f4 f5 f6
                    have hz : (wo.alloc (.cells #[.int .i64 y0, .int .i64 y1, .string y2, .slice y3 y4 y5, .slice (some ⟨kb, ko, none⟩) 3 y8] 27)).heap.size = wo.heap.size + 1 := by simp
                    have HZ := Lib.hid hz
                    have HZ2 : Hid (((wo.alloc (.cells #[.int .i64 y0, .int .i64 y1, .string y2, .slice y3 y4 y5, .slice (some ⟨kb, ko, none⟩) 3 y8] 27)).alloc (.cells #[.string na.text, .int .i64 b0, .int .i64 b1, .string b2, .slice b3 b4 b5, .slice b6 b7 b8, .string nc.text] 45)).drew.heap.size = wo.heap.size + 2) := by show ((wo.alloc (.cells #[.int .i64 y0, .int .i64 y1, .string y2, .slice y3 y4 y5, .slice (some ⟨kb, ko, none⟩) 3 y8] 27)).alloc (.cells #[.string na.text, .int .i64 b0, .int .i64 b1, .string b2, .slice b3 b4 b5, .slice b6 b7 b8, .string nc.text] 45)).heap.size = _; rw [World.size_alloc, hz]
                    have HS0 : Hid (KidC wo.heap.size kb ko y8 na.text nc.text b0 b1 b2 b3 b4 b5 b6 b7 b8 (wo.alloc (.cells #[.int .i64 y0, .int .i64 y1, .string y2, .slice y3 y4 y5, .slice (some ⟨kb, ko, none⟩) 3 y8] 27)).drew) := S0.out
                    have HS1 : Hid (KidC wo.heap.size kb ko y8 na.text nc.text b0 b1 b2 b3 b4 b5 b6 b7 b8 ((wo.alloc (.cells #[.int .i64 y0, .int .i64 y1, .string y2, .slice y3 y4 y5, .slice (some ⟨kb, ko, none⟩) 3 y8] 27)).alloc (.cells #[.string na.text, .int .i64 b0, .int .i64 b1, .string b2, .slice b3 b4 b5, .slice b6 b7 b8, .string nc.text] 45)).drew) := KidC.keep (fun p hp => World.cell?_alloc_lt _ _ _ hp) (by rw [HZ.out]; omega) (by rw [HZ.out]; omega) S0.out
                    have HS1b := HS1
                    clear hnd hni hk3 hown hcls hnb hW hI hkeep hkb hz
                    go_wp2_with fail
                    unfold KidC at HS0 HS1
                    go_region_held3 (fun w' => w'.cell? ⟨wo.heap.size, 4, none⟩ = some (.slice (some ⟨kb, ko, none⟩) 3 y8) ∧ w'.cell? ⟨kb, ko + 2, none⟩ = some (.string na.text) ∧ w'.cell? ⟨kb, ko + 5, none⟩ = some (.int .i64 b0) ∧ w'.cell? ⟨kb, ko + 6, none⟩ = some (.int .i64 b1) ∧ w'.cell? ⟨kb, ko + 7, none⟩ = some (.string b2) ∧ w'.cell? ⟨kb, ko + 8, none⟩ = some (.slice b3 b4 b5) ∧ w'.cell? ⟨kb, ko + 9, none⟩ = some (.slice b6 b7 b8) ∧ w'.cell? ⟨kb, ko + 12, none⟩ = some (.string nc.text)) (first | with_reducible exact HS0.out | with_reducible exact HS1.out | with_reducible exact HS2.out) (first
                      | (refine step_pushCl rfl _ _ rfl w4.heap.size (.slice Ao i co) i xs (by rfl) (show (((wo.alloc (.cells #[.int .i64 y0, .int .i64 y1, .string y2, .slice y3 y4 y5, .slice (some ⟨kb, ko, none⟩) 3 y8] 27)).alloc (.cells #[.string na.text, .int .i64 b0, .int .i64 b1, .string b2, .slice b3 b4 b5, .slice b6 b7 b8, .string nc.text] 45)).drew).ownsRow w4.heap.size 45 7 (.slice Ao i co) i xs from World.ownsRow.alloc (World.ownsRow.alloc HOW.out _) _) (wo.heap.size + 2) (some ⟨wo.heap.size + 1, 0, none⟩) 1 1 [.string na.text, .int .i64 b0, .int .i64 b1, .string b2, .slice b3 b4 b5, .slice b6 b7 b8, .string nc.text] (by have := reads7 (wo.alloc (.cells #[.int .i64 y0, .int .i64 y1, .string y2, .slice y3 y4 y5, .slice (some ⟨kb, ko, none⟩) 3 y8] 27)) (.string na.text) (.int .i64 b0) (.int .i64 b1) (.string b2) (.slice b3 b4 b5) (.slice b6 b7 b8) (.string nc.text); rw [HZ.out] at this; exact this) cells_one7 (by rfl) (by omega) (by rw [HZ2.out]; have := HWW.out.size; omega) ?_; intro v9 w9 p1 p2; obtain ⟨A9, c9, rfl⟩ := own_form p1; have P1 := Lib.hid p1; have P2 := Lib.hid p2; have HS2 := Lib.hid (KidC.keep_ (p2.block kb (by rw [HZ2.out]; omega) (fun e => by have := (HOWL.out _ e.symm).1; have := HKB.out; omega)) (p2.block wo.heap.size (by rw [HZ2.out]; omega) (fun e => by have := (HOWL.out _ e.symm).2; omega)) HS1b.out); unfold KidC at HS2; clear p1 p2))
                    go_wp2_with fail
                    go_roundw
                    case rel =>
                      refine ⟨i + 1, A9, c9, by omega, by go_num, rfl, xs ++ [.string na.text, .int .i64 b0, .int .i64 b1, .string b2, .slice b3 b4 b5, .slice b6 b7 b8, .string nc.text], P1.out, ?_, ?_⟩
                      · rw [HTK.out, HCL.out]
                        have hk9 : ∀ p : Addr, p.block < w4.heap.size → w9.cell? p = wo.cell? p := fun p hp => (World.cell?_of_block (P2.out.block p.block (by rw [HZ2.out]; have := HWW.out.size; omega) (fun e => by have := (HOWL.out _ e.symm).1; omega))).trans ((World.cell?_alloc_lt _ _ _ (by simp; have := HWW.out.size; omega)).trans (World.cell?_alloc_lt _ _ _ (by have := HWW.out.size; omega)))
                        exact ClsIs.snoc (NdIs.keep hk9 _ _ HNB.out) _ _ (ClsIs.keep hk9 _ _ HCS.out)
                      · refine HWW.out.trans ?_
                        have hb0 : Below w4.heap.size wo (((wo.alloc (.cells #[.int .i64 y0, .int .i64 y1, .string y2, .slice y3 y4 y5, .slice (some ⟨kb, ko, none⟩) 3 y8] 27)).alloc (.cells #[.string na.text, .int .i64 b0, .int .i64 b1, .string b2, .slice b3 b4 b5, .slice b6 b7 b8, .string nc.text] 45)).drew) := (((Below.refl _ _).alloc HWW.out.size _).alloc (by simp; have := HWW.out.size; omega) _).drew
                        exact hb0.grown P2.out (by rw [HZ2.out]; have := HWW.out.size; omega) (fun g hg => (HOWL.out _ hg).1)
                    case measure => simp [intOf]; omega
                  · obtain rfl : i = MM.kids.length := by omega
                    obtain ⟨xs, hown, hcls, hW⟩ := hI.out
                    have HOW := Lib.hid hown
                    have HWW := Lib.hid hW
                    have HCS : Hid (ClsIs wo wo.heap.size (MM.kids.map clOf) xs) := by
                      rw [List.take_length] at hcls
                      exact ClsIs.more hW.size _ _ hcls
                    have i1 : ¬ (MM.kids.length : Int) < (MM.kids.length : Int) := by omega
                    clear hown hcls hW hI
                    go_wp2_with fail
                    refine bodyPost_ret (v := .tuple #[.slice Ao MM.kids.length co, .string ⟨#[]⟩]) (by simp [results, Try.results14, go_sem]) rfl ?_
                    have e1 : (okL V).length = MM.kids.length := by rw [EE.out]; show (MM.kids.map clOf).length = _; rw [List.length_map]
                    have e2 : errS V = ⟨#[]⟩ := by rw [EE.out]; rfl
                    have e3 : okL V = MM.kids.map clOf := by rw [EE.out]; rfl
                    refine ⟨Ao, co, xs, by rw [e1, e2], by rw [e1]; exact own_reads HOW.out, by rw [e3]; exact HCS.out, HB4.out.trans (HWW.out.mono HB4.out.size)⟩
end Go.Proofs.Ytnhoecmcbikcnaa
/-! Plain: reading texts that stand there letter by letter. -/
namespace Go.Proofs.Ytnhoecmcbikcnaa
open Go.RowKit Go.PlainAid
set_option linter.unusedVariables false
set_option linter.unusedSimpArgs false
theorem decL_asc {c : UInt8} (r : List UInt8) (h : c.toNat < 128) : decL (c :: r) = some ((c.toNat : Int), 1) := by
  have hp : putN (c.toNat : Int) = [(c.toNat : Int)] := by
    unfold putN
    rw [if_neg (by omega), if_pos (by omega)]
  have hb : putB (c.toNat : Int) = [c] := by
    rw [putB_of hp]
    simp
  have := decW_put sizeN (fun c => .inl rfl) (c.toNat : Int) r (by rw [hb]; simp)
  rw [hb] at this
  exact this
theorem textT_asc {c : UInt8} (r acc : List UInt8) (h0 : 32 ≤ c.toNat) (h : c.toNat < 128) (h34 : c ≠ 34) (h92 : c ≠ 92) : textT (c :: r) acc = textT r (acc ++ [c]) := by
  rw [textT_cons, if_neg (by rw [UInt8.lt_iff_toNat_lt]; have e : ((32 : UInt8).toNat) = 32 := rfl; omega), if_neg h34, if_neg h92, decL_asc r h]
  rfl
theorem textT_end (r acc : List UInt8) : textT (34 :: r) acc = some (acc, r) := by
  rw [textT_cons, if_neg (by decide), if_pos rfl]
theorem valL_123 (d : Nat) (r : List UInt8) (hd : d < 24) : valL d (123 :: r) = if (blanksL r).head? = some 125 then .ok (.mk 7 0 ⟨#[]⟩ [] [], (blanksL r).tail) else objL d (blanksL r) [] [] := by
  rw [valL_obj d _ rfl (by omega)]; rfl
theorem valL_91 (d : Nat) (r : List UInt8) (hd : d < 24) : valL d (91 :: r) = if (blanksL r).head? = some 93 then .ok (.mk 6 0 ⟨#[]⟩ [] [], (blanksL r).tail) else arrL d (blanksL r) [] := by
  rw [valL_arr d _ rfl (by omega)]; rfl
theorem valL_34 (d : Nat) (r : List UInt8) : valL d (34 :: r) = match textT r [] with
    | none => .error 3
    | some (t, r) => .ok (.mk 5 0 ⟨t.toArray⟩ [] [], r) := by
  rw [valL_str d _ rfl]
  have e : textL (34 :: r) = textT r [] := by unfold textL; simp
  rw [e]
  cases textT r [] <;> rfl
theorem valL_49 (d : Nat) (r : List UInt8) (h : digH r = false) (h2 : pointB r = false) : valL d (49 :: r) = .ok (.mk 4 1 ⟨#[]⟩ [] [], r) := by
  rw [valL_num d _ 49 rfl (.inr (by decide))]
  have hn : numL (49 :: r) = some (1, r) := by
    unfold numL
    rw [if_neg (by simp)]
    obtain ⟨e1, e2⟩ := takeW_none h
    have h49 : digB 49 = true := by decide
    unfold numTail
    rw [List.takeWhile_cons, List.dropWhile_cons, h49, if_pos rfl, if_pos rfl, e1, e2, h2]
    simp [valD]
  rw [hn]
theorem textL_34 (r : List UInt8) : textL (34 :: r) = textT r [] := by unfold textL; simp
theorem blank_cons (c : UInt8) (r : List UInt8) (h : blankB c = false) : blanksL (c :: r) = c :: r := by unfold blanksL; rw [List.dropWhile_cons, h]; rfl
theorem blank_nil : blanksL [] = [] := rfl
theorem tst1 : parseL [123, 125] = .ok (.mk 7 0 ⟨#[]⟩ [] []) := by
  simp [parseL, valL_123, blank_cons, blank_nil, blankB]
theorem tst2 : parseL [123, 34, 117, 34, 58, 91, 93, 125] = .ok (.mk 7 0 ⟨#[]⟩ [⟨#[117]⟩] [.mk 6 0 ⟨#[]⟩ [] []]) := by
  simp [parseL, valL_123, valL_91, arrL_eq, objL_eq, blank_cons, blank_nil, blankB, textL_34, textT_asc, textT_end]
theorem tst3 : parseL [91, 49, 93, 120] = .error 3 := by
  simp [parseL, valL_123, valL_91, valL_49, digH, digB, pointB, arrL_eq, objL_eq, blank_cons, blank_nil, blankB, textL_34, textT_asc, textT_end]
end Go.Proofs.Ytnhoecmcbikcnaa
/-! Plain: the fixed requests of CallBad and of the document's example. -/
namespace Go.Proofs.Ytnhoecmcbikcnaa
open Go.RowKit Go.PlainAid
set_option linter.unusedVariables false
set_option linter.unusedSimpArgs false
set_option maxRecDepth 10000
theorem reqA_p : parseL [123, 34, 117, 115, 105, 110, 103, 34, 58, 91, 93, 44, 34, 109, 101, 116, 104, 111, 100, 67, 97, 108, 108, 115, 34, 58, 91, 93, 125] = .ok (.mk 7 0 ⟨#[]⟩ [⟨#[117, 115, 105, 110, 103]⟩, ⟨#[109, 101, 116, 104, 111, 100, 67, 97, 108, 108, 115]⟩] [(.mk 6 0 ⟨#[]⟩ [] []), (.mk 6 0 ⟨#[]⟩ [] [])]) := by simp [parseL, valL_49 0 [] rfl rfl, valL_123, valL_91, valL_34, valL_49, digH, digB, pointB, arrL_eq, objL_eq, blank_cons, blank_nil, blankB, textL_34, textT_asc, textT_end, lit_toList]
theorem reqA_r : readL [123, 34, 117, 115, 105, 110, 103, 34, 58, 91, 93, 44, 34, 109, 101, 116, 104, 111, 100, 67, 97, 108, 108, 115, 34, 58, 91, 93, 125] = .ok [] := by
  rw [readL_ok reqA_p]
  simp [readN, findN, idxK, List.findIdx?_cons, usingS, callsS, Nd.kind, Nd.kids, Nd.text, oddN, noneN, unkN, kindsK, eqK, clOf, lit_toList]
theorem req0_p : parseL [91, 93] = .ok (.mk 6 0 ⟨#[]⟩ [] []) := by simp [parseL, valL_49 0 [] rfl rfl, valL_123, valL_91, valL_34, valL_49, digH, digB, pointB, arrL_eq, objL_eq, blank_cons, blank_nil, blankB, textL_34, textT_asc, textT_end, lit_toList]
theorem req0_r : readL [91, 93] = .error notR := by
  rw [readL_ok req0_p]
  simp [readN, findN, idxK, List.findIdx?_cons, usingS, callsS, Nd.kind, Nd.kids, Nd.text, oddN, noneN, unkN, kindsK, eqK, clOf, lit_toList]
theorem req0_x : readL [91, 93, 120] = .error notJ := by
  refine readL_err (c := 3) ?_
  simp [parseL, valL_49 0 [] rfl rfl, valL_123, valL_91, valL_34, valL_49, digH, digB, pointB, arrL_eq, objL_eq, blank_cons, blank_nil, blankB, textL_34, textT_asc, textT_end, lit_toList]
theorem req1_p : parseL [123, 125] = .ok (.mk 7 0 ⟨#[]⟩ [] []) := by simp [parseL, valL_49 0 [] rfl rfl, valL_123, valL_91, valL_34, valL_49, digH, digB, pointB, arrL_eq, objL_eq, blank_cons, blank_nil, blankB, textL_34, textT_asc, textT_end, lit_toList]
theorem req1_r : readL [123, 125] = .error notR := by
  rw [readL_ok req1_p]
  simp [readN, findN, idxK, List.findIdx?_cons, usingS, callsS, Nd.kind, Nd.kids, Nd.text, oddN, noneN, unkN, kindsK, eqK, clOf, lit_toList]
theorem req1_x : readL [123, 125, 120] = .error notJ := by
  refine readL_err (c := 3) ?_
  simp [parseL, valL_49 0 [] rfl rfl, valL_123, valL_91, valL_34, valL_49, digH, digB, pointB, arrL_eq, objL_eq, blank_cons, blank_nil, blankB, textL_34, textT_asc, textT_end, lit_toList]
theorem req2_p : parseL [123, 34, 117, 115, 105, 110, 103, 34, 58, 91, 93, 125] = .ok (.mk 7 0 ⟨#[]⟩ [⟨#[117, 115, 105, 110, 103]⟩] [(.mk 6 0 ⟨#[]⟩ [] [])]) := by simp [parseL, valL_49 0 [] rfl rfl, valL_123, valL_91, valL_34, valL_49, digH, digB, pointB, arrL_eq, objL_eq, blank_cons, blank_nil, blankB, textL_34, textT_asc, textT_end, lit_toList]
theorem req2_r : readL [123, 34, 117, 115, 105, 110, 103, 34, 58, 91, 93, 125] = .error notR := by
  rw [readL_ok req2_p]
  simp [readN, findN, idxK, List.findIdx?_cons, usingS, callsS, Nd.kind, Nd.kids, Nd.text, oddN, noneN, unkN, kindsK, eqK, clOf, lit_toList]
theorem req2_x : readL [123, 34, 117, 115, 105, 110, 103, 34, 58, 91, 93, 125, 120] = .error notJ := by
  refine readL_err (c := 3) ?_
  simp [parseL, valL_49 0 [] rfl rfl, valL_123, valL_91, valL_34, valL_49, digH, digB, pointB, arrL_eq, objL_eq, blank_cons, blank_nil, blankB, textL_34, textT_asc, textT_end, lit_toList]
theorem req3_p : parseL [123, 34, 109, 101, 116, 104, 111, 100, 67, 97, 108, 108, 115, 34, 58, 91, 93, 125] = .ok (.mk 7 0 ⟨#[]⟩ [⟨#[109, 101, 116, 104, 111, 100, 67, 97, 108, 108, 115]⟩] [(.mk 6 0 ⟨#[]⟩ [] [])]) := by simp [parseL, valL_49 0 [] rfl rfl, valL_123, valL_91, valL_34, valL_49, digH, digB, pointB, arrL_eq, objL_eq, blank_cons, blank_nil, blankB, textL_34, textT_asc, textT_end, lit_toList]
theorem req3_r : readL [123, 34, 109, 101, 116, 104, 111, 100, 67, 97, 108, 108, 115, 34, 58, 91, 93, 125] = .error notR := by
  rw [readL_ok req3_p]
  simp [readN, findN, idxK, List.findIdx?_cons, usingS, callsS, Nd.kind, Nd.kids, Nd.text, oddN, noneN, unkN, kindsK, eqK, clOf, lit_toList]
theorem req3_x : readL [123, 34, 109, 101, 116, 104, 111, 100, 67, 97, 108, 108, 115, 34, 58, 91, 93, 125, 120] = .error notJ := by
  refine readL_err (c := 3) ?_
  simp [parseL, valL_49 0 [] rfl rfl, valL_123, valL_91, valL_34, valL_49, digH, digB, pointB, arrL_eq, objL_eq, blank_cons, blank_nil, blankB, textL_34, textT_asc, textT_end, lit_toList]
theorem req4_p : parseL [123, 34, 117, 115, 105, 110, 103, 34, 58, 123, 125, 44, 34, 109, 101, 116, 104, 111, 100, 67, 97, 108, 108, 115, 34, 58, 91, 93, 125] = .ok (.mk 7 0 ⟨#[]⟩ [⟨#[117, 115, 105, 110, 103]⟩, ⟨#[109, 101, 116, 104, 111, 100, 67, 97, 108, 108, 115]⟩] [(.mk 7 0 ⟨#[]⟩ [] []), (.mk 6 0 ⟨#[]⟩ [] [])]) := by simp [parseL, valL_49 0 [] rfl rfl, valL_123, valL_91, valL_34, valL_49, digH, digB, pointB, arrL_eq, objL_eq, blank_cons, blank_nil, blankB, textL_34, textT_asc, textT_end, lit_toList]
theorem req4_r : readL [123, 34, 117, 115, 105, 110, 103, 34, 58, 123, 125, 44, 34, 109, 101, 116, 104, 111, 100, 67, 97, 108, 108, 115, 34, 58, 91, 93, 125] = .error notR := by
  rw [readL_ok req4_p]
  simp [readN, findN, idxK, List.findIdx?_cons, usingS, callsS, Nd.kind, Nd.kids, Nd.text, oddN, noneN, unkN, kindsK, eqK, clOf, lit_toList]
theorem req4_x : readL [123, 34, 117, 115, 105, 110, 103, 34, 58, 123, 125, 44, 34, 109, 101, 116, 104, 111, 100, 67, 97, 108, 108, 115, 34, 58, 91, 93, 125, 120] = .error notJ := by
  refine readL_err (c := 3) ?_
  simp [parseL, valL_49 0 [] rfl rfl, valL_123, valL_91, valL_34, valL_49, digH, digB, pointB, arrL_eq, objL_eq, blank_cons, blank_nil, blankB, textL_34, textT_asc, textT_end, lit_toList]
theorem req5_p : parseL [123, 34, 117, 115, 105, 110, 103, 34, 58, 91, 49, 93, 44, 34, 109, 101, 116, 104, 111, 100, 67, 97, 108, 108, 115, 34, 58, 91, 93, 125] = .ok (.mk 7 0 ⟨#[]⟩ [⟨#[117, 115, 105, 110, 103]⟩, ⟨#[109, 101, 116, 104, 111, 100, 67, 97, 108, 108, 115]⟩] [(.mk 6 0 ⟨#[]⟩ [] [(.mk 4 1 ⟨#[]⟩ [] [])]), (.mk 6 0 ⟨#[]⟩ [] [])]) := by simp [parseL, valL_49 0 [] rfl rfl, valL_123, valL_91, valL_34, valL_49, digH, digB, pointB, arrL_eq, objL_eq, blank_cons, blank_nil, blankB, textL_34, textT_asc, textT_end, lit_toList]
theorem req5_r : readL [123, 34, 117, 115, 105, 110, 103, 34, 58, 91, 49, 93, 44, 34, 109, 101, 116, 104, 111, 100, 67, 97, 108, 108, 115, 34, 58, 91, 93, 125] = .error notR := by
  rw [readL_ok req5_p]
  simp [readN, findN, idxK, List.findIdx?_cons, usingS, callsS, Nd.kind, Nd.kids, Nd.text, oddN, noneN, unkN, kindsK, eqK, clOf, lit_toList]
theorem req5_x : readL [123, 34, 117, 115, 105, 110, 103, 34, 58, 91, 49, 93, 44, 34, 109, 101, 116, 104, 111, 100, 67, 97, 108, 108, 115, 34, 58, 91, 93, 125, 120] = .error notJ := by
  refine readL_err (c := 3) ?_
  simp [parseL, valL_49 0 [] rfl rfl, valL_123, valL_91, valL_34, valL_49, digH, digB, pointB, arrL_eq, objL_eq, blank_cons, blank_nil, blankB, textL_34, textT_asc, textT_end, lit_toList]
theorem req6_p : parseL [123, 34, 117, 115, 105, 110, 103, 34, 58, 91, 93, 44, 34, 109, 101, 116, 104, 111, 100, 67, 97, 108, 108, 115, 34, 58, 123, 125, 125] = .ok (.mk 7 0 ⟨#[]⟩ [⟨#[117, 115, 105, 110, 103]⟩, ⟨#[109, 101, 116, 104, 111, 100, 67, 97, 108, 108, 115]⟩] [(.mk 6 0 ⟨#[]⟩ [] []), (.mk 7 0 ⟨#[]⟩ [] [])]) := by simp [parseL, valL_49 0 [] rfl rfl, valL_123, valL_91, valL_34, valL_49, digH, digB, pointB, arrL_eq, objL_eq, blank_cons, blank_nil, blankB, textL_34, textT_asc, textT_end, lit_toList]
theorem req6_r : readL [123, 34, 117, 115, 105, 110, 103, 34, 58, 91, 93, 44, 34, 109, 101, 116, 104, 111, 100, 67, 97, 108, 108, 115, 34, 58, 123, 125, 125] = .error notR := by
  rw [readL_ok req6_p]
  simp [readN, findN, idxK, List.findIdx?_cons, usingS, callsS, Nd.kind, Nd.kids, Nd.text, oddN, noneN, unkN, kindsK, eqK, clOf, lit_toList]
theorem req6_x : readL [123, 34, 117, 115, 105, 110, 103, 34, 58, 91, 93, 44, 34, 109, 101, 116, 104, 111, 100, 67, 97, 108, 108, 115, 34, 58, 123, 125, 125, 120] = .error notJ := by
  refine readL_err (c := 3) ?_
  simp [parseL, valL_49 0 [] rfl rfl, valL_123, valL_91, valL_34, valL_49, digH, digB, pointB, arrL_eq, objL_eq, blank_cons, blank_nil, blankB, textL_34, textT_asc, textT_end, lit_toList]
theorem req7_p : parseL [123, 34, 117, 115, 105, 110, 103, 34, 58, 91, 93, 44, 34, 109, 101, 116, 104, 111, 100, 67, 97, 108, 108, 115, 34, 58, 91, 123, 125, 93, 125] = .ok (.mk 7 0 ⟨#[]⟩ [⟨#[117, 115, 105, 110, 103]⟩, ⟨#[109, 101, 116, 104, 111, 100, 67, 97, 108, 108, 115]⟩] [(.mk 6 0 ⟨#[]⟩ [] []), (.mk 6 0 ⟨#[]⟩ [] [(.mk 7 0 ⟨#[]⟩ [] [])])]) := by simp [parseL, valL_49 0 [] rfl rfl, valL_123, valL_91, valL_34, valL_49, digH, digB, pointB, arrL_eq, objL_eq, blank_cons, blank_nil, blankB, textL_34, textT_asc, textT_end, lit_toList]
theorem req7_r : readL [123, 34, 117, 115, 105, 110, 103, 34, 58, 91, 93, 44, 34, 109, 101, 116, 104, 111, 100, 67, 97, 108, 108, 115, 34, 58, 91, 123, 125, 93, 125] = .error notR := by
  rw [readL_ok req7_p]
  simp [readN, findN, idxK, List.findIdx?_cons, usingS, callsS, Nd.kind, Nd.kids, Nd.text, oddN, noneN, unkN, kindsK, eqK, clOf, lit_toList]
theorem req7_x : readL [123, 34, 117, 115, 105, 110, 103, 34, 58, 91, 93, 44, 34, 109, 101, 116, 104, 111, 100, 67, 97, 108, 108, 115, 34, 58, 91, 123, 125, 93, 125, 120] = .error notJ := by
  refine readL_err (c := 3) ?_
  simp [parseL, valL_49 0 [] rfl rfl, valL_123, valL_91, valL_34, valL_49, digH, digB, pointB, arrL_eq, objL_eq, blank_cons, blank_nil, blankB, textL_34, textT_asc, textT_end, lit_toList]
theorem req8_p : parseL [123, 34, 117, 115, 105, 110, 103, 34, 58, 91, 93, 44, 34, 109, 101, 116, 104, 111, 100, 67, 97, 108, 108, 115, 34, 58, 91, 91, 34, 97, 34, 44, 123, 125, 93, 93, 125] = .ok (.mk 7 0 ⟨#[]⟩ [⟨#[117, 115, 105, 110, 103]⟩, ⟨#[109, 101, 116, 104, 111, 100, 67, 97, 108, 108, 115]⟩] [(.mk 6 0 ⟨#[]⟩ [] []), (.mk 6 0 ⟨#[]⟩ [] [(.mk 6 0 ⟨#[]⟩ [] [(.mk 5 0 ⟨#[97]⟩ [] []), (.mk 7 0 ⟨#[]⟩ [] [])])])]) := by simp [parseL, valL_49 0 [] rfl rfl, valL_123, valL_91, valL_34, valL_49, digH, digB, pointB, arrL_eq, objL_eq, blank_cons, blank_nil, blankB, textL_34, textT_asc, textT_end, lit_toList]
theorem req8_r : readL [123, 34, 117, 115, 105, 110, 103, 34, 58, 91, 93, 44, 34, 109, 101, 116, 104, 111, 100, 67, 97, 108, 108, 115, 34, 58, 91, 91, 34, 97, 34, 44, 123, 125, 93, 93, 125] = .error notR := by
  rw [readL_ok req8_p]
  simp [readN, findN, idxK, List.findIdx?_cons, usingS, callsS, Nd.kind, Nd.kids, Nd.text, oddN, noneN, unkN, kindsK, eqK, clOf, lit_toList]
theorem req8_x : readL [123, 34, 117, 115, 105, 110, 103, 34, 58, 91, 93, 44, 34, 109, 101, 116, 104, 111, 100, 67, 97, 108, 108, 115, 34, 58, 91, 91, 34, 97, 34, 44, 123, 125, 93, 93, 125, 120] = .error notJ := by
  refine readL_err (c := 3) ?_
  simp [parseL, valL_49 0 [] rfl rfl, valL_123, valL_91, valL_34, valL_49, digH, digB, pointB, arrL_eq, objL_eq, blank_cons, blank_nil, blankB, textL_34, textT_asc, textT_end, lit_toList]
theorem req9_p : parseL [123, 34, 117, 115, 105, 110, 103, 34, 58, 91, 93, 44, 34, 109, 101, 116, 104, 111, 100, 67, 97, 108, 108, 115, 34, 58, 91, 91, 34, 97, 34, 44, 91, 93, 44, 34, 98, 34, 93, 93, 125] = .ok (.mk 7 0 ⟨#[]⟩ [⟨#[117, 115, 105, 110, 103]⟩, ⟨#[109, 101, 116, 104, 111, 100, 67, 97, 108, 108, 115]⟩] [(.mk 6 0 ⟨#[]⟩ [] []), (.mk 6 0 ⟨#[]⟩ [] [(.mk 6 0 ⟨#[]⟩ [] [(.mk 5 0 ⟨#[97]⟩ [] []), (.mk 6 0 ⟨#[]⟩ [] []), (.mk 5 0 ⟨#[98]⟩ [] [])])])]) := by simp [parseL, valL_49 0 [] rfl rfl, valL_123, valL_91, valL_34, valL_49, digH, digB, pointB, arrL_eq, objL_eq, blank_cons, blank_nil, blankB, textL_34, textT_asc, textT_end, lit_toList]
theorem req9_r : readL [123, 34, 117, 115, 105, 110, 103, 34, 58, 91, 93, 44, 34, 109, 101, 116, 104, 111, 100, 67, 97, 108, 108, 115, 34, 58, 91, 91, 34, 97, 34, 44, 91, 93, 44, 34, 98, 34, 93, 93, 125] = .error notR := by
  rw [readL_ok req9_p]
  simp [readN, findN, idxK, List.findIdx?_cons, usingS, callsS, Nd.kind, Nd.kids, Nd.text, oddN, noneN, unkN, kindsK, eqK, clOf, lit_toList]
theorem req9_x : readL [123, 34, 117, 115, 105, 110, 103, 34, 58, 91, 93, 44, 34, 109, 101, 116, 104, 111, 100, 67, 97, 108, 108, 115, 34, 58, 91, 91, 34, 97, 34, 44, 91, 93, 44, 34, 98, 34, 93, 93, 125, 120] = .error notJ := by
  refine readL_err (c := 3) ?_
  simp [parseL, valL_49 0 [] rfl rfl, valL_123, valL_91, valL_34, valL_49, digH, digB, pointB, arrL_eq, objL_eq, blank_cons, blank_nil, blankB, textL_34, textT_asc, textT_end, lit_toList]
theorem req10_p : parseL [123, 34, 117, 115, 105, 110, 103, 34, 58, 91, 93, 44, 34, 109, 101, 116, 104, 111, 100, 67, 97, 108, 108, 115, 34, 58, 91, 91, 49, 44, 123, 125, 44, 34, 98, 34, 93, 93, 125] = .ok (.mk 7 0 ⟨#[]⟩ [⟨#[117, 115, 105, 110, 103]⟩, ⟨#[109, 101, 116, 104, 111, 100, 67, 97, 108, 108, 115]⟩] [(.mk 6 0 ⟨#[]⟩ [] []), (.mk 6 0 ⟨#[]⟩ [] [(.mk 6 0 ⟨#[]⟩ [] [(.mk 4 1 ⟨#[]⟩ [] []), (.mk 7 0 ⟨#[]⟩ [] []), (.mk 5 0 ⟨#[98]⟩ [] [])])])]) := by simp [parseL, valL_49 0 [] rfl rfl, valL_123, valL_91, valL_34, valL_49, digH, digB, pointB, arrL_eq, objL_eq, blank_cons, blank_nil, blankB, textL_34, textT_asc, textT_end, lit_toList]
theorem req10_r : readL [123, 34, 117, 115, 105, 110, 103, 34, 58, 91, 93, 44, 34, 109, 101, 116, 104, 111, 100, 67, 97, 108, 108, 115, 34, 58, 91, 91, 49, 44, 123, 125, 44, 34, 98, 34, 93, 93, 125] = .error notR := by
  rw [readL_ok req10_p]
  simp [readN, findN, idxK, List.findIdx?_cons, usingS, callsS, Nd.kind, Nd.kids, Nd.text, oddN, noneN, unkN, kindsK, eqK, clOf, lit_toList]
theorem req10_x : readL [123, 34, 117, 115, 105, 110, 103, 34, 58, 91, 93, 44, 34, 109, 101, 116, 104, 111, 100, 67, 97, 108, 108, 115, 34, 58, 91, 91, 49, 44, 123, 125, 44, 34, 98, 34, 93, 93, 125, 120] = .error notJ := by
  refine readL_err (c := 3) ?_
  simp [parseL, valL_49 0 [] rfl rfl, valL_123, valL_91, valL_34, valL_49, digH, digB, pointB, arrL_eq, objL_eq, blank_cons, blank_nil, blankB, textL_34, textT_asc, textT_end, lit_toList]
theorem req11_p : parseL [49] = .ok (.mk 4 1 ⟨#[]⟩ [] []) := by simp [parseL, valL_49 0 [] rfl rfl, valL_123, valL_91, valL_34, valL_49, digH, digB, pointB, arrL_eq, objL_eq, blank_cons, blank_nil, blankB, textL_34, textT_asc, textT_end, lit_toList]
theorem req11_r : readL [49] = .error notR := by
  rw [readL_ok req11_p]
  simp [readN, findN, idxK, List.findIdx?_cons, usingS, callsS, Nd.kind, Nd.kids, Nd.text, oddN, noneN, unkN, kindsK, eqK, clOf, lit_toList]
theorem req11_x : readL [49, 120] = .error notJ := by
  refine readL_err (c := 3) ?_
  simp [parseL, valL_49 0 [] rfl rfl, valL_123, valL_91, valL_34, valL_49, digH, digB, pointB, arrL_eq, objL_eq, blank_cons, blank_nil, blankB, textL_34, textT_asc, textT_end, lit_toList]
def reqs : List ByteArray := [⟨#[91, 93]⟩, ⟨#[123, 125]⟩, ⟨#[123, 34, 117, 115, 105, 110, 103, 34, 58, 91, 93, 125]⟩, ⟨#[123, 34, 109, 101, 116, 104, 111, 100, 67, 97, 108, 108, 115, 34, 58, 91, 93, 125]⟩, ⟨#[123, 34, 117, 115, 105, 110, 103, 34, 58, 123, 125, 44, 34, 109, 101, 116, 104, 111, 100, 67, 97, 108, 108, 115, 34, 58, 91, 93, 125]⟩, ⟨#[123, 34, 117, 115, 105, 110, 103, 34, 58, 91, 49, 93, 44, 34, 109, 101, 116, 104, 111, 100, 67, 97, 108, 108, 115, 34, 58, 91, 93, 125]⟩, ⟨#[123, 34, 117, 115, 105, 110, 103, 34, 58, 91, 93, 44, 34, 109, 101, 116, 104, 111, 100, 67, 97, 108, 108, 115, 34, 58, 123, 125, 125]⟩, ⟨#[123, 34, 117, 115, 105, 110, 103, 34, 58, 91, 93, 44, 34, 109, 101, 116, 104, 111, 100, 67, 97, 108, 108, 115, 34, 58, 91, 123, 125, 93, 125]⟩, ⟨#[123, 34, 117, 115, 105, 110, 103, 34, 58, 91, 93, 44, 34, 109, 101, 116, 104, 111, 100, 67, 97, 108, 108, 115, 34, 58, 91, 91, 34, 97, 34, 44, 123, 125, 93, 93, 125]⟩, ⟨#[123, 34, 117, 115, 105, 110, 103, 34, 58, 91, 93, 44, 34, 109, 101, 116, 104, 111, 100, 67, 97, 108, 108, 115, 34, 58, 91, 91, 34, 97, 34, 44, 91, 93, 44, 34, 98, 34, 93, 93, 125]⟩, ⟨#[123, 34, 117, 115, 105, 110, 103, 34, 58, 91, 93, 44, 34, 109, 101, 116, 104, 111, 100, 67, 97, 108, 108, 115, 34, 58, 91, 91, 49, 44, 123, 125, 44, 34, 98, 34, 93, 93, 125]⟩, ⟨#[49]⟩]
theorem reqs_bad : ∀ s ∈ reqs, readL s.toList = .error notR ∧ readL (s ++ (⟨#[120]⟩ : ByteArray)).toList = .error notJ := by
  intro s hs
  unfold reqs at hs
  simp only [List.mem_cons, List.not_mem_nil, or_false] at hs
  rcases hs with rfl | rfl | rfl | rfl | rfl | rfl | rfl | rfl | rfl | rfl | rfl | rfl
  · exact ⟨by rw [lit_toList]; exact req0_r, by rw [app_toList, lit_toList, lit_toList]; exact req0_x⟩
  · exact ⟨by rw [lit_toList]; exact req1_r, by rw [app_toList, lit_toList, lit_toList]; exact req1_x⟩
  · exact ⟨by rw [lit_toList]; exact req2_r, by rw [app_toList, lit_toList, lit_toList]; exact req2_x⟩
  · exact ⟨by rw [lit_toList]; exact req3_r, by rw [app_toList, lit_toList, lit_toList]; exact req3_x⟩
  · exact ⟨by rw [lit_toList]; exact req4_r, by rw [app_toList, lit_toList, lit_toList]; exact req4_x⟩
  · exact ⟨by rw [lit_toList]; exact req5_r, by rw [app_toList, lit_toList, lit_toList]; exact req5_x⟩
  · exact ⟨by rw [lit_toList]; exact req6_r, by rw [app_toList, lit_toList, lit_toList]; exact req6_x⟩
  · exact ⟨by rw [lit_toList]; exact req7_r, by rw [app_toList, lit_toList, lit_toList]; exact req7_x⟩
  · exact ⟨by rw [lit_toList]; exact req8_r, by rw [app_toList, lit_toList, lit_toList]; exact req8_x⟩
  · exact ⟨by rw [lit_toList]; exact req9_r, by rw [app_toList, lit_toList, lit_toList]; exact req9_x⟩
  · exact ⟨by rw [lit_toList]; exact req10_r, by rw [app_toList, lit_toList, lit_toList]; exact req10_x⟩
  · exact ⟨by rw [lit_toList]; exact req11_r, by rw [app_toList, lit_toList, lit_toList]; exact req11_x⟩
end Go.Proofs.Ytnhoecmcbikcnaa
/-! The document's example of calls holds; CallBad. -/
namespace Go.Proofs.Ytnhoecmcbikcnaa
open Go.RowKit Go.PlainAid
set_option linter.unusedVariables false
set_option linter.unusedSimpArgs false
theorem kRead_any (s : ByteArray) (A : Option Addr) (c : Nat) (w : World) (h : BytesAt w A c s) : Calls Try.prog 14 #[.slice A s.size c] w (ReadP (readL s.toList) w) := by
  cases hr : parseL s.toList with
  | error ec => exact kRead_bad s A c w ec h hr
  | ok n => exact kRead_ok s A c w n h hr
theorem ReadP.bad {s : ByteArray} {r : Except ByteArray (List Cl)} {w : World} {e : Ending} {w' : World} (hr : r = .error s) (h : ReadP r w e w') : ∃ (A : Option Addr) (c : Nat), e = .returned (.tuple #[.slice A 0 c, .string s]) ∧ Below w.heap.size w w' := by
  subst hr
  obtain ⟨A, c, xs, he, _, _, hb⟩ := h
  exact ⟨A, c, he, hb⟩
theorem ReadP.none_ {r : Except ByteArray (List Cl)} {w : World} {e : Ending} {w' : World} (hr : r = .ok []) (h : ReadP r w e w') : ∃ (A : Option Addr) (c : Nat), e = .returned (.tuple #[.slice A 0 c, .string ⟨#[]⟩]) ∧ Below w.heap.size w w' := by
  subst hr
  obtain ⟨A, c, xs, he, _, _, hb⟩ := h
  exact ⟨A, c, he, hb⟩
theorem cells_at (w : World) (C : List Value) (fr : Nat × Nat) (s : ByteArray) (hn : C.length = s.size) (h : ∀ i, i < s.size → C[i]? = some (.int .u8 (bt s i))) : BytesAt (w.alloc (.cells C.toArray 5 fr)) (some ⟨w.heap.size, 0, none⟩) s.size s := by
  refine BytesAt.of_cells (fun _ => by simp) (fun i hi => ?_)
  rw [World.cell?_alloc_mark, Nat.zero_add]
  simpa using h i hi
set_option maxRecDepth 100000 in
set_option maxHeartbeats 2000000 in
theorem awake26_any (w : World) : Calls Try.prog 13 #[] w (BoolBel true w) := by
  have HP : Hid (Calls Try.prog 14 #[.slice (some ⟨w.heap.size, 0, none⟩) 29 29] (w.alloc (.cells #[.int .u8 123, .int .u8 34, .int .u8 117, .int .u8 115, .int .u8 105, .int .u8 110, .int .u8 103, .int .u8 34, .int .u8 58, .int .u8 91, .int .u8 93, .int .u8 44, .int .u8 34, .int .u8 109, .int .u8 101, .int .u8 116, .int .u8 104, .int .u8 111, .int .u8 100, .int .u8 67, .int .u8 97, .int .u8 108, .int .u8 108, .int .u8 115, .int .u8 34, .int .u8 58, .int .u8 91, .int .u8 93, .int .u8 125] 5 (29, 30))) (fun e w' => ∃ (A : Option Addr) (c : Nat), e = .returned (.tuple #[.slice A 0 c, .string ⟨#[]⟩]) ∧ Below (w.alloc (.cells #[.int .u8 123, .int .u8 34, .int .u8 117, .int .u8 115, .int .u8 105, .int .u8 110, .int .u8 103, .int .u8 34, .int .u8 58, .int .u8 91, .int .u8 93, .int .u8 44, .int .u8 34, .int .u8 109, .int .u8 101, .int .u8 116, .int .u8 104, .int .u8 111, .int .u8 100, .int .u8 67, .int .u8 97, .int .u8 108, .int .u8 108, .int .u8 115, .int .u8 34, .int .u8 58, .int .u8 91, .int .u8 93, .int .u8 125] 5 (29, 30))).heap.size (w.alloc (.cells #[.int .u8 123, .int .u8 34, .int .u8 117, .int .u8 115, .int .u8 105, .int .u8 110, .int .u8 103, .int .u8 34, .int .u8 58, .int .u8 91, .int .u8 93, .int .u8 44, .int .u8 34, .int .u8 109, .int .u8 101, .int .u8 116, .int .u8 104, .int .u8 111, .int .u8 100, .int .u8 67, .int .u8 97, .int .u8 108, .int .u8 108, .int .u8 115, .int .u8 34, .int .u8 58, .int .u8 91, .int .u8 93, .int .u8 125] 5 (29, 30))) w')) := by
    have hby : BytesAt (w.alloc (.cells #[.int .u8 123, .int .u8 34, .int .u8 117, .int .u8 115, .int .u8 105, .int .u8 110, .int .u8 103, .int .u8 34, .int .u8 58, .int .u8 91, .int .u8 93, .int .u8 44, .int .u8 34, .int .u8 109, .int .u8 101, .int .u8 116, .int .u8 104, .int .u8 111, .int .u8 100, .int .u8 67, .int .u8 97, .int .u8 108, .int .u8 108, .int .u8 115, .int .u8 34, .int .u8 58, .int .u8 91, .int .u8 93, .int .u8 125] 5 (29, 30))) (some ⟨w.heap.size, 0, none⟩) 29 ⟨#[123, 34, 117, 115, 105, 110, 103, 34, 58, 91, 93, 44, 34, 109, 101, 116, 104, 111, 100, 67, 97, 108, 108, 115, 34, 58, 91, 93, 125]⟩ := by
      refine BytesAt.of_cells (fun _ => by simp) (fun i hi => ?_)
      have hi : i < 29 := hi
      rw [World.cell?_alloc_mark]
      have : i = 0 ∨ i = 1 ∨ i = 2 ∨ i = 3 ∨ i = 4 ∨ i = 5 ∨ i = 6 ∨ i = 7 ∨ i = 8 ∨ i = 9 ∨ i = 10 ∨ i = 11 ∨ i = 12 ∨ i = 13 ∨ i = 14 ∨ i = 15 ∨ i = 16 ∨ i = 17 ∨ i = 18 ∨ i = 19 ∨ i = 20 ∨ i = 21 ∨ i = 22 ∨ i = 23 ∨ i = 24 ∨ i = 25 ∨ i = 26 ∨ i = 27 ∨ i = 28 := by omega
      rcases this with rfl | rfl | rfl | rfl | rfl | rfl | rfl | rfl | rfl | rfl | rfl | rfl | rfl | rfl | rfl | rfl | rfl | rfl | rfl | rfl | rfl | rfl | rfl | rfl | rfl | rfl | rfl | rfl | rfl <;> rfl
    exact (kRead_any ⟨#[123, 34, 117, 115, 105, 110, 103, 34, 58, 91, 93, 44, 34, 109, 101, 116, 104, 111, 100, 67, 97, 108, 108, 115, 34, 58, 91, 93, 125]⟩ _ _ _ hby).mono (fun e w' h => ReadP.none_ (by rw [lit_toList]; exact reqA_r) h)
  have HP2 : Hid (∀ w1 : World, Calls Try.prog 14 #[.slice (some ⟨w1.heap.size, 0, none⟩) 2 2] (w1.alloc (.cells #[.int .u8 123, .int .u8 125] 5 (2, 3))) (fun e w' => ∃ (A : Option Addr) (c : Nat), e = .returned (.tuple #[.slice A 0 c, .string notR]) ∧ Below (w1.alloc (.cells #[.int .u8 123, .int .u8 125] 5 (2, 3))).heap.size (w1.alloc (.cells #[.int .u8 123, .int .u8 125] 5 (2, 3))) w')) := fun w1 => by
    have hby : BytesAt (w1.alloc (.cells #[.int .u8 123, .int .u8 125] 5 (2, 3))) (some ⟨w1.heap.size, 0, none⟩) 2 ⟨#[123, 125]⟩ := by
      refine BytesAt.of_cells (fun _ => by simp) (fun i hi => ?_)
      have hi : i < 2 := hi
      rw [World.cell?_alloc_mark]
      have : i = 0 ∨ i = 1 := by omega
      rcases this with rfl | rfl <;> rfl
    exact (kRead_any ⟨#[123, 125]⟩ _ _ _ hby).mono (fun e w' h => ReadP.bad (by rw [lit_toList]; exact req1_r) h)
  unfold notR at HP2
  have HA : Hid (Below w.heap.size w (w.alloc (.cells #[.int .u8 123, .int .u8 34, .int .u8 117, .int .u8 115, .int .u8 105, .int .u8 110, .int .u8 103, .int .u8 34, .int .u8 58, .int .u8 91, .int .u8 93, .int .u8 44, .int .u8 34, .int .u8 109, .int .u8 101, .int .u8 116, .int .u8 104, .int .u8 111, .int .u8 100, .int .u8 67, .int .u8 97, .int .u8 108, .int .u8 108, .int .u8 115, .int .u8 34, .int .u8 58, .int .u8 91, .int .u8 93, .int .u8 125] 5 (29, 30)))) := (Below.refl _ _).alloc (Nat.le_refl _) _
  have kc := fun (w : World) (C : Array Value) (n c : Nat) => Lib.run_convert_bytes_const (P := Try.prog) w 22 5 C n c Try.underlying22 Try.underlying5
  go_enter Try.func13, Try.ntmps13
  go_wp2_with fail
  refine (HP.out : Calls _ _ _ _ _).mono ?_
  rintro e w1 ⟨A1, c1, rfl, hb⟩
  have HB := Lib.hid (nextB HA.out hb)
  clear hb
  go_wp2_with fail
  refine (HP2.out _ : Calls _ _ _ _ _).mono ?_
  rintro e w2 ⟨A2, c2, rfl, hb⟩
  have HB2 := Lib.hid (nextB (HB.out.alloc HB.out.size _) hb)
  clear hb
  go_wp2_with fail
  go_ret
  exact ⟨rfl, HB2.out⟩
end Go.Proofs.Ytnhoecmcbikcnaa
/-! CallMade: objects that are put together have their keys and values; texts are found in them. -/
namespace Go.Proofs.Ytnhoecmcbikcnaa
open Go.RowKit Go.PlainAid
set_option linter.unusedVariables false
set_option linter.unusedSimpArgs false
theorem kidsO_sub {ns : List Nd} : ∀ n ∈ kidsO ns, n ∈ ns := by
  match ns with
  | [] => intro n hn; cases hn
  | [a] => intro n hn; cases hn
  | a :: b :: r =>
    intro n hn
    rw [show kidsO (a :: b :: r) = b :: kidsO r from rfl, List.mem_cons] at hn
    rcases hn with rfl | hn
    · simp
    · have := kidsO_sub n hn; simp [this]
theorem keysO_len (ns : List Nd) : (keysO ns).length ≤ ns.length ∧ (kidsO ns).length ≤ ns.length := by
  match ns with
  | [] => exact ⟨Nat.le_refl _, Nat.le_refl _⟩
  | [a] => exact ⟨by simp [keysO], by simp [kidsO]⟩
  | a :: b :: r =>
    have := keysO_len r
    exact ⟨by rw [show keysO (a :: b :: r) = a.text :: keysO r from rfl]; simp; omega, by rw [show kidsO (a :: b :: r) = b :: kidsO r from rfl]; simp; omega⟩
theorem sizeOkL_mem {ns : List Nd} : (∀ n ∈ ns, sizeOk n) → sizeOkL ns := by
  induction ns with
  | nil => intro _; unfold sizeOkL; trivial
  | cons n ns ih => intro h; unfold sizeOkL; exact ⟨h n (by simp), ih (fun m hm => h m (by simp [hm]))⟩
theorem sizeOk_text {n : Nd} (h : sizeOk n) : n.text.size ≤ 1000000000 := by
  cases n; unfold sizeOk at h; exact h.2.1
theorem keysO_mem {ns : List Nd} : ∀ t ∈ keysO ns, ∃ n ∈ ns, t = n.text := by
  match ns with
  | [] => intro t ht; cases ht
  | [a] => intro t ht; cases ht
  | a :: b :: r =>
    intro t ht
    rw [show keysO (a :: b :: r) = a.text :: keysO r from rfl, List.mem_cons] at ht
    rcases ht with rfl | ht
    · exact ⟨a, by simp, rfl⟩
    · obtain ⟨n, hn, e⟩ := keysO_mem t ht
      exact ⟨n, by simp [hn], e⟩
theorem sizeOk_obj {ns : List Nd} (h : ∀ n ∈ ns, sizeOk n) (hl : ns.length ≤ 1000000) : sizeOk (objO ns) := by
  unfold objO sizeOk
  have hk := keysO_len ns
  refine ⟨by omega, by decide, fun t ht => ?_, by omega, sizeOkL_mem (fun n hn => h n (kidsO_sub n hn))⟩
  obtain ⟨n, hn, e⟩ := keysO_mem t ht
  rw [e]; exact sizeOk_text (h n hn)
def CellsN (g : Nat) (c0 c1 : Int) (c2 : ByteArray) (c3 : Option Addr) (c4 c5 : Nat) (c6 : Option Addr) (c7 c8 : Nat) (w : World) : Prop := w.cell? ⟨g, 0, none⟩ = some (.int .i64 c0) ∧ w.cell? ⟨g, 1, none⟩ = some (.int .i64 c1) ∧ w.cell? ⟨g, 2, none⟩ = some (.string c2) ∧ w.cell? ⟨g, 3, none⟩ = some (.slice c3 c4 c5) ∧ w.cell? ⟨g, 4, none⟩ = some (.slice c6 c7 c8)
set_option maxRecDepth 100000 in
set_option maxHeartbeats 4000000 in
theorem callMade_walk (ns : List Nd) (A : Option Addr) (cc : Nat) (xs : List Value) (key : ByteArray) (w : World) (hxs : Reads w w.heap.size 5 A ns.length xs ∧ NdsIs w w.heap.size ns xs ∧ ns.length ≤ 9223372036854775807) (hkey : key.size ≤ maxLen) :
    Calls Try.prog 7 #[.slice A ns.length cc, .string key] w fun e w' => e = .returned (.bool true) ∧ Below w.heap.size w w' := by
  obtain ⟨hxs, hns, hmax⟩ := hxs
  have hW := Below.refl w.heap.size w
  by_cases h60 : 60 < ns.length
  · have q1 : (60 : Int) < (ns.length : Int) := by omega
    clear hxs hns
    go_enter Try.func7, Try.ntmps7
    go_wp2_with (go_at_call 13; refine (awake26_any _).mono ?_; rintro e w1 ⟨rfl, hw1⟩; (first | replace hW := nextB hW hw1 | replace hW := nextA hW hw1 | replace hW := nextB hW.drew hw1 | replace hW := nextAA hW hw1 | replace hW := nextAD hW hw1); clear hw1)
    go_ret
    exact ⟨rfl, hW⟩
  have q1 : ¬ (60 : Int) < (ns.length : Int) := by omega
  by_cases h100 : 100 < key.size
  · have q2 : (100 : Int) < (key.size : Int) := by omega
    clear hxs hns
    go_enter Try.func7, Try.ntmps7
    go_wp2_with (go_at_call 13; refine (awake26_any _).mono ?_; rintro e w1 ⟨rfl, hw1⟩; (first | replace hW := nextB hW hw1 | replace hW := nextA hW hw1 | replace hW := nextB hW.drew hw1 | replace hW := nextAA hW hw1 | replace hW := nextAD hW hw1); clear hw1)
    go_ret
    exact ⟨rfl, hW⟩
  have q2 : ¬ (100 : Int) < (key.size : Int) := by omega
  have HXS := Lib.hid hxs
  have HNS := Lib.hid hns
  have HL := Lib.hid (show ns.length ≤ 1000000 by omega)
  have hnl : ns.length ≤ 60 := by omega
  have HK : Hid (∀ w', Below w.heap.size w w' → Reads w' w'.heap.size 5 A ns.length xs ∧ NdsIs w' w'.heap.size ns xs) := fun w' h => ⟨RS.reads (S := (· < w.heap.size)) (hxs.keep fun p hp => h.cell hp) (fun b hb => Nat.lt_of_lt_of_le hb h.size), NdsIs.more h.size _ _ (NdsIs.keep (fun p hp => h.cell hp) _ _ hns)⟩
  have G0 : Hid (∀ (j : Nat) (n : Nd), j < 0 → ns[j]? = some n → greatN n = false) := fun j n h => absurd h (by omega)
  clear hxs hns h60 h100
  go_enter Try.func7, Try.ntmps7
  go_wp2_with fail
  go_loopw [5] (fun t5 wr => ∃ i : Nat, i ≤ ns.length ∧ t5 = .int .i64 i ∧ Hid (∀ (j : Nat) (n : Nd), j < i → ns[j]? = some n → greatN n = false) ∧ Below w.heap.size w wr) (fun t5 _ => ns.length - (intOf t5).toNat)
  case atStart => exact ⟨0, by omega, rfl, G0, hW⟩
  case round =>
    clear hW G0
    obtain ⟨i, hi, rfl, hG, hW⟩ := hrel
    obtain ⟨wo, rfl⟩ : ∃ wo : World, wo = wr := ⟨_, rfl⟩
    by_cases hlt : i < ns.length
    · have hsz := hW.size
      obtain ⟨hr, hn⟩ := HK.out wo hW
      obtain ⟨ad, n, v0, v1, v2, v3, v4, rfl, hadb, hni, hnd, e0, e1, e2, e3, e4⟩ := hr.nd hn hlt
      have HGR := Lib.hid (great_any n [v0, v1, v2, v3, v4] wo wo.heap.size hnd (Nat.le_refl _))
      have i0 : (0 : Int) ≤ (i : Int) := by omega
      have i1 : (i : Int) < (ns.length : Int) := by omega
      cases hg : greatN n with
      | true =>
        rw [hg] at HGR
        clear hnd hni hr hn hg
        go_wp2_with fail
        refine HGR.out.mono ?_; rintro e w1 ⟨rfl, hw1⟩
        replace hW := nextB hW hw1; clear hw1
        go_wp2_with (go_at_call 13; refine (awake26_any _).mono ?_; rintro e w1 ⟨rfl, hw1⟩; (first | replace hW := nextB hW hw1 | replace hW := nextA hW hw1 | replace hW := nextB hW.drew hw1 | replace hW := nextAA hW hw1 | replace hW := nextAD hW hw1); clear hw1)
        go_ret
        exact ⟨rfl, hW⟩
      | false =>
        have HG2 : Hid (∀ (j : Nat) (m : Nd), j < i + 1 → ns[j]? = some m → greatN m = false) := fun j m hj hm => by
          by_cases e : j = i
          · subst e; rw [hni] at hm; injection hm with hm; rw [← hm]; exact hg
          · exact hG.out j m (by omega) hm
        rw [hg] at HGR
        clear hnd hni hr hn hg
        go_wp2_with fail
        refine HGR.out.mono ?_; rintro e w1 ⟨rfl, hw1⟩
        replace hW := nextB hW hw1; clear hw1
        go_wp2_with fail
        go_roundw
        case rel => exact ⟨i + 1, by omega, by go_num, HG2, hW⟩
        case measure => simp [intOf]; omega
    · obtain rfl : i = ns.length := by omega
      have HSO : Hid (sizeOk (objO ns)) := sizeOk_obj (fun n hn => by
        obtain ⟨j, hj⟩ := List.mem_iff_getElem?.1 hn
        have hjl := (List.getElem?_eq_some_iff.1 hj).1
        obtain ⟨cs, h1, _⟩ := NdsIs.at_ ns xs j n HNS.out hj
        exact (not_great h1 (hG.out j n hjl hj)).1) HL.out
      have HO : Hid (∀ w', Below w.heap.size w w' → Calls Try.prog 19 #[.slice A ns.length cc] w' (ObjP (objO ns) w')) := fun w' h => kObj_any ns A cc xs w' (HK.out w' h).1 (HK.out w' h).2 HL.out
      have HR : Hid (∀ w', Below w.heap.size w w' → Calls Try.prog 22 #[.slice A ns.length cc] w' (ObjP (objO ns) w')) := fun w' h => rObj_any ns A cc xs w' (HK.out w' h).1 (HK.out w' h).2 HL.out
      have i1 : ¬ (ns.length : Int) < (ns.length : Int) := by omega
      clear hi hG HNS HXS
      go_wp2_with fail
      refine (HO.out _ hW).mono ?_; rintro e w1 ⟨c0, c1, c2, c3, c4, c5, c6, c7, c8, rfl, hn, hb⟩
      have hA : Below w1.heap.size w1 (w1.alloc (.cells #[.int .i64 c0, .int .i64 c1, .string c2, .slice c3 c4 c5, .slice c6 c7 c8] 27)) := (Below.refl _ _).alloc (Nat.le_refl _) _
      have HN1 := Lib.hid (NdIs.more hA.size _ _ (hn.below hA))
      have HB1 := Lib.hid (Blk.new w1 27 #[.int .i64 c0, .int .i64 c1, .string c2, .slice c3 c4 c5, .slice c6 c7 c8])
      replace hW := (nextB hW hb).trans (hA.mono (nextB hW hb).size)
      have HT := Lib.hid (kText_any (objO ns) key [.int .i64 c0, .int .i64 c1, .string c2, .slice c3 c4 c5, .slice c6 c7 c8] _ _ HN1.out (Nat.le_refl _) HSO.out)
      clear hn hA hb HO
      go_wp2_with fail
      refine HT.out.mono ?_; rintro e w2 ⟨rfl, hb⟩
      have HN2 := Lib.hid (NdIs.more hb.size _ _ (HN1.out.below hb))
      have HB2 := Lib.hid (HB1.out.below hb HB1.out.lt)
      replace hW := nextB hW hb
      clear hb HN1 HB1 HT
      go_wp2_with fail
      refine (HR.out _ hW).mono ?_; rintro e w3 ⟨d0, d1, d2, d3, d4, d5, d6, d7, d8, rfl, hn, hb⟩
      have HN3 := Lib.hid (NdIs.more hb.size _ _ (HN2.out.below hb))
      have HB3 := Lib.hid (HB2.out.below hb HB2.out.lt)
      replace hW := nextB hW hb
      have HT := Lib.hid (rText_any (objO ns) key _ _ _ hn (Nat.le_refl _))
      clear hb HN2 HB2 hn
      go_wp2_with fail
      refine HT.out.mono ?_; rintro e w4 ⟨rfl, hb⟩
      have HN4 := Lib.hid (NdIs.more hb.size _ _ (HN3.out.below hb))
      have HB4 := Lib.hid (HB3.out.below hb HB3.out.lt)
      replace hW := nextB hW hb
      clear hb HN3 HB3 HT
      generalize textO (objO ns) key = T at *
      have hd : Below w4.heap.size w4 w4.drew := (Below.refl _ _).drew
      have HWD := Lib.hid (nextB hW hd)
      have HND := Lib.hid (HN4.out.below hd)
      have HS4 : Hid (CellsN w1.heap.size c0 c1 c2 c3 c4 c5 c6 c7 c8 w4.drew) := HB4.out.cells5
      have hlt1 : w1.heap.size < w4.drew.heap.size := HB4.out.lt
      unfold CellsN at HS4
      clear hd
      go_wp2_with fail
      go_region_held3 (fun w' => w'.cell? ⟨w1.heap.size, 0, none⟩ = some (.int .i64 c0) ∧ w'.cell? ⟨w1.heap.size, 1, none⟩ = some (.int .i64 c1) ∧ w'.cell? ⟨w1.heap.size, 2, none⟩ = some (.string c2) ∧ w'.cell? ⟨w1.heap.size, 3, none⟩ = some (.slice c3 c4 c5) ∧ w'.cell? ⟨w1.heap.size, 4, none⟩ = some (.slice c6 c7 c8)) (first | exact HS4.out | exact HS5.out | exact HS6.out | exact HS7.out) (first
        | (go_at_call 22; refine (HR.out _ HWD.out).mono ?_; rintro e w5 ⟨g0, g1, g2, g3, g4, g5, g6, g7, g8, rfl, hn, hb⟩; have HN5 := Lib.hid (NdIs.more hb.size _ _ (HND.out.below hb)); have HM5 := Lib.hid hn; have HW5 := Lib.hid (nextB HWD.out hb); have HB5 := Lib.hid ((show Blk w4.drew w1.heap.size 27 #[.int .i64 c0, .int .i64 c1, .string c2, .slice c3 c4 c5, .slice c6 c7 c8] from HB4.out).below hb hlt1); have HS5 := Lib.hid HB5.out.cells5; clear hn hb)
        | (go_at_call 11; have HSM := rSame_any (objO ns).count (objO ns) (objO ns) _ _ _ _ (Nat.le_refl _) HN5.out HM5.out (Nat.le_refl _); rw [sameN_refl] at HSM; refine HSM.mono ?_; rintro e w6 ⟨rfl, hb⟩; have HW6 := Lib.hid (nextB HW5.out hb); have HB6 := Lib.hid (HB5.out.below hb HB5.out.lt); have HS6 := Lib.hid HB6.out.cells5; clear hb HSM)
        | (go_at_call 13; refine (awake26_any _).mono ?_; rintro e w7 ⟨rfl, hb⟩; have HW7 := Lib.hid (nextB HW6.out hb); have HB7 := Lib.hid (HB6.out.below hb HB6.out.lt); have HS7 := Lib.hid HB7.out.cells5; clear hb))
      go_wp2_with fail
      go_ret
      exact ⟨rfl, HW7.out⟩
end Go.Proofs.Ytnhoecmcbikcnaa
