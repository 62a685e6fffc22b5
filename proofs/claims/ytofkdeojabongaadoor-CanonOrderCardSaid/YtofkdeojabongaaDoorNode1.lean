/- The walks of weight and Great. -/
import Derived.Test.YtofkdeojabongaaDoorNode0
import Derived.Deep.DeepCutAuto
namespace Go.Proofs.YtofkdeojabongaaDoor
open Go.RowKit
set_option linter.unusedVariables false
set_option linter.unusedSimpArgs false
def tooLong : List ByteArray → Bool
  | [] => false
  | s :: l => decide (2000 < s.size) || tooLong l
mutual
def weightN : Nd → Int → Int
  | .mk _ _ t ks ns, deep => if 40 < deep ∨ 2000 < t.size ∨ 300 < ks.length ∨ 300 < ns.length then 3000 else if tooLong ks = true then 3000 else weightL ns (deep + 1) 1
def weightL : List Nd → Int → Int → Int
  | [], _, acc => acc
  | n :: ns, deep, acc => if acc < 3000 then weightL ns deep (acc + weightN n deep) else acc
end
def IntBelow (v : Int) (w : World) (e : Ending) (w' : World) : Prop := e = .returned (.int .i64 v) ∧ Below w.heap.size w w'
theorem tooLong_at (ks : List ByteArray) (i : Nat) (s : ByteArray) (h : ks[i]? = some s) (hs : 2000 < s.size) : tooLong ks = true := by
  induction ks generalizing i with
  | nil => simp at h
  | cons a ks ih =>
    simp only [tooLong, Bool.or_eq_true, decide_eq_true_eq]
    cases i with
    | zero => simp at h; subst h; exact .inl hs
    | succ i => exact .inr (ih i (by simpa using h))
theorem tooLong_no (ks : List ByteArray) (h : ∀ (i : Nat) (s : ByteArray), ks[i]? = some s → s.size ≤ 2000) : tooLong ks = false := by
  induction ks with
  | nil => rfl
  | cons a ks ih =>
    simp only [tooLong, Bool.or_eq_false_iff, decide_eq_false_iff_not]
    refine ⟨?_, ih fun i s hi => h (i + 1) s (by rw [List.getElem?_cons_succ]; exact hi)⟩
    have := h 0 a rfl
    omega
mutual
theorem weightN_le : ∀ (n : Nd) (deep : Int), 0 ≤ deep → deep ≤ 41 → 0 ≤ weightN n deep ∧ weightN n deep ≤ 3000 * (42 - deep)
  | .mk k m t ks ns, deep, h0, h1 => by
    unfold weightN
    split
    · omega
    · split
      · omega
      · have := weightL_le ns (deep + 1) 1 (by omega) (by omega) (by omega) (by omega)
        omega
theorem weightL_le : ∀ (ns : List Nd) (deep acc : Int), 0 ≤ deep → deep ≤ 41 → 0 ≤ acc → acc ≤ 3000 * (43 - deep) → 0 ≤ weightL ns deep acc ∧ weightL ns deep acc ≤ 3000 * (43 - deep)
  | [], deep, acc, _, _, h2, h3 => by unfold weightL; exact ⟨h2, h3⟩
  | n :: ns, deep, acc, h0, h1, h2, h3 => by
    unfold weightL
    split
    · have := weightN_le n deep h0 h1
      exact weightL_le ns deep (acc + weightN n deep) h0 h1 (by omega) (by omega)
    · exact ⟨h2, h3⟩
end
theorem weightL_at (ns : List Nd) (i : Nat) (n : Nd) (deep acc : Int) (h : ns[i]? = some n) (ha : acc < 3000) : weightL (ns.drop i) deep acc = weightL (ns.drop (i + 1)) deep (acc + weightN n deep) := by
  have hl : i < ns.length := (List.getElem?_eq_some_iff.1 h).1
  rw [List.drop_eq_getElem_cons hl, (List.getElem?_eq_some_iff.1 h).2]
  conv => lhs; unfold weightL
  rw [if_pos ha]
theorem weightL_end (ns : List Nd) (deep acc : Int) (h : ns = [] ∨ ¬ acc < 3000) : weightL ns deep acc = acc := by
  cases ns with
  | nil => unfold weightL; rfl
  | cons n ns =>
    rcases h with h | h
    · cases h
    · unfold weightL; rw [if_neg h]
theorem weightN_eq (k num : Int) (t : ByteArray) (ks : List ByteArray) (ns : List Nd) (deep : Int) (h1 : ¬ 40 < deep) (h2 : ¬ 2000 < t.size) (h3 : ¬ 300 < ks.length) (h4 : ¬ 300 < ns.length) :
    weightN (.mk k num t ks ns) deep = if tooLong ks = true then 3000 else weightL ns (deep + 1) 1 := by
  conv => lhs; unfold weightN
  rw [if_neg (by omega)]
def WeightIn (vs : Array Value) (deep v : Int) (w' : World) : Prop := Calls Tryd.prog 21 #[.agg vs, .int .i64 deep] w' (IntBelow v w')
/-- one string of a slice of strings -/
theorem Reads.str {w : World} {B : Nat} {A : Option Addr} {ks : List ByteArray} (h : Reads w B 1 A ks.length (ks.map Value.string)) {i : Nat} (hi : i < ks.length) : ∃ ad s, A = some ad ∧ ad.block < B ∧ ks[i]? = some s ∧ w.cell? (ad.add i) = some (.string s) := by
  obtain ⟨ad, u, e, hb, hu, hc⟩ := h.at_ hi
  rw [List.getElem?_map] at hu
  cases hk : ks[i]? with
  | none => rw [hk] at hu; simp at hu
  | some s =>
    rw [hk] at hu
    simp at hu
    subst hu
    exact ⟨ad, s, e, hb, rfl, hc⟩
/-- one node of a slice of nodes -/
theorem Reads.nd {w : World} {B : Nat} {A : Option Addr} {ns : List Nd} {xs : List Value} (h : Reads w B 5 A ns.length xs) (hs : NdsIs w B ns xs) {i : Nat} (hi : i < ns.length) :
    ∃ ad n v0 v1 v2 v3 v4, A = some ad ∧ ad.block < B ∧ ns[i]? = some n ∧ NdIs w B n [v0, v1, v2, v3, v4] ∧ w.cell? (ad.add (i * 5)) = some v0 ∧ w.cell? ⟨(ad.add (i * 5)).block, (ad.add (i * 5)).off + 1, none⟩ = some v1 ∧ w.cell? ⟨(ad.add (i * 5)).block, (ad.add (i * 5)).off + 2, none⟩ = some v2 ∧
      w.cell? ⟨(ad.add (i * 5)).block, (ad.add (i * 5)).off + 3, none⟩ = some v3 ∧ w.cell? ⟨(ad.add (i * 5)).block, (ad.add (i * 5)).off + 4, none⟩ = some v4 := by
  obtain ⟨ad, e, hb, hc⟩ := h.2 (by omega)
  obtain ⟨cs, h1, h2⟩ := NdsIs.at_ ns xs i ns[i] hs (List.getElem?_eq_getElem hi)
  have hl := h1.len
  match cs, hl with
  | [v0, v1, v2, v3, v4], _ =>
    have g : ∀ j u, j < 5 → [v0, v1, v2, v3, v4][j]? = some u → w.cell? ((ad.add (i * 5)).add j) = some u := fun j u hj hu => by
      rw [add_of_add]; exact hc _ _ ((h2 j hj).trans hu)
    have g0 := g 0 v0 (by omega) rfl
    rw [show (ad.add (i * 5)).add 0 = ad.add (i * 5) by simp [Addr.add]] at g0
    exact ⟨ad, ns[i], v0, v1, v2, v3, v4, e, hb, List.getElem?_eq_getElem hi, h1, g0, g 1 v1 (by omega) rfl, g 2 v2 (by omega) rfl, g 3 v3 (by omega) rfl, g 4 v4 (by omega) rfl⟩
set_option maxRecDepth 100000 in
set_option maxHeartbeats 1000000 in
theorem weight_any (c : Nat) : ∀ (n : Nd) (cs : List Value) (w : World) (B : Nat) (deep : Int), n.count ≤ c → NdIs w B n cs → B ≤ w.heap.size → 0 ≤ deep → deep ≤ 41 → Calls Tryd.prog 21 #[.agg cs.toArray, .int .i64 deep] w (IntBelow (weightN n deep) w) := by
  induction c with
  | zero => intro n cs w B deep hc; have := n.count_pos; omega
  | succ c ih =>
    intro n cs w B deep hc hn hB d0 d1
    have hW := Below.refl w.heap.size w
    obtain ⟨k, num, t, ks, ns⟩ := n
    unfold NdIs at hn
    obtain ⟨A, ck, A2, cc, xs, rfl, hks, hxs, hns, ik, inn, ht, hkl, hk, hm⟩ := hn
    unfold maxLen at *
    by_cases h1 : 40 < deep
    · have hv : weightN (.mk k num t ks ns) deep = 3000 := by unfold weightN; rw [if_pos (.inl h1)]
      rw [hv]
      go_enter Tryd.func21, Tryd.ntmps21
      go_wp2_with fail
      go_ret
      exact ⟨rfl, hW.alloc hW.size _⟩
    by_cases h2 : 2000 < t.size
    · have hv : weightN (.mk k num t ks ns) deep = 3000 := by unfold weightN; rw [if_pos (.inr (.inl h2))]
      rw [hv]
      go_enter Tryd.func21, Tryd.ntmps21
      go_wp2_with fail
      go_ret
      exact ⟨rfl, hW.alloc hW.size _⟩
    by_cases h3 : 300 < ks.length
    · have hv : weightN (.mk k num t ks ns) deep = 3000 := by unfold weightN; rw [if_pos (.inr (.inr (.inl h3)))]
      rw [hv]
      go_enter Tryd.func21, Tryd.ntmps21
      go_wp2_with fail
      go_ret
      exact ⟨rfl, hW.alloc hW.size _⟩
    by_cases h4 : 300 < ns.length
    · have hv : weightN (.mk k num t ks ns) deep = 3000 := by unfold weightN; rw [if_pos (.inr (.inr (.inr h4)))]
      rw [hv]
      go_enter Tryd.func21, Tryd.ntmps21
      go_wp2_with fail
      go_ret
      exact ⟨rfl, hW.alloc hW.size _⟩
    have HV : Hid (weightN (.mk k num t ks ns) deep = if tooLong ks = true then 3000 else weightL ns (deep + 1) 1) := weightN_eq _ _ _ _ _ _ h1 h2 h3 h4
    generalize weightN (.mk k num t ks ns) deep = V at *
    have HIH : Hid (∀ (n : Nd) (cs : List Value) (w : World) (B : Nat) (deep : Int), n.count ≤ c → NdIs w B n cs → B ≤ w.heap.size → 0 ≤ deep → deep ≤ 41 → Calls Tryd.prog 21 #[.agg cs.toArray, .int .i64 deep] w (IntBelow (weightN n deep) w)) := ih
    have HC : Hid (∀ (i : Nat) (n : Nd), ns[i]? = some n → n.count ≤ c) := fun i n hi => by
      have := Nd.counts_get ns i n hi
      simp only [Nd.count] at hc
      omega
    have HKS := Lib.hid hks
    have HXS := Lib.hid hxs
    have HNS := Lib.hid hns
    clear ih hks hxs hns hkl ht hk hm ik inn hc
    go_enter Tryd.func21, Tryd.ntmps21
    go_wp2_with fail
    have hblk : Blk (w.alloc (.cells #[.int .i64 k, .int .i64 num, .string t, .slice A ks.length ck, .slice A2 ns.length cc] 25)) w.heap.size 25 #[.int .i64 k, .int .i64 num, .string t, .slice A ks.length ck, .slice A2 ns.length cc] := Blk.new w _ _
    replace hW := hW.alloc hW.size (.cells #[.int .i64 k, .int .i64 num, .string t, .slice A ks.length ck, .slice A2 ns.length cc] 25)
    have hsz : w.heap.size < (w.alloc (.cells #[.int .i64 k, .int .i64 num, .string t, .slice A ks.length ck, .slice A2 ns.length cc] 25)).heap.size := by simp
    generalize w.alloc (.cells #[.int .i64 k, .int .i64 num, .string t, .slice A ks.length ck, .slice A2 ns.length cc] 25) = wa at *
    go_loop [6] (fun t6 => ∃ i : Nat, i ≤ ks.length ∧ t6 = .int .i64 i ∧ Hid (∀ j s, j < i → ks[j]? = some s → s.size ≤ 2000)) (fun t6 => ks.length - (intOf t6).toNat)
    case atStart => exact ⟨0, by omega, rfl, fun j s hj => by omega⟩
    case round =>
      obtain ⟨i, hi, rfl, hno⟩ := hrel
      have c2 : wa.cell? ⟨w.heap.size, 2, none⟩ = some (.string t) := hblk.cell 2
      have c3 : wa.cell? ⟨w.heap.size, 3, none⟩ = some (.slice A ks.length ck) := hblk.cell 3
      have c4 : wa.cell? ⟨w.heap.size, 4, none⟩ = some (.slice A2 ns.length cc) := hblk.cell 4
      by_cases hlt : i < ks.length
      · obtain ⟨ad, s, rfl, hadb, hs, hcell⟩ := (HKS.out.keep (w' := wa) fun p hp => hW.cell (by omega)).str hlt
        by_cases hsl : 2000 < s.size
        · have HE : Hid (V = 3000) := by show _ = _; rw [HV.out, if_pos (tooLong_at ks i s hs hsl)]
          have HS := Lib.hid hs
          clear hs
          go_wp2_with fail
          go_ret
          exact ⟨by rw [HE.out]; rfl, hW⟩
        · have hno2 : Hid (∀ j s, j < i + 1 → ks[j]? = some s → s.size ≤ 2000) := fun j s' hj hs' => by
            by_cases e : j = i
            · subst e; rw [hs] at hs'; injection hs' with e2; subst e2; omega
            · exact hno.out j s' (by omega) hs'
          have HS := Lib.hid hs
          clear hs
          go_wp2_with fail
          go_round
          case rel => exact ⟨i + 1, by omega, by go_num, hno2⟩
          case measure => simp [intOf]; omega
      · have HE : Hid (V = weightL (ns.drop 0) (deep + 1) 1) := by
          show _ = _
          rw [HV.out, tooLong_no ks (fun j s hj => hno.out j s (by have := (List.getElem?_eq_some_iff.1 hj).1; omega) hj)]; rfl
        go_wp2_with fail
        go_loopw [5, 7] (fun t5 t7 wr => ∃ (i : Nat) (acc : Int), i ≤ ns.length ∧ t7 = .int .i64 i ∧ t5 = .int .i64 acc ∧ 0 ≤ acc ∧ acc ≤ 1000000 ∧ Hid (V = weightL (ns.drop i) (deep + 1) acc) ∧ Blk wr w.heap.size 25 #[.int .i64 k, .int .i64 num, .string t, .slice A ks.length ck, .slice A2 ns.length cc] ∧ Below w.heap.size w wr ∧ w.heap.size < wr.heap.size) (fun _ t7 _ => ns.length - (intOf t7).toNat)
        case atStart => exact ⟨0, 1, by omega, rfl, rfl, by omega, by omega, HE, hblk, hW, hsz⟩
        case round =>
          clear hblk hW hsz c2 c3 c4
          obtain ⟨i, acc, hi, rfl, rfl, a0, a1, hv, hblk, hW, hsz⟩ := hrel
          have c4 : wr.cell? ⟨w.heap.size, 4, none⟩ = some (.slice A2 ns.length cc) := hblk.cell 4
          obtain ⟨wo, rfl⟩ : ∃ wo : World, wo = wr := ⟨_, rfl⟩
          by_cases hlt : i < ns.length
          · by_cases hacc : acc < 3000
            · have hkeep : ∀ p : Addr, p.block < B → wo.cell? p = w.cell? p := fun p hp => hW.cell (by omega)
              obtain ⟨ad, n, v0, v1, v2, v3, v4, rfl, hadb, hni, hnd, e0, e1, e2, e3, e4⟩ := (HXS.out.keep hkeep).nd (NdsIs.keep hkeep _ _ HNS.out) hlt
              have hcn := HC.out i n hni
              have hwl := weightN_le n (deep + 1) (by omega) (by omega)
              have HE2 : Hid (V = weightL (ns.drop (i + 1)) (deep + 1) (acc + weightN n (deep + 1))) := by show _ = _; rw [hv.out]; exact weightL_at ns i n _ _ hni hacc
              have HW2 : Hid (∀ w', Below wo.heap.size wo w' → WeightIn #[v0, v1, v2, v3, v4] (deep + 1) (weightN n (deep + 1)) w') := fun w' hb =>
                HIH.out n [v0, v1, v2, v3, v4] w' B (deep + 1) hcn (hnd.below (hb.mono (by omega))) (by have := hb.size; omega) (by omega) (by omega)
              have HNI := Lib.hid hni
              clear hni hnd hkeep
              generalize weightN n (deep + 1) = W at *
              obtain ⟨wl0, wl1⟩ := hwl
              go_wp2_with (go_at_call 21; refine (HW2.out _ (Below.refl _ _)).mono ?_; rintro e w1 ⟨rfl, hw1⟩)
              go_roundw
              case rel => exact ⟨i + 1, acc + W, by omega, by go_num, rfl, by omega, by omega, HE2, hblk.below hw1 (by omega), hW.trans (hw1.mono (by omega)), by have := hw1.size; omega⟩
              case measure => simp [intOf]; omega
            · have HE2 : Hid (V = acc) := by show _ = _; rw [hv.out]; exact weightL_end _ _ _ (.inr hacc)
              go_wp2_with fail
              go_ret
              exact ⟨by rw [HE2.out]; rfl, hW⟩
          · have HE2 : Hid (V = acc) := by
              show _ = _
              rw [hv.out, List.drop_eq_nil_of_le (by omega)]; exact weightL_end _ _ _ (.inl rfl)
            go_wp2_with fail
            go_ret
            exact ⟨by rw [HE2.out]; rfl, hW⟩
end Go.Proofs.YtofkdeojabongaaDoor
