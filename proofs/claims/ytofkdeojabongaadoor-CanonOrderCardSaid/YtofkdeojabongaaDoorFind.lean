/- The walks of slices.Index, canon's Find and the reference's Find. -/
import Derived.Test.YtofkdeojabongaaDoorCopied
namespace Go.Proofs.YtofkdeojabongaaDoor
open Go.RowKit Go.PlainAid
set_option linter.unusedVariables false
set_option linter.unusedSimpArgs false
/-- the first place of a key -/
def idxK (ks : List ByteArray) (x : ByteArray) : Option Nat := ks.findIdx? (fun s => x.toList == s.toList)
def idxI (ks : List ByteArray) (x : ByteArray) : Int := match idxK ks x with | none => -1 | some i => i
theorem idxK_none {ks : List ByteArray} {x : ByteArray} (h : ∀ (j : Nat) (s : ByteArray), ks[j]? = some s → (x.toList == s.toList) = false) : idxK ks x = none := by
  unfold idxK
  rw [List.findIdx?_eq_none_iff]
  intro s hs
  obtain ⟨j, hj⟩ := List.getElem?_of_mem hs
  exact h j s hj
theorem idxK_some {ks : List ByteArray} {x : ByteArray} {i : Nat} {s : ByteArray} (hi : ks[i]? = some s) (hs : (x.toList == s.toList) = true) (h : ∀ (j : Nat) (s : ByteArray), j < i → ks[j]? = some s → (x.toList == s.toList) = false) : idxK ks x = some i := by
  unfold idxK
  rw [List.findIdx?_eq_some_iff_getElem]
  obtain ⟨hl, he⟩ := List.getElem?_eq_some_iff.1 hi
  refine ⟨hl, by rw [he]; exact hs, fun j hj => ?_⟩
  have := h j ks[j] hj (List.getElem?_eq_getElem (by omega))
  simp [this]
theorem idxK_lt {ks : List ByteArray} {x : ByteArray} {i : Nat} (h : idxK ks x = some i) : i < ks.length := by
  unfold idxK at h
  rw [List.findIdx?_eq_some_iff_getElem] at h
  exact h.1
set_option maxRecDepth 100000 in
set_option maxHeartbeats 1000000 in
theorem sIndex_any (ks : List ByteArray) (x : ByteArray) (A : Option Addr) (ck B : Nat) (w : World) (hks : Reads w B 1 A ks.length (ks.map Value.string)) (hl : ks.length ≤ 9223372036854775807) :
    Calls Tryd.prog 30 #[.slice A ks.length ck, .string x] w fun e w' => e = .returned (.int .i64 (idxI ks x)) ∧ w = w' := by
  obtain ⟨V, hV⟩ : ∃ V, V = idxI ks x := ⟨_, rfl⟩
  rw [← hV]
  have HV := Lib.hid hV
  have HKS := Lib.hid hks
  clear hV hks
  go_enter Tryd.func30, Tryd.ntmps30
  go_wp2_with fail
  go_loop [8] (fun t => ∃ i : Nat, i ≤ ks.length ∧ t = .int .i64 i ∧ Hid (∀ (j : Nat) (s : ByteArray), j < i → ks[j]? = some s → (x.toList == s.toList) = false)) (fun t => ks.length - (intOf t).toNat)
  case atStart => exact ⟨0, by omega, rfl, fun j s hj => by omega⟩
  case round =>
    obtain ⟨i, hi, rfl, hno⟩ := hrel
    by_cases hlt : i < ks.length
    · obtain ⟨ad, s, rfl, hadb, hs, hcell⟩ := HKS.out.str hlt
      have HS := Lib.hid hs
      clear hs
      cases he : (x.toList == s.toList) with
      | true =>
        have HE : Hid (V = (i : Int)) := by show _ = _; rw [HV.out]; unfold idxI; rw [idxK_some HS.out he hno.out]
        go_wp2_with fail
        go_ret
        exact ⟨by rw [HE.out]; rfl, rfl⟩
      | false =>
        have hno2 : Hid (∀ (j : Nat) (s : ByteArray), j < i + 1 → ks[j]? = some s → (x.toList == s.toList) = false) := fun j s' hj hs' => by
          by_cases e : j = i
          · subst e; rw [HS.out] at hs'; injection hs' with e2; subst e2; exact he
          · exact hno.out j s' (by omega) hs'
        go_wp2_with fail
        go_round
        case rel => exact ⟨i + 1, by omega, by go_num, hno2⟩
        case measure => simp [intOf]; omega
    · have HE : Hid (V = -1) := by
        show _ = _
        rw [HV.out]; unfold idxI
        rw [idxK_none (fun j s hj => hno.out j s (by have := (List.getElem?_eq_some_iff.1 hj).1; omega) hj)]
      go_wp2_with fail
      go_ret
      exact ⟨by rw [HE.out]; rfl, rfl⟩
/-- an object's kid at a key -/
def findN : Nd → ByteArray → Option Nd
  | .mk k _ _ ks ns, x => if k = 7 then match idxK ks x with | none => none | some i => ns[i]? else none
def FindP (r : Option Nd) (w : World) (e : Ending) (w' : World) : Prop := ∃ (c0 c1 : Int) (c2 : ByteArray) (c3 : Option Addr) (c4 c5 : Nat) (c6 : Option Addr) (c7 c8 : Nat),
  e = .returned (.tuple #[.agg #[.int .i64 c0, .int .i64 c1, .string c2, .slice c3 c4 c5, .slice c6 c7 c8], .bool r.isSome]) ∧ NdIn w' (Since w w') (r.getD (nd0 0)) [.int .i64 c0, .int .i64 c1, .string c2, .slice c3 c4 c5, .slice c6 c7 c8] ∧ Below w.heap.size w w'
theorem nd0_in (k : Int) (hk : I64 k) (w : World) (S : Nat → Prop) : NdIn w S (nd0 k) [.int .i64 k, .int .i64 0, .string ⟨#[]⟩, .slice none 0 0, .slice none 0 0] := by
  unfold nd0 NdIn
  exact ⟨none, 0, none, 0, [], rfl, RS.none_, RS.none_, NdsIn.nil, hk, by unfold I64; omega, by (show (0 : Nat) ≤ maxLen); exact Nat.zero_le _, by simp, by simp [maxLen], by simp [maxLen]⟩
set_option maxRecDepth 100000 in
set_option maxHeartbeats 3000000 in
theorem cFind_step (k num : Int) (t : ByteArray) (ks : List ByteArray) (ns : List Nd) (A A2 : Option Addr) (ck cc : Nat) (xs : List Value) (x : ByteArray) (w : World) (B : Nat)
    (hks : Reads w B 1 A ks.length (ks.map Value.string)) (hxs : Reads w B 5 A2 ns.length xs) (hns : NdsIs w B ns xs) (hk1 : ks.length ≤ 9223372036854775807) (hk2 : ns.length ≤ 9223372036854775807)
    (hB : B ≤ w.heap.size) (HIH : Hid (CopyH B ns)) :
    Calls Tryd.prog 18 #[.agg #[.int .i64 k, .int .i64 num, .string t, .slice A ks.length ck, .slice A2 ns.length cc], .string x] w (FindP (findN (.mk k num t ks ns) x) w) := by
  have HXS := Lib.hid hxs
  have HNS := Lib.hid hns
  have HIX : Hid (∀ w', Below w.heap.size w w' → Calls Tryd.prog 30 #[.slice A ks.length ck, .string x] w' fun e w'' => e = .returned (.int .i64 (idxI ks x)) ∧ w' = w'') := fun w' hb =>
    sIndex_any ks x A ck B w' (hks.keep fun p hp => hb.cell (by omega)) hk1
  have hA : Below w.heap.size w ((w.alloc (.cells #[.int .i64 k, .int .i64 num, .string t, .slice A ks.length ck, .slice A2 ns.length cc] 25)).alloc (.cells #[.int .i64 0, .int .i64 0, .string ⟨#[]⟩, .slice none 0 0, .slice none 0 0] 25)) := ((Below.refl _ _).alloc (Nat.le_refl _) _).alloc (by simp) _
  obtain ⟨r, hr⟩ : ∃ r, r = findN (.mk k num t ks ns) x := ⟨_, rfl⟩
  rw [← hr]
  have HR := Lib.hid hr
  clear hks hxs hns hr
  by_cases h7 : k = 7
  case neg =>
    have n7 : (k != 7) = true := by rw [bne_iff_ne]; exact h7
    have e : Hid (r = none) := by show _ = _; rw [HR.out]; simp [findN, h7]
    go_enter Tryd.func18, Tryd.ntmps18
    go_wp2_with fail
    refine bodyPost_ret (v := .tuple #[.agg #[.int .i64 0, .int .i64 0, .string ⟨#[]⟩, .slice none 0 0, .slice none 0 0], .bool false]) (by simp [results, Tryd.results18, go_sem]) rfl ?_
    rw [e.out]
    exact ⟨_, _, _, _, _, _, _, _, _, rfl, nd0_in 0 (by unfold I64; omega) _ _, hA⟩
  subst h7
  cases hi : idxK ks x with
  | none =>
    have e : Hid (r = none) := by show _ = _; rw [HR.out]; simp [findN, hi]
    have e1 : idxI ks x = -1 := by unfold idxI; rw [hi]
    rw [e1] at HIX
    clear e1 hi
    go_enter Tryd.func18, Tryd.ntmps18
    go_wp2_with fail
    refine (HIX.out _ hA).mono ?_; rintro e w1 ⟨rfl, hw⟩; obtain rfl : _ = w1 := hw
    go_wp2_with fail
    refine bodyPost_ret (v := .tuple #[.agg #[.int .i64 0, .int .i64 0, .string ⟨#[]⟩, .slice none 0 0, .slice none 0 0], .bool false]) (by simp [results, Tryd.results18, go_sem]) rfl ?_
    rw [e.out]
    exact ⟨_, _, _, _, _, _, _, _, _, rfl, nd0_in 0 (by unfold I64; omega) _ _, hA⟩
  | some i =>
    have e1 : idxI ks x = i := by unfold idxI; rw [hi]
    have hil := idxK_lt hi
    have HI := Lib.hid hi
    rw [e1] at HIX
    clear e1 hi
    by_cases hlt : i < ns.length
    case neg =>
      have e : Hid (r = none) := by show _ = _; rw [HR.out]; simp [findN, HI.out]; omega
      go_enter Tryd.func18, Tryd.ntmps18
      go_wp2_with fail
      refine (HIX.out _ hA).mono ?_; rintro e w1 ⟨rfl, hw⟩; obtain rfl : _ = w1 := hw
      go_wp2_with fail
      refine bodyPost_ret (v := .tuple #[.agg #[.int .i64 0, .int .i64 0, .string ⟨#[]⟩, .slice none 0 0, .slice none 0 0], .bool false]) (by simp [results, Tryd.results18, go_sem]) rfl ?_
      rw [e.out]
      exact ⟨_, _, _, _, _, _, _, _, _, rfl, nd0_in 0 (by unfold I64; omega) _ _, hA⟩
    obtain ⟨ad, n, v0, v1, v2, v3, v4, rfl, hadb, hni, hnd, e0, e1, e2, e3, e4⟩ := HXS.out.nd HNS.out hlt
    obtain ⟨x0, x1, x2, x3, x4, x5, x6, x7, x8, rfl, rfl, rfl, rfl, rfl⟩ := hnd.form
    have e : Hid (r = some n) := by show _ = _; rw [HR.out]; simp only [findN, if_true, HI.out]; exact hni
    have HC := Lib.hid (HIH.out i n [.int .i64 x0, .int .i64 x1, .string x2, .slice x3 x4 x5, .slice x6 x7 x8] _ hni (hnd.below (hA.mono hB)) (by have := hA.size; omega))
    have q0 : ¬ (ad.add (i * 5)).block = w.heap.size := by rw [block_of_add]; omega
    have q1 : ¬ (ad.add (i * 5)).block = w.heap.size + 1 := by rw [block_of_add]; omega
    have q2 : (ad.add (i * 5)).block < w.heap.size := by rw [block_of_add]; omega
    clear hni hnd
    go_enter Tryd.func18, Tryd.ntmps18
    go_wp2_with fail
    refine (HIX.out _ hA).mono ?_; rintro e w1 ⟨rfl, hw⟩; obtain rfl : _ = w1 := hw
    go_wp2_with fail
    refine (HC.out : Calls _ _ _ _ _).mono ?_; rintro e w2 ⟨c0, c1, c2, c3, c4, c5, c6, c7, c8, rfl, hnew, hw2⟩
    have hY : Blk w2 (w.heap.size + 1) 25 #[.int .i64 0, .int .i64 0, .string ⟨#[]⟩, .slice none 0 0, .slice none 0 0] := by
      have h := Blk.new (w.alloc (.cells #[.int .i64 7, .int .i64 num, .string t, .slice A ks.length ck, .slice (some ad) ns.length cc] 25)) 25 #[.int .i64 0, .int .i64 0, .string ⟨#[]⟩, .slice none 0 0, .slice none 0 0]
      have h2 := h.below hw2 (by simp)
      simpa using h2
    have hB2 := hA.trans (hw2.mono (by simp; omega))
    have hz2 : w.heap.size + 2 ≤ w2.heap.size := by have := hw2.size; simp at this; omega
    obtain ⟨d0, d1, d2, d3, d4⟩ := hY.cells5
    have f0 := hY.frozen 0
    have f1 := hY.frozen 1
    have f2 := hY.frozen 2
    have f3 := hY.frozen 3
    have f4 := hY.frozen 4
    have hfin : Hid (Blk (((((w2.setCell ⟨w.heap.size + 1, 0, none⟩ (.int .i64 c0)).setCell ⟨w.heap.size + 1, 1, none⟩ (.int .i64 c1)).setCell ⟨w.heap.size + 1, 2, none⟩ (.string c2)).setCell ⟨w.heap.size + 1, 3, none⟩ (.slice c3 c4 c5)).setCell ⟨w.heap.size + 1, 4, none⟩ (.slice c6 c7 c8)) (w.heap.size + 1) 25 #[.int .i64 c0, .int .i64 c1, .string c2, .slice c3 c4 c5, .slice c6 c7 c8]) := (((((hY.set_ 0 _).set_ 1 _).set_ 2 _).set_ 3 _).set_ 4 _)
    have hbel : Hid (Below w.heap.size w (((((w2.setCell ⟨w.heap.size + 1, 0, none⟩ (.int .i64 c0)).setCell ⟨w.heap.size + 1, 1, none⟩ (.int .i64 c1)).setCell ⟨w.heap.size + 1, 2, none⟩ (.string c2)).setCell ⟨w.heap.size + 1, 3, none⟩ (.slice c3 c4 c5)).setCell ⟨w.heap.size + 1, 4, none⟩ (.slice c6 c7 c8))) := ((((hB2.setCell (p := ⟨w.heap.size + 1, 0, none⟩) (by simp) _).setCell (p := ⟨w.heap.size + 1, 1, none⟩) (by simp) _).setCell (p := ⟨w.heap.size + 1, 2, none⟩) (by simp) _).setCell (p := ⟨w.heap.size + 1, 3, none⟩) (by simp) _).setCell (p := ⟨w.heap.size + 1, 4, none⟩) (by simp) _
    have hnd2 : Hid (NdIn (((((w2.setCell ⟨w.heap.size + 1, 0, none⟩ (.int .i64 c0)).setCell ⟨w.heap.size + 1, 1, none⟩ (.int .i64 c1)).setCell ⟨w.heap.size + 1, 2, none⟩ (.string c2)).setCell ⟨w.heap.size + 1, 3, none⟩ (.slice c3 c4 c5)).setCell ⟨w.heap.size + 1, 4, none⟩ (.slice c6 c7 c8)) (Since w (((((w2.setCell ⟨w.heap.size + 1, 0, none⟩ (.int .i64 c0)).setCell ⟨w.heap.size + 1, 1, none⟩ (.int .i64 c1)).setCell ⟨w.heap.size + 1, 2, none⟩ (.string c2)).setCell ⟨w.heap.size + 1, 3, none⟩ (.slice c3 c4 c5)).setCell ⟨w.heap.size + 1, 4, none⟩ (.slice c6 c7 c8))) n [.int .i64 c0, .int .i64 c1, .string c2, .slice c3 c4 c5, .slice c6 c7 c8]) := by
      refine NdIn.keep (fun p hp => ?_) (fun b hb => ⟨by have := hb.1; simp at this; omega, by simp; exact hb.2⟩) _ _ hnew
      have h1 := hp.1
      simp at h1
      have ne : ∀ (g o : Nat), g < w.heap.size + 2 → (⟨g, o, none⟩ : Addr) ≠ p := fun g o hg e => by subst e; simp at h1; omega
      rw [World.cell?_setCell_other _ _ _ _ (ne _ _ (by omega)), World.cell?_setCell_other _ _ _ _ (ne _ _ (by omega)), World.cell?_setCell_other _ _ _ _ (ne _ _ (by omega)), World.cell?_setCell_other _ _ _ _ (ne _ _ (by omega)), World.cell?_setCell_other _ _ _ _ (ne _ _ (by omega))]
    have HFIN := hfin.out
    clear hnew hw2 hB2 hY
    go_wp2_with fail
    clear hfin d0 d1 d2 d3 d4 f0 f1 f2 f3 f4
    generalize (((((w2.setCell ⟨w.heap.size + 1, 0, none⟩ (.int .i64 c0)).setCell ⟨w.heap.size + 1, 1, none⟩ (.int .i64 c1)).setCell ⟨w.heap.size + 1, 2, none⟩ (.string c2)).setCell ⟨w.heap.size + 1, 3, none⟩ (.slice c3 c4 c5)).setCell ⟨w.heap.size + 1, 4, none⟩ (.slice c6 c7 c8)) = WF at *
    obtain ⟨q0, q1, q2, q3, q4⟩ := HFIN.cells5
    refine bodyPost_ret (v := .tuple #[.agg #[.int .i64 c0, .int .i64 c1, .string c2, .slice c3 c4 c5, .slice c6 c7 c8], .bool true]) (by simp [results, Tryd.results18, go_sem, q0, q1, q2, q3, q4]) rfl ?_
    rw [e.out]
    exact ⟨_, _, _, _, _, _, _, _, _, rfl, hnd2.out, hbel.out⟩
/-- canon's Find -/
theorem cFind_any (n : Nd) (x : ByteArray) (cs : List Value) (w : World) (B : Nat) (hn : NdIs w B n cs) (hB : B ≤ w.heap.size) (hs : sizeOk n) : Calls Tryd.prog 18 #[.agg cs.toArray, .string x] w (FindP (findN n x) w) := by
  cases n with
  | mk k num t ks ns =>
    unfold NdIs at hn
    obtain ⟨A, ck, A2, cc, xs, rfl, hks, hxs, hns, ik, inn, ht, hkl, hk, hmm⟩ := hn
    unfold sizeOk at hs
    exact cFind_step k num t ks ns A A2 ck cc xs x w B hks hxs hns hk hmm hB (Lib.hid fun i n cs w' h1 h2 h3 => copied_any n.count n (Nat.le_refl _) B cs w' h2 h3 (sizeOkL_get ns i n h1 hs.2.2.2.2))
end Go.Proofs.YtofkdeojabongaaDoor
