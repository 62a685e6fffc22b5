/- The walk of the reference's Find. -/
import Derived.Test.YtofkdeojabongaaDoorFind
namespace Go.Proofs.YtofkdeojabongaaDoor
open Go.RowKit Go.PlainAid
set_option linter.unusedVariables false
set_option linter.unusedSimpArgs false
def RfindP (r : Option Nd) (B : Nat) (w : World) (e : Ending) (w' : World) : Prop := ∃ (c0 c1 : Int) (c2 : ByteArray) (c3 : Option Addr) (c4 c5 : Nat) (c6 : Option Addr) (c7 c8 : Nat),
  e = .returned (.tuple #[.agg #[.int .i64 c0, .int .i64 c1, .string c2, .slice c3 c4 c5, .slice c6 c7 c8], .bool r.isSome]) ∧ NdIs w' B (r.getD (nd0 0)) [.int .i64 c0, .int .i64 c1, .string c2, .slice c3 c4 c5, .slice c6 c7 c8] ∧ Below w.heap.size w w'
theorem sym_beq (a b : List UInt8) : (a == b) = (b == a) := by
  rw [Bool.eq_iff_iff, beq_iff_eq, beq_iff_eq]; exact eq_comm
set_option maxRecDepth 100000 in
set_option maxHeartbeats 3000000 in
theorem rFind_step (k num : Int) (t : ByteArray) (ks : List ByteArray) (ns : List Nd) (A A2 : Option Addr) (ck cc : Nat) (xs : List Value) (x : ByteArray) (w : World) (B : Nat)
    (hks : Reads w B 1 A ks.length (ks.map Value.string)) (hxs : Reads w B 5 A2 ns.length xs) (hns : NdsIs w B ns xs) (hk1 : ks.length ≤ 9223372036854775807) (hk2 : ns.length ≤ 9223372036854775807)
    (hB : B ≤ w.heap.size) :
    Calls Tryd.prog 19 #[.agg #[.int .i64 k, .int .i64 num, .string t, .slice A ks.length ck, .slice A2 ns.length cc], .string x] w (RfindP (findN (.mk k num t ks ns) x) B w) := by
  have HXS := Lib.hid hxs
  have HNS := Lib.hid hns
  have HKS := Lib.hid hks
  have hA : Below w.heap.size w ((w.alloc (.cells #[.int .i64 k, .int .i64 num, .string t, .slice A ks.length ck, .slice A2 ns.length cc] 25)).alloc (.cells #[.int .i64 0, .int .i64 0, .string ⟨#[]⟩, .slice none 0 0, .slice none 0 0] 25)) := ((Below.refl _ _).alloc (Nat.le_refl _) _).alloc (by simp) _
  have hX : Hid (Blk ((w.alloc (.cells #[.int .i64 k, .int .i64 num, .string t, .slice A ks.length ck, .slice A2 ns.length cc] 25)).alloc (.cells #[.int .i64 0, .int .i64 0, .string ⟨#[]⟩, .slice none 0 0, .slice none 0 0] 25)) w.heap.size 25 #[.int .i64 k, .int .i64 num, .string t, .slice A ks.length ck, .slice A2 ns.length cc]) := (Blk.new w _ _).alloc _
  have hY : Hid (Blk ((w.alloc (.cells #[.int .i64 k, .int .i64 num, .string t, .slice A ks.length ck, .slice A2 ns.length cc] 25)).alloc (.cells #[.int .i64 0, .int .i64 0, .string ⟨#[]⟩, .slice none 0 0, .slice none 0 0] 25)) (w.heap.size + 1) 25 #[.int .i64 0, .int .i64 0, .string ⟨#[]⟩, .slice none 0 0, .slice none 0 0]) := by
    have := Blk.new (w.alloc (.cells #[.int .i64 k, .int .i64 num, .string t, .slice A ks.length ck, .slice A2 ns.length cc] 25)) 25 #[.int .i64 0, .int .i64 0, .string ⟨#[]⟩, .slice none 0 0, .slice none 0 0]
    show Blk _ _ _ _
    simpa using this
  obtain ⟨r, hr⟩ : ∃ r, r = findN (.mk k num t ks ns) x := ⟨_, rfl⟩
  rw [← hr]
  have HR := Lib.hid hr
  have HA := Lib.hid hA
  clear hks hxs hns hr
  go_enter Tryd.func19, Tryd.ntmps19
  go_wp2_with fail
  have HS : w.heap.size + 2 ≤ ((w.alloc (.cells #[.int .i64 k, .int .i64 num, .string t, .slice A ks.length ck, .slice A2 ns.length cc] 25)).alloc (.cells #[.int .i64 0, .int .i64 0, .string ⟨#[]⟩, .slice none 0 0, .slice none 0 0] 25)).heap.size := by simp
  clear hA
  generalize (w.alloc (.cells #[.int .i64 k, .int .i64 num, .string t, .slice A ks.length ck, .slice A2 ns.length cc] 25)).alloc (.cells #[.int .i64 0, .int .i64 0, .string ⟨#[]⟩, .slice none 0 0, .slice none 0 0] 25) = wa at *
  go_loop [6] (fun t => ∃ i : Nat, i ≤ ks.length ∧ i ≤ ns.length ∧ t = .int .i64 i ∧ Hid (∀ (j : Nat) (s : ByteArray), j < i → ks[j]? = some s → (x.toList == s.toList) = false) ∧ (0 < i → k = 7)) (fun t => ks.length - (intOf t).toNat)
  case atStart => exact ⟨0, by omega, by omega, rfl, fun j s hj => by omega, fun h => by omega⟩
  case round =>
    obtain ⟨i, hi, hi2, rfl, hno, hk7⟩ := hrel
    have HK7 := Lib.hid hk7
    clear hk7
    obtain ⟨c0, c1, c2, c3, c4⟩ := hX.out.cells5
    obtain ⟨d0, d1, d2, d3, d4⟩ := hY.out.cells5
    have f0 := hY.out.frozen 0
    have f1 := hY.out.frozen 1
    have f2 := hY.out.frozen 2
    have f3 := hY.out.frozen 3
    have f4 := hY.out.frozen 4
    have stop : ∀ (h : r = none), Hid (RfindP r B w (.returned (.tuple #[.agg #[.int .i64 0, .int .i64 0, .string ⟨#[]⟩, .slice none 0 0, .slice none 0 0], .bool false])) (((((wa.setCell ⟨w.heap.size + 1, 0, none⟩ (.int .i64 0)).setCell ⟨w.heap.size + 1, 1, none⟩ (.int .i64 0)).setCell ⟨w.heap.size + 1, 2, none⟩ (.string ⟨#[]⟩)).setCell ⟨w.heap.size + 1, 3, none⟩ (.slice none 0 0)).setCell ⟨w.heap.size + 1, 4, none⟩ (.slice none 0 0))) := fun h => by
      subst h
      exact ⟨_, _, _, _, _, _, _, _, _, rfl, nd0_is 0 (by unfold I64; omega) _ _, ((((HA.out.setCell (p := ⟨w.heap.size + 1, 0, none⟩) (by simp) _).setCell (p := ⟨w.heap.size + 1, 1, none⟩) (by simp) _).setCell (p := ⟨w.heap.size + 1, 2, none⟩) (by simp) _).setCell (p := ⟨w.heap.size + 1, 3, none⟩) (by simp) _).setCell (p := ⟨w.heap.size + 1, 4, none⟩) (by simp) _⟩
    have HSTOP := Lib.hid stop
    clear stop
    by_cases hlt : i < ks.length
    · by_cases hlt2 : i < ns.length
      · by_cases h7 : k = 7
        · subst h7
          obtain ⟨adk, s, rfl, hadk, hs, hcell⟩ := (HKS.out.keep (w' := wa) fun p hp => HA.out.cell (by omega)).str hlt
          have HSK := Lib.hid hs
          have hsy := sym_beq s.toList x.toList
          clear hs
          cases he : (x.toList == s.toList) with
          | true =>
            have he2 : (s.toList == x.toList) = true := hsy.trans he
            obtain ⟨ad, n, v0, v1, v2, v3, v4, rfl, hadb, hni, hnd, e0, e1, e2, e3, e4⟩ := (HXS.out.keep (w' := wa) fun p hp => HA.out.cell (by omega)).nd (NdsIs.keep (fun p hp => HA.out.cell (by omega)) _ _ HNS.out) hlt2
            obtain ⟨x0, x1, x2, x3, x4, x5, x6, x7, x8, rfl, rfl, rfl, rfl, rfl⟩ := hnd.form
            have e : Hid (r = some n) := by show _ = _; rw [HR.out]; simp only [findN, if_true, idxK_some HSK.out he hno.out]; exact hni
            have hfin : Hid (Blk (((((wa.setCell ⟨w.heap.size + 1, 0, none⟩ (.int .i64 x0)).setCell ⟨w.heap.size + 1, 1, none⟩ (.int .i64 x1)).setCell ⟨w.heap.size + 1, 2, none⟩ (.string x2)).setCell ⟨w.heap.size + 1, 3, none⟩ (.slice x3 x4 x5)).setCell ⟨w.heap.size + 1, 4, none⟩ (.slice x6 x7 x8)) (w.heap.size + 1) 25 #[.int .i64 x0, .int .i64 x1, .string x2, .slice x3 x4 x5, .slice x6 x7 x8]) := (((((hY.out.set_ 0 _).set_ 1 _).set_ 2 _).set_ 3 _).set_ 4 _)
            have hbel : Hid (Below w.heap.size w (((((wa.setCell ⟨w.heap.size + 1, 0, none⟩ (.int .i64 x0)).setCell ⟨w.heap.size + 1, 1, none⟩ (.int .i64 x1)).setCell ⟨w.heap.size + 1, 2, none⟩ (.string x2)).setCell ⟨w.heap.size + 1, 3, none⟩ (.slice x3 x4 x5)).setCell ⟨w.heap.size + 1, 4, none⟩ (.slice x6 x7 x8))) := ((((HA.out.setCell (p := ⟨w.heap.size + 1, 0, none⟩) (by simp) _).setCell (p := ⟨w.heap.size + 1, 1, none⟩) (by simp) _).setCell (p := ⟨w.heap.size + 1, 2, none⟩) (by simp) _).setCell (p := ⟨w.heap.size + 1, 3, none⟩) (by simp) _).setCell (p := ⟨w.heap.size + 1, 4, none⟩) (by simp) _
            have hnd2 : Hid (NdIs (((((wa.setCell ⟨w.heap.size + 1, 0, none⟩ (.int .i64 x0)).setCell ⟨w.heap.size + 1, 1, none⟩ (.int .i64 x1)).setCell ⟨w.heap.size + 1, 2, none⟩ (.string x2)).setCell ⟨w.heap.size + 1, 3, none⟩ (.slice x3 x4 x5)).setCell ⟨w.heap.size + 1, 4, none⟩ (.slice x6 x7 x8)) B n [.int .i64 x0, .int .i64 x1, .string x2, .slice x3 x4 x5, .slice x6 x7 x8]) := by
              refine NdIs.keep (fun p hp => ?_) _ _ hnd
              have ne : ∀ (g o : Nat), w.heap.size ≤ g → (⟨g, o, none⟩ : Addr) ≠ p := fun g o hg e => by subst e; have h2 : g < B := hp; omega
              rw [World.cell?_setCell_other _ _ _ _ (ne _ _ (by omega)), World.cell?_setCell_other _ _ _ _ (ne _ _ (by omega)), World.cell?_setCell_other _ _ _ _ (ne _ _ (by omega)), World.cell?_setCell_other _ _ _ _ (ne _ _ (by omega)), World.cell?_setCell_other _ _ _ _ (ne _ _ (by omega))]
            have HFIN := hfin.out
            clear hni hnd he hsy
            go_wp2_with fail
            clear hfin d0 d1 d2 d3 d4 f0 f1 f2 f3 f4
            generalize (((((wa.setCell ⟨w.heap.size + 1, 0, none⟩ (.int .i64 x0)).setCell ⟨w.heap.size + 1, 1, none⟩ (.int .i64 x1)).setCell ⟨w.heap.size + 1, 2, none⟩ (.string x2)).setCell ⟨w.heap.size + 1, 3, none⟩ (.slice x3 x4 x5)).setCell ⟨w.heap.size + 1, 4, none⟩ (.slice x6 x7 x8)) = WF at *
            obtain ⟨q0, q1, q2, q3, q4⟩ := HFIN.cells5
            refine bodyPost_ret (v := .tuple #[.agg #[.int .i64 x0, .int .i64 x1, .string x2, .slice x3 x4 x5, .slice x6 x7 x8], .bool true]) (by simp [results, Tryd.results19, go_sem, q0, q1, q2, q3, q4]) rfl ?_
            rw [e.out]
            exact ⟨_, _, _, _, _, _, _, _, _, rfl, hnd2.out, hbel.out⟩
          | false =>
            have he2 : (s.toList == x.toList) = false := hsy.trans he
            have hno2 : Hid (∀ (j : Nat) (s : ByteArray), j < i + 1 → ks[j]? = some s → (x.toList == s.toList) = false) := fun j s' hj hs' => by
              by_cases e : j = i
              · subst e; rw [HSK.out] at hs'; injection hs' with e2; subst e2; exact he
              · exact hno.out j s' (by omega) hs'
            clear hsy
            go_wp2_with fail
            go_round
            case rel => exact ⟨i + 1, by omega, by omega, by go_num, hno2, fun _ => by first | trivial | rfl⟩
            case measure => simp [intOf]; omega
        · have e : r = none := by rw [HR.out]; simp [findN, h7]
          have HE := HSTOP.out e
          have n7 : (k == 7) = false := by rw [beq_eq_false_iff_ne]; exact h7
          clear e
          go_wp2_with fail
          refine bodyPost_ret (v := .tuple #[.agg #[.int .i64 0, .int .i64 0, .string ⟨#[]⟩, .slice none 0 0, .slice none 0 0], .bool false]) (by simp [results, Tryd.results19, go_sem, d0, d1, d2, d3, d4]) rfl ?_
          exact HE.out
      · have e : r = none := by
          rw [HR.out]
          by_cases h7 : k = 7
          · subst h7
            simp only [findN, if_true]
            cases hx : idxK ks x with
            | none => rfl
            | some j =>
              have hj : ¬ j < i := fun h => by
                unfold idxK at hx
                rw [List.findIdx?_eq_some_iff_getElem] at hx
                obtain ⟨h1, h2, _⟩ := hx
                have := hno.out j ks[j] h (List.getElem?_eq_getElem h1)
                rw [this] at h2; cases h2
              exact List.getElem?_eq_none (by omega)
          · simp [findN, h7]
        have HE := HSTOP.out e
        clear e
        go_wp2_with fail
        refine bodyPost_ret (v := .tuple #[.agg #[.int .i64 0, .int .i64 0, .string ⟨#[]⟩, .slice none 0 0, .slice none 0 0], .bool false]) (by simp [results, Tryd.results19, go_sem, d0, d1, d2, d3, d4]) rfl ?_
        exact HE.out
    · have e : r = none := by
        rw [HR.out]
        by_cases h7 : k = 7
        · subst h7
          simp only [findN, if_true]
          rw [idxK_none (fun j s hj => hno.out j s (by have := (List.getElem?_eq_some_iff.1 hj).1; omega) hj)]
        · simp [findN, h7]
      have HE := HSTOP.out e
      clear e
      go_wp2_with fail
      refine bodyPost_ret (v := .tuple #[.agg #[.int .i64 0, .int .i64 0, .string ⟨#[]⟩, .slice none 0 0, .slice none 0 0], .bool false]) (by simp [results, Tryd.results19, go_sem, d0, d1, d2, d3, d4]) rfl ?_
      exact HE.out
/-- the reference's Find -/
theorem rFind_any (n : Nd) (x : ByteArray) (cs : List Value) (w : World) (B : Nat) (hn : NdIs w B n cs) (hB : B ≤ w.heap.size) : Calls Tryd.prog 19 #[.agg cs.toArray, .string x] w (RfindP (findN n x) B w) := by
  cases n with
  | mk k num t ks ns =>
    unfold NdIs at hn
    obtain ⟨A, ck, A2, cc, xs, rfl, hks, hxs, hns, ik, inn, ht, hkl, hk, hmm⟩ := hn
    exact rFind_step k num t ks ns A A2 ck cc xs x w B hks hxs hns hk hmm hB
end Go.Proofs.YtofkdeojabongaaDoor
