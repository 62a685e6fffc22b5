/- Texts of one seat, one behind the other: Pt4, Pt5, Pt6. No condition. -/
import Derived.Test.YtnbfagignbbmfaaDoorQ3
import Derived.Deep.RegionHeld3
import Derived.Deep.DeepCutAuto
/-! The walk of point's get. -/
namespace Go.Proofs.YtnbfagignbbmfaaDoor
open Go.RowKit Go.PlainAid
set_option linter.unusedVariables false
set_option linter.unusedSimpArgs false
set_option maxRecDepth 100000
def GetOK (l : List ByteArray) : Prop := ∀ (n : Nd) (cs : List Value) (w : World) (S : Nat → Prop) (A : Option Addr) (c : Nat), NdIn w S n cs → (∀ b, S b → b < w.heap.size) → Reads w w.heap.size 1 A l.length (l.map Value.string) → l.length ≤ c → c ≤ maxLen → sizeOk n → n.count ≤ 1000000 → Calls Tryd.prog 34 #[.agg cs.toArray, .slice A l.length c] w (GetP (getN l n) S w)
set_option maxHeartbeats 1000000 in
theorem get_nil : GetOK [] := by
  intro n cs w S A c hn hS hr hl hc hs hct
  have HN := Lib.hid hn
  cases n with
  | mk k num t ks ns =>
  unfold NdIn at hn
  obtain ⟨A1, ck, A2, cc, xs, rfl, hks, hxs, hns, ik, inn, ht, hkl, hkm, hmm⟩ := hn
  have HS := Lib.hid hS
  clear hS hks hxs hns hkl hr
  show Calls Tryd.prog 34 #[.agg #[.int .i64 k, .int .i64 num, .string t, .slice A1 ks.length ck, .slice A2 ns.length cc], .slice A 0 c] w _
  have hA : Below w.heap.size w ((w.alloc (.cells #[.int .i64 k, .int .i64 num, .string t, .slice A1 ks.length ck, .slice A2 ns.length cc] 25)).alloc (.cells #[.int .i64 0, .int .i64 0, .string ⟨#[]⟩, .slice none 0 0, .slice none 0 0] 25)) := ((Below.refl _ _).alloc (Nat.le_refl _) _).alloc (by simp) _
  have hX : Blk ((w.alloc (.cells #[.int .i64 k, .int .i64 num, .string t, .slice A1 ks.length ck, .slice A2 ns.length cc] 25)).alloc (.cells #[.int .i64 0, .int .i64 0, .string ⟨#[]⟩, .slice none 0 0, .slice none 0 0] 25)) w.heap.size 25 #[.int .i64 k, .int .i64 num, .string t, .slice A1 ks.length ck, .slice A2 ns.length cc] := (Blk.new w _ _).alloc _
  have hY : Blk ((w.alloc (.cells #[.int .i64 k, .int .i64 num, .string t, .slice A1 ks.length ck, .slice A2 ns.length cc] 25)).alloc (.cells #[.int .i64 0, .int .i64 0, .string ⟨#[]⟩, .slice none 0 0, .slice none 0 0] 25)) (w.heap.size + 1) 25 #[.int .i64 0, .int .i64 0, .string ⟨#[]⟩, .slice none 0 0, .slice none 0 0] := by
    have := Blk.new (w.alloc (.cells #[.int .i64 k, .int .i64 num, .string t, .slice A1 ks.length ck, .slice A2 ns.length cc] 25)) 25 #[.int .i64 0, .int .i64 0, .string ⟨#[]⟩, .slice none 0 0, .slice none 0 0]
    simpa using this
  have hZ : w.heap.size + 2 = ((w.alloc (.cells #[.int .i64 k, .int .i64 num, .string t, .slice A1 ks.length ck, .slice A2 ns.length cc] 25)).alloc (.cells #[.int .i64 0, .int .i64 0, .string ⟨#[]⟩, .slice none 0 0, .slice none 0 0] 25)).heap.size := by simp
  have HA := Lib.hid hA
  have HX := Lib.hid hX
  have HY := Lib.hid hY
  clear hA hX hY
  go_enter Tryd.func34, Tryd.ntmps34
  go_upto_region 1 with fail
  generalize (w.alloc (.cells #[.int .i64 k, .int .i64 num, .string t, .slice A1 ks.length ck, .slice A2 ns.length cc] 25)).alloc (.cells #[.int .i64 0, .int .i64 0, .string ⟨#[]⟩, .slice none 0 0, .slice none 0 0] 25) = wa at *
  obtain ⟨c0, c1, c2, c3, c4⟩ := HX.out.cells5
  obtain ⟨d0, d1, d2, d3, d4⟩ := HY.out.cells5
  have f0 := HY.out.frozen 0
  have f1 := HY.out.frozen 1
  have f2 := HY.out.frozen 2
  have f3 := HY.out.frozen 3
  have f4 := HY.out.frozen 4
  go_wp2_with fail
  clear d0 d1 d2 d3 d4 f0 f1 f2 f3 f4
  have F := get_fin (r := some (.mk k num t ks ns)) (S := S) (S2 := S) (w := w) (w2 := wa) (y := w.heap.size + 1) (by omega) HA.out HY.out (HN.out.on HS.out HA.out) (fun b hb => ⟨.inl hb, fun e => by have := HS.out b hb; omega⟩)
  unfold set5 at F
  generalize (((((wa).setCell ⟨w.heap.size + 1, 0, none⟩ (.int .i64 k)).setCell ⟨w.heap.size + 1, 1, none⟩ (.int .i64 num)).setCell ⟨w.heap.size + 1, 2, none⟩ (.string t)).setCell ⟨w.heap.size + 1, 3, none⟩ (.slice A1 ks.length ck)).setCell ⟨w.heap.size + 1, 4, none⟩ (.slice A2 ns.length cc) = WF at *
  obtain ⟨F1, F2⟩ := F
  obtain ⟨q0, q1, q2, q3, q4⟩ := F1.cells5
  refine bodyPost_ret (v := .tuple #[.agg #[.int .i64 k, .int .i64 num, .string t, .slice A1 ks.length ck, .slice A2 ns.length cc], .bool true]) (by simp [results, Tryd.results34, go_sem, q0, q1, q2, q3, q4]) rfl ?_
  exact F2
def GetStep (p : ByteArray) (l : List ByteArray) (n : Nd) (len cap : Nat) (TA : Nat → Nat → Option Addr) : Prop := p.size ≤ 9223372036854775807 → ∀ (cs : List Value) (w : World) (S : Nat → Prop) (ab ao : Nat), NdIn w S n cs → (∀ b, S b → b < w.heap.size) → ab < w.heap.size → w.cell? ⟨ab, ao, none⟩ = some (.string p) → Reads w w.heap.size 1 (TA ab ao) l.length (l.map Value.string) → cap ≤ maxLen → sizeOk n → n.count ≤ 1000000 → Calls Tryd.prog 34 #[.agg cs.toArray, .slice (some ⟨ab, ao, none⟩) len cap] w (GetP (getN (p :: l) n) S w)
set_option maxHeartbeats 1000000 in
theorem get_other (p : ByteArray) (l : List ByteArray) (n : Nd) (c : Nat) (TA : Nat → Nat → Option Addr) (h7 : n.kind ≠ 7) (h6 : n.kind ≠ 6) : GetStep p l n (l.length + 1) c TA := by
  intro hpz cs w S ab ao hn hS hab hp hr hc hs hct
  cases n with
  | mk k num t ks ns =>
  unfold NdIn at hn
  obtain ⟨A1, ck, A2, cc, xs, rfl, hks, hxs, hns, ik, inn, ht, hkl, hkm, hmm⟩ := hn
  simp only [Nd.kind] at h7 h6
  have e7 : (k == 7) = false := by rw [beq_eq_false_iff_ne]; exact h7
  have e6 : (k == 6) = false := by rw [beq_eq_false_iff_ne]; exact h6
  have HR : Hid (getN (p :: l) (.mk k num t ks ns) = none) := by show _ = _; simp [getN, Nd.kind, h7, h6]
  have HS := Lib.hid hS
  clear hS hks hxs hns hkl hr h7 h6 hp
  show Calls Tryd.prog 34 #[.agg #[.int .i64 k, .int .i64 num, .string t, .slice A1 ks.length ck, .slice A2 ns.length cc], .slice (some ⟨ab, ao, none⟩) (l.length + 1) c] w _
  have hA : Below w.heap.size w ((w.alloc (.cells #[.int .i64 k, .int .i64 num, .string t, .slice A1 ks.length ck, .slice A2 ns.length cc] 25)).alloc (.cells #[.int .i64 0, .int .i64 0, .string ⟨#[]⟩, .slice none 0 0, .slice none 0 0] 25)) := ((Below.refl _ _).alloc (Nat.le_refl _) _).alloc (by simp) _
  have hX : Blk ((w.alloc (.cells #[.int .i64 k, .int .i64 num, .string t, .slice A1 ks.length ck, .slice A2 ns.length cc] 25)).alloc (.cells #[.int .i64 0, .int .i64 0, .string ⟨#[]⟩, .slice none 0 0, .slice none 0 0] 25)) w.heap.size 25 #[.int .i64 k, .int .i64 num, .string t, .slice A1 ks.length ck, .slice A2 ns.length cc] := (Blk.new w _ _).alloc _
  have hY : Blk ((w.alloc (.cells #[.int .i64 k, .int .i64 num, .string t, .slice A1 ks.length ck, .slice A2 ns.length cc] 25)).alloc (.cells #[.int .i64 0, .int .i64 0, .string ⟨#[]⟩, .slice none 0 0, .slice none 0 0] 25)) (w.heap.size + 1) 25 #[.int .i64 0, .int .i64 0, .string ⟨#[]⟩, .slice none 0 0, .slice none 0 0] := by
    have := Blk.new (w.alloc (.cells #[.int .i64 k, .int .i64 num, .string t, .slice A1 ks.length ck, .slice A2 ns.length cc] 25)) 25 #[.int .i64 0, .int .i64 0, .string ⟨#[]⟩, .slice none 0 0, .slice none 0 0]
    simpa using this
  have hZ : w.heap.size + 2 = ((w.alloc (.cells #[.int .i64 k, .int .i64 num, .string t, .slice A1 ks.length ck, .slice A2 ns.length cc] 25)).alloc (.cells #[.int .i64 0, .int .i64 0, .string ⟨#[]⟩, .slice none 0 0, .slice none 0 0] 25)).heap.size := by simp
  have HA := Lib.hid hA
  have HX := Lib.hid hX
  have HY := Lib.hid hY
  clear hA hX hY
  go_enter Tryd.func34, Tryd.ntmps34
  go_upto_region 1 with fail
  generalize (w.alloc (.cells #[.int .i64 k, .int .i64 num, .string t, .slice A1 ks.length ck, .slice A2 ns.length cc] 25)).alloc (.cells #[.int .i64 0, .int .i64 0, .string ⟨#[]⟩, .slice none 0 0, .slice none 0 0] 25) = wa at *
  obtain ⟨c0, c1, c2, c3, c4⟩ := HX.out.cells5
  obtain ⟨d0, d1, d2, d3, d4⟩ := HY.out.cells5
  have f0 := HY.out.frozen 0
  have f1 := HY.out.frozen 1
  have f2 := HY.out.frozen 2
  have f3 := HY.out.frozen 3
  have f4 := HY.out.frozen 4
  go_wp2_with fail
  clear d0 d1 d2 d3 d4 f0 f1 f2 f3 f4
  have F := get_fin (r := none) (S := S) (S2 := (fun _ => False)) (w := w) (w2 := wa) (y := w.heap.size + 1) (by omega) HA.out HY.out (nd0_in 0 (by unfold I64; omega) _ _) (fun b hb => hb.elim)
  unfold set5 at F
  generalize (((((wa).setCell ⟨w.heap.size + 1, 0, none⟩ (.int .i64 0)).setCell ⟨w.heap.size + 1, 1, none⟩ (.int .i64 0)).setCell ⟨w.heap.size + 1, 2, none⟩ (.string ⟨#[]⟩)).setCell ⟨w.heap.size + 1, 3, none⟩ (.slice none 0 0)).setCell ⟨w.heap.size + 1, 4, none⟩ (.slice none 0 0) = WF at *
  obtain ⟨F1, F2⟩ := F
  obtain ⟨q0, q1, q2, q3, q4⟩ := F1.cells5
  refine bodyPost_ret (v := .tuple #[.agg #[.int .i64 0, .int .i64 0, .string ⟨#[]⟩, .slice none 0 0, .slice none 0 0], .bool false]) (by simp [results, Tryd.results34, go_sem, q0, q1, q2, q3, q4]) rfl ?_
  rw [HR.out]; exact F2
set_option maxHeartbeats 2000000 in
theorem get_place1 (p : ByteArray) (IH : GetOK []) (n : Nd) (h6 : n.kind = 6) (hp42 : p.toList ≠ [42]) : GetStep p [] n 1 1 (fun ab ao => some ⟨ab, ao, none⟩) := by
  intro hpz cs w S ab ao hn hS hab hp hr hc hs hct
  cases n with
  | mk k num t ks ns =>
  have HK : Hid (∀ (i : Nat) (m : Nd), ns[i]? = some m → sizeOk m ∧ m.count ≤ 1000000) := fun i m hi => by
    have := kid_ok (n := .mk k num t ks ns) (i := i) (m := m) hi hs
    exact ⟨this.1, by omega⟩
  unfold NdIn at hn
  obtain ⟨A1, ck, A2, cc, xs, rfl, hks, hxs, hns, ik, inn, ht, hkl, hkm, hmm⟩ := hn
  simp only [Nd.kind] at h6
  subst h6
  obtain ⟨V, hV⟩ : ∃ V, V = placeF p ns.length := ⟨_, rfl⟩
  have e42 : (p.toList == [42]) = false := by rw [beq_eq_false_iff_ne]; exact hp42
  have HS := Lib.hid hS
  have HXS := Lib.hid hxs
  have HNS := Lib.hid hns
  have HR := Lib.hid hr
  have HV := Lib.hid hV
  clear hS hks hxs hns hkl hr hV hp42 hs
  have hp0 := Lib.hid hp
  show Calls Tryd.prog 34 #[.agg #[.int .i64 6, .int .i64 num, .string t, .slice A1 ks.length ck, .slice A2 ns.length cc], .slice (some ⟨ab, ao, none⟩) 1 1] w _
  have hA : Below w.heap.size w ((w.alloc (.cells #[.int .i64 6, .int .i64 num, .string t, .slice A1 ks.length ck, .slice A2 ns.length cc] 25)).alloc (.cells #[.int .i64 0, .int .i64 0, .string ⟨#[]⟩, .slice none 0 0, .slice none 0 0] 25)) := ((Below.refl _ _).alloc (Nat.le_refl _) _).alloc (by simp) _
  have hX : Blk ((w.alloc (.cells #[.int .i64 6, .int .i64 num, .string t, .slice A1 ks.length ck, .slice A2 ns.length cc] 25)).alloc (.cells #[.int .i64 0, .int .i64 0, .string ⟨#[]⟩, .slice none 0 0, .slice none 0 0] 25)) w.heap.size 25 #[.int .i64 6, .int .i64 num, .string t, .slice A1 ks.length ck, .slice A2 ns.length cc] := (Blk.new w _ _).alloc _
  have hY : Blk ((w.alloc (.cells #[.int .i64 6, .int .i64 num, .string t, .slice A1 ks.length ck, .slice A2 ns.length cc] 25)).alloc (.cells #[.int .i64 0, .int .i64 0, .string ⟨#[]⟩, .slice none 0 0, .slice none 0 0] 25)) (w.heap.size + 1) 25 #[.int .i64 0, .int .i64 0, .string ⟨#[]⟩, .slice none 0 0, .slice none 0 0] := by
    have := Blk.new (w.alloc (.cells #[.int .i64 6, .int .i64 num, .string t, .slice A1 ks.length ck, .slice A2 ns.length cc] 25)) 25 #[.int .i64 0, .int .i64 0, .string ⟨#[]⟩, .slice none 0 0, .slice none 0 0]
    simpa using this
  have hZ : w.heap.size + 2 = ((w.alloc (.cells #[.int .i64 6, .int .i64 num, .string t, .slice A1 ks.length ck, .slice A2 ns.length cc] 25)).alloc (.cells #[.int .i64 0, .int .i64 0, .string ⟨#[]⟩, .slice none 0 0, .slice none 0 0] 25)).heap.size := by simp
  have HA := Lib.hid hA
  have HX := Lib.hid hX
  have HY := Lib.hid hY
  clear hA hX hY
  go_enter Tryd.func34, Tryd.ntmps34
  go_upto_region 1 with fail
  generalize (w.alloc (.cells #[.int .i64 6, .int .i64 num, .string t, .slice A1 ks.length ck, .slice A2 ns.length cc] 25)).alloc (.cells #[.int .i64 0, .int .i64 0, .string ⟨#[]⟩, .slice none 0 0, .slice none 0 0] 25) = wa at *
  have p0 : wa.cell? ⟨ab, ao, none⟩ = some (.string p) := (HA.out.cell (p := ⟨ab, ao, none⟩) hab).trans hp0.out
  obtain ⟨c0, c1, c2, c3, c4⟩ := HX.out.cells5
  obtain ⟨d0, d1, d2, d3, d4⟩ := HY.out.cells5
  have f0 := HY.out.frozen 0
  have f1 := HY.out.frozen 1
  have f2 := HY.out.frozen 2
  have f3 := HY.out.frozen 3
  have f4 := HY.out.frozen 4
  clear hp
  have HPL : Hid (∀ w', Calls Tryd.prog 49 #[.string p, .int .i64 ns.length] w' (PlaceEnd V w')) := fun w' => by
    rw [HV.out]; exact place_any p ns.length w' hpz (by unfold maxLen at hmm; omega)
  clear hpz
  go_wp2_with fail
  go_region_held3 (fun w' => w'.cell? ⟨ab, ao, none⟩ = some (.string p) ∧ w'.cell? ⟨w.heap.size, 4, none⟩ = some (.slice A2 ns.length cc) ∧ w' = wa.drew) (first | assumption | exact ⟨p0, c4, rfl⟩) (first
    | (go_at_call 49; refine (HPL.out _ : Calls _ _ _ _ _).mono ?_; rintro e w5 ⟨rfl, hw5⟩; obtain rfl : _ = w5 := hw5))
  have HA2 := Lib.hid HA.out.drew
  have HX2 := Lib.hid HX.out.drew
  have HY2 := Lib.hid HY.out.drew
  have hZ2 : w.heap.size + 2 = wa.drew.heap.size := hZ
  clear HA HX HY hZ c0 c1 c2 c3 c4 d0 d1 d2 d3 d4 f0 f1 f2 f3 f4 p0
  generalize wa.drew = wd at *
  by_cases hv : V < 0
  · have HG : Hid (getN (p :: []) (.mk 6 num t ks ns) = none) := by
      show _ = _
      rw [HV.out] at hv
      have e42' : p.toList ≠ [42] := by rw [beq_eq_false_iff_ne] at e42; exact e42
      simp [getN, Nd.kind, Nd.kids, e42', hv]
    obtain ⟨c0, c1, c2, c3, c4⟩ := HX2.out.cells5
    obtain ⟨d0, d1, d2, d3, d4⟩ := HY2.out.cells5
    have f0 := HY2.out.frozen 0
    have f1 := HY2.out.frozen 1
    have f2 := HY2.out.frozen 2
    have f3 := HY2.out.frozen 3
    have f4 := HY2.out.frozen 4
    go_wp2_with fail
    clear d0 d1 d2 d3 d4 f0 f1 f2 f3 f4
    have F := get_fin (r := none) (S := S) (S2 := (fun _ => False)) (w := w) (w2 := wd) (y := w.heap.size + 1) (by omega) HA2.out HY2.out (nd0_in 0 (by unfold I64; omega) _ _) (fun b hb => hb.elim)
    unfold set5 at F
    generalize (((((wd).setCell ⟨w.heap.size + 1, 0, none⟩ (.int .i64 0)).setCell ⟨w.heap.size + 1, 1, none⟩ (.int .i64 0)).setCell ⟨w.heap.size + 1, 2, none⟩ (.string ⟨#[]⟩)).setCell ⟨w.heap.size + 1, 3, none⟩ (.slice none 0 0)).setCell ⟨w.heap.size + 1, 4, none⟩ (.slice none 0 0) = WF at *
    obtain ⟨F1, F2⟩ := F
    obtain ⟨q0, q1, q2, q3, q4⟩ := F1.cells5
    refine bodyPost_ret (v := .tuple #[.agg #[.int .i64 0, .int .i64 0, .string ⟨#[]⟩, .slice none 0 0, .slice none 0 0], .bool false]) (by simp [results, Tryd.results34, go_sem, q0, q1, q2, q3, q4]) rfl ?_
    rw [HG.out]; exact F2
  · obtain ⟨i, hi, hVi⟩ : ∃ i : Nat, i < ns.length ∧ V = i := by
      rcases placeF_lt p ns.length with h | ⟨i, h1, h2⟩
      · rw [HV.out] at hv; omega
      · exact ⟨i, h1, HV.out.trans h2⟩
    have hkp : ∀ q : Addr, S q.block → wd.cell? q = w.cell? q := fun q hq => HA2.out.cell (HS.out _ hq)
    obtain ⟨b, off, m, rfl, hbS, hmi, x0, x1, x2, x3, x4, x5, x6, x7, x8, hnd, e0, e1, e2, e3, e4⟩ := (HXS.out.keep hkp).nd (NdsIn.keep hkp (fun _ h => h) _ _ HNS.out) hi
    have HG : Hid (getN (p :: []) (.mk 6 num t ks ns) = getN [] m) := by
      show _ = _
      have e42' : p.toList ≠ [42] := by rw [beq_eq_false_iff_ne] at e42; exact e42
      have hp0 := HV.out.symm.trans hVi
      have hnn : ¬ (i : Int) < 0 := by omega
      simp [getN, Nd.kind, Nd.kids, e42', hp0, hmi, hnn]
    subst hVi
    have hbl := HS.out b hbS
    have HM := Lib.hid (HK.out i m hmi)
    have HB := Lib.hid hbS
    have HIH : Hid (∀ w', Below w.heap.size w w' → Calls Tryd.prog 34 #[.agg #[.int .i64 x0, .int .i64 x1, .string x2, .slice x3 x4 x5, .slice x6 x7 x8], .slice (some ⟨ab, ao, none⟩) 0 0] w' (GetP (getN [] m) S w')) := fun w' h' =>
      IH m [.int .i64 x0, .int .i64 x1, .string x2, .slice x3 x4 x5, .slice x6 x7 x8] w' S _ 0 (NdIn.keep (fun q hq => (h'.cell (HS.out _ hq)).trans (hkp q hq).symm) (fun _ h => h) _ _ hnd) (fun b hb => by have := HS.out b hb; have := h'.size; omega) ((HR.out.keep fun q hq => h'.cell hq).more h'.size) (Nat.le_refl _) (by unfold maxLen at *; omega) HM.out.1 HM.out.2
    have hi0 : (0 : Int) ≤ (i : Int) := by omega
    have hi1 : (i : Int) < (ns.length : Int) := by omega
    have hl1 : (1 : Int) ≤ (1 : Nat) := by omega
    skip
    have hxy : w.heap.size ≠ w.heap.size + 1 := by omega
    have hby : b ≠ w.heap.size + 1 := by omega
    obtain ⟨c0, c1, c2, c3, c4⟩ := HX2.out.cells5
    clear c0 c1 c2 c3
    obtain ⟨d0, d1, d2, d3, d4⟩ := HY2.out.cells5
    have f0 := HY2.out.frozen 0
    have f1 := HY2.out.frozen 1
    have f2 := HY2.out.frozen 2
    have f3 := HY2.out.frozen 3
    have f4 := HY2.out.frozen 4
    have hgs : GS w w.heap.size 4 b (off + i * 5) (.slice (some ⟨b, off, none⟩) ns.length cc) (.int .i64 x0) (.int .i64 x1) (.string x2) (.slice x3 x4 x5) (.slice x6 x7 x8) wd := ⟨c4, e0, e1, e2, e3, e4, HA2.out⟩
    have HGS := Lib.hid hgs
    have HS0 : Hid (wd.drew.cell? ⟨w.heap.size, 4, none⟩ = some (.slice (some ⟨b, off, none⟩) ns.length cc) ∧ wd.drew.cell? ⟨b, off + i * 5, none⟩ = some (.int .i64 x0) ∧ wd.drew.cell? ⟨b, off + i * 5 + 1, none⟩ = some (.int .i64 x1) ∧ wd.drew.cell? ⟨b, off + i * 5 + 2, none⟩ = some (.string x2) ∧ wd.drew.cell? ⟨b, off + i * 5 + 3, none⟩ = some (.slice x3 x4 x5) ∧ wd.drew.cell? ⟨b, off + i * 5 + 4, none⟩ = some (.slice x6 x7 x8) ∧ Below w.heap.size w wd.drew) := hgs.drew
    clear hkp hmi hnd hbS IH hv hgs
    go_wp2_with fail
    go_region_held3 (fun w' => w'.cell? ⟨w.heap.size, 4, none⟩ = some (.slice (some ⟨b, off, none⟩) ns.length cc) ∧ w'.cell? ⟨b, off + i * 5, none⟩ = some (.int .i64 x0) ∧ w'.cell? ⟨b, off + i * 5 + 1, none⟩ = some (.int .i64 x1) ∧ w'.cell? ⟨b, off + i * 5 + 2, none⟩ = some (.string x2) ∧ w'.cell? ⟨b, off + i * 5 + 3, none⟩ = some (.slice x3 x4 x5) ∧ w'.cell? ⟨b, off + i * 5 + 4, none⟩ = some (.slice x6 x7 x8) ∧ Below w.heap.size w w') (first | with_reducible exact HS0.out | with_reducible exact HS5.out | with_reducible exact HSF.out) (first
      | (go_at_call 34; refine (HIH.out _ (by first | assumption | exact HA2.out.drew)).mono ?_; rintro e w5 ⟨y0, y1, y2, y3, y4, y5, y6, y7, y8, rfl, hn5, hb5⟩; have hY5 := HY2.out.drew.below hb5 HY2.out.drew.lt; have HY5 := Lib.hid hY5; have HN5 := Lib.hid hn5; have hz5 : wd.heap.size ≤ w5.heap.size := hb5.size; clear hn5; obtain ⟨d0, d1, d2, d3, d4⟩ := hY5.cells5; have f0 := hY5.frozen 0; have f1 := hY5.frozen 1; have f2 := hY5.frozen 2; have f3 := hY5.frozen 3; have f4 := hY5.frozen 4; have HS5 : Hid (w5.cell? ⟨w.heap.size, 4, none⟩ = some (.slice (some ⟨b, off, none⟩) ns.length cc) ∧ w5.cell? ⟨b, off + i * 5, none⟩ = some (.int .i64 x0) ∧ w5.cell? ⟨b, off + i * 5 + 1, none⟩ = some (.int .i64 x1) ∧ w5.cell? ⟨b, off + i * 5 + 2, none⟩ = some (.string x2) ∧ w5.cell? ⟨b, off + i * 5 + 3, none⟩ = some (.slice x3 x4 x5) ∧ w5.cell? ⟨b, off + i * 5 + 4, none⟩ = some (.slice x6 x7 x8) ∧ Below w.heap.size w w5) := HGS.out.drew.below hb5; have HSF : Hid ((((((w5.setCell ⟨w.heap.size + 1, 0, none⟩ (.int .i64 y0)).setCell ⟨w.heap.size + 1, 1, none⟩ (.int .i64 y1)).setCell ⟨w.heap.size + 1, 2, none⟩ (.string y2)).setCell ⟨w.heap.size + 1, 3, none⟩ (.slice y3 y4 y5)).setCell ⟨w.heap.size + 1, 4, none⟩ (.slice y6 y7 y8)).cell? ⟨w.heap.size, 4, none⟩ = some (.slice (some ⟨b, off, none⟩) ns.length cc) ∧ (((((w5.setCell ⟨w.heap.size + 1, 0, none⟩ (.int .i64 y0)).setCell ⟨w.heap.size + 1, 1, none⟩ (.int .i64 y1)).setCell ⟨w.heap.size + 1, 2, none⟩ (.string y2)).setCell ⟨w.heap.size + 1, 3, none⟩ (.slice y3 y4 y5)).setCell ⟨w.heap.size + 1, 4, none⟩ (.slice y6 y7 y8)).cell? ⟨b, off + i * 5, none⟩ = some (.int .i64 x0) ∧ (((((w5.setCell ⟨w.heap.size + 1, 0, none⟩ (.int .i64 y0)).setCell ⟨w.heap.size + 1, 1, none⟩ (.int .i64 y1)).setCell ⟨w.heap.size + 1, 2, none⟩ (.string y2)).setCell ⟨w.heap.size + 1, 3, none⟩ (.slice y3 y4 y5)).setCell ⟨w.heap.size + 1, 4, none⟩ (.slice y6 y7 y8)).cell? ⟨b, off + i * 5 + 1, none⟩ = some (.int .i64 x1) ∧ (((((w5.setCell ⟨w.heap.size + 1, 0, none⟩ (.int .i64 y0)).setCell ⟨w.heap.size + 1, 1, none⟩ (.int .i64 y1)).setCell ⟨w.heap.size + 1, 2, none⟩ (.string y2)).setCell ⟨w.heap.size + 1, 3, none⟩ (.slice y3 y4 y5)).setCell ⟨w.heap.size + 1, 4, none⟩ (.slice y6 y7 y8)).cell? ⟨b, off + i * 5 + 2, none⟩ = some (.string x2) ∧ (((((w5.setCell ⟨w.heap.size + 1, 0, none⟩ (.int .i64 y0)).setCell ⟨w.heap.size + 1, 1, none⟩ (.int .i64 y1)).setCell ⟨w.heap.size + 1, 2, none⟩ (.string y2)).setCell ⟨w.heap.size + 1, 3, none⟩ (.slice y3 y4 y5)).setCell ⟨w.heap.size + 1, 4, none⟩ (.slice y6 y7 y8)).cell? ⟨b, off + i * 5 + 3, none⟩ = some (.slice x3 x4 x5) ∧ (((((w5.setCell ⟨w.heap.size + 1, 0, none⟩ (.int .i64 y0)).setCell ⟨w.heap.size + 1, 1, none⟩ (.int .i64 y1)).setCell ⟨w.heap.size + 1, 2, none⟩ (.string y2)).setCell ⟨w.heap.size + 1, 3, none⟩ (.slice y3 y4 y5)).setCell ⟨w.heap.size + 1, 4, none⟩ (.slice y6 y7 y8)).cell? ⟨b, off + i * 5 + 4, none⟩ = some (.slice x6 x7 x8) ∧ Below w.heap.size w (((((w5.setCell ⟨w.heap.size + 1, 0, none⟩ (.int .i64 y0)).setCell ⟨w.heap.size + 1, 1, none⟩ (.int .i64 y1)).setCell ⟨w.heap.size + 1, 2, none⟩ (.string y2)).setCell ⟨w.heap.size + 1, 3, none⟩ (.slice y3 y4 y5)).setCell ⟨w.heap.size + 1, 4, none⟩ (.slice y6 y7 y8))) := (HGS.out.drew.below hb5).set5 (by omega) hxy hby))
    go_wp2_with fail
    clear d0 d1 d2 d3 d4 f0 f1 f2 f3 f4
    have F := get_fin (r := getN [] m) (S := S) (S2 := (fun b => S b ∨ Since wd.drew w5 b)) (w := w) (w2 := w5) (y := w.heap.size + 1) (by omega) HS5.out.2.2.2.2.2.2 HY5.out HN5.out (fun b hb => by
        rcases hb with hb | hb
        · exact ⟨.inl hb, fun e => by have := HS.out b hb; omega⟩
        · have h1 : wd.heap.size ≤ b := hb.1
          exact ⟨.inr ⟨by omega, hb.2⟩, by omega⟩)
    unfold set5 at F
    generalize (((((w5).setCell ⟨w.heap.size + 1, 0, none⟩ (.int .i64 y0)).setCell ⟨w.heap.size + 1, 1, none⟩ (.int .i64 y1)).setCell ⟨w.heap.size + 1, 2, none⟩ (.string y2)).setCell ⟨w.heap.size + 1, 3, none⟩ (.slice y3 y4 y5)).setCell ⟨w.heap.size + 1, 4, none⟩ (.slice y6 y7 y8) = WF at *
    obtain ⟨F1, F2⟩ := F
    obtain ⟨q0, q1, q2, q3, q4⟩ := F1.cells5
    refine bodyPost_ret (v := .tuple #[.agg #[.int .i64 y0, .int .i64 y1, .string y2, .slice y3 y4 y5, .slice y6 y7 y8], .bool (getN [] m).isSome]) (by simp [results, Tryd.results34, go_sem, q0, q1, q2, q3, q4]) rfl ?_
    rw [HG.out]; exact F2
set_option maxHeartbeats 2000000 in
theorem get_place2 (p : ByteArray) (l : List ByteArray) (c : Nat) (hc1 : ¬ c = 1) (hl : l.length + 1 ≤ c) (IH : GetOK l) (n : Nd) (h6 : n.kind = 6) (hp42 : p.toList ≠ [42]) : GetStep p l n (l.length + 1) c (fun ab ao => some ⟨ab, ao + 1, none⟩) := by
  intro hpz cs w S ab ao hn hS hab hp hr hc hs hct
  cases n with
  | mk k num t ks ns =>
  have HK : Hid (∀ (i : Nat) (m : Nd), ns[i]? = some m → sizeOk m ∧ m.count ≤ 1000000) := fun i m hi => by
    have := kid_ok (n := .mk k num t ks ns) (i := i) (m := m) hi hs
    exact ⟨this.1, by omega⟩
  unfold NdIn at hn
  obtain ⟨A1, ck, A2, cc, xs, rfl, hks, hxs, hns, ik, inn, ht, hkl, hkm, hmm⟩ := hn
  simp only [Nd.kind] at h6
  subst h6
  obtain ⟨V, hV⟩ : ∃ V, V = placeF p ns.length := ⟨_, rfl⟩
  have e42 : (p.toList == [42]) = false := by rw [beq_eq_false_iff_ne]; exact hp42
  have HS := Lib.hid hS
  have HXS := Lib.hid hxs
  have HNS := Lib.hid hns
  have HR := Lib.hid hr
  have HV := Lib.hid hV
  clear hS hks hxs hns hkl hr hV hp42 hs
  have hp0 := Lib.hid hp
  show Calls Tryd.prog 34 #[.agg #[.int .i64 6, .int .i64 num, .string t, .slice A1 ks.length ck, .slice A2 ns.length cc], .slice (some ⟨ab, ao, none⟩) (l.length + 1) c] w _
  have hA : Below w.heap.size w ((w.alloc (.cells #[.int .i64 6, .int .i64 num, .string t, .slice A1 ks.length ck, .slice A2 ns.length cc] 25)).alloc (.cells #[.int .i64 0, .int .i64 0, .string ⟨#[]⟩, .slice none 0 0, .slice none 0 0] 25)) := ((Below.refl _ _).alloc (Nat.le_refl _) _).alloc (by simp) _
  have hX : Blk ((w.alloc (.cells #[.int .i64 6, .int .i64 num, .string t, .slice A1 ks.length ck, .slice A2 ns.length cc] 25)).alloc (.cells #[.int .i64 0, .int .i64 0, .string ⟨#[]⟩, .slice none 0 0, .slice none 0 0] 25)) w.heap.size 25 #[.int .i64 6, .int .i64 num, .string t, .slice A1 ks.length ck, .slice A2 ns.length cc] := (Blk.new w _ _).alloc _
  have hY : Blk ((w.alloc (.cells #[.int .i64 6, .int .i64 num, .string t, .slice A1 ks.length ck, .slice A2 ns.length cc] 25)).alloc (.cells #[.int .i64 0, .int .i64 0, .string ⟨#[]⟩, .slice none 0 0, .slice none 0 0] 25)) (w.heap.size + 1) 25 #[.int .i64 0, .int .i64 0, .string ⟨#[]⟩, .slice none 0 0, .slice none 0 0] := by
    have := Blk.new (w.alloc (.cells #[.int .i64 6, .int .i64 num, .string t, .slice A1 ks.length ck, .slice A2 ns.length cc] 25)) 25 #[.int .i64 0, .int .i64 0, .string ⟨#[]⟩, .slice none 0 0, .slice none 0 0]
    simpa using this
  have hZ : w.heap.size + 2 = ((w.alloc (.cells #[.int .i64 6, .int .i64 num, .string t, .slice A1 ks.length ck, .slice A2 ns.length cc] 25)).alloc (.cells #[.int .i64 0, .int .i64 0, .string ⟨#[]⟩, .slice none 0 0, .slice none 0 0] 25)).heap.size := by simp
  have HA := Lib.hid hA
  have HX := Lib.hid hX
  have HY := Lib.hid hY
  clear hA hX hY
  go_enter Tryd.func34, Tryd.ntmps34
  go_upto_region 1 with fail
  generalize (w.alloc (.cells #[.int .i64 6, .int .i64 num, .string t, .slice A1 ks.length ck, .slice A2 ns.length cc] 25)).alloc (.cells #[.int .i64 0, .int .i64 0, .string ⟨#[]⟩, .slice none 0 0, .slice none 0 0] 25) = wa at *
  have p0 : wa.cell? ⟨ab, ao, none⟩ = some (.string p) := (HA.out.cell (p := ⟨ab, ao, none⟩) hab).trans hp0.out
  obtain ⟨c0, c1, c2, c3, c4⟩ := HX.out.cells5
  obtain ⟨d0, d1, d2, d3, d4⟩ := HY.out.cells5
  have f0 := HY.out.frozen 0
  have f1 := HY.out.frozen 1
  have f2 := HY.out.frozen 2
  have f3 := HY.out.frozen 3
  have f4 := HY.out.frozen 4
  clear hp
  have HPL : Hid (∀ w', Calls Tryd.prog 49 #[.string p, .int .i64 ns.length] w' (PlaceEnd V w')) := fun w' => by
    rw [HV.out]; exact place_any p ns.length w' hpz (by unfold maxLen at hmm; omega)
  clear hpz
  go_wp2_with fail
  go_region_held3 (fun w' => w'.cell? ⟨ab, ao, none⟩ = some (.string p) ∧ w'.cell? ⟨w.heap.size, 4, none⟩ = some (.slice A2 ns.length cc) ∧ w' = wa.drew) (first | assumption | exact ⟨p0, c4, rfl⟩) (first
    | (go_at_call 49; refine (HPL.out _ : Calls _ _ _ _ _).mono ?_; rintro e w5 ⟨rfl, hw5⟩; obtain rfl : _ = w5 := hw5))
  have HA2 := Lib.hid HA.out.drew
  have HX2 := Lib.hid HX.out.drew
  have HY2 := Lib.hid HY.out.drew
  have hZ2 : w.heap.size + 2 = wa.drew.heap.size := hZ
  clear HA HX HY hZ c0 c1 c2 c3 c4 d0 d1 d2 d3 d4 f0 f1 f2 f3 f4 p0
  generalize wa.drew = wd at *
  by_cases hv : V < 0
  · have HG : Hid (getN (p :: l) (.mk 6 num t ks ns) = none) := by
      show _ = _
      rw [HV.out] at hv
      have e42' : p.toList ≠ [42] := by rw [beq_eq_false_iff_ne] at e42; exact e42
      simp [getN, Nd.kind, Nd.kids, e42', hv]
    obtain ⟨c0, c1, c2, c3, c4⟩ := HX2.out.cells5
    obtain ⟨d0, d1, d2, d3, d4⟩ := HY2.out.cells5
    have f0 := HY2.out.frozen 0
    have f1 := HY2.out.frozen 1
    have f2 := HY2.out.frozen 2
    have f3 := HY2.out.frozen 3
    have f4 := HY2.out.frozen 4
    go_wp2_with fail
    clear d0 d1 d2 d3 d4 f0 f1 f2 f3 f4
    have F := get_fin (r := none) (S := S) (S2 := (fun _ => False)) (w := w) (w2 := wd) (y := w.heap.size + 1) (by omega) HA2.out HY2.out (nd0_in 0 (by unfold I64; omega) _ _) (fun b hb => hb.elim)
    unfold set5 at F
    generalize (((((wd).setCell ⟨w.heap.size + 1, 0, none⟩ (.int .i64 0)).setCell ⟨w.heap.size + 1, 1, none⟩ (.int .i64 0)).setCell ⟨w.heap.size + 1, 2, none⟩ (.string ⟨#[]⟩)).setCell ⟨w.heap.size + 1, 3, none⟩ (.slice none 0 0)).setCell ⟨w.heap.size + 1, 4, none⟩ (.slice none 0 0) = WF at *
    obtain ⟨F1, F2⟩ := F
    obtain ⟨q0, q1, q2, q3, q4⟩ := F1.cells5
    refine bodyPost_ret (v := .tuple #[.agg #[.int .i64 0, .int .i64 0, .string ⟨#[]⟩, .slice none 0 0, .slice none 0 0], .bool false]) (by simp [results, Tryd.results34, go_sem, q0, q1, q2, q3, q4]) rfl ?_
    rw [HG.out]; exact F2
  · obtain ⟨i, hi, hVi⟩ : ∃ i : Nat, i < ns.length ∧ V = i := by
      rcases placeF_lt p ns.length with h | ⟨i, h1, h2⟩
      · rw [HV.out] at hv; omega
      · exact ⟨i, h1, HV.out.trans h2⟩
    have hkp : ∀ q : Addr, S q.block → wd.cell? q = w.cell? q := fun q hq => HA2.out.cell (HS.out _ hq)
    obtain ⟨b, off, m, rfl, hbS, hmi, x0, x1, x2, x3, x4, x5, x6, x7, x8, hnd, e0, e1, e2, e3, e4⟩ := (HXS.out.keep hkp).nd (NdsIn.keep hkp (fun _ h => h) _ _ HNS.out) hi
    have HG : Hid (getN (p :: l) (.mk 6 num t ks ns) = getN l m) := by
      show _ = _
      have e42' : p.toList ≠ [42] := by rw [beq_eq_false_iff_ne] at e42; exact e42
      have hp0 := HV.out.symm.trans hVi
      have hnn : ¬ (i : Int) < 0 := by omega
      simp [getN, Nd.kind, Nd.kids, e42', hp0, hmi, hnn]
    subst hVi
    have hbl := HS.out b hbS
    have HM := Lib.hid (HK.out i m hmi)
    have HB := Lib.hid hbS
    have HIH : Hid (∀ w', Below w.heap.size w w' → Calls Tryd.prog 34 #[.agg #[.int .i64 x0, .int .i64 x1, .string x2, .slice x3 x4 x5, .slice x6 x7 x8], .slice (some ⟨ab, ao + 1, none⟩) l.length (c - 1)] w' (GetP (getN l m) S w')) := fun w' h' =>
      IH m [.int .i64 x0, .int .i64 x1, .string x2, .slice x3 x4 x5, .slice x6 x7 x8] w' S _ (c - 1) (NdIn.keep (fun q hq => (h'.cell (HS.out _ hq)).trans (hkp q hq).symm) (fun _ h => h) _ _ hnd) (fun b hb => by have := HS.out b hb; have := h'.size; omega) ((HR.out.keep fun q hq => h'.cell hq).more h'.size) (by omega) (by unfold maxLen at *; omega) HM.out.1 HM.out.2
    have hi0 : (0 : Int) ≤ (i : Int) := by omega
    have hi1 : (i : Int) < (ns.length : Int) := by omega
    have hl1 : (1 : Int) ≤ ((l.length + 1) : Nat) := by omega
    have hx : ¬ (l.length : Int) + 1 < 1 := by omega
    have hxy : w.heap.size ≠ w.heap.size + 1 := by omega
    have hby : b ≠ w.heap.size + 1 := by omega
    obtain ⟨c0, c1, c2, c3, c4⟩ := HX2.out.cells5
    clear c0 c1 c2 c3
    obtain ⟨d0, d1, d2, d3, d4⟩ := HY2.out.cells5
    have f0 := HY2.out.frozen 0
    have f1 := HY2.out.frozen 1
    have f2 := HY2.out.frozen 2
    have f3 := HY2.out.frozen 3
    have f4 := HY2.out.frozen 4
    have hgs : GS w w.heap.size 4 b (off + i * 5) (.slice (some ⟨b, off, none⟩) ns.length cc) (.int .i64 x0) (.int .i64 x1) (.string x2) (.slice x3 x4 x5) (.slice x6 x7 x8) wd := ⟨c4, e0, e1, e2, e3, e4, HA2.out⟩
    have HGS := Lib.hid hgs
    have HS0 : Hid (wd.drew.cell? ⟨w.heap.size, 4, none⟩ = some (.slice (some ⟨b, off, none⟩) ns.length cc) ∧ wd.drew.cell? ⟨b, off + i * 5, none⟩ = some (.int .i64 x0) ∧ wd.drew.cell? ⟨b, off + i * 5 + 1, none⟩ = some (.int .i64 x1) ∧ wd.drew.cell? ⟨b, off + i * 5 + 2, none⟩ = some (.string x2) ∧ wd.drew.cell? ⟨b, off + i * 5 + 3, none⟩ = some (.slice x3 x4 x5) ∧ wd.drew.cell? ⟨b, off + i * 5 + 4, none⟩ = some (.slice x6 x7 x8) ∧ Below w.heap.size w wd.drew) := hgs.drew
    clear hkp hmi hnd hbS IH hv hgs
    go_wp2_with fail
    go_region_held3 (fun w' => w'.cell? ⟨w.heap.size, 4, none⟩ = some (.slice (some ⟨b, off, none⟩) ns.length cc) ∧ w'.cell? ⟨b, off + i * 5, none⟩ = some (.int .i64 x0) ∧ w'.cell? ⟨b, off + i * 5 + 1, none⟩ = some (.int .i64 x1) ∧ w'.cell? ⟨b, off + i * 5 + 2, none⟩ = some (.string x2) ∧ w'.cell? ⟨b, off + i * 5 + 3, none⟩ = some (.slice x3 x4 x5) ∧ w'.cell? ⟨b, off + i * 5 + 4, none⟩ = some (.slice x6 x7 x8) ∧ Below w.heap.size w w') (first | with_reducible exact HS0.out | with_reducible exact HS5.out | with_reducible exact HSF.out) (first
      | (go_at_call 34; refine (HIH.out _ (by first | assumption | exact HA2.out.drew)).mono ?_; rintro e w5 ⟨y0, y1, y2, y3, y4, y5, y6, y7, y8, rfl, hn5, hb5⟩; have hY5 := HY2.out.drew.below hb5 HY2.out.drew.lt; have HY5 := Lib.hid hY5; have HN5 := Lib.hid hn5; have hz5 : wd.heap.size ≤ w5.heap.size := hb5.size; clear hn5; obtain ⟨d0, d1, d2, d3, d4⟩ := hY5.cells5; have f0 := hY5.frozen 0; have f1 := hY5.frozen 1; have f2 := hY5.frozen 2; have f3 := hY5.frozen 3; have f4 := hY5.frozen 4; have HS5 : Hid (w5.cell? ⟨w.heap.size, 4, none⟩ = some (.slice (some ⟨b, off, none⟩) ns.length cc) ∧ w5.cell? ⟨b, off + i * 5, none⟩ = some (.int .i64 x0) ∧ w5.cell? ⟨b, off + i * 5 + 1, none⟩ = some (.int .i64 x1) ∧ w5.cell? ⟨b, off + i * 5 + 2, none⟩ = some (.string x2) ∧ w5.cell? ⟨b, off + i * 5 + 3, none⟩ = some (.slice x3 x4 x5) ∧ w5.cell? ⟨b, off + i * 5 + 4, none⟩ = some (.slice x6 x7 x8) ∧ Below w.heap.size w w5) := HGS.out.drew.below hb5; have HSF : Hid ((((((w5.setCell ⟨w.heap.size + 1, 0, none⟩ (.int .i64 y0)).setCell ⟨w.heap.size + 1, 1, none⟩ (.int .i64 y1)).setCell ⟨w.heap.size + 1, 2, none⟩ (.string y2)).setCell ⟨w.heap.size + 1, 3, none⟩ (.slice y3 y4 y5)).setCell ⟨w.heap.size + 1, 4, none⟩ (.slice y6 y7 y8)).cell? ⟨w.heap.size, 4, none⟩ = some (.slice (some ⟨b, off, none⟩) ns.length cc) ∧ (((((w5.setCell ⟨w.heap.size + 1, 0, none⟩ (.int .i64 y0)).setCell ⟨w.heap.size + 1, 1, none⟩ (.int .i64 y1)).setCell ⟨w.heap.size + 1, 2, none⟩ (.string y2)).setCell ⟨w.heap.size + 1, 3, none⟩ (.slice y3 y4 y5)).setCell ⟨w.heap.size + 1, 4, none⟩ (.slice y6 y7 y8)).cell? ⟨b, off + i * 5, none⟩ = some (.int .i64 x0) ∧ (((((w5.setCell ⟨w.heap.size + 1, 0, none⟩ (.int .i64 y0)).setCell ⟨w.heap.size + 1, 1, none⟩ (.int .i64 y1)).setCell ⟨w.heap.size + 1, 2, none⟩ (.string y2)).setCell ⟨w.heap.size + 1, 3, none⟩ (.slice y3 y4 y5)).setCell ⟨w.heap.size + 1, 4, none⟩ (.slice y6 y7 y8)).cell? ⟨b, off + i * 5 + 1, none⟩ = some (.int .i64 x1) ∧ (((((w5.setCell ⟨w.heap.size + 1, 0, none⟩ (.int .i64 y0)).setCell ⟨w.heap.size + 1, 1, none⟩ (.int .i64 y1)).setCell ⟨w.heap.size + 1, 2, none⟩ (.string y2)).setCell ⟨w.heap.size + 1, 3, none⟩ (.slice y3 y4 y5)).setCell ⟨w.heap.size + 1, 4, none⟩ (.slice y6 y7 y8)).cell? ⟨b, off + i * 5 + 2, none⟩ = some (.string x2) ∧ (((((w5.setCell ⟨w.heap.size + 1, 0, none⟩ (.int .i64 y0)).setCell ⟨w.heap.size + 1, 1, none⟩ (.int .i64 y1)).setCell ⟨w.heap.size + 1, 2, none⟩ (.string y2)).setCell ⟨w.heap.size + 1, 3, none⟩ (.slice y3 y4 y5)).setCell ⟨w.heap.size + 1, 4, none⟩ (.slice y6 y7 y8)).cell? ⟨b, off + i * 5 + 3, none⟩ = some (.slice x3 x4 x5) ∧ (((((w5.setCell ⟨w.heap.size + 1, 0, none⟩ (.int .i64 y0)).setCell ⟨w.heap.size + 1, 1, none⟩ (.int .i64 y1)).setCell ⟨w.heap.size + 1, 2, none⟩ (.string y2)).setCell ⟨w.heap.size + 1, 3, none⟩ (.slice y3 y4 y5)).setCell ⟨w.heap.size + 1, 4, none⟩ (.slice y6 y7 y8)).cell? ⟨b, off + i * 5 + 4, none⟩ = some (.slice x6 x7 x8) ∧ Below w.heap.size w (((((w5.setCell ⟨w.heap.size + 1, 0, none⟩ (.int .i64 y0)).setCell ⟨w.heap.size + 1, 1, none⟩ (.int .i64 y1)).setCell ⟨w.heap.size + 1, 2, none⟩ (.string y2)).setCell ⟨w.heap.size + 1, 3, none⟩ (.slice y3 y4 y5)).setCell ⟨w.heap.size + 1, 4, none⟩ (.slice y6 y7 y8))) := (HGS.out.drew.below hb5).set5 (by omega) hxy hby))
    go_wp2_with fail
    clear d0 d1 d2 d3 d4 f0 f1 f2 f3 f4
    have F := get_fin (r := getN l m) (S := S) (S2 := (fun b => S b ∨ Since wd.drew w5 b)) (w := w) (w2 := w5) (y := w.heap.size + 1) (by omega) HS5.out.2.2.2.2.2.2 HY5.out HN5.out (fun b hb => by
        rcases hb with hb | hb
        · exact ⟨.inl hb, fun e => by have := HS.out b hb; omega⟩
        · have h1 : wd.heap.size ≤ b := hb.1
          exact ⟨.inr ⟨by omega, hb.2⟩, by omega⟩)
    unfold set5 at F
    generalize (((((w5).setCell ⟨w.heap.size + 1, 0, none⟩ (.int .i64 y0)).setCell ⟨w.heap.size + 1, 1, none⟩ (.int .i64 y1)).setCell ⟨w.heap.size + 1, 2, none⟩ (.string y2)).setCell ⟨w.heap.size + 1, 3, none⟩ (.slice y3 y4 y5)).setCell ⟨w.heap.size + 1, 4, none⟩ (.slice y6 y7 y8) = WF at *
    obtain ⟨F1, F2⟩ := F
    obtain ⟨q0, q1, q2, q3, q4⟩ := F1.cells5
    refine bodyPost_ret (v := .tuple #[.agg #[.int .i64 y0, .int .i64 y1, .string y2, .slice y3 y4 y5, .slice y6 y7 y8], .bool (getN l m).isSome]) (by simp [results, Tryd.results34, go_sem, q0, q1, q2, q3, q4]) rfl ?_
    rw [HG.out]; exact F2
end Go.Proofs.YtnbfagignbbmfaaDoor
/-! The walk of point's get at an object. -/
namespace Go.Proofs.YtnbfagignbbmfaaDoor
open Go.RowKit Go.PlainAid
set_option linter.unusedVariables false
set_option linter.unusedSimpArgs false
set_option maxRecDepth 100000
set_option maxHeartbeats 4000000 in
theorem get_obj1 (p : ByteArray) (IH : GetOK []) (n : Nd) (h7 : n.kind = 7) : GetStep p [] n 1 1 (fun ab ao => some ⟨ab, ao, none⟩) := by
  intro hpz cs w S ab ao hn hS hab hp hr hc hs hct
  have hn0 := Lib.hid (NdIn.is hS _ _ hn)
  have hs0 := Lib.hid hs
  have HKF : Hid (∀ m : Nd, findN n p = some m → sizeOk m ∧ m.count ≤ 1000000) := fun m hm => by
    obtain ⟨i, hi⟩ := findN_kid hm
    have := kid_ok hi hs
    exact ⟨this.1, by omega⟩
  obtain ⟨F, hF⟩ : ∃ F, F = findN n p := ⟨_, rfl⟩
  have HG : Hid (∀ r, (∀ m, F = some m → getN [] m = r) → (F = none → r = none) → getN (p :: []) n = r) := fun r h1 h2 => by
    rw [getN, if_pos h7, ← hF]
    cases F with
    | none => exact (h2 rfl).symm
    | some m => exact h1 m rfl
  have HF := Lib.hid hF
  cases n with
  | mk k num t ks ns =>
  unfold NdIn at hn
  obtain ⟨A1, ck, A2, cc, xs, rfl, hks, hxs, hns, ik, inn, ht, hkl, hkm, hmm⟩ := hn
  simp only [Nd.kind] at h7
  subst h7
  have HFC : Hid (∀ w', Below w.heap.size w w' → Calls Tryd.prog 35 #[.agg #[.int .i64 7, .int .i64 num, .string t, .slice A1 ks.length ck, .slice A2 ns.length cc], .string p] w' (FindP F w')) := fun w' h' => by
    rw [HF.out]
    exact cFind_any _ p _ w' w.heap.size (hn0.out.below h') h'.size hs0.out
  have HS := Lib.hid hS
  have HR := Lib.hid hr
  clear hS hks hxs hns hkl hr hs hF hn0 hs0 inn ht hkm hmm hct ik
  have hp0 := Lib.hid hp
  show Calls Tryd.prog 34 #[.agg #[.int .i64 7, .int .i64 num, .string t, .slice A1 ks.length ck, .slice A2 ns.length cc], .slice (some ⟨ab, ao, none⟩) 1 1] w _
  have hA : Below w.heap.size w ((w.alloc (.cells #[.int .i64 7, .int .i64 num, .string t, .slice A1 ks.length ck, .slice A2 ns.length cc] 25)).alloc (.cells #[.int .i64 0, .int .i64 0, .string ⟨#[]⟩, .slice none 0 0, .slice none 0 0] 25)) := ((Below.refl _ _).alloc (Nat.le_refl _) _).alloc (by simp) _
  have hX : Blk ((w.alloc (.cells #[.int .i64 7, .int .i64 num, .string t, .slice A1 ks.length ck, .slice A2 ns.length cc] 25)).alloc (.cells #[.int .i64 0, .int .i64 0, .string ⟨#[]⟩, .slice none 0 0, .slice none 0 0] 25)) w.heap.size 25 #[.int .i64 7, .int .i64 num, .string t, .slice A1 ks.length ck, .slice A2 ns.length cc] := (Blk.new w _ _).alloc _
  have hY : Blk ((w.alloc (.cells #[.int .i64 7, .int .i64 num, .string t, .slice A1 ks.length ck, .slice A2 ns.length cc] 25)).alloc (.cells #[.int .i64 0, .int .i64 0, .string ⟨#[]⟩, .slice none 0 0, .slice none 0 0] 25)) (w.heap.size + 1) 25 #[.int .i64 0, .int .i64 0, .string ⟨#[]⟩, .slice none 0 0, .slice none 0 0] := by
    have := Blk.new (w.alloc (.cells #[.int .i64 7, .int .i64 num, .string t, .slice A1 ks.length ck, .slice A2 ns.length cc] 25)) 25 #[.int .i64 0, .int .i64 0, .string ⟨#[]⟩, .slice none 0 0, .slice none 0 0]
    simpa using this
  have hZ : w.heap.size + 2 = ((w.alloc (.cells #[.int .i64 7, .int .i64 num, .string t, .slice A1 ks.length ck, .slice A2 ns.length cc] 25)).alloc (.cells #[.int .i64 0, .int .i64 0, .string ⟨#[]⟩, .slice none 0 0, .slice none 0 0] 25)).heap.size := by simp
  have HA := Lib.hid hA
  have HX := Lib.hid hX
  have HY := Lib.hid hY
  clear hA hX hY
  go_enter Tryd.func34, Tryd.ntmps34
  go_upto_region 1 with fail
  generalize (w.alloc (.cells #[.int .i64 7, .int .i64 num, .string t, .slice A1 ks.length ck, .slice A2 ns.length cc] 25)).alloc (.cells #[.int .i64 0, .int .i64 0, .string ⟨#[]⟩, .slice none 0 0, .slice none 0 0] 25) = wa at *
  have p0 : wa.cell? ⟨ab, ao, none⟩ = some (.string p) := (HA.out.cell (p := ⟨ab, ao, none⟩) hab).trans hp0.out
  obtain ⟨c0, c1, c2, c3, c4⟩ := HX.out.cells5
  clear hp
  have hl : w.heap.size < wa.heap.size := by omega
  have hab2 : ab ≠ wa.heap.size := by omega
  have hxz : w.heap.size ≠ wa.heap.size := by omega
  have hos : OS w w.heap.size ab ao (.int .i64 7) (.int .i64 num) (.string t) (.slice A1 ks.length ck) (.slice A2 ns.length cc) (.string p) wa := ⟨c0, c1, c2, c3, c4, p0, HA.out⟩
  have HS0 : Hid (wa.drew.cell? ⟨w.heap.size, 0, none⟩ = some (.int .i64 7) ∧ wa.drew.cell? ⟨w.heap.size, 1, none⟩ = some (.int .i64 num) ∧ wa.drew.cell? ⟨w.heap.size, 2, none⟩ = some (.string t) ∧ wa.drew.cell? ⟨w.heap.size, 3, none⟩ = some (.slice A1 ks.length ck) ∧ wa.drew.cell? ⟨w.heap.size, 4, none⟩ = some (.slice A2 ns.length cc) ∧ wa.drew.cell? ⟨ab, ao, none⟩ = some (.string p) ∧ Below w.heap.size w wa.drew) := hos.drew
  have HSB0 : Hid ((wa.drew.alloc (.cells #[.int .i64 0, .int .i64 0, .string ⟨#[]⟩, .slice none 0 0, .slice none 0 0] 25)).cell? ⟨w.heap.size, 0, none⟩ = some (.int .i64 7) ∧ (wa.drew.alloc (.cells #[.int .i64 0, .int .i64 0, .string ⟨#[]⟩, .slice none 0 0, .slice none 0 0] 25)).cell? ⟨w.heap.size, 1, none⟩ = some (.int .i64 num) ∧ (wa.drew.alloc (.cells #[.int .i64 0, .int .i64 0, .string ⟨#[]⟩, .slice none 0 0, .slice none 0 0] 25)).cell? ⟨w.heap.size, 2, none⟩ = some (.string t) ∧ (wa.drew.alloc (.cells #[.int .i64 0, .int .i64 0, .string ⟨#[]⟩, .slice none 0 0, .slice none 0 0] 25)).cell? ⟨w.heap.size, 3, none⟩ = some (.slice A1 ks.length ck) ∧ (wa.drew.alloc (.cells #[.int .i64 0, .int .i64 0, .string ⟨#[]⟩, .slice none 0 0, .slice none 0 0] 25)).cell? ⟨w.heap.size, 4, none⟩ = some (.slice A2 ns.length cc) ∧ (wa.drew.alloc (.cells #[.int .i64 0, .int .i64 0, .string ⟨#[]⟩, .slice none 0 0, .slice none 0 0] 25)).cell? ⟨ab, ao, none⟩ = some (.string p) ∧ Below w.heap.size w (wa.drew.alloc (.cells #[.int .i64 0, .int .i64 0, .string ⟨#[]⟩, .slice none 0 0, .slice none 0 0] 25))) := hos.drew.alloc _
  have HSB1 : Hid ((wa.alloc (.cells #[.int .i64 0, .int .i64 0, .string ⟨#[]⟩, .slice none 0 0, .slice none 0 0] 25)).drew.cell? ⟨w.heap.size, 0, none⟩ = some (.int .i64 7) ∧ (wa.alloc (.cells #[.int .i64 0, .int .i64 0, .string ⟨#[]⟩, .slice none 0 0, .slice none 0 0] 25)).drew.cell? ⟨w.heap.size, 1, none⟩ = some (.int .i64 num) ∧ (wa.alloc (.cells #[.int .i64 0, .int .i64 0, .string ⟨#[]⟩, .slice none 0 0, .slice none 0 0] 25)).drew.cell? ⟨w.heap.size, 2, none⟩ = some (.string t) ∧ (wa.alloc (.cells #[.int .i64 0, .int .i64 0, .string ⟨#[]⟩, .slice none 0 0, .slice none 0 0] 25)).drew.cell? ⟨w.heap.size, 3, none⟩ = some (.slice A1 ks.length ck) ∧ (wa.alloc (.cells #[.int .i64 0, .int .i64 0, .string ⟨#[]⟩, .slice none 0 0, .slice none 0 0] 25)).drew.cell? ⟨w.heap.size, 4, none⟩ = some (.slice A2 ns.length cc) ∧ (wa.alloc (.cells #[.int .i64 0, .int .i64 0, .string ⟨#[]⟩, .slice none 0 0, .slice none 0 0] 25)).drew.cell? ⟨ab, ao, none⟩ = some (.string p) ∧ Below w.heap.size w (wa.alloc (.cells #[.int .i64 0, .int .i64 0, .string ⟨#[]⟩, .slice none 0 0, .slice none 0 0] 25)).drew) := (hos.alloc _).drew
  have HZB : Hid (Blk (wa.alloc (.cells #[.int .i64 0, .int .i64 0, .string ⟨#[]⟩, .slice none 0 0, .slice none 0 0] 25)).drew wa.heap.size 25 #[.int .i64 0, .int .i64 0, .string ⟨#[]⟩, .slice none 0 0, .slice none 0 0]) := (Blk.new wa _ _).drew
  clear hos
  go_upto_region 4 with fail
  go_cut [6, 7] (fun t6 t7 wx => ∃ (zb : Nat) (y0 y1 : Int) (y2 : ByteArray) (y3 : Option Addr) (y4 y5 : Nat) (y6 : Option Addr) (y7 y8 : Nat), t6 = .pointer (some ⟨zb, 0, none⟩) ∧ t7 = .bool F.isSome ∧ Hid (Blk wx zb 25 #[.int .i64 y0, .int .i64 y1, .string y2, .slice y3 y4 y5, .slice y6 y7 y8]) ∧ Hid (NdIn wx (fun b => w.heap.size + 2 ≤ b ∧ b < wx.heap.size ∧ b ≠ zb) (F.getD (nd0 0)) [.int .i64 y0, .int .i64 y1, .string y2, .slice y3 y4 y5, .slice y6 y7 y8]) ∧ Hid (Blk wx (w.heap.size + 1) 25 #[.int .i64 0, .int .i64 0, .string ⟨#[]⟩, .slice none 0 0, .slice none 0 0]) ∧ Hid (Below w.heap.size w wx) ∧ w.heap.size + 2 ≤ zb)
  case first =>
    go_region_held3 (fun w' => w'.cell? ⟨w.heap.size, 0, none⟩ = some (.int .i64 7) ∧ w'.cell? ⟨w.heap.size, 1, none⟩ = some (.int .i64 num) ∧ w'.cell? ⟨w.heap.size, 2, none⟩ = some (.string t) ∧ w'.cell? ⟨w.heap.size, 3, none⟩ = some (.slice A1 ks.length ck) ∧ w'.cell? ⟨w.heap.size, 4, none⟩ = some (.slice A2 ns.length cc) ∧ w'.cell? ⟨ab, ao, none⟩ = some (.string p) ∧ Below w.heap.size w w') (first | with_reducible exact HS0.out | with_reducible exact HSB0.out | with_reducible exact HSB1.out | with_reducible exact HS5.out | with_reducible exact HS5a.out | with_reducible exact HS5b.out) (first
      | (go_at_call 35; (with_reducible refine (HFC.out wa.drew HA.out.drew).mono ?_); rintro e w5 ⟨y0, y1, y2, y3, y4, y5, y6, y7, y8, rfl, hn5, hb5⟩; have HN5 := Lib.hid hn5; have HB5 := Lib.hid hb5; clear hn5 hb5; have HS5 : Hid (w5.cell? ⟨w.heap.size, 0, none⟩ = some (.int .i64 7) ∧ w5.cell? ⟨w.heap.size, 1, none⟩ = some (.int .i64 num) ∧ w5.cell? ⟨w.heap.size, 2, none⟩ = some (.string t) ∧ w5.cell? ⟨w.heap.size, 3, none⟩ = some (.slice A1 ks.length ck) ∧ w5.cell? ⟨w.heap.size, 4, none⟩ = some (.slice A2 ns.length cc) ∧ w5.cell? ⟨ab, ao, none⟩ = some (.string p) ∧ Below w.heap.size w w5) := OS.below HS0.out HB5.out; have HS5a : Hid ((w5.alloc (.cells #[.int .i64 0, .int .i64 0, .string ⟨#[]⟩, .slice none 0 0, .slice none 0 0] 25)).cell? ⟨w.heap.size, 0, none⟩ = some (.int .i64 7) ∧ (w5.alloc (.cells #[.int .i64 0, .int .i64 0, .string ⟨#[]⟩, .slice none 0 0, .slice none 0 0] 25)).cell? ⟨w.heap.size, 1, none⟩ = some (.int .i64 num) ∧ (w5.alloc (.cells #[.int .i64 0, .int .i64 0, .string ⟨#[]⟩, .slice none 0 0, .slice none 0 0] 25)).cell? ⟨w.heap.size, 2, none⟩ = some (.string t) ∧ (w5.alloc (.cells #[.int .i64 0, .int .i64 0, .string ⟨#[]⟩, .slice none 0 0, .slice none 0 0] 25)).cell? ⟨w.heap.size, 3, none⟩ = some (.slice A1 ks.length ck) ∧ (w5.alloc (.cells #[.int .i64 0, .int .i64 0, .string ⟨#[]⟩, .slice none 0 0, .slice none 0 0] 25)).cell? ⟨w.heap.size, 4, none⟩ = some (.slice A2 ns.length cc) ∧ (w5.alloc (.cells #[.int .i64 0, .int .i64 0, .string ⟨#[]⟩, .slice none 0 0, .slice none 0 0] 25)).cell? ⟨ab, ao, none⟩ = some (.string p) ∧ Below w.heap.size w (w5.alloc (.cells #[.int .i64 0, .int .i64 0, .string ⟨#[]⟩, .slice none 0 0, .slice none 0 0] 25))) := OS.alloc (OS.below HS0.out HB5.out) _; have HS5b : Hid ((w5.alloc (.cells #[.int .i64 y0, .int .i64 y1, .string y2, .slice y3 y4 y5, .slice y6 y7 y8] 25)).cell? ⟨w.heap.size, 0, none⟩ = some (.int .i64 7) ∧ (w5.alloc (.cells #[.int .i64 y0, .int .i64 y1, .string y2, .slice y3 y4 y5, .slice y6 y7 y8] 25)).cell? ⟨w.heap.size, 1, none⟩ = some (.int .i64 num) ∧ (w5.alloc (.cells #[.int .i64 y0, .int .i64 y1, .string y2, .slice y3 y4 y5, .slice y6 y7 y8] 25)).cell? ⟨w.heap.size, 2, none⟩ = some (.string t) ∧ (w5.alloc (.cells #[.int .i64 y0, .int .i64 y1, .string y2, .slice y3 y4 y5, .slice y6 y7 y8] 25)).cell? ⟨w.heap.size, 3, none⟩ = some (.slice A1 ks.length ck) ∧ (w5.alloc (.cells #[.int .i64 y0, .int .i64 y1, .string y2, .slice y3 y4 y5, .slice y6 y7 y8] 25)).cell? ⟨w.heap.size, 4, none⟩ = some (.slice A2 ns.length cc) ∧ (w5.alloc (.cells #[.int .i64 y0, .int .i64 y1, .string y2, .slice y3 y4 y5, .slice y6 y7 y8] 25)).cell? ⟨ab, ao, none⟩ = some (.string p) ∧ Below w.heap.size w (w5.alloc (.cells #[.int .i64 y0, .int .i64 y1, .string y2, .slice y3 y4 y5, .slice y6 y7 y8] 25))) := OS.alloc (OS.below HS0.out HB5.out) _)
      | (go_at_call 35; (with_reducible refine (HFC.out (wa.alloc (.cells #[.int .i64 0, .int .i64 0, .string ⟨#[]⟩, .slice none 0 0, .slice none 0 0] 25)).drew HSB1.out.2.2.2.2.2.2).mono ?_); rintro e w5 ⟨y0, y1, y2, y3, y4, y5, y6, y7, y8, rfl, hn5, hb5⟩; have HN5 := Lib.hid hn5; have HB5 := Lib.hid hb5; clear hn5 hb5; have HS5 : Hid (w5.cell? ⟨w.heap.size, 0, none⟩ = some (.int .i64 7) ∧ w5.cell? ⟨w.heap.size, 1, none⟩ = some (.int .i64 num) ∧ w5.cell? ⟨w.heap.size, 2, none⟩ = some (.string t) ∧ w5.cell? ⟨w.heap.size, 3, none⟩ = some (.slice A1 ks.length ck) ∧ w5.cell? ⟨w.heap.size, 4, none⟩ = some (.slice A2 ns.length cc) ∧ w5.cell? ⟨ab, ao, none⟩ = some (.string p) ∧ Below w.heap.size w w5) := OS.below HSB1.out HB5.out; have HZ5 := Lib.hid (HZB.out.below HB5.out HZB.out.lt); obtain ⟨d0, d1, d2, d3, d4⟩ := HZ5.out.cells5; have f0 := HZ5.out.frozen 0; have f1 := HZ5.out.frozen 1; have f2 := HZ5.out.frozen 2; have f3 := HZ5.out.frozen 3; have f4 := HZ5.out.frozen 4; have HS5b : Hid ((((((w5.setCell ⟨wa.heap.size, 0, none⟩ (.int .i64 y0)).setCell ⟨wa.heap.size, 1, none⟩ (.int .i64 y1)).setCell ⟨wa.heap.size, 2, none⟩ (.string y2)).setCell ⟨wa.heap.size, 3, none⟩ (.slice y3 y4 y5)).setCell ⟨wa.heap.size, 4, none⟩ (.slice y6 y7 y8)).cell? ⟨w.heap.size, 0, none⟩ = some (.int .i64 7) ∧ (((((w5.setCell ⟨wa.heap.size, 0, none⟩ (.int .i64 y0)).setCell ⟨wa.heap.size, 1, none⟩ (.int .i64 y1)).setCell ⟨wa.heap.size, 2, none⟩ (.string y2)).setCell ⟨wa.heap.size, 3, none⟩ (.slice y3 y4 y5)).setCell ⟨wa.heap.size, 4, none⟩ (.slice y6 y7 y8)).cell? ⟨w.heap.size, 1, none⟩ = some (.int .i64 num) ∧ (((((w5.setCell ⟨wa.heap.size, 0, none⟩ (.int .i64 y0)).setCell ⟨wa.heap.size, 1, none⟩ (.int .i64 y1)).setCell ⟨wa.heap.size, 2, none⟩ (.string y2)).setCell ⟨wa.heap.size, 3, none⟩ (.slice y3 y4 y5)).setCell ⟨wa.heap.size, 4, none⟩ (.slice y6 y7 y8)).cell? ⟨w.heap.size, 2, none⟩ = some (.string t) ∧ (((((w5.setCell ⟨wa.heap.size, 0, none⟩ (.int .i64 y0)).setCell ⟨wa.heap.size, 1, none⟩ (.int .i64 y1)).setCell ⟨wa.heap.size, 2, none⟩ (.string y2)).setCell ⟨wa.heap.size, 3, none⟩ (.slice y3 y4 y5)).setCell ⟨wa.heap.size, 4, none⟩ (.slice y6 y7 y8)).cell? ⟨w.heap.size, 3, none⟩ = some (.slice A1 ks.length ck) ∧ (((((w5.setCell ⟨wa.heap.size, 0, none⟩ (.int .i64 y0)).setCell ⟨wa.heap.size, 1, none⟩ (.int .i64 y1)).setCell ⟨wa.heap.size, 2, none⟩ (.string y2)).setCell ⟨wa.heap.size, 3, none⟩ (.slice y3 y4 y5)).setCell ⟨wa.heap.size, 4, none⟩ (.slice y6 y7 y8)).cell? ⟨w.heap.size, 4, none⟩ = some (.slice A2 ns.length cc) ∧ (((((w5.setCell ⟨wa.heap.size, 0, none⟩ (.int .i64 y0)).setCell ⟨wa.heap.size, 1, none⟩ (.int .i64 y1)).setCell ⟨wa.heap.size, 2, none⟩ (.string y2)).setCell ⟨wa.heap.size, 3, none⟩ (.slice y3 y4 y5)).setCell ⟨wa.heap.size, 4, none⟩ (.slice y6 y7 y8)).cell? ⟨ab, ao, none⟩ = some (.string p) ∧ Below w.heap.size w (((((w5.setCell ⟨wa.heap.size, 0, none⟩ (.int .i64 y0)).setCell ⟨wa.heap.size, 1, none⟩ (.int .i64 y1)).setCell ⟨wa.heap.size, 2, none⟩ (.string y2)).setCell ⟨wa.heap.size, 3, none⟩ (.slice y3 y4 y5)).setCell ⟨wa.heap.size, 4, none⟩ (.slice y6 y7 y8))) := OS.set5 (OS.below HSB1.out HB5.out) (by omega) hxz hab2))
    · go_wp2_with fail
      go_meet
      have hz5 : wa.heap.size ≤ w5.heap.size := HB5.out.size
      refine ⟨w5.heap.size, y0, y1, y2, y3, y4, y5, y6, y7, y8, rfl, rfl, Blk.new w5 _ _, ?_, ((HY.out.drew.below HB5.out HY.out.drew.lt).alloc _ : Blk _ _ _ _), HS5b.out.2.2.2.2.2.2, by omega⟩
      exact NdIn.keep (fun q hq => World.cell?_alloc_lt _ _ _ hq.2) (fun b hb => by
        have h1 : wa.heap.size ≤ b := hb.1
        have h2 : b < w5.heap.size := hb.2
        exact ⟨by omega, by simp; omega, by omega⟩) _ _ HN5.out
    · go_wp2_with fail
      go_meet
      have hz5 : (wa.alloc (.cells #[.int .i64 0, .int .i64 0, .string ⟨#[]⟩, .slice none 0 0, .slice none 0 0] 25)).drew.heap.size ≤ w5.heap.size := HB5.out.size
      have hz6 : (wa.alloc (.cells #[.int .i64 0, .int .i64 0, .string ⟨#[]⟩, .slice none 0 0, .slice none 0 0] 25)).drew.heap.size = wa.heap.size + 1 := by show (wa.alloc (.cells #[.int .i64 0, .int .i64 0, .string ⟨#[]⟩, .slice none 0 0, .slice none 0 0] 25)).heap.size = _; simp
      refine ⟨wa.heap.size, y0, y1, y2, y3, y4, y5, y6, y7, y8, rfl, rfl, (set5_blk HZ5.out : Blk _ _ _ _), ?_, (set5_far ((HY.out.alloc _).drew.below HB5.out (HY.out.alloc _).drew.lt) (by omega) : Blk _ _ _ _), HS5b.out.2.2.2.2.2.2, by omega⟩
      exact set5_in HN5.out (fun b hb => by
        have h1 : (wa.alloc (.cells #[.int .i64 0, .int .i64 0, .string ⟨#[]⟩, .slice none 0 0, .slice none 0 0] 25)).drew.heap.size ≤ b := hb.1
        omega) (fun b hb => by
        have h1 : (wa.alloc (.cells #[.int .i64 0, .int .i64 0, .string ⟨#[]⟩, .slice none 0 0, .slice none 0 0] 25)).drew.heap.size ≤ b := hb.1
        have h2 : b < w5.heap.size := hb.2
        exact ⟨by omega, by show b < (set5 w5 wa.heap.size _ _ _ _ _).heap.size; rw [set5_size]; exact h2, by omega⟩)
  case rest =>
    obtain ⟨zb, y0, y1, y2, y3, y4, y5, y6, y7, y8, rfl, rfl, hzb, hn5, hyb, hbb, hz2⟩ := hcut
    obtain ⟨d0, d1, d2, d3, d4⟩ := hyb.out.cells5
    have f0 := hyb.out.frozen 0
    have f1 := hyb.out.frozen 1
    have f2 := hyb.out.frozen 2
    have f3 := hyb.out.frozen 3
    have f4 := hyb.out.frozen 4
    clear HFC HS0 HSB0 HSB1 HZB HX HY HA c0 c1 c2 c3 c4 p0 hl hab2 hxz
    cases F with
    | none =>
      go_wp2_with fail
      clear d0 d1 d2 d3 d4 f0 f1 f2 f3 f4
      have F := get_fin (r := none) (S := S) (S2 := (fun _ => False)) (w := w) (w2 := wc) (y := w.heap.size + 1) (by omega) hbb.out hyb.out (nd0_in 0 (by unfold I64; omega) _ _) (fun b hb => hb.elim)
      unfold set5 at F
      generalize (((((wc).setCell ⟨w.heap.size + 1, 0, none⟩ (.int .i64 0)).setCell ⟨w.heap.size + 1, 1, none⟩ (.int .i64 0)).setCell ⟨w.heap.size + 1, 2, none⟩ (.string ⟨#[]⟩)).setCell ⟨w.heap.size + 1, 3, none⟩ (.slice none 0 0)).setCell ⟨w.heap.size + 1, 4, none⟩ (.slice none 0 0) = WF at *
      obtain ⟨F1, F2⟩ := F
      obtain ⟨q0, q1, q2, q3, q4⟩ := F1.cells5
      refine bodyPost_ret (v := .tuple #[.agg #[.int .i64 0, .int .i64 0, .string ⟨#[]⟩, .slice none 0 0, .slice none 0 0], .bool false]) (by simp [results, Tryd.results34, go_sem, q0, q1, q2, q3, q4]) rfl ?_
      rw [HG.out none (fun m h => by cases h) (fun _ => rfl)]
      exact F2
    | some m =>
      have HM := Lib.hid (HKF.out m HF.out.symm)
      have hn7 : NdIn wc (fun b => w.heap.size + 2 ≤ b ∧ b < wc.heap.size ∧ b ≠ zb) m [.int .i64 y0, .int .i64 y1, .string y2, .slice y3 y4 y5, .slice y6 y7 y8] := hn5.out
      have HN7 : Hid (NdIn wc.drew (fun b => w.heap.size + 2 ≤ b ∧ b < wc.heap.size ∧ b ≠ zb) m [.int .i64 y0, .int .i64 y1, .string y2, .slice y3 y4 y5, .slice y6 y7 y8]) := NdIn.keep (w := wc) (w' := wc.drew) (fun _ _ => rfl) (fun _ h => h) m _ hn7
      clear hn7
      have HIH : Hid (Calls Tryd.prog 34 #[.agg #[.int .i64 y0, .int .i64 y1, .string y2, .slice y3 y4 y5, .slice y6 y7 y8], .slice (some ⟨ab, ao, none⟩) 0 0] wc.drew (GetP (getN [] m) (fun b => w.heap.size + 2 ≤ b ∧ b < wc.heap.size ∧ b ≠ zb) wc.drew)) :=
        IH m [.int .i64 y0, .int .i64 y1, .string y2, .slice y3 y4 y5, .slice y6 y7 y8] wc.drew (fun b => w.heap.size + 2 ≤ b ∧ b < wc.heap.size ∧ b ≠ zb) _ 0 HN7.out (fun b hb => hb.2.1) ((HR.out.keep fun q hq => hbb.out.cell hq).more hbb.out.size) (Nat.le_refl _) (by unfold maxLen at *; omega) HM.out.1 HM.out.2
      have HG2 : Hid (getN (p :: []) (.mk 7 num t ks ns) = getN [] m) := HG.out _ (fun m' h => by injection h with h; rw [h]) (fun h => by cases h)
      have hzc : zb < wc.heap.size := hzb.out.lt
      have hzy : zb ≠ w.heap.size + 1 := by omega
      obtain ⟨c0, c1, c2, c3, c4⟩ := hzb.out.cells5
      have HS0 : Hid (wc.drew.cell? ⟨zb, 0, none⟩ = some (.int .i64 y0) ∧ wc.drew.cell? ⟨zb, 1, none⟩ = some (.int .i64 y1) ∧ wc.drew.cell? ⟨zb, 2, none⟩ = some (.string y2) ∧ wc.drew.cell? ⟨zb, 3, none⟩ = some (.slice y3 y4 y5) ∧ wc.drew.cell? ⟨zb, 4, none⟩ = some (.slice y6 y7 y8)) := ⟨c0, c1, c2, c3, c4⟩
      skip
      have hyc : w.heap.size + 1 < wc.heap.size := hyb.out.lt
      clear HF HKF HG hn5
      go_wp2_with fail
      go_region_held3 (fun w' => w'.cell? ⟨zb, 0, none⟩ = some (.int .i64 y0) ∧ w'.cell? ⟨zb, 1, none⟩ = some (.int .i64 y1) ∧ w'.cell? ⟨zb, 2, none⟩ = some (.string y2) ∧ w'.cell? ⟨zb, 3, none⟩ = some (.slice y3 y4 y5) ∧ w'.cell? ⟨zb, 4, none⟩ = some (.slice y6 y7 y8)) (first | with_reducible exact HS0.out | with_reducible exact HS5.out | with_reducible exact HSF.out) (first
        | (go_at_call 34; (with_reducible refine (HIH.out : Calls _ _ _ _ _).mono ?_); rintro e w5 ⟨g0, g1, g2, g3, g4, g5, g6, g7, g8, rfl, hn6, hb6⟩; have HN6 := Lib.hid hn6; have HB6 := Lib.hid hb6; clear hn6 hb6; have HS5 : Hid (w5.cell? ⟨zb, 0, none⟩ = some (.int .i64 y0) ∧ w5.cell? ⟨zb, 1, none⟩ = some (.int .i64 y1) ∧ w5.cell? ⟨zb, 2, none⟩ = some (.string y2) ∧ w5.cell? ⟨zb, 3, none⟩ = some (.slice y3 y4 y5) ∧ w5.cell? ⟨zb, 4, none⟩ = some (.slice y6 y7 y8)) := (hzb.out.drew.below HB6.out hzb.out.drew.lt).cells5; have HSF : Hid ((((((w5.setCell ⟨w.heap.size + 1, 0, none⟩ (.int .i64 g0)).setCell ⟨w.heap.size + 1, 1, none⟩ (.int .i64 g1)).setCell ⟨w.heap.size + 1, 2, none⟩ (.string g2)).setCell ⟨w.heap.size + 1, 3, none⟩ (.slice g3 g4 g5)).setCell ⟨w.heap.size + 1, 4, none⟩ (.slice g6 g7 g8)).cell? ⟨zb, 0, none⟩ = some (.int .i64 y0) ∧ (((((w5.setCell ⟨w.heap.size + 1, 0, none⟩ (.int .i64 g0)).setCell ⟨w.heap.size + 1, 1, none⟩ (.int .i64 g1)).setCell ⟨w.heap.size + 1, 2, none⟩ (.string g2)).setCell ⟨w.heap.size + 1, 3, none⟩ (.slice g3 g4 g5)).setCell ⟨w.heap.size + 1, 4, none⟩ (.slice g6 g7 g8)).cell? ⟨zb, 1, none⟩ = some (.int .i64 y1) ∧ (((((w5.setCell ⟨w.heap.size + 1, 0, none⟩ (.int .i64 g0)).setCell ⟨w.heap.size + 1, 1, none⟩ (.int .i64 g1)).setCell ⟨w.heap.size + 1, 2, none⟩ (.string g2)).setCell ⟨w.heap.size + 1, 3, none⟩ (.slice g3 g4 g5)).setCell ⟨w.heap.size + 1, 4, none⟩ (.slice g6 g7 g8)).cell? ⟨zb, 2, none⟩ = some (.string y2) ∧ (((((w5.setCell ⟨w.heap.size + 1, 0, none⟩ (.int .i64 g0)).setCell ⟨w.heap.size + 1, 1, none⟩ (.int .i64 g1)).setCell ⟨w.heap.size + 1, 2, none⟩ (.string g2)).setCell ⟨w.heap.size + 1, 3, none⟩ (.slice g3 g4 g5)).setCell ⟨w.heap.size + 1, 4, none⟩ (.slice g6 g7 g8)).cell? ⟨zb, 3, none⟩ = some (.slice y3 y4 y5) ∧ (((((w5.setCell ⟨w.heap.size + 1, 0, none⟩ (.int .i64 g0)).setCell ⟨w.heap.size + 1, 1, none⟩ (.int .i64 g1)).setCell ⟨w.heap.size + 1, 2, none⟩ (.string g2)).setCell ⟨w.heap.size + 1, 3, none⟩ (.slice g3 g4 g5)).setCell ⟨w.heap.size + 1, 4, none⟩ (.slice g6 g7 g8)).cell? ⟨zb, 4, none⟩ = some (.slice y6 y7 y8)) := (set5_far (hzb.out.drew.below HB6.out hzb.out.drew.lt) hzy).cells5; have HY6 := Lib.hid (hyb.out.drew.below HB6.out hyb.out.drew.lt); obtain ⟨d0, d1, d2, d3, d4⟩ := HY6.out.cells5; have f0 := HY6.out.frozen 0; have f1 := HY6.out.frozen 1; have f2 := HY6.out.frozen 2; have f3 := HY6.out.frozen 3; have f4 := HY6.out.frozen 4))
      have hz6 : wc.heap.size ≤ w5.heap.size := HB6.out.size
      go_wp2_with fail
      clear d0 d1 d2 d3 d4 f0 f1 f2 f3 f4
      have F := get_fin (r := getN [] m) (S := S) (S2 := (fun b => (w.heap.size + 2 ≤ b ∧ b < wc.heap.size ∧ b ≠ zb) ∨ Since wc.drew w5 b)) (w := w) (w2 := w5) (y := w.heap.size + 1) (by omega) (hbb.out.drew.trans (HB6.out.mono hbb.out.size)) HY6.out HN6.out (fun b hb => by
          rcases hb with hb | hb
          · exact ⟨.inr ⟨by omega, by omega⟩, by omega⟩
          · have h1 : wc.heap.size ≤ b := hb.1
            exact ⟨.inr ⟨by omega, hb.2⟩, by omega⟩)
      unfold set5 at F
      generalize (((((w5).setCell ⟨w.heap.size + 1, 0, none⟩ (.int .i64 g0)).setCell ⟨w.heap.size + 1, 1, none⟩ (.int .i64 g1)).setCell ⟨w.heap.size + 1, 2, none⟩ (.string g2)).setCell ⟨w.heap.size + 1, 3, none⟩ (.slice g3 g4 g5)).setCell ⟨w.heap.size + 1, 4, none⟩ (.slice g6 g7 g8) = WF at *
      obtain ⟨F1, F2⟩ := F
      obtain ⟨q0, q1, q2, q3, q4⟩ := F1.cells5
      refine bodyPost_ret (v := .tuple #[.agg #[.int .i64 g0, .int .i64 g1, .string g2, .slice g3 g4 g5, .slice g6 g7 g8], .bool (getN [] m).isSome]) (by simp [results, Tryd.results34, go_sem, q0, q1, q2, q3, q4]) rfl ?_
      rw [HG2.out]; exact F2
set_option maxHeartbeats 4000000 in
theorem get_obj2 (p : ByteArray) (l : List ByteArray) (c : Nat) (hc1 : ¬ c = 1) (hl : l.length + 1 ≤ c) (IH : GetOK l) (n : Nd) (h7 : n.kind = 7) : GetStep p l n (l.length + 1) c (fun ab ao => some ⟨ab, ao + 1, none⟩) := by
  intro hpz cs w S ab ao hn hS hab hp hr hc hs hct
  have hn0 := Lib.hid (NdIn.is hS _ _ hn)
  have hs0 := Lib.hid hs
  have HKF : Hid (∀ m : Nd, findN n p = some m → sizeOk m ∧ m.count ≤ 1000000) := fun m hm => by
    obtain ⟨i, hi⟩ := findN_kid hm
    have := kid_ok hi hs
    exact ⟨this.1, by omega⟩
  obtain ⟨F, hF⟩ : ∃ F, F = findN n p := ⟨_, rfl⟩
  have HG : Hid (∀ r, (∀ m, F = some m → getN l m = r) → (F = none → r = none) → getN (p :: l) n = r) := fun r h1 h2 => by
    rw [getN, if_pos h7, ← hF]
    cases F with
    | none => exact (h2 rfl).symm
    | some m => exact h1 m rfl
  have HF := Lib.hid hF
  cases n with
  | mk k num t ks ns =>
  unfold NdIn at hn
  obtain ⟨A1, ck, A2, cc, xs, rfl, hks, hxs, hns, ik, inn, ht, hkl, hkm, hmm⟩ := hn
  simp only [Nd.kind] at h7
  subst h7
  have HFC : Hid (∀ w', Below w.heap.size w w' → Calls Tryd.prog 35 #[.agg #[.int .i64 7, .int .i64 num, .string t, .slice A1 ks.length ck, .slice A2 ns.length cc], .string p] w' (FindP F w')) := fun w' h' => by
    rw [HF.out]
    exact cFind_any _ p _ w' w.heap.size (hn0.out.below h') h'.size hs0.out
  have HS := Lib.hid hS
  have HR := Lib.hid hr
  clear hS hks hxs hns hkl hr hs hF hn0 hs0 inn ht hkm hmm hct ik
  have hp0 := Lib.hid hp
  show Calls Tryd.prog 34 #[.agg #[.int .i64 7, .int .i64 num, .string t, .slice A1 ks.length ck, .slice A2 ns.length cc], .slice (some ⟨ab, ao, none⟩) (l.length + 1) c] w _
  have hA : Below w.heap.size w ((w.alloc (.cells #[.int .i64 7, .int .i64 num, .string t, .slice A1 ks.length ck, .slice A2 ns.length cc] 25)).alloc (.cells #[.int .i64 0, .int .i64 0, .string ⟨#[]⟩, .slice none 0 0, .slice none 0 0] 25)) := ((Below.refl _ _).alloc (Nat.le_refl _) _).alloc (by simp) _
  have hX : Blk ((w.alloc (.cells #[.int .i64 7, .int .i64 num, .string t, .slice A1 ks.length ck, .slice A2 ns.length cc] 25)).alloc (.cells #[.int .i64 0, .int .i64 0, .string ⟨#[]⟩, .slice none 0 0, .slice none 0 0] 25)) w.heap.size 25 #[.int .i64 7, .int .i64 num, .string t, .slice A1 ks.length ck, .slice A2 ns.length cc] := (Blk.new w _ _).alloc _
  have hY : Blk ((w.alloc (.cells #[.int .i64 7, .int .i64 num, .string t, .slice A1 ks.length ck, .slice A2 ns.length cc] 25)).alloc (.cells #[.int .i64 0, .int .i64 0, .string ⟨#[]⟩, .slice none 0 0, .slice none 0 0] 25)) (w.heap.size + 1) 25 #[.int .i64 0, .int .i64 0, .string ⟨#[]⟩, .slice none 0 0, .slice none 0 0] := by
    have := Blk.new (w.alloc (.cells #[.int .i64 7, .int .i64 num, .string t, .slice A1 ks.length ck, .slice A2 ns.length cc] 25)) 25 #[.int .i64 0, .int .i64 0, .string ⟨#[]⟩, .slice none 0 0, .slice none 0 0]
    simpa using this
  have hZ : w.heap.size + 2 = ((w.alloc (.cells #[.int .i64 7, .int .i64 num, .string t, .slice A1 ks.length ck, .slice A2 ns.length cc] 25)).alloc (.cells #[.int .i64 0, .int .i64 0, .string ⟨#[]⟩, .slice none 0 0, .slice none 0 0] 25)).heap.size := by simp
  have HA := Lib.hid hA
  have HX := Lib.hid hX
  have HY := Lib.hid hY
  clear hA hX hY
  go_enter Tryd.func34, Tryd.ntmps34
  go_upto_region 1 with fail
  generalize (w.alloc (.cells #[.int .i64 7, .int .i64 num, .string t, .slice A1 ks.length ck, .slice A2 ns.length cc] 25)).alloc (.cells #[.int .i64 0, .int .i64 0, .string ⟨#[]⟩, .slice none 0 0, .slice none 0 0] 25) = wa at *
  have p0 : wa.cell? ⟨ab, ao, none⟩ = some (.string p) := (HA.out.cell (p := ⟨ab, ao, none⟩) hab).trans hp0.out
  obtain ⟨c0, c1, c2, c3, c4⟩ := HX.out.cells5
  clear hp
  have hl : w.heap.size < wa.heap.size := by omega
  have hab2 : ab ≠ wa.heap.size := by omega
  have hxz : w.heap.size ≠ wa.heap.size := by omega
  have hos : OS w w.heap.size ab ao (.int .i64 7) (.int .i64 num) (.string t) (.slice A1 ks.length ck) (.slice A2 ns.length cc) (.string p) wa := ⟨c0, c1, c2, c3, c4, p0, HA.out⟩
  have HS0 : Hid (wa.drew.cell? ⟨w.heap.size, 0, none⟩ = some (.int .i64 7) ∧ wa.drew.cell? ⟨w.heap.size, 1, none⟩ = some (.int .i64 num) ∧ wa.drew.cell? ⟨w.heap.size, 2, none⟩ = some (.string t) ∧ wa.drew.cell? ⟨w.heap.size, 3, none⟩ = some (.slice A1 ks.length ck) ∧ wa.drew.cell? ⟨w.heap.size, 4, none⟩ = some (.slice A2 ns.length cc) ∧ wa.drew.cell? ⟨ab, ao, none⟩ = some (.string p) ∧ Below w.heap.size w wa.drew) := hos.drew
  have HSB0 : Hid ((wa.drew.alloc (.cells #[.int .i64 0, .int .i64 0, .string ⟨#[]⟩, .slice none 0 0, .slice none 0 0] 25)).cell? ⟨w.heap.size, 0, none⟩ = some (.int .i64 7) ∧ (wa.drew.alloc (.cells #[.int .i64 0, .int .i64 0, .string ⟨#[]⟩, .slice none 0 0, .slice none 0 0] 25)).cell? ⟨w.heap.size, 1, none⟩ = some (.int .i64 num) ∧ (wa.drew.alloc (.cells #[.int .i64 0, .int .i64 0, .string ⟨#[]⟩, .slice none 0 0, .slice none 0 0] 25)).cell? ⟨w.heap.size, 2, none⟩ = some (.string t) ∧ (wa.drew.alloc (.cells #[.int .i64 0, .int .i64 0, .string ⟨#[]⟩, .slice none 0 0, .slice none 0 0] 25)).cell? ⟨w.heap.size, 3, none⟩ = some (.slice A1 ks.length ck) ∧ (wa.drew.alloc (.cells #[.int .i64 0, .int .i64 0, .string ⟨#[]⟩, .slice none 0 0, .slice none 0 0] 25)).cell? ⟨w.heap.size, 4, none⟩ = some (.slice A2 ns.length cc) ∧ (wa.drew.alloc (.cells #[.int .i64 0, .int .i64 0, .string ⟨#[]⟩, .slice none 0 0, .slice none 0 0] 25)).cell? ⟨ab, ao, none⟩ = some (.string p) ∧ Below w.heap.size w (wa.drew.alloc (.cells #[.int .i64 0, .int .i64 0, .string ⟨#[]⟩, .slice none 0 0, .slice none 0 0] 25))) := hos.drew.alloc _
  have HSB1 : Hid ((wa.alloc (.cells #[.int .i64 0, .int .i64 0, .string ⟨#[]⟩, .slice none 0 0, .slice none 0 0] 25)).drew.cell? ⟨w.heap.size, 0, none⟩ = some (.int .i64 7) ∧ (wa.alloc (.cells #[.int .i64 0, .int .i64 0, .string ⟨#[]⟩, .slice none 0 0, .slice none 0 0] 25)).drew.cell? ⟨w.heap.size, 1, none⟩ = some (.int .i64 num) ∧ (wa.alloc (.cells #[.int .i64 0, .int .i64 0, .string ⟨#[]⟩, .slice none 0 0, .slice none 0 0] 25)).drew.cell? ⟨w.heap.size, 2, none⟩ = some (.string t) ∧ (wa.alloc (.cells #[.int .i64 0, .int .i64 0, .string ⟨#[]⟩, .slice none 0 0, .slice none 0 0] 25)).drew.cell? ⟨w.heap.size, 3, none⟩ = some (.slice A1 ks.length ck) ∧ (wa.alloc (.cells #[.int .i64 0, .int .i64 0, .string ⟨#[]⟩, .slice none 0 0, .slice none 0 0] 25)).drew.cell? ⟨w.heap.size, 4, none⟩ = some (.slice A2 ns.length cc) ∧ (wa.alloc (.cells #[.int .i64 0, .int .i64 0, .string ⟨#[]⟩, .slice none 0 0, .slice none 0 0] 25)).drew.cell? ⟨ab, ao, none⟩ = some (.string p) ∧ Below w.heap.size w (wa.alloc (.cells #[.int .i64 0, .int .i64 0, .string ⟨#[]⟩, .slice none 0 0, .slice none 0 0] 25)).drew) := (hos.alloc _).drew
  have HZB : Hid (Blk (wa.alloc (.cells #[.int .i64 0, .int .i64 0, .string ⟨#[]⟩, .slice none 0 0, .slice none 0 0] 25)).drew wa.heap.size 25 #[.int .i64 0, .int .i64 0, .string ⟨#[]⟩, .slice none 0 0, .slice none 0 0]) := (Blk.new wa _ _).drew
  clear hos
  go_upto_region 4 with fail
  go_cut [6, 7] (fun t6 t7 wx => ∃ (zb : Nat) (y0 y1 : Int) (y2 : ByteArray) (y3 : Option Addr) (y4 y5 : Nat) (y6 : Option Addr) (y7 y8 : Nat), t6 = .pointer (some ⟨zb, 0, none⟩) ∧ t7 = .bool F.isSome ∧ Hid (Blk wx zb 25 #[.int .i64 y0, .int .i64 y1, .string y2, .slice y3 y4 y5, .slice y6 y7 y8]) ∧ Hid (NdIn wx (fun b => w.heap.size + 2 ≤ b ∧ b < wx.heap.size ∧ b ≠ zb) (F.getD (nd0 0)) [.int .i64 y0, .int .i64 y1, .string y2, .slice y3 y4 y5, .slice y6 y7 y8]) ∧ Hid (Blk wx (w.heap.size + 1) 25 #[.int .i64 0, .int .i64 0, .string ⟨#[]⟩, .slice none 0 0, .slice none 0 0]) ∧ Hid (Below w.heap.size w wx) ∧ w.heap.size + 2 ≤ zb)
  case first =>
    go_region_held3 (fun w' => w'.cell? ⟨w.heap.size, 0, none⟩ = some (.int .i64 7) ∧ w'.cell? ⟨w.heap.size, 1, none⟩ = some (.int .i64 num) ∧ w'.cell? ⟨w.heap.size, 2, none⟩ = some (.string t) ∧ w'.cell? ⟨w.heap.size, 3, none⟩ = some (.slice A1 ks.length ck) ∧ w'.cell? ⟨w.heap.size, 4, none⟩ = some (.slice A2 ns.length cc) ∧ w'.cell? ⟨ab, ao, none⟩ = some (.string p) ∧ Below w.heap.size w w') (first | with_reducible exact HS0.out | with_reducible exact HSB0.out | with_reducible exact HSB1.out | with_reducible exact HS5.out | with_reducible exact HS5a.out | with_reducible exact HS5b.out) (first
      | (go_at_call 35; (with_reducible refine (HFC.out wa.drew HA.out.drew).mono ?_); rintro e w5 ⟨y0, y1, y2, y3, y4, y5, y6, y7, y8, rfl, hn5, hb5⟩; have HN5 := Lib.hid hn5; have HB5 := Lib.hid hb5; clear hn5 hb5; have HS5 : Hid (w5.cell? ⟨w.heap.size, 0, none⟩ = some (.int .i64 7) ∧ w5.cell? ⟨w.heap.size, 1, none⟩ = some (.int .i64 num) ∧ w5.cell? ⟨w.heap.size, 2, none⟩ = some (.string t) ∧ w5.cell? ⟨w.heap.size, 3, none⟩ = some (.slice A1 ks.length ck) ∧ w5.cell? ⟨w.heap.size, 4, none⟩ = some (.slice A2 ns.length cc) ∧ w5.cell? ⟨ab, ao, none⟩ = some (.string p) ∧ Below w.heap.size w w5) := OS.below HS0.out HB5.out; have HS5a : Hid ((w5.alloc (.cells #[.int .i64 0, .int .i64 0, .string ⟨#[]⟩, .slice none 0 0, .slice none 0 0] 25)).cell? ⟨w.heap.size, 0, none⟩ = some (.int .i64 7) ∧ (w5.alloc (.cells #[.int .i64 0, .int .i64 0, .string ⟨#[]⟩, .slice none 0 0, .slice none 0 0] 25)).cell? ⟨w.heap.size, 1, none⟩ = some (.int .i64 num) ∧ (w5.alloc (.cells #[.int .i64 0, .int .i64 0, .string ⟨#[]⟩, .slice none 0 0, .slice none 0 0] 25)).cell? ⟨w.heap.size, 2, none⟩ = some (.string t) ∧ (w5.alloc (.cells #[.int .i64 0, .int .i64 0, .string ⟨#[]⟩, .slice none 0 0, .slice none 0 0] 25)).cell? ⟨w.heap.size, 3, none⟩ = some (.slice A1 ks.length ck) ∧ (w5.alloc (.cells #[.int .i64 0, .int .i64 0, .string ⟨#[]⟩, .slice none 0 0, .slice none 0 0] 25)).cell? ⟨w.heap.size, 4, none⟩ = some (.slice A2 ns.length cc) ∧ (w5.alloc (.cells #[.int .i64 0, .int .i64 0, .string ⟨#[]⟩, .slice none 0 0, .slice none 0 0] 25)).cell? ⟨ab, ao, none⟩ = some (.string p) ∧ Below w.heap.size w (w5.alloc (.cells #[.int .i64 0, .int .i64 0, .string ⟨#[]⟩, .slice none 0 0, .slice none 0 0] 25))) := OS.alloc (OS.below HS0.out HB5.out) _; have HS5b : Hid ((w5.alloc (.cells #[.int .i64 y0, .int .i64 y1, .string y2, .slice y3 y4 y5, .slice y6 y7 y8] 25)).cell? ⟨w.heap.size, 0, none⟩ = some (.int .i64 7) ∧ (w5.alloc (.cells #[.int .i64 y0, .int .i64 y1, .string y2, .slice y3 y4 y5, .slice y6 y7 y8] 25)).cell? ⟨w.heap.size, 1, none⟩ = some (.int .i64 num) ∧ (w5.alloc (.cells #[.int .i64 y0, .int .i64 y1, .string y2, .slice y3 y4 y5, .slice y6 y7 y8] 25)).cell? ⟨w.heap.size, 2, none⟩ = some (.string t) ∧ (w5.alloc (.cells #[.int .i64 y0, .int .i64 y1, .string y2, .slice y3 y4 y5, .slice y6 y7 y8] 25)).cell? ⟨w.heap.size, 3, none⟩ = some (.slice A1 ks.length ck) ∧ (w5.alloc (.cells #[.int .i64 y0, .int .i64 y1, .string y2, .slice y3 y4 y5, .slice y6 y7 y8] 25)).cell? ⟨w.heap.size, 4, none⟩ = some (.slice A2 ns.length cc) ∧ (w5.alloc (.cells #[.int .i64 y0, .int .i64 y1, .string y2, .slice y3 y4 y5, .slice y6 y7 y8] 25)).cell? ⟨ab, ao, none⟩ = some (.string p) ∧ Below w.heap.size w (w5.alloc (.cells #[.int .i64 y0, .int .i64 y1, .string y2, .slice y3 y4 y5, .slice y6 y7 y8] 25))) := OS.alloc (OS.below HS0.out HB5.out) _)
      | (go_at_call 35; (with_reducible refine (HFC.out (wa.alloc (.cells #[.int .i64 0, .int .i64 0, .string ⟨#[]⟩, .slice none 0 0, .slice none 0 0] 25)).drew HSB1.out.2.2.2.2.2.2).mono ?_); rintro e w5 ⟨y0, y1, y2, y3, y4, y5, y6, y7, y8, rfl, hn5, hb5⟩; have HN5 := Lib.hid hn5; have HB5 := Lib.hid hb5; clear hn5 hb5; have HS5 : Hid (w5.cell? ⟨w.heap.size, 0, none⟩ = some (.int .i64 7) ∧ w5.cell? ⟨w.heap.size, 1, none⟩ = some (.int .i64 num) ∧ w5.cell? ⟨w.heap.size, 2, none⟩ = some (.string t) ∧ w5.cell? ⟨w.heap.size, 3, none⟩ = some (.slice A1 ks.length ck) ∧ w5.cell? ⟨w.heap.size, 4, none⟩ = some (.slice A2 ns.length cc) ∧ w5.cell? ⟨ab, ao, none⟩ = some (.string p) ∧ Below w.heap.size w w5) := OS.below HSB1.out HB5.out; have HZ5 := Lib.hid (HZB.out.below HB5.out HZB.out.lt); obtain ⟨d0, d1, d2, d3, d4⟩ := HZ5.out.cells5; have f0 := HZ5.out.frozen 0; have f1 := HZ5.out.frozen 1; have f2 := HZ5.out.frozen 2; have f3 := HZ5.out.frozen 3; have f4 := HZ5.out.frozen 4; have HS5b : Hid ((((((w5.setCell ⟨wa.heap.size, 0, none⟩ (.int .i64 y0)).setCell ⟨wa.heap.size, 1, none⟩ (.int .i64 y1)).setCell ⟨wa.heap.size, 2, none⟩ (.string y2)).setCell ⟨wa.heap.size, 3, none⟩ (.slice y3 y4 y5)).setCell ⟨wa.heap.size, 4, none⟩ (.slice y6 y7 y8)).cell? ⟨w.heap.size, 0, none⟩ = some (.int .i64 7) ∧ (((((w5.setCell ⟨wa.heap.size, 0, none⟩ (.int .i64 y0)).setCell ⟨wa.heap.size, 1, none⟩ (.int .i64 y1)).setCell ⟨wa.heap.size, 2, none⟩ (.string y2)).setCell ⟨wa.heap.size, 3, none⟩ (.slice y3 y4 y5)).setCell ⟨wa.heap.size, 4, none⟩ (.slice y6 y7 y8)).cell? ⟨w.heap.size, 1, none⟩ = some (.int .i64 num) ∧ (((((w5.setCell ⟨wa.heap.size, 0, none⟩ (.int .i64 y0)).setCell ⟨wa.heap.size, 1, none⟩ (.int .i64 y1)).setCell ⟨wa.heap.size, 2, none⟩ (.string y2)).setCell ⟨wa.heap.size, 3, none⟩ (.slice y3 y4 y5)).setCell ⟨wa.heap.size, 4, none⟩ (.slice y6 y7 y8)).cell? ⟨w.heap.size, 2, none⟩ = some (.string t) ∧ (((((w5.setCell ⟨wa.heap.size, 0, none⟩ (.int .i64 y0)).setCell ⟨wa.heap.size, 1, none⟩ (.int .i64 y1)).setCell ⟨wa.heap.size, 2, none⟩ (.string y2)).setCell ⟨wa.heap.size, 3, none⟩ (.slice y3 y4 y5)).setCell ⟨wa.heap.size, 4, none⟩ (.slice y6 y7 y8)).cell? ⟨w.heap.size, 3, none⟩ = some (.slice A1 ks.length ck) ∧ (((((w5.setCell ⟨wa.heap.size, 0, none⟩ (.int .i64 y0)).setCell ⟨wa.heap.size, 1, none⟩ (.int .i64 y1)).setCell ⟨wa.heap.size, 2, none⟩ (.string y2)).setCell ⟨wa.heap.size, 3, none⟩ (.slice y3 y4 y5)).setCell ⟨wa.heap.size, 4, none⟩ (.slice y6 y7 y8)).cell? ⟨w.heap.size, 4, none⟩ = some (.slice A2 ns.length cc) ∧ (((((w5.setCell ⟨wa.heap.size, 0, none⟩ (.int .i64 y0)).setCell ⟨wa.heap.size, 1, none⟩ (.int .i64 y1)).setCell ⟨wa.heap.size, 2, none⟩ (.string y2)).setCell ⟨wa.heap.size, 3, none⟩ (.slice y3 y4 y5)).setCell ⟨wa.heap.size, 4, none⟩ (.slice y6 y7 y8)).cell? ⟨ab, ao, none⟩ = some (.string p) ∧ Below w.heap.size w (((((w5.setCell ⟨wa.heap.size, 0, none⟩ (.int .i64 y0)).setCell ⟨wa.heap.size, 1, none⟩ (.int .i64 y1)).setCell ⟨wa.heap.size, 2, none⟩ (.string y2)).setCell ⟨wa.heap.size, 3, none⟩ (.slice y3 y4 y5)).setCell ⟨wa.heap.size, 4, none⟩ (.slice y6 y7 y8))) := OS.set5 (OS.below HSB1.out HB5.out) (by omega) hxz hab2))
    · go_wp2_with fail
      go_meet
      have hz5 : wa.heap.size ≤ w5.heap.size := HB5.out.size
      refine ⟨w5.heap.size, y0, y1, y2, y3, y4, y5, y6, y7, y8, rfl, rfl, Blk.new w5 _ _, ?_, ((HY.out.drew.below HB5.out HY.out.drew.lt).alloc _ : Blk _ _ _ _), HS5b.out.2.2.2.2.2.2, by omega⟩
      exact NdIn.keep (fun q hq => World.cell?_alloc_lt _ _ _ hq.2) (fun b hb => by
        have h1 : wa.heap.size ≤ b := hb.1
        have h2 : b < w5.heap.size := hb.2
        exact ⟨by omega, by simp; omega, by omega⟩) _ _ HN5.out
    · go_wp2_with fail
      go_meet
      have hz5 : (wa.alloc (.cells #[.int .i64 0, .int .i64 0, .string ⟨#[]⟩, .slice none 0 0, .slice none 0 0] 25)).drew.heap.size ≤ w5.heap.size := HB5.out.size
      have hz6 : (wa.alloc (.cells #[.int .i64 0, .int .i64 0, .string ⟨#[]⟩, .slice none 0 0, .slice none 0 0] 25)).drew.heap.size = wa.heap.size + 1 := by show (wa.alloc (.cells #[.int .i64 0, .int .i64 0, .string ⟨#[]⟩, .slice none 0 0, .slice none 0 0] 25)).heap.size = _; simp
      refine ⟨wa.heap.size, y0, y1, y2, y3, y4, y5, y6, y7, y8, rfl, rfl, (set5_blk HZ5.out : Blk _ _ _ _), ?_, (set5_far ((HY.out.alloc _).drew.below HB5.out (HY.out.alloc _).drew.lt) (by omega) : Blk _ _ _ _), HS5b.out.2.2.2.2.2.2, by omega⟩
      exact set5_in HN5.out (fun b hb => by
        have h1 : (wa.alloc (.cells #[.int .i64 0, .int .i64 0, .string ⟨#[]⟩, .slice none 0 0, .slice none 0 0] 25)).drew.heap.size ≤ b := hb.1
        omega) (fun b hb => by
        have h1 : (wa.alloc (.cells #[.int .i64 0, .int .i64 0, .string ⟨#[]⟩, .slice none 0 0, .slice none 0 0] 25)).drew.heap.size ≤ b := hb.1
        have h2 : b < w5.heap.size := hb.2
        exact ⟨by omega, by show b < (set5 w5 wa.heap.size _ _ _ _ _).heap.size; rw [set5_size]; exact h2, by omega⟩)
  case rest =>
    obtain ⟨zb, y0, y1, y2, y3, y4, y5, y6, y7, y8, rfl, rfl, hzb, hn5, hyb, hbb, hz2⟩ := hcut
    obtain ⟨d0, d1, d2, d3, d4⟩ := hyb.out.cells5
    have f0 := hyb.out.frozen 0
    have f1 := hyb.out.frozen 1
    have f2 := hyb.out.frozen 2
    have f3 := hyb.out.frozen 3
    have f4 := hyb.out.frozen 4
    clear HFC HS0 HSB0 HSB1 HZB HX HY HA c0 c1 c2 c3 c4 p0 hl hab2 hxz
    cases F with
    | none =>
      go_wp2_with fail
      clear d0 d1 d2 d3 d4 f0 f1 f2 f3 f4
      have F := get_fin (r := none) (S := S) (S2 := (fun _ => False)) (w := w) (w2 := wc) (y := w.heap.size + 1) (by omega) hbb.out hyb.out (nd0_in 0 (by unfold I64; omega) _ _) (fun b hb => hb.elim)
      unfold set5 at F
      generalize (((((wc).setCell ⟨w.heap.size + 1, 0, none⟩ (.int .i64 0)).setCell ⟨w.heap.size + 1, 1, none⟩ (.int .i64 0)).setCell ⟨w.heap.size + 1, 2, none⟩ (.string ⟨#[]⟩)).setCell ⟨w.heap.size + 1, 3, none⟩ (.slice none 0 0)).setCell ⟨w.heap.size + 1, 4, none⟩ (.slice none 0 0) = WF at *
      obtain ⟨F1, F2⟩ := F
      obtain ⟨q0, q1, q2, q3, q4⟩ := F1.cells5
      refine bodyPost_ret (v := .tuple #[.agg #[.int .i64 0, .int .i64 0, .string ⟨#[]⟩, .slice none 0 0, .slice none 0 0], .bool false]) (by simp [results, Tryd.results34, go_sem, q0, q1, q2, q3, q4]) rfl ?_
      rw [HG.out none (fun m h => by cases h) (fun _ => rfl)]
      exact F2
    | some m =>
      have HM := Lib.hid (HKF.out m HF.out.symm)
      have hn7 : NdIn wc (fun b => w.heap.size + 2 ≤ b ∧ b < wc.heap.size ∧ b ≠ zb) m [.int .i64 y0, .int .i64 y1, .string y2, .slice y3 y4 y5, .slice y6 y7 y8] := hn5.out
      have HN7 : Hid (NdIn wc.drew (fun b => w.heap.size + 2 ≤ b ∧ b < wc.heap.size ∧ b ≠ zb) m [.int .i64 y0, .int .i64 y1, .string y2, .slice y3 y4 y5, .slice y6 y7 y8]) := NdIn.keep (w := wc) (w' := wc.drew) (fun _ _ => rfl) (fun _ h => h) m _ hn7
      clear hn7
      have HIH : Hid (Calls Tryd.prog 34 #[.agg #[.int .i64 y0, .int .i64 y1, .string y2, .slice y3 y4 y5, .slice y6 y7 y8], .slice (some ⟨ab, ao + 1, none⟩) l.length (c - 1)] wc.drew (GetP (getN l m) (fun b => w.heap.size + 2 ≤ b ∧ b < wc.heap.size ∧ b ≠ zb) wc.drew)) :=
        IH m [.int .i64 y0, .int .i64 y1, .string y2, .slice y3 y4 y5, .slice y6 y7 y8] wc.drew (fun b => w.heap.size + 2 ≤ b ∧ b < wc.heap.size ∧ b ≠ zb) _ (c - 1) HN7.out (fun b hb => hb.2.1) ((HR.out.keep fun q hq => hbb.out.cell hq).more hbb.out.size) (by omega) (by unfold maxLen at *; omega) HM.out.1 HM.out.2
      have HG2 : Hid (getN (p :: l) (.mk 7 num t ks ns) = getN l m) := HG.out _ (fun m' h => by injection h with h; rw [h]) (fun h => by cases h)
      have hzc : zb < wc.heap.size := hzb.out.lt
      have hzy : zb ≠ w.heap.size + 1 := by omega
      obtain ⟨c0, c1, c2, c3, c4⟩ := hzb.out.cells5
      have HS0 : Hid (wc.drew.cell? ⟨zb, 0, none⟩ = some (.int .i64 y0) ∧ wc.drew.cell? ⟨zb, 1, none⟩ = some (.int .i64 y1) ∧ wc.drew.cell? ⟨zb, 2, none⟩ = some (.string y2) ∧ wc.drew.cell? ⟨zb, 3, none⟩ = some (.slice y3 y4 y5) ∧ wc.drew.cell? ⟨zb, 4, none⟩ = some (.slice y6 y7 y8)) := ⟨c0, c1, c2, c3, c4⟩
      have hx : ¬ (l.length : Int) + 1 < 1 := by omega
      have hyc : w.heap.size + 1 < wc.heap.size := hyb.out.lt
      clear HF HKF HG hn5
      go_wp2_with fail
      go_region_held3 (fun w' => w'.cell? ⟨zb, 0, none⟩ = some (.int .i64 y0) ∧ w'.cell? ⟨zb, 1, none⟩ = some (.int .i64 y1) ∧ w'.cell? ⟨zb, 2, none⟩ = some (.string y2) ∧ w'.cell? ⟨zb, 3, none⟩ = some (.slice y3 y4 y5) ∧ w'.cell? ⟨zb, 4, none⟩ = some (.slice y6 y7 y8)) (first | with_reducible exact HS0.out | with_reducible exact HS5.out | with_reducible exact HSF.out) (first
        | (go_at_call 34; (with_reducible refine (HIH.out : Calls _ _ _ _ _).mono ?_); rintro e w5 ⟨g0, g1, g2, g3, g4, g5, g6, g7, g8, rfl, hn6, hb6⟩; have HN6 := Lib.hid hn6; have HB6 := Lib.hid hb6; clear hn6 hb6; have HS5 : Hid (w5.cell? ⟨zb, 0, none⟩ = some (.int .i64 y0) ∧ w5.cell? ⟨zb, 1, none⟩ = some (.int .i64 y1) ∧ w5.cell? ⟨zb, 2, none⟩ = some (.string y2) ∧ w5.cell? ⟨zb, 3, none⟩ = some (.slice y3 y4 y5) ∧ w5.cell? ⟨zb, 4, none⟩ = some (.slice y6 y7 y8)) := (hzb.out.drew.below HB6.out hzb.out.drew.lt).cells5; have HSF : Hid ((((((w5.setCell ⟨w.heap.size + 1, 0, none⟩ (.int .i64 g0)).setCell ⟨w.heap.size + 1, 1, none⟩ (.int .i64 g1)).setCell ⟨w.heap.size + 1, 2, none⟩ (.string g2)).setCell ⟨w.heap.size + 1, 3, none⟩ (.slice g3 g4 g5)).setCell ⟨w.heap.size + 1, 4, none⟩ (.slice g6 g7 g8)).cell? ⟨zb, 0, none⟩ = some (.int .i64 y0) ∧ (((((w5.setCell ⟨w.heap.size + 1, 0, none⟩ (.int .i64 g0)).setCell ⟨w.heap.size + 1, 1, none⟩ (.int .i64 g1)).setCell ⟨w.heap.size + 1, 2, none⟩ (.string g2)).setCell ⟨w.heap.size + 1, 3, none⟩ (.slice g3 g4 g5)).setCell ⟨w.heap.size + 1, 4, none⟩ (.slice g6 g7 g8)).cell? ⟨zb, 1, none⟩ = some (.int .i64 y1) ∧ (((((w5.setCell ⟨w.heap.size + 1, 0, none⟩ (.int .i64 g0)).setCell ⟨w.heap.size + 1, 1, none⟩ (.int .i64 g1)).setCell ⟨w.heap.size + 1, 2, none⟩ (.string g2)).setCell ⟨w.heap.size + 1, 3, none⟩ (.slice g3 g4 g5)).setCell ⟨w.heap.size + 1, 4, none⟩ (.slice g6 g7 g8)).cell? ⟨zb, 2, none⟩ = some (.string y2) ∧ (((((w5.setCell ⟨w.heap.size + 1, 0, none⟩ (.int .i64 g0)).setCell ⟨w.heap.size + 1, 1, none⟩ (.int .i64 g1)).setCell ⟨w.heap.size + 1, 2, none⟩ (.string g2)).setCell ⟨w.heap.size + 1, 3, none⟩ (.slice g3 g4 g5)).setCell ⟨w.heap.size + 1, 4, none⟩ (.slice g6 g7 g8)).cell? ⟨zb, 3, none⟩ = some (.slice y3 y4 y5) ∧ (((((w5.setCell ⟨w.heap.size + 1, 0, none⟩ (.int .i64 g0)).setCell ⟨w.heap.size + 1, 1, none⟩ (.int .i64 g1)).setCell ⟨w.heap.size + 1, 2, none⟩ (.string g2)).setCell ⟨w.heap.size + 1, 3, none⟩ (.slice g3 g4 g5)).setCell ⟨w.heap.size + 1, 4, none⟩ (.slice g6 g7 g8)).cell? ⟨zb, 4, none⟩ = some (.slice y6 y7 y8)) := (set5_far (hzb.out.drew.below HB6.out hzb.out.drew.lt) hzy).cells5; have HY6 := Lib.hid (hyb.out.drew.below HB6.out hyb.out.drew.lt); obtain ⟨d0, d1, d2, d3, d4⟩ := HY6.out.cells5; have f0 := HY6.out.frozen 0; have f1 := HY6.out.frozen 1; have f2 := HY6.out.frozen 2; have f3 := HY6.out.frozen 3; have f4 := HY6.out.frozen 4))
      have hz6 : wc.heap.size ≤ w5.heap.size := HB6.out.size
      go_wp2_with fail
      clear d0 d1 d2 d3 d4 f0 f1 f2 f3 f4
      have F := get_fin (r := getN l m) (S := S) (S2 := (fun b => (w.heap.size + 2 ≤ b ∧ b < wc.heap.size ∧ b ≠ zb) ∨ Since wc.drew w5 b)) (w := w) (w2 := w5) (y := w.heap.size + 1) (by omega) (hbb.out.drew.trans (HB6.out.mono hbb.out.size)) HY6.out HN6.out (fun b hb => by
          rcases hb with hb | hb
          · exact ⟨.inr ⟨by omega, by omega⟩, by omega⟩
          · have h1 : wc.heap.size ≤ b := hb.1
            exact ⟨.inr ⟨by omega, hb.2⟩, by omega⟩)
      unfold set5 at F
      generalize (((((w5).setCell ⟨w.heap.size + 1, 0, none⟩ (.int .i64 g0)).setCell ⟨w.heap.size + 1, 1, none⟩ (.int .i64 g1)).setCell ⟨w.heap.size + 1, 2, none⟩ (.string g2)).setCell ⟨w.heap.size + 1, 3, none⟩ (.slice g3 g4 g5)).setCell ⟨w.heap.size + 1, 4, none⟩ (.slice g6 g7 g8) = WF at *
      obtain ⟨F1, F2⟩ := F
      obtain ⟨q0, q1, q2, q3, q4⟩ := F1.cells5
      refine bodyPost_ret (v := .tuple #[.agg #[.int .i64 g0, .int .i64 g1, .string g2, .slice g3 g4 g5, .slice g6 g7 g8], .bool (getN l m).isSome]) (by simp [results, Tryd.results34, go_sem, q0, q1, q2, q3, q4]) rfl ?_
      rw [HG2.out]; exact F2
end Go.Proofs.YtnbfagignbbmfaaDoor
/-! What point's get holds while it goes through a star. -/
namespace Go.Proofs.YtnbfagignbbmfaaDoor
open Go.RowKit Go.PlainAid
set_option linter.unusedVariables false
set_option linter.unusedSimpArgs false
set_option maxRecDepth 100000
/-- nodes gathered in a slice of the call's own, which the block ob's last cell holds -/
def SInv (w : World) (S : Nat → Prop) (ob : Nat) (acc : List Nd) (Aw : Option Addr) (cw : Nat) (ys : List Value) (wr : World) : Prop :=
  wr.ownsRow (ob + 1) 25 5 (.slice Aw acc.length cw) acc.length ys ∧ NdsIn wr (fun b => S b ∨ SK (ob + 1) wr (.slice Aw acc.length cw) b) acc ys ∧ Blk wr ob 25 #[.int .i64 6, .int .i64 0, .string ⟨#[]⟩, .slice none 0 0, .slice Aw acc.length cw] ∧
  Blk wr (w.heap.size + 1) 25 #[.int .i64 0, .int .i64 0, .string ⟨#[]⟩, .slice none 0 0, .slice none 0 0] ∧ Below w.heap.size w wr ∧ w.heap.size + 2 ≤ ob ∧ ob < wr.heap.size
theorem SInv.later {w : World} {S : Nat → Prop} {ob : Nat} {acc : List Nd} {Aw : Option Addr} {cw : Nat} {ys : List Value} {wr wc : World} (h : SInv w S ob acc Aw cw ys wr) (hS : ∀ b, S b → b < w.heap.size) (hb : Below wr.heap.size wr wc) : SInv w S ob acc Aw cw ys wc := by
  obtain ⟨h1, h2, h3, h4, h5, h6, h7⟩ := h
  refine ⟨own_old h1 hb, ?_, h3.below hb h7, h4.below hb h4.lt, h5.trans (hb.mono h5.size), h6, Nat.lt_of_lt_of_le h7 hb.size⟩
  have hz := h5.size
  refine NdsIn.keep (fun p hp => hb.cell ?_) (fun b hb' => ?_) _ _ h2
  · rcases hp with hp | hp
    · have := hS _ hp; omega
    · exact hp.2.1
  · rcases hb' with hb' | hb'
    · exact .inl hb'
    · exact .inr ⟨hb'.1, Nat.lt_of_lt_of_le hb'.2.1 hb.size, hb'.2.2⟩
theorem SInv.push {w : World} {S : Nat → Prop} {ob : Nat} {acc : List Nd} {Aw : Option Addr} {cw : Nat} {ys : List Value} {wc w3 : World} (h : SInv w S ob acc Aw cw ys wc) (hS : ∀ b, S b → b < w.heap.size) (ms : List Nd) (zs : List Value) (hm : NdsIn wc (fun b => S b ∨ SK (ob + 1) wc (.slice Aw acc.length cw) b) ms zs)
    {Av : Option Addr} {cv n : Nat} (hn : n = (acc ++ ms).length) (ho : w3.ownsRow (ob + 1) 25 5 (.slice Av n cv) n (ys ++ zs)) (hg : wc.grownBy w3 (Value.slice Aw acc.length cw).ownBlock)
    (hv : (Value.slice Av n cv).ownBlock = (Value.slice Aw acc.length cw).ownBlock ∨ ∃ g, (Value.slice Av n cv).ownBlock = some g ∧ wc.heap.size ≤ g) :
    SInv w S ob (acc ++ ms) Av cv (ys ++ zs) (w3.setCell ⟨ob, 4, none⟩ (.slice Av n cv)) := by
  subst hn
  obtain ⟨h1, h2, h3, h4, h5, h6, h7⟩ := h
  have hz := h5.size
  have hown : ∀ g, (Value.slice Aw acc.length cw).ownBlock = some g → ob + 1 ≤ g ∧ g < wc.heap.size := fun g hg => own_lt h1 hg
  have hsz := hg.size
  have hkeep : ∀ p : Addr, (S p.block ∨ SK (ob + 1) wc (.slice Aw acc.length cw) p.block) → (w3.setCell ⟨ob, 4, none⟩ (.slice Av (acc ++ ms).length cv)).cell? p = wc.cell? p := fun p hp => by
    have h1 : p.block ≠ ob ∧ p.block < wc.heap.size ∧ some p.block ≠ (Value.slice Aw acc.length cw).ownBlock := by
      rcases hp with hp | hp
      · have := hS _ hp
        exact ⟨by omega, by omega, fun e => by have := hown _ e.symm; omega⟩
      · exact ⟨by have := hp.1; omega, hp.2.1, fun e => hp.2.2 e.symm⟩
    rw [World.cell?_setCell_other _ _ _ _ (by intro e; subst e; exact h1.1 rfl)]
    exact World.cell?_of_block (hg.block p.block h1.2.1 h1.2.2)
  have hsub : ∀ b, (S b ∨ SK (ob + 1) wc (.slice Aw acc.length cw) b) → (S b ∨ SK (ob + 1) (w3.setCell ⟨ob, 4, none⟩ (.slice Av (acc ++ ms).length cv)) (.slice Av (acc ++ ms).length cv) b) := fun b hb => by
    rcases hb with hb | hb
    · exact .inl hb
    · refine .inr ⟨hb.1, by have := hb.2.1; simp; omega, fun e => ?_⟩
      rcases hv with e2 | ⟨g, e2, hge⟩
      · rw [e2] at e; exact hb.2.2 e
      · rw [e2] at e; injection e with e; have := hb.2.1; omega
  have hno : some ob ≠ (Value.slice Aw acc.length cw).ownBlock := fun e => by have := (hown _ e.symm).1; omega
  have hny : some (w.heap.size + 1) ≠ (Value.slice Aw acc.length cw).ownBlock := fun e => by have := (hown _ e.symm).1; omega
  refine ⟨ownsRow_setCell_below ho (by simp) _, NdsIn.app2 _ _ _ _ (NdsIn.keep hkeep hsub _ _ h2) (NdsIn.keep hkeep hsub _ _ hm), (h3.grown hg hno).set_ 4 _, (h4.grown hg hny).far (by show w.heap.size + 1 ≠ ob; omega) _, (h5.grown hg (by omega) (fun g hg => by have := (hown g hg).1; omega)).setCell (p := ⟨ob, 4, none⟩) (by show w.heap.size ≤ ob; omega) _, h6, by simp; omega⟩
theorem SInv.start {w wa : World} (S : Nat → Prop) (hb : Below w.heap.size w wa) (hy : Blk wa (w.heap.size + 1) 25 #[.int .i64 0, .int .i64 0, .string ⟨#[]⟩, .slice none 0 0, .slice none 0 0]) (hz : w.heap.size + 2 ≤ wa.heap.size) :
    SInv w S wa.heap.size [] none 0 [] (wa.alloc (.cells #[.int .i64 6, .int .i64 0, .string ⟨#[]⟩, .slice none 0 0, .slice none 0 0] 25)) :=
  ⟨World.ownsRow_nil _ _ _ _, NdsIn.nil, Blk.new wa _ _, hy.alloc _, hb.alloc hb.size _, hz, by simp⟩
/-- the nodes gathered, as an array -/
theorem SInv.node {w : World} {S : Nat → Prop} {ob : Nat} {acc : List Nd} {Aw : Option Addr} {cw : Nat} {ys : List Value} {wr : World} (h : SInv w S ob acc Aw cw ys wr) (hl : acc.length ≤ 1000000) :
    NdIn wr (fun b => S b ∨ (ob + 1 ≤ b ∧ b < wr.heap.size)) (.mk 6 0 ⟨#[]⟩ [] acc) [.int .i64 6, .int .i64 0, .string ⟨#[]⟩, .slice none 0 0, .slice Aw acc.length cw] := by
  obtain ⟨h1, h2, h3, h4, h5, h6, h7⟩ := h
  unfold NdIn
  refine ⟨none, 0, Aw, cw, ys, rfl, RS.none_, ⟨h1.1, fun hn0 => ?_⟩, NdsIn.keep (fun _ _ => rfl) (fun b hb => ?_) _ _ h2, by unfold I64; omega, by unfold I64; omega, by (show (0 : Nat) ≤ maxLen); exact Nat.zero_le _, by simp, by simp [maxLen], by unfold maxLen; omega⟩
  · obtain ⟨g, cap, hv, hg1, hg2⟩ := h1.form hn0
    injection hv with hv1 hv2 hv3
    subst hv1
    exact ⟨_, rfl, .inr ⟨hg1, hg2⟩, fun j u hu => h1.cells (g := g) rfl j u hu⟩
  · rcases hb with hb | hb
    · exact .inl hb
    · exact .inr ⟨hb.1, hb.2.1⟩
theorem starL_none {f : Nd → Option Nd} {m : Nd} {ns acc : List Nd} (h : f m = none) : starL f (m :: ns) acc = none := by
  rw [starL, h]
theorem starL_some {f : Nd → Option Nd} {m x : Nd} {ns acc : List Nd} (h : f m = some x) : starL f (m :: ns) acc = starL f ns (starAdd x acc) := by
  rw [starL, h]
theorem starL_nil {f : Nd → Option Nd} {acc : List Nd} : starL f [] acc = some acc := rfl
end Go.Proofs.YtnbfagignbbmfaaDoor
