/- Texts of one seat, one behind the other: Fo4, Fo5, Fo7, Fo8, Fo9, Fo10, Fo11, Text4, Text5, Pw0, Pw1, Pw2. No condition. -/
import Derived.Test.YtnbfagignbbmfaaDoorQ5
import Derived.Deep.RegionHeld3
import Derived.Deep.DeepCutAuto
/-! The walk of the reference's follow. -/
namespace Go.Proofs.YtnbfagignbbmfaaDoor
open Go.RowKit Go.PlainAid
set_option linter.unusedVariables false
set_option linter.unusedSimpArgs false
set_option maxRecDepth 100000
theorem numZ_big (p : ByteArray) (h0 : 49 ≤ bt p 0) : ∀ i : Nat, digitsB p (i + 1) = true → (10 : Int) ^ i ≤ numZ p (i + 1)
  | 0, _ => by simp only [numZ]; omega
  | i + 1, h => by
    have h1 : digitsB p (i + 1) = true ∧ 48 ≤ bt p (i + 1) := by
      rw [digitsB, Bool.and_eq_true, Bool.and_eq_true] at h
      exact ⟨h.1, by simpa using h.2.1⟩
    have ih := numZ_big p h0 i h1.1
    rw [numZ, Int.pow_succ]
    omega
theorem numB_nonneg (p : ByteArray) : (numB p).2 = true → 0 ≤ (numB p).1 := by
  unfold numB
  split
  · intro h; cases h
  · rename_i h1
    split
    · intro h; cases h
    · rename_i hd
      split
      · intro h; cases h
      · intro _
        exact (numZ_bound p p.size (by omega) (by simpa using hd)).1
theorem place_num (p : ByteArray) (n : Nat) (hn : n ≤ 1000000) : placeF p n = if (numB p).2 = false ∨ (n : Int) ≤ (numB p).1 then -1 else (numB p).1 := by
  unfold placeF
  by_cases h1 : p.size = 0 ∨ 10 < p.size ∨ (bt p 0 = 48 ∧ 1 < p.size)
  · have e : numB p = (0, false) := by unfold numB; rw [if_pos h1]
    rw [e, if_pos (by omega)]; simp
  · by_cases hd : digitsB p p.size = false
    · have e : numB p = (0, false) := by unfold numB; rw [if_neg h1, if_pos hd]
      rw [e, if_pos hd]; simp
    · have hd' : digitsB p p.size = true := by simpa using hd
      by_cases hb : 4294967295 < numZ p p.size
      · have e : numB p = (0, false) := by unfold numB; rw [if_neg h1, if_neg hd, if_pos hb]
        rw [e]
        by_cases h9 : p.size = 0 ∨ 9 < p.size ∨ (bt p 0 = 48 ∧ 1 < p.size)
        · rw [if_pos h9]; simp
        · rw [if_neg h9, if_neg hd, if_pos (by omega)]; simp
      · have e : numB p = (numZ p p.size, true) := by unfold numB; rw [if_neg h1, if_neg hd, if_neg hb]
        rw [e]
        by_cases h10 : 9 < p.size
        · rw [if_pos (.inr (.inl h10))]
          refine (if_pos (.inr ?_)).symm
          have hs : p.size = 9 + 1 := by omega
          have hlead : 49 ≤ bt p 0 := by
            have h2 : digitsB p (0 + 1) = true := by
              cases h3 : digitsB p (0 + 1) with
              | true => rfl
              | false =>
                have : digitsB p p.size = false := digits_stop p 0 p.size (by omega) (by simpa [digitsB] using h3)
                rw [this] at hd'; cases hd'
            rw [digitsB, Bool.and_eq_true, Bool.and_eq_true] at h2
            have h3 : 48 ≤ bt p 0 := by simpa using h2.2.1
            omega
          have := numZ_big p hlead 9 (by rw [← hs]; exact hd')
          rw [← hs] at this
          have hp : (10 : Int) ^ 9 = 1000000000 := by decide
          show (n : Int) ≤ numZ p p.size
          omega
        · rw [if_neg (by omega), if_neg hd]
          by_cases hle : (n : Int) ≤ numZ p p.size
          · rw [if_pos hle, if_pos (.inr hle)]
          · rw [if_neg hle, if_neg (by simp; omega)]
def FGetOK (l : List ByteArray) : Prop := ∀ (n : Nd) (cs : List Value) (w : World) (S : Nat → Prop) (A : Option Addr) (c : Nat), NdIn w S n cs → (∀ b, S b → b < w.heap.size) → (∃ B, ∀ b, S b ↔ b < B) → Reads w w.heap.size 1 A l.length (l.map Value.string) → l.length ≤ c → c ≤ maxLen → sizeOk n → n.count ≤ 1000000 → Calls Tryd.prog 37 #[.agg cs.toArray, .slice A l.length c] w (GetP (getN l n) S w)
set_option maxHeartbeats 1000000 in
theorem fget_nil : FGetOK [] := by
  intro n cs w S A c hn hS hSB hr hl hc hs hct
  have HN := Lib.hid hn
  cases n with
  | mk k num t ks ns =>
  unfold NdIn at hn
  obtain ⟨A1, ck, A2, cc, xs, rfl, hks, hxs, hns, ik, inn, ht, hkl, hkm, hmm⟩ := hn
  have HS := Lib.hid hS
  have HSB := Lib.hid hSB
  clear hSB
  clear hS hks hxs hns hkl hr
  show Calls Tryd.prog 37 #[.agg #[.int .i64 k, .int .i64 num, .string t, .slice A1 ks.length ck, .slice A2 ns.length cc], .slice A 0 c] w _
  have hA : Below w.heap.size w ((w.alloc (.cells #[.int .i64 k, .int .i64 num, .string t, .slice A1 ks.length ck, .slice A2 ns.length cc] 25)).alloc (.cells #[.int .i64 0, .int .i64 0, .string ⟨#[]⟩, .slice none 0 0, .slice none 0 0] 25)) := ((Below.refl _ _).alloc (Nat.le_refl _) _).alloc (by simp) _
  have hX : Blk ((w.alloc (.cells #[.int .i64 k, .int .i64 num, .string t, .slice A1 ks.length ck, .slice A2 ns.length cc] 25)).alloc (.cells #[.int .i64 0, .int .i64 0, .string ⟨#[]⟩, .slice none 0 0, .slice none 0 0] 25)) w.heap.size 25 #[.int .i64 k, .int .i64 num, .string t, .slice A1 ks.length ck, .slice A2 ns.length cc] := (Blk.new w _ _).alloc _
  have hY : Blk ((w.alloc (.cells #[.int .i64 k, .int .i64 num, .string t, .slice A1 ks.length ck, .slice A2 ns.length cc] 25)).alloc (.cells #[.int .i64 0, .int .i64 0, .string ⟨#[]⟩, .slice none 0 0, .slice none 0 0] 25)) (w.heap.size + 1) 25 #[.int .i64 0, .int .i64 0, .string ⟨#[]⟩, .slice none 0 0, .slice none 0 0] := by
    have := Blk.new (w.alloc (.cells #[.int .i64 k, .int .i64 num, .string t, .slice A1 ks.length ck, .slice A2 ns.length cc] 25)) 25 #[.int .i64 0, .int .i64 0, .string ⟨#[]⟩, .slice none 0 0, .slice none 0 0]
    simpa using this
  have hZ : w.heap.size + 2 = ((w.alloc (.cells #[.int .i64 k, .int .i64 num, .string t, .slice A1 ks.length ck, .slice A2 ns.length cc] 25)).alloc (.cells #[.int .i64 0, .int .i64 0, .string ⟨#[]⟩, .slice none 0 0, .slice none 0 0] 25)).heap.size := by simp
  have HA := Lib.hid hA
  have HX := Lib.hid hX
  have HY := Lib.hid hY
  clear hA hX hY
  go_enter Tryd.func37, Tryd.ntmps37
  go_upto_region 1 with fail
  generalize (w.alloc (.cells #[.int .i64 k, .int .i64 num, .string t, .slice A1 ks.length ck, .slice A2 ns.length cc] 25)).alloc (.cells #[.int .i64 0, .int .i64 0, .string ⟨#[]⟩, .slice none 0 0, .slice none 0 0] 25) = wa at *
  obtain ⟨c0, c1, c2, c3, c4⟩ := HX.out.cells5
  obtain ⟨d0, d1, d2, d3, d4⟩ := HY.out.cells5
  have f0 := HY.out.frozen 0
  have f1 := HY.out.frozen 1
  have f2 := HY.out.frozen 2
  have f3 := HY.out.frozen 3
  have f4 := HY.out.frozen 4
  go_wp2_with fail
  clear d0 d1 d2 d3 d4 f0 f1 f2 f3 f4
  have F := get_fin (r := some (.mk k num t ks ns)) (S := S) (S2 := S) (w := w) (w2 := wa) (y := w.heap.size + 1) (by omega) HA.out HY.out (HN.out.on HS.out HA.out) (fun b hb => ⟨.inl hb, fun e => by have := HS.out b hb; omega⟩)
  unfold set5 at F
  generalize (((((wa).setCell ⟨w.heap.size + 1, 0, none⟩ (.int .i64 k)).setCell ⟨w.heap.size + 1, 1, none⟩ (.int .i64 num)).setCell ⟨w.heap.size + 1, 2, none⟩ (.string t)).setCell ⟨w.heap.size + 1, 3, none⟩ (.slice A1 ks.length ck)).setCell ⟨w.heap.size + 1, 4, none⟩ (.slice A2 ns.length cc) = WF at *
  obtain ⟨F1, F2⟩ := F
  obtain ⟨q0, q1, q2, q3, q4⟩ := F1.cells5
  refine bodyPost_ret (v := .tuple #[.agg #[.int .i64 k, .int .i64 num, .string t, .slice A1 ks.length ck, .slice A2 ns.length cc], .bool true]) (by simp [results, Tryd.results37, go_sem, q0, q1, q2, q3, q4]) rfl ?_
  exact F2
def FGetStep (p : ByteArray) (l : List ByteArray) (n : Nd) (len cap : Nat) (TA : Nat → Nat → Option Addr) : Prop := p.size ≤ 9223372036854775807 → ∀ (cs : List Value) (w : World) (S : Nat → Prop) (ab ao : Nat), NdIn w S n cs → (∀ b, S b → b < w.heap.size) → (∃ B, ∀ b, S b ↔ b < B) → ab < w.heap.size → w.cell? ⟨ab, ao, none⟩ = some (.string p) → Reads w w.heap.size 1 (TA ab ao) l.length (l.map Value.string) → cap ≤ maxLen → sizeOk n → n.count ≤ 1000000 → Calls Tryd.prog 37 #[.agg cs.toArray, .slice (some ⟨ab, ao, none⟩) len cap] w (GetP (getN (p :: l) n) S w)
set_option maxHeartbeats 1000000 in
theorem fget_other (p : ByteArray) (l : List ByteArray) (n : Nd) (c : Nat) (TA : Nat → Nat → Option Addr) (h7 : n.kind ≠ 7) (h6 : n.kind ≠ 6) : FGetStep p l n (l.length + 1) c TA := by
  intro hpz cs w S ab ao hn hS hSB hab hp hr hc hs hct
  cases n with
  | mk k num t ks ns =>
  unfold NdIn at hn
  obtain ⟨A1, ck, A2, cc, xs, rfl, hks, hxs, hns, ik, inn, ht, hkl, hkm, hmm⟩ := hn
  simp only [Nd.kind] at h7 h6
  have e7 : (k == 7) = false := by rw [beq_eq_false_iff_ne]; exact h7
  have e6 : (k == 6) = false := by rw [beq_eq_false_iff_ne]; exact h6
  have HR : Hid (getN (p :: l) (.mk k num t ks ns) = none) := by show _ = _; simp [getN, Nd.kind, h7, h6]
  have HS := Lib.hid hS
  have HSB := Lib.hid hSB
  clear hSB
  clear hS hks hxs hns hkl hr h7 h6 hp
  show Calls Tryd.prog 37 #[.agg #[.int .i64 k, .int .i64 num, .string t, .slice A1 ks.length ck, .slice A2 ns.length cc], .slice (some ⟨ab, ao, none⟩) (l.length + 1) c] w _
  have hA : Below w.heap.size w ((w.alloc (.cells #[.int .i64 k, .int .i64 num, .string t, .slice A1 ks.length ck, .slice A2 ns.length cc] 25)).alloc (.cells #[.int .i64 0, .int .i64 0, .string ⟨#[]⟩, .slice none 0 0, .slice none 0 0] 25)) := ((Below.refl _ _).alloc (Nat.le_refl _) _).alloc (by simp) _
  have hX : Blk ((w.alloc (.cells #[.int .i64 k, .int .i64 num, .string t, .slice A1 ks.length ck, .slice A2 ns.length cc] 25)).alloc (.cells #[.int .i64 0, .int .i64 0, .string ⟨#[]⟩, .slice none 0 0, .slice none 0 0] 25)) w.heap.size 25 #[.int .i64 k, .int .i64 num, .string t, .slice A1 ks.length ck, .slice A2 ns.length cc] := (Blk.new w _ _).alloc _
  have hY : Blk ((w.alloc (.cells #[.int .i64 k, .int .i64 num, .string t, .slice A1 ks.length ck, .slice A2 ns.length cc] 25)).alloc (.cells #[.int .i64 0, .int .i64 0, .string ⟨#[]⟩, .slice none 0 0, .slice none 0 0] 25)) (w.heap.size + 1) 25 #[.int .i64 0, .int .i64 0, .string ⟨#[]⟩, .slice none 0 0, .slice none 0 0] := by
    have := Blk.new (w.alloc (.cells #[.int .i64 k, .int .i64 num, .string t, .slice A1 ks.length ck, .slice A2 ns.length cc] 25)) 25 #[.int .i64 0, .int .i64 0, .string ⟨#[]⟩, .slice none 0 0, .slice none 0 0]
    simpa using this
  have hZ : w.heap.size + 2 = ((w.alloc (.cells #[.int .i64 k, .int .i64 num, .string t, .slice A1 ks.length ck, .slice A2 ns.length cc] 25)).alloc (.cells #[.int .i64 0, .int .i64 0, .string ⟨#[]⟩, .slice none 0 0, .slice none 0 0] 25)).heap.size := by simp
  have HA := Lib.hid hA
  have HX := Lib.hid hX
  have HY := Lib.hid hY
  clear hA hX hY
  go_enter Tryd.func37, Tryd.ntmps37
  go_upto_region 1 with fail
  generalize (w.alloc (.cells #[.int .i64 k, .int .i64 num, .string t, .slice A1 ks.length ck, .slice A2 ns.length cc] 25)).alloc (.cells #[.int .i64 0, .int .i64 0, .string ⟨#[]⟩, .slice none 0 0, .slice none 0 0] 25) = wa at *
  obtain ⟨c0, c1, c2, c3, c4⟩ := HX.out.cells5
  obtain ⟨d0, d1, d2, d3, d4⟩ := HY.out.cells5
  have f0 := HY.out.frozen 0
  have f1 := HY.out.frozen 1
  have f2 := HY.out.frozen 2
  have f3 := HY.out.frozen 3
  have f4 := HY.out.frozen 4
  go_wp2_with fail
  clear d0 d1 d2 d3 d4 f0 f1 f2 f3 f4
  have F := get_fin (r := none) (S := S) (S2 := (fun _ => False)) (w := w) (w2 := wa) (y := w.heap.size + 1) (by omega) HA.out HY.out (nd0_in 0 (by unfold I64; omega) _ _) (fun b hb => hb.elim)
  unfold set5 at F
  generalize (((((wa).setCell ⟨w.heap.size + 1, 0, none⟩ (.int .i64 0)).setCell ⟨w.heap.size + 1, 1, none⟩ (.int .i64 0)).setCell ⟨w.heap.size + 1, 2, none⟩ (.string ⟨#[]⟩)).setCell ⟨w.heap.size + 1, 3, none⟩ (.slice none 0 0)).setCell ⟨w.heap.size + 1, 4, none⟩ (.slice none 0 0) = WF at *
  obtain ⟨F1, F2⟩ := F
  obtain ⟨q0, q1, q2, q3, q4⟩ := F1.cells5
  refine bodyPost_ret (v := .tuple #[.agg #[.int .i64 0, .int .i64 0, .string ⟨#[]⟩, .slice none 0 0, .slice none 0 0], .bool false]) (by simp [results, Tryd.results37, go_sem, q0, q1, q2, q3, q4]) rfl ?_
  rw [HR.out]; exact F2
set_option maxHeartbeats 2000000 in
theorem fget_place1 (p : ByteArray) (IH : FGetOK []) (n : Nd) (h6 : n.kind = 6) (hp42 : p.toList ≠ [42]) : FGetStep p [] n 1 1 (fun ab ao => some ⟨ab, ao, none⟩) := by
  intro hpz cs w S ab ao hn hS hSB hab hp hr hc hs hct
  cases n with
  | mk k num t ks ns =>
  have HK : Hid (∀ (i : Nat) (m : Nd), ns[i]? = some m → sizeOk m ∧ m.count ≤ 1000000) := fun i m hi => by
    have := kid_ok (n := .mk k num t ks ns) (i := i) (m := m) hi hs
    exact ⟨this.1, by omega⟩
  unfold NdIn at hn
  obtain ⟨A1, ck, A2, cc, xs, rfl, hks, hxs, hns, ik, inn, ht, hkl, hkm, hmm⟩ := hn
  simp only [Nd.kind] at h6
  subst h6
  obtain ⟨V, hV⟩ : ∃ V, V = placeF p ns.length := ⟨_, rfl⟩
  have e42 : (p.toList == [42]) = false := by rw [beq_eq_false_iff_ne]; exact hp42
  have HS := Lib.hid hS
  have HSB := Lib.hid hSB
  clear hSB
  have HXS := Lib.hid hxs
  have HNS := Lib.hid hns
  have HR := Lib.hid hr
  have HV := Lib.hid hV
  clear hS hks hxs hns hkl hr hV hp42 hs
  have hp0 := Lib.hid hp
  show Calls Tryd.prog 37 #[.agg #[.int .i64 6, .int .i64 num, .string t, .slice A1 ks.length ck, .slice A2 ns.length cc], .slice (some ⟨ab, ao, none⟩) 1 1] w _
  have hA : Below w.heap.size w ((w.alloc (.cells #[.int .i64 6, .int .i64 num, .string t, .slice A1 ks.length ck, .slice A2 ns.length cc] 25)).alloc (.cells #[.int .i64 0, .int .i64 0, .string ⟨#[]⟩, .slice none 0 0, .slice none 0 0] 25)) := ((Below.refl _ _).alloc (Nat.le_refl _) _).alloc (by simp) _
  have hX : Blk ((w.alloc (.cells #[.int .i64 6, .int .i64 num, .string t, .slice A1 ks.length ck, .slice A2 ns.length cc] 25)).alloc (.cells #[.int .i64 0, .int .i64 0, .string ⟨#[]⟩, .slice none 0 0, .slice none 0 0] 25)) w.heap.size 25 #[.int .i64 6, .int .i64 num, .string t, .slice A1 ks.length ck, .slice A2 ns.length cc] := (Blk.new w _ _).alloc _
  have hY : Blk ((w.alloc (.cells #[.int .i64 6, .int .i64 num, .string t, .slice A1 ks.length ck, .slice A2 ns.length cc] 25)).alloc (.cells #[.int .i64 0, .int .i64 0, .string ⟨#[]⟩, .slice none 0 0, .slice none 0 0] 25)) (w.heap.size + 1) 25 #[.int .i64 0, .int .i64 0, .string ⟨#[]⟩, .slice none 0 0, .slice none 0 0] := by
    have := Blk.new (w.alloc (.cells #[.int .i64 6, .int .i64 num, .string t, .slice A1 ks.length ck, .slice A2 ns.length cc] 25)) 25 #[.int .i64 0, .int .i64 0, .string ⟨#[]⟩, .slice none 0 0, .slice none 0 0]
    simpa using this
  have hZ : w.heap.size + 2 = ((w.alloc (.cells #[.int .i64 6, .int .i64 num, .string t, .slice A1 ks.length ck, .slice A2 ns.length cc] 25)).alloc (.cells #[.int .i64 0, .int .i64 0, .string ⟨#[]⟩, .slice none 0 0, .slice none 0 0] 25)).heap.size := by simp
  have HA := Lib.hid hA
  have HX := Lib.hid hX
  have HY := Lib.hid hY
  clear hA hX hY
  go_enter Tryd.func37, Tryd.ntmps37
  go_upto_region 1 with fail
  generalize (w.alloc (.cells #[.int .i64 6, .int .i64 num, .string t, .slice A1 ks.length ck, .slice A2 ns.length cc] 25)).alloc (.cells #[.int .i64 0, .int .i64 0, .string ⟨#[]⟩, .slice none 0 0, .slice none 0 0] 25) = wa at *
  have p0 : wa.cell? ⟨ab, ao, none⟩ = some (.string p) := (HA.out.cell (p := ⟨ab, ao, none⟩) hab).trans hp0.out
  obtain ⟨c0, c1, c2, c3, c4⟩ := HX.out.cells5
  obtain ⟨d0, d1, d2, d3, d4⟩ := HY.out.cells5
  have f0 := HY.out.frozen 0
  have f1 := HY.out.frozen 1
  have f2 := HY.out.frozen 2
  have f3 := HY.out.frozen 3
  have f4 := HY.out.frozen 4
  clear hp
  have HPL : Hid (∀ w', Calls Tryd.prog 52 #[.string p] w' (NumEnd (numB p) w')) := fun w' => rnumber_any p w' hpz
  have HPV : Hid (V = if (numB p).2 = false ∨ (ns.length : Int) ≤ (numB p).1 then -1 else (numB p).1) := by
    show _ = _
    rw [HV.out]
    exact place_num p ns.length (by have := len_counts ns; simp only [Nd.count] at hct; omega)
  have HNN := Lib.hid (numB_nonneg p)
  clear hpz
  generalize numB p = q at *
  obtain ⟨v1, v2⟩ := q
  go_wp2_with fail
  refine (HPL.out _ : Calls _ _ _ _ _).mono ?_; rintro e w5 ⟨rfl, hw5⟩; obtain rfl : _ = w5 := hw5
  have HA2 := HA
  have HX2 := HX
  have HY2 := HY
  have hZ2 := hZ
  clear HA HX HY hZ c0 c1 c2 c3 c4 d0 d1 d2 d3 d4 f0 f1 f2 f3 f4 p0 HPL
  obtain ⟨wd, rfl⟩ : ∃ wd : World, wd = wa := ⟨_, rfl⟩
  by_cases hv : V < 0
  · have HG : Hid (getN (p :: []) (.mk 6 num t ks ns) = none) := by
      show _ = _
      rw [HV.out] at hv
      have e42' : p.toList ≠ [42] := by rw [beq_eq_false_iff_ne] at e42; exact e42
      simp [getN, Nd.kind, Nd.kids, e42', hv]
    have hcs : v2 = false ∨ (v2 = true ∧ (ns.length : Int) ≤ v1) := by
      have h := HPV.out
      cases v2 with
      | false => exact .inl rfl
      | true =>
        refine .inr ⟨rfl, ?_⟩
        by_cases hle : (ns.length : Int) ≤ v1
        · exact hle
        · rw [if_neg (by simp; omega)] at h
          have h0 := HNN.out rfl
          omega
    clear HPV
    rcases hcs with rfl | ⟨rfl, hge⟩
    all_goals
      obtain ⟨c0, c1, c2, c3, c4⟩ := HX2.out.cells5
      obtain ⟨d0, d1, d2, d3, d4⟩ := HY2.out.cells5
      have f0 := HY2.out.frozen 0
      have f1 := HY2.out.frozen 1
      have f2 := HY2.out.frozen 2
      have f3 := HY2.out.frozen 3
      have f4 := HY2.out.frozen 4
      go_wp2_with fail
      clear d0 d1 d2 d3 d4 f0 f1 f2 f3 f4
      have F := get_fin (r := none) (S := S) (S2 := (fun _ => False)) (w := w) (w2 := wd) (y := w.heap.size + 1) (by omega) HA2.out HY2.out (nd0_in 0 (by unfold I64; omega) _ _) (fun b hb => hb.elim)
      unfold set5 at F
      generalize (((((wd).setCell ⟨w.heap.size + 1, 0, none⟩ (.int .i64 0)).setCell ⟨w.heap.size + 1, 1, none⟩ (.int .i64 0)).setCell ⟨w.heap.size + 1, 2, none⟩ (.string ⟨#[]⟩)).setCell ⟨w.heap.size + 1, 3, none⟩ (.slice none 0 0)).setCell ⟨w.heap.size + 1, 4, none⟩ (.slice none 0 0) = WF at *
      obtain ⟨F1, F2⟩ := F
      obtain ⟨q0, q1, q2, q3, q4⟩ := F1.cells5
      refine bodyPost_ret (v := .tuple #[.agg #[.int .i64 0, .int .i64 0, .string ⟨#[]⟩, .slice none 0 0, .slice none 0 0], .bool false]) (by simp [results, Tryd.results37, go_sem, q0, q1, q2, q3, q4]) rfl ?_
      rw [HG.out]; exact F2
  · obtain ⟨i, hi, hVi⟩ : ∃ i : Nat, i < ns.length ∧ V = i := by
      rcases placeF_lt p ns.length with h | ⟨i, h1, h2⟩
      · rw [HV.out] at hv; omega
      · exact ⟨i, h1, HV.out.trans h2⟩
    have hv12 : v2 = true ∧ v1 = (i : Int) := by
      have h := HPV.out
      by_cases hc : v2 = false ∨ (ns.length : Int) ≤ v1
      · rw [if_pos hc] at h; omega
      · rw [if_neg hc] at h
        simp only [not_or] at hc
        exact ⟨by simpa using hc.1, by omega⟩
    obtain ⟨rfl, rfl⟩ := hv12
    clear HPV
    have hkp : ∀ q : Addr, S q.block → wd.cell? q = w.cell? q := fun q hq => HA2.out.cell (HS.out _ hq)
    obtain ⟨b, off, m, rfl, hbS, hmi, x0, x1, x2, x3, x4, x5, x6, x7, x8, hnd, e0, e1, e2, e3, e4⟩ := (HXS.out.keep hkp).nd (NdsIn.keep hkp (fun _ h => h) _ _ HNS.out) hi
    have HG : Hid (getN (p :: []) (.mk 6 num t ks ns) = getN [] m) := by
      show _ = _
      have e42' : p.toList ≠ [42] := by rw [beq_eq_false_iff_ne] at e42; exact e42
      have hp0 := HV.out.symm.trans hVi
      have hnn : ¬ (i : Int) < 0 := by omega
      simp [getN, Nd.kind, Nd.kids, e42', hp0, hmi, hnn]
    subst hVi
    have hbl := HS.out b hbS
    have HM := Lib.hid (HK.out i m hmi)
    have HB := Lib.hid hbS
    have HIH : Hid (∀ w', Below w.heap.size w w' → Calls Tryd.prog 37 #[.agg #[.int .i64 x0, .int .i64 x1, .string x2, .slice x3 x4 x5, .slice x6 x7 x8], .slice (some ⟨ab, ao, none⟩) 0 0] w' (GetP (getN [] m) S w')) := fun w' h' =>
      IH m [.int .i64 x0, .int .i64 x1, .string x2, .slice x3 x4 x5, .slice x6 x7 x8] w' S _ 0 (NdIn.keep (fun q hq => (h'.cell (HS.out _ hq)).trans (hkp q hq).symm) (fun _ h => h) _ _ hnd) (fun b hb => by have := HS.out b hb; have := h'.size; omega) HSB.out ((HR.out.keep fun q hq => h'.cell hq).more h'.size) (Nat.le_refl _) (by unfold maxLen at *; omega) HM.out.1 HM.out.2
    have hi0 : (0 : Int) ≤ (i : Int) := by omega
    have hi1 : (i : Int) < (ns.length : Int) := by omega
    have hl1 : (1 : Int) ≤ (1 : Nat) := by omega
    skip
    have hxy : w.heap.size ≠ w.heap.size + 1 := by omega
    have hby : b ≠ w.heap.size + 1 := by omega
    obtain ⟨c0, c1, c2, c3, c4⟩ := HX2.out.cells5
    clear c0 c1 c2 c3
    obtain ⟨d0, d1, d2, d3, d4⟩ := HY2.out.cells5
    have f0 := HY2.out.frozen 0
    have f1 := HY2.out.frozen 1
    have f2 := HY2.out.frozen 2
    have f3 := HY2.out.frozen 3
    have f4 := HY2.out.frozen 4
    have hgs : GS w w.heap.size 4 b (off + i * 5) (.slice (some ⟨b, off, none⟩) ns.length cc) (.int .i64 x0) (.int .i64 x1) (.string x2) (.slice x3 x4 x5) (.slice x6 x7 x8) wd := ⟨c4, e0, e1, e2, e3, e4, HA2.out⟩
    have HGS := Lib.hid hgs
    have HS0 : Hid (wd.drew.cell? ⟨w.heap.size, 4, none⟩ = some (.slice (some ⟨b, off, none⟩) ns.length cc) ∧ wd.drew.cell? ⟨b, off + i * 5, none⟩ = some (.int .i64 x0) ∧ wd.drew.cell? ⟨b, off + i * 5 + 1, none⟩ = some (.int .i64 x1) ∧ wd.drew.cell? ⟨b, off + i * 5 + 2, none⟩ = some (.string x2) ∧ wd.drew.cell? ⟨b, off + i * 5 + 3, none⟩ = some (.slice x3 x4 x5) ∧ wd.drew.cell? ⟨b, off + i * 5 + 4, none⟩ = some (.slice x6 x7 x8) ∧ Below w.heap.size w wd.drew) := hgs.drew
    clear hkp hmi hnd hbS IH hv hgs
    go_wp2_with fail
    go_region_held3 (fun w' => w'.cell? ⟨w.heap.size, 4, none⟩ = some (.slice (some ⟨b, off, none⟩) ns.length cc) ∧ w'.cell? ⟨b, off + i * 5, none⟩ = some (.int .i64 x0) ∧ w'.cell? ⟨b, off + i * 5 + 1, none⟩ = some (.int .i64 x1) ∧ w'.cell? ⟨b, off + i * 5 + 2, none⟩ = some (.string x2) ∧ w'.cell? ⟨b, off + i * 5 + 3, none⟩ = some (.slice x3 x4 x5) ∧ w'.cell? ⟨b, off + i * 5 + 4, none⟩ = some (.slice x6 x7 x8) ∧ Below w.heap.size w w') (first | with_reducible exact HS0.out | with_reducible exact HS5.out | with_reducible exact HSF.out) (first
      | (go_at_call 37; refine (HIH.out _ (by first | assumption | exact HA2.out.drew)).mono ?_; rintro e w5 ⟨y0, y1, y2, y3, y4, y5, y6, y7, y8, rfl, hn5, hb5⟩; have hY5 := HY2.out.drew.below hb5 HY2.out.drew.lt; have HY5 := Lib.hid hY5; have HN5 := Lib.hid hn5; have hz5 : wd.heap.size ≤ w5.heap.size := hb5.size; clear hn5; obtain ⟨d0, d1, d2, d3, d4⟩ := hY5.cells5; have f0 := hY5.frozen 0; have f1 := hY5.frozen 1; have f2 := hY5.frozen 2; have f3 := hY5.frozen 3; have f4 := hY5.frozen 4; have HS5 : Hid (w5.cell? ⟨w.heap.size, 4, none⟩ = some (.slice (some ⟨b, off, none⟩) ns.length cc) ∧ w5.cell? ⟨b, off + i * 5, none⟩ = some (.int .i64 x0) ∧ w5.cell? ⟨b, off + i * 5 + 1, none⟩ = some (.int .i64 x1) ∧ w5.cell? ⟨b, off + i * 5 + 2, none⟩ = some (.string x2) ∧ w5.cell? ⟨b, off + i * 5 + 3, none⟩ = some (.slice x3 x4 x5) ∧ w5.cell? ⟨b, off + i * 5 + 4, none⟩ = some (.slice x6 x7 x8) ∧ Below w.heap.size w w5) := HGS.out.drew.below hb5; have HSF : Hid ((((((w5.setCell ⟨w.heap.size + 1, 0, none⟩ (.int .i64 y0)).setCell ⟨w.heap.size + 1, 1, none⟩ (.int .i64 y1)).setCell ⟨w.heap.size + 1, 2, none⟩ (.string y2)).setCell ⟨w.heap.size + 1, 3, none⟩ (.slice y3 y4 y5)).setCell ⟨w.heap.size + 1, 4, none⟩ (.slice y6 y7 y8)).cell? ⟨w.heap.size, 4, none⟩ = some (.slice (some ⟨b, off, none⟩) ns.length cc) ∧ (((((w5.setCell ⟨w.heap.size + 1, 0, none⟩ (.int .i64 y0)).setCell ⟨w.heap.size + 1, 1, none⟩ (.int .i64 y1)).setCell ⟨w.heap.size + 1, 2, none⟩ (.string y2)).setCell ⟨w.heap.size + 1, 3, none⟩ (.slice y3 y4 y5)).setCell ⟨w.heap.size + 1, 4, none⟩ (.slice y6 y7 y8)).cell? ⟨b, off + i * 5, none⟩ = some (.int .i64 x0) ∧ (((((w5.setCell ⟨w.heap.size + 1, 0, none⟩ (.int .i64 y0)).setCell ⟨w.heap.size + 1, 1, none⟩ (.int .i64 y1)).setCell ⟨w.heap.size + 1, 2, none⟩ (.string y2)).setCell ⟨w.heap.size + 1, 3, none⟩ (.slice y3 y4 y5)).setCell ⟨w.heap.size + 1, 4, none⟩ (.slice y6 y7 y8)).cell? ⟨b, off + i * 5 + 1, none⟩ = some (.int .i64 x1) ∧ (((((w5.setCell ⟨w.heap.size + 1, 0, none⟩ (.int .i64 y0)).setCell ⟨w.heap.size + 1, 1, none⟩ (.int .i64 y1)).setCell ⟨w.heap.size + 1, 2, none⟩ (.string y2)).setCell ⟨w.heap.size + 1, 3, none⟩ (.slice y3 y4 y5)).setCell ⟨w.heap.size + 1, 4, none⟩ (.slice y6 y7 y8)).cell? ⟨b, off + i * 5 + 2, none⟩ = some (.string x2) ∧ (((((w5.setCell ⟨w.heap.size + 1, 0, none⟩ (.int .i64 y0)).setCell ⟨w.heap.size + 1, 1, none⟩ (.int .i64 y1)).setCell ⟨w.heap.size + 1, 2, none⟩ (.string y2)).setCell ⟨w.heap.size + 1, 3, none⟩ (.slice y3 y4 y5)).setCell ⟨w.heap.size + 1, 4, none⟩ (.slice y6 y7 y8)).cell? ⟨b, off + i * 5 + 3, none⟩ = some (.slice x3 x4 x5) ∧ (((((w5.setCell ⟨w.heap.size + 1, 0, none⟩ (.int .i64 y0)).setCell ⟨w.heap.size + 1, 1, none⟩ (.int .i64 y1)).setCell ⟨w.heap.size + 1, 2, none⟩ (.string y2)).setCell ⟨w.heap.size + 1, 3, none⟩ (.slice y3 y4 y5)).setCell ⟨w.heap.size + 1, 4, none⟩ (.slice y6 y7 y8)).cell? ⟨b, off + i * 5 + 4, none⟩ = some (.slice x6 x7 x8) ∧ Below w.heap.size w (((((w5.setCell ⟨w.heap.size + 1, 0, none⟩ (.int .i64 y0)).setCell ⟨w.heap.size + 1, 1, none⟩ (.int .i64 y1)).setCell ⟨w.heap.size + 1, 2, none⟩ (.string y2)).setCell ⟨w.heap.size + 1, 3, none⟩ (.slice y3 y4 y5)).setCell ⟨w.heap.size + 1, 4, none⟩ (.slice y6 y7 y8))) := (HGS.out.drew.below hb5).set5 (by omega) hxy hby))
    go_wp2_with fail
    clear d0 d1 d2 d3 d4 f0 f1 f2 f3 f4
    have F := get_fin (r := getN [] m) (S := S) (S2 := (fun b => S b ∨ Since wd.drew w5 b)) (w := w) (w2 := w5) (y := w.heap.size + 1) (by omega) HS5.out.2.2.2.2.2.2 HY5.out HN5.out (fun b hb => by
        rcases hb with hb | hb
        · exact ⟨.inl hb, fun e => by have := HS.out b hb; omega⟩
        · have h1 : wd.heap.size ≤ b := hb.1
          exact ⟨.inr ⟨by omega, hb.2⟩, by omega⟩)
    unfold set5 at F
    generalize (((((w5).setCell ⟨w.heap.size + 1, 0, none⟩ (.int .i64 y0)).setCell ⟨w.heap.size + 1, 1, none⟩ (.int .i64 y1)).setCell ⟨w.heap.size + 1, 2, none⟩ (.string y2)).setCell ⟨w.heap.size + 1, 3, none⟩ (.slice y3 y4 y5)).setCell ⟨w.heap.size + 1, 4, none⟩ (.slice y6 y7 y8) = WF at *
    obtain ⟨F1, F2⟩ := F
    obtain ⟨q0, q1, q2, q3, q4⟩ := F1.cells5
    refine bodyPost_ret (v := .tuple #[.agg #[.int .i64 y0, .int .i64 y1, .string y2, .slice y3 y4 y5, .slice y6 y7 y8], .bool (getN [] m).isSome]) (by simp [results, Tryd.results37, go_sem, q0, q1, q2, q3, q4]) rfl ?_
    rw [HG.out]; exact F2
set_option maxHeartbeats 2000000 in
theorem fget_place2 (p : ByteArray) (l : List ByteArray) (c : Nat) (hc1 : ¬ c = 1) (hl : l.length + 1 ≤ c) (IH : FGetOK l) (n : Nd) (h6 : n.kind = 6) (hp42 : p.toList ≠ [42]) : FGetStep p l n (l.length + 1) c (fun ab ao => some ⟨ab, ao + 1, none⟩) := by
  intro hpz cs w S ab ao hn hS hSB hab hp hr hc hs hct
  cases n with
  | mk k num t ks ns =>
  have HK : Hid (∀ (i : Nat) (m : Nd), ns[i]? = some m → sizeOk m ∧ m.count ≤ 1000000) := fun i m hi => by
    have := kid_ok (n := .mk k num t ks ns) (i := i) (m := m) hi hs
    exact ⟨this.1, by omega⟩
  unfold NdIn at hn
  obtain ⟨A1, ck, A2, cc, xs, rfl, hks, hxs, hns, ik, inn, ht, hkl, hkm, hmm⟩ := hn
  simp only [Nd.kind] at h6
  subst h6
  obtain ⟨V, hV⟩ : ∃ V, V = placeF p ns.length := ⟨_, rfl⟩
  have e42 : (p.toList == [42]) = false := by rw [beq_eq_false_iff_ne]; exact hp42
  have HS := Lib.hid hS
  have HSB := Lib.hid hSB
  clear hSB
  have HXS := Lib.hid hxs
  have HNS := Lib.hid hns
  have HR := Lib.hid hr
  have HV := Lib.hid hV
  clear hS hks hxs hns hkl hr hV hp42 hs
  have hp0 := Lib.hid hp
  show Calls Tryd.prog 37 #[.agg #[.int .i64 6, .int .i64 num, .string t, .slice A1 ks.length ck, .slice A2 ns.length cc], .slice (some ⟨ab, ao, none⟩) (l.length + 1) c] w _
  have hA : Below w.heap.size w ((w.alloc (.cells #[.int .i64 6, .int .i64 num, .string t, .slice A1 ks.length ck, .slice A2 ns.length cc] 25)).alloc (.cells #[.int .i64 0, .int .i64 0, .string ⟨#[]⟩, .slice none 0 0, .slice none 0 0] 25)) := ((Below.refl _ _).alloc (Nat.le_refl _) _).alloc (by simp) _
  have hX : Blk ((w.alloc (.cells #[.int .i64 6, .int .i64 num, .string t, .slice A1 ks.length ck, .slice A2 ns.length cc] 25)).alloc (.cells #[.int .i64 0, .int .i64 0, .string ⟨#[]⟩, .slice none 0 0, .slice none 0 0] 25)) w.heap.size 25 #[.int .i64 6, .int .i64 num, .string t, .slice A1 ks.length ck, .slice A2 ns.length cc] := (Blk.new w _ _).alloc _
  have hY : Blk ((w.alloc (.cells #[.int .i64 6, .int .i64 num, .string t, .slice A1 ks.length ck, .slice A2 ns.length cc] 25)).alloc (.cells #[.int .i64 0, .int .i64 0, .string ⟨#[]⟩, .slice none 0 0, .slice none 0 0] 25)) (w.heap.size + 1) 25 #[.int .i64 0, .int .i64 0, .string ⟨#[]⟩, .slice none 0 0, .slice none 0 0] := by
    have := Blk.new (w.alloc (.cells #[.int .i64 6, .int .i64 num, .string t, .slice A1 ks.length ck, .slice A2 ns.length cc] 25)) 25 #[.int .i64 0, .int .i64 0, .string ⟨#[]⟩, .slice none 0 0, .slice none 0 0]
    simpa using this
  have hZ : w.heap.size + 2 = ((w.alloc (.cells #[.int .i64 6, .int .i64 num, .string t, .slice A1 ks.length ck, .slice A2 ns.length cc] 25)).alloc (.cells #[.int .i64 0, .int .i64 0, .string ⟨#[]⟩, .slice none 0 0, .slice none 0 0] 25)).heap.size := by simp
  have HA := Lib.hid hA
  have HX := Lib.hid hX
  have HY := Lib.hid hY
  clear hA hX hY
  go_enter Tryd.func37, Tryd.ntmps37
  go_upto_region 1 with fail
  generalize (w.alloc (.cells #[.int .i64 6, .int .i64 num, .string t, .slice A1 ks.length ck, .slice A2 ns.length cc] 25)).alloc (.cells #[.int .i64 0, .int .i64 0, .string ⟨#[]⟩, .slice none 0 0, .slice none 0 0] 25) = wa at *
  have p0 : wa.cell? ⟨ab, ao, none⟩ = some (.string p) := (HA.out.cell (p := ⟨ab, ao, none⟩) hab).trans hp0.out
  obtain ⟨c0, c1, c2, c3, c4⟩ := HX.out.cells5
  obtain ⟨d0, d1, d2, d3, d4⟩ := HY.out.cells5
  have f0 := HY.out.frozen 0
  have f1 := HY.out.frozen 1
  have f2 := HY.out.frozen 2
  have f3 := HY.out.frozen 3
  have f4 := HY.out.frozen 4
  clear hp
  have HPL : Hid (∀ w', Calls Tryd.prog 52 #[.string p] w' (NumEnd (numB p) w')) := fun w' => rnumber_any p w' hpz
  have HPV : Hid (V = if (numB p).2 = false ∨ (ns.length : Int) ≤ (numB p).1 then -1 else (numB p).1) := by
    show _ = _
    rw [HV.out]
    exact place_num p ns.length (by have := len_counts ns; simp only [Nd.count] at hct; omega)
  have HNN := Lib.hid (numB_nonneg p)
  clear hpz
  generalize numB p = q at *
  obtain ⟨v1, v2⟩ := q
  go_wp2_with fail
  refine (HPL.out _ : Calls _ _ _ _ _).mono ?_; rintro e w5 ⟨rfl, hw5⟩; obtain rfl : _ = w5 := hw5
  have HA2 := HA
  have HX2 := HX
  have HY2 := HY
  have hZ2 := hZ
  clear HA HX HY hZ c0 c1 c2 c3 c4 d0 d1 d2 d3 d4 f0 f1 f2 f3 f4 p0 HPL
  obtain ⟨wd, rfl⟩ : ∃ wd : World, wd = wa := ⟨_, rfl⟩
  by_cases hv : V < 0
  · have HG : Hid (getN (p :: l) (.mk 6 num t ks ns) = none) := by
      show _ = _
      rw [HV.out] at hv
      have e42' : p.toList ≠ [42] := by rw [beq_eq_false_iff_ne] at e42; exact e42
      simp [getN, Nd.kind, Nd.kids, e42', hv]
    have hcs : v2 = false ∨ (v2 = true ∧ (ns.length : Int) ≤ v1) := by
      have h := HPV.out
      cases v2 with
      | false => exact .inl rfl
      | true =>
        refine .inr ⟨rfl, ?_⟩
        by_cases hle : (ns.length : Int) ≤ v1
        · exact hle
        · rw [if_neg (by simp; omega)] at h
          have h0 := HNN.out rfl
          omega
    clear HPV
    rcases hcs with rfl | ⟨rfl, hge⟩
    all_goals
      obtain ⟨c0, c1, c2, c3, c4⟩ := HX2.out.cells5
      obtain ⟨d0, d1, d2, d3, d4⟩ := HY2.out.cells5
      have f0 := HY2.out.frozen 0
      have f1 := HY2.out.frozen 1
      have f2 := HY2.out.frozen 2
      have f3 := HY2.out.frozen 3
      have f4 := HY2.out.frozen 4
      go_wp2_with fail
      clear d0 d1 d2 d3 d4 f0 f1 f2 f3 f4
      have F := get_fin (r := none) (S := S) (S2 := (fun _ => False)) (w := w) (w2 := wd) (y := w.heap.size + 1) (by omega) HA2.out HY2.out (nd0_in 0 (by unfold I64; omega) _ _) (fun b hb => hb.elim)
      unfold set5 at F
      generalize (((((wd).setCell ⟨w.heap.size + 1, 0, none⟩ (.int .i64 0)).setCell ⟨w.heap.size + 1, 1, none⟩ (.int .i64 0)).setCell ⟨w.heap.size + 1, 2, none⟩ (.string ⟨#[]⟩)).setCell ⟨w.heap.size + 1, 3, none⟩ (.slice none 0 0)).setCell ⟨w.heap.size + 1, 4, none⟩ (.slice none 0 0) = WF at *
      obtain ⟨F1, F2⟩ := F
      obtain ⟨q0, q1, q2, q3, q4⟩ := F1.cells5
      refine bodyPost_ret (v := .tuple #[.agg #[.int .i64 0, .int .i64 0, .string ⟨#[]⟩, .slice none 0 0, .slice none 0 0], .bool false]) (by simp [results, Tryd.results37, go_sem, q0, q1, q2, q3, q4]) rfl ?_
      rw [HG.out]; exact F2
  · obtain ⟨i, hi, hVi⟩ : ∃ i : Nat, i < ns.length ∧ V = i := by
      rcases placeF_lt p ns.length with h | ⟨i, h1, h2⟩
      · rw [HV.out] at hv; omega
      · exact ⟨i, h1, HV.out.trans h2⟩
    have hv12 : v2 = true ∧ v1 = (i : Int) := by
      have h := HPV.out
      by_cases hc : v2 = false ∨ (ns.length : Int) ≤ v1
      · rw [if_pos hc] at h; omega
      · rw [if_neg hc] at h
        simp only [not_or] at hc
        exact ⟨by simpa using hc.1, by omega⟩
    obtain ⟨rfl, rfl⟩ := hv12
    clear HPV
    have hkp : ∀ q : Addr, S q.block → wd.cell? q = w.cell? q := fun q hq => HA2.out.cell (HS.out _ hq)
    obtain ⟨b, off, m, rfl, hbS, hmi, x0, x1, x2, x3, x4, x5, x6, x7, x8, hnd, e0, e1, e2, e3, e4⟩ := (HXS.out.keep hkp).nd (NdsIn.keep hkp (fun _ h => h) _ _ HNS.out) hi
    have HG : Hid (getN (p :: l) (.mk 6 num t ks ns) = getN l m) := by
      show _ = _
      have e42' : p.toList ≠ [42] := by rw [beq_eq_false_iff_ne] at e42; exact e42
      have hp0 := HV.out.symm.trans hVi
      have hnn : ¬ (i : Int) < 0 := by omega
      simp [getN, Nd.kind, Nd.kids, e42', hp0, hmi, hnn]
    subst hVi
    have hbl := HS.out b hbS
    have HM := Lib.hid (HK.out i m hmi)
    have HB := Lib.hid hbS
    have HIH : Hid (∀ w', Below w.heap.size w w' → Calls Tryd.prog 37 #[.agg #[.int .i64 x0, .int .i64 x1, .string x2, .slice x3 x4 x5, .slice x6 x7 x8], .slice (some ⟨ab, ao + 1, none⟩) l.length (c - 1)] w' (GetP (getN l m) S w')) := fun w' h' =>
      IH m [.int .i64 x0, .int .i64 x1, .string x2, .slice x3 x4 x5, .slice x6 x7 x8] w' S _ (c - 1) (NdIn.keep (fun q hq => (h'.cell (HS.out _ hq)).trans (hkp q hq).symm) (fun _ h => h) _ _ hnd) (fun b hb => by have := HS.out b hb; have := h'.size; omega) HSB.out ((HR.out.keep fun q hq => h'.cell hq).more h'.size) (by omega) (by unfold maxLen at *; omega) HM.out.1 HM.out.2
    have hi0 : (0 : Int) ≤ (i : Int) := by omega
    have hi1 : (i : Int) < (ns.length : Int) := by omega
    have hl1 : (1 : Int) ≤ ((l.length + 1) : Nat) := by omega
    have hx : ¬ (l.length : Int) + 1 < 1 := by omega
    have hxy : w.heap.size ≠ w.heap.size + 1 := by omega
    have hby : b ≠ w.heap.size + 1 := by omega
    obtain ⟨c0, c1, c2, c3, c4⟩ := HX2.out.cells5
    clear c0 c1 c2 c3
    obtain ⟨d0, d1, d2, d3, d4⟩ := HY2.out.cells5
    have f0 := HY2.out.frozen 0
    have f1 := HY2.out.frozen 1
    have f2 := HY2.out.frozen 2
    have f3 := HY2.out.frozen 3
    have f4 := HY2.out.frozen 4
    have hgs : GS w w.heap.size 4 b (off + i * 5) (.slice (some ⟨b, off, none⟩) ns.length cc) (.int .i64 x0) (.int .i64 x1) (.string x2) (.slice x3 x4 x5) (.slice x6 x7 x8) wd := ⟨c4, e0, e1, e2, e3, e4, HA2.out⟩
    have HGS := Lib.hid hgs
    have HS0 : Hid (wd.drew.cell? ⟨w.heap.size, 4, none⟩ = some (.slice (some ⟨b, off, none⟩) ns.length cc) ∧ wd.drew.cell? ⟨b, off + i * 5, none⟩ = some (.int .i64 x0) ∧ wd.drew.cell? ⟨b, off + i * 5 + 1, none⟩ = some (.int .i64 x1) ∧ wd.drew.cell? ⟨b, off + i * 5 + 2, none⟩ = some (.string x2) ∧ wd.drew.cell? ⟨b, off + i * 5 + 3, none⟩ = some (.slice x3 x4 x5) ∧ wd.drew.cell? ⟨b, off + i * 5 + 4, none⟩ = some (.slice x6 x7 x8) ∧ Below w.heap.size w wd.drew) := hgs.drew
    clear hkp hmi hnd hbS IH hv hgs
    go_wp2_with fail
    go_region_held3 (fun w' => w'.cell? ⟨w.heap.size, 4, none⟩ = some (.slice (some ⟨b, off, none⟩) ns.length cc) ∧ w'.cell? ⟨b, off + i * 5, none⟩ = some (.int .i64 x0) ∧ w'.cell? ⟨b, off + i * 5 + 1, none⟩ = some (.int .i64 x1) ∧ w'.cell? ⟨b, off + i * 5 + 2, none⟩ = some (.string x2) ∧ w'.cell? ⟨b, off + i * 5 + 3, none⟩ = some (.slice x3 x4 x5) ∧ w'.cell? ⟨b, off + i * 5 + 4, none⟩ = some (.slice x6 x7 x8) ∧ Below w.heap.size w w') (first | with_reducible exact HS0.out | with_reducible exact HS5.out | with_reducible exact HSF.out) (first
      | (go_at_call 37; refine (HIH.out _ (by first | assumption | exact HA2.out.drew)).mono ?_; rintro e w5 ⟨y0, y1, y2, y3, y4, y5, y6, y7, y8, rfl, hn5, hb5⟩; have hY5 := HY2.out.drew.below hb5 HY2.out.drew.lt; have HY5 := Lib.hid hY5; have HN5 := Lib.hid hn5; have hz5 : wd.heap.size ≤ w5.heap.size := hb5.size; clear hn5; obtain ⟨d0, d1, d2, d3, d4⟩ := hY5.cells5; have f0 := hY5.frozen 0; have f1 := hY5.frozen 1; have f2 := hY5.frozen 2; have f3 := hY5.frozen 3; have f4 := hY5.frozen 4; have HS5 : Hid (w5.cell? ⟨w.heap.size, 4, none⟩ = some (.slice (some ⟨b, off, none⟩) ns.length cc) ∧ w5.cell? ⟨b, off + i * 5, none⟩ = some (.int .i64 x0) ∧ w5.cell? ⟨b, off + i * 5 + 1, none⟩ = some (.int .i64 x1) ∧ w5.cell? ⟨b, off + i * 5 + 2, none⟩ = some (.string x2) ∧ w5.cell? ⟨b, off + i * 5 + 3, none⟩ = some (.slice x3 x4 x5) ∧ w5.cell? ⟨b, off + i * 5 + 4, none⟩ = some (.slice x6 x7 x8) ∧ Below w.heap.size w w5) := HGS.out.drew.below hb5; have HSF : Hid ((((((w5.setCell ⟨w.heap.size + 1, 0, none⟩ (.int .i64 y0)).setCell ⟨w.heap.size + 1, 1, none⟩ (.int .i64 y1)).setCell ⟨w.heap.size + 1, 2, none⟩ (.string y2)).setCell ⟨w.heap.size + 1, 3, none⟩ (.slice y3 y4 y5)).setCell ⟨w.heap.size + 1, 4, none⟩ (.slice y6 y7 y8)).cell? ⟨w.heap.size, 4, none⟩ = some (.slice (some ⟨b, off, none⟩) ns.length cc) ∧ (((((w5.setCell ⟨w.heap.size + 1, 0, none⟩ (.int .i64 y0)).setCell ⟨w.heap.size + 1, 1, none⟩ (.int .i64 y1)).setCell ⟨w.heap.size + 1, 2, none⟩ (.string y2)).setCell ⟨w.heap.size + 1, 3, none⟩ (.slice y3 y4 y5)).setCell ⟨w.heap.size + 1, 4, none⟩ (.slice y6 y7 y8)).cell? ⟨b, off + i * 5, none⟩ = some (.int .i64 x0) ∧ (((((w5.setCell ⟨w.heap.size + 1, 0, none⟩ (.int .i64 y0)).setCell ⟨w.heap.size + 1, 1, none⟩ (.int .i64 y1)).setCell ⟨w.heap.size + 1, 2, none⟩ (.string y2)).setCell ⟨w.heap.size + 1, 3, none⟩ (.slice y3 y4 y5)).setCell ⟨w.heap.size + 1, 4, none⟩ (.slice y6 y7 y8)).cell? ⟨b, off + i * 5 + 1, none⟩ = some (.int .i64 x1) ∧ (((((w5.setCell ⟨w.heap.size + 1, 0, none⟩ (.int .i64 y0)).setCell ⟨w.heap.size + 1, 1, none⟩ (.int .i64 y1)).setCell ⟨w.heap.size + 1, 2, none⟩ (.string y2)).setCell ⟨w.heap.size + 1, 3, none⟩ (.slice y3 y4 y5)).setCell ⟨w.heap.size + 1, 4, none⟩ (.slice y6 y7 y8)).cell? ⟨b, off + i * 5 + 2, none⟩ = some (.string x2) ∧ (((((w5.setCell ⟨w.heap.size + 1, 0, none⟩ (.int .i64 y0)).setCell ⟨w.heap.size + 1, 1, none⟩ (.int .i64 y1)).setCell ⟨w.heap.size + 1, 2, none⟩ (.string y2)).setCell ⟨w.heap.size + 1, 3, none⟩ (.slice y3 y4 y5)).setCell ⟨w.heap.size + 1, 4, none⟩ (.slice y6 y7 y8)).cell? ⟨b, off + i * 5 + 3, none⟩ = some (.slice x3 x4 x5) ∧ (((((w5.setCell ⟨w.heap.size + 1, 0, none⟩ (.int .i64 y0)).setCell ⟨w.heap.size + 1, 1, none⟩ (.int .i64 y1)).setCell ⟨w.heap.size + 1, 2, none⟩ (.string y2)).setCell ⟨w.heap.size + 1, 3, none⟩ (.slice y3 y4 y5)).setCell ⟨w.heap.size + 1, 4, none⟩ (.slice y6 y7 y8)).cell? ⟨b, off + i * 5 + 4, none⟩ = some (.slice x6 x7 x8) ∧ Below w.heap.size w (((((w5.setCell ⟨w.heap.size + 1, 0, none⟩ (.int .i64 y0)).setCell ⟨w.heap.size + 1, 1, none⟩ (.int .i64 y1)).setCell ⟨w.heap.size + 1, 2, none⟩ (.string y2)).setCell ⟨w.heap.size + 1, 3, none⟩ (.slice y3 y4 y5)).setCell ⟨w.heap.size + 1, 4, none⟩ (.slice y6 y7 y8))) := (HGS.out.drew.below hb5).set5 (by omega) hxy hby))
    go_wp2_with fail
    clear d0 d1 d2 d3 d4 f0 f1 f2 f3 f4
    have F := get_fin (r := getN l m) (S := S) (S2 := (fun b => S b ∨ Since wd.drew w5 b)) (w := w) (w2 := w5) (y := w.heap.size + 1) (by omega) HS5.out.2.2.2.2.2.2 HY5.out HN5.out (fun b hb => by
        rcases hb with hb | hb
        · exact ⟨.inl hb, fun e => by have := HS.out b hb; omega⟩
        · have h1 : wd.heap.size ≤ b := hb.1
          exact ⟨.inr ⟨by omega, hb.2⟩, by omega⟩)
    unfold set5 at F
    generalize (((((w5).setCell ⟨w.heap.size + 1, 0, none⟩ (.int .i64 y0)).setCell ⟨w.heap.size + 1, 1, none⟩ (.int .i64 y1)).setCell ⟨w.heap.size + 1, 2, none⟩ (.string y2)).setCell ⟨w.heap.size + 1, 3, none⟩ (.slice y3 y4 y5)).setCell ⟨w.heap.size + 1, 4, none⟩ (.slice y6 y7 y8) = WF at *
    obtain ⟨F1, F2⟩ := F
    obtain ⟨q0, q1, q2, q3, q4⟩ := F1.cells5
    refine bodyPost_ret (v := .tuple #[.agg #[.int .i64 y0, .int .i64 y1, .string y2, .slice y3 y4 y5, .slice y6 y7 y8], .bool (getN l m).isSome]) (by simp [results, Tryd.results37, go_sem, q0, q1, q2, q3, q4]) rfl ?_
    rw [HG.out]; exact F2
end Go.Proofs.YtnbfagignbbmfaaDoor
/-! The walk of the reference's follow at an object. -/
namespace Go.Proofs.YtnbfagignbbmfaaDoor
open Go.RowKit Go.PlainAid
set_option linter.unusedVariables false
set_option linter.unusedSimpArgs false
set_option maxRecDepth 100000
set_option maxHeartbeats 4000000 in
theorem fget_obj1 (p : ByteArray) (IH : FGetOK []) (n : Nd) (h7 : n.kind = 7) : FGetStep p [] n 1 1 (fun ab ao => some ⟨ab, ao, none⟩) := by
  intro hpz cs w S ab ao hn hS hSB hab hp hr hc hs hct
  have HSB := Lib.hid hSB
  obtain ⟨B, hSB'⟩ := hSB
  have hBz : B ≤ w.heap.size := by
    by_cases h : B ≤ w.heap.size
    · exact h
    · exact absurd (hS w.heap.size ((hSB' _).2 (by omega))) (by omega)
  have hn0 : Hid (NdIs w B n cs) := NdIn.is (fun b hb => (hSB' b).1 hb) _ _ hn
  have HBS : Hid (∀ b, b < B → S b) := fun b hb => (hSB' b).2 hb
  clear hSB'
  have hs0 := Lib.hid hs
  have HKF : Hid (∀ m : Nd, findN n p = some m → sizeOk m ∧ m.count ≤ 1000000) := fun m hm => by
    obtain ⟨i, hi⟩ := findN_kid hm
    have := kid_ok hi hs
    exact ⟨this.1, by omega⟩
  obtain ⟨F, hF⟩ : ∃ F, F = findN n p := ⟨_, rfl⟩
  have HG : Hid (∀ r, (∀ m, F = some m → getN [] m = r) → (F = none → r = none) → getN (p :: []) n = r) := fun r h1 h2 => by
    rw [getN, if_pos h7, ← hF]
    cases F with
    | none => exact (h2 rfl).symm
    | some m => exact h1 m rfl
  have HF := Lib.hid hF
  cases n with
  | mk k num t ks ns =>
  unfold NdIn at hn
  obtain ⟨A1, ck, A2, cc, xs, rfl, hks, hxs, hns, ik, inn, ht, hkl, hkm, hmm⟩ := hn
  simp only [Nd.kind] at h7
  subst h7
  have HFC : Hid (∀ w', Below w.heap.size w w' → Calls Tryd.prog 28 #[.agg #[.int .i64 7, .int .i64 num, .string t, .slice A1 ks.length ck, .slice A2 ns.length cc], .string p] w' (RfindP F B w')) := fun w' h' => by
    rw [HF.out]
    exact rFind_any _ p _ w' B (hn0.out.below (h'.mono hBz)) (Nat.le_trans hBz h'.size)
  have HS := Lib.hid hS
  have HR := Lib.hid hr
  clear hS hks hxs hns hkl hr hs hF hn0 hs0 inn ht hkm hmm hct ik
  have hp0 := Lib.hid hp
  show Calls Tryd.prog 37 #[.agg #[.int .i64 7, .int .i64 num, .string t, .slice A1 ks.length ck, .slice A2 ns.length cc], .slice (some ⟨ab, ao, none⟩) 1 1] w _
  have hA : Below w.heap.size w ((w.alloc (.cells #[.int .i64 7, .int .i64 num, .string t, .slice A1 ks.length ck, .slice A2 ns.length cc] 25)).alloc (.cells #[.int .i64 0, .int .i64 0, .string ⟨#[]⟩, .slice none 0 0, .slice none 0 0] 25)) := ((Below.refl _ _).alloc (Nat.le_refl _) _).alloc (by simp) _
  have hX : Blk ((w.alloc (.cells #[.int .i64 7, .int .i64 num, .string t, .slice A1 ks.length ck, .slice A2 ns.length cc] 25)).alloc (.cells #[.int .i64 0, .int .i64 0, .string ⟨#[]⟩, .slice none 0 0, .slice none 0 0] 25)) w.heap.size 25 #[.int .i64 7, .int .i64 num, .string t, .slice A1 ks.length ck, .slice A2 ns.length cc] := (Blk.new w _ _).alloc _
  have hY : Blk ((w.alloc (.cells #[.int .i64 7, .int .i64 num, .string t, .slice A1 ks.length ck, .slice A2 ns.length cc] 25)).alloc (.cells #[.int .i64 0, .int .i64 0, .string ⟨#[]⟩, .slice none 0 0, .slice none 0 0] 25)) (w.heap.size + 1) 25 #[.int .i64 0, .int .i64 0, .string ⟨#[]⟩, .slice none 0 0, .slice none 0 0] := by
    have := Blk.new (w.alloc (.cells #[.int .i64 7, .int .i64 num, .string t, .slice A1 ks.length ck, .slice A2 ns.length cc] 25)) 25 #[.int .i64 0, .int .i64 0, .string ⟨#[]⟩, .slice none 0 0, .slice none 0 0]
    simpa using this
  have hZ : w.heap.size + 2 = ((w.alloc (.cells #[.int .i64 7, .int .i64 num, .string t, .slice A1 ks.length ck, .slice A2 ns.length cc] 25)).alloc (.cells #[.int .i64 0, .int .i64 0, .string ⟨#[]⟩, .slice none 0 0, .slice none 0 0] 25)).heap.size := by simp
  have HA := Lib.hid hA
  have HX := Lib.hid hX
  have HY := Lib.hid hY
  clear hA hX hY
  go_enter Tryd.func37, Tryd.ntmps37
  go_upto_region 1 with fail
  generalize (w.alloc (.cells #[.int .i64 7, .int .i64 num, .string t, .slice A1 ks.length ck, .slice A2 ns.length cc] 25)).alloc (.cells #[.int .i64 0, .int .i64 0, .string ⟨#[]⟩, .slice none 0 0, .slice none 0 0] 25) = wa at *
  have p0 : wa.cell? ⟨ab, ao, none⟩ = some (.string p) := (HA.out.cell (p := ⟨ab, ao, none⟩) hab).trans hp0.out
  obtain ⟨c0, c1, c2, c3, c4⟩ := HX.out.cells5
  clear hp
  have hl : w.heap.size < wa.heap.size := by omega
  have hab2 : ab ≠ wa.heap.size := by omega
  have hxz : w.heap.size ≠ wa.heap.size := by omega
  have hos : OS w w.heap.size ab ao (.int .i64 7) (.int .i64 num) (.string t) (.slice A1 ks.length ck) (.slice A2 ns.length cc) (.string p) wa := ⟨c0, c1, c2, c3, c4, p0, HA.out⟩
  have HS0 : Hid (wa.drew.cell? ⟨w.heap.size, 0, none⟩ = some (.int .i64 7) ∧ wa.drew.cell? ⟨w.heap.size, 1, none⟩ = some (.int .i64 num) ∧ wa.drew.cell? ⟨w.heap.size, 2, none⟩ = some (.string t) ∧ wa.drew.cell? ⟨w.heap.size, 3, none⟩ = some (.slice A1 ks.length ck) ∧ wa.drew.cell? ⟨w.heap.size, 4, none⟩ = some (.slice A2 ns.length cc) ∧ wa.drew.cell? ⟨ab, ao, none⟩ = some (.string p) ∧ Below w.heap.size w wa.drew) := hos.drew
  have HSB0 : Hid ((wa.drew.alloc (.cells #[.int .i64 0, .int .i64 0, .string ⟨#[]⟩, .slice none 0 0, .slice none 0 0] 25)).cell? ⟨w.heap.size, 0, none⟩ = some (.int .i64 7) ∧ (wa.drew.alloc (.cells #[.int .i64 0, .int .i64 0, .string ⟨#[]⟩, .slice none 0 0, .slice none 0 0] 25)).cell? ⟨w.heap.size, 1, none⟩ = some (.int .i64 num) ∧ (wa.drew.alloc (.cells #[.int .i64 0, .int .i64 0, .string ⟨#[]⟩, .slice none 0 0, .slice none 0 0] 25)).cell? ⟨w.heap.size, 2, none⟩ = some (.string t) ∧ (wa.drew.alloc (.cells #[.int .i64 0, .int .i64 0, .string ⟨#[]⟩, .slice none 0 0, .slice none 0 0] 25)).cell? ⟨w.heap.size, 3, none⟩ = some (.slice A1 ks.length ck) ∧ (wa.drew.alloc (.cells #[.int .i64 0, .int .i64 0, .string ⟨#[]⟩, .slice none 0 0, .slice none 0 0] 25)).cell? ⟨w.heap.size, 4, none⟩ = some (.slice A2 ns.length cc) ∧ (wa.drew.alloc (.cells #[.int .i64 0, .int .i64 0, .string ⟨#[]⟩, .slice none 0 0, .slice none 0 0] 25)).cell? ⟨ab, ao, none⟩ = some (.string p) ∧ Below w.heap.size w (wa.drew.alloc (.cells #[.int .i64 0, .int .i64 0, .string ⟨#[]⟩, .slice none 0 0, .slice none 0 0] 25))) := hos.drew.alloc _
  have HSB1 : Hid ((wa.alloc (.cells #[.int .i64 0, .int .i64 0, .string ⟨#[]⟩, .slice none 0 0, .slice none 0 0] 25)).drew.cell? ⟨w.heap.size, 0, none⟩ = some (.int .i64 7) ∧ (wa.alloc (.cells #[.int .i64 0, .int .i64 0, .string ⟨#[]⟩, .slice none 0 0, .slice none 0 0] 25)).drew.cell? ⟨w.heap.size, 1, none⟩ = some (.int .i64 num) ∧ (wa.alloc (.cells #[.int .i64 0, .int .i64 0, .string ⟨#[]⟩, .slice none 0 0, .slice none 0 0] 25)).drew.cell? ⟨w.heap.size, 2, none⟩ = some (.string t) ∧ (wa.alloc (.cells #[.int .i64 0, .int .i64 0, .string ⟨#[]⟩, .slice none 0 0, .slice none 0 0] 25)).drew.cell? ⟨w.heap.size, 3, none⟩ = some (.slice A1 ks.length ck) ∧ (wa.alloc (.cells #[.int .i64 0, .int .i64 0, .string ⟨#[]⟩, .slice none 0 0, .slice none 0 0] 25)).drew.cell? ⟨w.heap.size, 4, none⟩ = some (.slice A2 ns.length cc) ∧ (wa.alloc (.cells #[.int .i64 0, .int .i64 0, .string ⟨#[]⟩, .slice none 0 0, .slice none 0 0] 25)).drew.cell? ⟨ab, ao, none⟩ = some (.string p) ∧ Below w.heap.size w (wa.alloc (.cells #[.int .i64 0, .int .i64 0, .string ⟨#[]⟩, .slice none 0 0, .slice none 0 0] 25)).drew) := (hos.alloc _).drew
  have HZB : Hid (Blk (wa.alloc (.cells #[.int .i64 0, .int .i64 0, .string ⟨#[]⟩, .slice none 0 0, .slice none 0 0] 25)).drew wa.heap.size 25 #[.int .i64 0, .int .i64 0, .string ⟨#[]⟩, .slice none 0 0, .slice none 0 0]) := (Blk.new wa _ _).drew
  clear hos
  go_upto_region 5 with fail
  go_cut [6, 7] (fun t6 t7 wx => ∃ (zb : Nat) (y0 y1 : Int) (y2 : ByteArray) (y3 : Option Addr) (y4 y5 : Nat) (y6 : Option Addr) (y7 y8 : Nat), t6 = .pointer (some ⟨zb, 0, none⟩) ∧ t7 = .bool F.isSome ∧ Hid (Blk wx zb 25 #[.int .i64 y0, .int .i64 y1, .string y2, .slice y3 y4 y5, .slice y6 y7 y8]) ∧ Hid (NdIn wx S (F.getD (nd0 0)) [.int .i64 y0, .int .i64 y1, .string y2, .slice y3 y4 y5, .slice y6 y7 y8]) ∧ Hid (Blk wx (w.heap.size + 1) 25 #[.int .i64 0, .int .i64 0, .string ⟨#[]⟩, .slice none 0 0, .slice none 0 0]) ∧ Hid (Below w.heap.size w wx) ∧ w.heap.size + 2 ≤ zb)
  case first =>
    go_region_held3 (fun w' => w'.cell? ⟨w.heap.size, 0, none⟩ = some (.int .i64 7) ∧ w'.cell? ⟨w.heap.size, 1, none⟩ = some (.int .i64 num) ∧ w'.cell? ⟨w.heap.size, 2, none⟩ = some (.string t) ∧ w'.cell? ⟨w.heap.size, 3, none⟩ = some (.slice A1 ks.length ck) ∧ w'.cell? ⟨w.heap.size, 4, none⟩ = some (.slice A2 ns.length cc) ∧ w'.cell? ⟨ab, ao, none⟩ = some (.string p) ∧ Below w.heap.size w w') (first | with_reducible exact HS0.out | with_reducible exact HSB0.out | with_reducible exact HSB1.out | with_reducible exact HS5.out | with_reducible exact HS5a.out | with_reducible exact HS5b.out) (first
      | (go_at_call 28; (with_reducible refine (HFC.out wa.drew HA.out.drew).mono ?_); rintro e w5 ⟨y0, y1, y2, y3, y4, y5, y6, y7, y8, rfl, hn5, hb5⟩; have HN5 := Lib.hid hn5; have HB5 := Lib.hid hb5; clear hn5 hb5; have HS5 : Hid (w5.cell? ⟨w.heap.size, 0, none⟩ = some (.int .i64 7) ∧ w5.cell? ⟨w.heap.size, 1, none⟩ = some (.int .i64 num) ∧ w5.cell? ⟨w.heap.size, 2, none⟩ = some (.string t) ∧ w5.cell? ⟨w.heap.size, 3, none⟩ = some (.slice A1 ks.length ck) ∧ w5.cell? ⟨w.heap.size, 4, none⟩ = some (.slice A2 ns.length cc) ∧ w5.cell? ⟨ab, ao, none⟩ = some (.string p) ∧ Below w.heap.size w w5) := OS.below HS0.out HB5.out; have HS5a : Hid ((w5.alloc (.cells #[.int .i64 0, .int .i64 0, .string ⟨#[]⟩, .slice none 0 0, .slice none 0 0] 25)).cell? ⟨w.heap.size, 0, none⟩ = some (.int .i64 7) ∧ (w5.alloc (.cells #[.int .i64 0, .int .i64 0, .string ⟨#[]⟩, .slice none 0 0, .slice none 0 0] 25)).cell? ⟨w.heap.size, 1, none⟩ = some (.int .i64 num) ∧ (w5.alloc (.cells #[.int .i64 0, .int .i64 0, .string ⟨#[]⟩, .slice none 0 0, .slice none 0 0] 25)).cell? ⟨w.heap.size, 2, none⟩ = some (.string t) ∧ (w5.alloc (.cells #[.int .i64 0, .int .i64 0, .string ⟨#[]⟩, .slice none 0 0, .slice none 0 0] 25)).cell? ⟨w.heap.size, 3, none⟩ = some (.slice A1 ks.length ck) ∧ (w5.alloc (.cells #[.int .i64 0, .int .i64 0, .string ⟨#[]⟩, .slice none 0 0, .slice none 0 0] 25)).cell? ⟨w.heap.size, 4, none⟩ = some (.slice A2 ns.length cc) ∧ (w5.alloc (.cells #[.int .i64 0, .int .i64 0, .string ⟨#[]⟩, .slice none 0 0, .slice none 0 0] 25)).cell? ⟨ab, ao, none⟩ = some (.string p) ∧ Below w.heap.size w (w5.alloc (.cells #[.int .i64 0, .int .i64 0, .string ⟨#[]⟩, .slice none 0 0, .slice none 0 0] 25))) := OS.alloc (OS.below HS0.out HB5.out) _; have HS5b : Hid ((w5.alloc (.cells #[.int .i64 y0, .int .i64 y1, .string y2, .slice y3 y4 y5, .slice y6 y7 y8] 25)).cell? ⟨w.heap.size, 0, none⟩ = some (.int .i64 7) ∧ (w5.alloc (.cells #[.int .i64 y0, .int .i64 y1, .string y2, .slice y3 y4 y5, .slice y6 y7 y8] 25)).cell? ⟨w.heap.size, 1, none⟩ = some (.int .i64 num) ∧ (w5.alloc (.cells #[.int .i64 y0, .int .i64 y1, .string y2, .slice y3 y4 y5, .slice y6 y7 y8] 25)).cell? ⟨w.heap.size, 2, none⟩ = some (.string t) ∧ (w5.alloc (.cells #[.int .i64 y0, .int .i64 y1, .string y2, .slice y3 y4 y5, .slice y6 y7 y8] 25)).cell? ⟨w.heap.size, 3, none⟩ = some (.slice A1 ks.length ck) ∧ (w5.alloc (.cells #[.int .i64 y0, .int .i64 y1, .string y2, .slice y3 y4 y5, .slice y6 y7 y8] 25)).cell? ⟨w.heap.size, 4, none⟩ = some (.slice A2 ns.length cc) ∧ (w5.alloc (.cells #[.int .i64 y0, .int .i64 y1, .string y2, .slice y3 y4 y5, .slice y6 y7 y8] 25)).cell? ⟨ab, ao, none⟩ = some (.string p) ∧ Below w.heap.size w (w5.alloc (.cells #[.int .i64 y0, .int .i64 y1, .string y2, .slice y3 y4 y5, .slice y6 y7 y8] 25))) := OS.alloc (OS.below HS0.out HB5.out) _)
      | (go_at_call 28; (with_reducible refine (HFC.out (wa.alloc (.cells #[.int .i64 0, .int .i64 0, .string ⟨#[]⟩, .slice none 0 0, .slice none 0 0] 25)).drew HSB1.out.2.2.2.2.2.2).mono ?_); rintro e w5 ⟨y0, y1, y2, y3, y4, y5, y6, y7, y8, rfl, hn5, hb5⟩; have HN5 := Lib.hid hn5; have HB5 := Lib.hid hb5; clear hn5 hb5; have HS5 : Hid (w5.cell? ⟨w.heap.size, 0, none⟩ = some (.int .i64 7) ∧ w5.cell? ⟨w.heap.size, 1, none⟩ = some (.int .i64 num) ∧ w5.cell? ⟨w.heap.size, 2, none⟩ = some (.string t) ∧ w5.cell? ⟨w.heap.size, 3, none⟩ = some (.slice A1 ks.length ck) ∧ w5.cell? ⟨w.heap.size, 4, none⟩ = some (.slice A2 ns.length cc) ∧ w5.cell? ⟨ab, ao, none⟩ = some (.string p) ∧ Below w.heap.size w w5) := OS.below HSB1.out HB5.out; have HZ5 := Lib.hid (HZB.out.below HB5.out HZB.out.lt); obtain ⟨d0, d1, d2, d3, d4⟩ := HZ5.out.cells5; have f0 := HZ5.out.frozen 0; have f1 := HZ5.out.frozen 1; have f2 := HZ5.out.frozen 2; have f3 := HZ5.out.frozen 3; have f4 := HZ5.out.frozen 4; have HS5b : Hid ((((((w5.setCell ⟨wa.heap.size, 0, none⟩ (.int .i64 y0)).setCell ⟨wa.heap.size, 1, none⟩ (.int .i64 y1)).setCell ⟨wa.heap.size, 2, none⟩ (.string y2)).setCell ⟨wa.heap.size, 3, none⟩ (.slice y3 y4 y5)).setCell ⟨wa.heap.size, 4, none⟩ (.slice y6 y7 y8)).cell? ⟨w.heap.size, 0, none⟩ = some (.int .i64 7) ∧ (((((w5.setCell ⟨wa.heap.size, 0, none⟩ (.int .i64 y0)).setCell ⟨wa.heap.size, 1, none⟩ (.int .i64 y1)).setCell ⟨wa.heap.size, 2, none⟩ (.string y2)).setCell ⟨wa.heap.size, 3, none⟩ (.slice y3 y4 y5)).setCell ⟨wa.heap.size, 4, none⟩ (.slice y6 y7 y8)).cell? ⟨w.heap.size, 1, none⟩ = some (.int .i64 num) ∧ (((((w5.setCell ⟨wa.heap.size, 0, none⟩ (.int .i64 y0)).setCell ⟨wa.heap.size, 1, none⟩ (.int .i64 y1)).setCell ⟨wa.heap.size, 2, none⟩ (.string y2)).setCell ⟨wa.heap.size, 3, none⟩ (.slice y3 y4 y5)).setCell ⟨wa.heap.size, 4, none⟩ (.slice y6 y7 y8)).cell? ⟨w.heap.size, 2, none⟩ = some (.string t) ∧ (((((w5.setCell ⟨wa.heap.size, 0, none⟩ (.int .i64 y0)).setCell ⟨wa.heap.size, 1, none⟩ (.int .i64 y1)).setCell ⟨wa.heap.size, 2, none⟩ (.string y2)).setCell ⟨wa.heap.size, 3, none⟩ (.slice y3 y4 y5)).setCell ⟨wa.heap.size, 4, none⟩ (.slice y6 y7 y8)).cell? ⟨w.heap.size, 3, none⟩ = some (.slice A1 ks.length ck) ∧ (((((w5.setCell ⟨wa.heap.size, 0, none⟩ (.int .i64 y0)).setCell ⟨wa.heap.size, 1, none⟩ (.int .i64 y1)).setCell ⟨wa.heap.size, 2, none⟩ (.string y2)).setCell ⟨wa.heap.size, 3, none⟩ (.slice y3 y4 y5)).setCell ⟨wa.heap.size, 4, none⟩ (.slice y6 y7 y8)).cell? ⟨w.heap.size, 4, none⟩ = some (.slice A2 ns.length cc) ∧ (((((w5.setCell ⟨wa.heap.size, 0, none⟩ (.int .i64 y0)).setCell ⟨wa.heap.size, 1, none⟩ (.int .i64 y1)).setCell ⟨wa.heap.size, 2, none⟩ (.string y2)).setCell ⟨wa.heap.size, 3, none⟩ (.slice y3 y4 y5)).setCell ⟨wa.heap.size, 4, none⟩ (.slice y6 y7 y8)).cell? ⟨ab, ao, none⟩ = some (.string p) ∧ Below w.heap.size w (((((w5.setCell ⟨wa.heap.size, 0, none⟩ (.int .i64 y0)).setCell ⟨wa.heap.size, 1, none⟩ (.int .i64 y1)).setCell ⟨wa.heap.size, 2, none⟩ (.string y2)).setCell ⟨wa.heap.size, 3, none⟩ (.slice y3 y4 y5)).setCell ⟨wa.heap.size, 4, none⟩ (.slice y6 y7 y8))) := OS.set5 (OS.below HSB1.out HB5.out) (by omega) hxz hab2))
    · go_wp2_with fail
      go_meet
      have hz5 : wa.heap.size ≤ w5.heap.size := HB5.out.size
      refine ⟨w5.heap.size, y0, y1, y2, y3, y4, y5, y6, y7, y8, rfl, rfl, Blk.new w5 _ _, ?_, ((HY.out.drew.below HB5.out HY.out.drew.lt).alloc _ : Blk _ _ _ _), HS5b.out.2.2.2.2.2.2, by omega⟩
      exact NdIn.keep (fun q hq => World.cell?_alloc_lt _ _ _ (Nat.lt_of_lt_of_le hq (by omega))) (fun b hb => HBS.out b hb) _ _ (NdIs.in_ _ _ HN5.out)
    · go_wp2_with fail
      go_meet
      have hz5 : (wa.alloc (.cells #[.int .i64 0, .int .i64 0, .string ⟨#[]⟩, .slice none 0 0, .slice none 0 0] 25)).drew.heap.size ≤ w5.heap.size := HB5.out.size
      have hz6 : (wa.alloc (.cells #[.int .i64 0, .int .i64 0, .string ⟨#[]⟩, .slice none 0 0, .slice none 0 0] 25)).drew.heap.size = wa.heap.size + 1 := by show (wa.alloc (.cells #[.int .i64 0, .int .i64 0, .string ⟨#[]⟩, .slice none 0 0, .slice none 0 0] 25)).heap.size = _; simp
      refine ⟨wa.heap.size, y0, y1, y2, y3, y4, y5, y6, y7, y8, rfl, rfl, (set5_blk HZ5.out : Blk _ _ _ _), ?_, (set5_far ((HY.out.alloc _).drew.below HB5.out (HY.out.alloc _).drew.lt) (by omega) : Blk _ _ _ _), HS5b.out.2.2.2.2.2.2, by omega⟩
      exact set5_in (NdIs.in_ _ _ HN5.out) (fun b hb => by have hb : b < B := hb; omega) (fun b hb => HBS.out b hb)
  case rest =>
    obtain ⟨zb, y0, y1, y2, y3, y4, y5, y6, y7, y8, rfl, rfl, hzb, hn5, hyb, hbb, hz2⟩ := hcut
    obtain ⟨d0, d1, d2, d3, d4⟩ := hyb.out.cells5
    have f0 := hyb.out.frozen 0
    have f1 := hyb.out.frozen 1
    have f2 := hyb.out.frozen 2
    have f3 := hyb.out.frozen 3
    have f4 := hyb.out.frozen 4
    clear HFC HS0 HSB0 HSB1 HZB HX HY HA c0 c1 c2 c3 c4 p0 hl hab2 hxz
    cases F with
    | none =>
      go_wp2_with fail
      clear d0 d1 d2 d3 d4 f0 f1 f2 f3 f4
      have F := get_fin (r := none) (S := S) (S2 := (fun _ => False)) (w := w) (w2 := wc) (y := w.heap.size + 1) (by omega) hbb.out hyb.out (nd0_in 0 (by unfold I64; omega) _ _) (fun b hb => hb.elim)
      unfold set5 at F
      generalize (((((wc).setCell ⟨w.heap.size + 1, 0, none⟩ (.int .i64 0)).setCell ⟨w.heap.size + 1, 1, none⟩ (.int .i64 0)).setCell ⟨w.heap.size + 1, 2, none⟩ (.string ⟨#[]⟩)).setCell ⟨w.heap.size + 1, 3, none⟩ (.slice none 0 0)).setCell ⟨w.heap.size + 1, 4, none⟩ (.slice none 0 0) = WF at *
      obtain ⟨F1, F2⟩ := F
      obtain ⟨q0, q1, q2, q3, q4⟩ := F1.cells5
      refine bodyPost_ret (v := .tuple #[.agg #[.int .i64 0, .int .i64 0, .string ⟨#[]⟩, .slice none 0 0, .slice none 0 0], .bool false]) (by simp [results, Tryd.results37, go_sem, q0, q1, q2, q3, q4]) rfl ?_
      rw [HG.out none (fun m h => by cases h) (fun _ => rfl)]
      exact F2
    | some m =>
      have HM := Lib.hid (HKF.out m HF.out.symm)
      have hn7 : NdIn wc S m [.int .i64 y0, .int .i64 y1, .string y2, .slice y3 y4 y5, .slice y6 y7 y8] := hn5.out
      have HN7 : Hid (NdIn wc.drew S m [.int .i64 y0, .int .i64 y1, .string y2, .slice y3 y4 y5, .slice y6 y7 y8]) := NdIn.keep (w := wc) (w' := wc.drew) (fun _ _ => rfl) (fun _ h => h) m _ hn7
      clear hn7
      have HIH : Hid (Calls Tryd.prog 37 #[.agg #[.int .i64 y0, .int .i64 y1, .string y2, .slice y3 y4 y5, .slice y6 y7 y8], .slice (some ⟨ab, ao, none⟩) 0 0] wc.drew (GetP (getN [] m) S wc.drew)) :=
        IH m [.int .i64 y0, .int .i64 y1, .string y2, .slice y3 y4 y5, .slice y6 y7 y8] wc.drew S _ 0 HN7.out (fun b hb => by have h1 := HS.out b hb; have h2 := hbb.out.size; show b < wc.heap.size; omega) HSB.out ((HR.out.keep fun q hq => hbb.out.cell hq).more hbb.out.size) (Nat.le_refl _) (by unfold maxLen at *; omega) HM.out.1 HM.out.2
      have HG2 : Hid (getN (p :: []) (.mk 7 num t ks ns) = getN [] m) := HG.out _ (fun m' h => by injection h with h; rw [h]) (fun h => by cases h)
      have hzc : zb < wc.heap.size := hzb.out.lt
      have hzy : zb ≠ w.heap.size + 1 := by omega
      obtain ⟨c0, c1, c2, c3, c4⟩ := hzb.out.cells5
      have HS0 : Hid (wc.drew.cell? ⟨zb, 0, none⟩ = some (.int .i64 y0) ∧ wc.drew.cell? ⟨zb, 1, none⟩ = some (.int .i64 y1) ∧ wc.drew.cell? ⟨zb, 2, none⟩ = some (.string y2) ∧ wc.drew.cell? ⟨zb, 3, none⟩ = some (.slice y3 y4 y5) ∧ wc.drew.cell? ⟨zb, 4, none⟩ = some (.slice y6 y7 y8)) := ⟨c0, c1, c2, c3, c4⟩
      skip
      have hyc : w.heap.size + 1 < wc.heap.size := hyb.out.lt
      clear HF HKF HG hn5
      go_wp2_with fail
      go_region_held3 (fun w' => w'.cell? ⟨zb, 0, none⟩ = some (.int .i64 y0) ∧ w'.cell? ⟨zb, 1, none⟩ = some (.int .i64 y1) ∧ w'.cell? ⟨zb, 2, none⟩ = some (.string y2) ∧ w'.cell? ⟨zb, 3, none⟩ = some (.slice y3 y4 y5) ∧ w'.cell? ⟨zb, 4, none⟩ = some (.slice y6 y7 y8)) (first | with_reducible exact HS0.out | with_reducible exact HS5.out | with_reducible exact HSF.out) (first
        | (go_at_call 37; (with_reducible refine (HIH.out : Calls _ _ _ _ _).mono ?_); rintro e w5 ⟨g0, g1, g2, g3, g4, g5, g6, g7, g8, rfl, hn6, hb6⟩; have HN6 := Lib.hid hn6; have HB6 := Lib.hid hb6; clear hn6 hb6; have HS5 : Hid (w5.cell? ⟨zb, 0, none⟩ = some (.int .i64 y0) ∧ w5.cell? ⟨zb, 1, none⟩ = some (.int .i64 y1) ∧ w5.cell? ⟨zb, 2, none⟩ = some (.string y2) ∧ w5.cell? ⟨zb, 3, none⟩ = some (.slice y3 y4 y5) ∧ w5.cell? ⟨zb, 4, none⟩ = some (.slice y6 y7 y8)) := (hzb.out.drew.below HB6.out hzb.out.drew.lt).cells5; have HSF : Hid ((((((w5.setCell ⟨w.heap.size + 1, 0, none⟩ (.int .i64 g0)).setCell ⟨w.heap.size + 1, 1, none⟩ (.int .i64 g1)).setCell ⟨w.heap.size + 1, 2, none⟩ (.string g2)).setCell ⟨w.heap.size + 1, 3, none⟩ (.slice g3 g4 g5)).setCell ⟨w.heap.size + 1, 4, none⟩ (.slice g6 g7 g8)).cell? ⟨zb, 0, none⟩ = some (.int .i64 y0) ∧ (((((w5.setCell ⟨w.heap.size + 1, 0, none⟩ (.int .i64 g0)).setCell ⟨w.heap.size + 1, 1, none⟩ (.int .i64 g1)).setCell ⟨w.heap.size + 1, 2, none⟩ (.string g2)).setCell ⟨w.heap.size + 1, 3, none⟩ (.slice g3 g4 g5)).setCell ⟨w.heap.size + 1, 4, none⟩ (.slice g6 g7 g8)).cell? ⟨zb, 1, none⟩ = some (.int .i64 y1) ∧ (((((w5.setCell ⟨w.heap.size + 1, 0, none⟩ (.int .i64 g0)).setCell ⟨w.heap.size + 1, 1, none⟩ (.int .i64 g1)).setCell ⟨w.heap.size + 1, 2, none⟩ (.string g2)).setCell ⟨w.heap.size + 1, 3, none⟩ (.slice g3 g4 g5)).setCell ⟨w.heap.size + 1, 4, none⟩ (.slice g6 g7 g8)).cell? ⟨zb, 2, none⟩ = some (.string y2) ∧ (((((w5.setCell ⟨w.heap.size + 1, 0, none⟩ (.int .i64 g0)).setCell ⟨w.heap.size + 1, 1, none⟩ (.int .i64 g1)).setCell ⟨w.heap.size + 1, 2, none⟩ (.string g2)).setCell ⟨w.heap.size + 1, 3, none⟩ (.slice g3 g4 g5)).setCell ⟨w.heap.size + 1, 4, none⟩ (.slice g6 g7 g8)).cell? ⟨zb, 3, none⟩ = some (.slice y3 y4 y5) ∧ (((((w5.setCell ⟨w.heap.size + 1, 0, none⟩ (.int .i64 g0)).setCell ⟨w.heap.size + 1, 1, none⟩ (.int .i64 g1)).setCell ⟨w.heap.size + 1, 2, none⟩ (.string g2)).setCell ⟨w.heap.size + 1, 3, none⟩ (.slice g3 g4 g5)).setCell ⟨w.heap.size + 1, 4, none⟩ (.slice g6 g7 g8)).cell? ⟨zb, 4, none⟩ = some (.slice y6 y7 y8)) := (set5_far (hzb.out.drew.below HB6.out hzb.out.drew.lt) hzy).cells5; have HY6 := Lib.hid (hyb.out.drew.below HB6.out hyb.out.drew.lt); obtain ⟨d0, d1, d2, d3, d4⟩ := HY6.out.cells5; have f0 := HY6.out.frozen 0; have f1 := HY6.out.frozen 1; have f2 := HY6.out.frozen 2; have f3 := HY6.out.frozen 3; have f4 := HY6.out.frozen 4))
      have hz6 : wc.heap.size ≤ w5.heap.size := HB6.out.size
      go_wp2_with fail
      clear d0 d1 d2 d3 d4 f0 f1 f2 f3 f4
      have F := get_fin (r := getN [] m) (S := S) (S2 := (fun b => S b ∨ Since wc.drew w5 b)) (w := w) (w2 := w5) (y := w.heap.size + 1) (by omega) (hbb.out.drew.trans (HB6.out.mono hbb.out.size)) HY6.out HN6.out (fun b hb => by
          rcases hb with hb | hb
          · exact ⟨.inl hb, fun e => by have := HS.out b hb; omega⟩
          · have h1 : wc.heap.size ≤ b := hb.1
            exact ⟨.inr ⟨by omega, hb.2⟩, by omega⟩)
      unfold set5 at F
      generalize (((((w5).setCell ⟨w.heap.size + 1, 0, none⟩ (.int .i64 g0)).setCell ⟨w.heap.size + 1, 1, none⟩ (.int .i64 g1)).setCell ⟨w.heap.size + 1, 2, none⟩ (.string g2)).setCell ⟨w.heap.size + 1, 3, none⟩ (.slice g3 g4 g5)).setCell ⟨w.heap.size + 1, 4, none⟩ (.slice g6 g7 g8) = WF at *
      obtain ⟨F1, F2⟩ := F
      obtain ⟨q0, q1, q2, q3, q4⟩ := F1.cells5
      refine bodyPost_ret (v := .tuple #[.agg #[.int .i64 g0, .int .i64 g1, .string g2, .slice g3 g4 g5, .slice g6 g7 g8], .bool (getN [] m).isSome]) (by simp [results, Tryd.results37, go_sem, q0, q1, q2, q3, q4]) rfl ?_
      rw [HG2.out]; exact F2
set_option maxHeartbeats 4000000 in
theorem fget_obj2 (p : ByteArray) (l : List ByteArray) (c : Nat) (hc1 : ¬ c = 1) (hl : l.length + 1 ≤ c) (IH : FGetOK l) (n : Nd) (h7 : n.kind = 7) : FGetStep p l n (l.length + 1) c (fun ab ao => some ⟨ab, ao + 1, none⟩) := by
  intro hpz cs w S ab ao hn hS hSB hab hp hr hc hs hct
  have HSB := Lib.hid hSB
  obtain ⟨B, hSB'⟩ := hSB
  have hBz : B ≤ w.heap.size := by
    by_cases h : B ≤ w.heap.size
    · exact h
    · exact absurd (hS w.heap.size ((hSB' _).2 (by omega))) (by omega)
  have hn0 : Hid (NdIs w B n cs) := NdIn.is (fun b hb => (hSB' b).1 hb) _ _ hn
  have HBS : Hid (∀ b, b < B → S b) := fun b hb => (hSB' b).2 hb
  clear hSB'
  have hs0 := Lib.hid hs
  have HKF : Hid (∀ m : Nd, findN n p = some m → sizeOk m ∧ m.count ≤ 1000000) := fun m hm => by
    obtain ⟨i, hi⟩ := findN_kid hm
    have := kid_ok hi hs
    exact ⟨this.1, by omega⟩
  obtain ⟨F, hF⟩ : ∃ F, F = findN n p := ⟨_, rfl⟩
  have HG : Hid (∀ r, (∀ m, F = some m → getN l m = r) → (F = none → r = none) → getN (p :: l) n = r) := fun r h1 h2 => by
    rw [getN, if_pos h7, ← hF]
    cases F with
    | none => exact (h2 rfl).symm
    | some m => exact h1 m rfl
  have HF := Lib.hid hF
  cases n with
  | mk k num t ks ns =>
  unfold NdIn at hn
  obtain ⟨A1, ck, A2, cc, xs, rfl, hks, hxs, hns, ik, inn, ht, hkl, hkm, hmm⟩ := hn
  simp only [Nd.kind] at h7
  subst h7
  have HFC : Hid (∀ w', Below w.heap.size w w' → Calls Tryd.prog 28 #[.agg #[.int .i64 7, .int .i64 num, .string t, .slice A1 ks.length ck, .slice A2 ns.length cc], .string p] w' (RfindP F B w')) := fun w' h' => by
    rw [HF.out]
    exact rFind_any _ p _ w' B (hn0.out.below (h'.mono hBz)) (Nat.le_trans hBz h'.size)
  have HS := Lib.hid hS
  have HR := Lib.hid hr
  clear hS hks hxs hns hkl hr hs hF hn0 hs0 inn ht hkm hmm hct ik
  have hp0 := Lib.hid hp
  show Calls Tryd.prog 37 #[.agg #[.int .i64 7, .int .i64 num, .string t, .slice A1 ks.length ck, .slice A2 ns.length cc], .slice (some ⟨ab, ao, none⟩) (l.length + 1) c] w _
  have hA : Below w.heap.size w ((w.alloc (.cells #[.int .i64 7, .int .i64 num, .string t, .slice A1 ks.length ck, .slice A2 ns.length cc] 25)).alloc (.cells #[.int .i64 0, .int .i64 0, .string ⟨#[]⟩, .slice none 0 0, .slice none 0 0] 25)) := ((Below.refl _ _).alloc (Nat.le_refl _) _).alloc (by simp) _
  have hX : Blk ((w.alloc (.cells #[.int .i64 7, .int .i64 num, .string t, .slice A1 ks.length ck, .slice A2 ns.length cc] 25)).alloc (.cells #[.int .i64 0, .int .i64 0, .string ⟨#[]⟩, .slice none 0 0, .slice none 0 0] 25)) w.heap.size 25 #[.int .i64 7, .int .i64 num, .string t, .slice A1 ks.length ck, .slice A2 ns.length cc] := (Blk.new w _ _).alloc _
  have hY : Blk ((w.alloc (.cells #[.int .i64 7, .int .i64 num, .string t, .slice A1 ks.length ck, .slice A2 ns.length cc] 25)).alloc (.cells #[.int .i64 0, .int .i64 0, .string ⟨#[]⟩, .slice none 0 0, .slice none 0 0] 25)) (w.heap.size + 1) 25 #[.int .i64 0, .int .i64 0, .string ⟨#[]⟩, .slice none 0 0, .slice none 0 0] := by
    have := Blk.new (w.alloc (.cells #[.int .i64 7, .int .i64 num, .string t, .slice A1 ks.length ck, .slice A2 ns.length cc] 25)) 25 #[.int .i64 0, .int .i64 0, .string ⟨#[]⟩, .slice none 0 0, .slice none 0 0]
    simpa using this
  have hZ : w.heap.size + 2 = ((w.alloc (.cells #[.int .i64 7, .int .i64 num, .string t, .slice A1 ks.length ck, .slice A2 ns.length cc] 25)).alloc (.cells #[.int .i64 0, .int .i64 0, .string ⟨#[]⟩, .slice none 0 0, .slice none 0 0] 25)).heap.size := by simp
  have HA := Lib.hid hA
  have HX := Lib.hid hX
  have HY := Lib.hid hY
  clear hA hX hY
  go_enter Tryd.func37, Tryd.ntmps37
  go_upto_region 1 with fail
  generalize (w.alloc (.cells #[.int .i64 7, .int .i64 num, .string t, .slice A1 ks.length ck, .slice A2 ns.length cc] 25)).alloc (.cells #[.int .i64 0, .int .i64 0, .string ⟨#[]⟩, .slice none 0 0, .slice none 0 0] 25) = wa at *
  have p0 : wa.cell? ⟨ab, ao, none⟩ = some (.string p) := (HA.out.cell (p := ⟨ab, ao, none⟩) hab).trans hp0.out
  obtain ⟨c0, c1, c2, c3, c4⟩ := HX.out.cells5
  clear hp
  have hl : w.heap.size < wa.heap.size := by omega
  have hab2 : ab ≠ wa.heap.size := by omega
  have hxz : w.heap.size ≠ wa.heap.size := by omega
  have hos : OS w w.heap.size ab ao (.int .i64 7) (.int .i64 num) (.string t) (.slice A1 ks.length ck) (.slice A2 ns.length cc) (.string p) wa := ⟨c0, c1, c2, c3, c4, p0, HA.out⟩
  have HS0 : Hid (wa.drew.cell? ⟨w.heap.size, 0, none⟩ = some (.int .i64 7) ∧ wa.drew.cell? ⟨w.heap.size, 1, none⟩ = some (.int .i64 num) ∧ wa.drew.cell? ⟨w.heap.size, 2, none⟩ = some (.string t) ∧ wa.drew.cell? ⟨w.heap.size, 3, none⟩ = some (.slice A1 ks.length ck) ∧ wa.drew.cell? ⟨w.heap.size, 4, none⟩ = some (.slice A2 ns.length cc) ∧ wa.drew.cell? ⟨ab, ao, none⟩ = some (.string p) ∧ Below w.heap.size w wa.drew) := hos.drew
  have HSB0 : Hid ((wa.drew.alloc (.cells #[.int .i64 0, .int .i64 0, .string ⟨#[]⟩, .slice none 0 0, .slice none 0 0] 25)).cell? ⟨w.heap.size, 0, none⟩ = some (.int .i64 7) ∧ (wa.drew.alloc (.cells #[.int .i64 0, .int .i64 0, .string ⟨#[]⟩, .slice none 0 0, .slice none 0 0] 25)).cell? ⟨w.heap.size, 1, none⟩ = some (.int .i64 num) ∧ (wa.drew.alloc (.cells #[.int .i64 0, .int .i64 0, .string ⟨#[]⟩, .slice none 0 0, .slice none 0 0] 25)).cell? ⟨w.heap.size, 2, none⟩ = some (.string t) ∧ (wa.drew.alloc (.cells #[.int .i64 0, .int .i64 0, .string ⟨#[]⟩, .slice none 0 0, .slice none 0 0] 25)).cell? ⟨w.heap.size, 3, none⟩ = some (.slice A1 ks.length ck) ∧ (wa.drew.alloc (.cells #[.int .i64 0, .int .i64 0, .string ⟨#[]⟩, .slice none 0 0, .slice none 0 0] 25)).cell? ⟨w.heap.size, 4, none⟩ = some (.slice A2 ns.length cc) ∧ (wa.drew.alloc (.cells #[.int .i64 0, .int .i64 0, .string ⟨#[]⟩, .slice none 0 0, .slice none 0 0] 25)).cell? ⟨ab, ao, none⟩ = some (.string p) ∧ Below w.heap.size w (wa.drew.alloc (.cells #[.int .i64 0, .int .i64 0, .string ⟨#[]⟩, .slice none 0 0, .slice none 0 0] 25))) := hos.drew.alloc _
  have HSB1 : Hid ((wa.alloc (.cells #[.int .i64 0, .int .i64 0, .string ⟨#[]⟩, .slice none 0 0, .slice none 0 0] 25)).drew.cell? ⟨w.heap.size, 0, none⟩ = some (.int .i64 7) ∧ (wa.alloc (.cells #[.int .i64 0, .int .i64 0, .string ⟨#[]⟩, .slice none 0 0, .slice none 0 0] 25)).drew.cell? ⟨w.heap.size, 1, none⟩ = some (.int .i64 num) ∧ (wa.alloc (.cells #[.int .i64 0, .int .i64 0, .string ⟨#[]⟩, .slice none 0 0, .slice none 0 0] 25)).drew.cell? ⟨w.heap.size, 2, none⟩ = some (.string t) ∧ (wa.alloc (.cells #[.int .i64 0, .int .i64 0, .string ⟨#[]⟩, .slice none 0 0, .slice none 0 0] 25)).drew.cell? ⟨w.heap.size, 3, none⟩ = some (.slice A1 ks.length ck) ∧ (wa.alloc (.cells #[.int .i64 0, .int .i64 0, .string ⟨#[]⟩, .slice none 0 0, .slice none 0 0] 25)).drew.cell? ⟨w.heap.size, 4, none⟩ = some (.slice A2 ns.length cc) ∧ (wa.alloc (.cells #[.int .i64 0, .int .i64 0, .string ⟨#[]⟩, .slice none 0 0, .slice none 0 0] 25)).drew.cell? ⟨ab, ao, none⟩ = some (.string p) ∧ Below w.heap.size w (wa.alloc (.cells #[.int .i64 0, .int .i64 0, .string ⟨#[]⟩, .slice none 0 0, .slice none 0 0] 25)).drew) := (hos.alloc _).drew
  have HZB : Hid (Blk (wa.alloc (.cells #[.int .i64 0, .int .i64 0, .string ⟨#[]⟩, .slice none 0 0, .slice none 0 0] 25)).drew wa.heap.size 25 #[.int .i64 0, .int .i64 0, .string ⟨#[]⟩, .slice none 0 0, .slice none 0 0]) := (Blk.new wa _ _).drew
  clear hos
  go_upto_region 5 with fail
  go_cut [6, 7] (fun t6 t7 wx => ∃ (zb : Nat) (y0 y1 : Int) (y2 : ByteArray) (y3 : Option Addr) (y4 y5 : Nat) (y6 : Option Addr) (y7 y8 : Nat), t6 = .pointer (some ⟨zb, 0, none⟩) ∧ t7 = .bool F.isSome ∧ Hid (Blk wx zb 25 #[.int .i64 y0, .int .i64 y1, .string y2, .slice y3 y4 y5, .slice y6 y7 y8]) ∧ Hid (NdIn wx S (F.getD (nd0 0)) [.int .i64 y0, .int .i64 y1, .string y2, .slice y3 y4 y5, .slice y6 y7 y8]) ∧ Hid (Blk wx (w.heap.size + 1) 25 #[.int .i64 0, .int .i64 0, .string ⟨#[]⟩, .slice none 0 0, .slice none 0 0]) ∧ Hid (Below w.heap.size w wx) ∧ w.heap.size + 2 ≤ zb)
  case first =>
    go_region_held3 (fun w' => w'.cell? ⟨w.heap.size, 0, none⟩ = some (.int .i64 7) ∧ w'.cell? ⟨w.heap.size, 1, none⟩ = some (.int .i64 num) ∧ w'.cell? ⟨w.heap.size, 2, none⟩ = some (.string t) ∧ w'.cell? ⟨w.heap.size, 3, none⟩ = some (.slice A1 ks.length ck) ∧ w'.cell? ⟨w.heap.size, 4, none⟩ = some (.slice A2 ns.length cc) ∧ w'.cell? ⟨ab, ao, none⟩ = some (.string p) ∧ Below w.heap.size w w') (first | with_reducible exact HS0.out | with_reducible exact HSB0.out | with_reducible exact HSB1.out | with_reducible exact HS5.out | with_reducible exact HS5a.out | with_reducible exact HS5b.out) (first
      | (go_at_call 28; (with_reducible refine (HFC.out wa.drew HA.out.drew).mono ?_); rintro e w5 ⟨y0, y1, y2, y3, y4, y5, y6, y7, y8, rfl, hn5, hb5⟩; have HN5 := Lib.hid hn5; have HB5 := Lib.hid hb5; clear hn5 hb5; have HS5 : Hid (w5.cell? ⟨w.heap.size, 0, none⟩ = some (.int .i64 7) ∧ w5.cell? ⟨w.heap.size, 1, none⟩ = some (.int .i64 num) ∧ w5.cell? ⟨w.heap.size, 2, none⟩ = some (.string t) ∧ w5.cell? ⟨w.heap.size, 3, none⟩ = some (.slice A1 ks.length ck) ∧ w5.cell? ⟨w.heap.size, 4, none⟩ = some (.slice A2 ns.length cc) ∧ w5.cell? ⟨ab, ao, none⟩ = some (.string p) ∧ Below w.heap.size w w5) := OS.below HS0.out HB5.out; have HS5a : Hid ((w5.alloc (.cells #[.int .i64 0, .int .i64 0, .string ⟨#[]⟩, .slice none 0 0, .slice none 0 0] 25)).cell? ⟨w.heap.size, 0, none⟩ = some (.int .i64 7) ∧ (w5.alloc (.cells #[.int .i64 0, .int .i64 0, .string ⟨#[]⟩, .slice none 0 0, .slice none 0 0] 25)).cell? ⟨w.heap.size, 1, none⟩ = some (.int .i64 num) ∧ (w5.alloc (.cells #[.int .i64 0, .int .i64 0, .string ⟨#[]⟩, .slice none 0 0, .slice none 0 0] 25)).cell? ⟨w.heap.size, 2, none⟩ = some (.string t) ∧ (w5.alloc (.cells #[.int .i64 0, .int .i64 0, .string ⟨#[]⟩, .slice none 0 0, .slice none 0 0] 25)).cell? ⟨w.heap.size, 3, none⟩ = some (.slice A1 ks.length ck) ∧ (w5.alloc (.cells #[.int .i64 0, .int .i64 0, .string ⟨#[]⟩, .slice none 0 0, .slice none 0 0] 25)).cell? ⟨w.heap.size, 4, none⟩ = some (.slice A2 ns.length cc) ∧ (w5.alloc (.cells #[.int .i64 0, .int .i64 0, .string ⟨#[]⟩, .slice none 0 0, .slice none 0 0] 25)).cell? ⟨ab, ao, none⟩ = some (.string p) ∧ Below w.heap.size w (w5.alloc (.cells #[.int .i64 0, .int .i64 0, .string ⟨#[]⟩, .slice none 0 0, .slice none 0 0] 25))) := OS.alloc (OS.below HS0.out HB5.out) _; have HS5b : Hid ((w5.alloc (.cells #[.int .i64 y0, .int .i64 y1, .string y2, .slice y3 y4 y5, .slice y6 y7 y8] 25)).cell? ⟨w.heap.size, 0, none⟩ = some (.int .i64 7) ∧ (w5.alloc (.cells #[.int .i64 y0, .int .i64 y1, .string y2, .slice y3 y4 y5, .slice y6 y7 y8] 25)).cell? ⟨w.heap.size, 1, none⟩ = some (.int .i64 num) ∧ (w5.alloc (.cells #[.int .i64 y0, .int .i64 y1, .string y2, .slice y3 y4 y5, .slice y6 y7 y8] 25)).cell? ⟨w.heap.size, 2, none⟩ = some (.string t) ∧ (w5.alloc (.cells #[.int .i64 y0, .int .i64 y1, .string y2, .slice y3 y4 y5, .slice y6 y7 y8] 25)).cell? ⟨w.heap.size, 3, none⟩ = some (.slice A1 ks.length ck) ∧ (w5.alloc (.cells #[.int .i64 y0, .int .i64 y1, .string y2, .slice y3 y4 y5, .slice y6 y7 y8] 25)).cell? ⟨w.heap.size, 4, none⟩ = some (.slice A2 ns.length cc) ∧ (w5.alloc (.cells #[.int .i64 y0, .int .i64 y1, .string y2, .slice y3 y4 y5, .slice y6 y7 y8] 25)).cell? ⟨ab, ao, none⟩ = some (.string p) ∧ Below w.heap.size w (w5.alloc (.cells #[.int .i64 y0, .int .i64 y1, .string y2, .slice y3 y4 y5, .slice y6 y7 y8] 25))) := OS.alloc (OS.below HS0.out HB5.out) _)
      | (go_at_call 28; (with_reducible refine (HFC.out (wa.alloc (.cells #[.int .i64 0, .int .i64 0, .string ⟨#[]⟩, .slice none 0 0, .slice none 0 0] 25)).drew HSB1.out.2.2.2.2.2.2).mono ?_); rintro e w5 ⟨y0, y1, y2, y3, y4, y5, y6, y7, y8, rfl, hn5, hb5⟩; have HN5 := Lib.hid hn5; have HB5 := Lib.hid hb5; clear hn5 hb5; have HS5 : Hid (w5.cell? ⟨w.heap.size, 0, none⟩ = some (.int .i64 7) ∧ w5.cell? ⟨w.heap.size, 1, none⟩ = some (.int .i64 num) ∧ w5.cell? ⟨w.heap.size, 2, none⟩ = some (.string t) ∧ w5.cell? ⟨w.heap.size, 3, none⟩ = some (.slice A1 ks.length ck) ∧ w5.cell? ⟨w.heap.size, 4, none⟩ = some (.slice A2 ns.length cc) ∧ w5.cell? ⟨ab, ao, none⟩ = some (.string p) ∧ Below w.heap.size w w5) := OS.below HSB1.out HB5.out; have HZ5 := Lib.hid (HZB.out.below HB5.out HZB.out.lt); obtain ⟨d0, d1, d2, d3, d4⟩ := HZ5.out.cells5; have f0 := HZ5.out.frozen 0; have f1 := HZ5.out.frozen 1; have f2 := HZ5.out.frozen 2; have f3 := HZ5.out.frozen 3; have f4 := HZ5.out.frozen 4; have HS5b : Hid ((((((w5.setCell ⟨wa.heap.size, 0, none⟩ (.int .i64 y0)).setCell ⟨wa.heap.size, 1, none⟩ (.int .i64 y1)).setCell ⟨wa.heap.size, 2, none⟩ (.string y2)).setCell ⟨wa.heap.size, 3, none⟩ (.slice y3 y4 y5)).setCell ⟨wa.heap.size, 4, none⟩ (.slice y6 y7 y8)).cell? ⟨w.heap.size, 0, none⟩ = some (.int .i64 7) ∧ (((((w5.setCell ⟨wa.heap.size, 0, none⟩ (.int .i64 y0)).setCell ⟨wa.heap.size, 1, none⟩ (.int .i64 y1)).setCell ⟨wa.heap.size, 2, none⟩ (.string y2)).setCell ⟨wa.heap.size, 3, none⟩ (.slice y3 y4 y5)).setCell ⟨wa.heap.size, 4, none⟩ (.slice y6 y7 y8)).cell? ⟨w.heap.size, 1, none⟩ = some (.int .i64 num) ∧ (((((w5.setCell ⟨wa.heap.size, 0, none⟩ (.int .i64 y0)).setCell ⟨wa.heap.size, 1, none⟩ (.int .i64 y1)).setCell ⟨wa.heap.size, 2, none⟩ (.string y2)).setCell ⟨wa.heap.size, 3, none⟩ (.slice y3 y4 y5)).setCell ⟨wa.heap.size, 4, none⟩ (.slice y6 y7 y8)).cell? ⟨w.heap.size, 2, none⟩ = some (.string t) ∧ (((((w5.setCell ⟨wa.heap.size, 0, none⟩ (.int .i64 y0)).setCell ⟨wa.heap.size, 1, none⟩ (.int .i64 y1)).setCell ⟨wa.heap.size, 2, none⟩ (.string y2)).setCell ⟨wa.heap.size, 3, none⟩ (.slice y3 y4 y5)).setCell ⟨wa.heap.size, 4, none⟩ (.slice y6 y7 y8)).cell? ⟨w.heap.size, 3, none⟩ = some (.slice A1 ks.length ck) ∧ (((((w5.setCell ⟨wa.heap.size, 0, none⟩ (.int .i64 y0)).setCell ⟨wa.heap.size, 1, none⟩ (.int .i64 y1)).setCell ⟨wa.heap.size, 2, none⟩ (.string y2)).setCell ⟨wa.heap.size, 3, none⟩ (.slice y3 y4 y5)).setCell ⟨wa.heap.size, 4, none⟩ (.slice y6 y7 y8)).cell? ⟨w.heap.size, 4, none⟩ = some (.slice A2 ns.length cc) ∧ (((((w5.setCell ⟨wa.heap.size, 0, none⟩ (.int .i64 y0)).setCell ⟨wa.heap.size, 1, none⟩ (.int .i64 y1)).setCell ⟨wa.heap.size, 2, none⟩ (.string y2)).setCell ⟨wa.heap.size, 3, none⟩ (.slice y3 y4 y5)).setCell ⟨wa.heap.size, 4, none⟩ (.slice y6 y7 y8)).cell? ⟨ab, ao, none⟩ = some (.string p) ∧ Below w.heap.size w (((((w5.setCell ⟨wa.heap.size, 0, none⟩ (.int .i64 y0)).setCell ⟨wa.heap.size, 1, none⟩ (.int .i64 y1)).setCell ⟨wa.heap.size, 2, none⟩ (.string y2)).setCell ⟨wa.heap.size, 3, none⟩ (.slice y3 y4 y5)).setCell ⟨wa.heap.size, 4, none⟩ (.slice y6 y7 y8))) := OS.set5 (OS.below HSB1.out HB5.out) (by omega) hxz hab2))
    · go_wp2_with fail
      go_meet
      have hz5 : wa.heap.size ≤ w5.heap.size := HB5.out.size
      refine ⟨w5.heap.size, y0, y1, y2, y3, y4, y5, y6, y7, y8, rfl, rfl, Blk.new w5 _ _, ?_, ((HY.out.drew.below HB5.out HY.out.drew.lt).alloc _ : Blk _ _ _ _), HS5b.out.2.2.2.2.2.2, by omega⟩
      exact NdIn.keep (fun q hq => World.cell?_alloc_lt _ _ _ (Nat.lt_of_lt_of_le hq (by omega))) (fun b hb => HBS.out b hb) _ _ (NdIs.in_ _ _ HN5.out)
    · go_wp2_with fail
      go_meet
      have hz5 : (wa.alloc (.cells #[.int .i64 0, .int .i64 0, .string ⟨#[]⟩, .slice none 0 0, .slice none 0 0] 25)).drew.heap.size ≤ w5.heap.size := HB5.out.size
      have hz6 : (wa.alloc (.cells #[.int .i64 0, .int .i64 0, .string ⟨#[]⟩, .slice none 0 0, .slice none 0 0] 25)).drew.heap.size = wa.heap.size + 1 := by show (wa.alloc (.cells #[.int .i64 0, .int .i64 0, .string ⟨#[]⟩, .slice none 0 0, .slice none 0 0] 25)).heap.size = _; simp
      refine ⟨wa.heap.size, y0, y1, y2, y3, y4, y5, y6, y7, y8, rfl, rfl, (set5_blk HZ5.out : Blk _ _ _ _), ?_, (set5_far ((HY.out.alloc _).drew.below HB5.out (HY.out.alloc _).drew.lt) (by omega) : Blk _ _ _ _), HS5b.out.2.2.2.2.2.2, by omega⟩
      exact set5_in (NdIs.in_ _ _ HN5.out) (fun b hb => by have hb : b < B := hb; omega) (fun b hb => HBS.out b hb)
  case rest =>
    obtain ⟨zb, y0, y1, y2, y3, y4, y5, y6, y7, y8, rfl, rfl, hzb, hn5, hyb, hbb, hz2⟩ := hcut
    obtain ⟨d0, d1, d2, d3, d4⟩ := hyb.out.cells5
    have f0 := hyb.out.frozen 0
    have f1 := hyb.out.frozen 1
    have f2 := hyb.out.frozen 2
    have f3 := hyb.out.frozen 3
    have f4 := hyb.out.frozen 4
    clear HFC HS0 HSB0 HSB1 HZB HX HY HA c0 c1 c2 c3 c4 p0 hl hab2 hxz
    cases F with
    | none =>
      go_wp2_with fail
      clear d0 d1 d2 d3 d4 f0 f1 f2 f3 f4
      have F := get_fin (r := none) (S := S) (S2 := (fun _ => False)) (w := w) (w2 := wc) (y := w.heap.size + 1) (by omega) hbb.out hyb.out (nd0_in 0 (by unfold I64; omega) _ _) (fun b hb => hb.elim)
      unfold set5 at F
      generalize (((((wc).setCell ⟨w.heap.size + 1, 0, none⟩ (.int .i64 0)).setCell ⟨w.heap.size + 1, 1, none⟩ (.int .i64 0)).setCell ⟨w.heap.size + 1, 2, none⟩ (.string ⟨#[]⟩)).setCell ⟨w.heap.size + 1, 3, none⟩ (.slice none 0 0)).setCell ⟨w.heap.size + 1, 4, none⟩ (.slice none 0 0) = WF at *
      obtain ⟨F1, F2⟩ := F
      obtain ⟨q0, q1, q2, q3, q4⟩ := F1.cells5
      refine bodyPost_ret (v := .tuple #[.agg #[.int .i64 0, .int .i64 0, .string ⟨#[]⟩, .slice none 0 0, .slice none 0 0], .bool false]) (by simp [results, Tryd.results37, go_sem, q0, q1, q2, q3, q4]) rfl ?_
      rw [HG.out none (fun m h => by cases h) (fun _ => rfl)]
      exact F2
    | some m =>
      have HM := Lib.hid (HKF.out m HF.out.symm)
      have hn7 : NdIn wc S m [.int .i64 y0, .int .i64 y1, .string y2, .slice y3 y4 y5, .slice y6 y7 y8] := hn5.out
      have HN7 : Hid (NdIn wc.drew S m [.int .i64 y0, .int .i64 y1, .string y2, .slice y3 y4 y5, .slice y6 y7 y8]) := NdIn.keep (w := wc) (w' := wc.drew) (fun _ _ => rfl) (fun _ h => h) m _ hn7
      clear hn7
      have HIH : Hid (Calls Tryd.prog 37 #[.agg #[.int .i64 y0, .int .i64 y1, .string y2, .slice y3 y4 y5, .slice y6 y7 y8], .slice (some ⟨ab, ao + 1, none⟩) l.length (c - 1)] wc.drew (GetP (getN l m) S wc.drew)) :=
        IH m [.int .i64 y0, .int .i64 y1, .string y2, .slice y3 y4 y5, .slice y6 y7 y8] wc.drew S _ (c - 1) HN7.out (fun b hb => by have h1 := HS.out b hb; have h2 := hbb.out.size; show b < wc.heap.size; omega) HSB.out ((HR.out.keep fun q hq => hbb.out.cell hq).more hbb.out.size) (by omega) (by unfold maxLen at *; omega) HM.out.1 HM.out.2
      have HG2 : Hid (getN (p :: l) (.mk 7 num t ks ns) = getN l m) := HG.out _ (fun m' h => by injection h with h; rw [h]) (fun h => by cases h)
      have hzc : zb < wc.heap.size := hzb.out.lt
      have hzy : zb ≠ w.heap.size + 1 := by omega
      obtain ⟨c0, c1, c2, c3, c4⟩ := hzb.out.cells5
      have HS0 : Hid (wc.drew.cell? ⟨zb, 0, none⟩ = some (.int .i64 y0) ∧ wc.drew.cell? ⟨zb, 1, none⟩ = some (.int .i64 y1) ∧ wc.drew.cell? ⟨zb, 2, none⟩ = some (.string y2) ∧ wc.drew.cell? ⟨zb, 3, none⟩ = some (.slice y3 y4 y5) ∧ wc.drew.cell? ⟨zb, 4, none⟩ = some (.slice y6 y7 y8)) := ⟨c0, c1, c2, c3, c4⟩
      have hx : ¬ (l.length : Int) + 1 < 1 := by omega
      have hyc : w.heap.size + 1 < wc.heap.size := hyb.out.lt
      clear HF HKF HG hn5
      go_wp2_with fail
      go_region_held3 (fun w' => w'.cell? ⟨zb, 0, none⟩ = some (.int .i64 y0) ∧ w'.cell? ⟨zb, 1, none⟩ = some (.int .i64 y1) ∧ w'.cell? ⟨zb, 2, none⟩ = some (.string y2) ∧ w'.cell? ⟨zb, 3, none⟩ = some (.slice y3 y4 y5) ∧ w'.cell? ⟨zb, 4, none⟩ = some (.slice y6 y7 y8)) (first | with_reducible exact HS0.out | with_reducible exact HS5.out | with_reducible exact HSF.out) (first
        | (go_at_call 37; (with_reducible refine (HIH.out : Calls _ _ _ _ _).mono ?_); rintro e w5 ⟨g0, g1, g2, g3, g4, g5, g6, g7, g8, rfl, hn6, hb6⟩; have HN6 := Lib.hid hn6; have HB6 := Lib.hid hb6; clear hn6 hb6; have HS5 : Hid (w5.cell? ⟨zb, 0, none⟩ = some (.int .i64 y0) ∧ w5.cell? ⟨zb, 1, none⟩ = some (.int .i64 y1) ∧ w5.cell? ⟨zb, 2, none⟩ = some (.string y2) ∧ w5.cell? ⟨zb, 3, none⟩ = some (.slice y3 y4 y5) ∧ w5.cell? ⟨zb, 4, none⟩ = some (.slice y6 y7 y8)) := (hzb.out.drew.below HB6.out hzb.out.drew.lt).cells5; have HSF : Hid ((((((w5.setCell ⟨w.heap.size + 1, 0, none⟩ (.int .i64 g0)).setCell ⟨w.heap.size + 1, 1, none⟩ (.int .i64 g1)).setCell ⟨w.heap.size + 1, 2, none⟩ (.string g2)).setCell ⟨w.heap.size + 1, 3, none⟩ (.slice g3 g4 g5)).setCell ⟨w.heap.size + 1, 4, none⟩ (.slice g6 g7 g8)).cell? ⟨zb, 0, none⟩ = some (.int .i64 y0) ∧ (((((w5.setCell ⟨w.heap.size + 1, 0, none⟩ (.int .i64 g0)).setCell ⟨w.heap.size + 1, 1, none⟩ (.int .i64 g1)).setCell ⟨w.heap.size + 1, 2, none⟩ (.string g2)).setCell ⟨w.heap.size + 1, 3, none⟩ (.slice g3 g4 g5)).setCell ⟨w.heap.size + 1, 4, none⟩ (.slice g6 g7 g8)).cell? ⟨zb, 1, none⟩ = some (.int .i64 y1) ∧ (((((w5.setCell ⟨w.heap.size + 1, 0, none⟩ (.int .i64 g0)).setCell ⟨w.heap.size + 1, 1, none⟩ (.int .i64 g1)).setCell ⟨w.heap.size + 1, 2, none⟩ (.string g2)).setCell ⟨w.heap.size + 1, 3, none⟩ (.slice g3 g4 g5)).setCell ⟨w.heap.size + 1, 4, none⟩ (.slice g6 g7 g8)).cell? ⟨zb, 2, none⟩ = some (.string y2) ∧ (((((w5.setCell ⟨w.heap.size + 1, 0, none⟩ (.int .i64 g0)).setCell ⟨w.heap.size + 1, 1, none⟩ (.int .i64 g1)).setCell ⟨w.heap.size + 1, 2, none⟩ (.string g2)).setCell ⟨w.heap.size + 1, 3, none⟩ (.slice g3 g4 g5)).setCell ⟨w.heap.size + 1, 4, none⟩ (.slice g6 g7 g8)).cell? ⟨zb, 3, none⟩ = some (.slice y3 y4 y5) ∧ (((((w5.setCell ⟨w.heap.size + 1, 0, none⟩ (.int .i64 g0)).setCell ⟨w.heap.size + 1, 1, none⟩ (.int .i64 g1)).setCell ⟨w.heap.size + 1, 2, none⟩ (.string g2)).setCell ⟨w.heap.size + 1, 3, none⟩ (.slice g3 g4 g5)).setCell ⟨w.heap.size + 1, 4, none⟩ (.slice g6 g7 g8)).cell? ⟨zb, 4, none⟩ = some (.slice y6 y7 y8)) := (set5_far (hzb.out.drew.below HB6.out hzb.out.drew.lt) hzy).cells5; have HY6 := Lib.hid (hyb.out.drew.below HB6.out hyb.out.drew.lt); obtain ⟨d0, d1, d2, d3, d4⟩ := HY6.out.cells5; have f0 := HY6.out.frozen 0; have f1 := HY6.out.frozen 1; have f2 := HY6.out.frozen 2; have f3 := HY6.out.frozen 3; have f4 := HY6.out.frozen 4))
      have hz6 : wc.heap.size ≤ w5.heap.size := HB6.out.size
      go_wp2_with fail
      clear d0 d1 d2 d3 d4 f0 f1 f2 f3 f4
      have F := get_fin (r := getN l m) (S := S) (S2 := (fun b => S b ∨ Since wc.drew w5 b)) (w := w) (w2 := w5) (y := w.heap.size + 1) (by omega) (hbb.out.drew.trans (HB6.out.mono hbb.out.size)) HY6.out HN6.out (fun b hb => by
          rcases hb with hb | hb
          · exact ⟨.inl hb, fun e => by have := HS.out b hb; omega⟩
          · have h1 : wc.heap.size ≤ b := hb.1
            exact ⟨.inr ⟨by omega, hb.2⟩, by omega⟩)
      unfold set5 at F
      generalize (((((w5).setCell ⟨w.heap.size + 1, 0, none⟩ (.int .i64 g0)).setCell ⟨w.heap.size + 1, 1, none⟩ (.int .i64 g1)).setCell ⟨w.heap.size + 1, 2, none⟩ (.string g2)).setCell ⟨w.heap.size + 1, 3, none⟩ (.slice g3 g4 g5)).setCell ⟨w.heap.size + 1, 4, none⟩ (.slice g6 g7 g8) = WF at *
      obtain ⟨F1, F2⟩ := F
      obtain ⟨q0, q1, q2, q3, q4⟩ := F1.cells5
      refine bodyPost_ret (v := .tuple #[.agg #[.int .i64 g0, .int .i64 g1, .string g2, .slice g3 g4 g5, .slice g6 g7 g8], .bool (getN l m).isSome]) (by simp [results, Tryd.results37, go_sem, q0, q1, q2, q3, q4]) rfl ?_
      rw [HG2.out]; exact F2
end Go.Proofs.YtnbfagignbbmfaaDoor
/-! The walk of the reference's follow at a star. -/
namespace Go.Proofs.YtnbfagignbbmfaaDoor
open Go.RowKit Go.PlainAid
set_option linter.unusedVariables false
set_option linter.unusedSimpArgs false
set_option maxRecDepth 100000
set_option maxHeartbeats 4000000 in
theorem fget_star1 (p : ByteArray) (IH : FGetOK []) (n : Nd) (h6 : n.kind = 6) (hp42 : p.toList = [42]) : FGetStep p [] n 1 1 (fun ab ao => some ⟨ab, ao, none⟩) := by
  intro hpz cs w S ab ao hn hS hSB hab hp hr hc hs hct
  skip
  cases n with
  | mk k num t ks ns =>
  have HK : Hid (∀ (i : Nat) (m : Nd), ns[i]? = some m → sizeOk m ∧ m.count ≤ 1000000) := fun i m hi => by
    have := kid_ok (n := .mk k num t ks ns) (i := i) (m := m) hi hs
    exact ⟨this.1, by omega⟩
  have hcn0 : Nd.count.counts ns ≤ 1000000 := by simp only [Nd.count] at hct; omega
  simp only [Nd.kind] at h6
  subst h6
  have HG : Hid (getN (p :: []) (.mk 6 num t ks ns) = match starL (getN []) ns [] with | none => none | some l => some (.mk 6 0 ⟨#[]⟩ [] l)) := by
    show _ = _
    rw [getN, if_neg (by show ¬ (6 : Int) = 7; decide), if_pos (by rfl), if_pos hp42]
    simp only [Nd.kids]
    cases starL (getN []) ns [] <;> rfl
  unfold NdIn at hn
  obtain ⟨A1, ck, A2, cc, xs, rfl, hks, hxs, hns, ik, inn, ht, hkl, hkm, hmm⟩ := hn
  have e42 : (p.toList == [42]) = true := by rw [hp42]; rfl
  have hnl : ns.length ≤ 1000000 := Nat.le_trans (len_counts ns) hcn0
  have HS := Lib.hid hS
  have HSB := Lib.hid hSB
  clear hSB
  have HXS := Lib.hid hxs
  have HNS := Lib.hid hns
  have HR := Lib.hid hr
  have HCN := Lib.hid hcn0
  clear hS hks hxs hns hkl hr hs hp42 hcn0 hct ik inn ht hkm hmm
  have hp0 := Lib.hid hp
  show Calls Tryd.prog 37 #[.agg #[.int .i64 6, .int .i64 num, .string t, .slice A1 ks.length ck, .slice A2 ns.length cc], .slice (some ⟨ab, ao, none⟩) 1 1] w _
  have hA : Below w.heap.size w ((w.alloc (.cells #[.int .i64 6, .int .i64 num, .string t, .slice A1 ks.length ck, .slice A2 ns.length cc] 25)).alloc (.cells #[.int .i64 0, .int .i64 0, .string ⟨#[]⟩, .slice none 0 0, .slice none 0 0] 25)) := ((Below.refl _ _).alloc (Nat.le_refl _) _).alloc (by simp) _
  have hX : Blk ((w.alloc (.cells #[.int .i64 6, .int .i64 num, .string t, .slice A1 ks.length ck, .slice A2 ns.length cc] 25)).alloc (.cells #[.int .i64 0, .int .i64 0, .string ⟨#[]⟩, .slice none 0 0, .slice none 0 0] 25)) w.heap.size 25 #[.int .i64 6, .int .i64 num, .string t, .slice A1 ks.length ck, .slice A2 ns.length cc] := (Blk.new w _ _).alloc _
  have hY : Blk ((w.alloc (.cells #[.int .i64 6, .int .i64 num, .string t, .slice A1 ks.length ck, .slice A2 ns.length cc] 25)).alloc (.cells #[.int .i64 0, .int .i64 0, .string ⟨#[]⟩, .slice none 0 0, .slice none 0 0] 25)) (w.heap.size + 1) 25 #[.int .i64 0, .int .i64 0, .string ⟨#[]⟩, .slice none 0 0, .slice none 0 0] := by
    have := Blk.new (w.alloc (.cells #[.int .i64 6, .int .i64 num, .string t, .slice A1 ks.length ck, .slice A2 ns.length cc] 25)) 25 #[.int .i64 0, .int .i64 0, .string ⟨#[]⟩, .slice none 0 0, .slice none 0 0]
    simpa using this
  have hZ : w.heap.size + 2 = ((w.alloc (.cells #[.int .i64 6, .int .i64 num, .string t, .slice A1 ks.length ck, .slice A2 ns.length cc] 25)).alloc (.cells #[.int .i64 0, .int .i64 0, .string ⟨#[]⟩, .slice none 0 0, .slice none 0 0] 25)).heap.size := by simp
  have HA := Lib.hid hA
  have HX := Lib.hid hX
  have HY := Lib.hid hY
  clear hA hX hY
  go_enter Tryd.func37, Tryd.ntmps37
  go_upto_region 1 with fail
  generalize (w.alloc (.cells #[.int .i64 6, .int .i64 num, .string t, .slice A1 ks.length ck, .slice A2 ns.length cc] 25)).alloc (.cells #[.int .i64 0, .int .i64 0, .string ⟨#[]⟩, .slice none 0 0, .slice none 0 0] 25) = wa at *
  have p0 : wa.cell? ⟨ab, ao, none⟩ = some (.string p) := (HA.out.cell (p := ⟨ab, ao, none⟩) hab).trans hp0.out
  obtain ⟨c0, c1, c2, c3, c4⟩ := HX.out.cells5
  clear hp
  have HI0 := Lib.hid (SInv.start S HA.out HY.out (by omega))
  have hl : w.heap.size < wa.heap.size := by omega
  have c4b : (wa.alloc (.cells #[.int .i64 6, .int .i64 0, .string ⟨#[]⟩, .slice none 0 0, .slice none 0 0] 25)).cell? ⟨w.heap.size, 4, none⟩ = some (.slice A2 ns.length cc) := (World.cell?_alloc_lt _ _ _ hl).trans c4
  go_wp2_with fail
  clear c0 c1 c2 c3 c4 p0 c4b
  go_loopw [9] (fun t9 wr => ∃ (i : Nat) (acc : List Nd) (ys : List Value) (Aw : Option Addr) (cw : Nat), i ≤ ns.length ∧ t9 = .int .i64 i ∧ Hid (starL (getN []) (ns.drop i) acc = starL (getN []) ns []) ∧ Hid (Nd.count.counts acc + Nd.count.counts (ns.drop i) ≤ 1000000) ∧ Hid (SInv w S wa.heap.size acc Aw cw ys wr) ∧ Hid (Blk wr w.heap.size 25 #[.int .i64 6, .int .i64 num, .string t, .slice A1 ks.length ck, .slice A2 ns.length cc]))
    (fun t9 _ => ns.length - (intOf t9).toNat)
  case atStart => exact ⟨0, [], [], none, 0, by omega, rfl, rfl, by show _ ≤ _; simp only [Nd.count.counts, List.drop_zero]; have := HCN.out; omega, HI0, HX.out.alloc _⟩
  case round =>
    obtain ⟨i, acc, ys, Aw, cw, hi, rfl, hst, hcn, hI, hxb⟩ := hrel
    obtain ⟨wo, rfl⟩ : ∃ wo : World, wo = wr := ⟨_, rfl⟩
    have hob : wa.heap.size < wo.heap.size := hI.out.2.2.2.2.2.2
    obtain ⟨c0, c1, c2, c3, c4⟩ := hxb.out.cells5
    clear c0 c1 c2 c3
    by_cases hlt : i < ns.length
    · have hkp : ∀ q : Addr, S q.block → wo.cell? q = w.cell? q := fun q hq => hI.out.2.2.2.2.1.cell (HS.out _ hq)
      obtain ⟨b, off, m, rfl, hbS, hmi, x0, x1, x2, x3, x4, x5, x6, x7, x8, hnd, e0, e1, e2, e3, e4⟩ := (HXS.out.keep hkp).nd (NdsIn.keep hkp (fun _ h => h) _ _ HNS.out) hlt
      have hbl := HS.out b hbS
      have hwz : w.heap.size ≤ wo.heap.size := hI.out.2.2.2.2.1.size
      have HM := Lib.hid (HK.out i m hmi)
      have hdr : ns.drop i = m :: ns.drop (i + 1) := by
        obtain ⟨h1, h2⟩ := List.getElem?_eq_some_iff.1 hmi
        rw [← h2]; exact List.drop_eq_getElem_cons h1
      obtain ⟨R, hR⟩ : ∃ R, R = getN [] m := ⟨_, rfl⟩
      have HIH : Hid (∀ w', Below wo.heap.size wo w' → Calls Tryd.prog 37 #[.agg #[.int .i64 x0, .int .i64 x1, .string x2, .slice x3 x4 x5, .slice x6 x7 x8], .slice (some ⟨ab, ao, none⟩) 0 0] w' (GetP R S w')) := fun w' h' => by
        rw [hR]
        exact IH m [.int .i64 x0, .int .i64 x1, .string x2, .slice x3 x4 x5, .slice x6 x7 x8] w' S _ 0 (NdIn.keep (fun q hq => h'.cell (by have := HS.out _ hq; omega)) (fun _ h => h) _ _ hnd) (fun b hb => by have := HS.out b hb; have := h'.size; omega) HSB.out ((HR.out.keep fun q hq => ((h'.mono hwz).cell hq).trans (hI.out.2.2.2.2.1.cell hq)).more (Nat.le_trans hwz h'.size)) (Nat.le_refl _) (by unfold maxLen at *; omega) HM.out.1 HM.out.2
      have HST1 : Hid (∀ r, R = r → starL (getN []) ns [] = match r with | none => none | some x => starL (getN []) (ns.drop (i + 1)) (starAdd x acc)) := fun r hr => by
        rw [← hst.out, hdr, starL, ← hR, hr]; cases r <;> rfl
      have HCN1 : Hid (∀ x, R = some x → Nd.count.counts (starAdd x acc) + Nd.count.counts (ns.drop (i + 1)) ≤ 1000000 ∧ x.count ≤ 1000000) := fun x hx => by
        have h1 := hcn.out
        rw [hdr] at h1
        simp only [Nd.count.counts] at h1
        have h2 := (getN_ok [] m x (by rw [← hR]; exact hx) HM.out.1 HM.out.2).2
        refine ⟨?_, by omega⟩
        cases x with
        | mk k num t ks ms =>
          unfold starAdd
          split
          · rw [counts_app]; simp only [Nd.kids, Nd.count] at h2 ⊢; omega
          · rw [counts_app]; simp only [Nd.count.counts]; omega
      have hal : acc.length ≤ 1000000 := by
        have h1 := len_counts acc
        have h2 := hcn.out
        omega
      have HOW : Hid (∀ g, (Value.slice Aw acc.length cw).ownBlock = some g → g < wo.heap.size) := fun g hg => (own_lt hI.out.1 hg).2
      have hgs : GS w w.heap.size 4 b (off + i * 5) (.slice (some ⟨b, off, none⟩) ns.length cc) (.int .i64 x0) (.int .i64 x1) (.string x2) (.slice x3 x4 x5) (.slice x6 x7 x8) wo := ⟨c4, e0, e1, e2, e3, e4, hI.out.2.2.2.2.1⟩
      have HS0 : Hid (wo.drew.cell? ⟨w.heap.size, 4, none⟩ = some (.slice (some ⟨b, off, none⟩) ns.length cc) ∧ wo.drew.cell? ⟨b, off + i * 5, none⟩ = some (.int .i64 x0) ∧ wo.drew.cell? ⟨b, off + i * 5 + 1, none⟩ = some (.int .i64 x1) ∧ wo.drew.cell? ⟨b, off + i * 5 + 2, none⟩ = some (.string x2) ∧ wo.drew.cell? ⟨b, off + i * 5 + 3, none⟩ = some (.slice x3 x4 x5) ∧ wo.drew.cell? ⟨b, off + i * 5 + 4, none⟩ = some (.slice x6 x7 x8) ∧ Below w.heap.size w wo.drew) := hgs.drew
      have HSB0 : Hid ((wo.drew.alloc (.cells #[.int .i64 0, .int .i64 0, .string ⟨#[]⟩, .slice none 0 0, .slice none 0 0] 25)).cell? ⟨w.heap.size, 4, none⟩ = some (.slice (some ⟨b, off, none⟩) ns.length cc) ∧ (wo.drew.alloc (.cells #[.int .i64 0, .int .i64 0, .string ⟨#[]⟩, .slice none 0 0, .slice none 0 0] 25)).cell? ⟨b, off + i * 5, none⟩ = some (.int .i64 x0) ∧ (wo.drew.alloc (.cells #[.int .i64 0, .int .i64 0, .string ⟨#[]⟩, .slice none 0 0, .slice none 0 0] 25)).cell? ⟨b, off + i * 5 + 1, none⟩ = some (.int .i64 x1) ∧ (wo.drew.alloc (.cells #[.int .i64 0, .int .i64 0, .string ⟨#[]⟩, .slice none 0 0, .slice none 0 0] 25)).cell? ⟨b, off + i * 5 + 2, none⟩ = some (.string x2) ∧ (wo.drew.alloc (.cells #[.int .i64 0, .int .i64 0, .string ⟨#[]⟩, .slice none 0 0, .slice none 0 0] 25)).cell? ⟨b, off + i * 5 + 3, none⟩ = some (.slice x3 x4 x5) ∧ (wo.drew.alloc (.cells #[.int .i64 0, .int .i64 0, .string ⟨#[]⟩, .slice none 0 0, .slice none 0 0] 25)).cell? ⟨b, off + i * 5 + 4, none⟩ = some (.slice x6 x7 x8) ∧ Below w.heap.size w (wo.drew.alloc (.cells #[.int .i64 0, .int .i64 0, .string ⟨#[]⟩, .slice none 0 0, .slice none 0 0] 25))) := hgs.drew.below ((Below.refl _ _).alloc (Nat.le_refl _) _)
      have HSB1 : Hid ((wo.alloc (.cells #[.int .i64 0, .int .i64 0, .string ⟨#[]⟩, .slice none 0 0, .slice none 0 0] 25)).drew.cell? ⟨w.heap.size, 4, none⟩ = some (.slice (some ⟨b, off, none⟩) ns.length cc) ∧ (wo.alloc (.cells #[.int .i64 0, .int .i64 0, .string ⟨#[]⟩, .slice none 0 0, .slice none 0 0] 25)).drew.cell? ⟨b, off + i * 5, none⟩ = some (.int .i64 x0) ∧ (wo.alloc (.cells #[.int .i64 0, .int .i64 0, .string ⟨#[]⟩, .slice none 0 0, .slice none 0 0] 25)).drew.cell? ⟨b, off + i * 5 + 1, none⟩ = some (.int .i64 x1) ∧ (wo.alloc (.cells #[.int .i64 0, .int .i64 0, .string ⟨#[]⟩, .slice none 0 0, .slice none 0 0] 25)).drew.cell? ⟨b, off + i * 5 + 2, none⟩ = some (.string x2) ∧ (wo.alloc (.cells #[.int .i64 0, .int .i64 0, .string ⟨#[]⟩, .slice none 0 0, .slice none 0 0] 25)).drew.cell? ⟨b, off + i * 5 + 3, none⟩ = some (.slice x3 x4 x5) ∧ (wo.alloc (.cells #[.int .i64 0, .int .i64 0, .string ⟨#[]⟩, .slice none 0 0, .slice none 0 0] 25)).drew.cell? ⟨b, off + i * 5 + 4, none⟩ = some (.slice x6 x7 x8) ∧ Below w.heap.size w (wo.alloc (.cells #[.int .i64 0, .int .i64 0, .string ⟨#[]⟩, .slice none 0 0, .slice none 0 0] 25)).drew) := (hgs.below ((Below.refl _ _).alloc (Nat.le_refl _) _)).drew
      have HZB : Hid (Blk (wo.alloc (.cells #[.int .i64 0, .int .i64 0, .string ⟨#[]⟩, .slice none 0 0, .slice none 0 0] 25)).drew (wo.heap.size) 25 #[.int .i64 0, .int .i64 0, .string ⟨#[]⟩, .slice none 0 0, .slice none 0 0]) := (Blk.new wo _ _).drew
      have HBA : Hid (Below wo.heap.size wo wo.drew) := (Below.refl _ _).drew
      have HBB : Hid (Below wo.heap.size wo (wo.alloc (.cells #[.int .i64 0, .int .i64 0, .string ⟨#[]⟩, .slice none 0 0, .slice none 0 0] 25)).drew) := ((Below.refl _ _).alloc (Nat.le_refl _) _).drew
      have hzz : (wo.alloc (.cells #[.int .i64 0, .int .i64 0, .string ⟨#[]⟩, .slice none 0 0, .slice none 0 0] 25)).drew.heap.size = wo.heap.size + 1 := by show (wo.alloc (.cells #[.int .i64 0, .int .i64 0, .string ⟨#[]⟩, .slice none 0 0, .slice none 0 0] 25)).heap.size = _; simp
      have HZZ := Lib.hid hzz
      have hxz : w.heap.size ≠ wo.heap.size := by omega
      have hbz : b ≠ wo.heap.size := by omega
      have hi0 : (0 : Int) ≤ (i : Int) := by omega
      have hi1 : (i : Int) < (ns.length : Int) := by omega
      clear hkp hmi hnd hbS hst hcn hdr hR hzz hgs
      go_upto_region 15 with fail
      go_cut [10, 11] (fun t10 t11 wx => ∃ (zb : Nat) (y0 y1 : Int) (y2 : ByteArray) (y3 : Option Addr) (y4 y5 : Nat) (y6 : Option Addr) (y7 y8 : Nat), t10 = .pointer (some ⟨zb, 0, none⟩) ∧ t11 = .bool R.isSome ∧ Hid (Blk wx zb 25 #[.int .i64 y0, .int .i64 y1, .string y2, .slice y3 y4 y5, .slice y6 y7 y8]) ∧ Hid (NdIn wx (fun b => S b ∨ (wo.heap.size ≤ b ∧ b < wx.heap.size ∧ b ≠ zb)) (R.getD (nd0 0)) [.int .i64 y0, .int .i64 y1, .string y2, .slice y3 y4 y5, .slice y6 y7 y8]) ∧ Hid (Below wo.heap.size wo wx) ∧ wo.heap.size ≤ zb)
      case first =>
        skip
        skip
        go_region_held3 (fun w' => w'.cell? ⟨w.heap.size, 4, none⟩ = some (.slice (some ⟨b, off, none⟩) ns.length cc) ∧ w'.cell? ⟨b, off + i * 5, none⟩ = some (.int .i64 x0) ∧ w'.cell? ⟨b, off + i * 5 + 1, none⟩ = some (.int .i64 x1) ∧ w'.cell? ⟨b, off + i * 5 + 2, none⟩ = some (.string x2) ∧ w'.cell? ⟨b, off + i * 5 + 3, none⟩ = some (.slice x3 x4 x5) ∧ w'.cell? ⟨b, off + i * 5 + 4, none⟩ = some (.slice x6 x7 x8) ∧ Below w.heap.size w w') (first | with_reducible exact HS0.out | with_reducible exact HSB0.out | with_reducible exact HSB1.out | with_reducible exact HS5.out | with_reducible exact HS5a.out | with_reducible exact HS5b.out) (first
          | (go_at_call 37; (with_reducible refine (HIH.out wo.drew HBA.out).mono ?_); rintro e w5 ⟨y0, y1, y2, y3, y4, y5, y6, y7, y8, rfl, hn5, hb5⟩; have HN5 := Lib.hid hn5; have HB5 := Lib.hid hb5; clear hn5 hb5; have HS5 : Hid (w5.cell? ⟨w.heap.size, 4, none⟩ = some (.slice (some ⟨b, off, none⟩) ns.length cc) ∧ w5.cell? ⟨b, off + i * 5, none⟩ = some (.int .i64 x0) ∧ w5.cell? ⟨b, off + i * 5 + 1, none⟩ = some (.int .i64 x1) ∧ w5.cell? ⟨b, off + i * 5 + 2, none⟩ = some (.string x2) ∧ w5.cell? ⟨b, off + i * 5 + 3, none⟩ = some (.slice x3 x4 x5) ∧ w5.cell? ⟨b, off + i * 5 + 4, none⟩ = some (.slice x6 x7 x8) ∧ Below w.heap.size w w5) := GS.below HS0.out HB5.out; have HS5a : Hid ((w5.alloc (.cells #[.int .i64 0, .int .i64 0, .string ⟨#[]⟩, .slice none 0 0, .slice none 0 0] 25)).cell? ⟨w.heap.size, 4, none⟩ = some (.slice (some ⟨b, off, none⟩) ns.length cc) ∧ (w5.alloc (.cells #[.int .i64 0, .int .i64 0, .string ⟨#[]⟩, .slice none 0 0, .slice none 0 0] 25)).cell? ⟨b, off + i * 5, none⟩ = some (.int .i64 x0) ∧ (w5.alloc (.cells #[.int .i64 0, .int .i64 0, .string ⟨#[]⟩, .slice none 0 0, .slice none 0 0] 25)).cell? ⟨b, off + i * 5 + 1, none⟩ = some (.int .i64 x1) ∧ (w5.alloc (.cells #[.int .i64 0, .int .i64 0, .string ⟨#[]⟩, .slice none 0 0, .slice none 0 0] 25)).cell? ⟨b, off + i * 5 + 2, none⟩ = some (.string x2) ∧ (w5.alloc (.cells #[.int .i64 0, .int .i64 0, .string ⟨#[]⟩, .slice none 0 0, .slice none 0 0] 25)).cell? ⟨b, off + i * 5 + 3, none⟩ = some (.slice x3 x4 x5) ∧ (w5.alloc (.cells #[.int .i64 0, .int .i64 0, .string ⟨#[]⟩, .slice none 0 0, .slice none 0 0] 25)).cell? ⟨b, off + i * 5 + 4, none⟩ = some (.slice x6 x7 x8) ∧ Below w.heap.size w (w5.alloc (.cells #[.int .i64 0, .int .i64 0, .string ⟨#[]⟩, .slice none 0 0, .slice none 0 0] 25))) := GS.below (GS.below HS0.out HB5.out) ((Below.refl _ _).alloc (Nat.le_refl _) _); have HS5b : Hid ((w5.alloc (.cells #[.int .i64 y0, .int .i64 y1, .string y2, .slice y3 y4 y5, .slice y6 y7 y8] 25)).cell? ⟨w.heap.size, 4, none⟩ = some (.slice (some ⟨b, off, none⟩) ns.length cc) ∧ (w5.alloc (.cells #[.int .i64 y0, .int .i64 y1, .string y2, .slice y3 y4 y5, .slice y6 y7 y8] 25)).cell? ⟨b, off + i * 5, none⟩ = some (.int .i64 x0) ∧ (w5.alloc (.cells #[.int .i64 y0, .int .i64 y1, .string y2, .slice y3 y4 y5, .slice y6 y7 y8] 25)).cell? ⟨b, off + i * 5 + 1, none⟩ = some (.int .i64 x1) ∧ (w5.alloc (.cells #[.int .i64 y0, .int .i64 y1, .string y2, .slice y3 y4 y5, .slice y6 y7 y8] 25)).cell? ⟨b, off + i * 5 + 2, none⟩ = some (.string x2) ∧ (w5.alloc (.cells #[.int .i64 y0, .int .i64 y1, .string y2, .slice y3 y4 y5, .slice y6 y7 y8] 25)).cell? ⟨b, off + i * 5 + 3, none⟩ = some (.slice x3 x4 x5) ∧ (w5.alloc (.cells #[.int .i64 y0, .int .i64 y1, .string y2, .slice y3 y4 y5, .slice y6 y7 y8] 25)).cell? ⟨b, off + i * 5 + 4, none⟩ = some (.slice x6 x7 x8) ∧ Below w.heap.size w (w5.alloc (.cells #[.int .i64 y0, .int .i64 y1, .string y2, .slice y3 y4 y5, .slice y6 y7 y8] 25))) := GS.below (GS.below HS0.out HB5.out) ((Below.refl _ _).alloc (Nat.le_refl _) _))
          | (go_at_call 37; (with_reducible refine (HIH.out (wo.alloc (.cells #[.int .i64 0, .int .i64 0, .string ⟨#[]⟩, .slice none 0 0, .slice none 0 0] 25)).drew HBB.out).mono ?_); rintro e w5 ⟨y0, y1, y2, y3, y4, y5, y6, y7, y8, rfl, hn5, hb5⟩; have HN5 := Lib.hid hn5; have HB5 := Lib.hid hb5; clear hn5 hb5; have HS5 : Hid (w5.cell? ⟨w.heap.size, 4, none⟩ = some (.slice (some ⟨b, off, none⟩) ns.length cc) ∧ w5.cell? ⟨b, off + i * 5, none⟩ = some (.int .i64 x0) ∧ w5.cell? ⟨b, off + i * 5 + 1, none⟩ = some (.int .i64 x1) ∧ w5.cell? ⟨b, off + i * 5 + 2, none⟩ = some (.string x2) ∧ w5.cell? ⟨b, off + i * 5 + 3, none⟩ = some (.slice x3 x4 x5) ∧ w5.cell? ⟨b, off + i * 5 + 4, none⟩ = some (.slice x6 x7 x8) ∧ Below w.heap.size w w5) := GS.below HSB1.out HB5.out; have HZ5 := Lib.hid (HZB.out.below HB5.out HZB.out.lt); obtain ⟨d0, d1, d2, d3, d4⟩ := HZ5.out.cells5; have f0 := HZ5.out.frozen 0; have f1 := HZ5.out.frozen 1; have f2 := HZ5.out.frozen 2; have f3 := HZ5.out.frozen 3; have f4 := HZ5.out.frozen 4; have HS5b : Hid ((((((w5.setCell ⟨wo.heap.size, 0, none⟩ (.int .i64 y0)).setCell ⟨wo.heap.size, 1, none⟩ (.int .i64 y1)).setCell ⟨wo.heap.size, 2, none⟩ (.string y2)).setCell ⟨wo.heap.size, 3, none⟩ (.slice y3 y4 y5)).setCell ⟨wo.heap.size, 4, none⟩ (.slice y6 y7 y8)).cell? ⟨w.heap.size, 4, none⟩ = some (.slice (some ⟨b, off, none⟩) ns.length cc) ∧ (((((w5.setCell ⟨wo.heap.size, 0, none⟩ (.int .i64 y0)).setCell ⟨wo.heap.size, 1, none⟩ (.int .i64 y1)).setCell ⟨wo.heap.size, 2, none⟩ (.string y2)).setCell ⟨wo.heap.size, 3, none⟩ (.slice y3 y4 y5)).setCell ⟨wo.heap.size, 4, none⟩ (.slice y6 y7 y8)).cell? ⟨b, off + i * 5, none⟩ = some (.int .i64 x0) ∧ (((((w5.setCell ⟨wo.heap.size, 0, none⟩ (.int .i64 y0)).setCell ⟨wo.heap.size, 1, none⟩ (.int .i64 y1)).setCell ⟨wo.heap.size, 2, none⟩ (.string y2)).setCell ⟨wo.heap.size, 3, none⟩ (.slice y3 y4 y5)).setCell ⟨wo.heap.size, 4, none⟩ (.slice y6 y7 y8)).cell? ⟨b, off + i * 5 + 1, none⟩ = some (.int .i64 x1) ∧ (((((w5.setCell ⟨wo.heap.size, 0, none⟩ (.int .i64 y0)).setCell ⟨wo.heap.size, 1, none⟩ (.int .i64 y1)).setCell ⟨wo.heap.size, 2, none⟩ (.string y2)).setCell ⟨wo.heap.size, 3, none⟩ (.slice y3 y4 y5)).setCell ⟨wo.heap.size, 4, none⟩ (.slice y6 y7 y8)).cell? ⟨b, off + i * 5 + 2, none⟩ = some (.string x2) ∧ (((((w5.setCell ⟨wo.heap.size, 0, none⟩ (.int .i64 y0)).setCell ⟨wo.heap.size, 1, none⟩ (.int .i64 y1)).setCell ⟨wo.heap.size, 2, none⟩ (.string y2)).setCell ⟨wo.heap.size, 3, none⟩ (.slice y3 y4 y5)).setCell ⟨wo.heap.size, 4, none⟩ (.slice y6 y7 y8)).cell? ⟨b, off + i * 5 + 3, none⟩ = some (.slice x3 x4 x5) ∧ (((((w5.setCell ⟨wo.heap.size, 0, none⟩ (.int .i64 y0)).setCell ⟨wo.heap.size, 1, none⟩ (.int .i64 y1)).setCell ⟨wo.heap.size, 2, none⟩ (.string y2)).setCell ⟨wo.heap.size, 3, none⟩ (.slice y3 y4 y5)).setCell ⟨wo.heap.size, 4, none⟩ (.slice y6 y7 y8)).cell? ⟨b, off + i * 5 + 4, none⟩ = some (.slice x6 x7 x8) ∧ Below w.heap.size w (((((w5.setCell ⟨wo.heap.size, 0, none⟩ (.int .i64 y0)).setCell ⟨wo.heap.size, 1, none⟩ (.int .i64 y1)).setCell ⟨wo.heap.size, 2, none⟩ (.string y2)).setCell ⟨wo.heap.size, 3, none⟩ (.slice y3 y4 y5)).setCell ⟨wo.heap.size, 4, none⟩ (.slice y6 y7 y8))) := GS.set5 (GS.below HSB1.out HB5.out) hwz hxz hbz))
        · go_wp2_with fail
          go_meet
          have hz5 : wo.drew.heap.size ≤ w5.heap.size := HB5.out.size
          have hz6 : wo.drew.heap.size = wo.heap.size := rfl
          refine ⟨w5.heap.size, y0, y1, y2, y3, y4, y5, y6, y7, y8, rfl, rfl, Blk.new w5 _ _, ?_, ((HBA.out.trans (HB5.out.mono (by omega))).alloc (by omega) _ : Below _ _ _), by omega⟩
          exact NdIn.keep (fun q hq => World.cell?_alloc_lt _ _ _ (by
            rcases hq with hq | hq
            · have := HS.out _ hq; omega
            · exact hq.2)) (fun b hb => by
            rcases hb with hb | hb
            · exact .inl hb
            · have h1 : wo.drew.heap.size ≤ b := hb.1
              have h2 : b < w5.heap.size := hb.2
              exact .inr ⟨by omega, by simp; omega, by omega⟩) _ _ HN5.out
        · go_wp2_with fail
          go_meet
          have hz5 : (wo.alloc (.cells #[.int .i64 0, .int .i64 0, .string ⟨#[]⟩, .slice none 0 0, .slice none 0 0] 25)).drew.heap.size ≤ w5.heap.size := HB5.out.size
          have hz6 := HZZ.out
          refine ⟨wo.heap.size, y0, y1, y2, y3, y4, y5, y6, y7, y8, rfl, rfl, (set5_blk HZ5.out : Blk _ _ _ _), ?_, (set5_below (HBB.out.trans (HB5.out.mono (by omega))) (by omega) : Below _ _ _), by omega⟩
          exact set5_in HN5.out (fun b hb => by
            rcases hb with hb | hb
            · have := HS.out _ hb; omega
            · have h1 : (wo.alloc (.cells #[.int .i64 0, .int .i64 0, .string ⟨#[]⟩, .slice none 0 0, .slice none 0 0] 25)).drew.heap.size ≤ b := hb.1
              omega) (fun b hb => by
            rcases hb with hb | hb
            · exact .inl hb
            · have h1 : (wo.alloc (.cells #[.int .i64 0, .int .i64 0, .string ⟨#[]⟩, .slice none 0 0, .slice none 0 0] 25)).drew.heap.size ≤ b := hb.1
              have h2 : b < w5.heap.size := hb.2
              exact .inr ⟨by omega, by show b < (set5 w5 _ _ _ _ _ _).heap.size; rw [set5_size]; exact h2, by omega⟩)
      case rest =>
        obtain ⟨zb, y0, y1, y2, y3, y4, y5, y6, y7, y8, rfl, rfl, hzb, hn5, hbb, hz2⟩ := hcut
        have HI5 := Lib.hid (hI.out.later HS.out hbb.out)
        have HXC := Lib.hid (hxb.out.below hbb.out hxb.out.lt)
        clear HIH HS0 HSB0 HSB1 HZB HBA HBB HZZ hxz hbz hI HI0 hxb c4
        cases R with
        | none =>
          obtain ⟨d0, d1, d2, d3, d4⟩ := HI5.out.2.2.2.1.cells5
          have f0 := HI5.out.2.2.2.1.frozen 0
          have f1 := HI5.out.2.2.2.1.frozen 1
          have f2 := HI5.out.2.2.2.1.frozen 2
          have f3 := HI5.out.2.2.2.1.frozen 3
          have f4 := HI5.out.2.2.2.1.frozen 4
          go_wp2_with fail
          clear d0 d1 d2 d3 d4 f0 f1 f2 f3 f4
          have F := get_fin (r := none) (S := S) (S2 := (fun _ => False)) (w := w) (w2 := wc) (y := w.heap.size + 1) (by omega) HI5.out.2.2.2.2.1 HI5.out.2.2.2.1 (nd0_in 0 (by unfold I64; omega) _ _) (fun b hb => hb.elim)
          unfold set5 at F
          generalize (((((wc).setCell ⟨w.heap.size + 1, 0, none⟩ (.int .i64 0)).setCell ⟨w.heap.size + 1, 1, none⟩ (.int .i64 0)).setCell ⟨w.heap.size + 1, 2, none⟩ (.string ⟨#[]⟩)).setCell ⟨w.heap.size + 1, 3, none⟩ (.slice none 0 0)).setCell ⟨w.heap.size + 1, 4, none⟩ (.slice none 0 0) = WF at *
          obtain ⟨F1, F2⟩ := F
          obtain ⟨q0, q1, q2, q3, q4⟩ := F1.cells5
          refine bodyPost_ret (v := .tuple #[.agg #[.int .i64 0, .int .i64 0, .string ⟨#[]⟩, .slice none 0 0, .slice none 0 0], .bool false]) (by simp [results, Tryd.results34, go_sem, q0, q1, q2, q3, q4]) rfl ?_
          rw [HG.out, HST1.out none rfl]
          exact F2
        | some x =>
          obtain ⟨k2, m2, t2, ks2, ms⟩ := x
          obtain ⟨hcx, hcy⟩ := HCN1.out _ rfl
          have HN7 : Hid (NdIn wc (fun b => S b ∨ (wo.heap.size ≤ b ∧ b < wc.heap.size ∧ b ≠ zb)) (.mk k2 m2 t2 ks2 ms) [.int .i64 y0, .int .i64 y1, .string y2, .slice y3 y4 y5, .slice y6 y7 y8]) := hn5.out
          have hT : ∀ b, (S b ∨ (wo.heap.size ≤ b ∧ b < wc.heap.size ∧ b ≠ zb)) → (S b ∨ SK (wa.heap.size + 1) wc (.slice Aw acc.length cw) b) := fun b hb => by
            rcases hb with hb | hb
            · exact .inl hb
            · exact .inr ⟨by omega, hb.2.1, fun e => by have := HOW.out _ e; omega⟩
          have hTz : ∀ b, (S b ∨ SK (wa.heap.size + 1) wc (.slice Aw acc.length cw) b) → b < wc.heap.size := fun b hb => by
            rcases hb with hb | hb
            · have := HS.out _ hb; have := HI5.out.2.2.2.2.1.size; omega
            · exact hb.2.1
          have HN8 : Hid (NdIn wc (fun b => S b ∨ SK (wa.heap.size + 1) wc (.slice Aw acc.length cw) b) (.mk k2 m2 t2 ks2 ms) [.int .i64 y0, .int .i64 y1, .string y2, .slice y3 y4 y5, .slice y6 y7 y8]) := NdIn.mono hT HN7.out
          have hu := HN8.out
          unfold NdIn at hu
          obtain ⟨B1, bk, B2, bc, zs, heq, _, hrs, hnds, _, _, _, _, _, _⟩ := hu
          cases heq
          have HRS : Hid (Reads wc wc.heap.size 5 y6 ms.length zs) := hrs.reads hTz
          have HMS := Lib.hid hnds
          have HFL := Lib.hid (NdsIn.flat_ok _ _ hnds)
          have hwcz := HI5.out.2.2.2.2.2.2
          obtain ⟨z0, z1, z2, z3, z4⟩ := hzb.out.cells5
          obtain ⟨o0, o1, o2, o3, o4⟩ := HI5.out.2.2.1.cells5
          clear o0 o1 o2 o3 hT hTz hrs hnds hn5 HN7
          by_cases hk6 : y0 = 6
          · subst hk6
            have hst2 : Hid (starL (getN []) (ns.drop (i + 1)) (acc ++ ms) = starL (getN []) ns []) := by
              show _ = _
              have := HST1.out _ rfl
              simp only [starAdd, Nd.kind, Nd.kids, if_true] at this
              exact this.symm
            have hcn2 : Hid (Nd.count.counts (acc ++ ms) + Nd.count.counts (ns.drop (i + 1)) ≤ 1000000) := by
              simp only [starAdd, Nd.kind, Nd.kids, if_true] at hcx
              exact hcx
            have hml : ms.length ≤ 1000000 := by
              have := len_counts ms
              simp only [Nd.count] at hcy; omega
            clear HST1 HCN1 hcx hcy z1 z2 z3
            go_wp2_with (at_builtin; refine wpList_pushNds _ rfl _ _ rfl (wa.heap.size + 1) (.slice Aw acc.length cw) acc.length ys (by first | rfl | simp [Act.eval]) HI5.out.1 wc.heap.size y6 ms.length y8 zs HRS.out HFL.out (by first | rfl | simp [Act.eval]) ?lim ?hB ?_; (case lim => omega); (case hB => omega); intro v' w3 ho3 hg3 hv3; obtain ⟨Av, cv, rfl⟩ := own_form ho3; have HP := Lib.hid (SInv.push HI5.out HS.out ms zs HMS.out (by simp) ho3 hg3 hv3); have hb3 := HI5.out.2.2.1.grown hg3 (fun e => by have := (own_lt HI5.out.1 e.symm).1; omega); obtain ⟨o0, o1, o2, o3, o4⟩ := hb3.cells5; have of4 := hb3.frozen 4; have HX3 : Hid (Blk (w3.setCell ⟨wa.heap.size, 4, none⟩ (.slice Av (acc.length + ms.length) cv)) w.heap.size 25 #[.int .i64 6, .int .i64 num, .string t, .slice A1 ks.length ck, .slice (some ⟨b, off, none⟩) ns.length cc]) := (HXC.out.grown hg3 (fun e => by have := (own_lt HI5.out.1 e.symm).1; omega)).far (by show w.heap.size ≠ wa.heap.size; omega) _; clear o0 o1 o2 o3 ho3 hg3 hv3 hb3)
            go_roundw
            case rel => exact ⟨i + 1, acc ++ ms, ys ++ zs, Av, cv, by omega, by go_num, hst2, hcn2, HP, HX3⟩
            case measure => simp [intOf]; omega
          · have e6 : (y0 == 6) = false := by rw [beq_eq_false_iff_ne]; exact hk6
            have hst2 : Hid (starL (getN []) (ns.drop (i + 1)) (acc ++ [.mk y0 y1 y2 ks2 ms]) = starL (getN []) ns []) := by
              show _ = _
              have := HST1.out _ rfl
              have hsa : starAdd (.mk y0 y1 y2 ks2 ms) acc = acc ++ [.mk y0 y1 y2 ks2 ms] := if_neg hk6
              simp only [hsa] at this
              exact this.symm
            have hcn2 : Hid (Nd.count.counts (acc ++ [.mk y0 y1 y2 ks2 ms]) + Nd.count.counts (ns.drop (i + 1)) ≤ 1000000) := by
              have hsa : starAdd (.mk y0 y1 y2 ks2 ms) acc = acc ++ [.mk y0 y1 y2 ks2 ms] := if_neg hk6
              rw [hsa] at hcx
              exact hcx
            have HMS2 : Hid (NdsIn wc (fun b => S b ∨ SK (wa.heap.size + 1) wc (.slice Aw acc.length cw) b) [.mk y0 y1 y2 ks2 ms] [.int .i64 y0, .int .i64 y1, .string y2, .slice y3 ks2.length y5, .slice y6 ms.length y8]) := by
              exact NdsIn.app [] [] _ _ NdsIn.nil HN8.out
            clear HST1 HCN1 hcx hcy hk6
            go_wp2_with (at_builtin; refine wpList_pushNd _ rfl _ _ rfl (wa.heap.size + 1) (.slice Aw acc.length cw) acc.length ys (by first | rfl | simp [Act.eval]) HI5.out.1 y0 y1 y2 y3 ks2.length y5 y6 ms.length y8 (by first | rfl | simp [Act.eval]) ?lim ?hB ?_; (case lim => omega); (case hB => omega); intro v' w3 ho3 hg3 hv3; obtain ⟨Av, cv, rfl⟩ := own_form ho3; have HP := Lib.hid (SInv.push HI5.out HS.out [.mk y0 y1 y2 ks2 ms] [.int .i64 y0, .int .i64 y1, .string y2, .slice y3 ks2.length y5, .slice y6 ms.length y8] HMS2.out (by simp) ho3 hg3 hv3); have hb3 := HI5.out.2.2.1.grown hg3 (fun e => by have := (own_lt HI5.out.1 e.symm).1; omega); obtain ⟨o0, o1, o2, o3, o4⟩ := hb3.cells5; have of4 := hb3.frozen 4; have HX3 : Hid (Blk (w3.setCell ⟨wa.heap.size, 4, none⟩ (.slice Av (acc.length + 1) cv)) w.heap.size 25 #[.int .i64 6, .int .i64 num, .string t, .slice A1 ks.length ck, .slice (some ⟨b, off, none⟩) ns.length cc]) := (HXC.out.grown hg3 (fun e => by have := (own_lt HI5.out.1 e.symm).1; omega)).far (by show w.heap.size ≠ wa.heap.size; omega) _; clear o0 o1 o2 o3 ho3 hg3 hv3 hb3)
            go_roundw
            case rel => exact ⟨i + 1, acc ++ [.mk y0 y1 y2 ks2 ms], ys ++ [.int .i64 y0, .int .i64 y1, .string y2, .slice y3 ks2.length y5, .slice y6 ms.length y8], Av, cv, by omega, by go_num, hst2, hcn2, HP, HX3⟩
            case measure => simp [intOf]; omega
    · have hal : acc.length ≤ 1000000 := by
        have h1 := len_counts acc
        have h2 := hcn.out
        omega
      have HSF : Hid (starL (getN []) ns [] = some acc) := by
        show _ = _
        rw [← hst.out, List.drop_eq_nil_of_le (by omega)]; rfl
      have hwz := hI.out.2.2.2.2.2.1
      obtain ⟨o0, o1, o2, o3, o4⟩ := hI.out.2.2.1.cells5
      obtain ⟨d0, d1, d2, d3, d4⟩ := hI.out.2.2.2.1.cells5
      have f0 := hI.out.2.2.2.1.frozen 0
      have f1 := hI.out.2.2.2.1.frozen 1
      have f2 := hI.out.2.2.2.1.frozen 2
      have f3 := hI.out.2.2.2.1.frozen 3
      have f4 := hI.out.2.2.2.1.frozen 4
      clear hst hcn
      go_wp2_with fail
      clear d0 d1 d2 d3 d4 f0 f1 f2 f3 f4
      have F := get_fin (r := some (.mk 6 0 ⟨#[]⟩ [] acc)) (S := S) (S2 := (fun b => S b ∨ (wa.heap.size + 1 ≤ b ∧ b < wo.heap.size))) (w := w) (w2 := wo) (y := w.heap.size + 1) (by omega) hI.out.2.2.2.2.1 hI.out.2.2.2.1 (hI.out.node hal) (fun b hb => by
          rcases hb with hb | hb
          · exact ⟨.inl hb, fun e => by have := HS.out b hb; omega⟩
          · exact ⟨.inr ⟨by omega, hb.2⟩, by omega⟩)
      unfold set5 at F
      generalize (((((wo).setCell ⟨w.heap.size + 1, 0, none⟩ (.int .i64 6)).setCell ⟨w.heap.size + 1, 1, none⟩ (.int .i64 0)).setCell ⟨w.heap.size + 1, 2, none⟩ (.string ⟨#[]⟩)).setCell ⟨w.heap.size + 1, 3, none⟩ (.slice none 0 0)).setCell ⟨w.heap.size + 1, 4, none⟩ (.slice Aw acc.length cw) = WF at *
      obtain ⟨F1, F2⟩ := F
      obtain ⟨q0, q1, q2, q3, q4⟩ := F1.cells5
      refine bodyPost_ret (v := .tuple #[.agg #[.int .i64 6, .int .i64 0, .string ⟨#[]⟩, .slice none 0 0, .slice Aw acc.length cw], .bool true]) (by simp [results, Tryd.results34, go_sem, q0, q1, q2, q3, q4]) rfl ?_
      rw [HG.out, HSF.out]
      exact F2
set_option maxHeartbeats 4000000 in
theorem fget_star2 (p : ByteArray) (l : List ByteArray) (c : Nat) (hc1 : ¬ c = 1) (hl : l.length + 1 ≤ c) (IH : FGetOK l) (n : Nd) (h6 : n.kind = 6) (hp42 : p.toList = [42]) : FGetStep p l n (l.length + 1) c (fun ab ao => some ⟨ab, ao + 1, none⟩) := by
  intro hpz cs w S ab ao hn hS hSB hab hp hr hc hs hct
  have HC1 := Lib.hid hc1
  cases n with
  | mk k num t ks ns =>
  have HK : Hid (∀ (i : Nat) (m : Nd), ns[i]? = some m → sizeOk m ∧ m.count ≤ 1000000) := fun i m hi => by
    have := kid_ok (n := .mk k num t ks ns) (i := i) (m := m) hi hs
    exact ⟨this.1, by omega⟩
  have hcn0 : Nd.count.counts ns ≤ 1000000 := by simp only [Nd.count] at hct; omega
  simp only [Nd.kind] at h6
  subst h6
  have HG : Hid (getN (p :: l) (.mk 6 num t ks ns) = match starL (getN l) ns [] with | none => none | some l => some (.mk 6 0 ⟨#[]⟩ [] l)) := by
    show _ = _
    rw [getN, if_neg (by show ¬ (6 : Int) = 7; decide), if_pos (by rfl), if_pos hp42]
    simp only [Nd.kids]
    cases starL (getN l) ns [] <;> rfl
  unfold NdIn at hn
  obtain ⟨A1, ck, A2, cc, xs, rfl, hks, hxs, hns, ik, inn, ht, hkl, hkm, hmm⟩ := hn
  have e42 : (p.toList == [42]) = true := by rw [hp42]; rfl
  have hnl : ns.length ≤ 1000000 := Nat.le_trans (len_counts ns) hcn0
  have HS := Lib.hid hS
  have HSB := Lib.hid hSB
  clear hSB
  have HXS := Lib.hid hxs
  have HNS := Lib.hid hns
  have HR := Lib.hid hr
  have HCN := Lib.hid hcn0
  clear hS hks hxs hns hkl hr hs hp42 hcn0 hct ik inn ht hkm hmm
  have hp0 := Lib.hid hp
  show Calls Tryd.prog 37 #[.agg #[.int .i64 6, .int .i64 num, .string t, .slice A1 ks.length ck, .slice A2 ns.length cc], .slice (some ⟨ab, ao, none⟩) (l.length + 1) c] w _
  have hA : Below w.heap.size w ((w.alloc (.cells #[.int .i64 6, .int .i64 num, .string t, .slice A1 ks.length ck, .slice A2 ns.length cc] 25)).alloc (.cells #[.int .i64 0, .int .i64 0, .string ⟨#[]⟩, .slice none 0 0, .slice none 0 0] 25)) := ((Below.refl _ _).alloc (Nat.le_refl _) _).alloc (by simp) _
  have hX : Blk ((w.alloc (.cells #[.int .i64 6, .int .i64 num, .string t, .slice A1 ks.length ck, .slice A2 ns.length cc] 25)).alloc (.cells #[.int .i64 0, .int .i64 0, .string ⟨#[]⟩, .slice none 0 0, .slice none 0 0] 25)) w.heap.size 25 #[.int .i64 6, .int .i64 num, .string t, .slice A1 ks.length ck, .slice A2 ns.length cc] := (Blk.new w _ _).alloc _
  have hY : Blk ((w.alloc (.cells #[.int .i64 6, .int .i64 num, .string t, .slice A1 ks.length ck, .slice A2 ns.length cc] 25)).alloc (.cells #[.int .i64 0, .int .i64 0, .string ⟨#[]⟩, .slice none 0 0, .slice none 0 0] 25)) (w.heap.size + 1) 25 #[.int .i64 0, .int .i64 0, .string ⟨#[]⟩, .slice none 0 0, .slice none 0 0] := by
    have := Blk.new (w.alloc (.cells #[.int .i64 6, .int .i64 num, .string t, .slice A1 ks.length ck, .slice A2 ns.length cc] 25)) 25 #[.int .i64 0, .int .i64 0, .string ⟨#[]⟩, .slice none 0 0, .slice none 0 0]
    simpa using this
  have hZ : w.heap.size + 2 = ((w.alloc (.cells #[.int .i64 6, .int .i64 num, .string t, .slice A1 ks.length ck, .slice A2 ns.length cc] 25)).alloc (.cells #[.int .i64 0, .int .i64 0, .string ⟨#[]⟩, .slice none 0 0, .slice none 0 0] 25)).heap.size := by simp
  have HA := Lib.hid hA
  have HX := Lib.hid hX
  have HY := Lib.hid hY
  clear hA hX hY
  go_enter Tryd.func37, Tryd.ntmps37
  go_upto_region 1 with fail
  generalize (w.alloc (.cells #[.int .i64 6, .int .i64 num, .string t, .slice A1 ks.length ck, .slice A2 ns.length cc] 25)).alloc (.cells #[.int .i64 0, .int .i64 0, .string ⟨#[]⟩, .slice none 0 0, .slice none 0 0] 25) = wa at *
  have p0 : wa.cell? ⟨ab, ao, none⟩ = some (.string p) := (HA.out.cell (p := ⟨ab, ao, none⟩) hab).trans hp0.out
  obtain ⟨c0, c1, c2, c3, c4⟩ := HX.out.cells5
  clear hp
  have HI0 := Lib.hid (SInv.start S HA.out HY.out (by omega))
  have hl : w.heap.size < wa.heap.size := by omega
  have c4b : (wa.alloc (.cells #[.int .i64 6, .int .i64 0, .string ⟨#[]⟩, .slice none 0 0, .slice none 0 0] 25)).cell? ⟨w.heap.size, 4, none⟩ = some (.slice A2 ns.length cc) := (World.cell?_alloc_lt _ _ _ hl).trans c4
  go_wp2_with fail
  clear c0 c1 c2 c3 c4 p0 c4b
  go_loopw [9] (fun t9 wr => ∃ (i : Nat) (acc : List Nd) (ys : List Value) (Aw : Option Addr) (cw : Nat), i ≤ ns.length ∧ t9 = .int .i64 i ∧ Hid (starL (getN l) (ns.drop i) acc = starL (getN l) ns []) ∧ Hid (Nd.count.counts acc + Nd.count.counts (ns.drop i) ≤ 1000000) ∧ Hid (SInv w S wa.heap.size acc Aw cw ys wr) ∧ Hid (Blk wr w.heap.size 25 #[.int .i64 6, .int .i64 num, .string t, .slice A1 ks.length ck, .slice A2 ns.length cc]))
    (fun t9 _ => ns.length - (intOf t9).toNat)
  case atStart => exact ⟨0, [], [], none, 0, by omega, rfl, rfl, by show _ ≤ _; simp only [Nd.count.counts, List.drop_zero]; have := HCN.out; omega, HI0, HX.out.alloc _⟩
  case round =>
    obtain ⟨i, acc, ys, Aw, cw, hi, rfl, hst, hcn, hI, hxb⟩ := hrel
    obtain ⟨wo, rfl⟩ : ∃ wo : World, wo = wr := ⟨_, rfl⟩
    have hob : wa.heap.size < wo.heap.size := hI.out.2.2.2.2.2.2
    obtain ⟨c0, c1, c2, c3, c4⟩ := hxb.out.cells5
    clear c0 c1 c2 c3
    by_cases hlt : i < ns.length
    · have hkp : ∀ q : Addr, S q.block → wo.cell? q = w.cell? q := fun q hq => hI.out.2.2.2.2.1.cell (HS.out _ hq)
      obtain ⟨b, off, m, rfl, hbS, hmi, x0, x1, x2, x3, x4, x5, x6, x7, x8, hnd, e0, e1, e2, e3, e4⟩ := (HXS.out.keep hkp).nd (NdsIn.keep hkp (fun _ h => h) _ _ HNS.out) hlt
      have hbl := HS.out b hbS
      have hwz : w.heap.size ≤ wo.heap.size := hI.out.2.2.2.2.1.size
      have HM := Lib.hid (HK.out i m hmi)
      have hdr : ns.drop i = m :: ns.drop (i + 1) := by
        obtain ⟨h1, h2⟩ := List.getElem?_eq_some_iff.1 hmi
        rw [← h2]; exact List.drop_eq_getElem_cons h1
      obtain ⟨R, hR⟩ : ∃ R, R = getN l m := ⟨_, rfl⟩
      have HIH : Hid (∀ w', Below wo.heap.size wo w' → Calls Tryd.prog 37 #[.agg #[.int .i64 x0, .int .i64 x1, .string x2, .slice x3 x4 x5, .slice x6 x7 x8], .slice (some ⟨ab, ao + 1, none⟩) l.length (c - 1)] w' (GetP R S w')) := fun w' h' => by
        rw [hR]
        exact IH m [.int .i64 x0, .int .i64 x1, .string x2, .slice x3 x4 x5, .slice x6 x7 x8] w' S _ (c - 1) (NdIn.keep (fun q hq => h'.cell (by have := HS.out _ hq; omega)) (fun _ h => h) _ _ hnd) (fun b hb => by have := HS.out b hb; have := h'.size; omega) HSB.out ((HR.out.keep fun q hq => ((h'.mono hwz).cell hq).trans (hI.out.2.2.2.2.1.cell hq)).more (Nat.le_trans hwz h'.size)) (by omega) (by unfold maxLen at *; omega) HM.out.1 HM.out.2
      have HST1 : Hid (∀ r, R = r → starL (getN l) ns [] = match r with | none => none | some x => starL (getN l) (ns.drop (i + 1)) (starAdd x acc)) := fun r hr => by
        rw [← hst.out, hdr, starL, ← hR, hr]; cases r <;> rfl
      have HCN1 : Hid (∀ x, R = some x → Nd.count.counts (starAdd x acc) + Nd.count.counts (ns.drop (i + 1)) ≤ 1000000 ∧ x.count ≤ 1000000) := fun x hx => by
        have h1 := hcn.out
        rw [hdr] at h1
        simp only [Nd.count.counts] at h1
        have h2 := (getN_ok l m x (by rw [← hR]; exact hx) HM.out.1 HM.out.2).2
        refine ⟨?_, by omega⟩
        cases x with
        | mk k num t ks ms =>
          unfold starAdd
          split
          · rw [counts_app]; simp only [Nd.kids, Nd.count] at h2 ⊢; omega
          · rw [counts_app]; simp only [Nd.count.counts]; omega
      have hal : acc.length ≤ 1000000 := by
        have h1 := len_counts acc
        have h2 := hcn.out
        omega
      have HOW : Hid (∀ g, (Value.slice Aw acc.length cw).ownBlock = some g → g < wo.heap.size) := fun g hg => (own_lt hI.out.1 hg).2
      have hgs : GS w w.heap.size 4 b (off + i * 5) (.slice (some ⟨b, off, none⟩) ns.length cc) (.int .i64 x0) (.int .i64 x1) (.string x2) (.slice x3 x4 x5) (.slice x6 x7 x8) wo := ⟨c4, e0, e1, e2, e3, e4, hI.out.2.2.2.2.1⟩
      have HS0 : Hid (wo.drew.cell? ⟨w.heap.size, 4, none⟩ = some (.slice (some ⟨b, off, none⟩) ns.length cc) ∧ wo.drew.cell? ⟨b, off + i * 5, none⟩ = some (.int .i64 x0) ∧ wo.drew.cell? ⟨b, off + i * 5 + 1, none⟩ = some (.int .i64 x1) ∧ wo.drew.cell? ⟨b, off + i * 5 + 2, none⟩ = some (.string x2) ∧ wo.drew.cell? ⟨b, off + i * 5 + 3, none⟩ = some (.slice x3 x4 x5) ∧ wo.drew.cell? ⟨b, off + i * 5 + 4, none⟩ = some (.slice x6 x7 x8) ∧ Below w.heap.size w wo.drew) := hgs.drew
      have HSB0 : Hid ((wo.drew.alloc (.cells #[.int .i64 0, .int .i64 0, .string ⟨#[]⟩, .slice none 0 0, .slice none 0 0] 25)).cell? ⟨w.heap.size, 4, none⟩ = some (.slice (some ⟨b, off, none⟩) ns.length cc) ∧ (wo.drew.alloc (.cells #[.int .i64 0, .int .i64 0, .string ⟨#[]⟩, .slice none 0 0, .slice none 0 0] 25)).cell? ⟨b, off + i * 5, none⟩ = some (.int .i64 x0) ∧ (wo.drew.alloc (.cells #[.int .i64 0, .int .i64 0, .string ⟨#[]⟩, .slice none 0 0, .slice none 0 0] 25)).cell? ⟨b, off + i * 5 + 1, none⟩ = some (.int .i64 x1) ∧ (wo.drew.alloc (.cells #[.int .i64 0, .int .i64 0, .string ⟨#[]⟩, .slice none 0 0, .slice none 0 0] 25)).cell? ⟨b, off + i * 5 + 2, none⟩ = some (.string x2) ∧ (wo.drew.alloc (.cells #[.int .i64 0, .int .i64 0, .string ⟨#[]⟩, .slice none 0 0, .slice none 0 0] 25)).cell? ⟨b, off + i * 5 + 3, none⟩ = some (.slice x3 x4 x5) ∧ (wo.drew.alloc (.cells #[.int .i64 0, .int .i64 0, .string ⟨#[]⟩, .slice none 0 0, .slice none 0 0] 25)).cell? ⟨b, off + i * 5 + 4, none⟩ = some (.slice x6 x7 x8) ∧ Below w.heap.size w (wo.drew.alloc (.cells #[.int .i64 0, .int .i64 0, .string ⟨#[]⟩, .slice none 0 0, .slice none 0 0] 25))) := hgs.drew.below ((Below.refl _ _).alloc (Nat.le_refl _) _)
      have HSB1 : Hid ((wo.alloc (.cells #[.int .i64 0, .int .i64 0, .string ⟨#[]⟩, .slice none 0 0, .slice none 0 0] 25)).drew.cell? ⟨w.heap.size, 4, none⟩ = some (.slice (some ⟨b, off, none⟩) ns.length cc) ∧ (wo.alloc (.cells #[.int .i64 0, .int .i64 0, .string ⟨#[]⟩, .slice none 0 0, .slice none 0 0] 25)).drew.cell? ⟨b, off + i * 5, none⟩ = some (.int .i64 x0) ∧ (wo.alloc (.cells #[.int .i64 0, .int .i64 0, .string ⟨#[]⟩, .slice none 0 0, .slice none 0 0] 25)).drew.cell? ⟨b, off + i * 5 + 1, none⟩ = some (.int .i64 x1) ∧ (wo.alloc (.cells #[.int .i64 0, .int .i64 0, .string ⟨#[]⟩, .slice none 0 0, .slice none 0 0] 25)).drew.cell? ⟨b, off + i * 5 + 2, none⟩ = some (.string x2) ∧ (wo.alloc (.cells #[.int .i64 0, .int .i64 0, .string ⟨#[]⟩, .slice none 0 0, .slice none 0 0] 25)).drew.cell? ⟨b, off + i * 5 + 3, none⟩ = some (.slice x3 x4 x5) ∧ (wo.alloc (.cells #[.int .i64 0, .int .i64 0, .string ⟨#[]⟩, .slice none 0 0, .slice none 0 0] 25)).drew.cell? ⟨b, off + i * 5 + 4, none⟩ = some (.slice x6 x7 x8) ∧ Below w.heap.size w (wo.alloc (.cells #[.int .i64 0, .int .i64 0, .string ⟨#[]⟩, .slice none 0 0, .slice none 0 0] 25)).drew) := (hgs.below ((Below.refl _ _).alloc (Nat.le_refl _) _)).drew
      have HZB : Hid (Blk (wo.alloc (.cells #[.int .i64 0, .int .i64 0, .string ⟨#[]⟩, .slice none 0 0, .slice none 0 0] 25)).drew (wo.heap.size) 25 #[.int .i64 0, .int .i64 0, .string ⟨#[]⟩, .slice none 0 0, .slice none 0 0]) := (Blk.new wo _ _).drew
      have HBA : Hid (Below wo.heap.size wo wo.drew) := (Below.refl _ _).drew
      have HBB : Hid (Below wo.heap.size wo (wo.alloc (.cells #[.int .i64 0, .int .i64 0, .string ⟨#[]⟩, .slice none 0 0, .slice none 0 0] 25)).drew) := ((Below.refl _ _).alloc (Nat.le_refl _) _).drew
      have hzz : (wo.alloc (.cells #[.int .i64 0, .int .i64 0, .string ⟨#[]⟩, .slice none 0 0, .slice none 0 0] 25)).drew.heap.size = wo.heap.size + 1 := by show (wo.alloc (.cells #[.int .i64 0, .int .i64 0, .string ⟨#[]⟩, .slice none 0 0, .slice none 0 0] 25)).heap.size = _; simp
      have HZZ := Lib.hid hzz
      have hxz : w.heap.size ≠ wo.heap.size := by omega
      have hbz : b ≠ wo.heap.size := by omega
      have hi0 : (0 : Int) ≤ (i : Int) := by omega
      have hi1 : (i : Int) < (ns.length : Int) := by omega
      clear hkp hmi hnd hbS hst hcn hdr hR hzz hgs
      go_upto_region 15 with fail
      go_cut [10, 11] (fun t10 t11 wx => ∃ (zb : Nat) (y0 y1 : Int) (y2 : ByteArray) (y3 : Option Addr) (y4 y5 : Nat) (y6 : Option Addr) (y7 y8 : Nat), t10 = .pointer (some ⟨zb, 0, none⟩) ∧ t11 = .bool R.isSome ∧ Hid (Blk wx zb 25 #[.int .i64 y0, .int .i64 y1, .string y2, .slice y3 y4 y5, .slice y6 y7 y8]) ∧ Hid (NdIn wx (fun b => S b ∨ (wo.heap.size ≤ b ∧ b < wx.heap.size ∧ b ≠ zb)) (R.getD (nd0 0)) [.int .i64 y0, .int .i64 y1, .string y2, .slice y3 y4 y5, .slice y6 y7 y8]) ∧ Hid (Below wo.heap.size wo wx) ∧ wo.heap.size ≤ zb)
      case first =>
        have hx : ¬ (l.length : Int) + 1 < 1 := by omega
        have hc9 := HC1.out
        have ht9 : ∀ w9 : World, (Instr.slice 22 (.slice (some ⟨ab, ao, none⟩) (l.length + 1) c) (some (.int .i64 1)) none none).run Tryd.prog w9 = .ok (.slice (some ⟨ab, ao + 1, none⟩) l.length (c - 1)) w9 := fun w9 => by go_simp
        go_region_held3 (fun w' => w'.cell? ⟨w.heap.size, 4, none⟩ = some (.slice (some ⟨b, off, none⟩) ns.length cc) ∧ w'.cell? ⟨b, off + i * 5, none⟩ = some (.int .i64 x0) ∧ w'.cell? ⟨b, off + i * 5 + 1, none⟩ = some (.int .i64 x1) ∧ w'.cell? ⟨b, off + i * 5 + 2, none⟩ = some (.string x2) ∧ w'.cell? ⟨b, off + i * 5 + 3, none⟩ = some (.slice x3 x4 x5) ∧ w'.cell? ⟨b, off + i * 5 + 4, none⟩ = some (.slice x6 x7 x8) ∧ Below w.heap.size w w') (first | with_reducible exact HS0.out | with_reducible exact HSB0.out | with_reducible exact HSB1.out | with_reducible exact HS5.out | with_reducible exact HS5a.out | with_reducible exact HS5b.out) (first
          | (go_at_call 37; (with_reducible refine (HIH.out wo.drew HBA.out).mono ?_); rintro e w5 ⟨y0, y1, y2, y3, y4, y5, y6, y7, y8, rfl, hn5, hb5⟩; have HN5 := Lib.hid hn5; have HB5 := Lib.hid hb5; clear hn5 hb5; have HS5 : Hid (w5.cell? ⟨w.heap.size, 4, none⟩ = some (.slice (some ⟨b, off, none⟩) ns.length cc) ∧ w5.cell? ⟨b, off + i * 5, none⟩ = some (.int .i64 x0) ∧ w5.cell? ⟨b, off + i * 5 + 1, none⟩ = some (.int .i64 x1) ∧ w5.cell? ⟨b, off + i * 5 + 2, none⟩ = some (.string x2) ∧ w5.cell? ⟨b, off + i * 5 + 3, none⟩ = some (.slice x3 x4 x5) ∧ w5.cell? ⟨b, off + i * 5 + 4, none⟩ = some (.slice x6 x7 x8) ∧ Below w.heap.size w w5) := GS.below HS0.out HB5.out; have HS5a : Hid ((w5.alloc (.cells #[.int .i64 0, .int .i64 0, .string ⟨#[]⟩, .slice none 0 0, .slice none 0 0] 25)).cell? ⟨w.heap.size, 4, none⟩ = some (.slice (some ⟨b, off, none⟩) ns.length cc) ∧ (w5.alloc (.cells #[.int .i64 0, .int .i64 0, .string ⟨#[]⟩, .slice none 0 0, .slice none 0 0] 25)).cell? ⟨b, off + i * 5, none⟩ = some (.int .i64 x0) ∧ (w5.alloc (.cells #[.int .i64 0, .int .i64 0, .string ⟨#[]⟩, .slice none 0 0, .slice none 0 0] 25)).cell? ⟨b, off + i * 5 + 1, none⟩ = some (.int .i64 x1) ∧ (w5.alloc (.cells #[.int .i64 0, .int .i64 0, .string ⟨#[]⟩, .slice none 0 0, .slice none 0 0] 25)).cell? ⟨b, off + i * 5 + 2, none⟩ = some (.string x2) ∧ (w5.alloc (.cells #[.int .i64 0, .int .i64 0, .string ⟨#[]⟩, .slice none 0 0, .slice none 0 0] 25)).cell? ⟨b, off + i * 5 + 3, none⟩ = some (.slice x3 x4 x5) ∧ (w5.alloc (.cells #[.int .i64 0, .int .i64 0, .string ⟨#[]⟩, .slice none 0 0, .slice none 0 0] 25)).cell? ⟨b, off + i * 5 + 4, none⟩ = some (.slice x6 x7 x8) ∧ Below w.heap.size w (w5.alloc (.cells #[.int .i64 0, .int .i64 0, .string ⟨#[]⟩, .slice none 0 0, .slice none 0 0] 25))) := GS.below (GS.below HS0.out HB5.out) ((Below.refl _ _).alloc (Nat.le_refl _) _); have HS5b : Hid ((w5.alloc (.cells #[.int .i64 y0, .int .i64 y1, .string y2, .slice y3 y4 y5, .slice y6 y7 y8] 25)).cell? ⟨w.heap.size, 4, none⟩ = some (.slice (some ⟨b, off, none⟩) ns.length cc) ∧ (w5.alloc (.cells #[.int .i64 y0, .int .i64 y1, .string y2, .slice y3 y4 y5, .slice y6 y7 y8] 25)).cell? ⟨b, off + i * 5, none⟩ = some (.int .i64 x0) ∧ (w5.alloc (.cells #[.int .i64 y0, .int .i64 y1, .string y2, .slice y3 y4 y5, .slice y6 y7 y8] 25)).cell? ⟨b, off + i * 5 + 1, none⟩ = some (.int .i64 x1) ∧ (w5.alloc (.cells #[.int .i64 y0, .int .i64 y1, .string y2, .slice y3 y4 y5, .slice y6 y7 y8] 25)).cell? ⟨b, off + i * 5 + 2, none⟩ = some (.string x2) ∧ (w5.alloc (.cells #[.int .i64 y0, .int .i64 y1, .string y2, .slice y3 y4 y5, .slice y6 y7 y8] 25)).cell? ⟨b, off + i * 5 + 3, none⟩ = some (.slice x3 x4 x5) ∧ (w5.alloc (.cells #[.int .i64 y0, .int .i64 y1, .string y2, .slice y3 y4 y5, .slice y6 y7 y8] 25)).cell? ⟨b, off + i * 5 + 4, none⟩ = some (.slice x6 x7 x8) ∧ Below w.heap.size w (w5.alloc (.cells #[.int .i64 y0, .int .i64 y1, .string y2, .slice y3 y4 y5, .slice y6 y7 y8] 25))) := GS.below (GS.below HS0.out HB5.out) ((Below.refl _ _).alloc (Nat.le_refl _) _))
          | (go_at_call 37; (with_reducible refine (HIH.out (wo.alloc (.cells #[.int .i64 0, .int .i64 0, .string ⟨#[]⟩, .slice none 0 0, .slice none 0 0] 25)).drew HBB.out).mono ?_); rintro e w5 ⟨y0, y1, y2, y3, y4, y5, y6, y7, y8, rfl, hn5, hb5⟩; have HN5 := Lib.hid hn5; have HB5 := Lib.hid hb5; clear hn5 hb5; have HS5 : Hid (w5.cell? ⟨w.heap.size, 4, none⟩ = some (.slice (some ⟨b, off, none⟩) ns.length cc) ∧ w5.cell? ⟨b, off + i * 5, none⟩ = some (.int .i64 x0) ∧ w5.cell? ⟨b, off + i * 5 + 1, none⟩ = some (.int .i64 x1) ∧ w5.cell? ⟨b, off + i * 5 + 2, none⟩ = some (.string x2) ∧ w5.cell? ⟨b, off + i * 5 + 3, none⟩ = some (.slice x3 x4 x5) ∧ w5.cell? ⟨b, off + i * 5 + 4, none⟩ = some (.slice x6 x7 x8) ∧ Below w.heap.size w w5) := GS.below HSB1.out HB5.out; have HZ5 := Lib.hid (HZB.out.below HB5.out HZB.out.lt); obtain ⟨d0, d1, d2, d3, d4⟩ := HZ5.out.cells5; have f0 := HZ5.out.frozen 0; have f1 := HZ5.out.frozen 1; have f2 := HZ5.out.frozen 2; have f3 := HZ5.out.frozen 3; have f4 := HZ5.out.frozen 4; have HS5b : Hid ((((((w5.setCell ⟨wo.heap.size, 0, none⟩ (.int .i64 y0)).setCell ⟨wo.heap.size, 1, none⟩ (.int .i64 y1)).setCell ⟨wo.heap.size, 2, none⟩ (.string y2)).setCell ⟨wo.heap.size, 3, none⟩ (.slice y3 y4 y5)).setCell ⟨wo.heap.size, 4, none⟩ (.slice y6 y7 y8)).cell? ⟨w.heap.size, 4, none⟩ = some (.slice (some ⟨b, off, none⟩) ns.length cc) ∧ (((((w5.setCell ⟨wo.heap.size, 0, none⟩ (.int .i64 y0)).setCell ⟨wo.heap.size, 1, none⟩ (.int .i64 y1)).setCell ⟨wo.heap.size, 2, none⟩ (.string y2)).setCell ⟨wo.heap.size, 3, none⟩ (.slice y3 y4 y5)).setCell ⟨wo.heap.size, 4, none⟩ (.slice y6 y7 y8)).cell? ⟨b, off + i * 5, none⟩ = some (.int .i64 x0) ∧ (((((w5.setCell ⟨wo.heap.size, 0, none⟩ (.int .i64 y0)).setCell ⟨wo.heap.size, 1, none⟩ (.int .i64 y1)).setCell ⟨wo.heap.size, 2, none⟩ (.string y2)).setCell ⟨wo.heap.size, 3, none⟩ (.slice y3 y4 y5)).setCell ⟨wo.heap.size, 4, none⟩ (.slice y6 y7 y8)).cell? ⟨b, off + i * 5 + 1, none⟩ = some (.int .i64 x1) ∧ (((((w5.setCell ⟨wo.heap.size, 0, none⟩ (.int .i64 y0)).setCell ⟨wo.heap.size, 1, none⟩ (.int .i64 y1)).setCell ⟨wo.heap.size, 2, none⟩ (.string y2)).setCell ⟨wo.heap.size, 3, none⟩ (.slice y3 y4 y5)).setCell ⟨wo.heap.size, 4, none⟩ (.slice y6 y7 y8)).cell? ⟨b, off + i * 5 + 2, none⟩ = some (.string x2) ∧ (((((w5.setCell ⟨wo.heap.size, 0, none⟩ (.int .i64 y0)).setCell ⟨wo.heap.size, 1, none⟩ (.int .i64 y1)).setCell ⟨wo.heap.size, 2, none⟩ (.string y2)).setCell ⟨wo.heap.size, 3, none⟩ (.slice y3 y4 y5)).setCell ⟨wo.heap.size, 4, none⟩ (.slice y6 y7 y8)).cell? ⟨b, off + i * 5 + 3, none⟩ = some (.slice x3 x4 x5) ∧ (((((w5.setCell ⟨wo.heap.size, 0, none⟩ (.int .i64 y0)).setCell ⟨wo.heap.size, 1, none⟩ (.int .i64 y1)).setCell ⟨wo.heap.size, 2, none⟩ (.string y2)).setCell ⟨wo.heap.size, 3, none⟩ (.slice y3 y4 y5)).setCell ⟨wo.heap.size, 4, none⟩ (.slice y6 y7 y8)).cell? ⟨b, off + i * 5 + 4, none⟩ = some (.slice x6 x7 x8) ∧ Below w.heap.size w (((((w5.setCell ⟨wo.heap.size, 0, none⟩ (.int .i64 y0)).setCell ⟨wo.heap.size, 1, none⟩ (.int .i64 y1)).setCell ⟨wo.heap.size, 2, none⟩ (.string y2)).setCell ⟨wo.heap.size, 3, none⟩ (.slice y3 y4 y5)).setCell ⟨wo.heap.size, 4, none⟩ (.slice y6 y7 y8))) := GS.set5 (GS.below HSB1.out HB5.out) hwz hxz hbz))
        · go_wp2_with fail
          go_meet
          have hz5 : wo.drew.heap.size ≤ w5.heap.size := HB5.out.size
          have hz6 : wo.drew.heap.size = wo.heap.size := rfl
          refine ⟨w5.heap.size, y0, y1, y2, y3, y4, y5, y6, y7, y8, rfl, rfl, Blk.new w5 _ _, ?_, ((HBA.out.trans (HB5.out.mono (by omega))).alloc (by omega) _ : Below _ _ _), by omega⟩
          exact NdIn.keep (fun q hq => World.cell?_alloc_lt _ _ _ (by
            rcases hq with hq | hq
            · have := HS.out _ hq; omega
            · exact hq.2)) (fun b hb => by
            rcases hb with hb | hb
            · exact .inl hb
            · have h1 : wo.drew.heap.size ≤ b := hb.1
              have h2 : b < w5.heap.size := hb.2
              exact .inr ⟨by omega, by simp; omega, by omega⟩) _ _ HN5.out
        · go_wp2_with fail
          go_meet
          have hz5 : (wo.alloc (.cells #[.int .i64 0, .int .i64 0, .string ⟨#[]⟩, .slice none 0 0, .slice none 0 0] 25)).drew.heap.size ≤ w5.heap.size := HB5.out.size
          have hz6 := HZZ.out
          refine ⟨wo.heap.size, y0, y1, y2, y3, y4, y5, y6, y7, y8, rfl, rfl, (set5_blk HZ5.out : Blk _ _ _ _), ?_, (set5_below (HBB.out.trans (HB5.out.mono (by omega))) (by omega) : Below _ _ _), by omega⟩
          exact set5_in HN5.out (fun b hb => by
            rcases hb with hb | hb
            · have := HS.out _ hb; omega
            · have h1 : (wo.alloc (.cells #[.int .i64 0, .int .i64 0, .string ⟨#[]⟩, .slice none 0 0, .slice none 0 0] 25)).drew.heap.size ≤ b := hb.1
              omega) (fun b hb => by
            rcases hb with hb | hb
            · exact .inl hb
            · have h1 : (wo.alloc (.cells #[.int .i64 0, .int .i64 0, .string ⟨#[]⟩, .slice none 0 0, .slice none 0 0] 25)).drew.heap.size ≤ b := hb.1
              have h2 : b < w5.heap.size := hb.2
              exact .inr ⟨by omega, by show b < (set5 w5 _ _ _ _ _ _).heap.size; rw [set5_size]; exact h2, by omega⟩)
      case rest =>
        obtain ⟨zb, y0, y1, y2, y3, y4, y5, y6, y7, y8, rfl, rfl, hzb, hn5, hbb, hz2⟩ := hcut
        have HI5 := Lib.hid (hI.out.later HS.out hbb.out)
        have HXC := Lib.hid (hxb.out.below hbb.out hxb.out.lt)
        clear HIH HS0 HSB0 HSB1 HZB HBA HBB HZZ hxz hbz hI HI0 hxb c4
        cases R with
        | none =>
          obtain ⟨d0, d1, d2, d3, d4⟩ := HI5.out.2.2.2.1.cells5
          have f0 := HI5.out.2.2.2.1.frozen 0
          have f1 := HI5.out.2.2.2.1.frozen 1
          have f2 := HI5.out.2.2.2.1.frozen 2
          have f3 := HI5.out.2.2.2.1.frozen 3
          have f4 := HI5.out.2.2.2.1.frozen 4
          go_wp2_with fail
          clear d0 d1 d2 d3 d4 f0 f1 f2 f3 f4
          have F := get_fin (r := none) (S := S) (S2 := (fun _ => False)) (w := w) (w2 := wc) (y := w.heap.size + 1) (by omega) HI5.out.2.2.2.2.1 HI5.out.2.2.2.1 (nd0_in 0 (by unfold I64; omega) _ _) (fun b hb => hb.elim)
          unfold set5 at F
          generalize (((((wc).setCell ⟨w.heap.size + 1, 0, none⟩ (.int .i64 0)).setCell ⟨w.heap.size + 1, 1, none⟩ (.int .i64 0)).setCell ⟨w.heap.size + 1, 2, none⟩ (.string ⟨#[]⟩)).setCell ⟨w.heap.size + 1, 3, none⟩ (.slice none 0 0)).setCell ⟨w.heap.size + 1, 4, none⟩ (.slice none 0 0) = WF at *
          obtain ⟨F1, F2⟩ := F
          obtain ⟨q0, q1, q2, q3, q4⟩ := F1.cells5
          refine bodyPost_ret (v := .tuple #[.agg #[.int .i64 0, .int .i64 0, .string ⟨#[]⟩, .slice none 0 0, .slice none 0 0], .bool false]) (by simp [results, Tryd.results34, go_sem, q0, q1, q2, q3, q4]) rfl ?_
          rw [HG.out, HST1.out none rfl]
          exact F2
        | some x =>
          obtain ⟨k2, m2, t2, ks2, ms⟩ := x
          obtain ⟨hcx, hcy⟩ := HCN1.out _ rfl
          have HN7 : Hid (NdIn wc (fun b => S b ∨ (wo.heap.size ≤ b ∧ b < wc.heap.size ∧ b ≠ zb)) (.mk k2 m2 t2 ks2 ms) [.int .i64 y0, .int .i64 y1, .string y2, .slice y3 y4 y5, .slice y6 y7 y8]) := hn5.out
          have hT : ∀ b, (S b ∨ (wo.heap.size ≤ b ∧ b < wc.heap.size ∧ b ≠ zb)) → (S b ∨ SK (wa.heap.size + 1) wc (.slice Aw acc.length cw) b) := fun b hb => by
            rcases hb with hb | hb
            · exact .inl hb
            · exact .inr ⟨by omega, hb.2.1, fun e => by have := HOW.out _ e; omega⟩
          have hTz : ∀ b, (S b ∨ SK (wa.heap.size + 1) wc (.slice Aw acc.length cw) b) → b < wc.heap.size := fun b hb => by
            rcases hb with hb | hb
            · have := HS.out _ hb; have := HI5.out.2.2.2.2.1.size; omega
            · exact hb.2.1
          have HN8 : Hid (NdIn wc (fun b => S b ∨ SK (wa.heap.size + 1) wc (.slice Aw acc.length cw) b) (.mk k2 m2 t2 ks2 ms) [.int .i64 y0, .int .i64 y1, .string y2, .slice y3 y4 y5, .slice y6 y7 y8]) := NdIn.mono hT HN7.out
          have hu := HN8.out
          unfold NdIn at hu
          obtain ⟨B1, bk, B2, bc, zs, heq, _, hrs, hnds, _, _, _, _, _, _⟩ := hu
          cases heq
          have HRS : Hid (Reads wc wc.heap.size 5 y6 ms.length zs) := hrs.reads hTz
          have HMS := Lib.hid hnds
          have HFL := Lib.hid (NdsIn.flat_ok _ _ hnds)
          have hwcz := HI5.out.2.2.2.2.2.2
          obtain ⟨z0, z1, z2, z3, z4⟩ := hzb.out.cells5
          obtain ⟨o0, o1, o2, o3, o4⟩ := HI5.out.2.2.1.cells5
          clear o0 o1 o2 o3 hT hTz hrs hnds hn5 HN7
          by_cases hk6 : y0 = 6
          · subst hk6
            have hst2 : Hid (starL (getN l) (ns.drop (i + 1)) (acc ++ ms) = starL (getN l) ns []) := by
              show _ = _
              have := HST1.out _ rfl
              simp only [starAdd, Nd.kind, Nd.kids, if_true] at this
              exact this.symm
            have hcn2 : Hid (Nd.count.counts (acc ++ ms) + Nd.count.counts (ns.drop (i + 1)) ≤ 1000000) := by
              simp only [starAdd, Nd.kind, Nd.kids, if_true] at hcx
              exact hcx
            have hml : ms.length ≤ 1000000 := by
              have := len_counts ms
              simp only [Nd.count] at hcy; omega
            clear HST1 HCN1 hcx hcy z1 z2 z3
            go_wp2_with (at_builtin; refine wpList_pushNds _ rfl _ _ rfl (wa.heap.size + 1) (.slice Aw acc.length cw) acc.length ys (by first | rfl | simp [Act.eval]) HI5.out.1 wc.heap.size y6 ms.length y8 zs HRS.out HFL.out (by first | rfl | simp [Act.eval]) ?lim ?hB ?_; (case lim => omega); (case hB => omega); intro v' w3 ho3 hg3 hv3; obtain ⟨Av, cv, rfl⟩ := own_form ho3; have HP := Lib.hid (SInv.push HI5.out HS.out ms zs HMS.out (by simp) ho3 hg3 hv3); have hb3 := HI5.out.2.2.1.grown hg3 (fun e => by have := (own_lt HI5.out.1 e.symm).1; omega); obtain ⟨o0, o1, o2, o3, o4⟩ := hb3.cells5; have of4 := hb3.frozen 4; have HX3 : Hid (Blk (w3.setCell ⟨wa.heap.size, 4, none⟩ (.slice Av (acc.length + ms.length) cv)) w.heap.size 25 #[.int .i64 6, .int .i64 num, .string t, .slice A1 ks.length ck, .slice (some ⟨b, off, none⟩) ns.length cc]) := (HXC.out.grown hg3 (fun e => by have := (own_lt HI5.out.1 e.symm).1; omega)).far (by show w.heap.size ≠ wa.heap.size; omega) _; clear o0 o1 o2 o3 ho3 hg3 hv3 hb3)
            go_roundw
            case rel => exact ⟨i + 1, acc ++ ms, ys ++ zs, Av, cv, by omega, by go_num, hst2, hcn2, HP, HX3⟩
            case measure => simp [intOf]; omega
          · have e6 : (y0 == 6) = false := by rw [beq_eq_false_iff_ne]; exact hk6
            have hst2 : Hid (starL (getN l) (ns.drop (i + 1)) (acc ++ [.mk y0 y1 y2 ks2 ms]) = starL (getN l) ns []) := by
              show _ = _
              have := HST1.out _ rfl
              have hsa : starAdd (.mk y0 y1 y2 ks2 ms) acc = acc ++ [.mk y0 y1 y2 ks2 ms] := if_neg hk6
              simp only [hsa] at this
              exact this.symm
            have hcn2 : Hid (Nd.count.counts (acc ++ [.mk y0 y1 y2 ks2 ms]) + Nd.count.counts (ns.drop (i + 1)) ≤ 1000000) := by
              have hsa : starAdd (.mk y0 y1 y2 ks2 ms) acc = acc ++ [.mk y0 y1 y2 ks2 ms] := if_neg hk6
              rw [hsa] at hcx
              exact hcx
            have HMS2 : Hid (NdsIn wc (fun b => S b ∨ SK (wa.heap.size + 1) wc (.slice Aw acc.length cw) b) [.mk y0 y1 y2 ks2 ms] [.int .i64 y0, .int .i64 y1, .string y2, .slice y3 ks2.length y5, .slice y6 ms.length y8]) := by
              exact NdsIn.app [] [] _ _ NdsIn.nil HN8.out
            clear HST1 HCN1 hcx hcy hk6
            go_wp2_with (at_builtin; refine wpList_pushNd _ rfl _ _ rfl (wa.heap.size + 1) (.slice Aw acc.length cw) acc.length ys (by first | rfl | simp [Act.eval]) HI5.out.1 y0 y1 y2 y3 ks2.length y5 y6 ms.length y8 (by first | rfl | simp [Act.eval]) ?lim ?hB ?_; (case lim => omega); (case hB => omega); intro v' w3 ho3 hg3 hv3; obtain ⟨Av, cv, rfl⟩ := own_form ho3; have HP := Lib.hid (SInv.push HI5.out HS.out [.mk y0 y1 y2 ks2 ms] [.int .i64 y0, .int .i64 y1, .string y2, .slice y3 ks2.length y5, .slice y6 ms.length y8] HMS2.out (by simp) ho3 hg3 hv3); have hb3 := HI5.out.2.2.1.grown hg3 (fun e => by have := (own_lt HI5.out.1 e.symm).1; omega); obtain ⟨o0, o1, o2, o3, o4⟩ := hb3.cells5; have of4 := hb3.frozen 4; have HX3 : Hid (Blk (w3.setCell ⟨wa.heap.size, 4, none⟩ (.slice Av (acc.length + 1) cv)) w.heap.size 25 #[.int .i64 6, .int .i64 num, .string t, .slice A1 ks.length ck, .slice (some ⟨b, off, none⟩) ns.length cc]) := (HXC.out.grown hg3 (fun e => by have := (own_lt HI5.out.1 e.symm).1; omega)).far (by show w.heap.size ≠ wa.heap.size; omega) _; clear o0 o1 o2 o3 ho3 hg3 hv3 hb3)
            go_roundw
            case rel => exact ⟨i + 1, acc ++ [.mk y0 y1 y2 ks2 ms], ys ++ [.int .i64 y0, .int .i64 y1, .string y2, .slice y3 ks2.length y5, .slice y6 ms.length y8], Av, cv, by omega, by go_num, hst2, hcn2, HP, HX3⟩
            case measure => simp [intOf]; omega
    · have hal : acc.length ≤ 1000000 := by
        have h1 := len_counts acc
        have h2 := hcn.out
        omega
      have HSF : Hid (starL (getN l) ns [] = some acc) := by
        show _ = _
        rw [← hst.out, List.drop_eq_nil_of_le (by omega)]; rfl
      have hwz := hI.out.2.2.2.2.2.1
      obtain ⟨o0, o1, o2, o3, o4⟩ := hI.out.2.2.1.cells5
      obtain ⟨d0, d1, d2, d3, d4⟩ := hI.out.2.2.2.1.cells5
      have f0 := hI.out.2.2.2.1.frozen 0
      have f1 := hI.out.2.2.2.1.frozen 1
      have f2 := hI.out.2.2.2.1.frozen 2
      have f3 := hI.out.2.2.2.1.frozen 3
      have f4 := hI.out.2.2.2.1.frozen 4
      clear hst hcn
      go_wp2_with fail
      clear d0 d1 d2 d3 d4 f0 f1 f2 f3 f4
      have F := get_fin (r := some (.mk 6 0 ⟨#[]⟩ [] acc)) (S := S) (S2 := (fun b => S b ∨ (wa.heap.size + 1 ≤ b ∧ b < wo.heap.size))) (w := w) (w2 := wo) (y := w.heap.size + 1) (by omega) hI.out.2.2.2.2.1 hI.out.2.2.2.1 (hI.out.node hal) (fun b hb => by
          rcases hb with hb | hb
          · exact ⟨.inl hb, fun e => by have := HS.out b hb; omega⟩
          · exact ⟨.inr ⟨by omega, hb.2⟩, by omega⟩)
      unfold set5 at F
      generalize (((((wo).setCell ⟨w.heap.size + 1, 0, none⟩ (.int .i64 6)).setCell ⟨w.heap.size + 1, 1, none⟩ (.int .i64 0)).setCell ⟨w.heap.size + 1, 2, none⟩ (.string ⟨#[]⟩)).setCell ⟨w.heap.size + 1, 3, none⟩ (.slice none 0 0)).setCell ⟨w.heap.size + 1, 4, none⟩ (.slice Aw acc.length cw) = WF at *
      obtain ⟨F1, F2⟩ := F
      obtain ⟨q0, q1, q2, q3, q4⟩ := F1.cells5
      refine bodyPost_ret (v := .tuple #[.agg #[.int .i64 6, .int .i64 0, .string ⟨#[]⟩, .slice none 0 0, .slice Aw acc.length cw], .bool true]) (by simp [results, Tryd.results34, go_sem, q0, q1, q2, q3, q4]) rfl ?_
      rw [HG.out, HSF.out]
      exact F2
end Go.Proofs.YtnbfagignbbmfaaDoor
/-! The reference's follow at any parts; its parts of a path, as plain steps. -/
namespace Go.Proofs.YtnbfagignbbmfaaDoor
open Go.RowKit Go.PlainAid
set_option linter.unusedVariables false
set_option linter.unusedSimpArgs false
set_option maxRecDepth 100000
theorem follow_any : ∀ (l : List ByteArray), (∀ s ∈ l, s.size ≤ 1000000) → FGetOK l
  | [], _ => fget_nil
  | p :: l, hz => by
    have IH := follow_any l (fun s hs => hz s (by simp [hs]))
    intro n cs w S A c hn hS hSB hr hl hc hs hct
    have hpz : p.size ≤ 9223372036854775807 := by have := hz p (by simp); omega
    obtain ⟨ad, rfl, hab, hcell⟩ := hr.2 (by simp)
    have hp0 := hcell 0 (.string p) rfl
    have hsp := spot_none hp0
    obtain ⟨ab, ao, sp⟩ := ad
    have hsn : sp = none := by
      unfold Addr.add at hsp
      split at hsp <;> simp_all
    subst hsn
    rw [show (⟨ab, ao, none⟩ : Addr).add 0 = ⟨ab, ao, none⟩ by simp [Addr.add]] at hp0
    by_cases hc1 : c = 1
    · have hl0 : l = [] := by
        cases l with
        | nil => rfl
        | cons a l => simp at hl; omega
      subst hl0 hc1
      have ht : Reads w w.heap.size 1 ((fun ab ao => some (⟨ab, ao, none⟩ : Addr)) ab ao) ([] : List ByteArray).length (([] : List ByteArray).map Value.string) := ⟨rfl, fun h => absurd h (by simp)⟩
      by_cases h7 : n.kind = 7
      · exact fget_obj1 p IH n h7 hpz cs w S ab ao hn hS hSB hab hp0 ht hc hs hct
      · by_cases h6 : n.kind = 6
        · by_cases h42 : p.toList = [42]
          · exact fget_star1 p IH n h6 h42 hpz cs w S ab ao hn hS hSB hab hp0 ht hc hs hct
          · exact fget_place1 p IH n h6 h42 hpz cs w S ab ao hn hS hSB hab hp0 ht hc hs hct
        · exact fget_other p [] n 1 (fun ab ao => some ⟨ab, ao, none⟩) h7 h6 hpz cs w S ab ao hn hS hSB hab hp0 ht hc hs hct
    · have hl2 : l.length + 1 ≤ c := by simpa using hl
      have ht : Reads w w.heap.size 1 ((fun ab ao => some (⟨ab, ao + 1, none⟩ : Addr)) ab ao) l.length (l.map Value.string) := ⟨by simp, fun h => ⟨_, rfl, hab, fun j u hu => by
        have := hcell (j + 1) u (by simpa using hu)
        rw [show (⟨ab, ao, none⟩ : Addr).add (j + 1) = ⟨ab, ao + (j + 1), none⟩ by unfold Addr.add; split <;> simp_all] at this
        rw [show (⟨ab, ao + 1, none⟩ : Addr).add j = ⟨ab, ao + (j + 1), none⟩ by unfold Addr.add; split <;> simp_all <;> omega]
        exact this⟩⟩
      by_cases h7 : n.kind = 7
      · exact fget_obj2 p l c hc1 hl2 IH n h7 hpz cs w S ab ao hn hS hSB hab hp0 ht hc hs hct
      · by_cases h6 : n.kind = 6
        · by_cases h42 : p.toList = [42]
          · exact fget_star2 p l c hc1 hl2 IH n h6 h42 hpz cs w S ab ao hn hS hSB hab hp0 ht hc hs hct
          · exact fget_place2 p l c hc1 hl2 IH n h6 h42 hpz cs w S ab ao hn hS hSB hab hp0 ht hc hs hct
        · exact fget_other p l n c (fun ab ao => some ⟨ab, ao + 1, none⟩) h7 h6 hpz cs w S ab ao hn hS hSB hab hp0 ht hc hs hct
/-! the parts, as the reference gathers them -/
def n47 (c : UInt8) : Bool := c != 47
theorem tilde_take : ∀ (k : Nat) (l : List UInt8), l.length ≤ k → tildeOk l = true → tildeOk (l.takeWhile (· != 47)) = true
  | _, [], _, _ => rfl
  | 0, c :: r, h, _ => by simp at h
  | k + 1, c :: r, h, ht => by
    rw [tildeOk, Bool.and_eq_true] at ht
    by_cases hc : c = 47
    · subst hc; rfl
    · rw [List.takeWhile_cons_of_pos (by simpa using hc), tildeOk, Bool.and_eq_true]
      refine ⟨?_, tilde_take k r (by simpa using h) ht.2⟩
      by_cases h6 : c = 126
      · rw [if_pos h6] at ht ⊢
        cases r with
        | nil => simp at ht
        | cons d r =>
          have hd : d = 48 ∨ d = 49 := by simpa using ht.1
          rw [List.takeWhile_cons_of_pos (by rcases hd with rfl | rfl <;> decide)]
          simpa using ht.1
      · rw [if_neg h6]
theorem tilde_drop : ∀ (k : Nat) (l : List UInt8), l.length ≤ k → tildeOk l = true → ∀ n, tildeOk (l.drop n) = true
  | _, l, _, ht, 0 => by simpa using ht
  | _, [], _, _, n + 1 => by simp [tildeOk]
  | 0, c :: r, h, _, n + 1 => by simp at h
  | k + 1, c :: r, h, ht, n + 1 => by
    rw [tildeOk, Bool.and_eq_true] at ht
    rw [List.drop_succ_cons]
    exact tilde_drop k r (by simpa using h) ht.2 n
/-- what has been gathered of a path up to a place -/
def PI (path : ByteArray) (i : Nat) (done : List ByteArray) (cur : List UInt8) : Prop :=
  tildeOk path.toList = tildeOk (path.toList.drop i) ∧ done.length ≤ i ∧ cur.length ≤ i ∧ (i = 0 → done = [] ∧ cur = []) ∧
  (tildeOk path.toList = true → 0 < i → partsP path = done ++ ⟨(cur ++ unesc1 ((path.toList.drop i).takeWhile (· != 47))).toArray⟩ :: partsF path.size ((path.toList.drop i).dropWhile (· != 47)))
theorem PI.start (path : ByteArray) : PI path 0 [] [] := ⟨by rw [List.drop_zero], by simp, by simp, fun _ => ⟨rfl, rfl⟩, fun _ h => by omega⟩
theorem drop_at (path : ByteArray) (i : Nat) (hi : i < path.size) (c : UInt8) (hc : bt path i = c.toNat) : path.toList.drop i = c :: path.toList.drop (i + 1) := by
  obtain ⟨u, h1, h2⟩ := drop_cons path i hi
  have : u = c := by rw [← UInt8.toNat_inj]; omega
  rw [h2, this]
theorem partsF_47 (path : ByteArray) (r : List UInt8) (hr : r.length < path.size) (ht : tildeOk r = true) : partsF path.size (47 :: r) = ⟨(unesc1 (r.takeWhile (· != 47))).toArray⟩ :: partsF path.size (r.dropWhile (· != 47)) := by
  have hd : (r.dropWhile (· != 47)).length ≤ r.length := (List.dropWhile_suffix _).length_le
  rw [partsF_fuel path.size (r.length + 1) (47 :: r) (by simp; omega) (by simp), partsF_cons _ _ _ (Nat.le_refl _), unesc_eq _ _ (Nat.le_refl _) (tilde_take _ _ (Nat.le_refl _) ht), partsF_fuel r.length path.size _ hd (by omega)]
theorem PI.slash {path : ByteArray} {i : Nat} {done : List ByteArray} {cur : List UInt8} (h : PI path i done cur) (hi : i < path.size) (h47 : bt path i = 47) (h0 : 0 < i) : PI path (i + 1) (done ++ [⟨cur.toArray⟩]) [] := by
  obtain ⟨h1, h2, h3, h4, h5⟩ := h
  have hd := drop_at path i hi 47 h47
  refine ⟨by rw [h1]; exact tilde_ne path i hi (by omega), by simp; omega, by simp, fun h => by omega, fun ht _ => ?_⟩
  have ht2 : tildeOk (path.toList.drop (i + 1)) = true := tilde_drop _ _ (Nat.le_refl _) ht _
  have hl : (path.toList.drop (i + 1)).length < path.size := by rw [List.length_drop, toList_len]; omega
  rw [h5 ht h0, hd, List.takeWhile_cons_of_neg (by decide), List.dropWhile_cons_of_neg (by decide), partsF_47 path _ hl ht2]
  simp [unesc1]
theorem PI.first {path : ByteArray} {done : List ByteArray} {cur : List UInt8} (h : PI path 0 done cur) (hi : 0 < path.size) (h47 : bt path 0 = 47) : PI path 1 [] [] := by
  obtain ⟨h1, h2, h3, h4, h5⟩ := h
  have hd := drop_at path 0 hi 47 h47
  refine ⟨by rw [h1]; exact tilde_ne path 0 hi (by omega), by simp, by simp, fun h => by omega, fun ht _ => ?_⟩
  have ht2 : tildeOk (path.toList.drop (0 + 1)) = true := tilde_drop _ _ (Nat.le_refl _) ht _
  have hl : (path.toList.drop (0 + 1)).length < path.size := by rw [List.length_drop, toList_len]; omega
  unfold partsP
  rw [List.drop_zero] at hd
  conv => lhs; rw [hd]
  rw [partsF_47 path _ hl ht2]
  simp
theorem PI.esc {path : ByteArray} {i : Nat} {done : List ByteArray} {cur : List UInt8} (h : PI path i done cur) (hi : i + 1 < path.size) (h126 : bt path i = 126) (d : UInt8) (hd2 : d = 48 ∨ d = 49) (hbd : bt path (i + 1) = d.toNat) (h0 : 0 < i) : PI path (i + 1 + 1) done (cur ++ [if d = 49 then 47 else 126]) := by
  obtain ⟨h1, h2, h3, h4, h5⟩ := h
  have e1 := drop_at path i (by omega) 126 h126
  have e2 := drop_at path (i + 1) hi d hbd
  have t1 := tilde_two path i hi h126
  have t2 := tilde_ne path (i + 1) hi (by rcases hd2 with rfl | rfl <;> rw [hbd] <;> decide)
  have hb : (decide (bt path (i + 1) = 48) || decide (bt path (i + 1) = 49)) = true := by rcases hd2 with rfl | rfl <;> rw [hbd] <;> decide
  refine ⟨by rw [h1, t1, hb, Bool.true_and, t2], by omega, by simp; omega, fun h => by omega, fun ht _ => ?_⟩
  rw [h5 ht h0, e1, e2, List.takeWhile_cons_of_pos (by decide), List.takeWhile_cons_of_pos (by rcases hd2 with rfl | rfl <;> decide), List.dropWhile_cons_of_pos (by decide), List.dropWhile_cons_of_pos (by rcases hd2 with rfl | rfl <;> decide)]
  simp [unesc1]
theorem PI.other {path : ByteArray} {i : Nat} {done : List ByteArray} {cur : List UInt8} (h : PI path i done cur) (hi : i < path.size) (c : UInt8) (hc : bt path i = c.toNat) (n1 : c ≠ 47) (n2 : c ≠ 126) (h0 : 0 < i) : PI path (i + 1) done (cur ++ [c]) := by
  obtain ⟨h1, h2, h3, h4, h5⟩ := h
  have e1 := drop_at path i hi c hc
  have hne : bt path i ≠ 126 := fun e => n2 (by rw [← UInt8.toNat_inj]; show c.toNat = 126; omega)
  refine ⟨by rw [h1]; exact tilde_ne path i hi hne, by omega, by simp; omega, fun h => by omega, fun ht _ => ?_⟩
  rw [h5 ht h0, e1, List.takeWhile_cons_of_pos (by simpa using n1), List.dropWhile_cons_of_pos (by simpa using n1), unesc1_ne n2]
  simp
theorem PI.done_ {path : ByteArray} {done : List ByteArray} {cur : List UInt8} (h : PI path path.size done cur) (h0 : 0 < path.size) : tildeOk path.toList = true ∧ partsP path = done ++ [⟨cur.toArray⟩] := by
  obtain ⟨h1, h2, h3, h4, h5⟩ := h
  have hd := drop_end path path.size (Nat.le_refl _)
  have ht : tildeOk path.toList = true := by rw [h1, hd]; rfl
  refine ⟨ht, ?_⟩
  rw [h5 ht h0, hd]
  have : partsF path.size [] = [] := by cases path.size <;> rfl
  simp [unesc1, this]
theorem own_below {w w' : World} {base size n Bp : Nat} {e : TypeId} {v : Value} {xs : List Value} (h : w.ownsRow base e size v n xs) (hb : Below Bp w w') (hlt : ∀ g, v.ownBlock = some g → g < Bp) : w'.ownsRow base e size v n xs := by
  refine ⟨h.1, ?_⟩
  rcases h.2 with hn | ⟨g, cap, cur, rfl, h1, h2, rest⟩
  · exact .inl hn
  · exact .inr ⟨g, cap, cur, rfl, h1, (hb.block g (hlt g rfl)).trans h2, rest⟩
end Go.Proofs.YtnbfagignbbmfaaDoor
/-! The walk of the reference's parts. -/
namespace Go.Proofs.YtnbfagignbbmfaaDoor
open Go.RowKit Go.PlainAid
set_option linter.unusedVariables false
set_option linter.unusedSimpArgs false
set_option maxRecDepth 100000
def RPok (path : ByteArray) (w : World) (e : Ending) (w' : World) : Prop := ∃ A c, e = .returned (.tuple #[.slice A (partsP path).length c, .bool true]) ∧ w'.ownsRow w.heap.size 9 1 (.slice A (partsP path).length c) (partsP path).length ((partsP path).map Value.string) ∧ Below w.heap.size w w'
def RPbad (w : World) (e : Ending) (w' : World) : Prop := e = .returned (.tuple #[.slice none 0 0, .bool false]) ∧ Below w.heap.size w w'
theorem rparts_bad (path : ByteArray) (w : World) (hs : path.size ≤ 9223372036854775807) (h : 1000 < path.size ∨ (0 < path.size ∧ bt path 0 ≠ 47)) : Calls Tryd.prog 36 #[.string path] w (RPbad w) := by
  have hb := get_bt path
  have hW := Below.refl w.heap.size w
  have hcase : 1000 < path.size ∨ (path.size ≤ 1000 ∧ 0 < path.size ∧ bt path 0 ≠ 47) := by omega
  clear h
  rcases hcase with h | ⟨h, h0, h47⟩
  · have hl : (1000 : Int) < (path.size : Int) := by omega
    go_enter Tryd.func36, Tryd.ntmps36
    go_wp2
    go_ret2
    exact ⟨rfl, hW⟩
  · have hl : ¬ (1000 : Int) < (path.size : Int) := by omega
    have f1 := size_full h0
    have f2 : path.toList.isEmpty = false := by cases hh : path.toList with | nil => exact absurd hh f1 | cons _ _ => rfl
    have f3 : (bt path 0 != 47) = true := by rw [bne_iff_ne]; exact h47
    go_enter Tryd.func36, Tryd.ntmps36
    go_wp2
    go_ret2
    exact ⟨rfl, hW⟩
def RInv (path : ByteArray) (w : World) (i : Nat) (done : List ByteArray) (cur : List UInt8) (Aw : Option Addr) (cw : Nat) (vp : Value) (Bp : Nat) (wr : World) : Prop :=
  PI path i done cur ∧ wr.ownsRow w.heap.size 9 1 (.slice Aw done.length cw) done.length (done.map Value.string) ∧ (∀ g, (Value.slice Aw done.length cw).ownBlock = some g → g < Bp) ∧ OwnU wr Bp vp cur ∧ w.heap.size ≤ Bp ∧ Bp ≤ wr.heap.size ∧ Below w.heap.size w wr
theorem RInv.byte {path : ByteArray} {w : World} {i j : Nat} {done : List ByteArray} {cur : List UInt8} {Aw : Option Addr} {cw : Nat} {vp : Value} {Bp : Nat} {wr : World} (h : RInv path w i done cur Aw cw vp Bp wr) {c : UInt8} (hp : PI path j done (cur ++ [c])) {v' : Value} {w' : World} {x : Int} (hx : x = (c.toNat : Int)) (ho : OwnB w' Bp v' (nums cur ++ [x])) (hb : Below Bp wr w') : RInv path w j done (cur ++ [c]) Aw cw v' Bp w' := by
  subst hx
  obtain ⟨h1, h2, h3, h4, h5, h6, h7⟩ := h
  refine ⟨hp, own_below h2 hb h3, h3, ?_, h5, Nat.le_trans h6 hb.size, h7.trans (hb.mono h5)⟩
  unfold OwnU
  rw [nums_app]
  exact ho
theorem RInv.part {path : ByteArray} {w : World} {i j : Nat} {done : List ByteArray} {cur : List UInt8} {Aw : Option Addr} {cw : Nat} {vp : Value} {Bp : Nat} {wr : World} (h : RInv path w i done cur Aw cw vp Bp wr) {t : ByteArray} (hp : PI path j (done ++ [t]) []) {Av : Option Addr} {cv : Nat} {w' : World} (ho : w'.ownsRow w.heap.size 9 1 (.slice Av (done.length + 1) cv) (done.length + 1) (done.map Value.string ++ [.string t])) (hg : wr.grownBy w' (Value.slice Aw done.length cw).ownBlock) : RInv path w j (done ++ [t]) [] Av cv (.slice none 0 0) w'.heap.size w' := by
  obtain ⟨h1, h2, h3, h4, h5, h6, h7⟩ := h
  have hb : Below w.heap.size w w' := h7.grown hg h7.size (fun k hk => (own_lt h2 hk).1)
  have ho2 : w'.ownsRow w.heap.size 9 1 (.slice Av (done ++ [t]).length cv) (done ++ [t]).length ((done ++ [t]).map Value.string) := by
    rw [List.map_append, show (done ++ [t]).length = done.length + 1 by simp]
    exact ho
  exact ⟨hp, ho2, fun g hg => (own_lt ho2 hg).2, OwnU.nil _ _, hb.size, Nat.le_refl _, hb⟩
theorem u8_at (path : ByteArray) (i : Nat) (hi : i < path.size) : ∃ c : UInt8, bt path i = (c.toNat : Int) := by
  obtain ⟨u, h1, _⟩ := drop_cons path i hi
  exact ⟨u, h1⟩
theorem rparts_zero (path : ByteArray) (w : World) (hz : path.size = 0) : Calls Tryd.prog 36 #[.string path] w (RPok path w) := by
  have f1 := size_empty hz
  have f2 : path.toList.isEmpty = true := by rw [f1]; rfl
  have hl : ¬ (1000 : Int) < (path.size : Int) := by omega
  have HP : Hid (partsP path = []) := by
    show _ = _
    unfold partsP
    rw [f1]
    cases path.size <;> rfl
  have HBW := Lib.hid (Below.refl w.heap.size w)
  have hz2 : (path.size : Int) = 0 := by omega
  go_enter Tryd.func36, Tryd.ntmps36
  go_wp2_with fail
  go_loopw [4, 5, 6] (fun t4 t5 t6 wr => t4 = .slice none 0 0 ∧ t5 = .slice none 0 0 ∧ t6 = .int .i64 0 ∧ wr = w) (fun _ _ _ _ => 0)
  case atStart => exact ⟨rfl, rfl, rfl, rfl⟩
  case round =>
    obtain ⟨rfl, rfl, rfl, rfl⟩ := hrel
    go_wp2_with fail
    go_ret2
    exact ⟨none, 0, by rw [HP.out]; rfl, by rw [HP.out]; exact World.ownsRow_nil _ _ _ _, HBW.out⟩
set_option maxHeartbeats 4000000 in
theorem rparts_walk (path : ByteArray) (w : World) (hs : path.size ≤ 1000) (h47 : bt path 0 = 47) (f4 : 0 < path.size) : Calls Tryd.prog 36 #[.string path] w (fun e w' => (tildeOk path.toList = true ∧ RPok path w e w') ∨ (tildeOk path.toList = false ∧ RPbad w e w')) := by
  have hb := get_bt path
  have hl : ¬ (1000 : Int) < (path.size : Int) := by omega
  have HI0 : Hid (RInv path w 0 [] [] none 0 (.slice none 0 0) w.heap.size w) := ⟨PI.start path, World.ownsRow_nil _ _ _ _, fun g hg => by simp [Value.ownBlock] at hg, OwnU.nil _ _, Nat.le_refl _, Nat.le_refl _, Below.refl _ _⟩
  have H47 := Lib.hid h47
  have f1 := size_full f4
  have f2 : path.toList.isEmpty = false := by cases hh : path.toList with | nil => exact absurd hh f1 | cons _ _ => rfl
  have f3 : (bt path 0 != 47) = false := by rw [h47]; rfl
  clear h47
  go_enter Tryd.func36, Tryd.ntmps36
  go_wp2_with fail
  go_loopw [4, 5, 6] (fun t4 t5 t6 wr => ∃ (i : Nat) (done : List ByteArray) (cur : List UInt8) (Aw : Option Addr) (cw : Nat) (vp : Value) (Bp : Nat), i ≤ path.size ∧ t4 = .slice Aw done.length cw ∧ t5 = vp ∧ t6 = .int .i64 i ∧ Hid (RInv path w i done cur Aw cw vp Bp wr)) (fun _ _ t6 _ => path.size - (intOf t6).toNat)
  case atStart => exact ⟨0, [], [], none, 0, _, _, by omega, rfl, rfl, rfl, HI0⟩
  case round =>
    clear HI0
    obtain ⟨i, done, cur, Aw, cw, vp, Bp, hi, rfl, rfl, rfl, hI⟩ := hrel
    obtain ⟨wo, rfl⟩ : ∃ wo : World, wo = wr := ⟨_, rfl⟩
    obtain ⟨hdl, hcl⟩ : done.length ≤ 1000 ∧ cur.length ≤ 1000 := by have h1 := hI.out.1.2.1; have h2 := hI.out.1.2.2.1; omega
    have hnl : (nums cur).length ≤ 1000 := by rw [nums_len]; exact hcl
    have hz1 := hI.out.2.2.2.2.1
    have hz2 := hI.out.2.2.2.2.2.1
    have hzw : w.heap.size ≤ wo.heap.size := by omega
    by_cases hlt : i < path.size
    · obtain ⟨c, hc⟩ := u8_at path i hlt
      have b0 := bt_nonneg path i
      have b1 := bt_le path i
      have HC := Lib.hid hc
      clear hc
      by_cases h47 : bt path i = 47
      · have g1 : (bt path i == 47) = true := by rw [h47]; rfl
        by_cases hi0 : i = 0
        · have hn0 : ¬ (0 : Int) < (i : Int) := by omega
          have HN : Hid (RInv path w (i + 1) done [] Aw cw (.slice none 0 0) Bp wo) := by
            subst hi0
            obtain ⟨k1, k2, k3, k4, k5, k6, k7⟩ := hI.out
            have hd := (k1.2.2.2.1 rfl).1
            refine ⟨?_, k2, k3, OwnU.nil _ _, k5, k6, k7⟩
            rw [hd]
            exact k1.first hlt h47
          clear h47 hi0 HC
          go_wp2_with fail
          go_roundw
          case rel => exact ⟨i + 1, done, [], Aw, cw, _, Bp, by omega, rfl, rfl, by go_num, HN⟩
          case measure => simp [intOf]; omega
        · have hp0 : (0 : Int) < (i : Int) := by omega
          have HP := Lib.hid (hI.out.1.slash hlt h47 (by omega))
          have kc := hI.out.2.2.2.1.conv
          clear h47 hi0 HC
          go_wp2_with (at_builtin; refine wpList_pushStrP _ rfl _ _ rfl w.heap.size (.slice Aw done.length cw) done.length (done.map Value.string) (by first | rfl | simp [Act.eval]) hI.out.2.1 ⟨cur.toArray⟩ (by first | rfl | simp [Act.eval]) ?lim ?hB ?_; (case lim => omega); (case hB => omega); intro v' w4 ho4 hg4; obtain ⟨Av, cv, rfl⟩ := own_form ho4; have HN := Lib.hid (hI.out.part HP.out ho4 hg4); clear ho4 hg4 kc)
          go_roundw
          case rel => exact ⟨i + 1, done ++ [⟨cur.toArray⟩], [], Av, cv, _, w4.heap.size, by omega, by simp, rfl, by go_num, HN⟩
          case measure => simp [intOf]; omega
      · have g1 : (bt path i == 47) = false := by rw [beq_eq_false_iff_ne]; exact h47
        have hip : 0 < i := by
          rcases Nat.eq_zero_or_pos i with e | e
          · subst e; exact absurd H47.out h47
          · exact e
        by_cases h126 : bt path i = 126
        · have g2 : (bt path i == 126) = true := by rw [h126]; rfl
          by_cases hk1 : i + 1 < path.size
          · have hk2 : ¬ (path.size : Int) ≤ (i : Int) + 1 := by omega
            have t2 := tilde_two path i hk1 h126
            by_cases h48 : bt path (i + 1) = 48
            · have g3 : (bt path (i + 1) != 48) = false := by rw [h48]; rfl
              have g4 : (bt path (i + 1) == 49) = false := by rw [h48]; rfl
              have HP : Hid (PI path (i + 1 + 1) done (cur ++ [126])) := hI.out.1.esc hk1 h126 48 (.inl rfl) h48 hip
              have HPU : Hid (∀ v' w', OwnB w' Bp v' (nums cur ++ [126]) → Below Bp wo w' → RInv path w (i + 1 + 1) done (cur ++ [126]) Aw cw v' Bp w') := fun v' w' ho hb => hI.out.byte HP.out rfl ho hb
              clear h47 h126 h48 t2 HC
              go_wp2_with (at_builtin; refine wpList_push _ rfl _ _ rfl Bp _ (nums cur) (by first | rfl | simp [Act.eval]) hI.out.2.2.2.1 126 (by first | rfl | simp [Act.eval]) ?lim ?hB ?_; (case lim => omega); (case hB => omega); intro v' w4 ho4 hb4; have HN := Lib.hid (HPU.out _ _ ho4 hb4); clear ho4 hb4)
              go_roundw
              case rel => exact ⟨i + 1 + 1, done, cur ++ [126], Aw, cw, _, Bp, by omega, rfl, rfl, by go_num, HN⟩
              case measure => simp [intOf]; omega
            · have g3 : (bt path (i + 1) != 48) = true := by rw [bne_iff_ne]; exact h48
              by_cases h49 : bt path (i + 1) = 49
              · have g5 : (bt path (i + 1) != 49) = false := by rw [h49]; rfl
                have g4 : (bt path (i + 1) == 49) = true := by rw [h49]; rfl
                have HP : Hid (PI path (i + 1 + 1) done (cur ++ [47])) := hI.out.1.esc hk1 h126 49 (.inr rfl) h49 hip
                clear h47 h126 h48 h49 t2 HC
                have HPU : Hid (∀ v' w', OwnB w' Bp v' (nums cur ++ [47]) → Below Bp wo w' → RInv path w (i + 1 + 1) done (cur ++ [47]) Aw cw v' Bp w') := fun v' w' ho hb => hI.out.byte HP.out rfl ho hb
                go_wp2_with (at_builtin; refine wpList_push _ rfl _ _ rfl Bp _ (nums cur) (by first | rfl | simp [Act.eval]) hI.out.2.2.2.1 47 (by first | rfl | simp [Act.eval]) ?lim ?hB ?_; (case lim => omega); (case hB => omega); intro v' w4 ho4 hb4; have HN := Lib.hid (HPU.out _ _ ho4 hb4); clear ho4 hb4)
                go_roundw
                case rel => exact ⟨i + 1 + 1, done, cur ++ [47], Aw, cw, _, Bp, by omega, rfl, rfl, by go_num, HN⟩
                case measure => simp [intOf]; omega
              · have g5 : (bt path (i + 1) != 49) = true := by rw [bne_iff_ne]; exact h49
                have HX : Hid (tildeOk path.toList = false) := by show _ = _; rw [hI.out.1.1, t2]; simp [h48, h49]
                have HBW := Lib.hid hI.out.2.2.2.2.2.2
                clear h47 h126 h48 h49 t2 HC
                go_wp2_with fail
                go_ret2
                exact .inr ⟨HX.out, rfl, HBW.out⟩
          · have hk2 : (path.size : Int) ≤ (i : Int) + 1 := by omega
            have HX : Hid (tildeOk path.toList = false) := hI.out.1.1.trans (tilde_end path i (by omega) h126)
            have HBW := Lib.hid hI.out.2.2.2.2.2.2
            clear h47 h126 HC hk1
            go_wp2_with fail
            go_ret2
            exact .inr ⟨HX.out, rfl, HBW.out⟩
        · have g2 : (bt path i == 126) = false := by rw [beq_eq_false_iff_ne]; exact h126
          have HP : Hid (PI path (i + 1) done (cur ++ [c])) := hI.out.1.other hlt c HC.out (fun e => h47 (by rw [HC.out, e]; rfl)) (fun e => h126 (by rw [HC.out, e]; rfl)) hip
          clear h47 h126
          have HPU : Hid (∀ v' w', OwnB w' Bp v' (nums cur ++ [bt path i]) → Below Bp wo w' → RInv path w (i + 1) done (cur ++ [c]) Aw cw v' Bp w') := fun v' w' ho hb => hI.out.byte HP.out HC.out ho hb
          go_wp2_with (at_builtin; refine wpList_push _ rfl _ _ rfl Bp _ (nums cur) (by first | rfl | simp [Act.eval]) hI.out.2.2.2.1 (bt path i) (by first | rfl | simp [Act.eval]) ?lim ?hB ?_; (case lim => omega); (case hB => omega); intro v' w4 ho4 hb4; have HN := Lib.hid (HPU.out _ _ ho4 hb4); clear ho4 hb4)
          go_roundw
          case rel => exact ⟨i + 1, done, cur ++ [c], Aw, cw, _, Bp, by omega, rfl, rfl, by go_num, HN⟩
          case measure => simp [intOf]; omega
    · obtain rfl : i = path.size := by omega
      have HR := Lib.hid (hI.out.1.done_ (by omega))
      have kc := hI.out.2.2.2.1.conv
      go_wp2_with (at_builtin; refine wpList_pushStrP _ rfl _ _ rfl w.heap.size (.slice Aw done.length cw) done.length (done.map Value.string) (by first | rfl | simp [Act.eval]) hI.out.2.1 ⟨cur.toArray⟩ (by first | rfl | simp [Act.eval]) ?lim ?hB ?_; (case lim => omega); (case hB => omega); intro v' w4 ho4 hg4; obtain ⟨Av, cv, rfl⟩ := own_form ho4; have HO4 := Lib.hid ho4; have HBW : Hid (Below w.heap.size w w4) := hI.out.2.2.2.2.2.2.grown hg4 hzw (fun k hk => (own_lt hI.out.2.1 hk).1); clear ho4 hg4 kc)
      go_ret2
      exact .inl ⟨HR.out.1, Av, cv, by rw [HR.out.2]; simp, by rw [HR.out.2, List.map_append, show (done ++ [(⟨cur.toArray⟩ : ByteArray)]).length = done.length + 1 by simp]; exact HO4.out, HBW.out⟩
theorem rparts_any (path : ByteArray) (w : World) (hs : path.size ≤ 9223372036854775807) : Calls Tryd.prog 36 #[.string path] w (fun e w' => (formP path = true ∧ RPok path w e w') ∨ (formP path = false ∧ RPbad w e w')) := by
  cases hp : path.toList with
  | nil =>
    have hz : path.size = 0 := by rw [← toList_len, hp]; rfl
    exact (rparts_zero path w hz).mono fun e w' h => .inl ⟨formP_nil path hp, h⟩
  | cons c r =>
    have h0 : 0 < path.size := by rw [← toList_len, hp]; simp
    have hf := formP_cons path c r hp
    by_cases h47 : bt path 0 = 47
    · by_cases hl : path.size ≤ 1000
      · refine (rparts_walk path w hl h47 h0).mono ?_
        have e : formP path = tildeOk path.toList := by rw [hf]; simp [h47, hl]
        rintro e2 w' (⟨h, k⟩ | ⟨h, k⟩)
        · exact .inl ⟨by rw [e, h], k⟩
        · exact .inr ⟨by rw [e, h], k⟩
      · exact (rparts_bad path w hs (.inl (by omega))).mono fun e w' h => .inr ⟨by rw [hf]; simp [hl], h⟩
    · exact (rparts_bad path w hs (.inr ⟨h0, h47⟩)).mono fun e w' h => .inr ⟨by rw [hf]; simp [h47], h⟩
end Go.Proofs.YtnbfagignbbmfaaDoor
/-! The reference's Point. -/
namespace Go.Proofs.YtnbfagignbbmfaaDoor
open Go.RowKit Go.PlainAid
set_option linter.unusedVariables false
set_option linter.unusedSimpArgs false
set_option maxRecDepth 100000
def RPP (r : Option Nd × Int) (S : Nat → Prop) (w : World) (e : Ending) (w' : World) : Prop := ∃ (c0 c1 : Int) (c2 : ByteArray) (c3 : Option Addr) (c4 c5 : Nat) (c6 : Option Addr) (c7 c8 : Nat),
  e = .returned (.tuple #[.agg #[.int .i64 c0, .int .i64 c1, .string c2, .slice c3 c4 c5, .slice c6 c7 c8], .int .i64 r.2]) ∧ NdIn w' (fun b => S b ∨ Since w w' b) (r.1.getD (nd0 0)) [.int .i64 c0, .int .i64 c1, .string c2, .slice c3 c4 c5, .slice c6 c7 c8] ∧ Below w.heap.size w w'
theorem rpp_fin {r : Option Nd × Int} {S S2 : Nat → Prop} {w w2 : World} {y : Nat} {a b c d e : Value} {c0 c1 : Int} {c2 : ByteArray} {c3 : Option Addr} {c4 c5 : Nat} {c6 : Option Addr} {c7 c8 : Nat}
    (hyb : w.heap.size ≤ y) (hb : Below w.heap.size w w2) (hy : Blk w2 y 25 #[a, b, c, d, e]) (hn : NdIn w2 S2 (r.1.getD (nd0 0)) [.int .i64 c0, .int .i64 c1, .string c2, .slice c3 c4 c5, .slice c6 c7 c8])
    (hS2 : ∀ b, S2 b → (S b ∨ Since w w2 b) ∧ b ≠ y) :
    Blk (set5 w2 y (.int .i64 c0) (.int .i64 c1) (.string c2) (.slice c3 c4 c5) (.slice c6 c7 c8)) y 25 #[.int .i64 c0, .int .i64 c1, .string c2, .slice c3 c4 c5, .slice c6 c7 c8] ∧
    RPP r S w (.returned (.tuple #[.agg #[.int .i64 c0, .int .i64 c1, .string c2, .slice c3 c4 c5, .slice c6 c7 c8], .int .i64 r.2])) (set5 w2 y (.int .i64 c0) (.int .i64 c1) (.string c2) (.slice c3 c4 c5) (.slice c6 c7 c8)) := by
  refine ⟨set5_blk hy, _, _, _, _, _, _, _, _, _, rfl, set5_in hn (fun b hb => (hS2 b hb).2) (fun b hb => ?_), set5_below hb hyb⟩
  rcases (hS2 b hb).1 with h | h
  · exact .inl h
  · exact .inr ⟨h.1, by rw [set5_size]; exact h.2⟩
theorem rPoint_right (n : Nd) (path : ByteArray) (x0 x1 : Int) (x2 : ByteArray) (x3 : Option Addr) (x4 x5 : Nat) (x6 : Option Addr) (x7 x8 : Nat) (w : World) (B : Nat) (hB : B ≤ w.heap.size)
    (HCR : Hid (∀ w', Below w.heap.size w w' → Calls Tryd.prog 17 #[.agg #[.int .i64 x0, .int .i64 x1, .string x2, .slice x3 x4 x5, .slice x6 x7 x8]] w' (BoolBel false w'))) (HR : Hid (pointN n path = (none, 1))) :
    Calls Tryd.prog 14 #[.agg #[.int .i64 x0, .int .i64 x1, .string x2, .slice x3 x4 x5, .slice x6 x7 x8], .string path] w (RPP (pointN n path) (· < B) w) := by
  have hA : Below w.heap.size w ((w.alloc (.cells #[.int .i64 x0, .int .i64 x1, .string x2, .slice x3 x4 x5, .slice x6 x7 x8] 25)).alloc (.cells #[.int .i64 0, .int .i64 0, .string ⟨#[]⟩, .slice none 0 0, .slice none 0 0] 25)) := ((Below.refl _ _).alloc (Nat.le_refl _) _).alloc (by simp) _
  have hX : Blk ((w.alloc (.cells #[.int .i64 x0, .int .i64 x1, .string x2, .slice x3 x4 x5, .slice x6 x7 x8] 25)).alloc (.cells #[.int .i64 0, .int .i64 0, .string ⟨#[]⟩, .slice none 0 0, .slice none 0 0] 25)) w.heap.size 25 #[.int .i64 x0, .int .i64 x1, .string x2, .slice x3 x4 x5, .slice x6 x7 x8] := (Blk.new w _ _).alloc _
  have hY : Blk ((w.alloc (.cells #[.int .i64 x0, .int .i64 x1, .string x2, .slice x3 x4 x5, .slice x6 x7 x8] 25)).alloc (.cells #[.int .i64 0, .int .i64 0, .string ⟨#[]⟩, .slice none 0 0, .slice none 0 0] 25)) (w.heap.size + 1) 25 #[.int .i64 0, .int .i64 0, .string ⟨#[]⟩, .slice none 0 0, .slice none 0 0] := by
    have := Blk.new (w.alloc (.cells #[.int .i64 x0, .int .i64 x1, .string x2, .slice x3 x4 x5, .slice x6 x7 x8] 25)) 25 #[.int .i64 0, .int .i64 0, .string ⟨#[]⟩, .slice none 0 0, .slice none 0 0]
    simpa using this
  have hZ : w.heap.size + 2 = ((w.alloc (.cells #[.int .i64 x0, .int .i64 x1, .string x2, .slice x3 x4 x5, .slice x6 x7 x8] 25)).alloc (.cells #[.int .i64 0, .int .i64 0, .string ⟨#[]⟩, .slice none 0 0, .slice none 0 0] 25)).heap.size := by simp
  have HA := Lib.hid hA
  have HX := Lib.hid hX
  have HY := Lib.hid hY
  clear hA hX hY
  go_enter Tryd.func14, Tryd.ntmps14
  go_upto_region 1 with fail
  generalize (w.alloc (.cells #[.int .i64 x0, .int .i64 x1, .string x2, .slice x3 x4 x5, .slice x6 x7 x8] 25)).alloc (.cells #[.int .i64 0, .int .i64 0, .string ⟨#[]⟩, .slice none 0 0, .slice none 0 0] 25) = wa at *
  obtain ⟨c0, c1, c2, c3, c4⟩ := HX.out.cells5
  go_wp2_with fail
  refine (HCR.out _ HA.out).mono ?_; rintro e w1 ⟨rfl, hw1⟩
  have HB1 := Lib.hid (HA.out.trans (hw1.mono HA.out.size))
  have HY1 := Lib.hid (HY.out.below hw1 HY.out.lt)
  have HX1 := Lib.hid (HX.out.below hw1 HX.out.lt)
  have hz1 : w.heap.size + 2 ≤ w1.heap.size := by have := hw1.size; omega
  clear hw1 c0 c1 c2 c3 c4 HA HX HY HCR
  obtain ⟨d0, d1, d2, d3, d4⟩ := HY1.out.cells5
  have f0 := HY1.out.frozen 0
  have f1 := HY1.out.frozen 1
  have f2 := HY1.out.frozen 2
  have f3 := HY1.out.frozen 3
  have f4 := HY1.out.frozen 4
  go_wp2_with fail
  clear d0 d1 d2 d3 d4 f0 f1 f2 f3 f4
  have F := rpp_fin (r := (none, 1)) (S := (· < B)) (S2 := (fun _ => False)) (w := w) (w2 := w1) (y := w.heap.size + 1) (by omega) HB1.out HY1.out (nd0_in 0 (by unfold I64; omega) _ _) (fun b hb => hb.elim)
  unfold set5 at F
  generalize (((((w1).setCell ⟨w.heap.size + 1, 0, none⟩ (.int .i64 0)).setCell ⟨w.heap.size + 1, 1, none⟩ (.int .i64 0)).setCell ⟨w.heap.size + 1, 2, none⟩ (.string ⟨#[]⟩)).setCell ⟨w.heap.size + 1, 3, none⟩ (.slice none 0 0)).setCell ⟨w.heap.size + 1, 4, none⟩ (.slice none 0 0) = WF at *
  obtain ⟨F1, F2⟩ := F
  obtain ⟨q0, q1, q2, q3, q4⟩ := F1.cells5
  refine bodyPost_ret (v := .tuple #[.agg #[.int .i64 0, .int .i64 0, .string ⟨#[]⟩, .slice none 0 0, .slice none 0 0], .int .i64 1]) (by simp [results, Tryd.results14, go_sem, q0, q1, q2, q3, q4]) rfl ?_
  rw [HR.out]; exact F2
theorem rPoint_form (n : Nd) (path : ByteArray) (x0 x1 : Int) (x2 : ByteArray) (x3 : Option Addr) (x4 x5 : Nat) (x6 : Option Addr) (x7 x8 : Nat) (w : World) (B : Nat) (hB : B ≤ w.heap.size)
    (HCR : Hid (∀ w', Below w.heap.size w w' → Calls Tryd.prog 17 #[.agg #[.int .i64 x0, .int .i64 x1, .string x2, .slice x3 x4 x5, .slice x6 x7 x8]] w' (BoolBel true w'))) (HFM : Hid (∀ w', Calls Tryd.prog 36 #[.string path] w' (RPbad w'))) (HR : Hid (pointN n path = (none, 3))) :
    Calls Tryd.prog 14 #[.agg #[.int .i64 x0, .int .i64 x1, .string x2, .slice x3 x4 x5, .slice x6 x7 x8], .string path] w (RPP (pointN n path) (· < B) w) := by
  have hA : Below w.heap.size w ((w.alloc (.cells #[.int .i64 x0, .int .i64 x1, .string x2, .slice x3 x4 x5, .slice x6 x7 x8] 25)).alloc (.cells #[.int .i64 0, .int .i64 0, .string ⟨#[]⟩, .slice none 0 0, .slice none 0 0] 25)) := ((Below.refl _ _).alloc (Nat.le_refl _) _).alloc (by simp) _
  have hX : Blk ((w.alloc (.cells #[.int .i64 x0, .int .i64 x1, .string x2, .slice x3 x4 x5, .slice x6 x7 x8] 25)).alloc (.cells #[.int .i64 0, .int .i64 0, .string ⟨#[]⟩, .slice none 0 0, .slice none 0 0] 25)) w.heap.size 25 #[.int .i64 x0, .int .i64 x1, .string x2, .slice x3 x4 x5, .slice x6 x7 x8] := (Blk.new w _ _).alloc _
  have hY : Blk ((w.alloc (.cells #[.int .i64 x0, .int .i64 x1, .string x2, .slice x3 x4 x5, .slice x6 x7 x8] 25)).alloc (.cells #[.int .i64 0, .int .i64 0, .string ⟨#[]⟩, .slice none 0 0, .slice none 0 0] 25)) (w.heap.size + 1) 25 #[.int .i64 0, .int .i64 0, .string ⟨#[]⟩, .slice none 0 0, .slice none 0 0] := by
    have := Blk.new (w.alloc (.cells #[.int .i64 x0, .int .i64 x1, .string x2, .slice x3 x4 x5, .slice x6 x7 x8] 25)) 25 #[.int .i64 0, .int .i64 0, .string ⟨#[]⟩, .slice none 0 0, .slice none 0 0]
    simpa using this
  have hZ : w.heap.size + 2 = ((w.alloc (.cells #[.int .i64 x0, .int .i64 x1, .string x2, .slice x3 x4 x5, .slice x6 x7 x8] 25)).alloc (.cells #[.int .i64 0, .int .i64 0, .string ⟨#[]⟩, .slice none 0 0, .slice none 0 0] 25)).heap.size := by simp
  have HA := Lib.hid hA
  have HX := Lib.hid hX
  have HY := Lib.hid hY
  clear hA hX hY
  go_enter Tryd.func14, Tryd.ntmps14
  go_upto_region 1 with fail
  generalize (w.alloc (.cells #[.int .i64 x0, .int .i64 x1, .string x2, .slice x3 x4 x5, .slice x6 x7 x8] 25)).alloc (.cells #[.int .i64 0, .int .i64 0, .string ⟨#[]⟩, .slice none 0 0, .slice none 0 0] 25) = wa at *
  obtain ⟨c0, c1, c2, c3, c4⟩ := HX.out.cells5
  go_wp2_with fail
  refine (HCR.out _ HA.out).mono ?_; rintro e w1 ⟨rfl, hw1⟩
  have HB1 := Lib.hid (HA.out.trans (hw1.mono HA.out.size))
  have HY1 := Lib.hid (HY.out.below hw1 HY.out.lt)
  have HX1 := Lib.hid (HX.out.below hw1 HX.out.lt)
  have hz1 : w.heap.size + 2 ≤ w1.heap.size := by have := hw1.size; omega
  clear hw1 c0 c1 c2 c3 c4 HA HX HY HCR
  go_wp2_with fail
  refine (HFM.out _ : Calls _ _ _ _ _).mono ?_; rintro e w2 ⟨rfl, hw2⟩
  have HB2 := Lib.hid (HB1.out.trans (hw2.mono HB1.out.size))
  have HY2 := Lib.hid (HY1.out.below hw2 HY1.out.lt)
  clear hw2 HB1 HY1
  obtain ⟨d0, d1, d2, d3, d4⟩ := HY2.out.cells5
  have f0 := HY2.out.frozen 0
  have f1 := HY2.out.frozen 1
  have f2 := HY2.out.frozen 2
  have f3 := HY2.out.frozen 3
  have f4 := HY2.out.frozen 4
  go_wp2_with fail
  clear d0 d1 d2 d3 d4 f0 f1 f2 f3 f4
  have F := rpp_fin (r := (none, 3)) (S := (· < B)) (S2 := (fun _ => False)) (w := w) (w2 := w2) (y := w.heap.size + 1) (by omega) HB2.out HY2.out (nd0_in 0 (by unfold I64; omega) _ _) (fun b hb => hb.elim)
  unfold set5 at F
  generalize (((((w2).setCell ⟨w.heap.size + 1, 0, none⟩ (.int .i64 0)).setCell ⟨w.heap.size + 1, 1, none⟩ (.int .i64 0)).setCell ⟨w.heap.size + 1, 2, none⟩ (.string ⟨#[]⟩)).setCell ⟨w.heap.size + 1, 3, none⟩ (.slice none 0 0)).setCell ⟨w.heap.size + 1, 4, none⟩ (.slice none 0 0) = WF at *
  obtain ⟨F1, F2⟩ := F
  obtain ⟨q0, q1, q2, q3, q4⟩ := F1.cells5
  refine bodyPost_ret (v := .tuple #[.agg #[.int .i64 0, .int .i64 0, .string ⟨#[]⟩, .slice none 0 0, .slice none 0 0], .int .i64 3]) (by simp [results, Tryd.results14, go_sem, q0, q1, q2, q3, q4]) rfl ?_
  rw [HR.out]; exact F2
set_option maxHeartbeats 1000000 in
theorem rPoint_walk (n : Nd) (path : ByteArray) (x0 x1 : Int) (x2 : ByteArray) (x3 : Option Addr) (x4 x5 : Nat) (x6 : Option Addr) (x7 x8 : Nat) (w : World) (B : Nat) (hB : B ≤ w.heap.size)
    (HCR : Hid (∀ w', Below w.heap.size w w' → Calls Tryd.prog 17 #[.agg #[.int .i64 x0, .int .i64 x1, .string x2, .slice x3 x4 x5, .slice x6 x7 x8]] w' (BoolBel true w'))) (HFM : Hid (∀ w', Calls Tryd.prog 36 #[.string path] w' (RPok path w')))
    (HN : Hid (NdIn w (· < B) n [.int .i64 x0, .int .i64 x1, .string x2, .slice x3 x4 x5, .slice x6 x7 x8])) (HSZ : Hid (sizeOk n ∧ n.count ≤ 1000000)) (HPL : Hid (path.size ≤ 1000))
    (R : Option Nd) (HR : Hid (getN (partsP path) n = R)) (HP : Hid ((R = none → pointN n path = (none, 7)) ∧ ∀ m, R = some m → pointN n path = (some m, 0))) :
    Calls Tryd.prog 14 #[.agg #[.int .i64 x0, .int .i64 x1, .string x2, .slice x3 x4 x5, .slice x6 x7 x8], .string path] w (RPP (pointN n path) (· < B) w) := by
  have hA : Below w.heap.size w ((w.alloc (.cells #[.int .i64 x0, .int .i64 x1, .string x2, .slice x3 x4 x5, .slice x6 x7 x8] 25)).alloc (.cells #[.int .i64 0, .int .i64 0, .string ⟨#[]⟩, .slice none 0 0, .slice none 0 0] 25)) := ((Below.refl _ _).alloc (Nat.le_refl _) _).alloc (by simp) _
  have hX : Blk ((w.alloc (.cells #[.int .i64 x0, .int .i64 x1, .string x2, .slice x3 x4 x5, .slice x6 x7 x8] 25)).alloc (.cells #[.int .i64 0, .int .i64 0, .string ⟨#[]⟩, .slice none 0 0, .slice none 0 0] 25)) w.heap.size 25 #[.int .i64 x0, .int .i64 x1, .string x2, .slice x3 x4 x5, .slice x6 x7 x8] := (Blk.new w _ _).alloc _
  have hY : Blk ((w.alloc (.cells #[.int .i64 x0, .int .i64 x1, .string x2, .slice x3 x4 x5, .slice x6 x7 x8] 25)).alloc (.cells #[.int .i64 0, .int .i64 0, .string ⟨#[]⟩, .slice none 0 0, .slice none 0 0] 25)) (w.heap.size + 1) 25 #[.int .i64 0, .int .i64 0, .string ⟨#[]⟩, .slice none 0 0, .slice none 0 0] := by
    have := Blk.new (w.alloc (.cells #[.int .i64 x0, .int .i64 x1, .string x2, .slice x3 x4 x5, .slice x6 x7 x8] 25)) 25 #[.int .i64 0, .int .i64 0, .string ⟨#[]⟩, .slice none 0 0, .slice none 0 0]
    simpa using this
  have hZ : w.heap.size + 2 = ((w.alloc (.cells #[.int .i64 x0, .int .i64 x1, .string x2, .slice x3 x4 x5, .slice x6 x7 x8] 25)).alloc (.cells #[.int .i64 0, .int .i64 0, .string ⟨#[]⟩, .slice none 0 0, .slice none 0 0] 25)).heap.size := by simp
  have HA := Lib.hid hA
  have HX := Lib.hid hX
  have HY := Lib.hid hY
  clear hA hX hY
  go_enter Tryd.func14, Tryd.ntmps14
  go_upto_region 1 with fail
  generalize (w.alloc (.cells #[.int .i64 x0, .int .i64 x1, .string x2, .slice x3 x4 x5, .slice x6 x7 x8] 25)).alloc (.cells #[.int .i64 0, .int .i64 0, .string ⟨#[]⟩, .slice none 0 0, .slice none 0 0] 25) = wa at *
  obtain ⟨c0, c1, c2, c3, c4⟩ := HX.out.cells5
  go_wp2_with fail
  refine (HCR.out _ HA.out).mono ?_; rintro e w1 ⟨rfl, hw1⟩
  have HB1 := Lib.hid (HA.out.trans (hw1.mono HA.out.size))
  have HY1 := Lib.hid (HY.out.below hw1 HY.out.lt)
  have HX1 := Lib.hid (HX.out.below hw1 HX.out.lt)
  have hz1 : w.heap.size + 2 ≤ w1.heap.size := by have := hw1.size; omega
  clear hw1 c0 c1 c2 c3 c4 HA HX HY HCR
  go_wp2_with fail
  refine (HFM.out _ : Calls _ _ _ _ _).mono ?_; rintro e w2 ⟨A, c, rfl, ho, hw2⟩
  have HB2 := Lib.hid (HB1.out.trans (hw2.mono HB1.out.size))
  have HY2 := Lib.hid (HY1.out.below hw2 HY1.out.lt)
  have hx2 := HX1.out.below hw2 HX1.out.lt
  have hz2 : w.heap.size + 2 ≤ w2.heap.size := by have := hw2.size; omega
  have hcp := own_cap ho
  have HFO : Hid (Calls Tryd.prog 37 #[.agg #[.int .i64 x0, .int .i64 x1, .string x2, .slice x3 x4 x5, .slice x6 x7 x8], .slice A (partsP path).length c] w2 (GetP R (· < B) w2)) := by
    have := follow_any (partsP path) (fun s hs => by have := partsP_size path s hs; have := HPL.out; omega) n [.int .i64 x0, .int .i64 x1, .string x2, .slice x3 x4 x5, .slice x6 x7 x8] w2 (· < B) A c (NdIn.on HN.out (fun b hb => Nat.lt_of_lt_of_le hb hB) HB2.out) (fun b hb => by have hb : b < B := hb; omega) ⟨B, fun _ => Iff.rfl⟩ (own_readsP ho) hcp.1 hcp.2 HSZ.out.1 HSZ.out.2
    rw [HR.out] at this
    exact this
  obtain ⟨c0, c1, c2, c3, c4⟩ := hx2.cells5
  clear hw2 HB1 HY1 HX1 hx2 ho hcp HFM HR
  go_wp2_with fail
  refine (HFO.out : Calls _ _ _ _ _).mono ?_; rintro e w4 ⟨y0, y1, y2, y3, y4, y5, y6, y7, y8, rfl, hn4, hw4⟩
  have HN4 := Lib.hid hn4
  have hb4 := HB2.out.trans (hw4.mono HB2.out.size)
  have HB5 : Hid (Below w.heap.size w (w4.alloc (.cells #[.int .i64 y0, .int .i64 y1, .string y2, .slice y3 y4 y5, .slice y6 y7 y8] 25))) := hb4.alloc hb4.size _
  have HY5 : Hid (Blk (w4.alloc (.cells #[.int .i64 y0, .int .i64 y1, .string y2, .slice y3 y4 y5, .slice y6 y7 y8] 25)) (w.heap.size + 1) 25 #[.int .i64 0, .int .i64 0, .string ⟨#[]⟩, .slice none 0 0, .slice none 0 0]) := (HY2.out.below hw4 HY2.out.lt).alloc _
  have hz4 : w2.heap.size ≤ w4.heap.size := hw4.size
  clear hn4 hw4 hb4 c0 c1 c2 c3 c4 HFO HB2 HY2
  obtain ⟨d0, d1, d2, d3, d4⟩ := HY5.out.cells5
  have f0 := HY5.out.frozen 0
  have f1 := HY5.out.frozen 1
  have f2 := HY5.out.frozen 2
  have f3 := HY5.out.frozen 3
  have f4 := HY5.out.frozen 4
  cases R with
  | none =>
    go_wp2_with fail
    clear d0 d1 d2 d3 d4 f0 f1 f2 f3 f4
    have F := rpp_fin (r := (none, 7)) (S := (· < B)) (S2 := (fun _ => False)) (w := w) (w2 := (w4.alloc (.cells #[.int .i64 y0, .int .i64 y1, .string y2, .slice y3 y4 y5, .slice y6 y7 y8] 25))) (y := w.heap.size + 1) (by omega) HB5.out HY5.out (nd0_in 0 (by unfold I64; omega) _ _) (fun b hb => hb.elim)
    unfold set5 at F
    generalize ((((((w4.alloc (.cells #[.int .i64 y0, .int .i64 y1, .string y2, .slice y3 y4 y5, .slice y6 y7 y8] 25))).setCell ⟨w.heap.size + 1, 0, none⟩ (.int .i64 0)).setCell ⟨w.heap.size + 1, 1, none⟩ (.int .i64 0)).setCell ⟨w.heap.size + 1, 2, none⟩ (.string ⟨#[]⟩)).setCell ⟨w.heap.size + 1, 3, none⟩ (.slice none 0 0)).setCell ⟨w.heap.size + 1, 4, none⟩ (.slice none 0 0) = WF at *
    obtain ⟨F1, F2⟩ := F
    obtain ⟨q0, q1, q2, q3, q4⟩ := F1.cells5
    refine bodyPost_ret (v := .tuple #[.agg #[.int .i64 0, .int .i64 0, .string ⟨#[]⟩, .slice none 0 0, .slice none 0 0], .int .i64 7]) (by simp [results, Tryd.results14, go_sem, q0, q1, q2, q3, q4]) rfl ?_
    rw [HP.out.1 (by first | trivial | rfl)]; exact F2
  | some m =>
    have HN5 : Hid (NdIn w4 (fun b => b < B ∨ Since w2 w4 b) m [.int .i64 y0, .int .i64 y1, .string y2, .slice y3 y4 y5, .slice y6 y7 y8]) := HN4.out
    go_wp2_with fail
    clear d0 d1 d2 d3 d4 f0 f1 f2 f3 f4
    have F := rpp_fin (r := (some m, 0)) (S := (· < B)) (S2 := (fun b => b < B ∨ Since w2 w4 b)) (w := w) (w2 := (w4.alloc (.cells #[.int .i64 y0, .int .i64 y1, .string y2, .slice y3 y4 y5, .slice y6 y7 y8] 25))) (y := w.heap.size + 1) (by omega) HB5.out HY5.out (NdIn.keep (fun p hp => World.cell?_alloc_lt _ _ _ (hp.elim (fun h => Nat.lt_of_lt_of_le h (by omega)) (fun h => h.2))) (fun _ h => h) _ _ HN5.out) (fun b hb => by
        rcases hb with hb | hb
        · exact ⟨.inl hb, by omega⟩
        · have h1 : w2.heap.size ≤ b := hb.1
          have h2 : b < w4.heap.size := hb.2
          exact ⟨.inr ⟨by omega, by simp; omega⟩, by omega⟩)
    unfold set5 at F
    generalize ((((((w4.alloc (.cells #[.int .i64 y0, .int .i64 y1, .string y2, .slice y3 y4 y5, .slice y6 y7 y8] 25))).setCell ⟨w.heap.size + 1, 0, none⟩ (.int .i64 y0)).setCell ⟨w.heap.size + 1, 1, none⟩ (.int .i64 y1)).setCell ⟨w.heap.size + 1, 2, none⟩ (.string y2)).setCell ⟨w.heap.size + 1, 3, none⟩ (.slice y3 y4 y5)).setCell ⟨w.heap.size + 1, 4, none⟩ (.slice y6 y7 y8) = WF at *
    obtain ⟨F1, F2⟩ := F
    obtain ⟨q0, q1, q2, q3, q4⟩ := F1.cells5
    refine bodyPost_ret (v := .tuple #[.agg #[.int .i64 y0, .int .i64 y1, .string y2, .slice y3 y4 y5, .slice y6 y7 y8], .int .i64 0]) (by simp [results, Tryd.results14, go_sem, q0, q1, q2, q3, q4]) rfl ?_
    rw [HP.out.2 m rfl]; exact F2
/-- the reference's Point -/
theorem rPoint_any (n : Nd) (path : ByteArray) (cs : List Value) (w : World) (B : Nat) (hn : NdIs w B n cs) (hB : B ≤ w.heap.size) (hs : sizeOk n) (hc : n.count ≤ 1000000) (hp : path.size ≤ 9223372036854775807) :
    Calls Tryd.prog 14 #[.agg cs.toArray, .string path] w (RPP (pointN n path) (· < B) w) := by
  have hn1 : NdIn w (· < B) n cs := hn.in_
  obtain ⟨x0, x1, x2, x3, x4, x5, x6, x7, x8, rfl⟩ := hn1.form
  have HCR : Hid (∀ w', Below w.heap.size w w' → Calls Tryd.prog 17 #[.agg #[.int .i64 x0, .int .i64 x1, .string x2, .slice x3 x4 x5, .slice x6 x7 x8]] w' (BoolBel (rightD n 0) w')) := fun w' h' =>
    rRight_any n [.int .i64 x0, .int .i64 x1, .string x2, .slice x3 x4 x5, .slice x6 x7 x8] w' B (hn.below (h'.mono hB)) (Nat.le_trans hB h'.size)
  cases hr : rightD n 0 with
  | false =>
    rw [hr] at HCR
    exact rPoint_right n path x0 x1 x2 x3 x4 x5 x6 x7 x8 w B hB HCR (show _ = _ by unfold pointN; rw [if_pos hr])
  | true =>
    rw [hr] at HCR
    cases hf : formP path with
    | false =>
      exact rPoint_form n path x0 x1 x2 x3 x4 x5 x6 x7 x8 w B hB HCR (fun w' => (rparts_any path w' hp).mono fun e w2 h => by
        rcases h with ⟨h, _⟩ | ⟨_, h⟩
        · rw [hf] at h; cases h
        · exact h) (pointN_form hr hf)
    | true =>
      have hpl : path.size ≤ 1000 := by
        have hf := hf
        unfold formP at hf
        simp only [Bool.and_eq_true, decide_eq_true_eq] at hf
        exact hf.1.2
      exact rPoint_walk n path x0 x1 x2 x3 x4 x5 x6 x7 x8 w B hB HCR (fun w' => (rparts_any path w' hp).mono fun e w2 h => by
        rcases h with ⟨_, h⟩ | ⟨h, _⟩
        · exact h
        · rw [hf] at h; cases h) hn1 ⟨hs, hc⟩ hpl (getN (partsP path) n) rfl ⟨fun h => pointN_none hr hf h, fun m h => pointN_some hr hf h⟩
end Go.Proofs.YtnbfagignbbmfaaDoor
/-! The walk of PointGets. -/
namespace Go.Proofs.YtnbfagignbbmfaaDoor
open Go.RowKit Go.PlainAid
set_option linter.unusedVariables false
set_option linter.unusedSimpArgs false
set_option maxRecDepth 100000
mutual
theorem sameN_self : ∀ n : Nd, sameN n n = true
  | .mk k m t ks ns => by unfold sameN; simp [sameL_self ns, sameK_self ks]
theorem sameL_self : ∀ ns : List Nd, sameL ns ns = true
  | [] => by unfold sameL; rfl
  | n :: ns => by unfold sameL; simp [sameN_self n, sameL_self ns]
theorem sameK_self : ∀ ks : List ByteArray, sameK ks ks = true
  | [] => rfl
  | a :: l => by unfold sameK; simp [sameK_self l]
end
mutual
theorem cN_weight : ∀ (n : Nd) (deep : Int), 0 ≤ deep → deep ≤ 41 → weightN n deep < 3000 → (n.count : Int) ≤ weightN n deep
  | .mk k m t ks ns, deep, h0, h1, h => by
    unfold weightN at h ⊢
    split at h
    · omega
    rename_i hn
    rw [if_neg hn]
    split at h
    · omega
    rename_i hk
    rw [if_neg hk]
    have := cL_weight ns (deep + 1) 1 (by omega) (by omega) (by omega) h
    simp only [Nd.count]
    omega
theorem cL_weight : ∀ (ns : List Nd) (deep acc : Int), 0 ≤ deep → deep ≤ 41 → 0 ≤ acc → weightL ns deep acc < 3000 → (Nd.count.counts ns : Int) ≤ weightL ns deep acc - acc
  | [], deep, acc, _, _, _, h => by unfold weightL; simp [Nd.count.counts]
  | n :: ns, deep, acc, h0, h1, h2, h => by
    unfold weightL at h ⊢
    by_cases ha : acc < 3000
    · rw [if_pos ha] at h ⊢
      have hw := weightN_le n deep h0 h1
      have hge := weightL_ge ns deep (acc + weightN n deep) h0 h1 (by omega)
      have i1 := cN_weight n deep h0 h1 (by omega)
      have i2 := cL_weight ns deep (acc + weightN n deep) h0 h1 (by omega) h
      simp only [Nd.count.counts]
      omega
    · rw [if_neg ha] at h; omega
end
theorem count_small {n : Nd} (h : greatN n = false) : n.count ≤ 1000000 := by
  unfold greatN at h
  have h := of_decide_eq_false h
  have h1 := cN_weight n 0 (by omega) (by omega) (by omega)
  omega
set_option maxHeartbeats 3000000 in
theorem pointGets_walk (a : Nd) (path : ByteArray) (cs : List Value) (W : World) (ha : NdIs W W.heap.size a cs) (hpath : path.size ≤ maxLen) (hM : MaxOK W) :
    Calls Tryd.prog 3 #[.agg cs.toArray, .string path] W fun e W' => e = .returned (.bool true) ∧ Below W.heap.size W W' := by
  have hla := ha.len
  match cs, hla with
  | [v0, v1, v2, v3, v4], _ =>
    obtain ⟨x0, x1, x2, x3, x4, x5, x6, x7, x8, rfl, rfl, rfl, rfl, rfl⟩ := ha.form
    show Calls Tryd.prog 3 #[.agg #[.int .i64 x0, .int .i64 x1, .string x2, .slice x3 x4 x5, .slice x6 x7 x8], .string path] W _
    have HA : Hid (∀ w', Below W.heap.size W w' → NdIs w' W.heap.size a [.int .i64 x0, .int .i64 x1, .string x2, .slice x3 x4 x5, .slice x6 x7 x8]) := fun w' h => ha.below h
    have HGA : Hid (∀ w', Below W.heap.size W w' → Calls Tryd.prog 11 #[.agg #[.int .i64 x0, .int .i64 x1, .string x2, .slice x3 x4 x5, .slice x6 x7 x8]] w' (BoolBel (greatN a) w')) := fun w' h => great_any a _ w' W.heap.size (HA.out w' h) h.size
    have HW : Hid (∀ w', Below W.heap.size W w' → Calls Tryd.prog 12 #[] w' (BoolBel true w')) := fun w' h => awake9_any w' (hM.below h)
    have HNG : Hid (greatN a = false → sizeOk a ∧ a.count ≤ 1000000) := fun h => ⟨(not_great ha h).1, count_small h⟩
    have hA0 : Below W.heap.size W (W.alloc (.cells #[.int .i64 x0, .int .i64 x1, .string x2, .slice x3 x4 x5, .slice x6 x7 x8] 25)) := (Below.refl _ _).alloc (Nat.le_refl _) _
    have hX0 : Blk (W.alloc (.cells #[.int .i64 x0, .int .i64 x1, .string x2, .slice x3 x4 x5, .slice x6 x7 x8] 25)) W.heap.size 25 #[.int .i64 x0, .int .i64 x1, .string x2, .slice x3 x4 x5, .slice x6 x7 x8] := Blk.new W _ _
    have HMX := Lib.hid hM
    unfold maxLen at hpath
    clear ha hM
    have stop : ∀ g : Bool, greatN a = g → (g = true ∨ 1100 < path.size) → Calls Tryd.prog 3 #[.agg #[.int .i64 x0, .int .i64 x1, .string x2, .slice x3 x4 x5, .slice x6 x7 x8], .string path] W fun e W' => e = .returned (.bool true) ∧ Below W.heap.size W W' := by
      intro g hg h
      rw [hg] at HGA
      clear HNG hg
      cases g with
      | true =>
        go_enter Tryd.func3, Tryd.ntmps3
        go_wp2_with fail
        refine (HGA.out _ hA0).mono ?_; rintro e w1 ⟨rfl, hw1⟩
        have hB1 := hA0.trans (hw1.mono hA0.size)
        go_wp2_with fail
        refine (HW.out _ hB1).mono ?_; rintro e w2 ⟨rfl, hw2⟩
        go_wp2_with fail
        go_ret
        exact ⟨rfl, hB1.trans (hw2.mono hB1.size)⟩
      | false =>
        have h : 1100 < path.size := by simpa using h
        have dk : decide ((1100 : Int) < (path.size : Int)) = true := by simp; omega
        go_enter Tryd.func3, Tryd.ntmps3
        go_wp2_with fail
        refine (HGA.out _ hA0).mono ?_; rintro e w1 ⟨rfl, hw1⟩
        have hB1 := hA0.trans (hw1.mono hA0.size)
        go_wp2_with fail
        refine (HW.out _ hB1).mono ?_; rintro e w2 ⟨rfl, hw2⟩
        go_wp2_with fail
        go_ret
        exact ⟨rfl, hB1.trans (hw2.mono hB1.size)⟩
    cases hga : greatN a with
    | true => exact stop true hga (.inl rfl)
    | false =>
      by_cases hk : 1100 < path.size
      · exact stop false hga (.inr hk)
      have hza := HNG.out hga
      rw [hga] at HGA
      have dk : decide ((1100 : Int) < (path.size : Int)) = false := by simp; omega
      have HF : Hid (∀ w', Below W.heap.size W w' → Calls Tryd.prog 13 #[.agg #[.int .i64 x0, .int .i64 x1, .string x2, .slice x3 x4 x5, .slice x6 x7 x8], .string path] w' (PointP (pointN a path) w')) := fun w' h => pGet_any a path _ w' W.heap.size (HA.out w' h) h.size hza.1 hza.2 (by omega) (HMX.out.below h)
      have HRF : Hid (∀ w', Below W.heap.size W w' → Calls Tryd.prog 14 #[.agg #[.int .i64 x0, .int .i64 x1, .string x2, .slice x3 x4 x5, .slice x6 x7 x8], .string path] w' (RPP (pointN a path) (· < W.heap.size) w')) := fun w' h => rPoint_any a path _ w' W.heap.size (HA.out w' h) h.size hza.1 hza.2 (by omega)
      have HS : Hid (∀ (n : Nd) (cs ds : List Value) (w' : World), NdIs w' w'.heap.size n cs → NdIs w' w'.heap.size n ds → Calls Tryd.prog 15 #[.agg cs.toArray, .agg ds.toArray] w' (BoolBel true w')) := fun n cs ds w' h1 h2 => by
        have := rSame_any n.count n n cs ds w' w'.heap.size (Nat.le_refl _) h1 h2 (Nat.le_refl _)
        rw [sameN_self] at this; exact this
      clear stop hza HNG hga hk HA HMX
      generalize pointN a path = r at *
      obtain ⟨r1, r2⟩ := r
      go_enter Tryd.func3, Tryd.ntmps3
      go_wp2_with fail
      refine (HGA.out _ hA0).mono ?_; rintro e w1 ⟨rfl, hw1⟩
      have hB1 := hA0.trans (hw1.mono hA0.size)
      have hX1 := hX0.below hw1 (by simp)
      obtain ⟨c0, c1, c2, c3, c4⟩ := hX1.cells5
      go_wp2_with fail
      refine (HF.out _ hB1).mono ?_; rintro e w2 ⟨g0, g1, g2, g3, g4, g5, g6, g7, g8, rfl, hn2, hw2⟩
      have hB2 := hB1.trans (hw2.mono hB1.size)
      have hX2 := hX1.below hw2 hX1.lt
      have N2 : Hid (NdIs (w2.alloc (.cells #[.int .i64 g0, .int .i64 g1, .string g2, .slice g3 g4 g5, .slice g6 g7 g8] 25)) w2.heap.size (r1.getD (nd0 0)) [.int .i64 g0, .int .i64 g1, .string g2, .slice g3 g4 g5, .slice g6 g7 g8]) := (NdIn.is (fun b hb => hb.2) _ _ hn2).below ((Below.refl _ _).alloc (Nat.le_refl _) _)
      have hP2 : Blk (w2.alloc (.cells #[.int .i64 g0, .int .i64 g1, .string g2, .slice g3 g4 g5, .slice g6 g7 g8] 25)) w2.heap.size 25 #[.int .i64 g0, .int .i64 g1, .string g2, .slice g3 g4 g5, .slice g6 g7 g8] := Blk.new w2 _ _
      have hB2a := hB2.alloc hB2.size (.cells #[.int .i64 g0, .int .i64 g1, .string g2, .slice g3 g4 g5, .slice g6 g7 g8] 25)
      clear c0 c1 c2 c3 c4 hn2
      have hzz : W.heap.size < w2.heap.size := hX2.lt
      obtain ⟨c0, c1, c2, c3, c4⟩ := (hX2.alloc (.cells #[.int .i64 g0, .int .i64 g1, .string g2, .slice g3 g4 g5, .slice g6 g7 g8] 25)).cells5
      go_wp2_with fail
      refine (HRF.out _ hB2a).mono ?_; rintro e w3 ⟨h0, h1, h2, h3, h4, h5, h6, h7, h8, rfl, hn3, hw3⟩
      have hB3 := hB2a.trans (hw3.mono hB2a.size)
      have hP3 := hP2.below hw3 hP2.lt
      have hz3 : W.heap.size ≤ w3.heap.size := hB3.size
      have hz2 : w2.heap.size ≤ w3.heap.size := by have := hw3.size; simp at this; omega
      have hn3' : NdIs w3 w3.heap.size (r1.getD (nd0 0)) [.int .i64 h0, .int .i64 h1, .string h2, .slice h3 h4 h5, .slice h6 h7 h8] := NdIn.is (fun b hb => hb.elim (fun h => Nat.lt_of_lt_of_le h hz3) (fun h => h.2)) _ _ hn3
      have M3 : Hid (NdIs (w3.alloc (.cells #[.int .i64 h0, .int .i64 h1, .string h2, .slice h3 h4 h5, .slice h6 h7 h8] 25)) (w3.alloc (.cells #[.int .i64 h0, .int .i64 h1, .string h2, .slice h3 h4 h5, .slice h6 h7 h8] 25)).heap.size (r1.getD (nd0 0)) [.int .i64 h0, .int .i64 h1, .string h2, .slice h3 h4 h5, .slice h6 h7 h8]) := NdIs.more (by simp) _ _ (hn3'.below ((Below.refl w3.heap.size w3).alloc (Nat.le_refl _) _))
      have L3 : Hid (NdIs (w3.alloc (.cells #[.int .i64 h0, .int .i64 h1, .string h2, .slice h3 h4 h5, .slice h6 h7 h8] 25)) (w3.alloc (.cells #[.int .i64 h0, .int .i64 h1, .string h2, .slice h3 h4 h5, .slice h6 h7 h8] 25)).heap.size (r1.getD (nd0 0)) [.int .i64 g0, .int .i64 g1, .string g2, .slice g3 g4 g5, .slice g6 g7 g8]) := NdIs.more (by simp; omega) _ _ ((N2.out.below (hw3.mono (by simp))).below (((Below.refl w3.heap.size w3).alloc (Nat.le_refl _) _).mono hz2))
      have hP4 := hP3.alloc (.cells #[.int .i64 h0, .int .i64 h1, .string h2, .slice h3 h4 h5, .slice h6 h7 h8] 25)
      have hB3a := hB3.alloc hB3.size (.cells #[.int .i64 h0, .int .i64 h1, .string h2, .slice h3 h4 h5, .slice h6 h7 h8] 25)
      clear c0 c1 c2 c3 c4 hn3 hn3'
      obtain ⟨p0, p1, p2, p3, p4⟩ := hP4.cells5
      have hz4 : w2.heap.size < w3.heap.size := hP3.lt
      go_wp2_with fail
      refine (HS.out _ _ _ _ L3.out M3.out : Calls _ _ _ _ _).mono ?_; rintro e w4 ⟨rfl, hw4⟩
      have hB4 := hB3a.trans (hw4.mono hB3a.size)
      go_wp2_with (go_at_call 16; refine (num9_l3 _ _).mono ?_; rintro e w9 ⟨rfl, hw⟩; obtain rfl : _ = w9 := hw)
      refine (HW.out _ hB4).mono ?_; rintro e w5 ⟨rfl, hw5⟩
      go_wp2_with fail
      go_ret
      exact ⟨rfl, hB4.trans (hw5.mono hB4.size)⟩
end Go.Proofs.YtnbfagignbbmfaaDoor
/-! The walks of package text: Atom of the reference, plain, String, both. -/
namespace Go.Proofs.YtnbfagignbbmfaaDoor
open Go.RowKit Go.PlainAid
set_option linter.unusedVariables false
set_option linter.unusedSimpArgs false
theorem ret_str' {a b : ByteArray} (h : a = b) : Ending.returned (.string a) = .returned (.string b) := by rw [h]
theorem plains_stop (s : ByteArray) (k n : Nat) (h : k < n) (hk : (decide (32 ≤ bt s k) && decide (bt s k ≤ 126)) = false) : plainsB s n = false := by
  induction n with
  | zero => omega
  | succ n ih =>
    simp only [plainsB]
    by_cases e : k = n
    · subst e; rw [hk, Bool.and_false]
    · rw [ih (by omega), Bool.false_and]
end Go.Proofs.YtnbfagignbbmfaaDoor
/-! Plain laws of digits; the walks of awake and TextNumbers. -/
namespace Go.Proofs.YtnbfagignbbmfaaDoor
open Go.RowKit Go.PlainAid
set_option linter.unusedVariables false
set_option linter.unusedSimpArgs false
theorem tl_len (s : ByteArray) : s.toList.length = s.size := by rw [ByteArray.toList_eq]; simp
theorem bt_at (s : ByteArray) (k : Nat) (h : k < s.toList.length) : bt s k = (s.toList[k].toNat : Int) := bt_eq s k _ (List.getElem?_eq_getElem h)
theorem bt_left (a b : ByteArray) (k : Nat) (h : k < a.size) : bt (a ++ b) k = bt a k := by
  have h' : k < a.toList.length := by rw [tl_len]; exact h
  rw [bt_at a k h']
  refine bt_eq _ _ _ ?_
  rw [app_toList, List.getElem?_append_left h', List.getElem?_eq_getElem h']
theorem bt_right (a b : ByteArray) (k : Nat) (h : k < b.size) : bt (a ++ b) (a.size + k) = bt b k := by
  have h' : k < b.toList.length := by rw [tl_len]; exact h
  rw [bt_at b k h']
  refine bt_eq _ _ _ ?_
  rw [app_toList, List.getElem?_append_right (by rw [tl_len]; omega), tl_len, Nat.add_sub_cancel_left, List.getElem?_eq_getElem h']
theorem bt_strOf (l : List Int) (k : Nat) (x : Int) (h : l[k]? = some x) (h0 : 0 ≤ x) (h1 : x < 256) : bt (strOfNums l) k = x := by
  have e := bt_eq (strOfNums l) k (UInt8.ofNat x.toNat) (by rw [nums_toList, List.getElem?_map, h]; rfl)
  rw [e]
  simp only [UInt8.toNat_ofNat']
  omega
theorem numZ_left (a b : ByteArray) : ∀ i, i ≤ a.size → numZ (a ++ b) i = numZ a i ∧ digitsB (a ++ b) i = digitsB a i
  | 0, _ => ⟨rfl, rfl⟩
  | i + 1, h => by
    obtain ⟨h1, h2⟩ := numZ_left a b i (by omega)
    simp only [numZ, digitsB]
    rw [h1, h2, bt_left a b i (by omega)]
    exact ⟨rfl, rfl⟩
theorem size_one (x : Int) : (strOfNums [x]).size = 1 := by rw [strOfNums_size]; rfl
theorem digS_facts (k : Nat) : ∀ (n : Int), 0 ≤ n → n ≤ k → 1 ≤ (digS n).size ∧ numZ (digS n) (digS n).size = n ∧ digitsB (digS n) (digS n).size = true ∧ (1 ≤ n → bt (digS n) 0 ≠ 48) ∧ (10 ≤ n → 2 ≤ (digS n).size) := by
  induction k with
  | zero =>
    intro n h0 h1
    obtain rfl : n = 0 := by omega
    exact ⟨by decide +kernel, by decide +kernel, by decide +kernel, by omega, by omega⟩
  | succ k ih =>
    intro n h0 h1
    by_cases h10 : n < 10
    · rw [digS_one n h0 h10, size_one]
      have e : bt (strOfNums [48 + n]) 0 = 48 + n := bt_strOf _ 0 _ rfl (by omega) (by omega)
      simp only [numZ, digitsB, e]
      exact ⟨by omega, by omega, by simp; omega, by omega, by omega⟩
    · obtain ⟨a1, a2, a3, a4, _⟩ := ih (n / 10) (by omega) (by omega)
      rw [digS_more n (by omega), ByteArray.size_append, size_one]
      have e := bt_right (digS (n / 10)) (strOfNums [48 + n % 10]) 0 (by rw [size_one]; omega)
      rw [bt_strOf [48 + n % 10] 0 (48 + n % 10) rfl (by omega) (by omega), Nat.add_zero] at e
      obtain ⟨b1, b2⟩ := numZ_left (digS (n / 10)) (strOfNums [48 + n % 10]) _ (Nat.le_refl _)
      simp only [numZ, digitsB, e, b1, b2, a2, a3]
      refine ⟨by omega, by omega, by simp; omega, fun _ => ?_, fun _ => by omega⟩
      rw [bt_left _ _ 0 (by omega)]
      exact a4 (by omega)
theorem digS_short (k : Nat) : ∀ (n : Int), 0 ≤ n → n < (10 : Int) ^ (k + 1) → (digS n).size ≤ k + 1 := by
  induction k with
  | zero =>
    intro n h0 h1
    rw [digS_one n h0 (by simpa using h1), size_one]
    omega
  | succ k ih =>
    intro n h0 h1
    by_cases h10 : n < 10
    · rw [digS_one n h0 h10, size_one]; omega
    · have := ih (n / 10) (by omega) (by rw [Int.pow_succ] at h1; omega)
      rw [digS_more n (by omega), ByteArray.size_append, size_one]
      omega
theorem numB_digS (n : Int) (h0 : 0 ≤ n) (h1 : n ≤ 4294967295) : numB (digS n) = (n, true) := by
  obtain ⟨a1, a2, a3, a4, a5⟩ := digS_facts n.toNat n h0 (by omega)
  have a6 := digS_short 9 n h0 (by omega)
  have a7 : n < 10 → (digS n).size = 1 := fun h => by rw [digS_one n h0 h, size_one]
  unfold numB
  rw [if_neg (by
    rintro (h | h | ⟨h, h'⟩)
    · omega
    · omega
    · by_cases e : 1 ≤ n
      · exact a4 e h
      · have := a7 (by omega); omega), if_neg (by rw [a3]; decide), if_neg (by rw [a2]; omega), a2]
theorem numB_big (n : Int) (h1 : 4294967296 ≤ n) : numB (digS n) = (0, false) := by
  obtain ⟨a1, a2, a3, a4, a5⟩ := digS_facts n.toNat n (by omega) (by omega)
  unfold numB
  by_cases h : (digS n).size = 0 ∨ 10 < (digS n).size ∨ (bt (digS n) 0 = 48 ∧ 1 < (digS n).size)
  · rw [if_pos h]
  · rw [if_neg h, if_neg (by rw [a3]; decide), if_pos (by rw [a2]; omega)]
theorem numB_nought (s : ByteArray) (h : 1 ≤ s.size) : numB (⟨#[48]⟩ ++ s) = (0, false) := by
  unfold numB
  rw [if_pos]
  refine .inr (.inr ⟨?_, ?_⟩)
  · rw [bt_left _ _ 0 (by decide)]; decide +kernel
  · rw [ByteArray.size_append]; have : (⟨#[48]⟩ : ByteArray).size = 1 := rfl; omega
end Go.Proofs.YtnbfagignbbmfaaDoor
/-! A path made of escaped parts: its parts are those; what a way by hand leads to. -/
namespace Go.Proofs.YtnbfagignbbmfaaDoor
open Go.RowKit Go.PlainAid
set_option linter.unusedVariables false
set_option linter.unusedSimpArgs false
set_option maxRecDepth 100000
def escC (c : UInt8) : List UInt8 := if c = 126 then [126, 48] else if c = 47 then [126, 49] else [c]
def escB (l : List UInt8) : List UInt8 := l.flatMap escC
theorem escB_cons (c : UInt8) (l : List UInt8) : escB (c :: l) = escC c ++ escB l := rfl
theorem escB_ne (l : List UInt8) : ∀ c ∈ escB l, c ≠ 47 := by
  intro c hc
  unfold escB at hc
  rw [List.mem_flatMap] at hc
  obtain ⟨d, _, hd⟩ := hc
  unfold escC at hd
  split at hd
  · simp at hd; rcases hd with rfl | rfl <;> decide
  · split at hd
    · simp at hd; rcases hd with rfl | rfl <;> decide
    · rename_i h1 h2
      simp at hd; subst hd; exact h2
theorem tilde_escB (l : List UInt8) : tildeOk (escB l) = true := by
  induction l with
  | nil => rfl
  | cons c l ih =>
    rw [escB_cons]
    unfold escC
    split
    · simp [tildeOk, ih]
    · split
      · simp [tildeOk, ih]
      · rename_i h1 h2
        simp [tildeOk, ih, h1]
theorem unesc_escB (l : List UInt8) : unesc (escB l) = l := by
  rw [unesc_eq _ _ (Nat.le_refl _) (tilde_escB l)]
  induction l with
  | nil => rfl
  | cons c l ih =>
    rw [escB_cons]
    unfold escC
    split
    · rename_i h; subst h; simp [unesc1, ih]
    · split
      · rename_i h; subst h; simp [unesc1, ih]
      · rename_i h1 h2
        rw [List.singleton_append, unesc1_ne h1, ih]
theorem tilde_app : ∀ (e r : List UInt8), tildeOk e = true → tildeOk r = true → tildeOk (e ++ r) = true
  | [], r, _, h => h
  | c :: e, r, h, hr => by
    rw [tildeOk, Bool.and_eq_true] at h
    rw [List.cons_append, tildeOk, Bool.and_eq_true]
    refine ⟨?_, tilde_app e r h.2 hr⟩
    by_cases h6 : c = 126
    · rw [if_pos h6] at h ⊢
      cases e with
      | nil => simp at h
      | cons d e => simpa using h.1
    · rw [if_neg h6]
/-- parts, each behind its slash -/
def pathL : List (List UInt8) → List UInt8
  | [] => []
  | e :: es => 47 :: e ++ pathL es
theorem pathL_snoc (es : List (List UInt8)) (e : List UInt8) : pathL (es ++ [e]) = pathL es ++ 47 :: e := by
  induction es with
  | nil => simp [pathL]
  | cons a es ih => simp [pathL, ih]
theorem pathL_head (es : List (List UInt8)) : pathL es = [] ∨ ∃ r, pathL es = 47 :: r := by
  cases es with
  | nil => exact .inl rfl
  | cons e es => exact .inr ⟨_, rfl⟩
theorem take_part (e r : List UInt8) (he : ∀ c ∈ e, c ≠ 47) (hr : r = [] ∨ ∃ t, r = 47 :: t) : (e ++ r).takeWhile (· != 47) = e ∧ (e ++ r).dropWhile (· != 47) = r := by
  induction e with
  | nil =>
    rcases hr with rfl | ⟨t, rfl⟩
    · exact ⟨rfl, rfl⟩
    · exact ⟨by rw [List.nil_append, List.takeWhile_cons_of_neg (by decide)], by rw [List.nil_append, List.dropWhile_cons_of_neg (by decide)]⟩
  | cons c e ih =>
    have hc : (c != 47) = true := by simpa using he c (by simp)
    obtain ⟨h1, h2⟩ := ih (fun d hd => he d (by simp [hd]))
    exact ⟨by rw [List.cons_append, List.takeWhile_cons_of_pos (p := (· != 47)) hc, h1], by rw [List.cons_append, List.dropWhile_cons_of_pos (p := (· != 47)) hc, h2]⟩
theorem partsF_path : ∀ (k : Nat) (es : List (List UInt8)), (pathL es).length ≤ k → (∀ e ∈ es, ∀ c ∈ e, c ≠ 47) → partsF k (pathL es) = es.map fun e => ⟨(unesc e).toArray⟩
  | k, [], _, _ => by cases k <;> rfl
  | 0, e :: es, h, _ => by simp [pathL] at h
  | k + 1, e :: es, h, hn => by
    obtain ⟨h1, h2⟩ := take_part e (pathL es) (hn e (by simp)) (pathL_head es)
    simp only [pathL, List.cons_append, List.length_cons] at h
    show partsF (k + 1) (47 :: (e ++ pathL es)) = _
    rw [partsF, h1, h2, partsF_path k es (by rw [List.length_append] at h; omega) (fun a ha => hn a (by simp [ha]))]
    rfl
theorem tilde_path : ∀ es : List (List UInt8), (∀ e ∈ es, tildeOk e = true) → tildeOk (pathL es) = true
  | [], _ => rfl
  | e :: es, h => by
    show tildeOk (47 :: (e ++ pathL es)) = true
    rw [tildeOk, if_neg (by decide), Bool.true_and]
    exact tilde_app e _ (h e (by simp)) (tilde_path es fun a ha => h a (by simp [ha]))
theorem path_form (path : ByteArray) (es : List (List UInt8)) (hp : path.toList = pathL es) (hs : path.size ≤ 1000) (ht : ∀ e ∈ es, tildeOk e = true) : formP path = true := by
  unfold formP
  rw [hp, tilde_path es ht]
  rcases pathL_head es with h | ⟨r, h⟩ <;> rw [h] <;> simp [hs]
theorem path_parts (path : ByteArray) (es : List (List UInt8)) (hp : path.toList = pathL es) (hn : ∀ e ∈ es, ∀ c ∈ e, c ≠ 47) : partsP path = es.map fun e => ⟨(unesc e).toArray⟩ := by
  unfold partsP
  rw [hp]
  exact partsF_path _ es (by rw [← hp, toList_len]; exact Nat.le_refl _) hn
/-- a way, kid by kid -/
def WayTo : Nd → List ByteArray → Nd → Prop
  | n, [], x => x = n
  | n, p :: l, x => ∃ m, (∀ l, getN (p :: l) n = getN l m) ∧ WayTo m l x
theorem WayTo.snoc : ∀ (l : List ByteArray) {n x y : Nd} {p : ByteArray}, WayTo n l x → (∀ l, getN (p :: l) x = getN l y) → WayTo n (l ++ [p]) y
  | [], n, x, y, p, h, hs => by
    have h : x = n := h
    subst h
    exact ⟨y, hs, rfl⟩
  | q :: l, n, x, y, p, h, hs => by
    obtain ⟨m, h1, h2⟩ := h
    exact ⟨m, h1, WayTo.snoc l h2 hs⟩
theorem WayTo.get : ∀ (l : List ByteArray) {n x : Nd}, WayTo n l x → getN l n = some x
  | [], n, x, h => by
    have h : x = n := h
    subst h; rfl
  | q :: l, n, x, h => by
    obtain ⟨m, h1, h2⟩ := h
    rw [h1 l]; exact WayTo.get l h2
/-- a right node's kids are right -/
theorem right_kid {k num : Int} {t : ByteArray} {ks : List ByteArray} {ns : List Nd} {deep : Int} {i : Nat} {m : Nd} (h : rightD (.mk k num t ks ns) deep = true) (hi : ns[i]? = some m) : rightD m (deep + 1) = true ∧ (k = 6 ∨ (k = 7 ∧ ks.length = ns.length ∧ ks.Nodup)) := by
  rw [rightD_eq, Bool.and_eq_true] at h
  obtain ⟨hb, hr⟩ := h
  have hlen : 0 < ns.length := by have := (List.getElem?_eq_some_iff.1 hi).1; omega
  have hk : k = 6 ∨ k = 7 := by
    unfold bareF at hb
    simp only [Bool.and_eq_true, Bool.or_eq_true, beq_iff_eq] at hb
    rcases hb.2 with h | h
    · exact h
    · omega
  have hall : ∀ l : List Nd, rightLD l (deep + 1) = true → ∀ x ∈ l, rightD x (deep + 1) = true := fun l => by
    induction l with
    | nil => intro _ x hx; simp at hx
    | cons a l ih =>
      intro hl x hx
      rw [rightLD_cons, Bool.and_eq_true] at hl
      rcases List.mem_cons.1 hx with rfl | hx
      · exact hl.1
      · exact ih hl.2 x hx
  simp only [Bool.or_eq_true, Bool.and_eq_true, beq_iff_eq, decide_eq_true_eq] at hr
  rcases hk with rfl | rfl
  · simp at hr
    exact ⟨hall ns hr.2 m (List.mem_of_getElem? hi), .inl rfl⟩
  · simp at hr
    refine ⟨hall ns hr.2 m (List.mem_of_getElem? hi), .inr ⟨rfl, hr.1.2.1, ?_⟩⟩
    have hkb := hr.1.2.2
    unfold keysB at hkb
    exact (of_decide_eq_true hkb).1
theorem step_obj {num : Int} {t : ByteArray} {ks : List ByteArray} {ns : List Nd} {i : Nat} {m : Nd} {p : ByteArray} (hn : ks.Nodup) (hp : ks[i]? = some p) (hi : ns[i]? = some m) : ∀ l, getN (p :: l) (.mk 7 num t ks ns) = getN l m := fun l => by
  refine getN_find rfl ?_
  have e : idxK ks p = some i := idxK_some hp (by simp) (fun j s hj hs => by
    rw [beq_eq_false_iff_ne]
    intro e
    have hjl := (List.getElem?_eq_some_iff.1 hs).1
    have hil := (List.getElem?_eq_some_iff.1 hp).1
    have e1 : ks[j] = ks[i] := by
      rw [(List.getElem?_eq_some_iff.1 hs).2, (List.getElem?_eq_some_iff.1 hp).2]
      apply ByteArray.ext
      apply Array.ext'
      rw [ByteArray.toList_eq, ByteArray.toList_eq] at e
      exact e.symm
    have := (List.getElem_inj hn).1 e1
    omega)
  simp [findN, e, hi]
theorem place_dig (i n : Nat) (hi : i < n) (hn : n ≤ 1000000) : placeF (digS (i : Int)) n = (i : Int) := by
  rw [place_num _ _ hn, numB_digS (i : Int) (by omega) (by omega)]
  simp; omega
theorem step_arr {num : Int} {t : ByteArray} {ks : List ByteArray} {ns : List Nd} {i : Nat} {m : Nd} (hn : ns.length ≤ 1000000) (hi : ns[i]? = some m) : ∀ l, getN (digS (i : Int) :: l) (.mk 6 num t ks ns) = getN l m := fun l => by
  have hlt := (List.getElem?_eq_some_iff.1 hi).1
  refine getN_at (i := i) rfl ?_ (place_dig i ns.length hlt hn) hi
  intro e
  have h := (digS_facts i (i : Int) (by omega) (by omega)).2.2.1
  have h1 : (digS (i : Int)).size = 1 := by rw [← toList_len, e]; rfl
  have h2 : bt (digS (i : Int)) 0 = 42 := bt_eq _ 0 42 (by rw [e]; rfl)
  rw [h1] at h
  simp [digitsB, h2] at h
theorem dig_plain (i : Nat) : (∀ c ∈ (digS (i : Int)).toList, c ≠ 47) ∧ escB (digS (i : Int)).toList = (digS (i : Int)).toList := by
  have h := (digS_facts i (i : Int) (by omega) (by omega)).2.2.1
  have hd : ∀ (s : ByteArray) (n : Nat), digitsB s n = true → ∀ j, j < n → 48 ≤ bt s j ∧ bt s j ≤ 57 := fun s n => by
    induction n with
    | zero => intro _ j hj; omega
    | succ n ih =>
      intro h j hj
      rw [digitsB, Bool.and_eq_true, Bool.and_eq_true] at h
      by_cases e : j = n
      · subst e; exact ⟨by simpa using h.2.1, by simpa using h.2.2⟩
      · exact ih h.1 j (by omega)
  have hc : ∀ c ∈ (digS (i : Int)).toList, c ≠ 47 ∧ c ≠ 126 := fun c hc => by
    obtain ⟨j, hj⟩ := List.getElem?_of_mem hc
    have hjl := (List.getElem?_eq_some_iff.1 hj).1
    rw [toList_len] at hjl
    have hb := hd _ _ h j hjl
    rw [bt_eq _ j c hj] at hb
    exact ⟨fun e => by rw [e] at hb; have : ((47 : UInt8).toNat : Int) = 47 := rfl; omega, fun e => by rw [e] at hb; have : ((126 : UInt8).toNat : Int) = 126 := rfl; omega⟩
  refine ⟨fun c h => (hc c h).1, ?_⟩
  have he : ∀ l : List UInt8, (∀ c ∈ l, c ≠ 47 ∧ c ≠ 126) → escB l = l := fun l => by
    induction l with
    | nil => intro _; rfl
    | cons c l ih =>
      intro h
      obtain ⟨h1, h2⟩ := h c (by simp)
      rw [escB_cons, ih (fun d hd => h d (by simp [hd]))]
      unfold escC
      rw [if_neg h2, if_neg h1]; rfl
  exact he _ hc
end Go.Proofs.YtnbfagignbbmfaaDoor
/-! The walk of the laws' escape. -/
namespace Go.Proofs.YtnbfagignbbmfaaDoor
open Go.RowKit Go.PlainAid
set_option linter.unusedVariables false
set_option linter.unusedSimpArgs false
set_option maxRecDepth 100000
def escS (s : ByteArray) : ByteArray := ⟨(escB s.toList).toArray⟩
theorem escB_take (s : ByteArray) (i : Nat) (hi : i < s.size) (c : UInt8) (hc : bt s i = c.toNat) : escB (s.toList.take (i + 1)) = escB (s.toList.take i) ++ escC c := by
  have hd := drop_at s i hi c hc
  have hl : i < s.toList.length := by rw [toList_len]; exact hi
  have hg : s.toList[i] = c := by
    have := List.drop_eq_getElem_cons hl
    rw [this] at hd
    injection hd
  rw [List.take_succ_eq_append_getElem hl, hg]
  unfold escB
  rw [List.flatMap_append]
  simp
theorem esc_len (l : List UInt8) : (escB l).length ≤ 2 * l.length := by
  induction l with
  | nil => simp [escB]
  | cons c l ih =>
    rw [escB_cons, List.length_append]
    have : (escC c).length ≤ 2 := by unfold escC; split <;> (try split) <;> simp
    simp only [List.length_cons]; omega
def EInv (s : ByteArray) (w : World) (i : Nat) (v : Value) (wr : World) : Prop := OwnU wr w.heap.size v (escB (s.toList.take i)) ∧ Below w.heap.size w wr
set_option maxHeartbeats 2000000 in
theorem escape_any (s : ByteArray) (w : World) (hs : s.size ≤ 1000000000) : Calls Tryd.prog 18 #[.string s] w fun e w' => e = .returned (.string (escS s)) ∧ Below w.heap.size w w' := by
  have hb := get_bt s
  have HI0 : Hid (EInv s w 0 (.slice none 0 0) w) := ⟨OwnU.nil _ _, Below.refl _ _⟩
  go_enter Tryd.func18, Tryd.ntmps18
  go_wp2_with fail
  go_loopw [3, 4] (fun t3 t4 wr => ∃ (i : Nat) (v : Value), i ≤ s.size ∧ t3 = v ∧ t4 = .int .i64 i ∧ Hid (EInv s w i v wr)) (fun _ t4 _ => s.size - (intOf t4).toNat)
  case atStart => exact ⟨0, _, by omega, rfl, rfl, HI0⟩
  case round =>
    clear HI0
    obtain ⟨i, v, hi, rfl, rfl, hI⟩ := hrel
    obtain ⟨wo, rfl⟩ : ∃ wo : World, wo = wr := ⟨_, rfl⟩
    have hzw := hI.out.2.size
    have hln : (escB (s.toList.take i)).length ≤ 2000000000 := by
      have h1 := esc_len (s.toList.take i)
      have h2 : (s.toList.take i).length ≤ s.size := by rw [List.length_take, toList_len]; omega
      omega
    have hnl : (nums (escB (s.toList.take i))).length ≤ 2000000000 := by rw [nums_len]; exact hln
    by_cases hlt : i < s.size
    · obtain ⟨c, hc⟩ := u8_at s i hlt
      have b0 := bt_nonneg s i
      have b1 := bt_le s i
      have HE := Lib.hid (escB_take s i hlt c hc)
      by_cases h126 : bt s i = 126
      · have g1 : (bt s i == 126) = true := by rw [h126]; rfl
        have hcc : c = 126 := by rw [← UInt8.toNat_inj]; show c.toNat = 126; omega
        have HE2 : Hid (escB (s.toList.take (i + 1)) = escB (s.toList.take i) ++ [126, 48]) := by
          show _ = _
          rw [HE.out, hcc]; rfl
        clear h126 hcc hc
        go_wp2_with (at_builtin; refine wpList_pushS _ rfl _ _ rfl w.heap.size _ (escB (s.toList.take i)) (by first | rfl | simp [Act.eval]) hI.out.1 ⟨#[126, 48]⟩ (by first | rfl | simp [Act.eval]) [126, 48] (by rw [ByteArray.toList_eq]) ?lim ?hB ?_; (case lim => simp only [List.length_cons, List.length_nil]; omega); (case hB => omega); intro v' w4 ho4 hb4; have HN : Hid (EInv s w (i + 1) v' w4) := ⟨by rw [HE2.out]; exact ho4, hI.out.2.trans hb4.1⟩; clear ho4 hb4)
        go_roundw
        case rel => exact ⟨i + 1, _, by omega, rfl, by go_num, HN⟩
        case measure => simp [intOf]; omega
      · have g1 : (bt s i == 126) = false := by rw [beq_eq_false_iff_ne]; exact h126
        by_cases h47 : bt s i = 47
        · have g2 : (bt s i == 47) = true := by rw [h47]; rfl
          have hcc : c = 47 := by rw [← UInt8.toNat_inj]; show c.toNat = 47; omega
          have HE2 : Hid (escB (s.toList.take (i + 1)) = escB (s.toList.take i) ++ [126, 49]) := by
            show _ = _
            rw [HE.out, hcc]; rfl
          clear h126 h47 hcc hc
          go_wp2_with (at_builtin; refine wpList_pushS _ rfl _ _ rfl w.heap.size _ (escB (s.toList.take i)) (by first | rfl | simp [Act.eval]) hI.out.1 ⟨#[126, 49]⟩ (by first | rfl | simp [Act.eval]) [126, 49] (by rw [ByteArray.toList_eq]) ?lim ?hB ?_; (case lim => simp only [List.length_cons, List.length_nil]; omega); (case hB => omega); intro v' w4 ho4 hb4; have HN : Hid (EInv s w (i + 1) v' w4) := ⟨by rw [HE2.out]; exact ho4, hI.out.2.trans hb4.1⟩; clear ho4 hb4)
          go_roundw
          case rel => exact ⟨i + 1, _, by omega, rfl, by go_num, HN⟩
          case measure => simp [intOf]; omega
        · have g2 : (bt s i == 47) = false := by rw [beq_eq_false_iff_ne]; exact h47
          have HE2 : Hid (nums (escB (s.toList.take (i + 1))) = nums (escB (s.toList.take i)) ++ [bt s i]) := by
            show _ = _
            rw [HE.out, nums_app, hc]
            unfold escC
            rw [if_neg (fun e => h126 (by rw [hc, e]; rfl)), if_neg (fun e => h47 (by rw [hc, e]; rfl))]
            rfl
          clear h126 h47 hc
          go_wp2_with (at_builtin; refine wpList_push _ rfl _ _ rfl w.heap.size _ (nums (escB (s.toList.take i))) (by first | rfl | simp [Act.eval]) hI.out.1 (bt s i) (by first | rfl | simp [Act.eval]) ?lim ?hB ?_; (case lim => omega); (case hB => omega); intro v' w4 ho4 hb4; have HN : Hid (EInv s w (i + 1) v' w4) := ⟨by unfold OwnU; rw [HE2.out]; exact ho4, hI.out.2.trans hb4⟩; clear ho4 hb4)
          go_roundw
          case rel => exact ⟨i + 1, _, by omega, rfl, by go_num, HN⟩
          case measure => simp [intOf]; omega
    · obtain rfl : i = s.size := by omega
      have kc := hI.out.1.conv
      have HX : Hid (escB (s.toList.take s.size) = escB s.toList) := by show _ = _; rw [← toList_len, List.take_length]
      have HBW := Lib.hid hI.out.2
      go_wp2_with fail
      go_ret
      exact ⟨by unfold escS; rw [← HX.out]; rfl, HBW.out⟩
end Go.Proofs.YtnbfagignbbmfaaDoor
/-! The walk of PointWalks. -/
namespace Go.Proofs.YtnbfagignbbmfaaDoor
open Go.RowKit Go.PlainAid
set_option linter.unusedVariables false
set_option linter.unusedSimpArgs false
set_option maxRecDepth 100000
/-- a way so far -/
def WInv (a : Nd) (W : World) (xb i : Nat) (path : ByteArray) (x : Nd) (cs : List Value) (acs : Array Value) (wr : World) : Prop :=
  (∃ es : List (List UInt8), path.toList = pathL es ∧ (∀ e ∈ es, (∀ c ∈ e, c ≠ 47) ∧ tildeOk e = true) ∧ WayTo a (es.map fun e => ⟨(unesc e).toArray⟩) x) ∧ (∃ deep : Int, rightD x deep = true) ∧ sizeOk x ∧ path.size ≤ i * 2000000002 ∧
  NdIs wr W.heap.size x cs ∧ Blk wr xb 25 cs.toArray ∧ Blk wr W.heap.size 25 acs ∧ Below W.heap.size W wr ∧ W.heap.size < xb
theorem WInv.step {a : Nd} {W : World} {xb i : Nat} {path : ByteArray} {k num : Int} {t : ByteArray} {ks : List ByteArray} {ns : List Nd} {cs : List Value} {acs : Array Value} {wr : World} (h : WInv a W xb i path (.mk k num t ks ns) cs acs wr) {j : Nat} {m : Nd} (hj : ns[j]? = some m) {q : ByteArray} {p : ByteArray}
    (hq : q.toList = escB p.toList) (hst : ∀ l, getN (p :: l) (.mk k num t ks ns) = getN l m) :
    ∃ es : List (List UInt8), (path ++ ⟨#[47]⟩ ++ q).toList = pathL es ∧ (∀ e ∈ es, (∀ c ∈ e, c ≠ 47) ∧ tildeOk e = true) ∧ WayTo a (es.map fun e => ⟨(unesc e).toArray⟩) m := by
  obtain ⟨⟨es, h1, h2, h3⟩, _⟩ := h
  refine ⟨es ++ [escB p.toList], ?_, fun e he => ?_, ?_⟩
  · rw [app_toList, app_toList, h1, pathL_snoc, hq, tl_lit, List.append_assoc]; rfl
  · rcases List.mem_append.1 he with he | he
    · exact h2 e he
    · simp at he; subst he; exact ⟨escB_ne _, tilde_escB _⟩
  · rw [List.map_append]
    have e : [escB p.toList].map (fun e => (⟨(unesc e).toArray⟩ : ByteArray)) = [p] := by
      simp only [List.map_cons, List.map_nil, unesc_escB]
      congr 1
      apply ByteArray.ext
      apply Array.ext'
      rw [ByteArray.toList_eq]
    rw [e]
    exact WayTo.snoc _ h3 hst
end Go.Proofs.YtnbfagignbbmfaaDoor
