/- Texts of one seat, one behind the other: Pw3. No condition. -/
import Derived.Test.YtnbfagignbbmfaaDoorMPointWalks1
import Derived.OpenShut
import Derived.LaidMore
import Derived.BigRegion
/-! The walk of PointWalks. -/
namespace Go.Proofs.YtnbfagignbbmfaaDoor
open Go.RowKit Go.PlainAid
set_option linter.unusedVariables false
set_option linter.unusedSimpArgs false
set_option maxRecDepth 100000
theorem row8 {w : World} {a : Option Addr} {len cap : Nat} {zs : List Int} (h : IsRow .u8 w a len cap zs) : ∀ k, k < len → ∃ b off x, a = some ⟨b, off, none⟩ ∧ b < w.heap.size ∧ w.cell? ⟨b, off + k, none⟩ = some (.int .u8 x) ∧ 0 ≤ x ∧ x ≤ 255 := by
  intro k hk
  rcases h with ⟨rfl, rfl, rfl, rfl⟩ | ⟨x, rfl, h1, h2, h3, h4, h5⟩
  · omega
  · obtain ⟨b, off, rfl, h6⟩ := ints_at h4 (by omega)
    have hm := h5 (zs.getD k 0) (by simp [List.getD, show k < zs.length by omega])
    simp [Lit.wf] at hm
    have e1 : IntKind.u8.min = 0 := rfl
    have e2 : IntKind.u8.max = 255 := rfl
    rw [e1, e2] at hm
    exact ⟨b, off, zs.getD k 0, rfl, World.block_lt_of_cell? _ _ (h6 k (by omega)), h6 k (by omega), by simpa [List.getD] using hm.1, by simpa [List.getD] using hm.2⟩
theorem sizeOk.key {k num : Int} {t : ByteArray} {ks : List ByteArray} {ns : List Nd} (h : sizeOk (.mk k num t ks ns)) : (∀ s ∈ ks, s.size ≤ 1000000000) ∧ ns.length ≤ 1000000 := by
  unfold sizeOk at h; exact ⟨h.2.2.1, h.2.2.2.1.2⟩
theorem escS_size (s : ByteArray) (h : s.size ≤ 1000000000) : (escS s).size ≤ 2000000000 := by
  have := esc_len s.toList
  rw [toList_len] at this
  have e : (escS s).size = (escB s.toList).length := by unfold escS; simp [ByteArray.size]
  omega
theorem escS_list (s : ByteArray) : (escS s).toList = escB s.toList := by
  unfold escS; rw [ByteArray.toList_eq]

theorem WInv.next {a : Nd} {W : World} {xb i : Nat} {path : ByteArray} {k num : Int} {t : ByteArray} {ks : List ByteArray} {ns : List Nd} {cs : List Value} {acs : Array Value} {wr w4 : World} (h : WInv a W xb i path (.mk k num t ks ns) cs acs wr) {j : Nat} {m : Nd} (hj : ns[j]? = some m) {q : ByteArray} {p : ByteArray}
    (hq : q.toList = escB p.toList) (hqs : q.size ≤ 2000000001) (hst : ∀ l, getN (p :: l) (.mk k num t ks ns) = getN l m) (hb : Below wr.drew.heap.size wr.drew w4) {u0 u1 u2 u3 u4 : Value} (hm : NdIs wr W.heap.size m [u0, u1, u2, u3, u4])
    {b0 b1 b2 b3 b4 : Value} (hX : Blk w4 xb 25 #[b0, b1, b2, b3, b4]) : WInv a W xb (i + 1) (path ++ ⟨#[47]⟩ ++ q) m [u0, u1, u2, u3, u4] acs (set5 w4 xb u0 u1 u2 u3 u4) := by
  have hes := h.step hj hq hst
  obtain ⟨_, ⟨deep, hr⟩, hs, hps, hn, hXb, hAb, hB, hlt⟩ := h
  have hBw := hB.size
  refine ⟨hes, ⟨deep + 1, (right_kid hr hj).1⟩, (kid_ok (n := .mk k num t ks ns) hj hs).1, ?_, ?_, set5_blk hX, set5_far (hAb.drew.below hb hAb.drew.lt) (by omega), set5_below (nextB hB.drew hb) (by omega), hlt⟩
  · rw [ByteArray.size_append, ByteArray.size_append]
    have : (⟨#[47]⟩ : ByteArray).size = 1 := rfl
    omega
  · refine hm.keep fun p hp => ?_
    rw [set5_cell (by omega)]
    exact hb.cell (p := p) (by show p.block < wr.heap.size; omega)
set_option maxHeartbeats 1500000 in
theorem pointWalks_walk (a : Nd) (cs : List Value) (W : World) (ha : NdIs W W.heap.size a cs) (A : Option Addr) (l c : Nat) (zs : List Int) (row : IsRow .u8 W A l c zs) (hM : MaxOK W) :
    Calls Tryd.prog 4 #[.agg cs.toArray, .slice A l c] W fun e W' => e = .returned (.bool true) ∧ Below W.heap.size W W' := by
  have hla := ha.len
  match cs, hla with
  | [v0, v1, v2, v3, v4], _ =>
    obtain ⟨x0, x1, x2, x3, x4, x5, x6, x7, x8, rfl, rfl, rfl, rfl, rfl⟩ := ha.form
    show Calls Tryd.prog 4 #[.agg #[.int .i64 x0, .int .i64 x1, .string x2, .slice x3 x4 x5, .slice x6 x7 x8], .slice A l c] W _
    have HR8 := Lib.hid (row8 row)
    have HA : Hid (∀ w', Below W.heap.size W w' → NdIs w' W.heap.size a [.int .i64 x0, .int .i64 x1, .string x2, .slice x3 x4 x5, .slice x6 x7 x8]) := fun w' h => ha.below h
    have HGA : Hid (∀ w', Below W.heap.size W w' → Calls Tryd.prog 11 #[.agg #[.int .i64 x0, .int .i64 x1, .string x2, .slice x3 x4 x5, .slice x6 x7 x8]] w' (BoolBel (greatN a) w')) := fun w' h => great_any a _ w' W.heap.size (HA.out w' h) h.size
    have HRA : Hid (∀ w', Below W.heap.size W w' → Calls Tryd.prog 17 #[.agg #[.int .i64 x0, .int .i64 x1, .string x2, .slice x3 x4 x5, .slice x6 x7 x8]] w' (BoolBel (rightD a 0) w')) := fun w' h => rRight_any a _ w' W.heap.size (HA.out w' h) h.size
    have HW : Hid (∀ w', Below W.heap.size W w' → Calls Tryd.prog 12 #[] w' (BoolBel true w')) := fun w' h => awake9_any w' (hM.below h)
    have HNG : Hid (greatN a = false → sizeOk a ∧ a.count ≤ 1000000) := fun h => ⟨(not_great ha h).1, count_small h⟩
    have hA0 : Below W.heap.size W (W.alloc (.cells #[.int .i64 x0, .int .i64 x1, .string x2, .slice x3 x4 x5, .slice x6 x7 x8] 25)) := (Below.refl _ _).alloc (Nat.le_refl _) _
    have hX0 : Blk (W.alloc (.cells #[.int .i64 x0, .int .i64 x1, .string x2, .slice x3 x4 x5, .slice x6 x7 x8] 25)) W.heap.size 25 #[.int .i64 x0, .int .i64 x1, .string x2, .slice x3 x4 x5, .slice x6 x7 x8] := Blk.new W _ _
    have HMX := Lib.hid hM
    clear ha hM row
    have stop : ∀ g r : Bool, greatN a = g → rightD a 0 = r → (g = true ∨ r = false ∨ 20 < l) → Calls Tryd.prog 4 #[.agg #[.int .i64 x0, .int .i64 x1, .string x2, .slice x3 x4 x5, .slice x6 x7 x8], .slice A l c] W fun e W' => e = .returned (.bool true) ∧ Below W.heap.size W W' := by
      intro g r hg hr h
      rw [hg] at HGA
      rw [hr] at HRA
      clear HNG hg hr HR8
      cases g with
      | true =>
        go_enter Tryd.func4, Tryd.ntmps4
        go_wp2_with fail
        refine (HGA.out _ hA0).mono ?_; rintro e w1 ⟨rfl, hw1⟩
        have hB1 := hA0.trans (hw1.mono hA0.size)
        go_wp2_with fail
        refine (HW.out _ hB1).mono ?_; rintro e w2 ⟨rfl, hw2⟩
        go_wp2_with fail
        go_ret
        exact ⟨rfl, hB1.trans (hw2.mono hB1.size)⟩
      | false =>
        cases r with
        | false =>
          go_enter Tryd.func4, Tryd.ntmps4
          go_wp2_with fail
          refine (HGA.out _ hA0).mono ?_; rintro e w1 ⟨rfl, hw1⟩
          have hB1 := hA0.trans (hw1.mono hA0.size)
          have hX1 := hX0.below hw1 (by simp)
          obtain ⟨c0, c1, c2, c3, c4⟩ := hX1.cells5
          go_wp2_with fail
          refine (HRA.out _ hB1).mono ?_; rintro e w2 ⟨rfl, hw2⟩
          have hB2 := hB1.trans (hw2.mono hB1.size)
          clear c0 c1 c2 c3 c4
          go_wp2_with fail
          refine (HW.out _ hB2).mono ?_; rintro e w3 ⟨rfl, hw3⟩
          go_wp2_with fail
          go_ret
          exact ⟨rfl, hB2.trans (hw3.mono hB2.size)⟩
        | true =>
          have h : 20 < l := by simpa using h
          have dk : decide ((20 : Int) < (l : Int)) = true := by simp; omega
          go_enter Tryd.func4, Tryd.ntmps4
          go_wp2_with fail
          refine (HGA.out _ hA0).mono ?_; rintro e w1 ⟨rfl, hw1⟩
          have hB1 := hA0.trans (hw1.mono hA0.size)
          have hX1 := hX0.below hw1 (by simp)
          obtain ⟨c0, c1, c2, c3, c4⟩ := hX1.cells5
          go_wp2_with fail
          refine (HRA.out _ hB1).mono ?_; rintro e w2 ⟨rfl, hw2⟩
          have hB2 := hB1.trans (hw2.mono hB1.size)
          clear c0 c1 c2 c3 c4
          go_wp2_with fail
          refine (HW.out _ hB2).mono ?_; rintro e w3 ⟨rfl, hw3⟩
          go_wp2_with fail
          go_ret
          exact ⟨rfl, hB2.trans (hw3.mono hB2.size)⟩
    cases hga : greatN a with
    | true => exact stop true _ hga rfl (.inl rfl)
    | false =>
    cases hra : rightD a 0 with
    | false => exact stop false false hga hra (.inr (.inl rfl))
    | true =>
    by_cases hl : 20 < l
    · exact stop false true hga hra (.inr (.inr hl))
    have hza := HNG.out hga
    rw [hga] at HGA
    rw [hra] at HRA
    have dk : decide ((20 : Int) < (l : Int)) = false := by simp; omega
    have HZA := Lib.hid hza
    have HRR := Lib.hid hra
    clear stop hza HNG hga hra
    go_enter Tryd.func4, Tryd.ntmps4
    go_wp2_with fail
    refine (HGA.out _ hA0).mono ?_; rintro e w1 ⟨rfl, hw1⟩
    have hB1 := hA0.trans (hw1.mono hA0.size)
    have hX1 := hX0.below hw1 (by simp)
    obtain ⟨c0, c1, c2, c3, c4⟩ := hX1.cells5
    go_wp2_with fail
    refine (HRA.out _ hB1).mono ?_; rintro e w2 ⟨rfl, hw2⟩
    have hB2 := hB1.trans (hw2.mono hB1.size)
    have hX2 := hX1.below hw2 hX1.lt
    clear c0 c1 c2 c3 c4
    obtain ⟨c0, c1, c2, c3, c4⟩ := hX2.cells5
    have HI0 : Hid (WInv a W w2.heap.size 0 ⟨#[]⟩ a [.int .i64 x0, .int .i64 x1, .string x2, .slice x3 x4 x5, .slice x6 x7 x8] #[.int .i64 x0, .int .i64 x1, .string x2, .slice x3 x4 x5, .slice x6 x7 x8] (w2.alloc (.cells #[.int .i64 x0, .int .i64 x1, .string x2, .slice x3 x4 x5, .slice x6 x7 x8] 25))) := by
      refine ⟨⟨[], by simp [tl_lit, pathL], by simp, rfl⟩, ⟨0, HRR.out⟩, HZA.out.1, by simp [ByteArray.size], HA.out _ (hB2.alloc hB2.size _), Blk.new _ _ _, hX2.alloc _, hB2.alloc hB2.size _, hX2.lt⟩
    have hxb := hX2.lt
    clear hX0 hX1 hX2 hA0 hw1 hw2 hB1
    generalize hxbe : w2.heap.size = xb at *
    go_wp2_with fail
    clear c0 c1 c2 c3 c4 HGA HRA
    go_loopw [6, 7] (fun t6 t7 wr => ∃ (i : Nat) (path : ByteArray) (x : Nd) (xcs : List Value), i ≤ l ∧ t6 = .string path ∧ t7 = .int .i64 i ∧ Hid (WInv a W xb i path x xcs #[.int .i64 x0, .int .i64 x1, .string x2, .slice x3 x4 x5, .slice x6 x7 x8] wr)) (fun _ t7 _ => l - (intOf t7).toNat)
    case atStart => exact ⟨0, _, _, _, by omega, rfl, rfl, HI0⟩
    case round =>
      clear HI0
      obtain ⟨i, path, x, xcs, hi, rfl, rfl, hI⟩ := hrel
      cases x with | mk k num t ks ns =>
      have hx := hI.out
      obtain ⟨hes, ⟨deep, hr⟩, hs, hps, hn, hXb, hAb, hB, -⟩ := hx
      unfold NdIs at hn
      obtain ⟨A1, ck, A2, cc, xs, rfl, hks, hxs, hns, ik, inn, ht, hkl, hkm, hmm⟩ := hn
      have HKS := Lib.hid hks
      have HXS := Lib.hid hxs
      have HNS := Lib.hid hns
      have HS := Lib.hid hs
      have HR := Lib.hid hr
      have HPS := Lib.hid hps
      have HXB := Lib.hid hXb
      have HAB := Lib.hid hAb
      have HB := Lib.hid hB
      have hnl := hs.key.2
      clear hes hr hs hps hks hxs hns ik inn ht hkl hkm hmm hXb hAb hB
      obtain ⟨c0, c1, c2, c3, c4⟩ := HXB.out.cells5
      by_cases hlt : i < l
      · by_cases hpos : 0 < ns.length
        · obtain ⟨pb, off, b, rfl, hpb, hpc, b0, b1⟩ := HR8.out i hlt
          have p1 : wr.cell? ⟨pb, off + i, none⟩ = some (.int .u8 b) := by rw [HB.out.cell (p := ⟨pb, off + i, none⟩) hpb]; exact hpc
          obtain ⟨j, hj⟩ : ∃ j : Nat, (j : Int) = b % (ns.length : Int) := ⟨(b % (ns.length : Int)).toNat, by rw [Int.toNat_of_nonneg]; exact Int.emod_nonneg _ (by omega)⟩
          have hjl : j < ns.length := by
            have : (j : Int) < (ns.length : Int) := by rw [hj]; exact Int.emod_lt_of_pos _ (by omega)
            omega
          have rp : b.tmod (ns.length : Int) = j := by rw [hj]; exact Int.tmod_eq_emod_of_nonneg b0
          have xw : IntKind.i64.wrap b = b := IntWalk.i64_in _ (by omega)
          have nz : ((ns.length : Int) == 0) = false := by rw [beq_eq_false_iff_ne]; omega
          have jw : IntKind.i64.wrap (j : Int) = j := IntWalk.i64_in _ (by omega)
          obtain ⟨ad, m, u0, u1, u2, u3, u4, rfl, hab, hm, hnm, q0, q1, q2, q3, q4⟩ := HXS.out.nd HNS.out hjl
          have HNM := Lib.hid hnm
          have HM := Lib.hid hm
          clear hpc hj hnm hm
          obtain ⟨y0, y1, y2, y3, y4, y5, y6, y7, y8, rfl, rfl, rfl, rfl, rfl⟩ := HNM.out.form
          have hpz : path.size ≤ 40000000040 := Nat.le_trans HPS.out (by omega)
          have hs1 : ¬ 9223372036854775807 < path.size + 1 := by omega
          have HADB : Hid ((ad.add (j * 5)).block = ad.block) := block_of_add _ _
          have hBw := HB.out.size
          rcases (right_kid HR.out HM.out).2 with hk | ⟨hk, hkl, hnd⟩
          · subst hk
            have hdl := itoa_len (j : Int) (by omega) (by omega)
            have hs2 : ¬ 9223372036854775807 < path.size + 1 + (digS (j : Int)).size := by omega
            have HDL := Lib.hid hdl
            clear hdl hpz
            go_wp2_with fail
            go_region
            go_wp2_with fail
            refine (rdigits_any j j wr.drew (by omega) (by omega)).mono ?_; rintro e w4 ⟨rfl, hb4⟩
            have X4 := HXB.out.drew.below hb4 HXB.out.drew.lt
            obtain ⟨d0, d1, d2, d3, d4⟩ := X4.cells5
            have f0 := X4.frozen 0
            have f1 := X4.frozen 1
            have f2 := X4.frozen 2
            have f3 := X4.frozen 3
            have f4 := X4.frozen 4
            have r0 := (hb4.cell (p := ad.add (j * 5)) (by show _ < wr.heap.size; have := HADB.out; omega)).trans q0
            have r1 := (hb4.cell (p := ⟨(ad.add (j * 5)).block, (ad.add (j * 5)).off + 1, none⟩) (by show _ < wr.heap.size; have := HADB.out; simp only; omega)).trans q1
            have r2 := (hb4.cell (p := ⟨(ad.add (j * 5)).block, (ad.add (j * 5)).off + 2, none⟩) (by show _ < wr.heap.size; have := HADB.out; simp only; omega)).trans q2
            have r3 := (hb4.cell (p := ⟨(ad.add (j * 5)).block, (ad.add (j * 5)).off + 3, none⟩) (by show _ < wr.heap.size; have := HADB.out; simp only; omega)).trans q3
            have r4 := (hb4.cell (p := ⟨(ad.add (j * 5)).block, (ad.add (j * 5)).off + 4, none⟩) (by show _ < wr.heap.size; have := HADB.out; simp only; omega)).trans q4
            have HN4 : Hid (WInv a W xb (i + 1) (path ++ ⟨#[47]⟩ ++ digS (j : Int)) m [.int .i64 y0, .int .i64 y1, .string y2, .slice y3 y4 y5, .slice y6 y7 y8] #[.int .i64 x0, .int .i64 x1, .string x2, .slice x3 x4 x5, .slice x6 x7 x8] (set5 w4 xb (.int .i64 y0) (.int .i64 y1) (.string y2) (.slice y3 y4 y5) (.slice y6 y7 y8))) :=
              hI.out.next HM.out (p := digS (j : Int)) (dig_plain j).2.symm (by have := HDL.out; omega) (step_arr hnl HM.out) hb4 HNM.out X4
            clear q0 q1 q2 q3 q4 c0 c1 c2 c3 c4 p1
            go_wp2_with fail
            go_roundw
            case rel => exact ⟨i + 1, _, _, _, by omega, rfl, by go_num, HN4⟩
            case measure => simp [intOf]; omega
          · subst hk
            obtain ⟨ad2, key, rfl, hab2, hke, k0⟩ := HKS.out.str (i := j) (by omega)
            have hkz : key.size ≤ 1000000000 := HS.out.key.1 key (List.mem_of_getElem? hke)
            have HST := Lib.hid (step_obj (num := num) (t := t) hnd hke HM.out)
            have hez := escS_size key hkz
            have hs2 : ¬ 9223372036854775807 < path.size + 1 + (escS key).size := by omega
            have HKZ := Lib.hid hkz
            have HEZ := Lib.hid hez
            have hjk : j < ks.length := by omega
            clear hnd hke hez hkz hpz
            go_wp2_with fail
            go_region
            go_wp2_with fail
            refine (escape_any key wr.drew HKZ.out).mono ?_; rintro e w4 ⟨rfl, hb4⟩
            have X4 := HXB.out.drew.below hb4 HXB.out.drew.lt
            obtain ⟨d0, d1, d2, d3, d4⟩ := X4.cells5
            have f0 := X4.frozen 0
            have f1 := X4.frozen 1
            have f2 := X4.frozen 2
            have f3 := X4.frozen 3
            have f4 := X4.frozen 4
            have r0 := (hb4.cell (p := ad.add (j * 5)) (by show _ < wr.heap.size; have := HADB.out; omega)).trans q0
            have r1 := (hb4.cell (p := ⟨(ad.add (j * 5)).block, (ad.add (j * 5)).off + 1, none⟩) (by show _ < wr.heap.size; have := HADB.out; simp only; omega)).trans q1
            have r2 := (hb4.cell (p := ⟨(ad.add (j * 5)).block, (ad.add (j * 5)).off + 2, none⟩) (by show _ < wr.heap.size; have := HADB.out; simp only; omega)).trans q2
            have r3 := (hb4.cell (p := ⟨(ad.add (j * 5)).block, (ad.add (j * 5)).off + 3, none⟩) (by show _ < wr.heap.size; have := HADB.out; simp only; omega)).trans q3
            have r4 := (hb4.cell (p := ⟨(ad.add (j * 5)).block, (ad.add (j * 5)).off + 4, none⟩) (by show _ < wr.heap.size; have := HADB.out; simp only; omega)).trans q4
            have HN4 : Hid (WInv a W xb (i + 1) (path ++ ⟨#[47]⟩ ++ escS key) m [.int .i64 y0, .int .i64 y1, .string y2, .slice y3 y4 y5, .slice y6 y7 y8] #[.int .i64 x0, .int .i64 x1, .string x2, .slice x3 x4 x5, .slice x6 x7 x8] (set5 w4 xb (.int .i64 y0) (.int .i64 y1) (.string y2) (.slice y3 y4 y5) (.slice y6 y7 y8))) :=
              hI.out.next HM.out (p := key) (escS_list key) (by have := HEZ.out; omega) HST.out hb4 HNM.out X4
            clear q0 q1 q2 q3 q4 c0 c1 c2 c3 c4 p1 k0
            go_wp2_with fail
            go_roundw
            case rel => exact ⟨i + 1, _, _, _, by omega, rfl, by go_num, HN4⟩
            case measure => simp [intOf]; omega
        · generalize hN : ns.length = N at *
          obtain rfl : N = 0 := by omega
          clear hN hpos
          by_cases hbig : 1000 < path.size
          · have dk2 : decide ((1000 : Int) < (path.size : Int)) = true := by simp; omega
            have HBW := HB
            clear hI hbig
            go_wp2_with fail
            refine (HW.out _ HBW.out).mono ?_; rintro e v2 ⟨rfl, hv2⟩
            go_wp2_with fail
            go_ret
            exact ⟨rfl, HBW.out.trans (hv2.mono HBW.out.size)⟩
          · have dk2 : decide ((1000 : Int) < (path.size : Int)) = false := by simp; omega
            have HPX : Hid (pointN a path = (some (.mk k num t ks ns), 0)) := by
              obtain ⟨⟨es, e1, e2, e3⟩, _⟩ := hI.out
              exact pointN_some HRR.out (path_form path es e1 (by omega) (fun e he => (e2 e he).2)) (by rw [path_parts path es e1 (fun e he => (e2 e he).1)]; exact WayTo.get _ e3)
            have HPE : Hid (pointN a ⟨#[]⟩ = (some a, 0)) := by
              have e1 : (⟨#[]⟩ : ByteArray).toList = pathL [] := by simp [tl_lit, pathL]
              exact pointN_some HRR.out (path_form _ [] e1 (by simp [ByteArray.size]) (by simp)) (by rw [path_parts _ [] e1 (by simp)]; exact WayTo.get [] rfl)
            have HF : Hid (∀ w', Below W.heap.size W w' → Calls Tryd.prog 13 #[.agg #[.int .i64 x0, .int .i64 x1, .string x2, .slice x3 x4 x5, .slice x6 x7 x8], .string path] w' (PointP (some (.mk k num t ks ns), 0) w')) := fun w' h => by rw [← HPX.out]; exact pGet_any a path _ w' W.heap.size (HA.out w' h) h.size HZA.out.1 HZA.out.2 (by omega) (HMX.out.below h)
            have HFE : Hid (∀ w', Below W.heap.size W w' → Calls Tryd.prog 13 #[.agg #[.int .i64 x0, .int .i64 x1, .string x2, .slice x3 x4 x5, .slice x6 x7 x8], .string ⟨#[]⟩] w' (PointP (some a, 0) w')) := fun w' h => by rw [← HPE.out]; exact pGet_any a ⟨#[]⟩ _ w' W.heap.size (HA.out w' h) h.size HZA.out.1 HZA.out.2 (by simp [ByteArray.size]) (HMX.out.below h)
            have HSS : Hid (∀ (n : Nd) (cs ds : List Value) (w' : World), NdIs w' w'.heap.size n cs → NdIs w' w'.heap.size n ds → Calls Tryd.prog 15 #[.agg cs.toArray, .agg ds.toArray] w' (BoolBel true w')) := fun n cs ds w' h1 h2 => by
              have := rSame_any n.count n n cs ds w' w'.heap.size (Nat.le_refl _) h1 h2 (Nat.le_refl _)
              rw [sameN_self] at this; exact this
            have HNX : Hid (∀ w', Below wr.heap.size wr w' → NdIs w' w'.heap.size (.mk k num t ks ns) [.int .i64 k, .int .i64 num, .string t, .slice A1 ks.length ck, .slice A2 0 cc]) := fun w' h => by
              obtain ⟨_, _, _, _, hn, _⟩ := hI.out
              exact NdIs.more (Nat.le_trans HB.out.size h.size) _ _ (hn.below (h.mono HB.out.size))
            have HNA : Hid (∀ w', Below wr.heap.size wr w' → NdIs w' w'.heap.size a [.int .i64 x0, .int .i64 x1, .string x2, .slice x3 x4 x5, .slice x6 x7 x8]) := fun w' h =>
              NdIs.more (Nat.le_trans HB.out.size h.size) _ _ (HA.out w' (nextB HB.out h))
            have HXX := HXB
            have HAA := HAB
            have HBW := HB
            clear hI hbig HPX HPE HZA HRR HMX HKS HXS HNS HS HR HPS HXB HAB HB HA hB2
            obtain ⟨a0, a1, a2, a3, a4⟩ := HAA.out.cells5
            have hxw := HXX.out.lt
            have haw := HAA.out.lt
            go_wp2_with fail
            refine (HF.out _ HBW.out).mono ?_; rintro e v2 ⟨g0, g1, g2, g3, g4, g5, g6, g7, g8, rfl, hn2, hv2⟩
            have hC2 : Below wr.heap.size wr v2 := hv2
            have N2 : Hid (NdIs (v2.alloc (.cells #[.int .i64 g0, .int .i64 g1, .string g2, .slice g3 g4 g5, .slice g6 g7 g8] 25)) v2.heap.size (.mk k num t ks ns) [.int .i64 g0, .int .i64 g1, .string g2, .slice g3 g4 g5, .slice g6 g7 g8]) := (NdIn.is (fun b hb => hb.2) _ _ hn2).below ((Below.refl _ _).alloc (Nat.le_refl _) _)
            have hP2 : Blk (v2.alloc (.cells #[.int .i64 g0, .int .i64 g1, .string g2, .slice g3 g4 g5, .slice g6 g7 g8] 25)) v2.heap.size 25 #[.int .i64 g0, .int .i64 g1, .string g2, .slice g3 g4 g5, .slice g6 g7 g8] := Blk.new v2 _ _
            have hC2a := hC2.alloc hC2.size (.cells #[.int .i64 g0, .int .i64 g1, .string g2, .slice g3 g4 g5, .slice g6 g7 g8] 25)
            have hA2 := HAA.out.below hC2a haw
            have hv2s := hC2.size
            clear a0 a1 a2 a3 a4 c0 c1 c2 c3 c4 hn2
            obtain ⟨a0, a1, a2, a3, a4⟩ := hA2.cells5
            go_wp2_with fail
            refine (HFE.out _ (nextB HBW.out hC2a)).mono ?_; rintro e v3 ⟨h0, h1, h2, h3, h4, h5, h6, h7, h8, rfl, hn3, hv3⟩
            have hC3 : Below wr.heap.size wr v3 := nextB hC2a hv3
            have hP3 := hP2.below hv3 hP2.lt
            have hz2 : v2.heap.size < v3.heap.size := hP3.lt
            have hn3' : NdIs v3 v3.heap.size a [.int .i64 h0, .int .i64 h1, .string h2, .slice h3 h4 h5, .slice h6 h7 h8] := NdIn.is (fun b hb => hb.2) _ _ hn3
            have hC3a := hC3.alloc hC3.size (.cells #[.int .i64 h0, .int .i64 h1, .string h2, .slice h3 h4 h5, .slice h6 h7 h8] 25)
            have hQ3 : Blk (v3.alloc (.cells #[.int .i64 h0, .int .i64 h1, .string h2, .slice h3 h4 h5, .slice h6 h7 h8] 25)) v3.heap.size 25 #[.int .i64 h0, .int .i64 h1, .string h2, .slice h3 h4 h5, .slice h6 h7 h8] := Blk.new v3 _ _
            have M3 : Hid (NdIs (v3.alloc (.cells #[.int .i64 h0, .int .i64 h1, .string h2, .slice h3 h4 h5, .slice h6 h7 h8] 25)) v3.heap.size a [.int .i64 h0, .int .i64 h1, .string h2, .slice h3 h4 h5, .slice h6 h7 h8]) := hn3'.below ((Below.refl v3.heap.size v3).alloc (Nat.le_refl _) _)
            have L3 : Hid (NdIs (v3.alloc (.cells #[.int .i64 h0, .int .i64 h1, .string h2, .slice h3 h4 h5, .slice h6 h7 h8] 25)) (v3.alloc (.cells #[.int .i64 h0, .int .i64 h1, .string h2, .slice h3 h4 h5, .slice h6 h7 h8] 25)).heap.size (.mk k num t ks ns) [.int .i64 g0, .int .i64 g1, .string g2, .slice g3 g4 g5, .slice g6 g7 g8]) := NdIs.more (by simp; omega) _ _ ((N2.out.below (hv3.mono (by simp))).below (((Below.refl v3.heap.size v3).alloc (Nat.le_refl _) _).mono (by omega)))
            have hP4 := hP3.alloc (.cells #[.int .i64 h0, .int .i64 h1, .string h2, .slice h3 h4 h5, .slice h6 h7 h8] 25)
            have hX4 := HXX.out.below hC3a hxw
            clear a0 a1 a2 a3 a4 hn3 hn3'
            obtain ⟨p0, p1, p2, p3, p4⟩ := hP4.cells5
            obtain ⟨b0, b1, b2, b3, b4⟩ := hX4.cells5
            go_wp2_with (go_at_call 16; refine (num9_l3 _ _).mono ?_; rintro e w9 ⟨rfl, hw⟩; obtain rfl : _ = w9 := hw)
            refine (HSS.out _ _ _ _ (HNX.out _ hC3a) L3.out : Calls _ _ _ _ _).mono ?_; rintro e v4 ⟨rfl, hv4⟩
            have hC4 := nextB hC3a hv4
            have hQ4 := hQ3.below hv4 hQ3.lt
            have hA4 := HAA.out.below hC4 haw
            have M4 : Hid (NdIs v4 v4.heap.size a [.int .i64 h0, .int .i64 h1, .string h2, .slice h3 h4 h5, .slice h6 h7 h8]) := NdIs.more (by have := hv4.size; simp at this; omega) _ _ (M3.out.below (hv4.mono (by simp)))
            clear p0 p1 p2 p3 p4 b0 b1 b2 b3 b4
            obtain ⟨a0, a1, a2, a3, a4⟩ := hA4.cells5
            obtain ⟨p0, p1, p2, p3, p4⟩ := hQ4.cells5
            go_wp2_with (go_at_call 16; refine (num9_l3 _ _).mono ?_; rintro e w9 ⟨rfl, hw⟩; obtain rfl : _ = w9 := hw)
            refine (HSS.out _ _ _ _ M4.out (HNA.out _ hC4) : Calls _ _ _ _ _).mono ?_; rintro e v5 ⟨rfl, hv5⟩
            have hC5 := nextB hC4 hv5
            clear p0 p1 p2 p3 p4 a0 a1 a2 a3 a4
            go_wp2_with fail
            refine (HW.out _ (nextB HBW.out hC5)).mono ?_; rintro e v6 ⟨rfl, hv6⟩
            go_wp2_with fail
            go_ret
            exact ⟨rfl, nextB HBW.out (nextB hC5 hv6)⟩
      · obtain rfl : i = l := by omega
        by_cases hbig : 1000 < path.size
        · have dk2 : decide ((1000 : Int) < (path.size : Int)) = true := by simp; omega
          have HBW := HB
          clear hI hbig
          go_wp2_with fail
          refine (HW.out _ HBW.out).mono ?_; rintro e v2 ⟨rfl, hv2⟩
          go_wp2_with fail
          go_ret
          exact ⟨rfl, HBW.out.trans (hv2.mono HBW.out.size)⟩
        · have dk2 : decide ((1000 : Int) < (path.size : Int)) = false := by simp; omega
          have HPX : Hid (pointN a path = (some (.mk k num t ks ns), 0)) := by
            obtain ⟨⟨es, e1, e2, e3⟩, _⟩ := hI.out
            exact pointN_some HRR.out (path_form path es e1 (by omega) (fun e he => (e2 e he).2)) (by rw [path_parts path es e1 (fun e he => (e2 e he).1)]; exact WayTo.get _ e3)
          have HPE : Hid (pointN a ⟨#[]⟩ = (some a, 0)) := by
            have e1 : (⟨#[]⟩ : ByteArray).toList = pathL [] := by simp [tl_lit, pathL]
            exact pointN_some HRR.out (path_form _ [] e1 (by simp [ByteArray.size]) (by simp)) (by rw [path_parts _ [] e1 (by simp)]; exact WayTo.get [] rfl)
          have HF : Hid (∀ w', Below W.heap.size W w' → Calls Tryd.prog 13 #[.agg #[.int .i64 x0, .int .i64 x1, .string x2, .slice x3 x4 x5, .slice x6 x7 x8], .string path] w' (PointP (some (.mk k num t ks ns), 0) w')) := fun w' h => by rw [← HPX.out]; exact pGet_any a path _ w' W.heap.size (HA.out w' h) h.size HZA.out.1 HZA.out.2 (by omega) (HMX.out.below h)
          have HFE : Hid (∀ w', Below W.heap.size W w' → Calls Tryd.prog 13 #[.agg #[.int .i64 x0, .int .i64 x1, .string x2, .slice x3 x4 x5, .slice x6 x7 x8], .string ⟨#[]⟩] w' (PointP (some a, 0) w')) := fun w' h => by rw [← HPE.out]; exact pGet_any a ⟨#[]⟩ _ w' W.heap.size (HA.out w' h) h.size HZA.out.1 HZA.out.2 (by simp [ByteArray.size]) (HMX.out.below h)
          have HSS : Hid (∀ (n : Nd) (cs ds : List Value) (w' : World), NdIs w' w'.heap.size n cs → NdIs w' w'.heap.size n ds → Calls Tryd.prog 15 #[.agg cs.toArray, .agg ds.toArray] w' (BoolBel true w')) := fun n cs ds w' h1 h2 => by
            have := rSame_any n.count n n cs ds w' w'.heap.size (Nat.le_refl _) h1 h2 (Nat.le_refl _)
            rw [sameN_self] at this; exact this
          have HNX : Hid (∀ w', Below wr.heap.size wr w' → NdIs w' w'.heap.size (.mk k num t ks ns) [.int .i64 k, .int .i64 num, .string t, .slice A1 ks.length ck, .slice A2 ns.length cc]) := fun w' h => by
            obtain ⟨_, _, _, _, hn, _⟩ := hI.out
            exact NdIs.more (Nat.le_trans HB.out.size h.size) _ _ (hn.below (h.mono HB.out.size))
          have HNA : Hid (∀ w', Below wr.heap.size wr w' → NdIs w' w'.heap.size a [.int .i64 x0, .int .i64 x1, .string x2, .slice x3 x4 x5, .slice x6 x7 x8]) := fun w' h =>
            NdIs.more (Nat.le_trans HB.out.size h.size) _ _ (HA.out w' (nextB HB.out h))
          have HXX := HXB
          have HAA := HAB
          have HBW := HB
          clear hI hbig HPX HPE HZA HRR HMX HKS HXS HNS HS HR HPS HXB HAB HB HA hB2
          obtain ⟨a0, a1, a2, a3, a4⟩ := HAA.out.cells5
          have hxw := HXX.out.lt
          have haw := HAA.out.lt
          go_wp2_with fail
          refine (HF.out _ HBW.out).mono ?_; rintro e v2 ⟨g0, g1, g2, g3, g4, g5, g6, g7, g8, rfl, hn2, hv2⟩
          have hC2 : Below wr.heap.size wr v2 := hv2
          have N2 : Hid (NdIs (v2.alloc (.cells #[.int .i64 g0, .int .i64 g1, .string g2, .slice g3 g4 g5, .slice g6 g7 g8] 25)) v2.heap.size (.mk k num t ks ns) [.int .i64 g0, .int .i64 g1, .string g2, .slice g3 g4 g5, .slice g6 g7 g8]) := (NdIn.is (fun b hb => hb.2) _ _ hn2).below ((Below.refl _ _).alloc (Nat.le_refl _) _)
          have hP2 : Blk (v2.alloc (.cells #[.int .i64 g0, .int .i64 g1, .string g2, .slice g3 g4 g5, .slice g6 g7 g8] 25)) v2.heap.size 25 #[.int .i64 g0, .int .i64 g1, .string g2, .slice g3 g4 g5, .slice g6 g7 g8] := Blk.new v2 _ _
          have hC2a := hC2.alloc hC2.size (.cells #[.int .i64 g0, .int .i64 g1, .string g2, .slice g3 g4 g5, .slice g6 g7 g8] 25)
          have hA2 := HAA.out.below hC2a haw
          have hv2s := hC2.size
          clear a0 a1 a2 a3 a4 c0 c1 c2 c3 c4 hn2
          obtain ⟨a0, a1, a2, a3, a4⟩ := hA2.cells5
          go_wp2_with fail
          refine (HFE.out _ (nextB HBW.out hC2a)).mono ?_; rintro e v3 ⟨h0, h1, h2, h3, h4, h5, h6, h7, h8, rfl, hn3, hv3⟩
          have hC3 : Below wr.heap.size wr v3 := nextB hC2a hv3
          have hP3 := hP2.below hv3 hP2.lt
          have hz2 : v2.heap.size < v3.heap.size := hP3.lt
          have hn3' : NdIs v3 v3.heap.size a [.int .i64 h0, .int .i64 h1, .string h2, .slice h3 h4 h5, .slice h6 h7 h8] := NdIn.is (fun b hb => hb.2) _ _ hn3
          have hC3a := hC3.alloc hC3.size (.cells #[.int .i64 h0, .int .i64 h1, .string h2, .slice h3 h4 h5, .slice h6 h7 h8] 25)
          have hQ3 : Blk (v3.alloc (.cells #[.int .i64 h0, .int .i64 h1, .string h2, .slice h3 h4 h5, .slice h6 h7 h8] 25)) v3.heap.size 25 #[.int .i64 h0, .int .i64 h1, .string h2, .slice h3 h4 h5, .slice h6 h7 h8] := Blk.new v3 _ _
          have M3 : Hid (NdIs (v3.alloc (.cells #[.int .i64 h0, .int .i64 h1, .string h2, .slice h3 h4 h5, .slice h6 h7 h8] 25)) v3.heap.size a [.int .i64 h0, .int .i64 h1, .string h2, .slice h3 h4 h5, .slice h6 h7 h8]) := hn3'.below ((Below.refl v3.heap.size v3).alloc (Nat.le_refl _) _)
          have L3 : Hid (NdIs (v3.alloc (.cells #[.int .i64 h0, .int .i64 h1, .string h2, .slice h3 h4 h5, .slice h6 h7 h8] 25)) (v3.alloc (.cells #[.int .i64 h0, .int .i64 h1, .string h2, .slice h3 h4 h5, .slice h6 h7 h8] 25)).heap.size (.mk k num t ks ns) [.int .i64 g0, .int .i64 g1, .string g2, .slice g3 g4 g5, .slice g6 g7 g8]) := NdIs.more (by simp; omega) _ _ ((N2.out.below (hv3.mono (by simp))).below (((Below.refl v3.heap.size v3).alloc (Nat.le_refl _) _).mono (by omega)))
          have hP4 := hP3.alloc (.cells #[.int .i64 h0, .int .i64 h1, .string h2, .slice h3 h4 h5, .slice h6 h7 h8] 25)
          have hX4 := HXX.out.below hC3a hxw
          clear a0 a1 a2 a3 a4 hn3 hn3'
          obtain ⟨p0, p1, p2, p3, p4⟩ := hP4.cells5
          obtain ⟨b0, b1, b2, b3, b4⟩ := hX4.cells5
          go_wp2_with (go_at_call 16; refine (num9_l3 _ _).mono ?_; rintro e w9 ⟨rfl, hw⟩; obtain rfl : _ = w9 := hw)
          refine (HSS.out _ _ _ _ (HNX.out _ hC3a) L3.out : Calls _ _ _ _ _).mono ?_; rintro e v4 ⟨rfl, hv4⟩
          have hC4 := nextB hC3a hv4
          have hQ4 := hQ3.below hv4 hQ3.lt
          have hA4 := HAA.out.below hC4 haw
          have M4 : Hid (NdIs v4 v4.heap.size a [.int .i64 h0, .int .i64 h1, .string h2, .slice h3 h4 h5, .slice h6 h7 h8]) := NdIs.more (by have := hv4.size; simp at this; omega) _ _ (M3.out.below (hv4.mono (by simp)))
          clear p0 p1 p2 p3 p4 b0 b1 b2 b3 b4
          obtain ⟨a0, a1, a2, a3, a4⟩ := hA4.cells5
          obtain ⟨p0, p1, p2, p3, p4⟩ := hQ4.cells5
          go_wp2_with (go_at_call 16; refine (num9_l3 _ _).mono ?_; rintro e w9 ⟨rfl, hw⟩; obtain rfl : _ = w9 := hw)
          refine (HSS.out _ _ _ _ M4.out (HNA.out _ hC4) : Calls _ _ _ _ _).mono ?_; rintro e v5 ⟨rfl, hv5⟩
          have hC5 := nextB hC4 hv5
          clear p0 p1 p2 p3 p4 a0 a1 a2 a3 a4
          go_wp2_with fail
          refine (HW.out _ (nextB HBW.out hC5)).mono ?_; rintro e v6 ⟨rfl, hv6⟩
          go_wp2_with fail
          go_ret
          exact ⟨rfl, nextB HBW.out (nextB hC5 hv6)⟩
end Go.Proofs.YtnbfagignbbmfaaDoor
