/- Texts of one seat, one behind the other: Pt7, Pt8, Pt9, Pt10, Pj1, Pt11, NdOpen. No condition. -/
import Derived.Test.YtnbfagignbbmfaaDoorQ4
import Derived.Deep.Slices
import Derived.ReadAgain
import Derived.ChangeReads
import Derived.ProofKit
import Derived.OpenShut
/-! The walk of point's get at a star. -/
namespace Go.Proofs.YtnbfagignbbmfaaDoor
open Go.RowKit Go.PlainAid
set_option linter.unusedVariables false
set_option linter.unusedSimpArgs false
set_option maxRecDepth 100000
set_option maxHeartbeats 4000000 in
theorem get_star1 (p : ByteArray) (IH : GetOK []) (n : Nd) (h6 : n.kind = 6) (hp42 : p.toList = [42]) : GetStep p [] n 1 1 (fun ab ao => some ⟨ab, ao, none⟩) := by
  intro hpz cs w S ab ao hn hS hab hp hr hc hs hct
  skip
  cases n with
  | mk k num t ks ns =>
  have HK : Hid (∀ (i : Nat) (m : Nd), ns[i]? = some m → sizeOk m ∧ m.count ≤ 1000000) := fun i m hi => by
    have := kid_ok (n := .mk k num t ks ns) (i := i) (m := m) hi hs
    exact ⟨this.1, by omega⟩
  have hcn0 : Nd.count.counts ns ≤ 1000000 := by simp only [Nd.count] at hct; omega
  simp only [Nd.kind] at h6
  subst h6
  have HG : Hid (getN (p :: []) (.mk 6 num t ks ns) = match starL (getN []) ns [] with | none => none | some l => some (.mk 6 0 ⟨#[]⟩ [] l)) := by
    show _ = _
    rw [getN, if_neg (by show ¬ (6 : Int) = 7; decide), if_pos (by rfl), if_pos hp42]
    simp only [Nd.kids]
    cases starL (getN []) ns [] <;> rfl
  unfold NdIn at hn
  obtain ⟨A1, ck, A2, cc, xs, rfl, hks, hxs, hns, ik, inn, ht, hkl, hkm, hmm⟩ := hn
  have e42 : (p.toList == [42]) = true := by rw [hp42]; rfl
  have hnl : ns.length ≤ 1000000 := Nat.le_trans (len_counts ns) hcn0
  have HS := Lib.hid hS
  have HXS := Lib.hid hxs
  have HNS := Lib.hid hns
  have HR := Lib.hid hr
  have HCN := Lib.hid hcn0
  clear hS hks hxs hns hkl hr hs hp42 hcn0 hct ik inn ht hkm hmm
  have hp0 := Lib.hid hp
  show Calls Tryd.prog 34 #[.agg #[.int .i64 6, .int .i64 num, .string t, .slice A1 ks.length ck, .slice A2 ns.length cc], .slice (some ⟨ab, ao, none⟩) 1 1] w _
  have hA : Below w.heap.size w ((w.alloc (.cells #[.int .i64 6, .int .i64 num, .string t, .slice A1 ks.length ck, .slice A2 ns.length cc] 25)).alloc (.cells #[.int .i64 0, .int .i64 0, .string ⟨#[]⟩, .slice none 0 0, .slice none 0 0] 25)) := ((Below.refl _ _).alloc (Nat.le_refl _) _).alloc (by simp) _
  have hX : Blk ((w.alloc (.cells #[.int .i64 6, .int .i64 num, .string t, .slice A1 ks.length ck, .slice A2 ns.length cc] 25)).alloc (.cells #[.int .i64 0, .int .i64 0, .string ⟨#[]⟩, .slice none 0 0, .slice none 0 0] 25)) w.heap.size 25 #[.int .i64 6, .int .i64 num, .string t, .slice A1 ks.length ck, .slice A2 ns.length cc] := (Blk.new w _ _).alloc _
  have hY : Blk ((w.alloc (.cells #[.int .i64 6, .int .i64 num, .string t, .slice A1 ks.length ck, .slice A2 ns.length cc] 25)).alloc (.cells #[.int .i64 0, .int .i64 0, .string ⟨#[]⟩, .slice none 0 0, .slice none 0 0] 25)) (w.heap.size + 1) 25 #[.int .i64 0, .int .i64 0, .string ⟨#[]⟩, .slice none 0 0, .slice none 0 0] := by
    have := Blk.new (w.alloc (.cells #[.int .i64 6, .int .i64 num, .string t, .slice A1 ks.length ck, .slice A2 ns.length cc] 25)) 25 #[.int .i64 0, .int .i64 0, .string ⟨#[]⟩, .slice none 0 0, .slice none 0 0]
    simpa using this
  have hZ : w.heap.size + 2 = ((w.alloc (.cells #[.int .i64 6, .int .i64 num, .string t, .slice A1 ks.length ck, .slice A2 ns.length cc] 25)).alloc (.cells #[.int .i64 0, .int .i64 0, .string ⟨#[]⟩, .slice none 0 0, .slice none 0 0] 25)).heap.size := by simp
  have HA := Lib.hid hA
  have HX := Lib.hid hX
  have HY := Lib.hid hY
  clear hA hX hY
  go_enter Tryd.func34, Tryd.ntmps34
  go_upto_region 1 with fail
  generalize (w.alloc (.cells #[.int .i64 6, .int .i64 num, .string t, .slice A1 ks.length ck, .slice A2 ns.length cc] 25)).alloc (.cells #[.int .i64 0, .int .i64 0, .string ⟨#[]⟩, .slice none 0 0, .slice none 0 0] 25) = wa at *
  have p0 : wa.cell? ⟨ab, ao, none⟩ = some (.string p) := (HA.out.cell (p := ⟨ab, ao, none⟩) hab).trans hp0.out
  obtain ⟨c0, c1, c2, c3, c4⟩ := HX.out.cells5
  clear hp
  have HI0 := Lib.hid (SInv.start S HA.out HY.out (by omega))
  have hl : w.heap.size < wa.heap.size := by omega
  have c4b : (wa.alloc (.cells #[.int .i64 6, .int .i64 0, .string ⟨#[]⟩, .slice none 0 0, .slice none 0 0] 25)).cell? ⟨w.heap.size, 4, none⟩ = some (.slice A2 ns.length cc) := (World.cell?_alloc_lt _ _ _ hl).trans c4
  go_wp2_with fail
  clear c0 c1 c2 c3 c4 p0 c4b
  go_loopw [53] (fun t53 wr => ∃ (i : Nat) (acc : List Nd) (ys : List Value) (Aw : Option Addr) (cw : Nat), i ≤ ns.length ∧ t53 = .int .i64 i ∧ Hid (starL (getN []) (ns.drop i) acc = starL (getN []) ns []) ∧ Hid (Nd.count.counts acc + Nd.count.counts (ns.drop i) ≤ 1000000) ∧ Hid (SInv w S wa.heap.size acc Aw cw ys wr))
    (fun t53 _ => ns.length - (intOf t53).toNat)
  case atStart => exact ⟨0, [], [], none, 0, by omega, rfl, rfl, by show _ ≤ _; simp only [Nd.count.counts, List.drop_zero]; have := HCN.out; omega, HI0⟩
  case round =>
    obtain ⟨i, acc, ys, Aw, cw, hi, rfl, hst, hcn, hI⟩ := hrel
    obtain ⟨wo, rfl⟩ : ∃ wo : World, wo = wr := ⟨_, rfl⟩
    have hob : wa.heap.size < wo.heap.size := hI.out.2.2.2.2.2.2
    by_cases hlt : i < ns.length
    · have hkp : ∀ q : Addr, S q.block → wo.cell? q = w.cell? q := fun q hq => hI.out.2.2.2.2.1.cell (HS.out _ hq)
      obtain ⟨b, off, m, rfl, hbS, hmi, x0, x1, x2, x3, x4, x5, x6, x7, x8, hnd, e0, e1, e2, e3, e4⟩ := (HXS.out.keep hkp).nd (NdsIn.keep hkp (fun _ h => h) _ _ HNS.out) hlt
      have hbl := HS.out b hbS
      have hwz : w.heap.size ≤ wo.heap.size := hI.out.2.2.2.2.1.size
      have HM := Lib.hid (HK.out i m hmi)
      have hdr : ns.drop i = m :: ns.drop (i + 1) := by
        obtain ⟨h1, h2⟩ := List.getElem?_eq_some_iff.1 hmi
        rw [← h2]; exact List.drop_eq_getElem_cons h1
      obtain ⟨R, hR⟩ : ∃ R, R = getN [] m := ⟨_, rfl⟩
      have HIH : Hid (∀ w', Below wo.heap.size wo w' → Calls Tryd.prog 34 #[.agg #[.int .i64 x0, .int .i64 x1, .string x2, .slice x3 x4 x5, .slice x6 x7 x8], .slice (some ⟨ab, ao, none⟩) 0 0] w' (GetP R S w')) := fun w' h' => by
        rw [hR]
        exact IH m [.int .i64 x0, .int .i64 x1, .string x2, .slice x3 x4 x5, .slice x6 x7 x8] w' S _ 0 (NdIn.keep (fun q hq => h'.cell (by have := HS.out _ hq; omega)) (fun _ h => h) _ _ hnd) (fun b hb => by have := HS.out b hb; have := h'.size; omega) ((HR.out.keep fun q hq => ((h'.mono hwz).cell hq).trans (hI.out.2.2.2.2.1.cell hq)).more (Nat.le_trans hwz h'.size)) (Nat.le_refl _) (by unfold maxLen at *; omega) HM.out.1 HM.out.2
      have HST1 : Hid (∀ r, R = r → starL (getN []) ns [] = match r with | none => none | some x => starL (getN []) (ns.drop (i + 1)) (starAdd x acc)) := fun r hr => by
        rw [← hst.out, hdr, starL, ← hR, hr]; cases r <;> rfl
      have HCN1 : Hid (∀ x, R = some x → Nd.count.counts (starAdd x acc) + Nd.count.counts (ns.drop (i + 1)) ≤ 1000000 ∧ x.count ≤ 1000000) := fun x hx => by
        have h1 := hcn.out
        rw [hdr] at h1
        simp only [Nd.count.counts] at h1
        have h2 := (getN_ok [] m x (by rw [← hR]; exact hx) HM.out.1 HM.out.2).2
        refine ⟨?_, by omega⟩
        cases x with
        | mk k num t ks ms =>
          unfold starAdd
          split
          · rw [counts_app]; simp only [Nd.kids, Nd.count] at h2 ⊢; omega
          · rw [counts_app]; simp only [Nd.count.counts]; omega
      have hal : acc.length ≤ 1000000 := by
        have h1 := len_counts acc
        have h2 := hcn.out
        omega
      have HOW : Hid (∀ g, (Value.slice Aw acc.length cw).ownBlock = some g → g < wo.heap.size) := fun g hg => (own_lt hI.out.1 hg).2
      have HBK0 : Hid (Blk (wo.alloc (.cells #[.int .i64 x0, .int .i64 x1, .string x2, .slice x3 x4 x5, .slice x6 x7 x8] 25)) wo.heap.size 25 #[.int .i64 x0, .int .i64 x1, .string x2, .slice x3 x4 x5, .slice x6 x7 x8]) := Blk.new wo _ _
      have HWK : Hid (Below wo.heap.size wo (wo.alloc (.cells #[.int .i64 x0, .int .i64 x1, .string x2, .slice x3 x4 x5, .slice x6 x7 x8] 25))) := (Below.refl _ _).alloc (Nat.le_refl _) _
      have HS0 : Hid ((wo.alloc (.cells #[.int .i64 x0, .int .i64 x1, .string x2, .slice x3 x4 x5, .slice x6 x7 x8] 25)).drew.cell? ⟨wo.heap.size, 0, none⟩ = some (.int .i64 x0) ∧ (wo.alloc (.cells #[.int .i64 x0, .int .i64 x1, .string x2, .slice x3 x4 x5, .slice x6 x7 x8] 25)).drew.cell? ⟨wo.heap.size, 1, none⟩ = some (.int .i64 x1) ∧ (wo.alloc (.cells #[.int .i64 x0, .int .i64 x1, .string x2, .slice x3 x4 x5, .slice x6 x7 x8] 25)).drew.cell? ⟨wo.heap.size, 2, none⟩ = some (.string x2) ∧ (wo.alloc (.cells #[.int .i64 x0, .int .i64 x1, .string x2, .slice x3 x4 x5, .slice x6 x7 x8] 25)).drew.cell? ⟨wo.heap.size, 3, none⟩ = some (.slice x3 x4 x5) ∧ (wo.alloc (.cells #[.int .i64 x0, .int .i64 x1, .string x2, .slice x3 x4 x5, .slice x6 x7 x8] 25)).drew.cell? ⟨wo.heap.size, 4, none⟩ = some (.slice x6 x7 x8)) := HBK0.out.drew.cells5
      have HSB0 : Hid (((wo.alloc (.cells #[.int .i64 x0, .int .i64 x1, .string x2, .slice x3 x4 x5, .slice x6 x7 x8] 25)).drew.alloc (.cells #[.int .i64 0, .int .i64 0, .string ⟨#[]⟩, .slice none 0 0, .slice none 0 0] 25)).cell? ⟨wo.heap.size, 0, none⟩ = some (.int .i64 x0) ∧ ((wo.alloc (.cells #[.int .i64 x0, .int .i64 x1, .string x2, .slice x3 x4 x5, .slice x6 x7 x8] 25)).drew.alloc (.cells #[.int .i64 0, .int .i64 0, .string ⟨#[]⟩, .slice none 0 0, .slice none 0 0] 25)).cell? ⟨wo.heap.size, 1, none⟩ = some (.int .i64 x1) ∧ ((wo.alloc (.cells #[.int .i64 x0, .int .i64 x1, .string x2, .slice x3 x4 x5, .slice x6 x7 x8] 25)).drew.alloc (.cells #[.int .i64 0, .int .i64 0, .string ⟨#[]⟩, .slice none 0 0, .slice none 0 0] 25)).cell? ⟨wo.heap.size, 2, none⟩ = some (.string x2) ∧ ((wo.alloc (.cells #[.int .i64 x0, .int .i64 x1, .string x2, .slice x3 x4 x5, .slice x6 x7 x8] 25)).drew.alloc (.cells #[.int .i64 0, .int .i64 0, .string ⟨#[]⟩, .slice none 0 0, .slice none 0 0] 25)).cell? ⟨wo.heap.size, 3, none⟩ = some (.slice x3 x4 x5) ∧ ((wo.alloc (.cells #[.int .i64 x0, .int .i64 x1, .string x2, .slice x3 x4 x5, .slice x6 x7 x8] 25)).drew.alloc (.cells #[.int .i64 0, .int .i64 0, .string ⟨#[]⟩, .slice none 0 0, .slice none 0 0] 25)).cell? ⟨wo.heap.size, 4, none⟩ = some (.slice x6 x7 x8)) := (HBK0.out.drew.alloc _).cells5
      have HSB1 : Hid (((wo.alloc (.cells #[.int .i64 x0, .int .i64 x1, .string x2, .slice x3 x4 x5, .slice x6 x7 x8] 25)).alloc (.cells #[.int .i64 0, .int .i64 0, .string ⟨#[]⟩, .slice none 0 0, .slice none 0 0] 25)).drew.cell? ⟨wo.heap.size, 0, none⟩ = some (.int .i64 x0) ∧ ((wo.alloc (.cells #[.int .i64 x0, .int .i64 x1, .string x2, .slice x3 x4 x5, .slice x6 x7 x8] 25)).alloc (.cells #[.int .i64 0, .int .i64 0, .string ⟨#[]⟩, .slice none 0 0, .slice none 0 0] 25)).drew.cell? ⟨wo.heap.size, 1, none⟩ = some (.int .i64 x1) ∧ ((wo.alloc (.cells #[.int .i64 x0, .int .i64 x1, .string x2, .slice x3 x4 x5, .slice x6 x7 x8] 25)).alloc (.cells #[.int .i64 0, .int .i64 0, .string ⟨#[]⟩, .slice none 0 0, .slice none 0 0] 25)).drew.cell? ⟨wo.heap.size, 2, none⟩ = some (.string x2) ∧ ((wo.alloc (.cells #[.int .i64 x0, .int .i64 x1, .string x2, .slice x3 x4 x5, .slice x6 x7 x8] 25)).alloc (.cells #[.int .i64 0, .int .i64 0, .string ⟨#[]⟩, .slice none 0 0, .slice none 0 0] 25)).drew.cell? ⟨wo.heap.size, 3, none⟩ = some (.slice x3 x4 x5) ∧ ((wo.alloc (.cells #[.int .i64 x0, .int .i64 x1, .string x2, .slice x3 x4 x5, .slice x6 x7 x8] 25)).alloc (.cells #[.int .i64 0, .int .i64 0, .string ⟨#[]⟩, .slice none 0 0, .slice none 0 0] 25)).drew.cell? ⟨wo.heap.size, 4, none⟩ = some (.slice x6 x7 x8)) := (HBK0.out.alloc _).drew.cells5
      have HZB : Hid (Blk ((wo.alloc (.cells #[.int .i64 x0, .int .i64 x1, .string x2, .slice x3 x4 x5, .slice x6 x7 x8] 25)).alloc (.cells #[.int .i64 0, .int .i64 0, .string ⟨#[]⟩, .slice none 0 0, .slice none 0 0] 25)).drew (wo.heap.size + 1) 25 #[.int .i64 0, .int .i64 0, .string ⟨#[]⟩, .slice none 0 0, .slice none 0 0]) := by
        have := Blk.new (wo.alloc (.cells #[.int .i64 x0, .int .i64 x1, .string x2, .slice x3 x4 x5, .slice x6 x7 x8] 25)) 25 #[.int .i64 0, .int .i64 0, .string ⟨#[]⟩, .slice none 0 0, .slice none 0 0]
        rw [show (wo.alloc (.cells #[.int .i64 x0, .int .i64 x1, .string x2, .slice x3 x4 x5, .slice x6 x7 x8] 25)).heap.size = wo.heap.size + 1 by simp] at this
        exact this.drew
      have HBA : Hid (Below wo.heap.size wo (wo.alloc (.cells #[.int .i64 x0, .int .i64 x1, .string x2, .slice x3 x4 x5, .slice x6 x7 x8] 25)).drew) := HWK.out.drew
      have HBB : Hid (Below wo.heap.size wo ((wo.alloc (.cells #[.int .i64 x0, .int .i64 x1, .string x2, .slice x3 x4 x5, .slice x6 x7 x8] 25)).alloc (.cells #[.int .i64 0, .int .i64 0, .string ⟨#[]⟩, .slice none 0 0, .slice none 0 0] 25)).drew) := (HWK.out.alloc (by simp) _).drew
      have hzz : ((wo.alloc (.cells #[.int .i64 x0, .int .i64 x1, .string x2, .slice x3 x4 x5, .slice x6 x7 x8] 25)).alloc (.cells #[.int .i64 0, .int .i64 0, .string ⟨#[]⟩, .slice none 0 0, .slice none 0 0] 25)).drew.heap.size = wo.heap.size + 2 := by show ((wo.alloc (.cells #[.int .i64 x0, .int .i64 x1, .string x2, .slice x3 x4 x5, .slice x6 x7 x8] 25)).alloc (.cells #[.int .i64 0, .int .i64 0, .string ⟨#[]⟩, .slice none 0 0, .slice none 0 0] 25)).heap.size = _; simp
      have HZZ := Lib.hid hzz
      have hkz : wo.heap.size ≠ wo.heap.size + 1 := by omega
      have hi0 : (0 : Int) ≤ (i : Int) := by omega
      have hi1 : (i : Int) < (ns.length : Int) := by omega
      have bo : ¬ b = wo.heap.size := by omega
      clear hkp hmi hnd hbS hst hcn hdr hR hzz
      go_upto_region 13 with fail
      go_cut [11, 12] (fun t11 t12 wx => ∃ (zb : Nat) (y0 y1 : Int) (y2 : ByteArray) (y3 : Option Addr) (y4 y5 : Nat) (y6 : Option Addr) (y7 y8 : Nat), t11 = .pointer (some ⟨zb, 0, none⟩) ∧ t12 = .bool R.isSome ∧ Hid (Blk wx zb 25 #[.int .i64 y0, .int .i64 y1, .string y2, .slice y3 y4 y5, .slice y6 y7 y8]) ∧ Hid (NdIn wx (fun b => S b ∨ (wo.heap.size + 1 ≤ b ∧ b < wx.heap.size ∧ b ≠ zb)) (R.getD (nd0 0)) [.int .i64 y0, .int .i64 y1, .string y2, .slice y3 y4 y5, .slice y6 y7 y8]) ∧ Hid (Below wo.heap.size wo wx) ∧ wo.heap.size + 1 ≤ zb)
      case first =>
        skip
        skip
        go_region_held3 (fun w' => w'.cell? ⟨wo.heap.size, 0, none⟩ = some (.int .i64 x0) ∧ w'.cell? ⟨wo.heap.size, 1, none⟩ = some (.int .i64 x1) ∧ w'.cell? ⟨wo.heap.size, 2, none⟩ = some (.string x2) ∧ w'.cell? ⟨wo.heap.size, 3, none⟩ = some (.slice x3 x4 x5) ∧ w'.cell? ⟨wo.heap.size, 4, none⟩ = some (.slice x6 x7 x8)) (first | with_reducible exact HS0.out | with_reducible exact HSB0.out | with_reducible exact HSB1.out | with_reducible exact HS5.out | with_reducible exact HS5a.out | with_reducible exact HS5b.out) (first
          | (go_at_call 34; (with_reducible refine (HIH.out (wo.alloc (.cells #[.int .i64 x0, .int .i64 x1, .string x2, .slice x3 x4 x5, .slice x6 x7 x8] 25)).drew HBA.out).mono ?_); rintro e w5 ⟨y0, y1, y2, y3, y4, y5, y6, y7, y8, rfl, hn5, hb5⟩; have HN5 := Lib.hid hn5; have HB5 := Lib.hid hb5; clear hn5 hb5; have HS5 : Hid (w5.cell? ⟨wo.heap.size, 0, none⟩ = some (.int .i64 x0) ∧ w5.cell? ⟨wo.heap.size, 1, none⟩ = some (.int .i64 x1) ∧ w5.cell? ⟨wo.heap.size, 2, none⟩ = some (.string x2) ∧ w5.cell? ⟨wo.heap.size, 3, none⟩ = some (.slice x3 x4 x5) ∧ w5.cell? ⟨wo.heap.size, 4, none⟩ = some (.slice x6 x7 x8)) := (HBK0.out.drew.below HB5.out HBK0.out.drew.lt).cells5; have HS5a : Hid ((w5.alloc (.cells #[.int .i64 0, .int .i64 0, .string ⟨#[]⟩, .slice none 0 0, .slice none 0 0] 25)).cell? ⟨wo.heap.size, 0, none⟩ = some (.int .i64 x0) ∧ (w5.alloc (.cells #[.int .i64 0, .int .i64 0, .string ⟨#[]⟩, .slice none 0 0, .slice none 0 0] 25)).cell? ⟨wo.heap.size, 1, none⟩ = some (.int .i64 x1) ∧ (w5.alloc (.cells #[.int .i64 0, .int .i64 0, .string ⟨#[]⟩, .slice none 0 0, .slice none 0 0] 25)).cell? ⟨wo.heap.size, 2, none⟩ = some (.string x2) ∧ (w5.alloc (.cells #[.int .i64 0, .int .i64 0, .string ⟨#[]⟩, .slice none 0 0, .slice none 0 0] 25)).cell? ⟨wo.heap.size, 3, none⟩ = some (.slice x3 x4 x5) ∧ (w5.alloc (.cells #[.int .i64 0, .int .i64 0, .string ⟨#[]⟩, .slice none 0 0, .slice none 0 0] 25)).cell? ⟨wo.heap.size, 4, none⟩ = some (.slice x6 x7 x8)) := ((HBK0.out.drew.below HB5.out HBK0.out.drew.lt).alloc _).cells5; have HS5b : Hid ((w5.alloc (.cells #[.int .i64 y0, .int .i64 y1, .string y2, .slice y3 y4 y5, .slice y6 y7 y8] 25)).cell? ⟨wo.heap.size, 0, none⟩ = some (.int .i64 x0) ∧ (w5.alloc (.cells #[.int .i64 y0, .int .i64 y1, .string y2, .slice y3 y4 y5, .slice y6 y7 y8] 25)).cell? ⟨wo.heap.size, 1, none⟩ = some (.int .i64 x1) ∧ (w5.alloc (.cells #[.int .i64 y0, .int .i64 y1, .string y2, .slice y3 y4 y5, .slice y6 y7 y8] 25)).cell? ⟨wo.heap.size, 2, none⟩ = some (.string x2) ∧ (w5.alloc (.cells #[.int .i64 y0, .int .i64 y1, .string y2, .slice y3 y4 y5, .slice y6 y7 y8] 25)).cell? ⟨wo.heap.size, 3, none⟩ = some (.slice x3 x4 x5) ∧ (w5.alloc (.cells #[.int .i64 y0, .int .i64 y1, .string y2, .slice y3 y4 y5, .slice y6 y7 y8] 25)).cell? ⟨wo.heap.size, 4, none⟩ = some (.slice x6 x7 x8)) := ((HBK0.out.drew.below HB5.out HBK0.out.drew.lt).alloc _).cells5)
          | (go_at_call 34; (with_reducible refine (HIH.out ((wo.alloc (.cells #[.int .i64 x0, .int .i64 x1, .string x2, .slice x3 x4 x5, .slice x6 x7 x8] 25)).alloc (.cells #[.int .i64 0, .int .i64 0, .string ⟨#[]⟩, .slice none 0 0, .slice none 0 0] 25)).drew HBB.out).mono ?_); rintro e w5 ⟨y0, y1, y2, y3, y4, y5, y6, y7, y8, rfl, hn5, hb5⟩; have HN5 := Lib.hid hn5; have HB5 := Lib.hid hb5; clear hn5 hb5; have HK5 := Lib.hid ((HBK0.out.alloc (.cells #[.int .i64 0, .int .i64 0, .string ⟨#[]⟩, .slice none 0 0, .slice none 0 0] 25)).drew.below HB5.out (HBK0.out.alloc (.cells #[.int .i64 0, .int .i64 0, .string ⟨#[]⟩, .slice none 0 0, .slice none 0 0] 25)).drew.lt); have HS5 : Hid (w5.cell? ⟨wo.heap.size, 0, none⟩ = some (.int .i64 x0) ∧ w5.cell? ⟨wo.heap.size, 1, none⟩ = some (.int .i64 x1) ∧ w5.cell? ⟨wo.heap.size, 2, none⟩ = some (.string x2) ∧ w5.cell? ⟨wo.heap.size, 3, none⟩ = some (.slice x3 x4 x5) ∧ w5.cell? ⟨wo.heap.size, 4, none⟩ = some (.slice x6 x7 x8)) := HK5.out.cells5; have HZ5 := Lib.hid (HZB.out.below HB5.out HZB.out.lt); obtain ⟨d0, d1, d2, d3, d4⟩ := HZ5.out.cells5; have f0 := HZ5.out.frozen 0; have f1 := HZ5.out.frozen 1; have f2 := HZ5.out.frozen 2; have f3 := HZ5.out.frozen 3; have f4 := HZ5.out.frozen 4; have HS5b : Hid ((((((w5.setCell ⟨wo.heap.size + 1, 0, none⟩ (.int .i64 y0)).setCell ⟨wo.heap.size + 1, 1, none⟩ (.int .i64 y1)).setCell ⟨wo.heap.size + 1, 2, none⟩ (.string y2)).setCell ⟨wo.heap.size + 1, 3, none⟩ (.slice y3 y4 y5)).setCell ⟨wo.heap.size + 1, 4, none⟩ (.slice y6 y7 y8)).cell? ⟨wo.heap.size, 0, none⟩ = some (.int .i64 x0) ∧ (((((w5.setCell ⟨wo.heap.size + 1, 0, none⟩ (.int .i64 y0)).setCell ⟨wo.heap.size + 1, 1, none⟩ (.int .i64 y1)).setCell ⟨wo.heap.size + 1, 2, none⟩ (.string y2)).setCell ⟨wo.heap.size + 1, 3, none⟩ (.slice y3 y4 y5)).setCell ⟨wo.heap.size + 1, 4, none⟩ (.slice y6 y7 y8)).cell? ⟨wo.heap.size, 1, none⟩ = some (.int .i64 x1) ∧ (((((w5.setCell ⟨wo.heap.size + 1, 0, none⟩ (.int .i64 y0)).setCell ⟨wo.heap.size + 1, 1, none⟩ (.int .i64 y1)).setCell ⟨wo.heap.size + 1, 2, none⟩ (.string y2)).setCell ⟨wo.heap.size + 1, 3, none⟩ (.slice y3 y4 y5)).setCell ⟨wo.heap.size + 1, 4, none⟩ (.slice y6 y7 y8)).cell? ⟨wo.heap.size, 2, none⟩ = some (.string x2) ∧ (((((w5.setCell ⟨wo.heap.size + 1, 0, none⟩ (.int .i64 y0)).setCell ⟨wo.heap.size + 1, 1, none⟩ (.int .i64 y1)).setCell ⟨wo.heap.size + 1, 2, none⟩ (.string y2)).setCell ⟨wo.heap.size + 1, 3, none⟩ (.slice y3 y4 y5)).setCell ⟨wo.heap.size + 1, 4, none⟩ (.slice y6 y7 y8)).cell? ⟨wo.heap.size, 3, none⟩ = some (.slice x3 x4 x5) ∧ (((((w5.setCell ⟨wo.heap.size + 1, 0, none⟩ (.int .i64 y0)).setCell ⟨wo.heap.size + 1, 1, none⟩ (.int .i64 y1)).setCell ⟨wo.heap.size + 1, 2, none⟩ (.string y2)).setCell ⟨wo.heap.size + 1, 3, none⟩ (.slice y3 y4 y5)).setCell ⟨wo.heap.size + 1, 4, none⟩ (.slice y6 y7 y8)).cell? ⟨wo.heap.size, 4, none⟩ = some (.slice x6 x7 x8)) := (set5_far HK5.out hkz).cells5))
        · go_wp2_with fail
          go_meet
          have hz5 : (wo.alloc (.cells #[.int .i64 x0, .int .i64 x1, .string x2, .slice x3 x4 x5, .slice x6 x7 x8] 25)).drew.heap.size ≤ w5.heap.size := HB5.out.size
          have hz6 : (wo.alloc (.cells #[.int .i64 x0, .int .i64 x1, .string x2, .slice x3 x4 x5, .slice x6 x7 x8] 25)).drew.heap.size = wo.heap.size + 1 := by show (wo.alloc (.cells #[.int .i64 x0, .int .i64 x1, .string x2, .slice x3 x4 x5, .slice x6 x7 x8] 25)).heap.size = _; simp
          refine ⟨w5.heap.size, y0, y1, y2, y3, y4, y5, y6, y7, y8, rfl, rfl, Blk.new w5 _ _, ?_, ((HBA.out.trans (HB5.out.mono (by omega))).alloc (by omega) _ : Below _ _ _), by omega⟩
          exact NdIn.keep (fun q hq => World.cell?_alloc_lt _ _ _ (by
            rcases hq with hq | hq
            · have := HS.out _ hq; omega
            · exact hq.2)) (fun b hb => by
            rcases hb with hb | hb
            · exact .inl hb
            · have h1 : (wo.alloc (.cells #[.int .i64 x0, .int .i64 x1, .string x2, .slice x3 x4 x5, .slice x6 x7 x8] 25)).drew.heap.size ≤ b := hb.1
              have h2 : b < w5.heap.size := hb.2
              exact .inr ⟨by omega, by simp; omega, by omega⟩) _ _ HN5.out
        · go_wp2_with fail
          go_meet
          have hz5 : ((wo.alloc (.cells #[.int .i64 x0, .int .i64 x1, .string x2, .slice x3 x4 x5, .slice x6 x7 x8] 25)).alloc (.cells #[.int .i64 0, .int .i64 0, .string ⟨#[]⟩, .slice none 0 0, .slice none 0 0] 25)).drew.heap.size ≤ w5.heap.size := HB5.out.size
          have hz6 := HZZ.out
          refine ⟨wo.heap.size + 1, y0, y1, y2, y3, y4, y5, y6, y7, y8, rfl, rfl, (set5_blk HZ5.out : Blk _ _ _ _), ?_, (set5_below (HBB.out.trans (HB5.out.mono (by omega))) (by omega) : Below _ _ _), by omega⟩
          exact set5_in HN5.out (fun b hb => by
            rcases hb with hb | hb
            · have := HS.out _ hb; omega
            · have h1 : ((wo.alloc (.cells #[.int .i64 x0, .int .i64 x1, .string x2, .slice x3 x4 x5, .slice x6 x7 x8] 25)).alloc (.cells #[.int .i64 0, .int .i64 0, .string ⟨#[]⟩, .slice none 0 0, .slice none 0 0] 25)).drew.heap.size ≤ b := hb.1
              omega) (fun b hb => by
            rcases hb with hb | hb
            · exact .inl hb
            · have h1 : ((wo.alloc (.cells #[.int .i64 x0, .int .i64 x1, .string x2, .slice x3 x4 x5, .slice x6 x7 x8] 25)).alloc (.cells #[.int .i64 0, .int .i64 0, .string ⟨#[]⟩, .slice none 0 0, .slice none 0 0] 25)).drew.heap.size ≤ b := hb.1
              have h2 : b < w5.heap.size := hb.2
              exact .inr ⟨by omega, by show b < (set5 w5 _ _ _ _ _ _).heap.size; rw [set5_size]; exact h2, by omega⟩)
      case rest =>
        obtain ⟨zb, y0, y1, y2, y3, y4, y5, y6, y7, y8, rfl, rfl, hzb, hn5, hbb, hz2⟩ := hcut
        have HI5 := Lib.hid (hI.out.later HS.out hbb.out)
        clear HIH HS0 HSB0 HSB1 HZB HBA HBB HBK0 HWK HZZ hkz hI HI0
        cases R with
        | none =>
          obtain ⟨d0, d1, d2, d3, d4⟩ := HI5.out.2.2.2.1.cells5
          have f0 := HI5.out.2.2.2.1.frozen 0
          have f1 := HI5.out.2.2.2.1.frozen 1
          have f2 := HI5.out.2.2.2.1.frozen 2
          have f3 := HI5.out.2.2.2.1.frozen 3
          have f4 := HI5.out.2.2.2.1.frozen 4
          go_wp2_with fail
          clear d0 d1 d2 d3 d4 f0 f1 f2 f3 f4
          have F := get_fin (r := none) (S := S) (S2 := (fun _ => False)) (w := w) (w2 := wc) (y := w.heap.size + 1) (by omega) HI5.out.2.2.2.2.1 HI5.out.2.2.2.1 (nd0_in 0 (by unfold I64; omega) _ _) (fun b hb => hb.elim)
          unfold set5 at F
          generalize (((((wc).setCell ⟨w.heap.size + 1, 0, none⟩ (.int .i64 0)).setCell ⟨w.heap.size + 1, 1, none⟩ (.int .i64 0)).setCell ⟨w.heap.size + 1, 2, none⟩ (.string ⟨#[]⟩)).setCell ⟨w.heap.size + 1, 3, none⟩ (.slice none 0 0)).setCell ⟨w.heap.size + 1, 4, none⟩ (.slice none 0 0) = WF at *
          obtain ⟨F1, F2⟩ := F
          obtain ⟨q0, q1, q2, q3, q4⟩ := F1.cells5
          refine bodyPost_ret (v := .tuple #[.agg #[.int .i64 0, .int .i64 0, .string ⟨#[]⟩, .slice none 0 0, .slice none 0 0], .bool false]) (by simp [results, Tryd.results34, go_sem, q0, q1, q2, q3, q4]) rfl ?_
          rw [HG.out, HST1.out none rfl]
          exact F2
        | some x =>
          obtain ⟨k2, m2, t2, ks2, ms⟩ := x
          obtain ⟨hcx, hcy⟩ := HCN1.out _ rfl
          have HN7 : Hid (NdIn wc (fun b => S b ∨ (wo.heap.size + 1 ≤ b ∧ b < wc.heap.size ∧ b ≠ zb)) (.mk k2 m2 t2 ks2 ms) [.int .i64 y0, .int .i64 y1, .string y2, .slice y3 y4 y5, .slice y6 y7 y8]) := hn5.out
          have hT : ∀ b, (S b ∨ (wo.heap.size + 1 ≤ b ∧ b < wc.heap.size ∧ b ≠ zb)) → (S b ∨ SK (wa.heap.size + 1) wc (.slice Aw acc.length cw) b) := fun b hb => by
            rcases hb with hb | hb
            · exact .inl hb
            · exact .inr ⟨by omega, hb.2.1, fun e => by have := HOW.out _ e; omega⟩
          have hTz : ∀ b, (S b ∨ SK (wa.heap.size + 1) wc (.slice Aw acc.length cw) b) → b < wc.heap.size := fun b hb => by
            rcases hb with hb | hb
            · have := HS.out _ hb; have := HI5.out.2.2.2.2.1.size; omega
            · exact hb.2.1
          have HN8 : Hid (NdIn wc (fun b => S b ∨ SK (wa.heap.size + 1) wc (.slice Aw acc.length cw) b) (.mk k2 m2 t2 ks2 ms) [.int .i64 y0, .int .i64 y1, .string y2, .slice y3 y4 y5, .slice y6 y7 y8]) := NdIn.mono hT HN7.out
          have hu := HN8.out
          unfold NdIn at hu
          obtain ⟨B1, bk, B2, bc, zs, heq, _, hrs, hnds, _, _, _, _, _, _⟩ := hu
          cases heq
          have HRS : Hid (Reads wc wc.heap.size 5 y6 ms.length zs) := hrs.reads hTz
          have HMS := Lib.hid hnds
          have HFL := Lib.hid (NdsIn.flat_ok _ _ hnds)
          have hwcz := HI5.out.2.2.2.2.2.2
          obtain ⟨z0, z1, z2, z3, z4⟩ := hzb.out.cells5
          obtain ⟨o0, o1, o2, o3, o4⟩ := HI5.out.2.2.1.cells5
          clear o0 o1 o2 o3 hT hTz hrs hnds hn5 HN7
          by_cases hk6 : y0 = 6
          · subst hk6
            have hst2 : Hid (starL (getN []) (ns.drop (i + 1)) (acc ++ ms) = starL (getN []) ns []) := by
              show _ = _
              have := HST1.out _ rfl
              simp only [starAdd, Nd.kind, Nd.kids, if_true] at this
              exact this.symm
            have hcn2 : Hid (Nd.count.counts (acc ++ ms) + Nd.count.counts (ns.drop (i + 1)) ≤ 1000000) := by
              simp only [starAdd, Nd.kind, Nd.kids, if_true] at hcx
              exact hcx
            have hml : ms.length ≤ 1000000 := by
              have := len_counts ms
              simp only [Nd.count] at hcy; omega
            clear HST1 HCN1 hcx hcy z1 z2 z3
            go_wp2_with (at_builtin; refine wpList_pushNds _ rfl _ _ rfl (wa.heap.size + 1) (.slice Aw acc.length cw) acc.length ys (by first | rfl | simp [Act.eval]) HI5.out.1 wc.heap.size y6 ms.length y8 zs HRS.out HFL.out (by first | rfl | simp [Act.eval]) ?lim ?hB ?_; (case lim => omega); (case hB => omega); intro v' w3 ho3 hg3 hv3; obtain ⟨Av, cv, rfl⟩ := own_form ho3; have HP := Lib.hid (SInv.push HI5.out HS.out ms zs HMS.out (by simp) ho3 hg3 hv3); have hb3 := HI5.out.2.2.1.grown hg3 (fun e => by have := (own_lt HI5.out.1 e.symm).1; omega); obtain ⟨o0, o1, o2, o3, o4⟩ := hb3.cells5; have of4 := hb3.frozen 4; clear o0 o1 o2 o3 ho3 hg3 hv3 hb3)
            go_roundw
            case rel => exact ⟨i + 1, acc ++ ms, ys ++ zs, Av, cv, by omega, by go_num, hst2, hcn2, HP⟩
            case measure => simp [intOf]; omega
          · have e6 : (y0 == 6) = false := by rw [beq_eq_false_iff_ne]; exact hk6
            have hst2 : Hid (starL (getN []) (ns.drop (i + 1)) (acc ++ [.mk y0 y1 y2 ks2 ms]) = starL (getN []) ns []) := by
              show _ = _
              have := HST1.out _ rfl
              have hsa : starAdd (.mk y0 y1 y2 ks2 ms) acc = acc ++ [.mk y0 y1 y2 ks2 ms] := if_neg hk6
              simp only [hsa] at this
              exact this.symm
            have hcn2 : Hid (Nd.count.counts (acc ++ [.mk y0 y1 y2 ks2 ms]) + Nd.count.counts (ns.drop (i + 1)) ≤ 1000000) := by
              have hsa : starAdd (.mk y0 y1 y2 ks2 ms) acc = acc ++ [.mk y0 y1 y2 ks2 ms] := if_neg hk6
              rw [hsa] at hcx
              exact hcx
            have HMS2 : Hid (NdsIn wc (fun b => S b ∨ SK (wa.heap.size + 1) wc (.slice Aw acc.length cw) b) [.mk y0 y1 y2 ks2 ms] [.int .i64 y0, .int .i64 y1, .string y2, .slice y3 ks2.length y5, .slice y6 ms.length y8]) := by
              exact NdsIn.app [] [] _ _ NdsIn.nil HN8.out
            clear HST1 HCN1 hcx hcy hk6
            go_wp2_with (at_builtin; refine wpList_pushNd _ rfl _ _ rfl (wa.heap.size + 1) (.slice Aw acc.length cw) acc.length ys (by first | rfl | simp [Act.eval]) HI5.out.1 y0 y1 y2 y3 ks2.length y5 y6 ms.length y8 (by first | rfl | simp [Act.eval]) ?lim ?hB ?_; (case lim => omega); (case hB => omega); intro v' w3 ho3 hg3 hv3; obtain ⟨Av, cv, rfl⟩ := own_form ho3; have HP := Lib.hid (SInv.push HI5.out HS.out [.mk y0 y1 y2 ks2 ms] [.int .i64 y0, .int .i64 y1, .string y2, .slice y3 ks2.length y5, .slice y6 ms.length y8] HMS2.out (by simp) ho3 hg3 hv3); have hb3 := HI5.out.2.2.1.grown hg3 (fun e => by have := (own_lt HI5.out.1 e.symm).1; omega); obtain ⟨o0, o1, o2, o3, o4⟩ := hb3.cells5; have of4 := hb3.frozen 4; clear o0 o1 o2 o3 ho3 hg3 hv3 hb3)
            go_roundw
            case rel => exact ⟨i + 1, acc ++ [.mk y0 y1 y2 ks2 ms], ys ++ [.int .i64 y0, .int .i64 y1, .string y2, .slice y3 ks2.length y5, .slice y6 ms.length y8], Av, cv, by omega, by go_num, hst2, hcn2, HP⟩
            case measure => simp [intOf]; omega
    · have hal : acc.length ≤ 1000000 := by
        have h1 := len_counts acc
        have h2 := hcn.out
        omega
      have HSF : Hid (starL (getN []) ns [] = some acc) := by
        show _ = _
        rw [← hst.out, List.drop_eq_nil_of_le (by omega)]; rfl
      have hwz := hI.out.2.2.2.2.2.1
      obtain ⟨o0, o1, o2, o3, o4⟩ := hI.out.2.2.1.cells5
      obtain ⟨d0, d1, d2, d3, d4⟩ := hI.out.2.2.2.1.cells5
      have f0 := hI.out.2.2.2.1.frozen 0
      have f1 := hI.out.2.2.2.1.frozen 1
      have f2 := hI.out.2.2.2.1.frozen 2
      have f3 := hI.out.2.2.2.1.frozen 3
      have f4 := hI.out.2.2.2.1.frozen 4
      clear hst hcn
      go_wp2_with fail
      clear d0 d1 d2 d3 d4 f0 f1 f2 f3 f4
      have F := get_fin (r := some (.mk 6 0 ⟨#[]⟩ [] acc)) (S := S) (S2 := (fun b => S b ∨ (wa.heap.size + 1 ≤ b ∧ b < wo.heap.size))) (w := w) (w2 := wo) (y := w.heap.size + 1) (by omega) hI.out.2.2.2.2.1 hI.out.2.2.2.1 (hI.out.node hal) (fun b hb => by
          rcases hb with hb | hb
          · exact ⟨.inl hb, fun e => by have := HS.out b hb; omega⟩
          · exact ⟨.inr ⟨by omega, hb.2⟩, by omega⟩)
      unfold set5 at F
      generalize (((((wo).setCell ⟨w.heap.size + 1, 0, none⟩ (.int .i64 6)).setCell ⟨w.heap.size + 1, 1, none⟩ (.int .i64 0)).setCell ⟨w.heap.size + 1, 2, none⟩ (.string ⟨#[]⟩)).setCell ⟨w.heap.size + 1, 3, none⟩ (.slice none 0 0)).setCell ⟨w.heap.size + 1, 4, none⟩ (.slice Aw acc.length cw) = WF at *
      obtain ⟨F1, F2⟩ := F
      obtain ⟨q0, q1, q2, q3, q4⟩ := F1.cells5
      refine bodyPost_ret (v := .tuple #[.agg #[.int .i64 6, .int .i64 0, .string ⟨#[]⟩, .slice none 0 0, .slice Aw acc.length cw], .bool true]) (by simp [results, Tryd.results34, go_sem, q0, q1, q2, q3, q4]) rfl ?_
      rw [HG.out, HSF.out]
      exact F2
set_option maxHeartbeats 4000000 in
theorem get_star2 (p : ByteArray) (l : List ByteArray) (c : Nat) (hc1 : ¬ c = 1) (hl : l.length + 1 ≤ c) (IH : GetOK l) (n : Nd) (h6 : n.kind = 6) (hp42 : p.toList = [42]) : GetStep p l n (l.length + 1) c (fun ab ao => some ⟨ab, ao + 1, none⟩) := by
  intro hpz cs w S ab ao hn hS hab hp hr hc hs hct
  have HC1 := Lib.hid hc1
  cases n with
  | mk k num t ks ns =>
  have HK : Hid (∀ (i : Nat) (m : Nd), ns[i]? = some m → sizeOk m ∧ m.count ≤ 1000000) := fun i m hi => by
    have := kid_ok (n := .mk k num t ks ns) (i := i) (m := m) hi hs
    exact ⟨this.1, by omega⟩
  have hcn0 : Nd.count.counts ns ≤ 1000000 := by simp only [Nd.count] at hct; omega
  simp only [Nd.kind] at h6
  subst h6
  have HG : Hid (getN (p :: l) (.mk 6 num t ks ns) = match starL (getN l) ns [] with | none => none | some l => some (.mk 6 0 ⟨#[]⟩ [] l)) := by
    show _ = _
    rw [getN, if_neg (by show ¬ (6 : Int) = 7; decide), if_pos (by rfl), if_pos hp42]
    simp only [Nd.kids]
    cases starL (getN l) ns [] <;> rfl
  unfold NdIn at hn
  obtain ⟨A1, ck, A2, cc, xs, rfl, hks, hxs, hns, ik, inn, ht, hkl, hkm, hmm⟩ := hn
  have e42 : (p.toList == [42]) = true := by rw [hp42]; rfl
  have hnl : ns.length ≤ 1000000 := Nat.le_trans (len_counts ns) hcn0
  have HS := Lib.hid hS
  have HXS := Lib.hid hxs
  have HNS := Lib.hid hns
  have HR := Lib.hid hr
  have HCN := Lib.hid hcn0
  clear hS hks hxs hns hkl hr hs hp42 hcn0 hct ik inn ht hkm hmm
  have hp0 := Lib.hid hp
  show Calls Tryd.prog 34 #[.agg #[.int .i64 6, .int .i64 num, .string t, .slice A1 ks.length ck, .slice A2 ns.length cc], .slice (some ⟨ab, ao, none⟩) (l.length + 1) c] w _
  have hA : Below w.heap.size w ((w.alloc (.cells #[.int .i64 6, .int .i64 num, .string t, .slice A1 ks.length ck, .slice A2 ns.length cc] 25)).alloc (.cells #[.int .i64 0, .int .i64 0, .string ⟨#[]⟩, .slice none 0 0, .slice none 0 0] 25)) := ((Below.refl _ _).alloc (Nat.le_refl _) _).alloc (by simp) _
  have hX : Blk ((w.alloc (.cells #[.int .i64 6, .int .i64 num, .string t, .slice A1 ks.length ck, .slice A2 ns.length cc] 25)).alloc (.cells #[.int .i64 0, .int .i64 0, .string ⟨#[]⟩, .slice none 0 0, .slice none 0 0] 25)) w.heap.size 25 #[.int .i64 6, .int .i64 num, .string t, .slice A1 ks.length ck, .slice A2 ns.length cc] := (Blk.new w _ _).alloc _
  have hY : Blk ((w.alloc (.cells #[.int .i64 6, .int .i64 num, .string t, .slice A1 ks.length ck, .slice A2 ns.length cc] 25)).alloc (.cells #[.int .i64 0, .int .i64 0, .string ⟨#[]⟩, .slice none 0 0, .slice none 0 0] 25)) (w.heap.size + 1) 25 #[.int .i64 0, .int .i64 0, .string ⟨#[]⟩, .slice none 0 0, .slice none 0 0] := by
    have := Blk.new (w.alloc (.cells #[.int .i64 6, .int .i64 num, .string t, .slice A1 ks.length ck, .slice A2 ns.length cc] 25)) 25 #[.int .i64 0, .int .i64 0, .string ⟨#[]⟩, .slice none 0 0, .slice none 0 0]
    simpa using this
  have hZ : w.heap.size + 2 = ((w.alloc (.cells #[.int .i64 6, .int .i64 num, .string t, .slice A1 ks.length ck, .slice A2 ns.length cc] 25)).alloc (.cells #[.int .i64 0, .int .i64 0, .string ⟨#[]⟩, .slice none 0 0, .slice none 0 0] 25)).heap.size := by simp
  have HA := Lib.hid hA
  have HX := Lib.hid hX
  have HY := Lib.hid hY
  clear hA hX hY
  go_enter Tryd.func34, Tryd.ntmps34
  go_upto_region 1 with fail
  generalize (w.alloc (.cells #[.int .i64 6, .int .i64 num, .string t, .slice A1 ks.length ck, .slice A2 ns.length cc] 25)).alloc (.cells #[.int .i64 0, .int .i64 0, .string ⟨#[]⟩, .slice none 0 0, .slice none 0 0] 25) = wa at *
  have p0 : wa.cell? ⟨ab, ao, none⟩ = some (.string p) := (HA.out.cell (p := ⟨ab, ao, none⟩) hab).trans hp0.out
  obtain ⟨c0, c1, c2, c3, c4⟩ := HX.out.cells5
  clear hp
  have HI0 := Lib.hid (SInv.start S HA.out HY.out (by omega))
  have hl : w.heap.size < wa.heap.size := by omega
  have c4b : (wa.alloc (.cells #[.int .i64 6, .int .i64 0, .string ⟨#[]⟩, .slice none 0 0, .slice none 0 0] 25)).cell? ⟨w.heap.size, 4, none⟩ = some (.slice A2 ns.length cc) := (World.cell?_alloc_lt _ _ _ hl).trans c4
  go_wp2_with fail
  clear c0 c1 c2 c3 c4 p0 c4b
  go_loopw [53] (fun t53 wr => ∃ (i : Nat) (acc : List Nd) (ys : List Value) (Aw : Option Addr) (cw : Nat), i ≤ ns.length ∧ t53 = .int .i64 i ∧ Hid (starL (getN l) (ns.drop i) acc = starL (getN l) ns []) ∧ Hid (Nd.count.counts acc + Nd.count.counts (ns.drop i) ≤ 1000000) ∧ Hid (SInv w S wa.heap.size acc Aw cw ys wr))
    (fun t53 _ => ns.length - (intOf t53).toNat)
  case atStart => exact ⟨0, [], [], none, 0, by omega, rfl, rfl, by show _ ≤ _; simp only [Nd.count.counts, List.drop_zero]; have := HCN.out; omega, HI0⟩
  case round =>
    obtain ⟨i, acc, ys, Aw, cw, hi, rfl, hst, hcn, hI⟩ := hrel
    obtain ⟨wo, rfl⟩ : ∃ wo : World, wo = wr := ⟨_, rfl⟩
    have hob : wa.heap.size < wo.heap.size := hI.out.2.2.2.2.2.2
    by_cases hlt : i < ns.length
    · have hkp : ∀ q : Addr, S q.block → wo.cell? q = w.cell? q := fun q hq => hI.out.2.2.2.2.1.cell (HS.out _ hq)
      obtain ⟨b, off, m, rfl, hbS, hmi, x0, x1, x2, x3, x4, x5, x6, x7, x8, hnd, e0, e1, e2, e3, e4⟩ := (HXS.out.keep hkp).nd (NdsIn.keep hkp (fun _ h => h) _ _ HNS.out) hlt
      have hbl := HS.out b hbS
      have hwz : w.heap.size ≤ wo.heap.size := hI.out.2.2.2.2.1.size
      have HM := Lib.hid (HK.out i m hmi)
      have hdr : ns.drop i = m :: ns.drop (i + 1) := by
        obtain ⟨h1, h2⟩ := List.getElem?_eq_some_iff.1 hmi
        rw [← h2]; exact List.drop_eq_getElem_cons h1
      obtain ⟨R, hR⟩ : ∃ R, R = getN l m := ⟨_, rfl⟩
      have HIH : Hid (∀ w', Below wo.heap.size wo w' → Calls Tryd.prog 34 #[.agg #[.int .i64 x0, .int .i64 x1, .string x2, .slice x3 x4 x5, .slice x6 x7 x8], .slice (some ⟨ab, ao + 1, none⟩) l.length (c - 1)] w' (GetP R S w')) := fun w' h' => by
        rw [hR]
        exact IH m [.int .i64 x0, .int .i64 x1, .string x2, .slice x3 x4 x5, .slice x6 x7 x8] w' S _ (c - 1) (NdIn.keep (fun q hq => h'.cell (by have := HS.out _ hq; omega)) (fun _ h => h) _ _ hnd) (fun b hb => by have := HS.out b hb; have := h'.size; omega) ((HR.out.keep fun q hq => ((h'.mono hwz).cell hq).trans (hI.out.2.2.2.2.1.cell hq)).more (Nat.le_trans hwz h'.size)) (by omega) (by unfold maxLen at *; omega) HM.out.1 HM.out.2
      have HST1 : Hid (∀ r, R = r → starL (getN l) ns [] = match r with | none => none | some x => starL (getN l) (ns.drop (i + 1)) (starAdd x acc)) := fun r hr => by
        rw [← hst.out, hdr, starL, ← hR, hr]; cases r <;> rfl
      have HCN1 : Hid (∀ x, R = some x → Nd.count.counts (starAdd x acc) + Nd.count.counts (ns.drop (i + 1)) ≤ 1000000 ∧ x.count ≤ 1000000) := fun x hx => by
        have h1 := hcn.out
        rw [hdr] at h1
        simp only [Nd.count.counts] at h1
        have h2 := (getN_ok l m x (by rw [← hR]; exact hx) HM.out.1 HM.out.2).2
        refine ⟨?_, by omega⟩
        cases x with
        | mk k num t ks ms =>
          unfold starAdd
          split
          · rw [counts_app]; simp only [Nd.kids, Nd.count] at h2 ⊢; omega
          · rw [counts_app]; simp only [Nd.count.counts]; omega
      have hal : acc.length ≤ 1000000 := by
        have h1 := len_counts acc
        have h2 := hcn.out
        omega
      have HOW : Hid (∀ g, (Value.slice Aw acc.length cw).ownBlock = some g → g < wo.heap.size) := fun g hg => (own_lt hI.out.1 hg).2
      have HBK0 : Hid (Blk (wo.alloc (.cells #[.int .i64 x0, .int .i64 x1, .string x2, .slice x3 x4 x5, .slice x6 x7 x8] 25)) wo.heap.size 25 #[.int .i64 x0, .int .i64 x1, .string x2, .slice x3 x4 x5, .slice x6 x7 x8]) := Blk.new wo _ _
      have HWK : Hid (Below wo.heap.size wo (wo.alloc (.cells #[.int .i64 x0, .int .i64 x1, .string x2, .slice x3 x4 x5, .slice x6 x7 x8] 25))) := (Below.refl _ _).alloc (Nat.le_refl _) _
      have HS0 : Hid ((wo.alloc (.cells #[.int .i64 x0, .int .i64 x1, .string x2, .slice x3 x4 x5, .slice x6 x7 x8] 25)).drew.cell? ⟨wo.heap.size, 0, none⟩ = some (.int .i64 x0) ∧ (wo.alloc (.cells #[.int .i64 x0, .int .i64 x1, .string x2, .slice x3 x4 x5, .slice x6 x7 x8] 25)).drew.cell? ⟨wo.heap.size, 1, none⟩ = some (.int .i64 x1) ∧ (wo.alloc (.cells #[.int .i64 x0, .int .i64 x1, .string x2, .slice x3 x4 x5, .slice x6 x7 x8] 25)).drew.cell? ⟨wo.heap.size, 2, none⟩ = some (.string x2) ∧ (wo.alloc (.cells #[.int .i64 x0, .int .i64 x1, .string x2, .slice x3 x4 x5, .slice x6 x7 x8] 25)).drew.cell? ⟨wo.heap.size, 3, none⟩ = some (.slice x3 x4 x5) ∧ (wo.alloc (.cells #[.int .i64 x0, .int .i64 x1, .string x2, .slice x3 x4 x5, .slice x6 x7 x8] 25)).drew.cell? ⟨wo.heap.size, 4, none⟩ = some (.slice x6 x7 x8)) := HBK0.out.drew.cells5
      have HSB0 : Hid (((wo.alloc (.cells #[.int .i64 x0, .int .i64 x1, .string x2, .slice x3 x4 x5, .slice x6 x7 x8] 25)).drew.alloc (.cells #[.int .i64 0, .int .i64 0, .string ⟨#[]⟩, .slice none 0 0, .slice none 0 0] 25)).cell? ⟨wo.heap.size, 0, none⟩ = some (.int .i64 x0) ∧ ((wo.alloc (.cells #[.int .i64 x0, .int .i64 x1, .string x2, .slice x3 x4 x5, .slice x6 x7 x8] 25)).drew.alloc (.cells #[.int .i64 0, .int .i64 0, .string ⟨#[]⟩, .slice none 0 0, .slice none 0 0] 25)).cell? ⟨wo.heap.size, 1, none⟩ = some (.int .i64 x1) ∧ ((wo.alloc (.cells #[.int .i64 x0, .int .i64 x1, .string x2, .slice x3 x4 x5, .slice x6 x7 x8] 25)).drew.alloc (.cells #[.int .i64 0, .int .i64 0, .string ⟨#[]⟩, .slice none 0 0, .slice none 0 0] 25)).cell? ⟨wo.heap.size, 2, none⟩ = some (.string x2) ∧ ((wo.alloc (.cells #[.int .i64 x0, .int .i64 x1, .string x2, .slice x3 x4 x5, .slice x6 x7 x8] 25)).drew.alloc (.cells #[.int .i64 0, .int .i64 0, .string ⟨#[]⟩, .slice none 0 0, .slice none 0 0] 25)).cell? ⟨wo.heap.size, 3, none⟩ = some (.slice x3 x4 x5) ∧ ((wo.alloc (.cells #[.int .i64 x0, .int .i64 x1, .string x2, .slice x3 x4 x5, .slice x6 x7 x8] 25)).drew.alloc (.cells #[.int .i64 0, .int .i64 0, .string ⟨#[]⟩, .slice none 0 0, .slice none 0 0] 25)).cell? ⟨wo.heap.size, 4, none⟩ = some (.slice x6 x7 x8)) := (HBK0.out.drew.alloc _).cells5
      have HSB1 : Hid (((wo.alloc (.cells #[.int .i64 x0, .int .i64 x1, .string x2, .slice x3 x4 x5, .slice x6 x7 x8] 25)).alloc (.cells #[.int .i64 0, .int .i64 0, .string ⟨#[]⟩, .slice none 0 0, .slice none 0 0] 25)).drew.cell? ⟨wo.heap.size, 0, none⟩ = some (.int .i64 x0) ∧ ((wo.alloc (.cells #[.int .i64 x0, .int .i64 x1, .string x2, .slice x3 x4 x5, .slice x6 x7 x8] 25)).alloc (.cells #[.int .i64 0, .int .i64 0, .string ⟨#[]⟩, .slice none 0 0, .slice none 0 0] 25)).drew.cell? ⟨wo.heap.size, 1, none⟩ = some (.int .i64 x1) ∧ ((wo.alloc (.cells #[.int .i64 x0, .int .i64 x1, .string x2, .slice x3 x4 x5, .slice x6 x7 x8] 25)).alloc (.cells #[.int .i64 0, .int .i64 0, .string ⟨#[]⟩, .slice none 0 0, .slice none 0 0] 25)).drew.cell? ⟨wo.heap.size, 2, none⟩ = some (.string x2) ∧ ((wo.alloc (.cells #[.int .i64 x0, .int .i64 x1, .string x2, .slice x3 x4 x5, .slice x6 x7 x8] 25)).alloc (.cells #[.int .i64 0, .int .i64 0, .string ⟨#[]⟩, .slice none 0 0, .slice none 0 0] 25)).drew.cell? ⟨wo.heap.size, 3, none⟩ = some (.slice x3 x4 x5) ∧ ((wo.alloc (.cells #[.int .i64 x0, .int .i64 x1, .string x2, .slice x3 x4 x5, .slice x6 x7 x8] 25)).alloc (.cells #[.int .i64 0, .int .i64 0, .string ⟨#[]⟩, .slice none 0 0, .slice none 0 0] 25)).drew.cell? ⟨wo.heap.size, 4, none⟩ = some (.slice x6 x7 x8)) := (HBK0.out.alloc _).drew.cells5
      have HZB : Hid (Blk ((wo.alloc (.cells #[.int .i64 x0, .int .i64 x1, .string x2, .slice x3 x4 x5, .slice x6 x7 x8] 25)).alloc (.cells #[.int .i64 0, .int .i64 0, .string ⟨#[]⟩, .slice none 0 0, .slice none 0 0] 25)).drew (wo.heap.size + 1) 25 #[.int .i64 0, .int .i64 0, .string ⟨#[]⟩, .slice none 0 0, .slice none 0 0]) := by
        have := Blk.new (wo.alloc (.cells #[.int .i64 x0, .int .i64 x1, .string x2, .slice x3 x4 x5, .slice x6 x7 x8] 25)) 25 #[.int .i64 0, .int .i64 0, .string ⟨#[]⟩, .slice none 0 0, .slice none 0 0]
        rw [show (wo.alloc (.cells #[.int .i64 x0, .int .i64 x1, .string x2, .slice x3 x4 x5, .slice x6 x7 x8] 25)).heap.size = wo.heap.size + 1 by simp] at this
        exact this.drew
      have HBA : Hid (Below wo.heap.size wo (wo.alloc (.cells #[.int .i64 x0, .int .i64 x1, .string x2, .slice x3 x4 x5, .slice x6 x7 x8] 25)).drew) := HWK.out.drew
      have HBB : Hid (Below wo.heap.size wo ((wo.alloc (.cells #[.int .i64 x0, .int .i64 x1, .string x2, .slice x3 x4 x5, .slice x6 x7 x8] 25)).alloc (.cells #[.int .i64 0, .int .i64 0, .string ⟨#[]⟩, .slice none 0 0, .slice none 0 0] 25)).drew) := (HWK.out.alloc (by simp) _).drew
      have hzz : ((wo.alloc (.cells #[.int .i64 x0, .int .i64 x1, .string x2, .slice x3 x4 x5, .slice x6 x7 x8] 25)).alloc (.cells #[.int .i64 0, .int .i64 0, .string ⟨#[]⟩, .slice none 0 0, .slice none 0 0] 25)).drew.heap.size = wo.heap.size + 2 := by show ((wo.alloc (.cells #[.int .i64 x0, .int .i64 x1, .string x2, .slice x3 x4 x5, .slice x6 x7 x8] 25)).alloc (.cells #[.int .i64 0, .int .i64 0, .string ⟨#[]⟩, .slice none 0 0, .slice none 0 0] 25)).heap.size = _; simp
      have HZZ := Lib.hid hzz
      have hkz : wo.heap.size ≠ wo.heap.size + 1 := by omega
      have hi0 : (0 : Int) ≤ (i : Int) := by omega
      have hi1 : (i : Int) < (ns.length : Int) := by omega
      have bo : ¬ b = wo.heap.size := by omega
      clear hkp hmi hnd hbS hst hcn hdr hR hzz
      go_upto_region 13 with fail
      go_cut [11, 12] (fun t11 t12 wx => ∃ (zb : Nat) (y0 y1 : Int) (y2 : ByteArray) (y3 : Option Addr) (y4 y5 : Nat) (y6 : Option Addr) (y7 y8 : Nat), t11 = .pointer (some ⟨zb, 0, none⟩) ∧ t12 = .bool R.isSome ∧ Hid (Blk wx zb 25 #[.int .i64 y0, .int .i64 y1, .string y2, .slice y3 y4 y5, .slice y6 y7 y8]) ∧ Hid (NdIn wx (fun b => S b ∨ (wo.heap.size + 1 ≤ b ∧ b < wx.heap.size ∧ b ≠ zb)) (R.getD (nd0 0)) [.int .i64 y0, .int .i64 y1, .string y2, .slice y3 y4 y5, .slice y6 y7 y8]) ∧ Hid (Below wo.heap.size wo wx) ∧ wo.heap.size + 1 ≤ zb)
      case first =>
        have hx : ¬ (l.length : Int) + 1 < 1 := by omega
        have hc9 := HC1.out
        have ht9 : ∀ w9 : World, (Instr.slice 22 (.slice (some ⟨ab, ao, none⟩) (l.length + 1) c) (some (.int .i64 1)) none none).run Tryd.prog w9 = .ok (.slice (some ⟨ab, ao + 1, none⟩) l.length (c - 1)) w9 := fun w9 => by go_simp
        go_region_held3 (fun w' => w'.cell? ⟨wo.heap.size, 0, none⟩ = some (.int .i64 x0) ∧ w'.cell? ⟨wo.heap.size, 1, none⟩ = some (.int .i64 x1) ∧ w'.cell? ⟨wo.heap.size, 2, none⟩ = some (.string x2) ∧ w'.cell? ⟨wo.heap.size, 3, none⟩ = some (.slice x3 x4 x5) ∧ w'.cell? ⟨wo.heap.size, 4, none⟩ = some (.slice x6 x7 x8)) (first | with_reducible exact HS0.out | with_reducible exact HSB0.out | with_reducible exact HSB1.out | with_reducible exact HS5.out | with_reducible exact HS5a.out | with_reducible exact HS5b.out) (first
          | (go_at_call 34; (with_reducible refine (HIH.out (wo.alloc (.cells #[.int .i64 x0, .int .i64 x1, .string x2, .slice x3 x4 x5, .slice x6 x7 x8] 25)).drew HBA.out).mono ?_); rintro e w5 ⟨y0, y1, y2, y3, y4, y5, y6, y7, y8, rfl, hn5, hb5⟩; have HN5 := Lib.hid hn5; have HB5 := Lib.hid hb5; clear hn5 hb5; have HS5 : Hid (w5.cell? ⟨wo.heap.size, 0, none⟩ = some (.int .i64 x0) ∧ w5.cell? ⟨wo.heap.size, 1, none⟩ = some (.int .i64 x1) ∧ w5.cell? ⟨wo.heap.size, 2, none⟩ = some (.string x2) ∧ w5.cell? ⟨wo.heap.size, 3, none⟩ = some (.slice x3 x4 x5) ∧ w5.cell? ⟨wo.heap.size, 4, none⟩ = some (.slice x6 x7 x8)) := (HBK0.out.drew.below HB5.out HBK0.out.drew.lt).cells5; have HS5a : Hid ((w5.alloc (.cells #[.int .i64 0, .int .i64 0, .string ⟨#[]⟩, .slice none 0 0, .slice none 0 0] 25)).cell? ⟨wo.heap.size, 0, none⟩ = some (.int .i64 x0) ∧ (w5.alloc (.cells #[.int .i64 0, .int .i64 0, .string ⟨#[]⟩, .slice none 0 0, .slice none 0 0] 25)).cell? ⟨wo.heap.size, 1, none⟩ = some (.int .i64 x1) ∧ (w5.alloc (.cells #[.int .i64 0, .int .i64 0, .string ⟨#[]⟩, .slice none 0 0, .slice none 0 0] 25)).cell? ⟨wo.heap.size, 2, none⟩ = some (.string x2) ∧ (w5.alloc (.cells #[.int .i64 0, .int .i64 0, .string ⟨#[]⟩, .slice none 0 0, .slice none 0 0] 25)).cell? ⟨wo.heap.size, 3, none⟩ = some (.slice x3 x4 x5) ∧ (w5.alloc (.cells #[.int .i64 0, .int .i64 0, .string ⟨#[]⟩, .slice none 0 0, .slice none 0 0] 25)).cell? ⟨wo.heap.size, 4, none⟩ = some (.slice x6 x7 x8)) := ((HBK0.out.drew.below HB5.out HBK0.out.drew.lt).alloc _).cells5; have HS5b : Hid ((w5.alloc (.cells #[.int .i64 y0, .int .i64 y1, .string y2, .slice y3 y4 y5, .slice y6 y7 y8] 25)).cell? ⟨wo.heap.size, 0, none⟩ = some (.int .i64 x0) ∧ (w5.alloc (.cells #[.int .i64 y0, .int .i64 y1, .string y2, .slice y3 y4 y5, .slice y6 y7 y8] 25)).cell? ⟨wo.heap.size, 1, none⟩ = some (.int .i64 x1) ∧ (w5.alloc (.cells #[.int .i64 y0, .int .i64 y1, .string y2, .slice y3 y4 y5, .slice y6 y7 y8] 25)).cell? ⟨wo.heap.size, 2, none⟩ = some (.string x2) ∧ (w5.alloc (.cells #[.int .i64 y0, .int .i64 y1, .string y2, .slice y3 y4 y5, .slice y6 y7 y8] 25)).cell? ⟨wo.heap.size, 3, none⟩ = some (.slice x3 x4 x5) ∧ (w5.alloc (.cells #[.int .i64 y0, .int .i64 y1, .string y2, .slice y3 y4 y5, .slice y6 y7 y8] 25)).cell? ⟨wo.heap.size, 4, none⟩ = some (.slice x6 x7 x8)) := ((HBK0.out.drew.below HB5.out HBK0.out.drew.lt).alloc _).cells5)
          | (go_at_call 34; (with_reducible refine (HIH.out ((wo.alloc (.cells #[.int .i64 x0, .int .i64 x1, .string x2, .slice x3 x4 x5, .slice x6 x7 x8] 25)).alloc (.cells #[.int .i64 0, .int .i64 0, .string ⟨#[]⟩, .slice none 0 0, .slice none 0 0] 25)).drew HBB.out).mono ?_); rintro e w5 ⟨y0, y1, y2, y3, y4, y5, y6, y7, y8, rfl, hn5, hb5⟩; have HN5 := Lib.hid hn5; have HB5 := Lib.hid hb5; clear hn5 hb5; have HK5 := Lib.hid ((HBK0.out.alloc (.cells #[.int .i64 0, .int .i64 0, .string ⟨#[]⟩, .slice none 0 0, .slice none 0 0] 25)).drew.below HB5.out (HBK0.out.alloc (.cells #[.int .i64 0, .int .i64 0, .string ⟨#[]⟩, .slice none 0 0, .slice none 0 0] 25)).drew.lt); have HS5 : Hid (w5.cell? ⟨wo.heap.size, 0, none⟩ = some (.int .i64 x0) ∧ w5.cell? ⟨wo.heap.size, 1, none⟩ = some (.int .i64 x1) ∧ w5.cell? ⟨wo.heap.size, 2, none⟩ = some (.string x2) ∧ w5.cell? ⟨wo.heap.size, 3, none⟩ = some (.slice x3 x4 x5) ∧ w5.cell? ⟨wo.heap.size, 4, none⟩ = some (.slice x6 x7 x8)) := HK5.out.cells5; have HZ5 := Lib.hid (HZB.out.below HB5.out HZB.out.lt); obtain ⟨d0, d1, d2, d3, d4⟩ := HZ5.out.cells5; have f0 := HZ5.out.frozen 0; have f1 := HZ5.out.frozen 1; have f2 := HZ5.out.frozen 2; have f3 := HZ5.out.frozen 3; have f4 := HZ5.out.frozen 4; have HS5b : Hid ((((((w5.setCell ⟨wo.heap.size + 1, 0, none⟩ (.int .i64 y0)).setCell ⟨wo.heap.size + 1, 1, none⟩ (.int .i64 y1)).setCell ⟨wo.heap.size + 1, 2, none⟩ (.string y2)).setCell ⟨wo.heap.size + 1, 3, none⟩ (.slice y3 y4 y5)).setCell ⟨wo.heap.size + 1, 4, none⟩ (.slice y6 y7 y8)).cell? ⟨wo.heap.size, 0, none⟩ = some (.int .i64 x0) ∧ (((((w5.setCell ⟨wo.heap.size + 1, 0, none⟩ (.int .i64 y0)).setCell ⟨wo.heap.size + 1, 1, none⟩ (.int .i64 y1)).setCell ⟨wo.heap.size + 1, 2, none⟩ (.string y2)).setCell ⟨wo.heap.size + 1, 3, none⟩ (.slice y3 y4 y5)).setCell ⟨wo.heap.size + 1, 4, none⟩ (.slice y6 y7 y8)).cell? ⟨wo.heap.size, 1, none⟩ = some (.int .i64 x1) ∧ (((((w5.setCell ⟨wo.heap.size + 1, 0, none⟩ (.int .i64 y0)).setCell ⟨wo.heap.size + 1, 1, none⟩ (.int .i64 y1)).setCell ⟨wo.heap.size + 1, 2, none⟩ (.string y2)).setCell ⟨wo.heap.size + 1, 3, none⟩ (.slice y3 y4 y5)).setCell ⟨wo.heap.size + 1, 4, none⟩ (.slice y6 y7 y8)).cell? ⟨wo.heap.size, 2, none⟩ = some (.string x2) ∧ (((((w5.setCell ⟨wo.heap.size + 1, 0, none⟩ (.int .i64 y0)).setCell ⟨wo.heap.size + 1, 1, none⟩ (.int .i64 y1)).setCell ⟨wo.heap.size + 1, 2, none⟩ (.string y2)).setCell ⟨wo.heap.size + 1, 3, none⟩ (.slice y3 y4 y5)).setCell ⟨wo.heap.size + 1, 4, none⟩ (.slice y6 y7 y8)).cell? ⟨wo.heap.size, 3, none⟩ = some (.slice x3 x4 x5) ∧ (((((w5.setCell ⟨wo.heap.size + 1, 0, none⟩ (.int .i64 y0)).setCell ⟨wo.heap.size + 1, 1, none⟩ (.int .i64 y1)).setCell ⟨wo.heap.size + 1, 2, none⟩ (.string y2)).setCell ⟨wo.heap.size + 1, 3, none⟩ (.slice y3 y4 y5)).setCell ⟨wo.heap.size + 1, 4, none⟩ (.slice y6 y7 y8)).cell? ⟨wo.heap.size, 4, none⟩ = some (.slice x6 x7 x8)) := (set5_far HK5.out hkz).cells5))
        · go_wp2_with fail
          go_meet
          have hz5 : (wo.alloc (.cells #[.int .i64 x0, .int .i64 x1, .string x2, .slice x3 x4 x5, .slice x6 x7 x8] 25)).drew.heap.size ≤ w5.heap.size := HB5.out.size
          have hz6 : (wo.alloc (.cells #[.int .i64 x0, .int .i64 x1, .string x2, .slice x3 x4 x5, .slice x6 x7 x8] 25)).drew.heap.size = wo.heap.size + 1 := by show (wo.alloc (.cells #[.int .i64 x0, .int .i64 x1, .string x2, .slice x3 x4 x5, .slice x6 x7 x8] 25)).heap.size = _; simp
          refine ⟨w5.heap.size, y0, y1, y2, y3, y4, y5, y6, y7, y8, rfl, rfl, Blk.new w5 _ _, ?_, ((HBA.out.trans (HB5.out.mono (by omega))).alloc (by omega) _ : Below _ _ _), by omega⟩
          exact NdIn.keep (fun q hq => World.cell?_alloc_lt _ _ _ (by
            rcases hq with hq | hq
            · have := HS.out _ hq; omega
            · exact hq.2)) (fun b hb => by
            rcases hb with hb | hb
            · exact .inl hb
            · have h1 : (wo.alloc (.cells #[.int .i64 x0, .int .i64 x1, .string x2, .slice x3 x4 x5, .slice x6 x7 x8] 25)).drew.heap.size ≤ b := hb.1
              have h2 : b < w5.heap.size := hb.2
              exact .inr ⟨by omega, by simp; omega, by omega⟩) _ _ HN5.out
        · go_wp2_with fail
          go_meet
          have hz5 : ((wo.alloc (.cells #[.int .i64 x0, .int .i64 x1, .string x2, .slice x3 x4 x5, .slice x6 x7 x8] 25)).alloc (.cells #[.int .i64 0, .int .i64 0, .string ⟨#[]⟩, .slice none 0 0, .slice none 0 0] 25)).drew.heap.size ≤ w5.heap.size := HB5.out.size
          have hz6 := HZZ.out
          refine ⟨wo.heap.size + 1, y0, y1, y2, y3, y4, y5, y6, y7, y8, rfl, rfl, (set5_blk HZ5.out : Blk _ _ _ _), ?_, (set5_below (HBB.out.trans (HB5.out.mono (by omega))) (by omega) : Below _ _ _), by omega⟩
          exact set5_in HN5.out (fun b hb => by
            rcases hb with hb | hb
            · have := HS.out _ hb; omega
            · have h1 : ((wo.alloc (.cells #[.int .i64 x0, .int .i64 x1, .string x2, .slice x3 x4 x5, .slice x6 x7 x8] 25)).alloc (.cells #[.int .i64 0, .int .i64 0, .string ⟨#[]⟩, .slice none 0 0, .slice none 0 0] 25)).drew.heap.size ≤ b := hb.1
              omega) (fun b hb => by
            rcases hb with hb | hb
            · exact .inl hb
            · have h1 : ((wo.alloc (.cells #[.int .i64 x0, .int .i64 x1, .string x2, .slice x3 x4 x5, .slice x6 x7 x8] 25)).alloc (.cells #[.int .i64 0, .int .i64 0, .string ⟨#[]⟩, .slice none 0 0, .slice none 0 0] 25)).drew.heap.size ≤ b := hb.1
              have h2 : b < w5.heap.size := hb.2
              exact .inr ⟨by omega, by show b < (set5 w5 _ _ _ _ _ _).heap.size; rw [set5_size]; exact h2, by omega⟩)
      case rest =>
        obtain ⟨zb, y0, y1, y2, y3, y4, y5, y6, y7, y8, rfl, rfl, hzb, hn5, hbb, hz2⟩ := hcut
        have HI5 := Lib.hid (hI.out.later HS.out hbb.out)
        clear HIH HS0 HSB0 HSB1 HZB HBA HBB HBK0 HWK HZZ hkz hI HI0
        cases R with
        | none =>
          obtain ⟨d0, d1, d2, d3, d4⟩ := HI5.out.2.2.2.1.cells5
          have f0 := HI5.out.2.2.2.1.frozen 0
          have f1 := HI5.out.2.2.2.1.frozen 1
          have f2 := HI5.out.2.2.2.1.frozen 2
          have f3 := HI5.out.2.2.2.1.frozen 3
          have f4 := HI5.out.2.2.2.1.frozen 4
          go_wp2_with fail
          clear d0 d1 d2 d3 d4 f0 f1 f2 f3 f4
          have F := get_fin (r := none) (S := S) (S2 := (fun _ => False)) (w := w) (w2 := wc) (y := w.heap.size + 1) (by omega) HI5.out.2.2.2.2.1 HI5.out.2.2.2.1 (nd0_in 0 (by unfold I64; omega) _ _) (fun b hb => hb.elim)
          unfold set5 at F
          generalize (((((wc).setCell ⟨w.heap.size + 1, 0, none⟩ (.int .i64 0)).setCell ⟨w.heap.size + 1, 1, none⟩ (.int .i64 0)).setCell ⟨w.heap.size + 1, 2, none⟩ (.string ⟨#[]⟩)).setCell ⟨w.heap.size + 1, 3, none⟩ (.slice none 0 0)).setCell ⟨w.heap.size + 1, 4, none⟩ (.slice none 0 0) = WF at *
          obtain ⟨F1, F2⟩ := F
          obtain ⟨q0, q1, q2, q3, q4⟩ := F1.cells5
          refine bodyPost_ret (v := .tuple #[.agg #[.int .i64 0, .int .i64 0, .string ⟨#[]⟩, .slice none 0 0, .slice none 0 0], .bool false]) (by simp [results, Tryd.results34, go_sem, q0, q1, q2, q3, q4]) rfl ?_
          rw [HG.out, HST1.out none rfl]
          exact F2
        | some x =>
          obtain ⟨k2, m2, t2, ks2, ms⟩ := x
          obtain ⟨hcx, hcy⟩ := HCN1.out _ rfl
          have HN7 : Hid (NdIn wc (fun b => S b ∨ (wo.heap.size + 1 ≤ b ∧ b < wc.heap.size ∧ b ≠ zb)) (.mk k2 m2 t2 ks2 ms) [.int .i64 y0, .int .i64 y1, .string y2, .slice y3 y4 y5, .slice y6 y7 y8]) := hn5.out
          have hT : ∀ b, (S b ∨ (wo.heap.size + 1 ≤ b ∧ b < wc.heap.size ∧ b ≠ zb)) → (S b ∨ SK (wa.heap.size + 1) wc (.slice Aw acc.length cw) b) := fun b hb => by
            rcases hb with hb | hb
            · exact .inl hb
            · exact .inr ⟨by omega, hb.2.1, fun e => by have := HOW.out _ e; omega⟩
          have hTz : ∀ b, (S b ∨ SK (wa.heap.size + 1) wc (.slice Aw acc.length cw) b) → b < wc.heap.size := fun b hb => by
            rcases hb with hb | hb
            · have := HS.out _ hb; have := HI5.out.2.2.2.2.1.size; omega
            · exact hb.2.1
          have HN8 : Hid (NdIn wc (fun b => S b ∨ SK (wa.heap.size + 1) wc (.slice Aw acc.length cw) b) (.mk k2 m2 t2 ks2 ms) [.int .i64 y0, .int .i64 y1, .string y2, .slice y3 y4 y5, .slice y6 y7 y8]) := NdIn.mono hT HN7.out
          have hu := HN8.out
          unfold NdIn at hu
          obtain ⟨B1, bk, B2, bc, zs, heq, _, hrs, hnds, _, _, _, _, _, _⟩ := hu
          cases heq
          have HRS : Hid (Reads wc wc.heap.size 5 y6 ms.length zs) := hrs.reads hTz
          have HMS := Lib.hid hnds
          have HFL := Lib.hid (NdsIn.flat_ok _ _ hnds)
          have hwcz := HI5.out.2.2.2.2.2.2
          obtain ⟨z0, z1, z2, z3, z4⟩ := hzb.out.cells5
          obtain ⟨o0, o1, o2, o3, o4⟩ := HI5.out.2.2.1.cells5
          clear o0 o1 o2 o3 hT hTz hrs hnds hn5 HN7
          by_cases hk6 : y0 = 6
          · subst hk6
            have hst2 : Hid (starL (getN l) (ns.drop (i + 1)) (acc ++ ms) = starL (getN l) ns []) := by
              show _ = _
              have := HST1.out _ rfl
              simp only [starAdd, Nd.kind, Nd.kids, if_true] at this
              exact this.symm
            have hcn2 : Hid (Nd.count.counts (acc ++ ms) + Nd.count.counts (ns.drop (i + 1)) ≤ 1000000) := by
              simp only [starAdd, Nd.kind, Nd.kids, if_true] at hcx
              exact hcx
            have hml : ms.length ≤ 1000000 := by
              have := len_counts ms
              simp only [Nd.count] at hcy; omega
            clear HST1 HCN1 hcx hcy z1 z2 z3
            go_wp2_with (at_builtin; refine wpList_pushNds _ rfl _ _ rfl (wa.heap.size + 1) (.slice Aw acc.length cw) acc.length ys (by first | rfl | simp [Act.eval]) HI5.out.1 wc.heap.size y6 ms.length y8 zs HRS.out HFL.out (by first | rfl | simp [Act.eval]) ?lim ?hB ?_; (case lim => omega); (case hB => omega); intro v' w3 ho3 hg3 hv3; obtain ⟨Av, cv, rfl⟩ := own_form ho3; have HP := Lib.hid (SInv.push HI5.out HS.out ms zs HMS.out (by simp) ho3 hg3 hv3); have hb3 := HI5.out.2.2.1.grown hg3 (fun e => by have := (own_lt HI5.out.1 e.symm).1; omega); obtain ⟨o0, o1, o2, o3, o4⟩ := hb3.cells5; have of4 := hb3.frozen 4; clear o0 o1 o2 o3 ho3 hg3 hv3 hb3)
            go_roundw
            case rel => exact ⟨i + 1, acc ++ ms, ys ++ zs, Av, cv, by omega, by go_num, hst2, hcn2, HP⟩
            case measure => simp [intOf]; omega
          · have e6 : (y0 == 6) = false := by rw [beq_eq_false_iff_ne]; exact hk6
            have hst2 : Hid (starL (getN l) (ns.drop (i + 1)) (acc ++ [.mk y0 y1 y2 ks2 ms]) = starL (getN l) ns []) := by
              show _ = _
              have := HST1.out _ rfl
              have hsa : starAdd (.mk y0 y1 y2 ks2 ms) acc = acc ++ [.mk y0 y1 y2 ks2 ms] := if_neg hk6
              simp only [hsa] at this
              exact this.symm
            have hcn2 : Hid (Nd.count.counts (acc ++ [.mk y0 y1 y2 ks2 ms]) + Nd.count.counts (ns.drop (i + 1)) ≤ 1000000) := by
              have hsa : starAdd (.mk y0 y1 y2 ks2 ms) acc = acc ++ [.mk y0 y1 y2 ks2 ms] := if_neg hk6
              rw [hsa] at hcx
              exact hcx
            have HMS2 : Hid (NdsIn wc (fun b => S b ∨ SK (wa.heap.size + 1) wc (.slice Aw acc.length cw) b) [.mk y0 y1 y2 ks2 ms] [.int .i64 y0, .int .i64 y1, .string y2, .slice y3 ks2.length y5, .slice y6 ms.length y8]) := by
              exact NdsIn.app [] [] _ _ NdsIn.nil HN8.out
            clear HST1 HCN1 hcx hcy hk6
            go_wp2_with (at_builtin; refine wpList_pushNd _ rfl _ _ rfl (wa.heap.size + 1) (.slice Aw acc.length cw) acc.length ys (by first | rfl | simp [Act.eval]) HI5.out.1 y0 y1 y2 y3 ks2.length y5 y6 ms.length y8 (by first | rfl | simp [Act.eval]) ?lim ?hB ?_; (case lim => omega); (case hB => omega); intro v' w3 ho3 hg3 hv3; obtain ⟨Av, cv, rfl⟩ := own_form ho3; have HP := Lib.hid (SInv.push HI5.out HS.out [.mk y0 y1 y2 ks2 ms] [.int .i64 y0, .int .i64 y1, .string y2, .slice y3 ks2.length y5, .slice y6 ms.length y8] HMS2.out (by simp) ho3 hg3 hv3); have hb3 := HI5.out.2.2.1.grown hg3 (fun e => by have := (own_lt HI5.out.1 e.symm).1; omega); obtain ⟨o0, o1, o2, o3, o4⟩ := hb3.cells5; have of4 := hb3.frozen 4; clear o0 o1 o2 o3 ho3 hg3 hv3 hb3)
            go_roundw
            case rel => exact ⟨i + 1, acc ++ [.mk y0 y1 y2 ks2 ms], ys ++ [.int .i64 y0, .int .i64 y1, .string y2, .slice y3 ks2.length y5, .slice y6 ms.length y8], Av, cv, by omega, by go_num, hst2, hcn2, HP⟩
            case measure => simp [intOf]; omega
    · have hal : acc.length ≤ 1000000 := by
        have h1 := len_counts acc
        have h2 := hcn.out
        omega
      have HSF : Hid (starL (getN l) ns [] = some acc) := by
        show _ = _
        rw [← hst.out, List.drop_eq_nil_of_le (by omega)]; rfl
      have hwz := hI.out.2.2.2.2.2.1
      obtain ⟨o0, o1, o2, o3, o4⟩ := hI.out.2.2.1.cells5
      obtain ⟨d0, d1, d2, d3, d4⟩ := hI.out.2.2.2.1.cells5
      have f0 := hI.out.2.2.2.1.frozen 0
      have f1 := hI.out.2.2.2.1.frozen 1
      have f2 := hI.out.2.2.2.1.frozen 2
      have f3 := hI.out.2.2.2.1.frozen 3
      have f4 := hI.out.2.2.2.1.frozen 4
      clear hst hcn
      go_wp2_with fail
      clear d0 d1 d2 d3 d4 f0 f1 f2 f3 f4
      have F := get_fin (r := some (.mk 6 0 ⟨#[]⟩ [] acc)) (S := S) (S2 := (fun b => S b ∨ (wa.heap.size + 1 ≤ b ∧ b < wo.heap.size))) (w := w) (w2 := wo) (y := w.heap.size + 1) (by omega) hI.out.2.2.2.2.1 hI.out.2.2.2.1 (hI.out.node hal) (fun b hb => by
          rcases hb with hb | hb
          · exact ⟨.inl hb, fun e => by have := HS.out b hb; omega⟩
          · exact ⟨.inr ⟨by omega, hb.2⟩, by omega⟩)
      unfold set5 at F
      generalize (((((wo).setCell ⟨w.heap.size + 1, 0, none⟩ (.int .i64 6)).setCell ⟨w.heap.size + 1, 1, none⟩ (.int .i64 0)).setCell ⟨w.heap.size + 1, 2, none⟩ (.string ⟨#[]⟩)).setCell ⟨w.heap.size + 1, 3, none⟩ (.slice none 0 0)).setCell ⟨w.heap.size + 1, 4, none⟩ (.slice Aw acc.length cw) = WF at *
      obtain ⟨F1, F2⟩ := F
      obtain ⟨q0, q1, q2, q3, q4⟩ := F1.cells5
      refine bodyPost_ret (v := .tuple #[.agg #[.int .i64 6, .int .i64 0, .string ⟨#[]⟩, .slice none 0 0, .slice Aw acc.length cw], .bool true]) (by simp [results, Tryd.results34, go_sem, q0, q1, q2, q3, q4]) rfl ?_
      rw [HG.out, HSF.out]
      exact F2
end Go.Proofs.YtnbfagignbbmfaaDoor
/-! point's get at any parts; the parts' closure made. -/
namespace Go.Proofs.YtnbfagignbbmfaaDoor
open Go.RowKit Go.PlainAid
set_option linter.unusedVariables false
set_option linter.unusedSimpArgs false
set_option maxRecDepth 100000
theorem pget_any : ∀ (l : List ByteArray), (∀ s ∈ l, s.size ≤ 1000000) → GetOK l
  | [], _ => get_nil
  | p :: l, hz => by
    have IH := pget_any l (fun s hs => hz s (by simp [hs]))
    intro n cs w S A c hn hS hr hl hc hs hct
    have hpz : p.size ≤ 9223372036854775807 := by have := hz p (by simp); omega
    obtain ⟨ad, rfl, hab, hcell⟩ := hr.2 (by simp)
    have hp0 := hcell 0 (.string p) rfl
    have hsp := spot_none hp0
    obtain ⟨ab, ao, sp⟩ := ad
    have hsn : sp = none := by
      unfold Addr.add at hsp
      split at hsp <;> simp_all
    subst hsn
    rw [show (⟨ab, ao, none⟩ : Addr).add 0 = ⟨ab, ao, none⟩ by simp [Addr.add]] at hp0
    by_cases hc1 : c = 1
    · have hl0 : l = [] := by
        cases l with
        | nil => rfl
        | cons a l => simp at hl; omega
      subst hl0 hc1
      have ht : Reads w w.heap.size 1 ((fun ab ao => some (⟨ab, ao, none⟩ : Addr)) ab ao) ([] : List ByteArray).length (([] : List ByteArray).map Value.string) := ⟨rfl, fun h => absurd h (by simp)⟩
      by_cases h7 : n.kind = 7
      · exact get_obj1 p IH n h7 hpz cs w S ab ao hn hS hab hp0 ht hc hs hct
      · by_cases h6 : n.kind = 6
        · by_cases h42 : p.toList = [42]
          · exact get_star1 p IH n h6 h42 hpz cs w S ab ao hn hS hab hp0 ht hc hs hct
          · exact get_place1 p IH n h6 h42 hpz cs w S ab ao hn hS hab hp0 ht hc hs hct
        · exact get_other p [] n 1 (fun ab ao => some ⟨ab, ao, none⟩) h7 h6 hpz cs w S ab ao hn hS hab hp0 ht hc hs hct
    · have hl2 : l.length + 1 ≤ c := by simpa using hl
      have ht : Reads w w.heap.size 1 ((fun ab ao => some (⟨ab, ao + 1, none⟩ : Addr)) ab ao) l.length (l.map Value.string) := ⟨by simp, fun h => ⟨_, rfl, hab, fun j u hu => by
        have := hcell (j + 1) u (by simpa using hu)
        rw [show (⟨ab, ao, none⟩ : Addr).add (j + 1) = ⟨ab, ao + (j + 1), none⟩ by unfold Addr.add; split <;> simp_all] at this
        rw [show (⟨ab, ao + 1, none⟩ : Addr).add j = ⟨ab, ao + (j + 1), none⟩ by unfold Addr.add; split <;> simp_all <;> omega]
        exact this⟩⟩
      by_cases h7 : n.kind = 7
      · exact get_obj2 p l c hc1 hl2 IH n h7 hpz cs w S ab ao hn hS hab hp0 ht hc hs hct
      · by_cases h6 : n.kind = 6
        · by_cases h42 : p.toList = [42]
          · exact get_star2 p l c hc1 hl2 IH n h6 h42 hpz cs w S ab ao hn hS hab hp0 ht hc hs hct
          · exact get_place2 p l c hc1 hl2 IH n h6 h42 hpz cs w S ab ao hn hS hab hp0 ht hc hs hct
        · exact get_other p l n c (fun ab ao => some ⟨ab, ao + 1, none⟩) h7 h6 hpz cs w S ab ao hn hS hab hp0 ht hc hs hct
theorem strInfoP : (Tryd.prog.info? 9).map (fun i => (i.zero, i.size, i.bytes)) = some (some (.string ⟨#[]⟩), 1, 16) := by kernel_rfl
/-- a text that stands in the newest block, appended to texts of the call's own -/
theorem wpList_pushStrP (w : World) {ops : Array Oper} {rest : List Oper} {o : Oper} {a : Act} {Q : Exit → Act → World → Prop} (hgd : o.guard = none) (s x : Operand)
    (ho : o.op = .call { callee := .builtin .append, args := #[s, x], argTypes := #[22, 22] })
    (B : Nat) (v : Value) (n : Nat) (xs : List Value) (hs : a.eval s = v) (hown : w.ownsRow B 9 1 v n xs) (t : ByteArray)
    (hx : a.eval x = .slice (some ⟨w.heap.size, 0, none⟩) 1 1)
    (hlim : n + 1 ≤ 1000000000000) (hB : B ≤ w.heap.size)
    (h : ∀ v' w', w'.ownsRow B 9 1 v' (n + 1) (xs ++ [.string t]) → w.grownBy w' v.ownBlock → wpList Tryd.prog ops Q rest (a.put o.dst v') w') :
    wpList Tryd.prog ops Q (o :: rest) a (w.alloc (.cells #[.string t] 9)) := by
  obtain ⟨i0, hi0, hz0, hz1, hz2⟩ := info_parts strInfoP
  have hr : Reads (w.alloc (.cells #[.string t] 9)) (w.heap.size + 1) 1 (some ⟨w.heap.size, 0, none⟩) 1 [.string t] := by
    refine ⟨rfl, fun _ => ⟨_, rfl, by simp, fun j u hj => ?_⟩⟩
    have e : (⟨w.heap.size, 0, none⟩ : Addr).add j = ⟨w.heap.size, j, none⟩ := by unfold Addr.add; split <;> simp_all
    rw [e, World.cell?_alloc_mark]
    simpa using hj
  refine wpList_plain hgd fun K hK => ?_
  obtain ⟨v', w', h1, h2, h3, h4⟩ := run_append_any (P := Tryd.prog) _ B 22 o.type 9 i0 _ 1 16 Tryd.underlying22 hi0 hz0 hz1 hz2 rfl (by omega) v n _ (World.ownsRow.alloc hown _) (w.heap.size + 1) _ 1 1 _ hr
    (fun u hu => by simp at hu; rcases hu with rfl; rfl) (by simp only [maxLen]; omega) (by omega) (by simp; omega)
  unfold Oper.wp execOp
  simp only [ho, resolve, invoke, builtin, Sem.run_bind, Sem.run_pure, Result.andThen_ok, List.map_toArray, List.map_cons, List.map_nil, hs, hx, h1]
  exact hK _ _ (h v' w' h2 ((World.grownBy_alloc w _ _).trans h3))
theorem own_readsP {w : World} {B s n c : Nat} {e : TypeId} {A : Option Addr} {xs : List Value} (h : w.ownsRow B e s (.slice A n c) n xs) : Reads w w.heap.size s A n xs := by
  refine ⟨h.1, fun hn => ?_⟩
  obtain ⟨g, cap, hv, _, hlt⟩ := World.ownsRow.form h hn
  injection hv with e1 _ _
  subst e1
  exact ⟨_, rfl, hlt, fun j u hj => World.ownsRow.cells h rfl j u hj⟩
theorem own_cap {w : World} {B s n c : Nat} {e : TypeId} {A : Option Addr} {xs : List Value} (h : w.ownsRow B e s (.slice A n c) n xs) : n ≤ c ∧ c ≤ maxLen := by
  rcases h.2 with ⟨hv, hx⟩ | ⟨g, cap, cur, hv, _, _, h1, h2, _⟩
  · injection hv with e1 e2 e3; subst e3; exact ⟨by omega, by simp [maxLen]⟩
  · injection hv with e1 e2 e3; subst e3; exact ⟨h1, h2⟩
theorem parts_any (path : ByteArray) (w : World) : Calls Tryd.prog 33 #[.string path] w fun e w' => e = .returned (.func (.func 46) #[] #[.pointer (some ⟨w.heap.size, 0, none⟩)]) ∧ w' = w.alloc (.cells #[.string path] 9) := by
  have hmf : ∀ (fn : Fn) (first cap : Array Value) (w : World), (Instr.makeFunc fn first cap).run Tryd.prog w = .ok (.func fn first cap) w := fun _ _ _ _ => rfl
  go_enter Tryd.func33, Tryd.ntmps33
  go_wp2_with fail
  go_ret
  exact ⟨rfl, rfl⟩
/-- what a path tells of a node: the node, or the error -/
noncomputable def pointN (n : Nd) (path : ByteArray) : Option Nd × Int :=
  if rightD n 0 = false then (none, 1) else if formP path = false then (none, 3) else match getN (partsP path) n with
  | none => (none, 7)
  | some m => (some m, 0)
def PointP (r : Option Nd × Int) (w : World) (e : Ending) (w' : World) : Prop := ∃ (c0 c1 : Int) (c2 : ByteArray) (c3 : Option Addr) (c4 c5 : Nat) (c6 : Option Addr) (c7 c8 : Nat),
  e = .returned (.tuple #[.agg #[.int .i64 c0, .int .i64 c1, .string c2, .slice c3 c4 c5, .slice c6 c7 c8], .int .i64 r.2]) ∧ NdIn w' (Since w w') (r.1.getD (nd0 0)) [.int .i64 c0, .int .i64 c1, .string c2, .slice c3 c4 c5, .slice c6 c7 c8] ∧ Below w.heap.size w w'
theorem point_fin {r : Option Nd × Int} {S2 : Nat → Prop} {w w2 : World} {y : Nat} {a b c d e : Value} {c0 c1 : Int} {c2 : ByteArray} {c3 : Option Addr} {c4 c5 : Nat} {c6 : Option Addr} {c7 c8 : Nat}
    (hyb : w.heap.size ≤ y) (hb : Below w.heap.size w w2) (hy : Blk w2 y 25 #[a, b, c, d, e]) (hn : NdIn w2 S2 (r.1.getD (nd0 0)) [.int .i64 c0, .int .i64 c1, .string c2, .slice c3 c4 c5, .slice c6 c7 c8])
    (hS2 : ∀ b, S2 b → Since w w2 b ∧ b ≠ y) :
    Blk (set5 w2 y (.int .i64 c0) (.int .i64 c1) (.string c2) (.slice c3 c4 c5) (.slice c6 c7 c8)) y 25 #[.int .i64 c0, .int .i64 c1, .string c2, .slice c3 c4 c5, .slice c6 c7 c8] ∧
    PointP r w (.returned (.tuple #[.agg #[.int .i64 c0, .int .i64 c1, .string c2, .slice c3 c4 c5, .slice c6 c7 c8], .int .i64 r.2])) (set5 w2 y (.int .i64 c0) (.int .i64 c1) (.string c2) (.slice c3 c4 c5) (.slice c6 c7 c8)) :=
  ⟨set5_blk hy, _, _, _, _, _, _, _, _, _, rfl, set5_in hn (fun b hb => (hS2 b hb).2) (fun b hb => ⟨(hS2 b hb).1.1, by rw [set5_size]; exact (hS2 b hb).1.2⟩), set5_below hb hyb⟩
end Go.Proofs.YtnbfagignbbmfaaDoor
/-! The walk of point's Get. -/
namespace Go.Proofs.YtnbfagignbbmfaaDoor
open Go.RowKit Go.PlainAid
set_option linter.unusedVariables false
set_option linter.unusedSimpArgs false
set_option maxRecDepth 100000
theorem partsF_step {q : ByteArray} {c : UInt8} {r : List UInt8} (h : q.toList = c :: r) {q2 : ByteArray} (h2 : q2.toList = r.dropWhile (· != 47)) : partsF q.size q.toList = ⟨(unesc (r.takeWhile (· != 47))).toArray⟩ :: partsF q2.size q2.toList := by
  have hs : q.size = r.length + 1 := by rw [← toList_len, h]; simp
  rw [h, hs, partsF_cons _ _ _ (Nat.le_refl _)]
  congr 1
  have h3 : (r.dropWhile (· != 47)).length ≤ r.length := (List.dropWhile_suffix _).length_le
  rw [h2]
  refine partsF_fuel _ _ _ h3 ?_
  rw [← toList_len q2, h2]; exact Nat.le_refl _
theorem partsF_empty {q : ByteArray} (h : q.toList = []) : partsF q.size q.toList = [] := by
  rw [h]; cases q.size <;> rfl
def sLenP (v : Value) : Nat := match v with | .slice _ n _ => n | _ => 0
/-- what the closure of parts tells next -/
def NextP (pb : Nat) (q : ByteArray) (w : World) (e : Ending) (w' : World) : Prop := ∃ (s q2 : ByteArray) (b : Bool), e = .returned (.tuple #[.string s, .bool b]) ∧ partsF q.size q.toList = (if b = true then s :: partsF q2.size q2.toList else []) ∧ Blk w' pb 9 #[.string q2] ∧ q2.size ≤ 1000 ∧ w.grownBy w' (some pb) ∧ MaxOK w'
theorem next_any (pb : Nat) (q : ByteArray) (w : World) (h : Blk w pb 9 #[.string q]) (hs : q.size ≤ 1000) (hM : MaxOK w) : Calls Tryd.prog 46 #[.pointer (some ⟨pb, 0, none⟩)] w (NextP pb q w) := by
  have hb0 : pb ≠ 0 := fun e => by
    subst e
    obtain ⟨m, hm⟩ := hM
    have := (h.cell 0).symm.trans hm
    simp at this
  cases hq : q.toList with
  | nil =>
    refine (parts1_nil pb q w h hq).mono ?_
    rintro e w' ⟨rfl, rfl⟩
    exact ⟨_, q, false, rfl, by rw [partsF_empty hq]; rfl, h, hs, World.grownBy.refl w _, hM⟩
  | cons c r =>
    refine (parts1_cons pb q c r w h hq hs hM).mono ?_
    rintro e w' ⟨rfl, ⟨q2, h1, h2, h3⟩, h4⟩
    exact ⟨_, q2, true, rfl, by rw [partsF_step hq h1]; rfl, h3, h2, h4, hM.grown h4 hb0⟩
theorem MaxOK.grownR {w w1 : World} {row : Option Nat} (h : MaxOK w) (hb : w.grownBy w1 row) (hne : some 0 ≠ row) : MaxOK w1 := by
  have hl := h.lt
  obtain ⟨m, hm⟩ := h
  exact ⟨m, (World.cell?_of_block (hb.block 0 hl hne)).trans hm⟩
theorem partsP_size (path : ByteArray) : ∀ s ∈ partsP path, s.size ≤ path.size := fun s hs => by
  have := partsF_size _ _ s hs
  rw [toList_len] at this; exact this
theorem partsP_len (path : ByteArray) : (partsP path).length ≤ path.size := by
  have := partsF_len path.size path.toList
  rw [toList_len] at this; exact this
theorem one_node {w : World} {m : Nd} {cs : List Value} (hn : NdIs w w.heap.size m cs) (h5 : cs.length = 5) (w2 : World) (k1 k2 : Nat) (hk1 : k1 < w2.heap.size) (hk2 : k2 < w2.heap.size) (hb : Below w.heap.size w w2) (h1 : Blk w2 k1 9 #[.string ⟨#[]⟩]) (h2 : Blk w2 k2 25 cs.toArray) :
    NdIs w2 w2.heap.size (.mk 7 0 ⟨#[]⟩ [⟨#[]⟩] [m]) [.int .i64 7, .int .i64 0, .string ⟨#[]⟩, .slice (some ⟨k1, 0, none⟩) 1 1, .slice (some ⟨k2, 0, none⟩) 1 1] := by
  unfold NdIs
  have e : ∀ g j : Nat, (⟨g, 0, none⟩ : Addr).add j = ⟨g, j, none⟩ := fun g j => by unfold Addr.add; split <;> simp_all
  refine ⟨_, 1, _, 1, cs, rfl, ⟨rfl, fun _ => ⟨_, rfl, hk1, fun j u hu => ?_⟩⟩, ⟨by simpa using h5, fun _ => ⟨_, rfl, hk2, fun j u hu => ?_⟩⟩, ?_, by unfold I64; omega, by unfold I64; omega, by (show (0 : Nat) ≤ maxLen); exact Nat.zero_le _, ?_, by simp [maxLen], by simp [maxLen]⟩
  · rw [e, h1.cell j]; simpa using hu
  · rw [e, h2.cell j]; simpa using hu
  · unfold NdsIs
    exact ⟨cs, [], by simp, NdIs.more hb.size _ _ (hn.below hb), by unfold NdsIs; rfl⟩
  · intro s hs
    simp at hs; subst hs
    show (0 : Nat) ≤ maxLen
    exact Nat.zero_le _
theorem find_one (m : Nd) : findN (.mk 7 0 ⟨#[]⟩ [⟨#[]⟩] [m]) ⟨#[]⟩ = some m := by
  simp [findN, idxK]
theorem pGet_right (n : Nd) (path : ByteArray) (x0 x1 : Int) (x2 : ByteArray) (x3 : Option Addr) (x4 x5 : Nat) (x6 : Option Addr) (x7 x8 : Nat) (w : World)
    (HCR : Hid (∀ w', Below w.heap.size w w' → Calls Tryd.prog 31 #[.agg #[.int .i64 x0, .int .i64 x1, .string x2, .slice x3 x4 x5, .slice x6 x7 x8]] w' (BoolBel false w'))) (HR : Hid (pointN n path = (none, 1))) :
    Calls Tryd.prog 13 #[.agg #[.int .i64 x0, .int .i64 x1, .string x2, .slice x3 x4 x5, .slice x6 x7 x8], .string path] w (PointP (pointN n path) w) := by
  have hA : Below w.heap.size w ((w.alloc (.cells #[.int .i64 x0, .int .i64 x1, .string x2, .slice x3 x4 x5, .slice x6 x7 x8] 25)).alloc (.cells #[.int .i64 0, .int .i64 0, .string ⟨#[]⟩, .slice none 0 0, .slice none 0 0] 25)) := ((Below.refl _ _).alloc (Nat.le_refl _) _).alloc (by simp) _
  have hX : Blk ((w.alloc (.cells #[.int .i64 x0, .int .i64 x1, .string x2, .slice x3 x4 x5, .slice x6 x7 x8] 25)).alloc (.cells #[.int .i64 0, .int .i64 0, .string ⟨#[]⟩, .slice none 0 0, .slice none 0 0] 25)) w.heap.size 25 #[.int .i64 x0, .int .i64 x1, .string x2, .slice x3 x4 x5, .slice x6 x7 x8] := (Blk.new w _ _).alloc _
  have hY : Blk ((w.alloc (.cells #[.int .i64 x0, .int .i64 x1, .string x2, .slice x3 x4 x5, .slice x6 x7 x8] 25)).alloc (.cells #[.int .i64 0, .int .i64 0, .string ⟨#[]⟩, .slice none 0 0, .slice none 0 0] 25)) (w.heap.size + 1) 25 #[.int .i64 0, .int .i64 0, .string ⟨#[]⟩, .slice none 0 0, .slice none 0 0] := by
    have := Blk.new (w.alloc (.cells #[.int .i64 x0, .int .i64 x1, .string x2, .slice x3 x4 x5, .slice x6 x7 x8] 25)) 25 #[.int .i64 0, .int .i64 0, .string ⟨#[]⟩, .slice none 0 0, .slice none 0 0]
    simpa using this
  have hZ : w.heap.size + 2 = ((w.alloc (.cells #[.int .i64 x0, .int .i64 x1, .string x2, .slice x3 x4 x5, .slice x6 x7 x8] 25)).alloc (.cells #[.int .i64 0, .int .i64 0, .string ⟨#[]⟩, .slice none 0 0, .slice none 0 0] 25)).heap.size := by simp
  have HA := Lib.hid hA
  have HX := Lib.hid hX
  have HY := Lib.hid hY
  clear hA hX hY
  go_enter Tryd.func13, Tryd.ntmps13
  go_upto_region 1 with fail
  generalize (w.alloc (.cells #[.int .i64 x0, .int .i64 x1, .string x2, .slice x3 x4 x5, .slice x6 x7 x8] 25)).alloc (.cells #[.int .i64 0, .int .i64 0, .string ⟨#[]⟩, .slice none 0 0, .slice none 0 0] 25) = wa at *
  obtain ⟨c0, c1, c2, c3, c4⟩ := HX.out.cells5
  go_wp2_with fail
  refine (HCR.out _ HA.out).mono ?_; rintro e w1 ⟨rfl, hw1⟩
  have HB1 := Lib.hid (HA.out.trans (hw1.mono HA.out.size))
  have HY1 := Lib.hid (HY.out.below hw1 HY.out.lt)
  clear hw1 c0 c1 c2 c3 c4 HA HX HY HCR
  obtain ⟨d0, d1, d2, d3, d4⟩ := HY1.out.cells5
  have f0 := HY1.out.frozen 0
  have f1 := HY1.out.frozen 1
  have f2 := HY1.out.frozen 2
  have f3 := HY1.out.frozen 3
  have f4 := HY1.out.frozen 4
  go_wp2_with fail
  clear d0 d1 d2 d3 d4 f0 f1 f2 f3 f4
  have F := point_fin (r := (none, 1)) (S2 := (fun _ => False)) (w := w) (w2 := w1) (y := w.heap.size + 1) (by omega) HB1.out HY1.out (nd0_in 0 (by unfold I64; omega) _ _) (fun b hb => hb.elim)
  unfold set5 at F
  generalize (((((w1).setCell ⟨w.heap.size + 1, 0, none⟩ (.int .i64 0)).setCell ⟨w.heap.size + 1, 1, none⟩ (.int .i64 0)).setCell ⟨w.heap.size + 1, 2, none⟩ (.string ⟨#[]⟩)).setCell ⟨w.heap.size + 1, 3, none⟩ (.slice none 0 0)).setCell ⟨w.heap.size + 1, 4, none⟩ (.slice none 0 0) = WF at *
  obtain ⟨F1, F2⟩ := F
  obtain ⟨q0, q1, q2, q3, q4⟩ := F1.cells5
  refine bodyPost_ret (v := .tuple #[.agg #[.int .i64 0, .int .i64 0, .string ⟨#[]⟩, .slice none 0 0, .slice none 0 0], .int .i64 1]) (by simp [results, Tryd.results13, go_sem, q0, q1, q2, q3, q4]) rfl ?_
  rw [HR.out]; exact F2
theorem pGet_form (n : Nd) (path : ByteArray) (x0 x1 : Int) (x2 : ByteArray) (x3 : Option Addr) (x4 x5 : Nat) (x6 : Option Addr) (x7 x8 : Nat) (w : World)
    (HCR : Hid (∀ w', Below w.heap.size w w' → Calls Tryd.prog 31 #[.agg #[.int .i64 x0, .int .i64 x1, .string x2, .slice x3 x4 x5, .slice x6 x7 x8]] w' (BoolBel true w'))) (HFM : Hid (∀ w', Calls Tryd.prog 32 #[.string path] w' (FormEnd false w'))) (HR : Hid (pointN n path = (none, 3))) :
    Calls Tryd.prog 13 #[.agg #[.int .i64 x0, .int .i64 x1, .string x2, .slice x3 x4 x5, .slice x6 x7 x8], .string path] w (PointP (pointN n path) w) := by
  have hA : Below w.heap.size w ((w.alloc (.cells #[.int .i64 x0, .int .i64 x1, .string x2, .slice x3 x4 x5, .slice x6 x7 x8] 25)).alloc (.cells #[.int .i64 0, .int .i64 0, .string ⟨#[]⟩, .slice none 0 0, .slice none 0 0] 25)) := ((Below.refl _ _).alloc (Nat.le_refl _) _).alloc (by simp) _
  have hX : Blk ((w.alloc (.cells #[.int .i64 x0, .int .i64 x1, .string x2, .slice x3 x4 x5, .slice x6 x7 x8] 25)).alloc (.cells #[.int .i64 0, .int .i64 0, .string ⟨#[]⟩, .slice none 0 0, .slice none 0 0] 25)) w.heap.size 25 #[.int .i64 x0, .int .i64 x1, .string x2, .slice x3 x4 x5, .slice x6 x7 x8] := (Blk.new w _ _).alloc _
  have hY : Blk ((w.alloc (.cells #[.int .i64 x0, .int .i64 x1, .string x2, .slice x3 x4 x5, .slice x6 x7 x8] 25)).alloc (.cells #[.int .i64 0, .int .i64 0, .string ⟨#[]⟩, .slice none 0 0, .slice none 0 0] 25)) (w.heap.size + 1) 25 #[.int .i64 0, .int .i64 0, .string ⟨#[]⟩, .slice none 0 0, .slice none 0 0] := by
    have := Blk.new (w.alloc (.cells #[.int .i64 x0, .int .i64 x1, .string x2, .slice x3 x4 x5, .slice x6 x7 x8] 25)) 25 #[.int .i64 0, .int .i64 0, .string ⟨#[]⟩, .slice none 0 0, .slice none 0 0]
    simpa using this
  have hZ : w.heap.size + 2 = ((w.alloc (.cells #[.int .i64 x0, .int .i64 x1, .string x2, .slice x3 x4 x5, .slice x6 x7 x8] 25)).alloc (.cells #[.int .i64 0, .int .i64 0, .string ⟨#[]⟩, .slice none 0 0, .slice none 0 0] 25)).heap.size := by simp
  have HA := Lib.hid hA
  have HX := Lib.hid hX
  have HY := Lib.hid hY
  clear hA hX hY
  go_enter Tryd.func13, Tryd.ntmps13
  go_upto_region 1 with fail
  generalize (w.alloc (.cells #[.int .i64 x0, .int .i64 x1, .string x2, .slice x3 x4 x5, .slice x6 x7 x8] 25)).alloc (.cells #[.int .i64 0, .int .i64 0, .string ⟨#[]⟩, .slice none 0 0, .slice none 0 0] 25) = wa at *
  obtain ⟨c0, c1, c2, c3, c4⟩ := HX.out.cells5
  go_wp2_with fail
  refine (HCR.out _ HA.out).mono ?_; rintro e w1 ⟨rfl, hw1⟩
  have HB1 := Lib.hid (HA.out.trans (hw1.mono HA.out.size))
  have HY1 := Lib.hid (HY.out.below hw1 HY.out.lt)
  clear hw1 c0 c1 c2 c3 c4 HA HX HY HCR
  go_wp2_with fail
  refine (HFM.out _ : Calls _ _ _ _ _).mono ?_; rintro e w2 ⟨rfl, hw2⟩; obtain rfl : _ = w2 := hw2
  obtain ⟨d0, d1, d2, d3, d4⟩ := HY1.out.cells5
  have f0 := HY1.out.frozen 0
  have f1 := HY1.out.frozen 1
  have f2 := HY1.out.frozen 2
  have f3 := HY1.out.frozen 3
  have f4 := HY1.out.frozen 4
  go_wp2_with fail
  clear d0 d1 d2 d3 d4 f0 f1 f2 f3 f4
  have F := point_fin (r := (none, 3)) (S2 := (fun _ => False)) (w := w) (w2 := w1) (y := w.heap.size + 1) (by omega) HB1.out HY1.out (nd0_in 0 (by unfold I64; omega) _ _) (fun b hb => hb.elim)
  unfold set5 at F
  generalize (((((w1).setCell ⟨w.heap.size + 1, 0, none⟩ (.int .i64 0)).setCell ⟨w.heap.size + 1, 1, none⟩ (.int .i64 0)).setCell ⟨w.heap.size + 1, 2, none⟩ (.string ⟨#[]⟩)).setCell ⟨w.heap.size + 1, 3, none⟩ (.slice none 0 0)).setCell ⟨w.heap.size + 1, 4, none⟩ (.slice none 0 0) = WF at *
  obtain ⟨F1, F2⟩ := F
  obtain ⟨q0, q1, q2, q3, q4⟩ := F1.cells5
  refine bodyPost_ret (v := .tuple #[.agg #[.int .i64 0, .int .i64 0, .string ⟨#[]⟩, .slice none 0 0, .slice none 0 0], .int .i64 3]) (by simp [results, Tryd.results13, go_sem, q0, q1, q2, q3, q4]) rfl ?_
  rw [HR.out]; exact F2
set_option maxHeartbeats 2000000 in
theorem pGet_walk (n : Nd) (path : ByteArray) (x0 x1 : Int) (x2 : ByteArray) (x3 : Option Addr) (x4 x5 : Nat) (x6 : Option Addr) (x7 x8 : Nat) (w : World)
    (HCR : Hid (∀ w', Below w.heap.size w w' → Calls Tryd.prog 31 #[.agg #[.int .i64 x0, .int .i64 x1, .string x2, .slice x3 x4 x5, .slice x6 x7 x8]] w' (BoolBel true w'))) (HFM : Hid (∀ w', Calls Tryd.prog 32 #[.string path] w' (FormEnd true w')))
    (HN : Hid (NdIn w (· < w.heap.size) n [.int .i64 x0, .int .i64 x1, .string x2, .slice x3 x4 x5, .slice x6 x7 x8])) (HSZ : Hid (sizeOk n ∧ n.count ≤ 1000000)) (HPL : Hid (path.size ≤ 1000)) (HM : Hid (MaxOK w))
    (R : Option Nd) (HR : Hid (getN (partsP path) n = R)) (HP : Hid ((R = none → pointN n path = (none, 7)) ∧ ∀ m, R = some m → pointN n path = (some m, 0))) :
    Calls Tryd.prog 13 #[.agg #[.int .i64 x0, .int .i64 x1, .string x2, .slice x3 x4 x5, .slice x6 x7 x8], .string path] w (PointP (pointN n path) w) := by
  have hmf : ∀ (fn : Fn) (first cap : Array Value) (w : World), (Instr.makeFunc fn first cap).run Tryd.prog w = .ok (.func fn first cap) w := fun _ _ _ _ => rfl
  have hA : Below w.heap.size w ((w.alloc (.cells #[.int .i64 x0, .int .i64 x1, .string x2, .slice x3 x4 x5, .slice x6 x7 x8] 25)).alloc (.cells #[.int .i64 0, .int .i64 0, .string ⟨#[]⟩, .slice none 0 0, .slice none 0 0] 25)) := ((Below.refl _ _).alloc (Nat.le_refl _) _).alloc (by simp) _
  have hX : Blk ((w.alloc (.cells #[.int .i64 x0, .int .i64 x1, .string x2, .slice x3 x4 x5, .slice x6 x7 x8] 25)).alloc (.cells #[.int .i64 0, .int .i64 0, .string ⟨#[]⟩, .slice none 0 0, .slice none 0 0] 25)) w.heap.size 25 #[.int .i64 x0, .int .i64 x1, .string x2, .slice x3 x4 x5, .slice x6 x7 x8] := (Blk.new w _ _).alloc _
  have hY : Blk ((w.alloc (.cells #[.int .i64 x0, .int .i64 x1, .string x2, .slice x3 x4 x5, .slice x6 x7 x8] 25)).alloc (.cells #[.int .i64 0, .int .i64 0, .string ⟨#[]⟩, .slice none 0 0, .slice none 0 0] 25)) (w.heap.size + 1) 25 #[.int .i64 0, .int .i64 0, .string ⟨#[]⟩, .slice none 0 0, .slice none 0 0] := by
    have := Blk.new (w.alloc (.cells #[.int .i64 x0, .int .i64 x1, .string x2, .slice x3 x4 x5, .slice x6 x7 x8] 25)) 25 #[.int .i64 0, .int .i64 0, .string ⟨#[]⟩, .slice none 0 0, .slice none 0 0]
    simpa using this
  have hZ : w.heap.size + 2 = ((w.alloc (.cells #[.int .i64 x0, .int .i64 x1, .string x2, .slice x3 x4 x5, .slice x6 x7 x8] 25)).alloc (.cells #[.int .i64 0, .int .i64 0, .string ⟨#[]⟩, .slice none 0 0, .slice none 0 0] 25)).heap.size := by simp
  have HA := Lib.hid hA
  have HX := Lib.hid hX
  have HY := Lib.hid hY
  clear hA hX hY
  go_enter Tryd.func13, Tryd.ntmps13
  go_upto_region 1 with fail
  generalize (w.alloc (.cells #[.int .i64 x0, .int .i64 x1, .string x2, .slice x3 x4 x5, .slice x6 x7 x8] 25)).alloc (.cells #[.int .i64 0, .int .i64 0, .string ⟨#[]⟩, .slice none 0 0, .slice none 0 0] 25) = wa at *
  obtain ⟨c0, c1, c2, c3, c4⟩ := HX.out.cells5
  go_wp2_with fail
  refine (HCR.out _ HA.out).mono ?_; rintro e w1 ⟨rfl, hw1⟩
  have hB1 := HA.out.trans (hw1.mono HA.out.size)
  have HB1 := Lib.hid hB1
  have HY1 := Lib.hid (HY.out.below hw1 HY.out.lt)
  have HX1 := Lib.hid (HX.out.below hw1 HX.out.lt)
  have hz1 : w.heap.size + 2 ≤ w1.heap.size := by have := hw1.size; omega
  clear hw1 c0 c1 c2 c3 c4 HA HX HY HCR hB1
  go_wp2_with fail
  refine (HFM.out _ : Calls _ _ _ _ _).mono ?_; rintro e w2 ⟨rfl, hw2⟩; obtain rfl : _ = w2 := hw2
  go_wp2_with fail
  refine (parts_any path _).mono ?_; rintro e w2 ⟨rfl, hw2⟩
  obtain rfl := hw2
  have hbp : Blk (w1.alloc (.cells #[.string path] 9)) w1.heap.size 9 #[.string path] := Blk.new w1 _ _
  have HM1 := Lib.hid ((HM.out.below HB1.out).below ((Below.refl w1.heap.size w1).alloc (Nat.le_refl _) (.cells #[.string path] 9)))
  have HNX := Lib.hid (next_any w1.heap.size path _ hbp HPL.out HM1.out)
  clear hbp
  go_wp2_with fail
  refine (HNX.out : Calls _ _ _ _ _).mono ?_; rintro e w3 ⟨s0, q0, b0, rfl, hq0, hblk0, hqz0, hg0, hM0⟩
  have hzA : w1.heap.size + 1 = (w1.alloc (.cells #[.string path] 9)).heap.size := by simp
  have HB3 : Hid (Below w.heap.size w w3) := (HB1.out.alloc HB1.out.size _).grown hg0 (by simp; have := HB1.out.size; omega) (fun k hk => by injection hk with hk; omega)
  have HX3 : Hid (Blk w3 w.heap.size 25 #[.int .i64 x0, .int .i64 x1, .string x2, .slice x3 x4 x5, .slice x6 x7 x8]) := (HX1.out.alloc _).grown hg0 (fun e => by injection e with e; omega)
  have HY3 : Hid (Blk w3 (w.heap.size + 1) 25 #[.int .i64 0, .int .i64 0, .string ⟨#[]⟩, .slice none 0 0, .slice none 0 0]) := (HY1.out.alloc _).grown hg0 (fun e => by injection e with e; omega)
  have HQ0 : Hid (Blk w3 w1.heap.size 9 #[.string q0]) := hblk0
  have HM3 := Lib.hid hM0
  have hz3 : w1.heap.size < w3.heap.size := by have := hg0.size; omega
  have HALL0 : Hid (partsP path = [] ++ (if b0 = true then s0 :: partsF q0.size q0.toList else [])) := hq0
  have HLEN := Lib.hid (partsP_len path)
  clear hq0 hblk0 hg0 hM0 HNX HB1 HX1 HY1 HM1 HFM hzA
  go_wp2_with fail
  go_loopw [6, 8, 9] (fun t6 t8 t9 wr => ∃ (done : List ByteArray) (Aw : Option Addr) (cw : Nat) (s q : ByteArray) (b : Bool), t6 = .slice Aw done.length cw ∧ t8 = .string s ∧ t9 = .bool b ∧ Hid (partsP path = done ++ (if b = true then s :: partsF q.size q.toList else [])) ∧ Hid (wr.ownsRow (w1.heap.size + 1) 9 1 (.slice Aw done.length cw) done.length (done.map Value.string)) ∧ Hid (Blk wr w1.heap.size 9 #[.string q]) ∧ q.size ≤ 1000 ∧
      Hid (Blk wr w.heap.size 25 #[.int .i64 x0, .int .i64 x1, .string x2, .slice x3 x4 x5, .slice x6 x7 x8]) ∧ Hid (Blk wr (w.heap.size + 1) 25 #[.int .i64 0, .int .i64 0, .string ⟨#[]⟩, .slice none 0 0, .slice none 0 0]) ∧ Hid (Below w.heap.size w wr) ∧ Hid (MaxOK wr) ∧ w1.heap.size < wr.heap.size)
    (fun t6 _ _ _ => (partsP path).length - sLenP t6)
  case atStart => exact ⟨[], none, 0, s0, q0, b0, rfl, rfl, rfl, HALL0, World.ownsRow_nil _ _ _ _, HQ0, hqz0, HX3, HY3, HB3, HM3, hz3⟩
  case round =>
    clear HALL0 HQ0 HX3 HY3 HB3 HM3 hz3 hqz0
    obtain ⟨done, Aw, cw, s, q, b, rfl, rfl, rfl, hall, ho, hq, hqz, hx, hy, hb, hm, hz⟩ := hrel
    obtain ⟨wo, rfl⟩ : ∃ wo : World, wo = wr := ⟨_, rfl⟩
    cases b with
    | true =>
      have hall2 : partsP path = done ++ s :: partsF q.size q.toList := hall.out
      have hdl : done.length < (partsP path).length := by rw [hall2]; simp
      have hdl2 : done.length ≤ 1000 := by have := HLEN.out; have := HPL.out; omega
      have HALL := Lib.hid hall2
      have hown : ∀ g, (Value.slice Aw done.length cw).ownBlock = some g → w1.heap.size + 1 ≤ g := fun g hg => (own_lt ho.out hg).1
      have HOWN := Lib.hid hown
      clear hall2 hall hown
      go_wp2_with (at_builtin; refine wpList_pushStrP _ rfl _ _ rfl (w1.heap.size + 1) (.slice Aw done.length cw) done.length (done.map Value.string) (by first | rfl | simp [Act.eval]) ho.out s (by first | rfl | simp [Act.eval]) ?lim ?hB ?_; (case lim => omega); (case hB => omega); intro v' w4 ho4 hg4; obtain ⟨Av, cv, rfl⟩ := own_form ho4; have HO4 := Lib.hid ho4; have HG4 := Lib.hid hg4; clear ho4 hg4)
      have hno : ∀ g, g ≤ w1.heap.size → some g ≠ (Value.slice Aw done.length cw).ownBlock := fun g hg e => by have := HOWN.out g e.symm; omega
      have HQ4 := Lib.hid (hq.out.grown HG4.out (hno _ (by omega)))
      have HX4 := Lib.hid (hx.out.grown HG4.out (hno _ (by omega)))
      have HY4 := Lib.hid (hy.out.grown HG4.out (hno _ (by omega)))
      have HB4 := Lib.hid (hb.out.grown HG4.out hb.out.size (fun k hk => by have := HOWN.out k hk; omega))
      have HM4 := Lib.hid (hm.out.grownR HG4.out (hno _ (by omega)))
      have hz4 : w1.heap.size < w4.heap.size := by have := HG4.out.size; omega
      clear hno
      have HNX := Lib.hid (next_any w1.heap.size q w4 HQ4.out hqz HM4.out)
      go_wp2_with fail
      refine (HNX.out : Calls _ _ _ _ _).mono ?_; rintro e w5 ⟨s2, q2, b2, rfl, hq2, hblk2, hqz2, hg2, hM2⟩
      have hown4 : ∀ g, (Value.slice Av (done.length + 1) cv).ownBlock = some g → w1.heap.size + 1 ≤ g := fun g hg => (own_lt HO4.out hg).1
      have HO5 : Hid (w5.ownsRow (w1.heap.size + 1) 9 1 (.slice Av (done.length + 1) cv) (done.length + 1) ((done ++ [s]).map Value.string)) := by
        have := World.ownsRow.kept HO4.out hg2 (.inr (fun e => by have := hown4 _ e; omega))
        rw [List.map_append]
        exact this
      have HX5 := Lib.hid (HX4.out.grown hg2 (fun e => by injection e with e; omega))
      have HY5 := Lib.hid (HY4.out.grown hg2 (fun e => by injection e with e; omega))
      have HB5 := Lib.hid (HB4.out.grown hg2 HB4.out.size (fun k hk => by injection hk with hk; omega))
      have hz5 : w1.heap.size < w5.heap.size := by have := hg2.size; omega
      have HM5 := Lib.hid hM2
      have HQ5 := Lib.hid hblk2
      have HALL5 : Hid (partsP path = (done ++ [s]) ++ (if b2 = true then s2 :: partsF q2.size q2.toList else [])) := by
        show _ = _
        rw [HALL.out, hq2]; simp
      clear HNX hq2 hblk2 hg2 hM2 hown4 ho hq hx hy hb hm HO4 HG4 HQ4 HX4 HY4 HB4 HM4
      go_wp2_with fail
      go_roundw
      case rel => exact ⟨done ++ [s], Av, cv, s2, q2, b2, by simp, rfl, rfl, HALL5, by rw [show (done ++ [s]).length = done.length + 1 by simp]; exact HO5, HQ5, hqz2, HX5, HY5, HB5, HM5, hz5⟩
      case measure => simp [sLenP]; omega
    | false =>
      have hall2 : partsP path = done := by have := hall.out; simpa using this
      have hcp := own_cap ho.out
      have hwz := hb.out.size
      have HGET : Hid (Calls Tryd.prog 34 #[.agg #[.int .i64 x0, .int .i64 x1, .string x2, .slice x3 x4 x5, .slice x6 x7 x8], .slice Aw done.length cw] wo (GetP R (· < w.heap.size) wo)) := by
        have := pget_any done (fun s hs => by have := partsP_size path s (by rw [hall2]; exact hs); have := HPL.out; omega) n [.int .i64 x0, .int .i64 x1, .string x2, .slice x3 x4 x5, .slice x6 x7 x8] wo (· < w.heap.size) Aw cw (NdIn.on HN.out (fun b hb => hb) hb.out) (fun b hlt => Nat.lt_of_lt_of_le hlt hwz) (own_readsP ho.out) hcp.1 hcp.2 HSZ.out.1 HSZ.out.2
        rw [← hall2, HR.out] at this
        rw [hall2] at this
        exact this
      obtain ⟨c0, c1, c2, c3, c4⟩ := hx.out.cells5
      have HMM : Hid (∀ m, R = some m → sizeOk m) := fun m hm => (getN_ok _ _ _ (HR.out.trans hm) HSZ.out.1 HSZ.out.2).1
      clear hall ho hcp hall2 HR hq hm
      go_wp2_with fail
      refine (HGET.out : Calls _ _ _ _ _).mono ?_; rintro e w4 ⟨y0, y1, y2, y3, y4, y5, y6, y7, y8, rfl, hn4, hw4⟩
      have HN4 := Lib.hid hn4
      have HB4 := Lib.hid (hb.out.trans (hw4.mono hwz))
      have HY4 := Lib.hid (hy.out.below hw4 hy.out.lt)
      have hz4 : wo.heap.size ≤ w4.heap.size := hw4.size
      clear hn4 hw4 hb hx hy c0 c1 c2 c3 c4 HGET
      have HY5 : Hid (Blk (w4.alloc (.cells #[.int .i64 y0, .int .i64 y1, .string y2, .slice y3 y4 y5, .slice y6 y7 y8] 25)) (w.heap.size + 1) 25 #[.int .i64 0, .int .i64 0, .string ⟨#[]⟩, .slice none 0 0, .slice none 0 0]) := HY4.out.alloc _
      have HB5 : Hid (Below w.heap.size w (w4.alloc (.cells #[.int .i64 y0, .int .i64 y1, .string y2, .slice y3 y4 y5, .slice y6 y7 y8] 25))) := HB4.out.alloc HB4.out.size _
      cases R with
      | none =>
        obtain ⟨d0, d1, d2, d3, d4⟩ := HY5.out.cells5
        have f0 := HY5.out.frozen 0
        have f1 := HY5.out.frozen 1
        have f2 := HY5.out.frozen 2
        have f3 := HY5.out.frozen 3
        have f4 := HY5.out.frozen 4
        go_wp2_with fail
        clear d0 d1 d2 d3 d4 f0 f1 f2 f3 f4
        have F := point_fin (r := (none, 7)) (S2 := (fun _ => False)) (w := w) (w2 := (w4.alloc (.cells #[.int .i64 y0, .int .i64 y1, .string y2, .slice y3 y4 y5, .slice y6 y7 y8] 25))) (y := w.heap.size + 1) (by omega) HB5.out HY5.out (nd0_in 0 (by unfold I64; omega) _ _) (fun b hb => hb.elim)
        unfold set5 at F
        generalize ((((((w4.alloc (.cells #[.int .i64 y0, .int .i64 y1, .string y2, .slice y3 y4 y5, .slice y6 y7 y8] 25))).setCell ⟨w.heap.size + 1, 0, none⟩ (.int .i64 0)).setCell ⟨w.heap.size + 1, 1, none⟩ (.int .i64 0)).setCell ⟨w.heap.size + 1, 2, none⟩ (.string ⟨#[]⟩)).setCell ⟨w.heap.size + 1, 3, none⟩ (.slice none 0 0)).setCell ⟨w.heap.size + 1, 4, none⟩ (.slice none 0 0) = WF at *
        obtain ⟨F1, F2⟩ := F
        obtain ⟨q0, q1, q2, q3, q4⟩ := F1.cells5
        refine bodyPost_ret (v := .tuple #[.agg #[.int .i64 0, .int .i64 0, .string ⟨#[]⟩, .slice none 0 0, .slice none 0 0], .int .i64 7]) (by simp [results, Tryd.results13, go_sem, q0, q1, q2, q3, q4]) rfl ?_
        rw [HP.out.1 (by first | trivial | rfl)]; exact F2
      | some m =>
        have hn6 : NdIs w4 w4.heap.size m [.int .i64 y0, .int .i64 y1, .string y2, .slice y3 y4 y5, .slice y6 y7 y8] := NdIn.is (fun b hb => by
          rcases hb with hb | hb
          · have : b < w.heap.size := hb
            omega
          · exact hb.2) _ _ HN4.out
        have hk1 : (w4.alloc (.cells #[.int .i64 y0, .int .i64 y1, .string y2, .slice y3 y4 y5, .slice y6 y7 y8] 25)).heap.size = w4.heap.size + 1 := by simp
        have hk2 : ((w4.alloc (.cells #[.int .i64 y0, .int .i64 y1, .string y2, .slice y3 y4 y5, .slice y6 y7 y8] 25)).alloc (.cells #[.string ⟨#[]⟩] 9)).heap.size = w4.heap.size + 2 := by simp
        have hk3 : (((w4.alloc (.cells #[.int .i64 y0, .int .i64 y1, .string y2, .slice y3 y4 y5, .slice y6 y7 y8] 25)).alloc (.cells #[.string ⟨#[]⟩] 9)).alloc (.cells #[.int .i64 y0, .int .i64 y1, .string y2, .slice y3 y4 y5, .slice y6 y7 y8] 25)).heap.size = w4.heap.size + 3 := by simp
        have hw5 : Below w4.heap.size w4 (((w4.alloc (.cells #[.int .i64 y0, .int .i64 y1, .string y2, .slice y3 y4 y5, .slice y6 y7 y8] 25)).alloc (.cells #[.string ⟨#[]⟩] 9)).alloc (.cells #[.int .i64 y0, .int .i64 y1, .string y2, .slice y3 y4 y5, .slice y6 y7 y8] 25)) := (((Below.refl _ _).alloc (Nat.le_refl _) _).alloc (by simp) _).alloc (by simp; omega) _
        have hb1 : Blk (((w4.alloc (.cells #[.int .i64 y0, .int .i64 y1, .string y2, .slice y3 y4 y5, .slice y6 y7 y8] 25)).alloc (.cells #[.string ⟨#[]⟩] 9)).alloc (.cells #[.int .i64 y0, .int .i64 y1, .string y2, .slice y3 y4 y5, .slice y6 y7 y8] 25)) (w4.heap.size + 1) 9 #[.string ⟨#[]⟩] := by
          have := (Blk.new (w4.alloc (.cells #[.int .i64 y0, .int .i64 y1, .string y2, .slice y3 y4 y5, .slice y6 y7 y8] 25)) 9 #[.string ⟨#[]⟩]).alloc (.cells #[.int .i64 y0, .int .i64 y1, .string y2, .slice y3 y4 y5, .slice y6 y7 y8] 25)
          rw [hk1] at this; exact this
        have hb2 : Blk (((w4.alloc (.cells #[.int .i64 y0, .int .i64 y1, .string y2, .slice y3 y4 y5, .slice y6 y7 y8] 25)).alloc (.cells #[.string ⟨#[]⟩] 9)).alloc (.cells #[.int .i64 y0, .int .i64 y1, .string y2, .slice y3 y4 y5, .slice y6 y7 y8] 25)) (w4.heap.size + 2) 25 #[.int .i64 y0, .int .i64 y1, .string y2, .slice y3 y4 y5, .slice y6 y7 y8] := by
          have := Blk.new ((w4.alloc (.cells #[.int .i64 y0, .int .i64 y1, .string y2, .slice y3 y4 y5, .slice y6 y7 y8] 25)).alloc (.cells #[.string ⟨#[]⟩] 9)) 25 #[.int .i64 y0, .int .i64 y1, .string y2, .slice y3 y4 y5, .slice y6 y7 y8]
          rw [hk2] at this; exact this
        have HCF : Hid (Calls Tryd.prog 35 #[.agg #[.int .i64 7, .int .i64 0, .string ⟨#[]⟩, .slice (some ⟨w4.heap.size + 1, 0, none⟩) 1 1, .slice (some ⟨w4.heap.size + 2, 0, none⟩) 1 1], .string ⟨#[]⟩] (((w4.alloc (.cells #[.int .i64 y0, .int .i64 y1, .string y2, .slice y3 y4 y5, .slice y6 y7 y8] 25)).alloc (.cells #[.string ⟨#[]⟩] 9)).alloc (.cells #[.int .i64 y0, .int .i64 y1, .string y2, .slice y3 y4 y5, .slice y6 y7 y8] 25)) (FindP (some m) (((w4.alloc (.cells #[.int .i64 y0, .int .i64 y1, .string y2, .slice y3 y4 y5, .slice y6 y7 y8] 25)).alloc (.cells #[.string ⟨#[]⟩] 9)).alloc (.cells #[.int .i64 y0, .int .i64 y1, .string y2, .slice y3 y4 y5, .slice y6 y7 y8] 25)))) := by
          have := cFind_any (.mk 7 0 ⟨#[]⟩ [⟨#[]⟩] [m]) ⟨#[]⟩ _ (((w4.alloc (.cells #[.int .i64 y0, .int .i64 y1, .string y2, .slice y3 y4 y5, .slice y6 y7 y8] 25)).alloc (.cells #[.string ⟨#[]⟩] 9)).alloc (.cells #[.int .i64 y0, .int .i64 y1, .string y2, .slice y3 y4 y5, .slice y6 y7 y8] 25)) _ (one_node hn6 rfl (((w4.alloc (.cells #[.int .i64 y0, .int .i64 y1, .string y2, .slice y3 y4 y5, .slice y6 y7 y8] 25)).alloc (.cells #[.string ⟨#[]⟩] 9)).alloc (.cells #[.int .i64 y0, .int .i64 y1, .string y2, .slice y3 y4 y5, .slice y6 y7 y8] 25)) (w4.heap.size + 1) (w4.heap.size + 2) (by omega) (by omega) hw5 hb1 hb2) (Nat.le_refl _) (by
            unfold sizeOk sizeOkL sizeOkL
            exact ⟨by omega, by decide, by intro s hs; simp at hs; subst hs; decide, by simp, HMM.out m rfl, trivial⟩)
          rw [find_one] at this
          exact this
        have HY6 : Hid (Blk (((w4.alloc (.cells #[.int .i64 y0, .int .i64 y1, .string y2, .slice y3 y4 y5, .slice y6 y7 y8] 25)).alloc (.cells #[.string ⟨#[]⟩] 9)).alloc (.cells #[.int .i64 y0, .int .i64 y1, .string y2, .slice y3 y4 y5, .slice y6 y7 y8] 25)) (w.heap.size + 1) 25 #[.int .i64 0, .int .i64 0, .string ⟨#[]⟩, .slice none 0 0, .slice none 0 0]) := (HY5.out.alloc _).alloc _
        have HB6 : Hid (Below w.heap.size w (((w4.alloc (.cells #[.int .i64 y0, .int .i64 y1, .string y2, .slice y3 y4 y5, .slice y6 y7 y8] 25)).alloc (.cells #[.string ⟨#[]⟩] 9)).alloc (.cells #[.int .i64 y0, .int .i64 y1, .string y2, .slice y3 y4 y5, .slice y6 y7 y8] 25))) := (HB5.out.alloc HB5.out.size _).alloc (by simp; omega) _
        have HK3 := Lib.hid hk3
        clear hn6 hk1 hk2 hk3 hw5 hb1 hb2 HMM HY5 HB5 HN4 HB4 HY4
        go_wp2_with fail
        refine (HCF.out : Calls _ _ _ _ _).mono ?_; rintro e w6 ⟨v0, v1, v2, v3, v4, v5, v6, v7, v8, rfl, hn6, hw6⟩
        have HN7 : Hid (NdIn w6 (Since (((w4.alloc (.cells #[.int .i64 y0, .int .i64 y1, .string y2, .slice y3 y4 y5, .slice y6 y7 y8] 25)).alloc (.cells #[.string ⟨#[]⟩] 9)).alloc (.cells #[.int .i64 y0, .int .i64 y1, .string y2, .slice y3 y4 y5, .slice y6 y7 y8] 25)) w6) m [.int .i64 v0, .int .i64 v1, .string v2, .slice v3 v4 v5, .slice v6 v7 v8]) := hn6
        have HY7 : Hid (Blk (w6.alloc (.cells #[.int .i64 v0, .int .i64 v1, .string v2, .slice v3 v4 v5, .slice v6 v7 v8] 25)) (w.heap.size + 1) 25 #[.int .i64 0, .int .i64 0, .string ⟨#[]⟩, .slice none 0 0, .slice none 0 0]) := (HY6.out.below hw6 HY6.out.lt).alloc _
        have hb7 := HB6.out.trans (hw6.mono HB6.out.size)
        have HB7 : Hid (Below w.heap.size w (w6.alloc (.cells #[.int .i64 v0, .int .i64 v1, .string v2, .slice v3 v4 v5, .slice v6 v7 v8] 25))) := hb7.alloc hb7.size _
        have hz6 : w4.heap.size + 3 ≤ w6.heap.size := by have := hw6.size; have := HK3.out; omega
        clear hn6 hw6 hb7 HCF HY6 HB6
        obtain ⟨d0, d1, d2, d3, d4⟩ := HY7.out.cells5
        have f0 := HY7.out.frozen 0
        have f1 := HY7.out.frozen 1
        have f2 := HY7.out.frozen 2
        have f3 := HY7.out.frozen 3
        have f4 := HY7.out.frozen 4
        go_wp2_with fail
        clear d0 d1 d2 d3 d4 f0 f1 f2 f3 f4
        have F := point_fin (r := (some m, 0)) (S2 := (Since (((w4.alloc (.cells #[.int .i64 y0, .int .i64 y1, .string y2, .slice y3 y4 y5, .slice y6 y7 y8] 25)).alloc (.cells #[.string ⟨#[]⟩] 9)).alloc (.cells #[.int .i64 y0, .int .i64 y1, .string y2, .slice y3 y4 y5, .slice y6 y7 y8] 25)) w6)) (w := w) (w2 := (w6.alloc (.cells #[.int .i64 v0, .int .i64 v1, .string v2, .slice v3 v4 v5, .slice v6 v7 v8] 25))) (y := w.heap.size + 1) (by omega) HB7.out HY7.out (NdIn.keep (fun p hp => World.cell?_alloc_lt _ _ _ hp.2) (fun _ h => h) _ _ HN7.out) (fun b hb => by
            have h1 : (((w4.alloc (.cells #[.int .i64 y0, .int .i64 y1, .string y2, .slice y3 y4 y5, .slice y6 y7 y8] 25)).alloc (.cells #[.string ⟨#[]⟩] 9)).alloc (.cells #[.int .i64 y0, .int .i64 y1, .string y2, .slice y3 y4 y5, .slice y6 y7 y8] 25)).heap.size ≤ b := hb.1
            have h2 := hb.2
            have h3 := HK3.out
            exact ⟨⟨by omega, by simp; omega⟩, by omega⟩)
        unfold set5 at F
        generalize ((((((w6.alloc (.cells #[.int .i64 v0, .int .i64 v1, .string v2, .slice v3 v4 v5, .slice v6 v7 v8] 25))).setCell ⟨w.heap.size + 1, 0, none⟩ (.int .i64 v0)).setCell ⟨w.heap.size + 1, 1, none⟩ (.int .i64 v1)).setCell ⟨w.heap.size + 1, 2, none⟩ (.string v2)).setCell ⟨w.heap.size + 1, 3, none⟩ (.slice v3 v4 v5)).setCell ⟨w.heap.size + 1, 4, none⟩ (.slice v6 v7 v8) = WF at *
        obtain ⟨F1, F2⟩ := F
        obtain ⟨q0, q1, q2, q3, q4⟩ := F1.cells5
        refine bodyPost_ret (v := .tuple #[.agg #[.int .i64 v0, .int .i64 v1, .string v2, .slice v3 v4 v5, .slice v6 v7 v8], .int .i64 0]) (by simp [results, Tryd.results13, go_sem, q0, q1, q2, q3, q4]) rfl ?_
        rw [HP.out.2 m rfl]; exact F2
end Go.Proofs.YtnbfagignbbmfaaDoor
/-! point.Get, for its callers; numbers and nodes written down. -/
namespace Go.Proofs.YtnbfagignbbmfaaDoor
open Go.RowKit Go.PlainAid
set_option linter.unusedVariables false
set_option linter.unusedSimpArgs false
set_option maxRecDepth 100000
theorem pointN_some {n : Nd} {path : ByteArray} {m : Nd} (hr : rightD n 0 = true) (hf : formP path = true) (hg : getN (partsP path) n = some m) : pointN n path = (some m, 0) := by
  unfold pointN
  rw [if_neg (by simp [hr]), if_neg (by simp [hf]), hg]
theorem pointN_none {n : Nd} {path : ByteArray} (hr : rightD n 0 = true) (hf : formP path = true) (hg : getN (partsP path) n = none) : pointN n path = (none, 7) := by
  unfold pointN
  rw [if_neg (by simp [hr]), if_neg (by simp [hf]), hg]
theorem pointN_form {n : Nd} {path : ByteArray} (hr : rightD n 0 = true) (hf : formP path = false) : pointN n path = (none, 3) := by
  unfold pointN
  rw [if_neg (by simp [hr]), if_pos hf]
/-- point's Get -/
theorem pGet_any (n : Nd) (path : ByteArray) (cs : List Value) (w : World) (B : Nat) (hn : NdIs w B n cs) (hB : B ≤ w.heap.size) (hs : sizeOk n) (hc : n.count ≤ 1000000) (hp : path.size ≤ 9223372036854775807) (hM : MaxOK w) :
    Calls Tryd.prog 13 #[.agg cs.toArray, .string path] w (PointP (pointN n path) w) := by
  have hn1 : NdIn w (· < w.heap.size) n cs := NdIn.mono (fun b hb => by omega) (hn.in_)
  have hl := hn.len
  obtain ⟨x0, x1, x2, x3, x4, x5, x6, x7, x8, rfl⟩ := hn1.form
  have HCR : Hid (∀ w', Below w.heap.size w w' → Calls Tryd.prog 31 #[.agg #[.int .i64 x0, .int .i64 x1, .string x2, .slice x3 x4 x5, .slice x6 x7 x8]] w' (BoolBel (rightD n 0) w')) := fun w' h' =>
    CRight_any n [.int .i64 x0, .int .i64 x1, .string x2, .slice x3 x4 x5, .slice x6 x7 x8] w' B (hn.below (h'.mono hB)) (Nat.le_trans hB h'.size)
  have HFM : Hid (∀ w', Calls Tryd.prog 32 #[.string path] w' (FormEnd (formP path) w')) := fun w' => form_any path w' hp
  cases hr : rightD n 0 with
  | false =>
    rw [hr] at HCR
    exact pGet_right n path x0 x1 x2 x3 x4 x5 x6 x7 x8 w HCR (show _ = _ by unfold pointN; rw [if_pos hr])
  | true =>
    rw [hr] at HCR
    cases hf : formP path with
    | false =>
      rw [hf] at HFM
      exact pGet_form n path x0 x1 x2 x3 x4 x5 x6 x7 x8 w HCR HFM (pointN_form hr hf)
    | true =>
      rw [hf] at HFM
      have hpl : path.size ≤ 1000 := by
        unfold formP at hf
        simp only [Bool.and_eq_true, decide_eq_true_eq] at hf
        exact hf.1.2
      refine pGet_walk n path x0 x1 x2 x3 x4 x5 x6 x7 x8 w HCR HFM hn1 ⟨hs, hc⟩ hpl hM (getN (partsP path) n) rfl ⟨fun h => pointN_none hr hf h, fun m h => pointN_some hr hf h⟩
/-- what is read of a Get that told a node -/
def GetNum (n : Int) (w : World) (e : Ending) (w' : World) : Prop := ∃ (c0 : Int) (c2 : ByteArray) (c3 : Option Addr) (c4 c5 : Nat) (c6 : Option Addr) (c7 c8 : Nat),
  e = .returned (.tuple #[.agg #[.int .i64 c0, .int .i64 n, .string c2, .slice c3 c4 c5, .slice c6 c7 c8], .int .i64 0]) ∧ Below w.heap.size w w'
def GetErr (c : Int) (w : World) (e : Ending) (w' : World) : Prop := ∃ (c0 c1 : Int) (c2 : ByteArray) (c3 : Option Addr) (c4 c5 : Nat) (c6 : Option Addr) (c7 c8 : Nat),
  e = .returned (.tuple #[.agg #[.int .i64 c0, .int .i64 c1, .string c2, .slice c3 c4 c5, .slice c6 c7 c8], .int .i64 c]) ∧ Below w.heap.size w w'
theorem GetNum.of {k n : Int} {t : ByteArray} {ks : List ByteArray} {ns : List Nd} {w : World} {e : Ending} {w' : World} (h : PointP (some (.mk k n t ks ns), 0) w e w') : GetNum n w e w' := by
  obtain ⟨c0, c1, c2, c3, c4, c5, c6, c7, c8, rfl, hn, hb⟩ := h
  have hn : NdIn w' _ (.mk k n t ks ns) _ := hn
  unfold NdIn at hn
  obtain ⟨A, ck, A2, c, xs, heq, _⟩ := hn
  cases heq
  exact ⟨_, _, _, _, _, _, _, _, rfl, hb⟩
theorem GetErr.of {c : Int} {w : World} {e : Ending} {w' : World} {r : Option Nd} (h : PointP (r, c) w e w') : GetErr c w e w' := by
  obtain ⟨c0, c1, c2, c3, c4, c5, c6, c7, c8, rfl, hn, hb⟩ := h
  exact ⟨_, _, _, _, _, _, _, _, _, rfl, hb⟩
def num4 (n : Int) : Nd := .mk 4 n ⟨#[]⟩ [] []
theorem num4_is (n : Int) (hk : I64 n) (w : World) (B : Nat) : NdIs w B (num4 n) [.int .i64 4, .int .i64 n, .string ⟨#[]⟩, .slice none 0 0, .slice none 0 0] := by
  unfold num4 NdIs
  exact ⟨none, 0, none, 0, [], rfl, Reads.none_, Reads.none_, (by unfold NdsIs; rfl), by unfold I64; omega, hk, by (show (0 : Nat) ≤ maxLen); exact Nat.zero_le _, by simp, by simp [maxLen], by simp [maxLen]⟩
theorem Reads.of_blk {w : World} {g : Nat} {t : TypeId} {cs : List Value} {size n B : Nat} (h : Blk w g t cs.toArray) (hg : g < B) (hl : cs.length = n * size) : Reads w B size (some ⟨g, 0, none⟩) n cs :=
  ⟨hl, fun _ => ⟨_, rfl, hg, fun j u hu => by
    have e : (⟨g, 0, none⟩ : Addr).add j = ⟨g, j, none⟩ := by unfold Addr.add; split <;> simp_all
    rw [e, h.cell j]; simpa using hu⟩⟩
theorem NdsIs.cons {w : World} {B : Nat} {n : Nd} {cs : List Value} {ns : List Nd} {xs : List Value} (h : NdIs w B n cs) (hs : NdsIs w B ns xs) : NdsIs w B (n :: ns) (cs ++ xs) := by
  unfold NdsIs; exact ⟨cs, xs, rfl, h, hs⟩
theorem NdsIs.nil_ {w : World} {B : Nat} : NdsIs w B [] [] := by unfold NdsIs; rfl
theorem NdIs.lit {w : World} {B : Nat} {k : Int} {ks : List ByteArray} {ns : List Nd} {K A : Option Addr} {xs : List Value} {ck c lk ln : Nat} (hlk : lk = ks.length) (hln : ln = ns.length) (hk : Reads w B 1 K ks.length (ks.map Value.string)) (hx : Reads w B 5 A ns.length xs) (hn : NdsIs w B ns xs) (h0 : I64 k) (h1 : ∀ s ∈ ks, s.size ≤ 1000000) (h2 : ks.length ≤ 1000000) (h3 : ns.length ≤ 1000000) :
    NdIs w B (.mk k 0 ⟨#[]⟩ ks ns) [.int .i64 k, .int .i64 0, .string ⟨#[]⟩, .slice K lk ck, .slice A ln c] := by
  subst hlk hln
  unfold NdIs
  exact ⟨K, ck, A, c, xs, rfl, hk, hx, hn, h0, by unfold I64; omega, by (show (0 : Nat) ≤ maxLen); exact Nat.zero_le _, fun s hs => by have := h1 s hs; unfold maxLen; omega, by unfold maxLen; omega, by unfold maxLen; omega⟩
theorem num9_any (n : Int) (w : World) : Calls Tryd.prog 20 #[.int .i64 n] w fun e w' => e = .returned (.agg #[.int .i64 4, .int .i64 n, .string ⟨#[]⟩, .slice none 0 0, .slice none 0 0]) ∧ w' = w.alloc (.cells #[.int .i64 4, .int .i64 n, .string ⟨#[]⟩, .slice none 0 0, .slice none 0 0] 25) := by
  go_enter Tryd.func20, Tryd.ntmps20
  go_wp2_with fail
  refine bodyPost_ret (v := .agg #[.int .i64 4, .int .i64 n, .string ⟨#[]⟩, .slice none 0 0, .slice none 0 0]) (by simp [results, Tryd.results20, go_sem]) rfl ?_
  exact ⟨rfl, rfl⟩
theorem num9_l3 (n : Int) (w : World) : Calls Tryd.prog 16 #[.int .i64 n] w fun e w' => e = .returned (.int .i64 n) ∧ w = w' := by
  go_enter Tryd.func16, Tryd.ntmps16
  go_wp2_with fail
  go_ret
  exact ⟨rfl, rfl⟩
end Go.Proofs.YtnbfagignbbmfaaDoor
/-! Plain laws of reading JSON: a quoted text is read as the text. -/
namespace Go.Proofs.YtnbfagignbbmfaaDoor
open Go.RowKit Go.PlainAid
set_option linter.unusedVariables false
set_option linter.unusedSimpArgs false
theorem hexD_hexU (k : Nat) (h : k < 16) : hexD (hexU k) = some (k : Int) := by
  have : ∀ i : Fin 16, hexD (hexU i.val) = some ((i.val : Nat) : Int) := by decide
  exact this ⟨k, h⟩
theorem hexD_48 : hexD 48 = some 0 := by decide
theorem unit_ctl (c : UInt8) (h : c.toNat < 256) (l : List UInt8) : unitL 4 0 (48 :: 48 :: hexU (c.toNat / 16) :: hexU (c.toNat % 16) :: l) = some ((c.toNat : Int), l) := by
  have h1 := hexD_hexU (c.toNat / 16) (by omega)
  have h2 := hexD_hexU (c.toNat % 16) (by omega)
  simp only [unitL, hexD_48, h1, h2]
  congr 2
  omega
theorem point_ctl (c : UInt8) (h : c.toNat < 256) (l : List UInt8) : pointL (48 :: 48 :: hexU (c.toNat / 16) :: hexU (c.toNat % 16) :: l) = some ((c.toNat : Int), l) := by
  unfold pointL
  rw [unit_ctl c h]
  simp only
  rw [if_pos (by omega)]
theorem putB_ascii (c : UInt8) (h : c.toNat < 128) : putB (c.toNat : Int) = [c] := by
  rw [putB_of (l := [(c.toNat : Int)]) (by unfold putN; rw [if_neg (by omega), if_pos (by omega)])]
  simp
theorem escL_ctl (c : UInt8) (h : c.toNat < 128) (l : List UInt8) : escL (117 :: 48 :: 48 :: hexU (c.toNat / 16) :: hexU (c.toNat % 16) :: l) = some ([c], l) := by
  unfold escL
  simp only [point_ctl c (by omega) l, putB_ascii c h]
  simp
theorem u8_lt (a b : UInt8) : a < b ↔ a.toNat < b.toNat := UInt8.lt_iff_toNat_lt
theorem ne_of_toNat {a b : UInt8} (h : a.toNat ≠ b.toNat) : a ≠ b := fun e => h (by rw [e])
theorem textT_esc (r acc l b r2 : List UInt8) (h : escL r = some (b, r2)) : textT (92 :: r) acc = textT r2 (acc ++ b) := by
  rw [textT_cons, if_neg (by decide), if_neg (by decide), if_pos rfl, h]
/-- the bytes of a code point above 127 -/
theorem high_all (p : Int) (hp : putB p ≠ []) (h128 : 128 ≤ p) : ∀ c ∈ putB p, 128 ≤ c.toNat := by
  have ha : ¬ p < 128 := by omega
  rw [Ne, putB_nil] at hp
  intro c hc
  unfold putB putN at hc
  rw [if_neg hp, if_neg ha] at hc
  split at hc
  · simp only [List.map_cons, List.map_nil, List.mem_cons, List.not_mem_nil, or_false] at hc
    rcases hc with rfl | rfl
    · have := toNat_ofNat (192 + p / 64) (by omega) (by omega); omega
    · have := toNat_ofNat (128 + p % 64) (by omega) (by omega); omega
  split at hc
  · simp only [List.map_cons, List.map_nil, List.mem_cons, List.not_mem_nil, or_false] at hc
    rcases hc with rfl | rfl | rfl
    · have := toNat_ofNat (224 + p / 4096) (by omega) (by omega); omega
    · have := toNat_ofNat (128 + p / 64 % 64) (by omega) (by omega); omega
    · have := toNat_ofNat (128 + p % 64) (by omega) (by omega); omega
  · simp only [List.map_cons, List.map_nil, List.mem_cons, List.not_mem_nil, or_false] at hc
    rcases hc with rfl | rfl | rfl | rfl
    · have := toNat_ofNat (240 + p / 262144) (by omega) (by omega); omega
    · have := toNat_ofNat (128 + p / 4096 % 64) (by omega) (by omega); omega
    · have := toNat_ofNat (128 + p / 64 % 64) (by omega) (by omega); omega
    · have := toNat_ofNat (128 + p % 64) (by omega) (by omega); omega
theorem high_flat : ∀ t : List UInt8, (∀ c ∈ t, 128 ≤ c.toNat) → t.flatMap escU = t := by
  intro t
  induction t with
  | nil => intro _; rfl
  | cons c t ih =>
    intro h
    have hc := h c (by simp)
    have e : escU c = [c] := by
      unfold escU
      rw [if_neg (by rintro (e | e) <;> (rw [e] at hc; revert hc; decide)), if_pos (by omega)]
    rw [List.flatMap_cons, ih (fun x hx => h x (by simp [hx])), e]
    rfl
theorem low_one (p : Int) (hp : putB p ≠ []) (ha : p < 128) : ∃ c : UInt8, putB p = [c] ∧ (c.toNat : Int) = p := by
  have hb := putN_nonneg p hp
  refine ⟨UInt8.ofNat p.toNat, ?_, toNat_ofNat p (by omega) (by omega)⟩
  rw [putB_of (l := [p]) (by unfold putN; rw [if_neg (by rw [← putB_nil]; exact hp), if_pos ha])]
  rfl
/-- one code point's text is read as its bytes -/
theorem textT_point (p : Int) (hp : putB p ≠ []) (l acc : List UInt8) : textT ((putB p).flatMap escU ++ l) acc = textT l (acc ++ putB p) := by
  have hb := putN_nonneg p hp
  by_cases ha : p < 128
  · obtain ⟨c, hc, hn⟩ := low_one p hp ha
    rw [hc]
    have hd : ∀ l, decL (c :: l) = some (p, 1) := fun l => by
      have := decL_put p l hp
      rw [hc] at this
      simpa using this
    simp only [List.flatMap_cons, List.flatMap_nil, List.append_nil]
    unfold escU
    by_cases h1 : c = 34 ∨ c = 92
    · rw [if_pos h1]
      show textT (92 :: c :: l) acc = _
      refine textT_esc _ _ l _ _ ?_
      unfold escL
      simp only
      rw [if_pos (by rcases h1 with h | h <;> simp [h])]
    rw [if_neg h1]
    by_cases h2 : 32 ≤ c.toNat
    · rw [if_pos h2]
      show textT (c :: l) acc = _
      rw [textT_cons, if_neg (by rw [u8_lt]; simp; omega), if_neg (fun e => h1 (.inl e)), if_neg (fun e => h1 (.inr e)), hd]
      rfl
    rw [if_neg h2]
    by_cases h3 : c = 8
    · rw [if_pos h3, h3]; exact textT_esc _ _ l _ _ rfl
    rw [if_neg h3]
    by_cases h4 : c = 9
    · rw [if_pos h4, h4]; exact textT_esc _ _ l _ _ rfl
    rw [if_neg h4]
    by_cases h5 : c = 10
    · rw [if_pos h5, h5]; exact textT_esc _ _ l _ _ rfl
    rw [if_neg h5]
    by_cases h6 : c = 12
    · rw [if_pos h6, h6]; exact textT_esc _ _ l _ _ rfl
    rw [if_neg h6]
    by_cases h7 : c = 13
    · rw [if_pos h7, h7]; exact textT_esc _ _ l _ _ rfl
    rw [if_neg h7]
    exact textT_esc _ _ l _ _ (escL_ctl c (by omega) l)
  · have hall := high_all p hp (by omega)
    have hf := high_flat _ hall
    rw [hf]
    have hd := decL_put p l hp
    cases hq : putB p with
    | nil => exact absurd hq hp
    | cons c t =>
      rw [hq] at hd hall
      have hc := hall c (by simp)
      show textT (c :: (t ++ l)) acc = _
      rw [textT_cons, if_neg (by rw [u8_lt]; simp; omega), if_neg (by apply ne_of_toNat; simp; omega), if_neg (by apply ne_of_toNat; simp; omega)]
      have hd' : decL (c :: (t ++ l)) = some (p, (c :: t).length) := hd
      rw [hd']
      simp
/-- a text between its signs is read as it -/
theorem textT_quote (t : List UInt8) (h : ValidP t) (acc l : List UInt8) : textT (t.flatMap escU ++ 34 :: l) acc = some (acc ++ t, l) := by
  obtain ⟨rs, hr, rfl⟩ := h
  induction rs generalizing acc with
  | nil =>
    show textT (34 :: l) acc = _
    rw [textT_cons, if_neg (by decide), if_pos rfl]
    simp
  | cons p rs ih =>
    simp only [List.map_cons, List.flatten_cons, List.flatMap_append, List.append_assoc]
    rw [textT_point p (hr p (by simp)), ih (acc ++ putB p) (fun x hx => hr x (by simp [hx]))]
    simp
theorem textL_quote (t : List UInt8) (h : ValidP t) (l : List UInt8) : textL (quoteU t ++ l) = some (t, l) := by
  unfold textL quoteU
  simp only [List.cons_append, List.nil_append, List.append_assoc, List.head?_cons, if_true, List.tail_cons]
  rw [textT_quote t h]
  rfl
theorem quoteU_head (t l : List UInt8) : (quoteU t ++ l).head? = some 34 := rfl
end Go.Proofs.YtnbfagignbbmfaaDoor
/-! Nodes written down: they are right; the walk of the laws' example, and of PointSigns. -/
namespace Go.Proofs.YtnbfagignbbmfaaDoor
open Go.RowKit Go.PlainAid
set_option linter.unusedVariables false
set_option linter.unusedSimpArgs false
set_option maxRecDepth 100000
theorem tl_lit (l : List UInt8) : (⟨l.toArray⟩ : ByteArray).toList = l := by rw [ByteArray.toList_eq]
theorem validB_ascii : ∀ l : List UInt8, (∀ c ∈ l, c.toNat < 128) → validB l = true := fun l h => by
  rw [validB_iff]
  induction l with
  | nil => exact ValidP.nil
  | cons c l ih =>
    have e := putB_ascii c (h c (by simp))
    have := ValidP.cons (r := (c.toNat : Int)) (by rw [e]; simp) (ih fun c hc => h c (by simp [hc]))
    rw [e] at this
    exact this
theorem keysB_of (ks : List ByteArray) (h : ks.Nodup) (hv : ∀ s ∈ ks, ∀ c ∈ s.toList, c.toNat < 128) : keysB ks = true := by
  unfold keysB
  exact decide_eq_true ⟨h, fun s hs => validB_ascii _ (hv s hs)⟩
theorem rightLD_nil_ (deep : Int) : rightLD [] deep = true := rightLD_nil deep
theorem rightLD_cons (n : Nd) (ns : List Nd) (deep : Int) : rightLD (n :: ns) deep = (rightD n deep && rightLD ns deep) := by
  have := rightLD_at (n :: ns) 0 n deep rfl
  rw [List.drop_zero] at this
  rw [this]; rfl
theorem rightD_obj {ks : List ByteArray} {ns : List Nd} {deep : Int} (hd : deep < 24) (hl : ks.length = ns.length) (hk : keysB ks = true) (hn : rightLD ns (deep + 1) = true) : rightD (.mk 7 0 ⟨#[]⟩ ks ns) deep = true := by
  rw [rightD_eq]
  simp [bareF, hd, hl, hk, hn]
theorem rightD_arr6 {ns : List Nd} {deep : Int} (hd : deep < 24) (hn : rightLD ns (deep + 1) = true) : rightD (.mk 6 0 ⟨#[]⟩ [] ns) deep = true := by
  rw [rightD_eq]
  simp [bareF, hd, hn]
theorem rightD_num4 {n : Int} (deep : Int) (h1 : -9007199254740991 ≤ n) (h2 : n ≤ 9007199254740991) : rightD (num4 n) deep = true := by
  unfold num4
  rw [rightD_eq]
  simp [bareF, h1, h2]
theorem size_num4 {n : Int} (h : I64 n) : sizeOk (num4 n) := by
  unfold num4 sizeOk sizeOkL
  exact ⟨h, by decide, by simp, by simp, trivial⟩
theorem size_lit {k : Int} {ks : List ByteArray} {ns : List Nd} (h1 : ∀ s ∈ ks, s.size ≤ 1000000) (h2 : ks.length ≤ 1000000) (h3 : ns.length ≤ 1000000) (h4 : sizeOkL ns) : sizeOk (.mk k 0 ⟨#[]⟩ ks ns) := by
  unfold sizeOk
  exact ⟨by omega, by decide, fun s hs => by have := h1 s hs; omega, ⟨h2, h3⟩, h4⟩
theorem sizeL_cons {n : Nd} {ns : List Nd} (h : sizeOk n) (hs : sizeOkL ns) : sizeOkL (n :: ns) := by
  unfold sizeOkL; exact ⟨h, hs⟩
theorem sizeL_nil : sizeOkL [] := by unfold sizeOkL; trivial
theorem getN_find {p : ByteArray} {l : List ByteArray} {n m : Nd} (h7 : n.kind = 7) (h : findN n p = some m) : getN (p :: l) n = getN l m := by
  rw [getN, if_pos h7, h]
theorem getN_nofind {p : ByteArray} {l : List ByteArray} {n : Nd} (h7 : n.kind = 7) (h : findN n p = none) : getN (p :: l) n = none := by
  rw [getN, if_pos h7, h]
theorem getN_at {p : ByteArray} {l : List ByteArray} {n m : Nd} {i : Nat} (h6 : n.kind = 6) (h42 : p.toList ≠ [42]) (hp : placeF p n.kids.length = i) (hk : n.kids[i]? = some m) : getN (p :: l) n = getN l m := by
  rw [getN, if_neg (by omega), if_pos h6, if_neg h42, if_neg (by omega), hp]
  simp [hk]
theorem getN_noat {p : ByteArray} {l : List ByteArray} {n : Nd} (h6 : n.kind = 6) (h42 : p.toList ≠ [42]) (hp : placeF p n.kids.length < 0) : getN (p :: l) n = none := by
  rw [getN, if_neg (by omega), if_pos h6, if_neg h42, if_pos hp]
theorem getN_else {p : ByteArray} {l : List ByteArray} {n : Nd} (h7 : n.kind ≠ 7) (h6 : n.kind ≠ 6) : getN (p :: l) n = none := by
  rw [getN, if_neg h7, if_neg h6]
theorem findN_lit {ks : List ByteArray} {ns : List Nd} {num : Int} {t x : ByteArray} {i : Nat} (h : (ks.map ByteArray.toList).findIdx? (fun s => x.toList == s) = some i) : findN (.mk 7 num t ks ns) x = ns[i]? := by
  have e : idxK ks x = some i := by
    unfold idxK
    rw [List.findIdx?_map] at h
    exact h
  simp [findN, e]
theorem findN_lit0 {ks : List ByteArray} {ns : List Nd} {num : Int} {t x : ByteArray} (h : (ks.map ByteArray.toList).findIdx? (fun s => x.toList == s) = none) : findN (.mk 7 num t ks ns) x = none := by
  have e : idxK ks x = none := by
    unfold idxK
    rw [List.findIdx?_map] at h
    exact h
  simp [findN, e]
theorem count_num4 (n : Int) : (num4 n).count = 1 := by unfold num4; simp [Nd.count, Nd.count.counts]
def ndEx : Nd := .mk 7 0 ⟨#[]⟩ [⟨#[97]⟩] [.mk 6 0 ⟨#[]⟩ [] [num4 7]]
theorem ndEx_right : rightD ndEx 0 = true := by
  unfold ndEx
  refine rightD_obj (by omega) rfl (keysB_of _ (by simp) (by intro s hs; simp at hs; subst hs; rw [tl_lit]; decide)) ?_
  rw [rightLD_cons, rightLD_nil, Bool.and_true]
  refine rightD_arr6 (by omega) ?_
  rw [rightLD_cons, rightLD_nil, Bool.and_true]
  exact rightD_num4 _ (by omega) (by omega)
theorem ndEx_get : pointN ndEx ⟨#[47, 97, 47, 48]⟩ = (some (num4 7), 0) := by
  refine pointN_some ndEx_right ?_ ?_
  · unfold formP; rw [tl_lit]; decide
  · have e : partsP ⟨#[47, 97, 47, 48]⟩ = [⟨#[97]⟩, ⟨#[48]⟩] := by unfold partsP; rw [tl_lit]; rfl
    rw [e]
    unfold ndEx
    rw [getN_find (m := .mk 6 0 ⟨#[]⟩ [] [num4 7]) rfl (findN_lit (i := 0) (by simp only [List.map_cons, List.map_nil, tl_lit]; decide)), getN_at (i := 0) (m := num4 7) rfl (by rw [tl_lit]; decide) (by decide +kernel) rfl]
    rfl
theorem ndEx_size : sizeOk ndEx ∧ ndEx.count ≤ 1000000 := by
  unfold ndEx
  refine ⟨size_lit (by intro s hs; simp at hs; subst hs; decide) (by simp) (by simp) (sizeL_cons (size_lit (by simp) (by simp) (by simp) (sizeL_cons (size_num4 (by unfold I64; omega)) sizeL_nil)) sizeL_nil), ?_⟩
  simp [Nd.count, Nd.count.counts, count_num4]
set_option maxHeartbeats 1000000 in
theorem awake9_any (w : World) (hM : MaxOK w) : Calls Tryd.prog 12 #[] w (BoolBel true w) := by
  have hbz1 : (w.alloc (.cells #[.string ⟨#[97]⟩] 9)).heap.size = w.heap.size + 1 := by simp
  have hbz2 : ((w.alloc (.cells #[.string ⟨#[97]⟩] 9)).alloc (.cells #[.int .i64 4, .int .i64 7, .string ⟨#[]⟩, .slice none 0 0, .slice none 0 0] 25)).heap.size = w.heap.size + 2 := by simp
  have hbz3 : (((w.alloc (.cells #[.string ⟨#[97]⟩] 9)).alloc (.cells #[.int .i64 4, .int .i64 7, .string ⟨#[]⟩, .slice none 0 0, .slice none 0 0] 25)).alloc (.cells #[.int .i64 4, .int .i64 7, .string ⟨#[]⟩, .slice none 0 0, .slice none 0 0] 25)).heap.size = w.heap.size + 3 := by simp
  have hbz4 : ((((w.alloc (.cells #[.string ⟨#[97]⟩] 9)).alloc (.cells #[.int .i64 4, .int .i64 7, .string ⟨#[]⟩, .slice none 0 0, .slice none 0 0] 25)).alloc (.cells #[.int .i64 4, .int .i64 7, .string ⟨#[]⟩, .slice none 0 0, .slice none 0 0] 25)).alloc (.cells #[.int .i64 6, .int .i64 0, .string ⟨#[]⟩, .slice none 0 0, .slice (some ⟨w.heap.size + 2, 0, none⟩) 1 1] 25)).heap.size = w.heap.size + 4 := by simp
  have hbz5 : (((((w.alloc (.cells #[.string ⟨#[97]⟩] 9)).alloc (.cells #[.int .i64 4, .int .i64 7, .string ⟨#[]⟩, .slice none 0 0, .slice none 0 0] 25)).alloc (.cells #[.int .i64 4, .int .i64 7, .string ⟨#[]⟩, .slice none 0 0, .slice none 0 0] 25)).alloc (.cells #[.int .i64 6, .int .i64 0, .string ⟨#[]⟩, .slice none 0 0, .slice (some ⟨w.heap.size + 2, 0, none⟩) 1 1] 25)).alloc (.cells #[.int .i64 7, .int .i64 0, .string ⟨#[]⟩, .slice (some ⟨w.heap.size, 0, none⟩) 1 1, .slice (some ⟨w.heap.size + 3, 0, none⟩) 1 1] 25)).heap.size = w.heap.size + 5 := by simp
  have hb0 : Blk (((((w.alloc (.cells #[.string ⟨#[97]⟩] 9)).alloc (.cells #[.int .i64 4, .int .i64 7, .string ⟨#[]⟩, .slice none 0 0, .slice none 0 0] 25)).alloc (.cells #[.int .i64 4, .int .i64 7, .string ⟨#[]⟩, .slice none 0 0, .slice none 0 0] 25)).alloc (.cells #[.int .i64 6, .int .i64 0, .string ⟨#[]⟩, .slice none 0 0, .slice (some ⟨w.heap.size + 2, 0, none⟩) 1 1] 25)).alloc (.cells #[.int .i64 7, .int .i64 0, .string ⟨#[]⟩, .slice (some ⟨w.heap.size, 0, none⟩) 1 1, .slice (some ⟨w.heap.size + 3, 0, none⟩) 1 1] 25)) (w.heap.size) 9 #[.string ⟨#[97]⟩] := (((((Blk.new w 9 #[.string ⟨#[97]⟩]).alloc (.cells #[.int .i64 4, .int .i64 7, .string ⟨#[]⟩, .slice none 0 0, .slice none 0 0] 25)).alloc (.cells #[.int .i64 4, .int .i64 7, .string ⟨#[]⟩, .slice none 0 0, .slice none 0 0] 25)).alloc (.cells #[.int .i64 6, .int .i64 0, .string ⟨#[]⟩, .slice none 0 0, .slice (some ⟨w.heap.size + 2, 0, none⟩) 1 1] 25)).alloc (.cells #[.int .i64 7, .int .i64 0, .string ⟨#[]⟩, .slice (some ⟨w.heap.size, 0, none⟩) 1 1, .slice (some ⟨w.heap.size + 3, 0, none⟩) 1 1] 25))
  have hb1 : Blk (((((w.alloc (.cells #[.string ⟨#[97]⟩] 9)).alloc (.cells #[.int .i64 4, .int .i64 7, .string ⟨#[]⟩, .slice none 0 0, .slice none 0 0] 25)).alloc (.cells #[.int .i64 4, .int .i64 7, .string ⟨#[]⟩, .slice none 0 0, .slice none 0 0] 25)).alloc (.cells #[.int .i64 6, .int .i64 0, .string ⟨#[]⟩, .slice none 0 0, .slice (some ⟨w.heap.size + 2, 0, none⟩) 1 1] 25)).alloc (.cells #[.int .i64 7, .int .i64 0, .string ⟨#[]⟩, .slice (some ⟨w.heap.size, 0, none⟩) 1 1, .slice (some ⟨w.heap.size + 3, 0, none⟩) 1 1] 25)) (w.heap.size + 1) 25 #[.int .i64 4, .int .i64 7, .string ⟨#[]⟩, .slice none 0 0, .slice none 0 0] := by
    have := ((((Blk.new (w.alloc (.cells #[.string ⟨#[97]⟩] 9)) 25 #[.int .i64 4, .int .i64 7, .string ⟨#[]⟩, .slice none 0 0, .slice none 0 0]).alloc (.cells #[.int .i64 4, .int .i64 7, .string ⟨#[]⟩, .slice none 0 0, .slice none 0 0] 25)).alloc (.cells #[.int .i64 6, .int .i64 0, .string ⟨#[]⟩, .slice none 0 0, .slice (some ⟨w.heap.size + 2, 0, none⟩) 1 1] 25)).alloc (.cells #[.int .i64 7, .int .i64 0, .string ⟨#[]⟩, .slice (some ⟨w.heap.size, 0, none⟩) 1 1, .slice (some ⟨w.heap.size + 3, 0, none⟩) 1 1] 25))
    rw [hbz1] at this; exact this
  have hb2 : Blk (((((w.alloc (.cells #[.string ⟨#[97]⟩] 9)).alloc (.cells #[.int .i64 4, .int .i64 7, .string ⟨#[]⟩, .slice none 0 0, .slice none 0 0] 25)).alloc (.cells #[.int .i64 4, .int .i64 7, .string ⟨#[]⟩, .slice none 0 0, .slice none 0 0] 25)).alloc (.cells #[.int .i64 6, .int .i64 0, .string ⟨#[]⟩, .slice none 0 0, .slice (some ⟨w.heap.size + 2, 0, none⟩) 1 1] 25)).alloc (.cells #[.int .i64 7, .int .i64 0, .string ⟨#[]⟩, .slice (some ⟨w.heap.size, 0, none⟩) 1 1, .slice (some ⟨w.heap.size + 3, 0, none⟩) 1 1] 25)) (w.heap.size + 2) 25 #[.int .i64 4, .int .i64 7, .string ⟨#[]⟩, .slice none 0 0, .slice none 0 0] := by
    have := (((Blk.new ((w.alloc (.cells #[.string ⟨#[97]⟩] 9)).alloc (.cells #[.int .i64 4, .int .i64 7, .string ⟨#[]⟩, .slice none 0 0, .slice none 0 0] 25)) 25 #[.int .i64 4, .int .i64 7, .string ⟨#[]⟩, .slice none 0 0, .slice none 0 0]).alloc (.cells #[.int .i64 6, .int .i64 0, .string ⟨#[]⟩, .slice none 0 0, .slice (some ⟨w.heap.size + 2, 0, none⟩) 1 1] 25)).alloc (.cells #[.int .i64 7, .int .i64 0, .string ⟨#[]⟩, .slice (some ⟨w.heap.size, 0, none⟩) 1 1, .slice (some ⟨w.heap.size + 3, 0, none⟩) 1 1] 25))
    rw [hbz2] at this; exact this
  have hb3 : Blk (((((w.alloc (.cells #[.string ⟨#[97]⟩] 9)).alloc (.cells #[.int .i64 4, .int .i64 7, .string ⟨#[]⟩, .slice none 0 0, .slice none 0 0] 25)).alloc (.cells #[.int .i64 4, .int .i64 7, .string ⟨#[]⟩, .slice none 0 0, .slice none 0 0] 25)).alloc (.cells #[.int .i64 6, .int .i64 0, .string ⟨#[]⟩, .slice none 0 0, .slice (some ⟨w.heap.size + 2, 0, none⟩) 1 1] 25)).alloc (.cells #[.int .i64 7, .int .i64 0, .string ⟨#[]⟩, .slice (some ⟨w.heap.size, 0, none⟩) 1 1, .slice (some ⟨w.heap.size + 3, 0, none⟩) 1 1] 25)) (w.heap.size + 3) 25 #[.int .i64 6, .int .i64 0, .string ⟨#[]⟩, .slice none 0 0, .slice (some ⟨w.heap.size + 2, 0, none⟩) 1 1] := by
    have := ((Blk.new (((w.alloc (.cells #[.string ⟨#[97]⟩] 9)).alloc (.cells #[.int .i64 4, .int .i64 7, .string ⟨#[]⟩, .slice none 0 0, .slice none 0 0] 25)).alloc (.cells #[.int .i64 4, .int .i64 7, .string ⟨#[]⟩, .slice none 0 0, .slice none 0 0] 25)) 25 #[.int .i64 6, .int .i64 0, .string ⟨#[]⟩, .slice none 0 0, .slice (some ⟨w.heap.size + 2, 0, none⟩) 1 1]).alloc (.cells #[.int .i64 7, .int .i64 0, .string ⟨#[]⟩, .slice (some ⟨w.heap.size, 0, none⟩) 1 1, .slice (some ⟨w.heap.size + 3, 0, none⟩) 1 1] 25))
    rw [hbz3] at this; exact this
  have hb4 : Blk (((((w.alloc (.cells #[.string ⟨#[97]⟩] 9)).alloc (.cells #[.int .i64 4, .int .i64 7, .string ⟨#[]⟩, .slice none 0 0, .slice none 0 0] 25)).alloc (.cells #[.int .i64 4, .int .i64 7, .string ⟨#[]⟩, .slice none 0 0, .slice none 0 0] 25)).alloc (.cells #[.int .i64 6, .int .i64 0, .string ⟨#[]⟩, .slice none 0 0, .slice (some ⟨w.heap.size + 2, 0, none⟩) 1 1] 25)).alloc (.cells #[.int .i64 7, .int .i64 0, .string ⟨#[]⟩, .slice (some ⟨w.heap.size, 0, none⟩) 1 1, .slice (some ⟨w.heap.size + 3, 0, none⟩) 1 1] 25)) (w.heap.size + 4) 25 #[.int .i64 7, .int .i64 0, .string ⟨#[]⟩, .slice (some ⟨w.heap.size, 0, none⟩) 1 1, .slice (some ⟨w.heap.size + 3, 0, none⟩) 1 1] := by
    have := (Blk.new ((((w.alloc (.cells #[.string ⟨#[97]⟩] 9)).alloc (.cells #[.int .i64 4, .int .i64 7, .string ⟨#[]⟩, .slice none 0 0, .slice none 0 0] 25)).alloc (.cells #[.int .i64 4, .int .i64 7, .string ⟨#[]⟩, .slice none 0 0, .slice none 0 0] 25)).alloc (.cells #[.int .i64 6, .int .i64 0, .string ⟨#[]⟩, .slice none 0 0, .slice (some ⟨w.heap.size + 2, 0, none⟩) 1 1] 25)) 25 #[.int .i64 7, .int .i64 0, .string ⟨#[]⟩, .slice (some ⟨w.heap.size, 0, none⟩) 1 1, .slice (some ⟨w.heap.size + 3, 0, none⟩) 1 1])
    rw [hbz4] at this; exact this
  have hbw : Below w.heap.size w (((((w.alloc (.cells #[.string ⟨#[97]⟩] 9)).alloc (.cells #[.int .i64 4, .int .i64 7, .string ⟨#[]⟩, .slice none 0 0, .slice none 0 0] 25)).alloc (.cells #[.int .i64 4, .int .i64 7, .string ⟨#[]⟩, .slice none 0 0, .slice none 0 0] 25)).alloc (.cells #[.int .i64 6, .int .i64 0, .string ⟨#[]⟩, .slice none 0 0, .slice (some ⟨w.heap.size + 2, 0, none⟩) 1 1] 25)).alloc (.cells #[.int .i64 7, .int .i64 0, .string ⟨#[]⟩, .slice (some ⟨w.heap.size, 0, none⟩) 1 1, .slice (some ⟨w.heap.size + 3, 0, none⟩) 1 1] 25)) := ((((((Below.refl w.heap.size w).alloc (by simp <;> omega) (.cells #[.string ⟨#[97]⟩] 9)).alloc (by simp <;> omega) (.cells #[.int .i64 4, .int .i64 7, .string ⟨#[]⟩, .slice none 0 0, .slice none 0 0] 25)).alloc (by simp <;> omega) (.cells #[.int .i64 4, .int .i64 7, .string ⟨#[]⟩, .slice none 0 0, .slice none 0 0] 25)).alloc (by simp <;> omega) (.cells #[.int .i64 6, .int .i64 0, .string ⟨#[]⟩, .slice none 0 0, .slice (some ⟨w.heap.size + 2, 0, none⟩) 1 1] 25)).alloc (by simp <;> omega) (.cells #[.int .i64 7, .int .i64 0, .string ⟨#[]⟩, .slice (some ⟨w.heap.size, 0, none⟩) 1 1, .slice (some ⟨w.heap.size + 3, 0, none⟩) 1 1] 25))
  have hnd : NdIs (((((w.alloc (.cells #[.string ⟨#[97]⟩] 9)).alloc (.cells #[.int .i64 4, .int .i64 7, .string ⟨#[]⟩, .slice none 0 0, .slice none 0 0] 25)).alloc (.cells #[.int .i64 4, .int .i64 7, .string ⟨#[]⟩, .slice none 0 0, .slice none 0 0] 25)).alloc (.cells #[.int .i64 6, .int .i64 0, .string ⟨#[]⟩, .slice none 0 0, .slice (some ⟨w.heap.size + 2, 0, none⟩) 1 1] 25)).alloc (.cells #[.int .i64 7, .int .i64 0, .string ⟨#[]⟩, .slice (some ⟨w.heap.size, 0, none⟩) 1 1, .slice (some ⟨w.heap.size + 3, 0, none⟩) 1 1] 25)) (((((w.alloc (.cells #[.string ⟨#[97]⟩] 9)).alloc (.cells #[.int .i64 4, .int .i64 7, .string ⟨#[]⟩, .slice none 0 0, .slice none 0 0] 25)).alloc (.cells #[.int .i64 4, .int .i64 7, .string ⟨#[]⟩, .slice none 0 0, .slice none 0 0] 25)).alloc (.cells #[.int .i64 6, .int .i64 0, .string ⟨#[]⟩, .slice none 0 0, .slice (some ⟨w.heap.size + 2, 0, none⟩) 1 1] 25)).alloc (.cells #[.int .i64 7, .int .i64 0, .string ⟨#[]⟩, .slice (some ⟨w.heap.size, 0, none⟩) 1 1, .slice (some ⟨w.heap.size + 3, 0, none⟩) 1 1] 25)).heap.size ndEx [.int .i64 7, .int .i64 0, .string ⟨#[]⟩, .slice (some ⟨w.heap.size, 0, none⟩) 1 1, .slice (some ⟨w.heap.size + 3, 0, none⟩) 1 1] := by
    unfold ndEx
    refine NdIs.lit rfl rfl (Reads.of_blk hb0 (by omega) rfl) (Reads.of_blk hb3 (by omega) rfl) (NdsIs.cons (NdIs.lit (K := none) rfl rfl Reads.none_ (Reads.of_blk hb2 (by omega) rfl) (NdsIs.cons (num4_is 7 (by unfold I64; omega) _ _) NdsIs.nil_) (by unfold I64; omega) (by simp) (by simp) (by simp)) NdsIs.nil_) (by unfold I64; omega) (by intro s hs; simp at hs; subst hs; decide) (by simp) (by simp)
  have HG : Hid (Calls Tryd.prog 13 #[.agg #[.int .i64 7, .int .i64 0, .string ⟨#[]⟩, .slice (some ⟨w.heap.size, 0, none⟩) 1 1, .slice (some ⟨w.heap.size + 3, 0, none⟩) 1 1], .string ⟨#[47, 97, 47, 48]⟩] (((((w.alloc (.cells #[.string ⟨#[97]⟩] 9)).alloc (.cells #[.int .i64 4, .int .i64 7, .string ⟨#[]⟩, .slice none 0 0, .slice none 0 0] 25)).alloc (.cells #[.int .i64 4, .int .i64 7, .string ⟨#[]⟩, .slice none 0 0, .slice none 0 0] 25)).alloc (.cells #[.int .i64 6, .int .i64 0, .string ⟨#[]⟩, .slice none 0 0, .slice (some ⟨w.heap.size + 2, 0, none⟩) 1 1] 25)).alloc (.cells #[.int .i64 7, .int .i64 0, .string ⟨#[]⟩, .slice (some ⟨w.heap.size, 0, none⟩) 1 1, .slice (some ⟨w.heap.size + 3, 0, none⟩) 1 1] 25)) (GetNum 7 (((((w.alloc (.cells #[.string ⟨#[97]⟩] 9)).alloc (.cells #[.int .i64 4, .int .i64 7, .string ⟨#[]⟩, .slice none 0 0, .slice none 0 0] 25)).alloc (.cells #[.int .i64 4, .int .i64 7, .string ⟨#[]⟩, .slice none 0 0, .slice none 0 0] 25)).alloc (.cells #[.int .i64 6, .int .i64 0, .string ⟨#[]⟩, .slice none 0 0, .slice (some ⟨w.heap.size + 2, 0, none⟩) 1 1] 25)).alloc (.cells #[.int .i64 7, .int .i64 0, .string ⟨#[]⟩, .slice (some ⟨w.heap.size, 0, none⟩) 1 1, .slice (some ⟨w.heap.size + 3, 0, none⟩) 1 1] 25)))) := by
    have := pGet_any ndEx ⟨#[47, 97, 47, 48]⟩ _ (((((w.alloc (.cells #[.string ⟨#[97]⟩] 9)).alloc (.cells #[.int .i64 4, .int .i64 7, .string ⟨#[]⟩, .slice none 0 0, .slice none 0 0] 25)).alloc (.cells #[.int .i64 4, .int .i64 7, .string ⟨#[]⟩, .slice none 0 0, .slice none 0 0] 25)).alloc (.cells #[.int .i64 6, .int .i64 0, .string ⟨#[]⟩, .slice none 0 0, .slice (some ⟨w.heap.size + 2, 0, none⟩) 1 1] 25)).alloc (.cells #[.int .i64 7, .int .i64 0, .string ⟨#[]⟩, .slice (some ⟨w.heap.size, 0, none⟩) 1 1, .slice (some ⟨w.heap.size + 3, 0, none⟩) 1 1] 25)) _ hnd (Nat.le_refl _) ndEx_size.1 ndEx_size.2 (by decide) (hM.below hbw)
    rw [ndEx_get] at this
    exact this.mono fun e w' h => GetNum.of h
  have HW := Lib.hid hbw
  clear hbz1 hbz2 hbz3 hbz4 hbz5 hb0 hb1 hb2 hb3 hb4 hbw hnd hM
  go_enter Tryd.func12, Tryd.ntmps12
  go_wp2_with (go_at_call 20; refine (num9_any 7 _).mono ?_; rintro e w1 ⟨rfl, hw1⟩; subst hw1)
  refine (HG.out : Calls _ _ _ _ _).mono ?_; rintro e w1 ⟨c0, c2, c3, c4, c5, c6, c7, c8, rfl, hw1⟩
  have HB := Lib.hid (HW.out.trans (hw1.mono HW.out.size))
  clear hw1 HG HW
  go_wp2_with (go_at_call 16; refine (num9_l3 _ _).mono ?_; rintro e w2 ⟨rfl, hw⟩; obtain rfl : _ = w2 := hw)
  go_ret
  exact ⟨rfl, HB.out.alloc HB.out.size _⟩
end Go.Proofs.YtnbfagignbbmfaaDoor
/-! A node that came in, opened to cells; arguments read behind the call as before. -/
namespace Go.Proofs.YtnbfagignbbmfaaDoor
open Go.RowKit
set_option linter.unusedVariables false
set_option linter.unusedSimpArgs false
theorem list_of {α : Type} : ∀ (n : Nat) (p : Nat → α → Prop), (∀ i, i < n → ∃ a, p i a) → ∃ l : List α, l.length = n ∧ ∀ i a, l[i]? = some a → p i a
  | 0, p, h => ⟨[], rfl, fun i a hi => by simp at hi⟩
  | n + 1, p, h => by
    obtain ⟨a, ha⟩ := h 0 (by omega)
    obtain ⟨l, hl, hp⟩ := list_of n (fun i => p (i + 1)) (fun i hi => h (i + 1) (by omega))
    refine ⟨a :: l, by simp [hl], fun i b hi => ?_⟩
    cases i with
    | zero => simp at hi; subst hi; exact ha
    | succ i => exact hp i b (by simpa using hi)
theorem cellsStr : Tryd.prog.cellsOf 9 = 1 := by kernel_rfl
theorem cellsInt : Tryd.prog.cellsOf 3 = 1 := by kernel_rfl
theorem cellsStrs : Tryd.prog.cellsOf 22 = 1 := by kernel_rfl
theorem cellsNodes : Tryd.prog.cellsOf 23 = 1 := by kernel_rfl
theorem cellsNode : Tryd.prog.cellsOf 25 = 5 := by kernel_rfl
theorem flat_reads {w : World} {a : Addr} : ∀ (l : List (List Value)) (k : Nat), (∀ (i : Nat) (c : List Value), l[i]? = some c → c.length = 5 ∧ ∀ r, r < 5 → w.cell? (a.add ((k + i) * 5 + r)) = c[r]?) → ∀ (j : Nat) (u : Value), l.flatten[j]? = some u → w.cell? (a.add (k * 5 + j)) = some u
  | [], k, h, j, u, hj => by simp at hj
  | c :: l, k, h, j, u, hj => by
    obtain ⟨h5, hc⟩ := h 0 c rfl
    rw [List.flatten_cons] at hj
    by_cases hlt : j < 5
    · rw [List.getElem?_append_left (by omega)] at hj
      rw [← hj, ← hc j hlt, Nat.add_zero]
    · rw [List.getElem?_append_right (by omega), h5] at hj
      have := flat_reads l (k + 1) (fun i c hi => by
        have := h (i + 1) c (by simpa using hi)
        rw [show k + 1 + i = k + (i + 1) by omega]; exact this) (j - 5) u hj
      rw [← this]
      congr 2
      omega
theorem nds_flat {w : World} {B : Nat} : ∀ (l : List (Nd × List Value)), (∀ p ∈ l, NdIs w B p.1 p.2) → NdsIs w B (l.map (·.1)) (l.map (·.2)).flatten
  | [], h => by unfold NdsIs; rfl
  | p :: l, h => by
    show NdsIs w B (p.1 :: l.map (·.1)) _
    unfold NdsIs
    exact ⟨p.2, (l.map (·.2)).flatten, rfl, h p (by simp), nds_flat l (fun q hq => h q (by simp [hq]))⟩
theorem len_flat : ∀ (l : List (List Value)), (∀ c ∈ l, c.length = 5) → l.flatten.length = l.length * 5
  | [], h => rfl
  | c :: l, h => by
    have := len_flat l (fun c hc => h c (by simp [hc]))
    rw [List.flatten_cons, List.length_append, this, h c (by simp), List.length_cons]; omega
section
variable {H : Type} {enc : TypeId × Value → H} {w : World} {sp : Nat → Bool} {held : Bool}
theorem cell_lt {a : Addr} {v : Value} (h : w.cell? a = some v) : a.block < w.heap.size := by
  rcases Nat.lt_or_ge a.block w.heap.size with h' | h'
  · exact h'
  · unfold World.cell? at h
    rw [Array.getElem?_eq_none h'] at h
    simp at h
theorem strs_of_trod {fuel : Nat} {cs : List Value} {x : DataW H × List MemPlace} (h : DataW.trod enc Tryd.prog w 0 sp held fuel 22 cs = some x) :
    ∃ (A : Option Addr) (c : Nat) (ks : List ByteArray), cs = [.slice A ks.length c] ∧ Reads w w.heap.size 1 A ks.length (ks.map Value.string) ∧ (∀ s ∈ ks, s.size ≤ maxLen) ∧ ks.length ≤ maxLen := by
  rcases Deep.open_slice Tryd.underlying22 h with ⟨rfl, rfl⟩ | ⟨a, len, cap, m, n, D, Pl, rfl, _, hl, hm, hmm, rfl, hi⟩
  · exact ⟨none, 0, [], rfl, Reads.none_, by simp, by simp [maxLen]⟩
  · have hlm : len ≤ m := by rw [hmm]; split <;> omega
    obtain ⟨ks, hk, hp⟩ := list_of len (fun i (s : ByteArray) => w.cell? (a.add i) = some (.string s) ∧ s.size ≤ maxLen) (fun i hi' => by
      obtain ⟨cs', hc, ht⟩ := hi i (by omega)
      rw [cellsStr, Nat.mul_one] at hc
      obtain ⟨s, rfl, _, hs⟩ := DataW.trod_string Tryd.underlying9 ht
      obtain ⟨_, _, hc⟩ := World.cells?_some hc
      exact ⟨s, by have := hc 0 (by omega); rw [show (a.add i).add 0 = a.add i by simp [Addr.add]] at this; exact this, hs⟩)
    subst hk
    refine ⟨some a, cap, ks, rfl, ⟨by simp, fun hn => ⟨a, rfl, ?_, fun j u hj => ?_⟩⟩, fun s hs => ?_, by omega⟩
    · have := (hp 0 ks[0] (List.getElem?_eq_getElem hn)).1
      have := cell_lt this
      rw [block_of_add] at this; exact this
    · rw [List.getElem?_map] at hj
      cases hk : ks[j]? with
      | none => rw [hk] at hj; simp at hj
      | some s => rw [hk] at hj; simp at hj; subst hj; exact (hp j s hk).1
    · obtain ⟨j, hj⟩ := List.getElem?_of_mem hs
      exact (hp j s hj).2
theorem wf_I64 {n : Int} (h : (Lit.int .i64 n).wf = true) : I64 n := bounds_i64 h
set_option maxRecDepth 100000 in
theorem nd_of_trod : ∀ (k fuel : Nat), fuel ≤ k → ∀ (cs : List Value) (x : DataW H × List MemPlace), DataW.trod enc Tryd.prog w 0 sp held fuel 25 cs = some x → ∃ n, NdIs w w.heap.size n cs := by
  intro k
  induction k with
  | zero =>
    intro fuel hf cs x h
    obtain rfl : fuel = 0 := by omega
    simp [DataW.trod] at h
  | succ k ih =>
    intro fuel hf cs x h
    obtain ⟨xs, n, rfl, rfl, hl, hxl, hfld⟩ := DataW.trod_struct Tryd.underlying25 h
    rw [cellsNode] at hl
    have h0 : DataW.trod enc Tryd.prog w 0 sp held n 3 ((cs.drop 0).take (Tryd.prog.cellsOf 3)) = xs[0]? := hfld 0 _ rfl
    have h1 : DataW.trod enc Tryd.prog w 0 sp held n 3 ((cs.drop 1).take (Tryd.prog.cellsOf 3)) = xs[1]? := hfld 1 _ rfl
    have h2 : DataW.trod enc Tryd.prog w 0 sp held n 9 ((cs.drop 2).take (Tryd.prog.cellsOf 9)) = xs[2]? := hfld 2 _ rfl
    have h3 : DataW.trod enc Tryd.prog w 0 sp held n 22 ((cs.drop 3).take (Tryd.prog.cellsOf 22)) = xs[3]? := hfld 3 _ rfl
    have h4 : DataW.trod enc Tryd.prog w 0 sp held n 23 ((cs.drop 4).take (Tryd.prog.cellsOf 23)) = xs[4]? := hfld 4 _ rfl
    rw [cellsInt] at h0 h1
    rw [cellsStr] at h2
    rw [cellsStrs] at h3
    rw [cellsNodes] at h4
    clear hfld h
    have hxl : xs.length = 5 := hxl
    match cs, hl with
    | [c0, c1, c2, c3, c4], _ =>
      match xs, hxl with
      | [y0, y1, y2, y3, y4], _ =>
        simp only [List.drop_succ_cons, List.drop_zero, List.take_succ_cons, List.take_zero, List.getElem?_cons_zero, List.getElem?_cons_succ] at h0 h1 h2 h3 h4
        obtain ⟨n0, e0, _, w0⟩ := DataW.trod_int Tryd.underlying3 h0
        obtain ⟨n1, e1, _, w1⟩ := DataW.trod_int Tryd.underlying3 h1
        obtain ⟨t, e2, _, w2⟩ := DataW.trod_string Tryd.underlying9 h2
        obtain ⟨A, ck, ks, e3, r3, s3, l3⟩ := strs_of_trod h3
        obtain rfl : c0 = .int .i64 n0 := by simpa using e0
        obtain rfl : c1 = .int .i64 n1 := by simpa using e1
        obtain rfl : c2 = .string t := by simpa using e2
        obtain rfl : c3 = .slice A ks.length ck := by simpa using e3
        rcases DataW.trod_slice Tryd.underlying23 h4 with ⟨e4, _⟩ | ⟨a, len, cap, elems, rest, n', rfl, e4, _, _, hlc, hcm, hel, hget, _, _⟩
        · obtain rfl : c4 = .slice none 0 0 := by simpa using e4
          refine ⟨.mk n0 n1 t ks [], ?_⟩
          unfold NdIs
          exact ⟨A, ck, none, 0, [], rfl, r3, Reads.none_, (by unfold NdsIs; rfl), wf_I64 w0, wf_I64 w1, w2, s3, l3, by simp [maxLen]⟩
        · obtain rfl : c4 = .slice (some a) len cap := by simpa using e4
          obtain ⟨l, hll, hp⟩ := list_of len (fun i (p : Nd × List Value) => NdIs w w.heap.size p.1 p.2 ∧ p.2.length = 5 ∧ ∀ r, r < 5 → w.cell? (a.add (i * 5 + r)) = p.2[r]?) (fun i hi => by
            have hg := hget i hi
            rw [List.getElem?_eq_getElem (by omega)] at hg
            obtain ⟨cs', g1, g2⟩ := Option.bind_eq_some_iff.1 hg
            rw [cellsNode] at g1
            obtain ⟨_, g3, g4⟩ := World.cells?_some g1
            obtain ⟨m, hm⟩ := ih n' (by omega) cs' _ g2
            exact ⟨(m, cs'), hm, g3, fun r hr => by have := g4 r hr; rw [add_of_add] at this; exact this⟩)
          subst hll
          refine ⟨.mk n0 n1 t ks (l.map (·.1)), ?_⟩
          unfold NdIs
          have hfr := flat_reads (w := w) (a := a) (l.map (·.2)) 0 (fun i c hc => by
            rw [List.getElem?_map] at hc
            cases hk : l[i]? with
            | none => rw [hk] at hc; simp at hc
            | some p => rw [hk] at hc; simp at hc; subst hc; rw [Nat.zero_add]; exact (hp i p hk).2)
          refine ⟨A, ck, some a, cap, (l.map (·.2)).flatten, (by simp), r3, ⟨?_, fun hn => ⟨a, rfl, ?_, fun j u hj => ?_⟩⟩, ?_, wf_I64 w0, wf_I64 w1, w2, s3, l3, (by simp; omega)⟩
          · rw [len_flat]
            · simp
            · intro c hc
              obtain ⟨p, hp', rfl⟩ := List.mem_map.1 hc
              obtain ⟨i, hi⟩ := List.getElem?_of_mem hp'
              exact (hp i p hi).2.1
          · simp at hn
            have hq := hp 0 l[0] (List.getElem?_eq_getElem hn)
            have h5 := hq.2.1
            have := hq.2.2 0 (by omega)
            rw [List.getElem?_eq_getElem (by omega)] at this
            have := cell_lt this
            rw [block_of_add] at this; exact this
          · have := hfr j u hj
            rw [show 0 * 5 + j = j by omega] at this; exact this
          · refine nds_flat l (fun p hp' => ?_)
            obtain ⟨i, hi⟩ := List.getElem?_of_mem hp'
            exact (hp i p hi).1
end
section
open Go.ChangeShapes Go.WideShapes
variable {H : Type} {enc : TypeId × Value → H} {W W' : World}
set_option maxRecDepth 100000 in
/-- a node that came in -/
theorem open_node {r : Reach} {b0 : Nat} {sp : Nat → Bool} {held : Bool} {v : Value} {d : DataW H} {p : List MemPlace} (hv : Value.okWide Tryd.prog W r b0 25 v) (h : DataW.Trod enc Tryd.prog W 0 sp held 25 v d p) :
    ∃ n cs, v = .agg cs.toArray ∧ NdIs W W.heap.size n cs := by
  obtain ⟨cs, rfl, _⟩ := okWide_struct Tryd.underlying25 hv
  obtain ⟨fuel, hf⟩ := h
  obtain ⟨n, hn⟩ := nd_of_trod fuel fuel (Nat.le_refl _) _ _ hf
  exact ⟨n, cs.toList, by simp, by simpa [Value.cells] using hn⟩
theorem kids : Kids Tryd.prog (· < Tryd.prog.types.size) := kids_rows (by kernel_rfl) (by kernel_rfl)
theorem full : ∀ t e, t < Tryd.prog.types.size → Tryd.prog.underlying t = some (.slice e) → 0 < Tryd.prog.cellsOf e := slices_full_of _ (by kernel_rfl)
theorem all_carry : ∀ {ts : List TypeId} {vs : List Value} {ds : List (DataW H)} {ps : List MemPlace} {sp : Nat → Bool}, DataW.TrodAll enc Tryd.prog W 0 sp true ts vs ds ps → (∀ p ∈ ps, W.sameAt W' p) → DataW.TrodAll enc Tryd.prog W' 0 sp true ts vs ds ps
  | [], [], [], _, _, h, _ => h
  | _ :: _, _ :: _, _ :: _, _, _, ⟨p, q, ⟨n, h1⟩, h2, e⟩, hs => ⟨p, q, ⟨n, DataW.trod_carry n _ _ _ h1 (fun x hx => hs x (by rw [e]; exact List.mem_append_left _ hx))⟩, all_carry h2 (fun x hx => hs x (by rw [e]; exact List.mem_append_right _ hx)), e⟩
/-- arguments read behind the call as before -/
theorem args_again {ts : List TypeId} {vs : List Value} {ds : List (DataW H)} {ps : List MemPlace} (hT : ∀ t ∈ ts, t < Tryd.prog.types.size) (h : DataW.TrodAll enc Tryd.prog W 0 (fun _ => true) true ts vs ds ps) (hlt : ∀ p ∈ ps, p.block < W.heap.size)
    (hb : Below W.heap.size W W') (sp : Nat → Bool) (hs : ∀ p ∈ ps, sp p.block = true) : DataW.TrodAll enc Tryd.prog W' 0 sp true ts vs ds ps := by
  refine all_carry (DataW.TrodAll.respare kids full hT h hs) (fun p hp => ?_)
  have := hlt p hp
  cases p with
  | cell b off => exact hb.cell this
  | map b => exact hb.block b this
end
end Go.Proofs.YtnbfagignbbmfaaDoor
