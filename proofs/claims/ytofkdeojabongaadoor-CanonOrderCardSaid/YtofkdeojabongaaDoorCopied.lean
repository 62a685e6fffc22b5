/- The walk of canon's copied. -/
import Derived.Test.YtofkdeojabongaaDoorNdIn
import Derived.Deep.RegionHeld3
namespace Go.Proofs.YtofkdeojabongaaDoor
open Go.RowKit Go.PlainAid
set_option linter.unusedVariables false
set_option linter.unusedSimpArgs false
/-- the blocks made since -/
def Since (w w' : World) (b : Nat) : Prop := w.heap.size ≤ b ∧ b < w'.heap.size
theorem spot_none {w : World} {a : Addr} {v : Value} (h : w.cell? a = some v) : a.spot = none := by
  unfold World.cell? at h
  split at h
  · split at h
    · cases h
    · rename_i hs
      simpa using hs
  · cases h
theorem clone_any (ks : List ByteArray) (A : Option Addr) (ck B : Nat) (w : World) (hks : Reads w B 1 A ks.length (ks.map Value.string)) (hl : ks.length ≤ 1000000) (hB : B ≤ w.heap.size) :
    Calls Tryd.prog 49 #[.slice A ks.length ck] w fun e w' => ∃ A' c', e = .returned (.slice A' ks.length c') ∧ RS w' (Since w w') 1 A' ks.length (ks.map Value.string) ∧ Below w.heap.size w w' := by
  cases A with
  | none =>
    have : ks = [] := by
      rcases Nat.eq_zero_or_pos ks.length with h | h
      · exact List.eq_nil_of_length_eq_zero h
      · obtain ⟨ad, h, _⟩ := hks.2 h; cases h
    subst this
    refine (Tryd.slices_Clone_string_nil _ ck w).mono ?_
    rintro e w' ⟨rfl, rfl⟩
    exact ⟨none, 0, rfl, RS.none_, Below.refl _ _⟩
  | some a =>
    rcases Nat.eq_zero_or_pos ks.length with h | h
    · have : ks = [] := List.eq_nil_of_length_eq_zero h
      subst this
      refine (Tryd.slices_Clone_string_zero a ck w).mono ?_
      rintro e w' ⟨v', rfl, ho, hne, hb⟩
      rcases ho.2 with ⟨rfl, _⟩ | ⟨g, cap, cur, rfl, _⟩
      · exact absurd rfl hne
      · exact ⟨_, _, rfl, RS.none_, hb⟩
    · obtain ⟨ad, e, hb, hc⟩ := hks.2 h
      injection e with e
      subst e
      have h0 := hc 0 _ (List.getElem?_eq_getElem (by simpa using h))
      have hs := spot_none h0
      rw [show a.add 0 = a by simp [Addr.add]] at hs
      have ha : a = ⟨a.block, a.off, none⟩ := by cases a; simp at hs; subst hs; rfl
      rw [ha]
      refine (Tryd.slices_Clone_string a.block a.off ks.length ck ks w (Nat.le_refl _) (by omega) (fun j hj => ?_)).mono ?_
      · have h1 := hc j (.string (ks.getD j ByteArray.empty)) (by rw [List.getElem?_map, List.getElem?_eq_getElem hj]; simp [List.getD, hj])
        rw [← h1]
        congr 1
        unfold Addr.add
        split
        · rename_i h0; subst h0; rw [ha]; rfl
        · rfl
      · rintro e w' ⟨v', rfl, ho, hne, hb'⟩
        rw [List.take_length] at ho
        obtain ⟨g, cap, hv, hg1, hg2⟩ := ho.form h
        subst hv
        refine ⟨_, _, rfl, ⟨by simp, fun _ => ⟨_, rfl, ⟨hg1, hg2⟩, ho.cells (g := g) rfl⟩⟩, hb'⟩
def NewNd (n : Nd) (w : World) (e : Ending) (w' : World) : Prop := ∃ (c0 c1 : Int) (c2 : ByteArray) (c3 : Option Addr) (c4 c5 : Nat) (c6 : Option Addr) (c7 c8 : Nat),
  e = .returned (.agg #[.int .i64 c0, .int .i64 c1, .string c2, .slice c3 c4 c5, .slice c6 c7 c8]) ∧ NdIn w' (Since w w') n [.int .i64 c0, .int .i64 c1, .string c2, .slice c3 c4 c5, .slice c6 c7 c8] ∧ Below w.heap.size w w'
def CopyC (vs : Array Value) (n : Nd) (w : World) : Prop := Calls Tryd.prog 31 #[.agg vs] w (NewNd n w)
def CopyH (B : Nat) (ns : List Nd) : Prop := ∀ (i : Nat) (n : Nd) (cs : List Value) (w' : World), ns[i]? = some n → NdIs w' B n cs → B ≤ w'.heap.size → CopyC cs.toArray n w'
set_option maxRecDepth 100000 in
set_option maxHeartbeats 3000000 in
theorem copied_step (k num : Int) (t : ByteArray) (ks : List ByteArray) (ns : List Nd) (A A2 : Option Addr) (ck cc : Nat) (xs : List Value) (w : World) (B : Nat)
    (hks : Reads w B 1 A ks.length (ks.map Value.string)) (hxs : Reads w B 5 A2 ns.length xs) (hns : NdsIs w B ns xs) (ht : t.size ≤ maxLen) (hsz : ∀ s ∈ ks, s.size ≤ maxLen) (hk1 : ks.length ≤ 1000000) (hk2 : ns.length ≤ 1000000)
    (hk0 : I64 k) (hn0 : I64 num) (hB : B ≤ w.heap.size) (HIH : Hid (CopyH B ns)) :
    CopyC #[.int .i64 k, .int .i64 num, .string t, .slice A ks.length ck, .slice A2 ns.length cc] (.mk k num t ks ns) w := by
  show Calls Tryd.prog 31 #[.agg #[.int .i64 k, .int .i64 num, .string t, .slice A ks.length ck, .slice A2 ns.length cc]] w _
  have HXS := Lib.hid hxs
  have HNS := Lib.hid hns
  have HCL : Hid (∀ w', Below w.heap.size w w' → Calls Tryd.prog 49 #[.slice A ks.length ck] w' fun e w'' => ∃ A' c', e = .returned (.slice A' ks.length c') ∧ RS w'' (Since w' w'') 1 A' ks.length (ks.map Value.string) ∧ Below w'.heap.size w' w'') := fun w' hb =>
    clone_any ks A ck B w' (hks.keep fun p hp => hb.cell (by omega)) hk1 (by have := hb.size; omega)
  have HF : Hid (I64 k ∧ I64 num ∧ t.size ≤ maxLen ∧ (∀ s ∈ ks, s.size ≤ maxLen)) := ⟨hk0, hn0, ht, hsz⟩
  have hA : Below w.heap.size w ((w.alloc (.cells #[.int .i64 k, .int .i64 num, .string t, .slice A ks.length ck, .slice A2 ns.length cc] 25)).alloc (.cells #[.int .i64 0, .int .i64 0, .string ⟨#[]⟩, .slice none 0 0, .slice none 0 0] 25)) := ((Below.refl _ _).alloc (Nat.le_refl _) _).alloc (by simp) _
  have hX : Blk ((w.alloc (.cells #[.int .i64 k, .int .i64 num, .string t, .slice A ks.length ck, .slice A2 ns.length cc] 25)).alloc (.cells #[.int .i64 0, .int .i64 0, .string ⟨#[]⟩, .slice none 0 0, .slice none 0 0] 25)) w.heap.size 25 #[.int .i64 k, .int .i64 num, .string t, .slice A ks.length ck, .slice A2 ns.length cc] := (Blk.new w _ _).alloc _
  have hY : Blk ((w.alloc (.cells #[.int .i64 k, .int .i64 num, .string t, .slice A ks.length ck, .slice A2 ns.length cc] 25)).alloc (.cells #[.int .i64 0, .int .i64 0, .string ⟨#[]⟩, .slice none 0 0, .slice none 0 0] 25)) (w.heap.size + 1) 25 #[.int .i64 0, .int .i64 0, .string ⟨#[]⟩, .slice none 0 0, .slice none 0 0] := by
    have := Blk.new (w.alloc (.cells #[.int .i64 k, .int .i64 num, .string t, .slice A ks.length ck, .slice A2 ns.length cc] 25)) 25 #[.int .i64 0, .int .i64 0, .string ⟨#[]⟩, .slice none 0 0, .slice none 0 0]
    simpa using this
  have HX := Lib.hid hX
  have HY := Lib.hid hY
  clear hks hxs hns ht hsz hk0 hn0 hX hY
  go_enter Tryd.func31, Tryd.ntmps31
  go_wp2_with fail
  refine (HCL.out _ hA).mono ?_; rintro e w1 ⟨A', c', rfl, hr1, hw1⟩
  have hB1 := hA.trans (hw1.mono (by simp; omega))
  have hX1 := HX.out.below hw1 (by simp; omega)
  have hY1 := HY.out.below hw1 (by simp)
  obtain ⟨c0, c1, c2, c3, c4⟩ := hX1.cells5
  have f3 : w1.frozen? ⟨w.heap.size, 3, none⟩ = false := hX1.frozen 3
  have hs1 : w.heap.size + 2 ≤ w1.heap.size := by have := hw1.size; simp at this; omega
  have HR1 : Hid (RS (w1.setCell ⟨w.heap.size, 3, none⟩ (.slice A' ks.length c')) (fun b => w.heap.size + 2 ≤ b ∧ b < w1.heap.size) 1 A' ks.length (ks.map Value.string)) :=
    (hr1.mono (fun b hb => by have := hb.1; simp at this; exact ⟨by omega, hb.2⟩)).keep (fun p hp => World.cell?_setCell_other _ _ _ _ (by intro e; subst e; have h5 : w.heap.size + 2 ≤ w.heap.size := hp.1; omega))
  have hX2 : Hid (Blk (w1.setCell ⟨w.heap.size, 3, none⟩ (.slice A' ks.length c')) w.heap.size 25 #[.int .i64 k, .int .i64 num, .string t, .slice A' ks.length c', .slice A2 ns.length cc]) := hX1.set_ 3 _
  have hY2 : Hid (Blk (w1.setCell ⟨w.heap.size, 3, none⟩ (.slice A' ks.length c')) (w.heap.size + 1) 25 #[.int .i64 0, .int .i64 0, .string ⟨#[]⟩, .slice none 0 0, .slice none 0 0]) := hY1.far (by simp) _
  have hB2 : Hid (Below w.heap.size w (w1.setCell ⟨w.heap.size, 3, none⟩ (.slice A' ks.length c'))) := hB1.setCell (p := ⟨w.heap.size, 3, none⟩) (Nat.le_refl _) _
  have hs2 : w.heap.size + 2 ≤ (w1.setCell ⟨w.heap.size, 3, none⟩ (.slice A' ks.length c')).heap.size := by simp; omega
  have HR2 : Hid (RS (w1.setCell ⟨w.heap.size, 3, none⟩ (.slice A' ks.length c')) (SK (w.heap.size + 2) (w1.setCell ⟨w.heap.size, 3, none⟩ (.slice A' ks.length c')) (.slice none 0 0)) 1 A' ks.length (ks.map Value.string)) :=
    HR1.out.mono fun b hb => ⟨hb.1, by simp; exact hb.2, by simp [Value.ownBlock]⟩
  clear hX1 hY1 hr1 hw1 hB1 HR1
  have d4 : (w1.setCell ⟨w.heap.size, 3, none⟩ (.slice A' ks.length c')).cell? ⟨w.heap.size, 4, none⟩ = some (.slice A2 ns.length cc) := hX2.out.cell 4
  clear c0 c1 c2
  go_wp2_with fail
  go_loopw [3, 13] (fun tv t13 wr => ∃ (i : Nat) (ys : List Value) (Aw : Option Addr) (cw : Nat), i ≤ ns.length ∧ t13 = .int .i64 i ∧ tv = .slice Aw i cw ∧ Hid (wr.ownsRow (w.heap.size + 2) 25 5 (.slice Aw i cw) i ys) ∧ Hid (NdsIn wr (SK (w.heap.size + 2) wr (.slice Aw i cw)) (ns.take i) ys) ∧ Hid (RS wr (SK (w.heap.size + 2) wr (.slice Aw i cw)) 1 A' ks.length (ks.map Value.string)) ∧
      Hid (Blk wr w.heap.size 25 #[.int .i64 k, .int .i64 num, .string t, .slice A' ks.length c', .slice A2 ns.length cc]) ∧ Hid (Blk wr (w.heap.size + 1) 25 #[.int .i64 0, .int .i64 0, .string ⟨#[]⟩, .slice none 0 0, .slice none 0 0]) ∧ Hid (Below w.heap.size w wr) ∧ w.heap.size + 2 ≤ wr.heap.size)
    (fun _ t13 _ => ns.length - (intOf t13).toNat)
  case atStart => exact ⟨0, [], none, 0, by omega, rfl, rfl, World.ownsRow_nil _ _ _ _, NdsIn.nil, HR2, hX2, hY2, hB2, hs2⟩
  case round =>
    clear HR2 hX2 hY2 hB2 hs2 d4 c3 c4 f3
    obtain ⟨i, ys, Aw, cw, hi, rfl, rfl, ho, hn, hr, hx, hy, hb, hs⟩ := hrel
    obtain ⟨wo, rfl⟩ : ∃ wo : World, wo = wr := ⟨_, rfl⟩
    by_cases hlt : i < ns.length
    · have hkeep : ∀ p : Addr, p.block < B → wo.cell? p = w.cell? p := fun p hp => hb.out.cell (by omega)
      obtain ⟨ad, n, v0, v1, v2, v3, v4, rfl, hadb, hni, hnd, e0, e1, e2, e3, e4⟩ := (HXS.out.keep hkeep).nd (NdsIs.keep hkeep _ _ HNS.out) hlt
      obtain ⟨x0, x1, x2, x3, x4, x5, x6, x7, x8, rfl, rfl, rfl, rfl, rfl⟩ := hnd.form
      have HNI := Lib.hid hni
      have HND := Lib.hid hnd
      have q3 : ¬ ad.block = wo.heap.size := by omega
      have q4 : ¬ (ad.add (i * 5)).block = wo.heap.size := by rw [block_of_add]; omega
      clear hni hnd hkeep
      have hWA : Below wo.heap.size wo (wo.alloc (.cells #[.int .i64 x0, .int .i64 x1, .string x2, .slice x3 x4 x5, .slice x6 x7 x8] 25)) := (Below.refl _ _).alloc (Nat.le_refl _) _
      have HWA := Lib.hid hWA
      go_wp2_with fail
      have HC := HIH.out i n [.int .i64 x0, .int .i64 x1, .string x2, .slice x3 x4 x5, .slice x6 x7 x8] _ HNI.out (HND.out.below (hWA.mono (by omega))) (by simp; omega)
      refine (HC : Calls _ _ _ _ _).mono ?_; rintro e w2 ⟨c0, c1, c2, c3, c4, c5, c6, c7, c8, rfl, hnew, hw2⟩
      have HNEW := Lib.hid hnew
      have HB2 : Hid (Below wo.heap.size wo w2) := HWA.out.trans (hw2.mono (by simp))
      have HO2 := Lib.hid (own_old ho.out HB2.out)
      have z2 : w.heap.size + 2 ≤ w2.heap.size := by have := HB2.out.size; omega
      have HS2 : Hid (wo.heap.size < w2.heap.size) := by have := hw2.size; simp at this; show _ < _; omega
      clear HC hnew hw2 hWA e0 e1 e2 e3 e4
      go_wp2_with (at_builtin; refine wpList_pushNd _ rfl _ _ rfl (w.heap.size + 2) _ i ys rfl HO2.out c0 c1 c2 c3 c4 c5 c6 c7 c8 rfl (by omega) z2 ?_; intro v' w3 ho3 hg3 hv3; obtain ⟨Av, cv, rfl⟩ := own_form ho3; have HO3 := Lib.hid ho3; have HG3 := Lib.hid hg3; have HV3 := Lib.hid hv3; clear ho3 hg3 hv3)
      have hown : ∀ g, (Value.slice Aw i cw).ownBlock = some g → g < wo.heap.size := fun g hg => (own_lt ho.out hg).2
      have hown2 : ∀ g, (Value.slice Aw i cw).ownBlock = some g → g < (wo.alloc (.cells #[.int .i64 x0, .int .i64 x1, .string x2, .slice x3 x4 x5, .slice x6 x7 x8] 25)).heap.size := fun g hg => by have := hown g hg; simp; omega
      have hown3 : ∀ g, g < w.heap.size + 2 → some g ≠ (Value.slice Aw i cw).ownBlock := fun g hg e => by have := (own_lt ho.out e.symm).1; omega
      have g1 : Hid (NdsIn w3 (SK (w.heap.size + 2) w3 (.slice Av (i + 1) cv)) (ns.take (i + 1)) (ys ++ [.int .i64 c0, .int .i64 c1, .string c2, .slice c3 c4 c5, .slice c6 c7 c8])) := by
        show NdsIn _ _ _ _
        rw [take_snoc HNI.out]
        refine NdsIn.app _ _ _ _ (NdsIn.keep (push_keep (v' := .slice Av (i + 1) cv) HB2.out HG3.out) (push_sub HB2.out HG3.out HV3.out) _ _ hn.out) (NdIn.keep (S := Since _ w2) (push_new_keep (B := 0) HG3.out hown2) (push_new_sub (by simp; omega) HG3.out hown2 HV3.out) _ _ HNEW.out)
      have g2 : Hid (RS w3 (SK (w.heap.size + 2) w3 (.slice Av (i + 1) cv)) 1 A' ks.length (ks.map Value.string)) := (hr.out.keep (push_keep (v' := .slice Av (i + 1) cv) HB2.out HG3.out)).mono (push_sub HB2.out HG3.out HV3.out)
      have g3 : Hid (Blk w3 w.heap.size 25 #[.int .i64 k, .int .i64 num, .string t, .slice A' ks.length c', .slice (some ad) ns.length cc]) := (hx.out.below HB2.out (by omega)).grown HG3.out (hown3 _ (by omega))
      have g4 : Hid (Blk w3 (w.heap.size + 1) 25 #[.int .i64 0, .int .i64 0, .string ⟨#[]⟩, .slice none 0 0, .slice none 0 0]) := (hy.out.below HB2.out (by omega)).grown HG3.out (hown3 _ (by omega))
      have g5 : Hid (Below w.heap.size w w3) := (hb.out.trans (HB2.out.mono (by omega))).grown HG3.out (by omega) (fun g hg => by have := (own_lt ho.out hg).1; omega)
      have g6 : w.heap.size + 2 ≤ w3.heap.size := by have := HG3.out.size; omega
      clear hown hown2 hown3
      go_wp2_with fail
      go_roundw
      case rel => exact ⟨i + 1, _, _, _, by omega, by go_num, rfl, HO3, g1, g2, g3, g4, g5, g6⟩
      case measure => simp [intOf]; omega
    · have hin : i = ns.length := by omega
      have HIN := Lib.hid hin
      clear hin
      have f4 : wo.frozen? ⟨w.heap.size, 4, none⟩ = false := hx.out.frozen 4
      obtain ⟨c0, c1, c2, c3, c4⟩ := hx.out.cells5
      obtain ⟨d0, d1, d2, d3, d4⟩ := hy.out.cells5
      have e0 : wo.frozen? ⟨w.heap.size + 1, 0, none⟩ = false := hy.out.frozen 0
      have e1 : wo.frozen? ⟨w.heap.size + 1, 1, none⟩ = false := hy.out.frozen 1
      have e2 : wo.frozen? ⟨w.heap.size + 1, 2, none⟩ = false := hy.out.frozen 2
      have e3 : wo.frozen? ⟨w.heap.size + 1, 3, none⟩ = false := hy.out.frozen 3
      have e4 : wo.frozen? ⟨w.heap.size + 1, 4, none⟩ = false := hy.out.frozen 4
      go_wp2_with fail
      have hfin : Hid (Blk ((((((wo.setCell ⟨w.heap.size, 4, none⟩ (.slice Aw i cw)).setCell ⟨w.heap.size + 1, 0, none⟩ (.int .i64 k)).setCell ⟨w.heap.size + 1, 1, none⟩ (.int .i64 num)).setCell ⟨w.heap.size + 1, 2, none⟩ (.string t)).setCell ⟨w.heap.size + 1, 3, none⟩ (.slice A' ks.length c')).setCell ⟨w.heap.size + 1, 4, none⟩ (.slice Aw i cw)) (w.heap.size + 1) 25 #[.int .i64 k, .int .i64 num, .string t, .slice A' ks.length c', .slice Aw i cw]) := ((((((hy.out.far (by simp) _).set_ 0 _).set_ 1 _).set_ 2 _).set_ 3 _).set_ 4 _)
      have hbel : Hid (Below w.heap.size w ((((((wo.setCell ⟨w.heap.size, 4, none⟩ (.slice Aw i cw)).setCell ⟨w.heap.size + 1, 0, none⟩ (.int .i64 k)).setCell ⟨w.heap.size + 1, 1, none⟩ (.int .i64 num)).setCell ⟨w.heap.size + 1, 2, none⟩ (.string t)).setCell ⟨w.heap.size + 1, 3, none⟩ (.slice A' ks.length c')).setCell ⟨w.heap.size + 1, 4, none⟩ (.slice Aw i cw))) := (((((hb.out.setCell (p := ⟨w.heap.size, 4, none⟩) (Nat.le_refl _) _).setCell (p := ⟨w.heap.size + 1, 0, none⟩) (by simp) _).setCell (p := ⟨w.heap.size + 1, 1, none⟩) (by simp) _).setCell (p := ⟨w.heap.size + 1, 2, none⟩) (by simp) _).setCell (p := ⟨w.heap.size + 1, 3, none⟩) (by simp) _).setCell (p := ⟨w.heap.size + 1, 4, none⟩) (by simp) _
      have hkp : ∀ p : Addr, SK (w.heap.size + 2) wo (.slice Aw i cw) p.block → (((((((wo.setCell ⟨w.heap.size, 4, none⟩ (.slice Aw i cw)).setCell ⟨w.heap.size + 1, 0, none⟩ (.int .i64 k)).setCell ⟨w.heap.size + 1, 1, none⟩ (.int .i64 num)).setCell ⟨w.heap.size + 1, 2, none⟩ (.string t)).setCell ⟨w.heap.size + 1, 3, none⟩ (.slice A' ks.length c')).setCell ⟨w.heap.size + 1, 4, none⟩ (.slice Aw i cw))).cell? p = wo.cell? p := fun p hp => by
        have h1 := hp.1
        have ne : ∀ (g o : Nat), g < w.heap.size + 2 → (⟨g, o, none⟩ : Addr) ≠ p := fun g o hg e => by subst e; have h2 : w.heap.size + 2 ≤ g := h1; omega
        rw [World.cell?_setCell_other _ _ _ _ (ne _ _ (by omega)), World.cell?_setCell_other _ _ _ _ (ne _ _ (by omega)), World.cell?_setCell_other _ _ _ _ (ne _ _ (by omega)), World.cell?_setCell_other _ _ _ _ (ne _ _ (by omega)), World.cell?_setCell_other _ _ _ _ (ne _ _ (by omega)), World.cell?_setCell_other _ _ _ _ (ne _ _ (by omega))]
      have hsz' : ((((((wo.setCell ⟨w.heap.size, 4, none⟩ (.slice Aw i cw)).setCell ⟨w.heap.size + 1, 0, none⟩ (.int .i64 k)).setCell ⟨w.heap.size + 1, 1, none⟩ (.int .i64 num)).setCell ⟨w.heap.size + 1, 2, none⟩ (.string t)).setCell ⟨w.heap.size + 1, 3, none⟩ (.slice A' ks.length c')).setCell ⟨w.heap.size + 1, 4, none⟩ (.slice Aw i cw)).heap.size = wo.heap.size := by simp
      have hsub : ∀ b, SK (w.heap.size + 2) wo (.slice Aw i cw) b → Since w ((((((wo.setCell ⟨w.heap.size, 4, none⟩ (.slice Aw i cw)).setCell ⟨w.heap.size + 1, 0, none⟩ (.int .i64 k)).setCell ⟨w.heap.size + 1, 1, none⟩ (.int .i64 num)).setCell ⟨w.heap.size + 1, 2, none⟩ (.string t)).setCell ⟨w.heap.size + 1, 3, none⟩ (.slice A' ks.length c')).setCell ⟨w.heap.size + 1, 4, none⟩ (.slice Aw i cw)) b := fun b hp => ⟨by have := hp.1; omega, by rw [hsz']; exact hp.2.1⟩
      have hrow : RS ((((((wo.setCell ⟨w.heap.size, 4, none⟩ (.slice Aw i cw)).setCell ⟨w.heap.size + 1, 0, none⟩ (.int .i64 k)).setCell ⟨w.heap.size + 1, 1, none⟩ (.int .i64 num)).setCell ⟨w.heap.size + 1, 2, none⟩ (.string t)).setCell ⟨w.heap.size + 1, 3, none⟩ (.slice A' ks.length c')).setCell ⟨w.heap.size + 1, 4, none⟩ (.slice Aw i cw)) (Since w ((((((wo.setCell ⟨w.heap.size, 4, none⟩ (.slice Aw i cw)).setCell ⟨w.heap.size + 1, 0, none⟩ (.int .i64 k)).setCell ⟨w.heap.size + 1, 1, none⟩ (.int .i64 num)).setCell ⟨w.heap.size + 1, 2, none⟩ (.string t)).setCell ⟨w.heap.size + 1, 3, none⟩ (.slice A' ks.length c')).setCell ⟨w.heap.size + 1, 4, none⟩ (.slice Aw i cw))) 5 Aw i ys := by
        refine ⟨ho.out.1, fun hn0 => ?_⟩
        obtain ⟨g, cap, hv, hg1, hg2⟩ := ho.out.form hn0
        injection hv with hv1 hv2 hv3
        subst hv1
        refine ⟨_, rfl, ⟨by show _ ≤ g; omega, by rw [hsz']; exact hg2⟩, fun j u hu => ?_⟩
        have := ho.out.cells (g := g) rfl j u hu
        rw [← this]
        have ne : ∀ (g' o : Nat), g' < w.heap.size + 2 → (⟨g', o, none⟩ : Addr) ≠ (⟨g, 0, none⟩ : Addr).add j := fun g' o hg e => by
          have h2 := congrArg Addr.block e
          rw [block_of_add] at h2
          have h3 : g' = g := h2
          omega
        rw [World.cell?_setCell_other _ _ _ _ (ne _ _ (by omega)), World.cell?_setCell_other _ _ _ _ (ne _ _ (by omega)), World.cell?_setCell_other _ _ _ _ (ne _ _ (by omega)), World.cell?_setCell_other _ _ _ _ (ne _ _ (by omega)), World.cell?_setCell_other _ _ _ _ (ne _ _ (by omega)), World.cell?_setCell_other _ _ _ _ (ne _ _ (by omega))]
      have hnd : Hid (NdIn ((((((wo.setCell ⟨w.heap.size, 4, none⟩ (.slice Aw i cw)).setCell ⟨w.heap.size + 1, 0, none⟩ (.int .i64 k)).setCell ⟨w.heap.size + 1, 1, none⟩ (.int .i64 num)).setCell ⟨w.heap.size + 1, 2, none⟩ (.string t)).setCell ⟨w.heap.size + 1, 3, none⟩ (.slice A' ks.length c')).setCell ⟨w.heap.size + 1, 4, none⟩ (.slice Aw i cw)) (Since w ((((((wo.setCell ⟨w.heap.size, 4, none⟩ (.slice Aw i cw)).setCell ⟨w.heap.size + 1, 0, none⟩ (.int .i64 k)).setCell ⟨w.heap.size + 1, 1, none⟩ (.int .i64 num)).setCell ⟨w.heap.size + 1, 2, none⟩ (.string t)).setCell ⟨w.heap.size + 1, 3, none⟩ (.slice A' ks.length c')).setCell ⟨w.heap.size + 1, 4, none⟩ (.slice Aw i cw))) (.mk k num t ks ns) [.int .i64 k, .int .i64 num, .string t, .slice A' ks.length c', .slice Aw i cw]) := by
        have ht := hn.out
        have hin := HIN.out
        subst hin
        rw [List.take_length] at ht
        show NdIn _ _ _ _
        unfold NdIn
        exact ⟨A', c', Aw, cw, ys, rfl, (hr.out.keep hkp).mono hsub, hrow, NdsIn.keep hkp hsub _ _ ht, HF.out.1, HF.out.2.1, HF.out.2.2.1, HF.out.2.2.2, by unfold maxLen; omega, by unfold maxLen; omega⟩
      have HFIN := hfin.out
      clear hkp hsz' hsub hrow
      generalize ((((((wo.setCell ⟨w.heap.size, 4, none⟩ (.slice Aw i cw)).setCell ⟨w.heap.size + 1, 0, none⟩ (.int .i64 k)).setCell ⟨w.heap.size + 1, 1, none⟩ (.int .i64 num)).setCell ⟨w.heap.size + 1, 2, none⟩ (.string t)).setCell ⟨w.heap.size + 1, 3, none⟩ (.slice A' ks.length c')).setCell ⟨w.heap.size + 1, 4, none⟩ (.slice Aw i cw)) = WF at *
      obtain ⟨q0, q1, q2, q3, q4⟩ := HFIN.cells5
      refine bodyPost_ret (v := .agg #[.int .i64 k, .int .i64 num, .string t, .slice A' ks.length c', .slice Aw i cw]) (by simp [results, Tryd.results31, go_sem, q0, q1, q2, q3, q4]) rfl ?_
      exact ⟨_, _, _, _, _, _, _, _, _, rfl, hnd.out, hbel.out⟩
theorem sizeOkL_get : ∀ (ns : List Nd) (i : Nat) (n : Nd), ns[i]? = some n → sizeOkL ns → sizeOk n
  | [], i, n, h, _ => by simp at h
  | a :: ns, i, n, h, hs => by
    unfold sizeOkL at hs
    cases i with
    | zero => simp at h; subst h; exact hs.1
    | succ i => exact sizeOkL_get ns i n (by simpa using h) hs.2
theorem copied_any : ∀ (m : Nat) (n : Nd), n.count ≤ m → ∀ (B : Nat) (cs : List Value) (w : World), NdIs w B n cs → B ≤ w.heap.size → sizeOk n → CopyC cs.toArray n w := by
  intro m
  induction m with
  | zero => intro n hm; have := n.count_pos; omega
  | succ m ih =>
    intro n hm B cs w hn hB hs
    cases n with
    | mk k num t ks ns =>
      unfold NdIs at hn
      obtain ⟨A, ck, A2, cc, xs, rfl, hks, hxs, hns, ik, inn, ht, hkl, hk, hmm⟩ := hn
      unfold sizeOk at hs
      obtain ⟨s1, s2, s3, s4, s5⟩ := hs
      refine copied_step k num t ks ns A A2 ck cc xs w B hks hxs hns ht hkl s4.1 s4.2 ik inn hB ?_
      intro i n cs w' h1 h2 h3
      refine ih n ?_ B cs w' h2 h3 (sizeOkL_get ns i n h1 s5)
      have := Nd.counts_get ns i n h1
      simp only [Nd.count] at hm; omega
end Go.Proofs.YtofkdeojabongaaDoor
