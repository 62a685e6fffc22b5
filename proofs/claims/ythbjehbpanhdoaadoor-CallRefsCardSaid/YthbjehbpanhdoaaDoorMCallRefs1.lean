/- Texts of one seat, one behind the other: Rq2. No condition. -/
import Derived.Test.YthbjehbpanhdoaaDoorK11
/-! CallRefs: its walk. -/
namespace Go.Proofs.YthbjehbpanhdoaaDoor
open Go.RowKit Go.PlainAid
set_option linter.unusedVariables false
set_option linter.unusedSimpArgs false
theorem bad_size : ∀ m ∈ badN, sizeOk m := by
  have hs : ∀ s : ByteArray, s.size ≤ 1000000 → sizeOk (strN s) := fun s h => by
    unfold strN sizeOk; exact ⟨by omega, by omega, by simp, by simp, by unfold sizeOkL; trivial⟩
  have hr : ∀ a b c : ByteArray, a.size ≤ 1000000 → b.size ≤ 1000000 → c.size ≤ 1000000 → sizeOk (refN a b c) := fun a b c h1 h2 h3 => by
    rw [refN_eq]
    exact size_lit (by intro s hs; simp at hs; rcases hs with rfl | rfl | rfl <;> decide) (by simp) (by simp) (sizeL_cons (hs _ h1) (sizeL_cons (hs _ h2) (sizeL_cons (hs _ h3) sizeL_nil)))
  intro m hm
  unfold badN at hm
  simp only [List.mem_cons, List.not_mem_nil, or_false] at hm
  rcases hm with rfl | rfl | rfl | rfl | rfl | rfl | rfl
  · exact size_num4 (by unfold I64; omega)
  · exact size_lit (by intro s hs; cases hs) (by decide) (by decide) sizeL_nil
  · exact hr _ _ _ (by decide) (by decide) (by decide)
  · exact hr _ _ _ (by decide) (by decide) (by decide)
  · exact hr _ _ _ (by decide) (by decide) (by decide)
  · exact hr _ _ _ (by decide) (by decide) (by decide)
  · exact size_lit (by intro s hs; change s ∈ [rofS, rnmS] at hs; simp at hs; rcases hs with rfl | rfl <;> decide) (by decide) (by decide) (sizeL_cons (hs _ (by decide)) (sizeL_cons (hs _ (by decide)) sizeL_nil))
theorem obj_size {k : ByteArray} (hk : k.size ≤ 1000000) {n : Nd} (h : sizeOk n) : sizeOk (objO [strN k, n]) := size_lit (by intro s hs; change s ∈ [k] at hs; simp at hs; subst hs; exact hk) (by show 1 ≤ _; decide) (by show 1 ≤ _; decide) (sizeL_cons h sizeL_nil)
theorem obj_size2 {k k2 : ByteArray} (hk : k.size ≤ 1000000) (hk2 : k2.size ≤ 1000000) {n m : Nd} (h : sizeOk n) (h2 : sizeOk m) : sizeOk (objO [strN k, n, strN k2, m]) := size_lit (by intro s hs; change s ∈ [k, k2] at hs; simp at hs; rcases hs with rfl | rfl <;> assumption) (by show 2 ≤ _; decide) (by show 2 ≤ _; decide) (sizeL_cons h (sizeL_cons h2 sizeL_nil))
def goodRN : Nd := refN ⟨#[99]⟩ ⟨#[109]⟩ ⟨#[47, 97]⟩
theorem good_size : sizeOk goodRN := by
  have hs : ∀ s : ByteArray, s.size ≤ 1000000 → sizeOk (strN s) := fun s h => by
    unfold strN sizeOk; exact ⟨by omega, by omega, by simp, by simp, by unfold sizeOkL; trivial⟩
  unfold goodRN
  rw [refN_eq]
  exact size_lit (by intro s hs; simp at hs; rcases hs with rfl | rfl | rfl <;> decide) (by simp) (by simp) (sizeL_cons (hs _ (by decide)) (sizeL_cons (hs _ (by decide)) (sizeL_cons (hs _ (by decide)) sizeL_nil)))
theorem obj_in (ns : List Nd) (xs : List Value) (w w' : World) (hns : NdsIs w w.heap.size ns xs) (hl : xs.length = ns.length * 5) (hlen : ns.length ≤ 1000000) (cc : Nat) (hb : Below (w.alloc (.cells xs.toArray 25)).heap.size (w.alloc (.cells xs.toArray 25)) w') :
    Calls Tryd.prog 12 #[.slice (some ⟨w.heap.size, 0, none⟩) ns.length cc] w' (ObjP (objO ns) w') := by
  have hal : Below w.heap.size w (w.alloc (.cells xs.toArray 25)) := (Below.refl _ _).alloc (Nat.le_refl _) _
  exact rObj_any ns _ cc xs _ (((fresh_rows w 25 5 ns.length xs hl _ (by simp)).below hb).more hb.size) (NdsIs.more hb.size _ _ (NdsIs.keep (fun p hp => hb.cell hp) _ _ (NdsIs.more hal.size _ _ (NdsIs.keep (fun p hp => hal.cell hp) _ _ hns)))) hlen
theorem arr_is {w : World} {B : Nat} : NdIs w B (.mk 6 0 ⟨#[]⟩ [] []) [.int .i64 6, .int .i64 0, .string ⟨#[]⟩, .slice none 0 0, .slice none 0 0] := by
  unfold NdIs
  exact ⟨none, 0, none, 0, [], rfl, ⟨rfl, fun h => absurd h (by simp)⟩, ⟨rfl, fun h => absurd h (by simp)⟩, (by unfold NdsIs; rfl), by unfold I64; omega, by unfold I64; omega, by decide, by simp, by simp, by simp⟩
theorem alloc_sz (w : World) (o : Obj) : (w.alloc o).heap.size = w.heap.size + 1 := by simp
theorem alloc_lt (w : World) (o : Obj) : w.heap.size < (w.alloc o).heap.size := by simp
def resXN : Nd := .mk 7 0 ⟨#[]⟩ [xS] [num4 1]
/-- a resolving that told an object -/
def ReX (w : World) (e : Ending) (w' : World) : Prop := ∃ (c0 c1 : Int) (c2 : ByteArray) (c3 : Option Addr) (c4 c5 : Nat) (c6 : Option Addr) (c7 c8 : Nat),
  e = .returned (.tuple #[.agg #[.int .i64 c0, .int .i64 c1, .string c2, .slice c3 c4 c5, .slice c6 c7 c8], .string ⟨#[]⟩]) ∧ NdIs w' w'.heap.size resXN [.int .i64 c0, .int .i64 c1, .string c2, .slice c3 c4 c5, .slice c6 c7 c8] ∧ Below w.heap.size w w'
theorem ResP.toX {w : World} {e : Ending} {w' : World} (h : ResP (.ok resXN) w e w') : ReX w e w' := h
theorem resX_off {w : World} {r : Nat} {cs : List Value} {a b c d e : Value} (h : NdIs w w.heap.size resXN cs) (hr : Blk w r 25 #[.int .i64 0, .int .i64 0, .string ⟨#[]⟩, .slice none 0 0, .slice none 0 0]) : NdIs (set5 w r a b c d e) (set5 w r a b c d e).heap.size resXN cs := by
  rw [set5_size]
  exact h.off (by decide) (by decide) (by intro m hm; simp at hm; subst hm; exact ⟨rfl, rfl⟩) hr (fun p hp => set5_cell hp)
theorem end_new {W w : World} {e0 e1 : Int} {e2 : ByteArray} {e3 : Option Addr} {e4 e5 : Nat} {e6 : Option Addr} {e7 e8 : Nat} (hx : NdIs w w.heap.size resXN [.int .i64 e0, .int .i64 e1, .string e2, .slice e3 e4 e5, .slice e6 e7 e8]) (hb : Below W.heap.size W w) : ∃ (X : Nat) (c0 c1 : Int) (c2 : ByteArray) (c3 : Option Addr) (c4 c5 : Nat) (c6 : Option Addr) (c7 c8 : Nat), Value.pointer (some ⟨w.heap.size, 0, none⟩) = .pointer (some ⟨X, 0, none⟩) ∧ Value.string ⟨#[]⟩ = .string ⟨#[]⟩ ∧ Hid (Blk (w.alloc (.cells #[.int .i64 e0, .int .i64 e1, .string e2, .slice e3 e4 e5, .slice e6 e7 e8] 25)) X 25 #[.int .i64 c0, .int .i64 c1, .string c2, .slice c3 c4 c5, .slice c6 c7 c8]) ∧ Hid (NdIs (w.alloc (.cells #[.int .i64 e0, .int .i64 e1, .string e2, .slice e3 e4 e5, .slice e6 e7 e8] 25)) (w.alloc (.cells #[.int .i64 e0, .int .i64 e1, .string e2, .slice e3 e4 e5, .slice e6 e7 e8] 25)).heap.size resXN [.int .i64 c0, .int .i64 c1, .string c2, .slice c3 c4 c5, .slice c6 c7 c8]) ∧ Hid (Below W.heap.size W (w.alloc (.cells #[.int .i64 e0, .int .i64 e1, .string e2, .slice e3 e4 e5, .slice e6 e7 e8] 25))) :=
  ⟨w.heap.size, e0, e1, e2, e3, e4, e5, e6, e7, e8, rfl, rfl, Blk.new w 25 #[.int .i64 e0, .int .i64 e1, .string e2, .slice e3 e4 e5, .slice e6 e7 e8], hx.step (bel_alloc (Below.refl _ _)), bel_alloc hb⟩
theorem end_set {W w : World} {zb : Nat} {e0 e1 : Int} {e2 : ByteArray} {e3 : Option Addr} {e4 e5 : Nat} {e6 : Option Addr} {e7 e8 : Nat} (hx : NdIs w w.heap.size resXN [.int .i64 e0, .int .i64 e1, .string e2, .slice e3 e4 e5, .slice e6 e7 e8]) (hz : ZB W w zb) (hb : Below W.heap.size W w) : ∃ (X : Nat) (c0 c1 : Int) (c2 : ByteArray) (c3 : Option Addr) (c4 c5 : Nat) (c6 : Option Addr) (c7 c8 : Nat), Value.pointer (some ⟨zb, 0, none⟩) = .pointer (some ⟨X, 0, none⟩) ∧ Value.string ⟨#[]⟩ = .string ⟨#[]⟩ ∧ Hid (Blk (((((w.setCell ⟨zb, 0, none⟩ (.int .i64 e0)).setCell ⟨zb, 1, none⟩ (.int .i64 e1)).setCell ⟨zb, 2, none⟩ (.string e2)).setCell ⟨zb, 3, none⟩ (.slice e3 e4 e5)).setCell ⟨zb, 4, none⟩ (.slice e6 e7 e8)) X 25 #[.int .i64 c0, .int .i64 c1, .string c2, .slice c3 c4 c5, .slice c6 c7 c8]) ∧ Hid (NdIs (((((w.setCell ⟨zb, 0, none⟩ (.int .i64 e0)).setCell ⟨zb, 1, none⟩ (.int .i64 e1)).setCell ⟨zb, 2, none⟩ (.string e2)).setCell ⟨zb, 3, none⟩ (.slice e3 e4 e5)).setCell ⟨zb, 4, none⟩ (.slice e6 e7 e8)) (((((w.setCell ⟨zb, 0, none⟩ (.int .i64 e0)).setCell ⟨zb, 1, none⟩ (.int .i64 e1)).setCell ⟨zb, 2, none⟩ (.string e2)).setCell ⟨zb, 3, none⟩ (.slice e3 e4 e5)).setCell ⟨zb, 4, none⟩ (.slice e6 e7 e8)).heap.size resXN [.int .i64 c0, .int .i64 c1, .string c2, .slice c3 c4 c5, .slice c6 c7 c8]) ∧ Hid (Below W.heap.size W (((((w.setCell ⟨zb, 0, none⟩ (.int .i64 e0)).setCell ⟨zb, 1, none⟩ (.int .i64 e1)).setCell ⟨zb, 2, none⟩ (.string e2)).setCell ⟨zb, 3, none⟩ (.slice e3 e4 e5)).setCell ⟨zb, 4, none⟩ (.slice e6 e7 e8))) :=
  ⟨zb, e0, e1, e2, e3, e4, e5, e6, e7, e8, rfl, rfl, set5_blk hz.2, resX_off hx hz.2, bel_set (bel_set (bel_set (bel_set (bel_set hb hz.1) hz.1) hz.1) hz.1) hz.1⟩
theorem resX_read {w : World} {B : Nat} {c0 c1 : Int} {c2 : ByteArray} {c3 : Option Addr} {c4 c5 : Nat} {c6 : Option Addr} {c7 c8 : Nat} (h : NdIs w B resXN [.int .i64 c0, .int .i64 c1, .string c2, .slice c3 c4 c5, .slice c6 c7 c8]) :
    c4 = 1 ∧ c7 = 1 ∧ (∃ b o, c3 = some ⟨b, o, none⟩ ∧ w.cell? ⟨b, o, none⟩ = some (.string ⟨#[120]⟩)) ∧ ∃ b o, c6 = some ⟨b, o, none⟩ ∧ w.cell? ⟨b, o + 1, none⟩ = some (.int .i64 1) := by
  unfold resXN NdIs at h
  obtain ⟨K, kc, A, c, xs, he, h1, h2, h3, h4⟩ := h
  simp only [List.cons.injEq, Value.int.injEq, Value.string.injEq, Value.slice.injEq, and_true, true_and] at he
  obtain ⟨e1, e2, e3, ⟨e4, e5, e6⟩, e7, e8, e9⟩ := he
  have ad0 : ∀ (b o k : Nat), (⟨b, o, none⟩ : Addr).add k = ⟨b, o + k, none⟩ := fun b o k => by unfold Addr.add; split <;> simp_all
  have sp : ∀ (ad : Addr) (v v1 : Value) (k : Nat), w.cell? (ad.add 0) = some v → w.cell? (ad.add k) = some v1 → ∃ b o, ad = ⟨b, o, none⟩ ∧ w.cell? ⟨b, o + k, none⟩ = some v1 := fun ad v v1 k hv hv1 => by
    have hs := spot_none hv
    obtain ⟨b, o, sp⟩ := ad
    have hs0 : sp = none := by
      unfold Addr.add at hs
      split at hs <;> simp_all
    subst hs0
    rw [ad0] at hv1
    exact ⟨b, o, rfl, hv1⟩
  refine ⟨e5, e8, ?_, ?_⟩
  · obtain ⟨ad, e, hb, hc⟩ := h1.2 (by decide)
    obtain ⟨b, o, rfl, hv⟩ := sp ad _ _ 0 (hc 0 (.string xS) rfl) (hc 0 (.string xS) rfl)
    exact ⟨b, o, by rw [e4, e], hv⟩
  · obtain ⟨ad, e, hb, hc⟩ := h2.2 (by decide)
    unfold NdsIs at h3
    obtain ⟨ds, ys, rfl, h5, _⟩ := h3
    obtain ⟨A1, ck, A2, c2, zs, rfl, -⟩ := h5.open_
    obtain ⟨b, o, rfl, hv⟩ := sp ad _ _ 1 (hc 0 (.int .i64 4) rfl) (hc 1 (.int .i64 1) rfl)
    exact ⟨b, o, by rw [e7, e], hv⟩
set_option maxRecDepth 100000 in
set_option maxHeartbeats 40000000 in
theorem callRefs_walk (n : Int) (w0 : (Lit.int .u8 n).wf = true) (w : World) (hM : MaxOK w) :
    Calls Tryd.prog 5 #[.int .u8 n] w fun e w' => e = .returned (.bool true) ∧ Below w.heap.size w w' := by
  have hr : 0 ≤ n ∧ n ≤ 255 := by
    simp [Lit.wf, IntKind.min, IntKind.max, IntKind.signed, IntKind.bits] at w0; omega
  obtain ⟨h0, h1⟩ := hr
  obtain ⟨q, hk⟩ : ∃ q : Nat, (q : Int) = n % 7 := ⟨(n % 7).toNat, by omega⟩
  have hq7 : q < 7 := by omega
  have hq : n.tmod 7 = (q : Int) := by rw [hk]; exact Int.tmod_eq_emod_of_nonneg h0
  have q0 : (0 : Int) ≤ (q : Int) := by omega
  have q1 : (q : Int) < 7 := by omega
  have q2 : (q : Int).toNat = q := by omega
  have q3 : IntKind.i64.wrap n = n := IntWalk.i64_in _ (by omega)
  have HM := Lib.hid hM
  have HQ7 := Lib.hid hq7
  clear hk w0 hM
  go_enter Tryd.func5, Tryd.ntmps5
  go_wp2_with fail
  refine (rStr_any _ _).mono ?_; rintro e w1 ⟨rfl, hb1⟩
  have HB1 : Hid (Below w.heap.size w w1) := by first | exact hb1 | exact nextB (bel_alloc (Below.refl _ _)) hb1
  clear hb1
  go_wp2_with fail
  refine (rNum_any _ _).mono ?_; rintro e w2 ⟨rfl, hb2⟩
  have HB2 : Hid (Below w1.heap.size w1 w2) := by first | exact hb2 | exact nextB (bel_alloc (Below.refl _ _)) hb2
  clear hb2
  go_wp2_with fail
  have HO3 := Lib.hid (obj_fresh [strN ⟨#[97]⟩, num4 1] [.int .i64 5, .int .i64 0, .string ⟨#[97]⟩, .slice none 0 0, .slice none 0 0, .int .i64 4, .int .i64 1, .string ⟨#[]⟩, .slice none 0 0, .slice none 0 0] w2 (NdsIs.cons (strN_is ⟨#[97]⟩ (by decide) _ _) (NdsIs.cons (num4_is 1 (by unfold I64; omega) _ _) (NdsIs.nil_))) rfl (by simp) 2)
  refine (HO3.out : Calls _ _ _ _ _).mono ?_; rintro e w3 ⟨a0, a1, a2, a3, a4, a5, a6, a7, a8, rfl, hn3, hb3⟩; have HN3 := Lib.hid hn3; clear hn3 HO3
  have HB3 : Hid (Below w2.heap.size w2 w3) := by first | exact hb3 | exact nextB (bel_alloc (Below.refl _ _)) hb3
  clear hb3
  go_wp2_with fail
  refine (refer_any ⟨#[99]⟩ ⟨#[109]⟩ ⟨#[47, 97]⟩ (by decide) (by decide) (by decide) _).mono ?_; rintro e w4 ⟨b0, b1, b2, b3, b4, b5, b6, b7, b8, rfl, hn4, hb4⟩; have HN4 := Lib.hid hn4; clear hn4
  have HB4 : Hid (Below w3.heap.size w3 w4) := by first | exact hb4 | exact nextB (bel_alloc (Below.refl _ _)) hb4
  have HB4A := Lib.hid hb4
  clear hb4
  go_wp2_with fail
  refine (rNum_any _ _).mono ?_; rintro e w5 ⟨rfl, hb5⟩
  have HB5 : Hid (Below w4.heap.size w4 w5) := by first | exact hb5 | exact nextB (bel_alloc (Below.refl _ _)) hb5
  have HB5A := Lib.hid hb5
  clear hb5
  go_wp2_with fail
  have HO6 := Lib.hid (rObj_any [] none 0 [] w5 ⟨rfl, fun h => absurd h (by simp)⟩ NdsIs.nil_ (by simp))
  refine (HO6.out : Calls _ _ _ _ _).mono ?_; rintro e w6 ⟨f0, f1, f2, f3, f4, f5, f6, f7, f8, rfl, hn6, hb6⟩; have HN6 := Lib.hid hn6; clear hn6 HO6
  have HB6 : Hid (Below w5.heap.size w5 w6) := by first | exact hb6 | exact nextB (bel_alloc (Below.refl _ _)) hb6
  clear hb6
  go_wp2_with fail
  refine (refer_any ⟨#[100]⟩ ⟨#[109]⟩ ⟨#[47, 97]⟩ (by decide) (by decide) (by decide) _).mono ?_; rintro e w7 ⟨g0, g1, g2, g3, g4, g5, g6, g7, g8, rfl, hn7, hb7⟩; have HN7 := Lib.hid hn7; clear hn7
  have HB7 : Hid (Below w6.heap.size w6 w7) := by first | exact hb7 | exact nextB (bel_alloc (Below.refl _ _)) hb7
  clear hb7
  go_wp2_with fail
  refine (refer_any ⟨#[99]⟩ ⟨#[110]⟩ ⟨#[47, 97]⟩ (by decide) (by decide) (by decide) _).mono ?_; rintro e w8 ⟨h0, h1, h2, h3, h4, h5, h6, h7, h8, rfl, hn8, hb8⟩; have HN8 := Lib.hid hn8; clear hn8
  have HB8 : Hid (Below w7.heap.size w7 w8) := by first | exact hb8 | exact nextB (bel_alloc (Below.refl _ _)) hb8
  clear hb8
  go_wp2_with fail
  refine (refer_any ⟨#[99]⟩ ⟨#[109]⟩ ⟨#[47, 98]⟩ (by decide) (by decide) (by decide) _).mono ?_; rintro e w9 ⟨i0, i1, i2, i3, i4, i5, i6, i7, i8, rfl, hn9, hb9⟩; have HN9 := Lib.hid hn9; clear hn9
  have HB9 : Hid (Below w8.heap.size w8 w9) := by first | exact hb9 | exact nextB (bel_alloc (Below.refl _ _)) hb9
  clear hb9
  go_wp2_with fail
  refine (refer_any ⟨#[99]⟩ ⟨#[109]⟩ ⟨#[97]⟩ (by decide) (by decide) (by decide) _).mono ?_; rintro e w10 ⟨j0, j1, j2, j3, j4, j5, j6, j7, j8, rfl, hn10, hb10⟩; have HN10 := Lib.hid hn10; clear hn10
  have HB10 : Hid (Below w9.heap.size w9 w10) := by first | exact hb10 | exact nextB (bel_alloc (Below.refl _ _)) hb10
  clear hb10
  go_wp2_with fail
  refine (rStr_any _ _).mono ?_; rintro e w11 ⟨rfl, hb11⟩
  have HB11 : Hid (Below w10.heap.size w10 w11) := by first | exact hb11 | exact nextB (bel_alloc (Below.refl _ _)) hb11
  clear hb11
  go_wp2_with fail
  refine (rStr_any _ _).mono ?_; rintro e w12 ⟨rfl, hb12⟩
  have HB12 : Hid (Below w11.heap.size w11 w12) := by first | exact hb12 | exact nextB (bel_alloc (Below.refl _ _)) hb12
  clear hb12
  go_wp2_with fail
  refine (rStr_any _ _).mono ?_; rintro e w13 ⟨rfl, hb13⟩
  have HB13 : Hid (Below w12.heap.size w12 w13) := by first | exact hb13 | exact nextB (bel_alloc (Below.refl _ _)) hb13
  clear hb13
  go_wp2_with fail
  refine (rStr_any _ _).mono ?_; rintro e w14 ⟨rfl, hb14⟩
  have HB14 : Hid (Below w13.heap.size w13 w14) := by first | exact hb14 | exact nextB (bel_alloc (Below.refl _ _)) hb14
  clear hb14
  go_wp2_with fail
  have HO15 := Lib.hid (obj_fresh [strN rofS, strN ⟨#[99]⟩, strN rnmS, strN ⟨#[109]⟩] [.int .i64 5, .int .i64 0, .string rofS, .slice none 0 0, .slice none 0 0, .int .i64 5, .int .i64 0, .string ⟨#[99]⟩, .slice none 0 0, .slice none 0 0, .int .i64 5, .int .i64 0, .string rnmS, .slice none 0 0, .slice none 0 0, .int .i64 5, .int .i64 0, .string ⟨#[109]⟩, .slice none 0 0, .slice none 0 0] w14 (NdsIs.cons (strN_is rofS (by decide) _ _) (NdsIs.cons (strN_is ⟨#[99]⟩ (by decide) _ _) (NdsIs.cons (strN_is rnmS (by decide) _ _) (NdsIs.cons (strN_is ⟨#[109]⟩ (by decide) _ _) (NdsIs.nil_))))) rfl (by simp) 4)
  refine (HO15.out : Calls _ _ _ _ _).mono ?_; rintro e w15 ⟨k0, k1, k2, k3, k4, k5, k6, k7, k8, rfl, hn15, hb15⟩; have HN15 := Lib.hid hn15; clear hn15 HO15
  have HB15 : Hid (Below w14.heap.size w14 w15) := by first | exact hb15 | exact nextB (bel_alloc (Below.refl _ _)) hb15
  clear hb15
  go_wp2_with fail
  have C15 : Hid (Below w15.heap.size w15 w15) := Below.refl _ _
  have C14 := Lib.hid (nextB HB15.out C15.out)
  have C13 := Lib.hid (nextB HB14.out C14.out)
  have C12 := Lib.hid (nextB HB13.out C13.out)
  have C11 := Lib.hid (nextB HB12.out C12.out)
  have C10 := Lib.hid (nextB HB11.out C11.out)
  have C9 := Lib.hid (nextB HB10.out C10.out)
  have C8 := Lib.hid (nextB HB9.out C9.out)
  have C7 := Lib.hid (nextB HB8.out C8.out)
  have C6 := Lib.hid (nextB HB7.out C7.out)
  have C5 := Lib.hid (nextB HB6.out C6.out)
  have C4 := Lib.hid (nextB HB5.out C5.out)
  have C3 := Lib.hid (nextB HB4.out C4.out)
  have C0 := Lib.hid (nextB HB1.out (nextB HB2.out (nextB HB3.out C3.out)))
  have HAL : Hid (Below w15.heap.size w15 (w15.alloc (.cells #[.int .i64 4, .int .i64 1, .string ⟨#[]⟩, .slice none 0 0, .slice none 0 0, .int .i64 f0, .int .i64 f1, .string f2, .slice f3 f4 f5, .slice f6 f7 f8, .int .i64 g0, .int .i64 g1, .string g2, .slice g3 g4 g5, .slice g6 g7 g8, .int .i64 h0, .int .i64 h1, .string h2, .slice h3 h4 h5, .slice h6 h7 h8, .int .i64 i0, .int .i64 i1, .string i2, .slice i3 i4 i5, .slice i6 i7 i8, .int .i64 j0, .int .i64 j1, .string j2, .slice j3 j4 j5, .slice j6 j7 j8, .int .i64 k0, .int .i64 k1, .string k2, .slice k3 k4 k5, .slice k6 k7 k8] 25))) := bel_alloc (Below.refl _ _)
  have HD : Hid (DoneAt (w15.alloc (.cells #[.int .i64 4, .int .i64 1, .string ⟨#[]⟩, .slice none 0 0, .slice none 0 0, .int .i64 f0, .int .i64 f1, .string f2, .slice f3 f4 f5, .slice f6 f7 f8, .int .i64 g0, .int .i64 g1, .string g2, .slice g3 g4 g5, .slice g6 g7 g8, .int .i64 h0, .int .i64 h1, .string h2, .slice h3 h4 h5, .slice h6 h7 h8, .int .i64 i0, .int .i64 i1, .string i2, .slice i3 i4 i5, .slice i6 i7 i8, .int .i64 j0, .int .i64 j1, .string j2, .slice j3 j4 j5, .slice j6 j7 j8, .int .i64 k0, .int .i64 k1, .string k2, .slice k3 k4 k5, .slice k6 k7 k8] 25)) w3.heap.size) := ((DoneAt.new HN3.out).below (nextB (show Below (w3.alloc (.cells #[.string ⟨#[109]⟩, .int .i64 a0, .int .i64 a1, .string a2, .slice a3 a4 a5, .slice a6 a7 a8, .string ⟨#[99]⟩] 31)).heap.size (w3.alloc (.cells #[.string ⟨#[109]⟩, .int .i64 a0, .int .i64 a1, .string a2, .slice a3 a4 a5, .slice a6 a7 a8, .string ⟨#[99]⟩] 31)) w4 from HB4A.out) C4.out)).below HAL.out
  have HR : Hid (Blk (w15.alloc (.cells #[.int .i64 4, .int .i64 1, .string ⟨#[]⟩, .slice none 0 0, .slice none 0 0, .int .i64 f0, .int .i64 f1, .string f2, .slice f3 f4 f5, .slice f6 f7 f8, .int .i64 g0, .int .i64 g1, .string g2, .slice g3 g4 g5, .slice g6 g7 g8, .int .i64 h0, .int .i64 h1, .string h2, .slice h3 h4 h5, .slice h6 h7 h8, .int .i64 i0, .int .i64 i1, .string i2, .slice i3 i4 i5, .slice i6 i7 i8, .int .i64 j0, .int .i64 j1, .string j2, .slice j3 j4 j5, .slice j6 j7 j8, .int .i64 k0, .int .i64 k1, .string k2, .slice k3 k4 k5, .slice k6 k7 k8] 25)) w4.heap.size 25 #[.int .i64 b0, .int .i64 b1, .string b2, .slice b3 b4 b5, .slice b6 b7 b8]) := ((Blk.new w4 25 #[.int .i64 b0, .int .i64 b1, .string b2, .slice b3 b4 b5, .slice b6 b7 b8]).below (nextB HB5A.out C5.out) (alloc_lt _ _)).alloc _
  have HRN : Hid (NdIs (w15.alloc (.cells #[.int .i64 4, .int .i64 1, .string ⟨#[]⟩, .slice none 0 0, .slice none 0 0, .int .i64 f0, .int .i64 f1, .string f2, .slice f3 f4 f5, .slice f6 f7 f8, .int .i64 g0, .int .i64 g1, .string g2, .slice g3 g4 g5, .slice g6 g7 g8, .int .i64 h0, .int .i64 h1, .string h2, .slice h3 h4 h5, .slice h6 h7 h8, .int .i64 i0, .int .i64 i1, .string i2, .slice i3 i4 i5, .slice i6 i7 i8, .int .i64 j0, .int .i64 j1, .string j2, .slice j3 j4 j5, .slice j6 j7 j8, .int .i64 k0, .int .i64 k1, .string k2, .slice k3 k4 k5, .slice k6 k7 k8] 25)) (w15.alloc (.cells #[.int .i64 4, .int .i64 1, .string ⟨#[]⟩, .slice none 0 0, .slice none 0 0, .int .i64 f0, .int .i64 f1, .string f2, .slice f3 f4 f5, .slice f6 f7 f8, .int .i64 g0, .int .i64 g1, .string g2, .slice g3 g4 g5, .slice g6 g7 g8, .int .i64 h0, .int .i64 h1, .string h2, .slice h3 h4 h5, .slice h6 h7 h8, .int .i64 i0, .int .i64 i1, .string i2, .slice i3 i4 i5, .slice i6 i7 i8, .int .i64 j0, .int .i64 j1, .string j2, .slice j3 j4 j5, .slice j6 j7 j8, .int .i64 k0, .int .i64 k1, .string k2, .slice k3 k4 k5, .slice k6 k7 k8] 25)).heap.size goodRN [.int .i64 b0, .int .i64 b1, .string b2, .slice b3 b4 b5, .slice b6 b7 b8]) := (HN4.out.step C4.out).step HAL.out
  have HQ : Hid (∃ (m : Nd) (v0 v1 v2 v3 v4 : Value), m ∈ badN ∧ NdIs (w15.alloc (.cells #[.int .i64 4, .int .i64 1, .string ⟨#[]⟩, .slice none 0 0, .slice none 0 0, .int .i64 f0, .int .i64 f1, .string f2, .slice f3 f4 f5, .slice f6 f7 f8, .int .i64 g0, .int .i64 g1, .string g2, .slice g3 g4 g5, .slice g6 g7 g8, .int .i64 h0, .int .i64 h1, .string h2, .slice h3 h4 h5, .slice h6 h7 h8, .int .i64 i0, .int .i64 i1, .string i2, .slice i3 i4 i5, .slice i6 i7 i8, .int .i64 j0, .int .i64 j1, .string j2, .slice j3 j4 j5, .slice j6 j7 j8, .int .i64 k0, .int .i64 k1, .string k2, .slice k3 k4 k5, .slice k6 k7 k8] 25)) (w15.alloc (.cells #[.int .i64 4, .int .i64 1, .string ⟨#[]⟩, .slice none 0 0, .slice none 0 0, .int .i64 f0, .int .i64 f1, .string f2, .slice f3 f4 f5, .slice f6 f7 f8, .int .i64 g0, .int .i64 g1, .string g2, .slice g3 g4 g5, .slice g6 g7 g8, .int .i64 h0, .int .i64 h1, .string h2, .slice h3 h4 h5, .slice h6 h7 h8, .int .i64 i0, .int .i64 i1, .string i2, .slice i3 i4 i5, .slice i6 i7 i8, .int .i64 j0, .int .i64 j1, .string j2, .slice j3 j4 j5, .slice j6 j7 j8, .int .i64 k0, .int .i64 k1, .string k2, .slice k3 k4 k5, .slice k6 k7 k8] 25)).heap.size m [v0, v1, v2, v3, v4] ∧ N5 ⟨w15.heap.size, q * 5, none⟩ v0 v1 v2 v3 v4 (w15.alloc (.cells #[.int .i64 4, .int .i64 1, .string ⟨#[]⟩, .slice none 0 0, .slice none 0 0, .int .i64 f0, .int .i64 f1, .string f2, .slice f3 f4 f5, .slice f6 f7 f8, .int .i64 g0, .int .i64 g1, .string g2, .slice g3 g4 g5, .slice g6 g7 g8, .int .i64 h0, .int .i64 h1, .string h2, .slice h3 h4 h5, .slice h6 h7 h8, .int .i64 i0, .int .i64 i1, .string i2, .slice i3 i4 i5, .slice i6 i7 i8, .int .i64 j0, .int .i64 j1, .string j2, .slice j3 j4 j5, .slice j6 j7 j8, .int .i64 k0, .int .i64 k1, .string k2, .slice k3 k4 k5, .slice k6 k7 k8] 25))) := by
    have hns : NdsIs (w15.alloc (.cells #[.int .i64 4, .int .i64 1, .string ⟨#[]⟩, .slice none 0 0, .slice none 0 0, .int .i64 f0, .int .i64 f1, .string f2, .slice f3 f4 f5, .slice f6 f7 f8, .int .i64 g0, .int .i64 g1, .string g2, .slice g3 g4 g5, .slice g6 g7 g8, .int .i64 h0, .int .i64 h1, .string h2, .slice h3 h4 h5, .slice h6 h7 h8, .int .i64 i0, .int .i64 i1, .string i2, .slice i3 i4 i5, .slice i6 i7 i8, .int .i64 j0, .int .i64 j1, .string j2, .slice j3 j4 j5, .slice j6 j7 j8, .int .i64 k0, .int .i64 k1, .string k2, .slice k3 k4 k5, .slice k6 k7 k8] 25)) (w15.alloc (.cells #[.int .i64 4, .int .i64 1, .string ⟨#[]⟩, .slice none 0 0, .slice none 0 0, .int .i64 f0, .int .i64 f1, .string f2, .slice f3 f4 f5, .slice f6 f7 f8, .int .i64 g0, .int .i64 g1, .string g2, .slice g3 g4 g5, .slice g6 g7 g8, .int .i64 h0, .int .i64 h1, .string h2, .slice h3 h4 h5, .slice h6 h7 h8, .int .i64 i0, .int .i64 i1, .string i2, .slice i3 i4 i5, .slice i6 i7 i8, .int .i64 j0, .int .i64 j1, .string j2, .slice j3 j4 j5, .slice j6 j7 j8, .int .i64 k0, .int .i64 k1, .string k2, .slice k3 k4 k5, .slice k6 k7 k8] 25)).heap.size badN [.int .i64 4, .int .i64 1, .string ⟨#[]⟩, .slice none 0 0, .slice none 0 0, .int .i64 f0, .int .i64 f1, .string f2, .slice f3 f4 f5, .slice f6 f7 f8, .int .i64 g0, .int .i64 g1, .string g2, .slice g3 g4 g5, .slice g6 g7 g8, .int .i64 h0, .int .i64 h1, .string h2, .slice h3 h4 h5, .slice h6 h7 h8, .int .i64 i0, .int .i64 i1, .string i2, .slice i3 i4 i5, .slice i6 i7 i8, .int .i64 j0, .int .i64 j1, .string j2, .slice j3 j4 j5, .slice j6 j7 j8, .int .i64 k0, .int .i64 k1, .string k2, .slice k3 k4 k5, .slice k6 k7 k8] := NdsIs.cons (num4_is 1 (by unfold I64; omega) _ _) (NdsIs.cons ((HN6.out.step C6.out).step HAL.out) (NdsIs.cons ((HN7.out.step C7.out).step HAL.out) (NdsIs.cons ((HN8.out.step C8.out).step HAL.out) (NdsIs.cons ((HN9.out.step C9.out).step HAL.out) (NdsIs.cons ((HN10.out.step C10.out).step HAL.out) (NdsIs.cons ((HN15.out.step C15.out).step HAL.out) (NdsIs.nil_)))))))
    obtain ⟨ad, m, v0, v1, v2, v3, v4, e, hb, hm, hnd, e0, e1, e2, e3, e4⟩ := Reads.nd (fresh_rows w15 25 5 7 [.int .i64 4, .int .i64 1, .string ⟨#[]⟩, .slice none 0 0, .slice none 0 0, .int .i64 f0, .int .i64 f1, .string f2, .slice f3 f4 f5, .slice f6 f7 f8, .int .i64 g0, .int .i64 g1, .string g2, .slice g3 g4 g5, .slice g6 g7 g8, .int .i64 h0, .int .i64 h1, .string h2, .slice h3 h4 h5, .slice h6 h7 h8, .int .i64 i0, .int .i64 i1, .string i2, .slice i3 i4 i5, .slice i6 i7 i8, .int .i64 j0, .int .i64 j1, .string j2, .slice j3 j4 j5, .slice j6 j7 j8, .int .i64 k0, .int .i64 k1, .string k2, .slice k3 k4 k5, .slice k6 k7 k8] rfl (w15.alloc (.cells #[.int .i64 4, .int .i64 1, .string ⟨#[]⟩, .slice none 0 0, .slice none 0 0, .int .i64 f0, .int .i64 f1, .string f2, .slice f3 f4 f5, .slice f6 f7 f8, .int .i64 g0, .int .i64 g1, .string g2, .slice g3 g4 g5, .slice g6 g7 g8, .int .i64 h0, .int .i64 h1, .string h2, .slice h3 h4 h5, .slice h6 h7 h8, .int .i64 i0, .int .i64 i1, .string i2, .slice i3 i4 i5, .slice i6 i7 i8, .int .i64 j0, .int .i64 j1, .string j2, .slice j3 j4 j5, .slice j6 j7 j8, .int .i64 k0, .int .i64 k1, .string k2, .slice k3 k4 k5, .slice k6 k7 k8] 25)).heap.size (alloc_lt _ _)) hns (show q < badN.length from HQ7.out)
    injection e with e
    subst e
    have ee : (⟨w15.heap.size, 0, none⟩ : Addr).add (q * 5) = ⟨w15.heap.size, q * 5, none⟩ := by unfold Addr.add; split <;> simp_all
    rw [ee] at e0 e1 e2 e3 e4
    exact ⟨m, v0, v1, v2, v3, v4, List.mem_of_getElem? hm, hnd, e0, e1, e2, e3, e4⟩
  have HW := Lib.hid (nextB C0.out HAL.out)
  have HMA := Lib.hid (HM.out.below HW.out)
  clear HB1 HB2 HB3 HB4 HB5 HB6 HB7 HB8 HB9 HB10 HB11 HB12 HB13 HB14 HB15 C0 C3 C4 C5 C6 C7 C8 C9 C10 C11 C12 C13 C14 C15 HN3 HN4 HN6 HN7 HN8 HN9 HN10 HN15 HAL HM HQ7 HB4A HB5A
  generalize w15.alloc (.cells #[.int .i64 4, .int .i64 1, .string ⟨#[]⟩, .slice none 0 0, .slice none 0 0, .int .i64 f0, .int .i64 f1, .string f2, .slice f3 f4 f5, .slice f6 f7 f8, .int .i64 g0, .int .i64 g1, .string g2, .slice g3 g4 g5, .slice g6 g7 g8, .int .i64 h0, .int .i64 h1, .string h2, .slice h3 h4 h5, .slice h6 h7 h8, .int .i64 i0, .int .i64 i1, .string i2, .slice i3 i4 i5, .slice i6 i7 i8, .int .i64 j0, .int .i64 j1, .string j2, .slice j3 j4 j5, .slice j6 j7 j8, .int .i64 k0, .int .i64 k1, .string k2, .slice k3 k4 k5, .slice k6 k7 k8] 25) = wA at *
  generalize w15.heap.size = G at *
  generalize w3.heap.size = D at *
  generalize w4.heap.size = R at *
  obtain ⟨m, v0, v1, v2, v3, v4, hm, hnd, hn5⟩ := HQ.out
  have HMB := Lib.hid hm
  have HND := Lib.hid hnd
  have HN := Lib.hid hn5
  clear HQ hm hnd hn5
  have HB : Hid (Below wA.heap.size wA wA) := Below.refl _ _
  have T0 := HN
  unfold N5 at T0
  have form := HND.out.form
  obtain ⟨x0, x1, x2, x3, x4, x5, x6, x7, x8, rfl, rfl, rfl, rfl, rfl⟩ := form
  have HO : Hid (∀ (w' w'' : World) (g : Nat), Below (w'.alloc (.cells #[.int .i64 5, .int .i64 0, .string hxS, .slice none 0 0, .slice none 0 0, .int .i64 x0, .int .i64 x1, .string x2, .slice x3 x4 x5, .slice x6 x7 x8] 25)).heap.size (w'.alloc (.cells #[.int .i64 5, .int .i64 0, .string hxS, .slice none 0 0, .slice none 0 0, .int .i64 x0, .int .i64 x1, .string x2, .slice x3 x4 x5, .slice x6 x7 x8] 25)) w'' → g = w'.heap.size → Below wA.heap.size wA w' → Calls Tryd.prog 12 #[.slice (some ⟨g, 0, none⟩) 2 2] w'' (ObjP (objO [strN hxS, m]) w'')) := fun w' w'' g hb2 hg hb => by subst hg; exact obj_in [strN hxS, m] [.int .i64 5, .int .i64 0, .string hxS, .slice none 0 0, .slice none 0 0, .int .i64 x0, .int .i64 x1, .string x2, .slice x3 x4 x5, .slice x6 x7 x8] w' w'' (NdsIs.cons (strN_is _ (by decide) _ _) (NdsIs.cons (HND.out.step hb) NdsIs.nil_)) rfl (by simp) 2 hb2
  have HRE : Hid (∀ (w6 w' : World) (c0 c1 : Int) (c2 : ByteArray) (c3 : Option Addr) (c4 c5 : Nat) (c6 : Option Addr) (c7 c8 : Nat), NdIs w6 w6.heap.size (objO [strN hxS, m]) [.int .i64 c0, .int .i64 c1, .string c2, .slice c3 c4 c5, .slice c6 c7 c8] → Below wA.heap.size wA w' → Below w6.heap.size w6 w' → Calls Tryd.prog 9 #[.agg #[.int .i64 c0, .int .i64 c1, .string c2, .slice c3 c4 c5, .slice c6 c7 c8], .slice (some ⟨D, 0, none⟩) 1 1] w' (ReT badR w')) := fun w6 w' c0 c1 c2 c3 c4 c5 c6 c7 c8 hn hb hb6 => (res_done _ _ w' D 1 (hn.step hb6) (obj_size (by decide) (bad_size _ HMB.out)) (HD.out.below hb) (HMA.out.below hb)).mono fun e w' h => by rw [res_bad (bads_none _ HMB.out)] at h; exact h.toT
  unfold hxS at HO
  go_cut [7] (fun t7 wx => t7 = .string ⟨#[105, 110, 118, 97, 108, 105, 100, 82, 101, 115, 117, 108, 116, 82, 101, 102, 101, 114, 101, 110, 99, 101]⟩ ∧ Hid (Below wA.heap.size wA wx))
  case first =>
    go_region_held3 (fun w' => w'.cell? ⟨G, q * 5, none⟩ = some (.int .i64 x0) ∧ w'.cell? ⟨G, q * 5 + 1, none⟩ = some (.int .i64 x1) ∧ w'.cell? ⟨G, q * 5 + 2, none⟩ = some (.string x2) ∧ w'.cell? ⟨G, q * 5 + 3, none⟩ = some (.slice x3 x4 x5) ∧ w'.cell? ⟨G, q * 5 + 4, none⟩ = some (.slice x6 x7 x8)) (first | with_reducible exact T0.out | exact n5_below HN.out (by (repeat (first | with_reducible exact HB.out | with_reducible refine bel_alloc ?_ | with_reducible refine bel_drew ?_ | with_reducible refine bel_set ?_ HZ.out.lo)))) (first
      | (go_at_call 13; refine (rStr_any _ _).mono ?_; rintro e w6 ⟨rfl, hw6⟩; (have HB6 := Lib.hid (nextB (show Below wA.heap.size wA _ from by (repeat (first | with_reducible exact HB.out | with_reducible refine bel_alloc ?_ | with_reducible refine bel_drew ?_ | with_reducible refine bel_set ?_ HZ.out.lo))) hw6)); (first
          | (have HZ := Lib.hid (HZ.out.below hw6))
          | (have HZ := Lib.hid (HZ.out.alloc.below hw6))
          | (have HZ := Lib.hid (HZ.out.drew.below hw6))
          | (have HZ := Lib.hid ((ZB.new (W := wA) (by (repeat (first | with_reducible exact HB.out | with_reducible refine bel_alloc ?_ | with_reducible refine bel_drew ?_ | with_reducible refine bel_set ?_ HZ.out.lo)))).below hw6))
          | (have HZ := Lib.hid ((ZB.new (W := wA) (by (repeat (first | with_reducible exact HB.out | with_reducible refine bel_alloc ?_ | with_reducible refine bel_drew ?_ | with_reducible refine bel_set ?_ HZ.out.lo)))).alloc.below hw6))
          | (have HZ := Lib.hid ((ZB.new (W := wA) (by (repeat (first | with_reducible exact HB.out | with_reducible refine bel_alloc ?_ | with_reducible refine bel_drew ?_ | with_reducible refine bel_set ?_ HZ.out.lo)))).drew.below hw6))
          | skip); (try rw [alloc_sz] at HZ); clear HB; (have HB := HB6); clear HB6 hw6)
      | (go_at_call 12; refine (HO.out _ _ _ (by (repeat (first | with_reducible exact Below.refl _ _ | with_reducible refine bel_alloc ?_ | with_reducible refine bel_drew ?_))) (by first | rfl | (simp; done)) (by (repeat (first | with_reducible exact HB.out | with_reducible refine bel_alloc ?_ | with_reducible refine bel_drew ?_ | with_reducible refine bel_set ?_ HZ.out.lo))) : Calls _ _ _ _ _).mono ?_; rintro e w6 ⟨d0, d1, d2, d3, d4, d5, d6, d7, d8, rfl, hn6, hw6⟩; have HN6 := Lib.hid hn6; clear hn6; (have HB6 := Lib.hid (nextB (show Below wA.heap.size wA _ from by (repeat (first | with_reducible exact HB.out | with_reducible refine bel_alloc ?_ | with_reducible refine bel_drew ?_ | with_reducible refine bel_set ?_ HZ.out.lo))) hw6)); (first
          | (have HZ := Lib.hid (HZ.out.below hw6))
          | (have HZ := Lib.hid (HZ.out.alloc.below hw6))
          | (have HZ := Lib.hid (HZ.out.drew.below hw6))
          | (have HZ := Lib.hid ((ZB.new (W := wA) (by (repeat (first | with_reducible exact HB.out | with_reducible refine bel_alloc ?_ | with_reducible refine bel_drew ?_ | with_reducible refine bel_set ?_ HZ.out.lo)))).below hw6))
          | (have HZ := Lib.hid ((ZB.new (W := wA) (by (repeat (first | with_reducible exact HB.out | with_reducible refine bel_alloc ?_ | with_reducible refine bel_drew ?_ | with_reducible refine bel_set ?_ HZ.out.lo)))).alloc.below hw6))
          | (have HZ := Lib.hid ((ZB.new (W := wA) (by (repeat (first | with_reducible exact HB.out | with_reducible refine bel_alloc ?_ | with_reducible refine bel_drew ?_ | with_reducible refine bel_set ?_ HZ.out.lo)))).drew.below hw6))
          | skip); (try rw [alloc_sz] at HZ); clear HB; (have HB := HB6); clear HB6 hw6)
      | (go_at_call 9; refine (HRE.out _ _ _ _ _ _ _ _ _ _ _ HN6.out (by (repeat (first | with_reducible exact HB.out | with_reducible refine bel_alloc ?_ | with_reducible refine bel_drew ?_ | with_reducible refine bel_set ?_ HZ.out.lo))) (by (repeat (first | with_reducible exact Below.refl _ _ | with_reducible refine bel_alloc ?_ | with_reducible refine bel_drew ?_))) : Calls _ _ _ _ _).mono ?_; rintro e w6 ⟨e0, e1, e2, e3, e4, e5, e6, e7, e8, rfl, hw6⟩; (have HB6 := Lib.hid (nextB (show Below wA.heap.size wA _ from by (repeat (first | with_reducible exact HB.out | with_reducible refine bel_alloc ?_ | with_reducible refine bel_drew ?_ | with_reducible refine bel_set ?_ HZ.out.lo))) hw6)); (first
          | (have HZ := Lib.hid (HZ.out.below hw6))
          | (have HZ := Lib.hid (HZ.out.alloc.below hw6))
          | (have HZ := Lib.hid (HZ.out.drew.below hw6))
          | (have HZ := Lib.hid ((ZB.new (W := wA) (by (repeat (first | with_reducible exact HB.out | with_reducible refine bel_alloc ?_ | with_reducible refine bel_drew ?_ | with_reducible refine bel_set ?_ HZ.out.lo)))).below hw6))
          | (have HZ := Lib.hid ((ZB.new (W := wA) (by (repeat (first | with_reducible exact HB.out | with_reducible refine bel_alloc ?_ | with_reducible refine bel_drew ?_ | with_reducible refine bel_set ?_ HZ.out.lo)))).alloc.below hw6))
          | (have HZ := Lib.hid ((ZB.new (W := wA) (by (repeat (first | with_reducible exact HB.out | with_reducible refine bel_alloc ?_ | with_reducible refine bel_drew ?_ | with_reducible refine bel_set ?_ HZ.out.lo)))).drew.below hw6))
          | skip); (try rw [alloc_sz] at HZ); clear HB; (have HB := HB6); clear HB6 hw6; (try (obtain ⟨z0, z1, z2, z3, z4⟩ := HZ.out.2.cells5; have f0 := HZ.out.2.frozen 0; have f1 := HZ.out.2.frozen 1; have f2 := HZ.out.2.frozen 2; have f3 := HZ.out.2.frozen 3; have f4 := HZ.out.2.frozen 4))))
    all_goals
      go_wp2_with fail
      go_meet
      exact ⟨rfl, (by (repeat (first | with_reducible exact HB.out | with_reducible refine bel_alloc ?_ | with_reducible refine bel_drew ?_ | with_reducible refine bel_set ?_ HZ.out.lo)) : Below wA.heap.size wA _)⟩
  case rest =>
    obtain ⟨rfl, hB⟩ := hcut
    clear HO HRE T0 HN HND HMB hq q0 q1 q2 q3
    replace HD := Lib.hid (HD.out.below hB.out)
    replace HR := Lib.hid (HR.out.below hB.out HR.out.lt)
    replace HRN := Lib.hid (HRN.out.step hB.out)
    replace HW := Lib.hid (nextB HW.out hB.out)
    replace HMA := Lib.hid (HMA.out.below hB.out)
    clear hB HB
    obtain ⟨wB, rfl⟩ : ∃ w9 : World, w9 = wc := ⟨_, rfl⟩
    have HB : Hid (Below wB.heap.size wB wB) := Below.refl _ _
    have HN : Hid (N5 ⟨R, 0, none⟩ (.int .i64 b0) (.int .i64 b1) (.string b2) (.slice b3 b4 b5) (.slice b6 b7 b8) wB) := HR.out.cells5
    have T0 := HN
    unfold N5 at T0
    have HO : Hid (∀ (w' w'' : World) (g : Nat), Below (w'.alloc (.cells #[.int .i64 5, .int .i64 0, .string hxS, .slice none 0 0, .slice none 0 0, .int .i64 b0, .int .i64 b1, .string b2, .slice b3 b4 b5, .slice b6 b7 b8, .int .i64 5, .int .i64 0, .string xS, .slice none 0 0, .slice none 0 0, .int .i64 4, .int .i64 1, .string ⟨#[]⟩, .slice none 0 0, .slice none 0 0] 25)).heap.size (w'.alloc (.cells #[.int .i64 5, .int .i64 0, .string hxS, .slice none 0 0, .slice none 0 0, .int .i64 b0, .int .i64 b1, .string b2, .slice b3 b4 b5, .slice b6 b7 b8, .int .i64 5, .int .i64 0, .string xS, .slice none 0 0, .slice none 0 0, .int .i64 4, .int .i64 1, .string ⟨#[]⟩, .slice none 0 0, .slice none 0 0] 25)) w'' → g = w'.heap.size → Below wB.heap.size wB w' → Calls Tryd.prog 12 #[.slice (some ⟨g, 0, none⟩) 4 4] w'' (ObjP (objO [strN hxS, goodRN, strN xS, num4 1]) w'')) := fun w' w'' g hb2 hg hb => by subst hg; exact obj_in [strN hxS, goodRN, strN xS, num4 1] [.int .i64 5, .int .i64 0, .string hxS, .slice none 0 0, .slice none 0 0, .int .i64 b0, .int .i64 b1, .string b2, .slice b3 b4 b5, .slice b6 b7 b8, .int .i64 5, .int .i64 0, .string xS, .slice none 0 0, .slice none 0 0, .int .i64 4, .int .i64 1, .string ⟨#[]⟩, .slice none 0 0, .slice none 0 0] w' w'' (NdsIs.cons (strN_is _ (by decide) _ _) (NdsIs.cons (HRN.out.step hb) (NdsIs.cons (strN_is _ (by decide) _ _) (NdsIs.cons (num4_is 1 (by unfold I64; omega) _ _) NdsIs.nil_)))) rfl (by simp) 4 hb2
    have HRE : Hid (∀ (w6 w' : World) (c0 c1 : Int) (c2 : ByteArray) (c3 : Option Addr) (c4 c5 : Nat) (c6 : Option Addr) (c7 c8 : Nat), NdIs w6 w6.heap.size (objO [strN hxS, goodRN, strN xS, num4 1]) [.int .i64 c0, .int .i64 c1, .string c2, .slice c3 c4 c5, .slice c6 c7 c8] → Below wB.heap.size wB w' → Below w6.heap.size w6 w' → Calls Tryd.prog 9 #[.agg #[.int .i64 c0, .int .i64 c1, .string c2, .slice c3 c4 c5, .slice c6 c7 c8], .slice (some ⟨D, 0, none⟩) 1 1] w' (ReT badA w')) := fun w6 w' c0 c1 c2 c3 c4 c5 c6 c7 c8 hn hb hb6 => (res_done _ _ w' D 1 (hn.step hb6) (obj_size2 (by decide) (by decide) good_size (size_num4 (by unfold I64; omega))) (HD.out.below hb) (HMA.out.below hb)).mono fun e w' h => by rw [res_two] at h; exact h.toT
    unfold hxS at HO
    unfold xS at HO
    go_wp2_with fail
    go_cut [9] (fun t9 wx => t9 = .string ⟨#[105, 110, 118, 97, 108, 105, 100, 65, 114, 103, 117, 109, 101, 110, 116, 115]⟩ ∧ Hid (Below wB.heap.size wB wx))
    case first =>
      go_region_held3 (fun w' => w'.cell? ⟨R, 0, none⟩ = some (.int .i64 b0) ∧ w'.cell? ⟨R, 1, none⟩ = some (.int .i64 b1) ∧ w'.cell? ⟨R, 2, none⟩ = some (.string b2) ∧ w'.cell? ⟨R, 3, none⟩ = some (.slice b3 b4 b5) ∧ w'.cell? ⟨R, 4, none⟩ = some (.slice b6 b7 b8)) (first | with_reducible exact T0.out | exact n5_below HN.out (by (repeat (first | with_reducible exact HB.out | with_reducible refine bel_alloc ?_ | with_reducible refine bel_drew ?_ | with_reducible refine bel_set ?_ HZ.out.lo)))) (first
        | (go_at_call 13; refine (rStr_any _ _).mono ?_; rintro e w6 ⟨rfl, hw6⟩; (have HB6 := Lib.hid (nextB (show Below wB.heap.size wB _ from by (repeat (first | with_reducible exact HB.out | with_reducible refine bel_alloc ?_ | with_reducible refine bel_drew ?_ | with_reducible refine bel_set ?_ HZ.out.lo))) hw6)); (first
          | (have HZ := Lib.hid (HZ.out.below hw6))
          | (have HZ := Lib.hid (HZ.out.alloc.below hw6))
          | (have HZ := Lib.hid (HZ.out.drew.below hw6))
          | (have HZ := Lib.hid ((ZB.new (W := wB) (by (repeat (first | with_reducible exact HB.out | with_reducible refine bel_alloc ?_ | with_reducible refine bel_drew ?_ | with_reducible refine bel_set ?_ HZ.out.lo)))).below hw6))
          | (have HZ := Lib.hid ((ZB.new (W := wB) (by (repeat (first | with_reducible exact HB.out | with_reducible refine bel_alloc ?_ | with_reducible refine bel_drew ?_ | with_reducible refine bel_set ?_ HZ.out.lo)))).alloc.below hw6))
          | (have HZ := Lib.hid ((ZB.new (W := wB) (by (repeat (first | with_reducible exact HB.out | with_reducible refine bel_alloc ?_ | with_reducible refine bel_drew ?_ | with_reducible refine bel_set ?_ HZ.out.lo)))).drew.below hw6))
          | skip); (try rw [alloc_sz] at HZ); clear HB; (have HB := HB6); clear HB6 hw6)
        | (go_at_call 15; refine (rNum_any _ _).mono ?_; rintro e w6 ⟨rfl, hw6⟩; (have HB6 := Lib.hid (nextB (show Below wB.heap.size wB _ from by (repeat (first | with_reducible exact HB.out | with_reducible refine bel_alloc ?_ | with_reducible refine bel_drew ?_ | with_reducible refine bel_set ?_ HZ.out.lo))) hw6)); (first
          | (have HZ := Lib.hid (HZ.out.below hw6))
          | (have HZ := Lib.hid (HZ.out.alloc.below hw6))
          | (have HZ := Lib.hid (HZ.out.drew.below hw6))
          | (have HZ := Lib.hid ((ZB.new (W := wB) (by (repeat (first | with_reducible exact HB.out | with_reducible refine bel_alloc ?_ | with_reducible refine bel_drew ?_ | with_reducible refine bel_set ?_ HZ.out.lo)))).below hw6))
          | (have HZ := Lib.hid ((ZB.new (W := wB) (by (repeat (first | with_reducible exact HB.out | with_reducible refine bel_alloc ?_ | with_reducible refine bel_drew ?_ | with_reducible refine bel_set ?_ HZ.out.lo)))).alloc.below hw6))
          | (have HZ := Lib.hid ((ZB.new (W := wB) (by (repeat (first | with_reducible exact HB.out | with_reducible refine bel_alloc ?_ | with_reducible refine bel_drew ?_ | with_reducible refine bel_set ?_ HZ.out.lo)))).drew.below hw6))
          | skip); (try rw [alloc_sz] at HZ); clear HB; (have HB := HB6); clear HB6 hw6)
        | (go_at_call 12; refine (HO.out _ _ _ (by (repeat (first | with_reducible exact Below.refl _ _ | with_reducible refine bel_alloc ?_ | with_reducible refine bel_drew ?_))) (by first | rfl | (simp; done)) (by (repeat (first | with_reducible exact HB.out | with_reducible refine bel_alloc ?_ | with_reducible refine bel_drew ?_ | with_reducible refine bel_set ?_ HZ.out.lo))) : Calls _ _ _ _ _).mono ?_; rintro e w6 ⟨d0, d1, d2, d3, d4, d5, d6, d7, d8, rfl, hn6, hw6⟩; have HN6 := Lib.hid hn6; clear hn6; (have HB6 := Lib.hid (nextB (show Below wB.heap.size wB _ from by (repeat (first | with_reducible exact HB.out | with_reducible refine bel_alloc ?_ | with_reducible refine bel_drew ?_ | with_reducible refine bel_set ?_ HZ.out.lo))) hw6)); (first
          | (have HZ := Lib.hid (HZ.out.below hw6))
          | (have HZ := Lib.hid (HZ.out.alloc.below hw6))
          | (have HZ := Lib.hid (HZ.out.drew.below hw6))
          | (have HZ := Lib.hid ((ZB.new (W := wB) (by (repeat (first | with_reducible exact HB.out | with_reducible refine bel_alloc ?_ | with_reducible refine bel_drew ?_ | with_reducible refine bel_set ?_ HZ.out.lo)))).below hw6))
          | (have HZ := Lib.hid ((ZB.new (W := wB) (by (repeat (first | with_reducible exact HB.out | with_reducible refine bel_alloc ?_ | with_reducible refine bel_drew ?_ | with_reducible refine bel_set ?_ HZ.out.lo)))).alloc.below hw6))
          | (have HZ := Lib.hid ((ZB.new (W := wB) (by (repeat (first | with_reducible exact HB.out | with_reducible refine bel_alloc ?_ | with_reducible refine bel_drew ?_ | with_reducible refine bel_set ?_ HZ.out.lo)))).drew.below hw6))
          | skip); (try rw [alloc_sz] at HZ); clear HB; (have HB := HB6); clear HB6 hw6)
        | (go_at_call 9; refine (HRE.out _ _ _ _ _ _ _ _ _ _ _ HN6.out (by (repeat (first | with_reducible exact HB.out | with_reducible refine bel_alloc ?_ | with_reducible refine bel_drew ?_ | with_reducible refine bel_set ?_ HZ.out.lo))) (by (repeat (first | with_reducible exact Below.refl _ _ | with_reducible refine bel_alloc ?_ | with_reducible refine bel_drew ?_))) : Calls _ _ _ _ _).mono ?_; rintro e w6 ⟨e0, e1, e2, e3, e4, e5, e6, e7, e8, rfl, hw6⟩; (have HB6 := Lib.hid (nextB (show Below wB.heap.size wB _ from by (repeat (first | with_reducible exact HB.out | with_reducible refine bel_alloc ?_ | with_reducible refine bel_drew ?_ | with_reducible refine bel_set ?_ HZ.out.lo))) hw6)); (first
          | (have HZ := Lib.hid (HZ.out.below hw6))
          | (have HZ := Lib.hid (HZ.out.alloc.below hw6))
          | (have HZ := Lib.hid (HZ.out.drew.below hw6))
          | (have HZ := Lib.hid ((ZB.new (W := wB) (by (repeat (first | with_reducible exact HB.out | with_reducible refine bel_alloc ?_ | with_reducible refine bel_drew ?_ | with_reducible refine bel_set ?_ HZ.out.lo)))).below hw6))
          | (have HZ := Lib.hid ((ZB.new (W := wB) (by (repeat (first | with_reducible exact HB.out | with_reducible refine bel_alloc ?_ | with_reducible refine bel_drew ?_ | with_reducible refine bel_set ?_ HZ.out.lo)))).alloc.below hw6))
          | (have HZ := Lib.hid ((ZB.new (W := wB) (by (repeat (first | with_reducible exact HB.out | with_reducible refine bel_alloc ?_ | with_reducible refine bel_drew ?_ | with_reducible refine bel_set ?_ HZ.out.lo)))).drew.below hw6))
          | skip); (try rw [alloc_sz] at HZ); clear HB; (have HB := HB6); clear HB6 hw6; (try (obtain ⟨z0, z1, z2, z3, z4⟩ := HZ.out.2.cells5; have f0 := HZ.out.2.frozen 0; have f1 := HZ.out.2.frozen 1; have f2 := HZ.out.2.frozen 2; have f3 := HZ.out.2.frozen 3; have f4 := HZ.out.2.frozen 4))))
      all_goals
        go_wp2_with fail
        go_meet
        exact ⟨rfl, (by (repeat (first | with_reducible exact HB.out | with_reducible refine bel_alloc ?_ | with_reducible refine bel_drew ?_ | with_reducible refine bel_set ?_ HZ.out.lo)) : Below wB.heap.size wB _)⟩
    case rest =>
      obtain ⟨rfl, hB⟩ := hcut
      clear HO HRE T0 HN
      replace HD := Lib.hid (HD.out.below hB.out)
      replace HR := Lib.hid (HR.out.below hB.out HR.out.lt)
      replace HRN := Lib.hid (HRN.out.step hB.out)
      replace HW := Lib.hid (nextB HW.out hB.out)
      replace HMA := Lib.hid (HMA.out.below hB.out)
      clear hB HB
      obtain ⟨wC, rfl⟩ : ∃ w9 : World, w9 = wc := ⟨_, rfl⟩
      have HB : Hid (Below wC.heap.size wC wC) := Below.refl _ _
      have HA6 : Hid (∀ w', Below wC.heap.size wC w' → Calls Tryd.prog 9 #[.agg #[.int .i64 6, .int .i64 0, .string ⟨#[]⟩, .slice none 0 0, .slice none 0 0], .slice (some ⟨D, 0, none⟩) 1 1] w' (ReT badA w')) := fun w' hb => (res_done (.mk 6 0 ⟨#[]⟩ [] []) _ w' D 1 arr_is (size_lit (by intro s hs; cases hs) (by decide) (by decide) sizeL_nil) (HD.out.below hb) (HMA.out.below hb)).mono fun e w' h => by rw [res_arr] at h; exact h.toT
      unfold badA at HA6
      go_wp2_with fail
      refine (rArr_any _ _ _ _).mono ?_; rintro e w6 ⟨rfl, hw6⟩
      go_wp2_with fail
      refine (HA6.out _ hw6 : Calls _ _ _ _ _).mono ?_; rintro e w7 ⟨e0, e1, e2, e3, e4, e5, e6, e7, e8, rfl, hw7⟩
      go_wp2_with fail
      have hB : Hid (Below wC.heap.size wC (w7.alloc (.cells #[.int .i64 e0, .int .i64 e1, .string e2, .slice e3 e4 e5, .slice e6 e7 e8] 25))) := bel_alloc (nextB hw6 hw7)
      clear hw6 hw7 HA6
      generalize hwc : w7.alloc (.cells #[.int .i64 e0, .int .i64 e1, .string e2, .slice e3 e4 e5, .slice e6 e7 e8] 25) = wc at *
      clear hwc
      replace HD := Lib.hid (HD.out.below hB.out)
      replace HR := Lib.hid (HR.out.below hB.out HR.out.lt)
      replace HRN := Lib.hid (HRN.out.step hB.out)
      replace HW := Lib.hid (nextB HW.out hB.out)
      replace HMA := Lib.hid (HMA.out.below hB.out)
      clear hB HB
      obtain ⟨wD, rfl⟩ : ∃ w9 : World, w9 = wc := ⟨_, rfl⟩
      have HB : Hid (Below wD.heap.size wD wD) := Below.refl _ _
      have HN : Hid (N5 ⟨R, 0, none⟩ (.int .i64 b0) (.int .i64 b1) (.string b2) (.slice b3 b4 b5) (.slice b6 b7 b8) wD) := HR.out.cells5
      have T0 := HN
      unfold N5 at T0
      have HO : Hid (∀ (w' w'' : World) (g : Nat), Below (w'.alloc (.cells #[.int .i64 5, .int .i64 0, .string hxS, .slice none 0 0, .slice none 0 0, .int .i64 b0, .int .i64 b1, .string b2, .slice b3 b4 b5, .slice b6 b7 b8] 25)).heap.size (w'.alloc (.cells #[.int .i64 5, .int .i64 0, .string hxS, .slice none 0 0, .slice none 0 0, .int .i64 b0, .int .i64 b1, .string b2, .slice b3 b4 b5, .slice b6 b7 b8] 25)) w'' → g = w'.heap.size → Below wD.heap.size wD w' → Calls Tryd.prog 12 #[.slice (some ⟨g, 0, none⟩) 2 2] w'' (ObjP (objO [strN hxS, goodRN]) w'')) := fun w' w'' g hb2 hg hb => by subst hg; exact obj_in [strN hxS, goodRN] [.int .i64 5, .int .i64 0, .string hxS, .slice none 0 0, .slice none 0 0, .int .i64 b0, .int .i64 b1, .string b2, .slice b3 b4 b5, .slice b6 b7 b8] w' w'' (NdsIs.cons (strN_is _ (by decide) _ _) (NdsIs.cons (HRN.out.step hb) NdsIs.nil_)) rfl (by simp) 2 hb2
      have HRE : Hid (∀ (w6 w' : World) (c0 c1 : Int) (c2 : ByteArray) (c3 : Option Addr) (c4 c5 : Nat) (c6 : Option Addr) (c7 c8 : Nat), NdIs w6 w6.heap.size (objO [strN hxS, goodRN]) [.int .i64 c0, .int .i64 c1, .string c2, .slice c3 c4 c5, .slice c6 c7 c8] → Below wD.heap.size wD w' → Below w6.heap.size w6 w' → Calls Tryd.prog 9 #[.agg #[.int .i64 c0, .int .i64 c1, .string c2, .slice c3 c4 c5, .slice c6 c7 c8], .slice (some ⟨D, 0, none⟩) 1 1] w' (ReX w')) := fun w6 w' c0 c1 c2 c3 c4 c5 c6 c7 c8 hn hb hb6 => (res_done _ _ w' D 1 (hn.step hb6) (obj_size (by decide) good_size) (HD.out.below hb) (HMA.out.below hb)).mono fun e w' h => by rw [show resN (objO [strN hxS, goodRN]) doneL = .ok resXN from res_good good_some] at h; exact h.toX
      unfold hxS at HO
      go_cut [12, 13] (fun t12 t13 wx => ∃ (X : Nat) (c0 c1 : Int) (c2 : ByteArray) (c3 : Option Addr) (c4 c5 : Nat) (c6 : Option Addr) (c7 c8 : Nat), t12 = .pointer (some ⟨X, 0, none⟩) ∧ t13 = .string ⟨#[]⟩ ∧ Hid (Blk wx X 25 #[.int .i64 c0, .int .i64 c1, .string c2, .slice c3 c4 c5, .slice c6 c7 c8]) ∧ Hid (NdIs wx wx.heap.size resXN [.int .i64 c0, .int .i64 c1, .string c2, .slice c3 c4 c5, .slice c6 c7 c8]) ∧ Hid (Below wD.heap.size wD wx))
      case first =>
        go_region_held3 (fun w' => w'.cell? ⟨R, 0, none⟩ = some (.int .i64 b0) ∧ w'.cell? ⟨R, 1, none⟩ = some (.int .i64 b1) ∧ w'.cell? ⟨R, 2, none⟩ = some (.string b2) ∧ w'.cell? ⟨R, 3, none⟩ = some (.slice b3 b4 b5) ∧ w'.cell? ⟨R, 4, none⟩ = some (.slice b6 b7 b8)) (first | with_reducible exact T0.out | exact n5_below HN.out (by (repeat (first | with_reducible exact HB.out | with_reducible refine bel_alloc ?_ | with_reducible refine bel_drew ?_ | with_reducible refine bel_set ?_ HZ.out.lo)))) (first
          | (go_at_call 13; refine (rStr_any _ _).mono ?_; rintro e w6 ⟨rfl, hw6⟩; (have HB6 := Lib.hid (nextB (show Below wD.heap.size wD _ from by (repeat (first | with_reducible exact HB.out | with_reducible refine bel_alloc ?_ | with_reducible refine bel_drew ?_ | with_reducible refine bel_set ?_ HZ.out.lo))) hw6)); (first
          | (have HZ := Lib.hid (HZ.out.below hw6))
          | (have HZ := Lib.hid (HZ.out.alloc.below hw6))
          | (have HZ := Lib.hid (HZ.out.drew.below hw6))
          | (have HZ := Lib.hid ((ZB.new (W := wD) (by (repeat (first | with_reducible exact HB.out | with_reducible refine bel_alloc ?_ | with_reducible refine bel_drew ?_ | with_reducible refine bel_set ?_ HZ.out.lo)))).below hw6))
          | (have HZ := Lib.hid ((ZB.new (W := wD) (by (repeat (first | with_reducible exact HB.out | with_reducible refine bel_alloc ?_ | with_reducible refine bel_drew ?_ | with_reducible refine bel_set ?_ HZ.out.lo)))).alloc.below hw6))
          | (have HZ := Lib.hid ((ZB.new (W := wD) (by (repeat (first | with_reducible exact HB.out | with_reducible refine bel_alloc ?_ | with_reducible refine bel_drew ?_ | with_reducible refine bel_set ?_ HZ.out.lo)))).drew.below hw6))
          | skip); (try rw [alloc_sz] at HZ); clear HB; (have HB := HB6); clear HB6 hw6)
          | (go_at_call 12; refine (HO.out _ _ _ (by (repeat (first | with_reducible exact Below.refl _ _ | with_reducible refine bel_alloc ?_ | with_reducible refine bel_drew ?_))) (by first | rfl | (simp; done)) (by (repeat (first | with_reducible exact HB.out | with_reducible refine bel_alloc ?_ | with_reducible refine bel_drew ?_ | with_reducible refine bel_set ?_ HZ.out.lo))) : Calls _ _ _ _ _).mono ?_; rintro e w6 ⟨d0, d1, d2, d3, d4, d5, d6, d7, d8, rfl, hn6, hw6⟩; have HN6 := Lib.hid hn6; clear hn6; (have HB6 := Lib.hid (nextB (show Below wD.heap.size wD _ from by (repeat (first | with_reducible exact HB.out | with_reducible refine bel_alloc ?_ | with_reducible refine bel_drew ?_ | with_reducible refine bel_set ?_ HZ.out.lo))) hw6)); (first
          | (have HZ := Lib.hid (HZ.out.below hw6))
          | (have HZ := Lib.hid (HZ.out.alloc.below hw6))
          | (have HZ := Lib.hid (HZ.out.drew.below hw6))
          | (have HZ := Lib.hid ((ZB.new (W := wD) (by (repeat (first | with_reducible exact HB.out | with_reducible refine bel_alloc ?_ | with_reducible refine bel_drew ?_ | with_reducible refine bel_set ?_ HZ.out.lo)))).below hw6))
          | (have HZ := Lib.hid ((ZB.new (W := wD) (by (repeat (first | with_reducible exact HB.out | with_reducible refine bel_alloc ?_ | with_reducible refine bel_drew ?_ | with_reducible refine bel_set ?_ HZ.out.lo)))).alloc.below hw6))
          | (have HZ := Lib.hid ((ZB.new (W := wD) (by (repeat (first | with_reducible exact HB.out | with_reducible refine bel_alloc ?_ | with_reducible refine bel_drew ?_ | with_reducible refine bel_set ?_ HZ.out.lo)))).drew.below hw6))
          | skip); (try rw [alloc_sz] at HZ); clear HB; (have HB := HB6); clear HB6 hw6)
          | (go_at_call 9; refine (HRE.out _ _ _ _ _ _ _ _ _ _ _ HN6.out (by (repeat (first | with_reducible exact HB.out | with_reducible refine bel_alloc ?_ | with_reducible refine bel_drew ?_ | with_reducible refine bel_set ?_ HZ.out.lo))) (by (repeat (first | with_reducible exact Below.refl _ _ | with_reducible refine bel_alloc ?_ | with_reducible refine bel_drew ?_))) : Calls _ _ _ _ _).mono ?_; rintro e w6 ⟨e0, e1, e2, e3, e4, e5, e6, e7, e8, rfl, hx6, hw6⟩; have HX6 := Lib.hid hx6; clear hx6; (have HB6 := Lib.hid (nextB (show Below wD.heap.size wD _ from by (repeat (first | with_reducible exact HB.out | with_reducible refine bel_alloc ?_ | with_reducible refine bel_drew ?_ | with_reducible refine bel_set ?_ HZ.out.lo))) hw6)); (first
          | (have HZ := Lib.hid (HZ.out.below hw6))
          | (have HZ := Lib.hid (HZ.out.alloc.below hw6))
          | (have HZ := Lib.hid (HZ.out.drew.below hw6))
          | (have HZ := Lib.hid ((ZB.new (W := wD) (by (repeat (first | with_reducible exact HB.out | with_reducible refine bel_alloc ?_ | with_reducible refine bel_drew ?_ | with_reducible refine bel_set ?_ HZ.out.lo)))).below hw6))
          | (have HZ := Lib.hid ((ZB.new (W := wD) (by (repeat (first | with_reducible exact HB.out | with_reducible refine bel_alloc ?_ | with_reducible refine bel_drew ?_ | with_reducible refine bel_set ?_ HZ.out.lo)))).alloc.below hw6))
          | (have HZ := Lib.hid ((ZB.new (W := wD) (by (repeat (first | with_reducible exact HB.out | with_reducible refine bel_alloc ?_ | with_reducible refine bel_drew ?_ | with_reducible refine bel_set ?_ HZ.out.lo)))).drew.below hw6))
          | skip); (try rw [alloc_sz] at HZ); clear HB; (have HB := HB6); clear HB6 hw6; (try (obtain ⟨z0, z1, z2, z3, z4⟩ := HZ.out.2.cells5; have f0 := HZ.out.2.frozen 0; have f1 := HZ.out.2.frozen 1; have f2 := HZ.out.2.frozen 2; have f3 := HZ.out.2.frozen 3; have f4 := HZ.out.2.frozen 4))))
        all_goals
          go_wp2_with fail
          go_meet
          first | with_reducible exact end_set HX6.out HZ.out HB.out | with_reducible exact end_new HX6.out HB.out
      case rest =>
        obtain ⟨X, c0, c1, c2, c3, c4, c5, c6, c7, c8, rfl, rfl, hX, hXN, hB⟩ := hcut
        obtain ⟨rfl, rfl, ⟨k1, k2, rfl, hk⟩, ⟨n1, n2, rfl, hn⟩⟩ := resX_read hXN.out
        obtain ⟨y0, y1, y2, y3, y4⟩ := hX.out.cells5
        have hW : Below w.heap.size w wc := nextB HW.out hB.out
        clear HO HRE T0 HN HD HR HRN HW HMA hB HB hX hXN
        go_wp2_with (go_at_call 8; refine (awake26_any _).mono ?_; rintro e w1 ⟨rfl, hw1⟩; (first | replace hW := nextB hW hw1 | replace hW := nextA hW hw1 | replace hW := nextB hW.drew hw1 | replace hW := nextAA hW hw1 | replace hW := nextAD hW hw1); clear hw1)
        go_ret
        exact ⟨rfl, hW⟩
end Go.Proofs.YthbjehbpanhdoaaDoor
