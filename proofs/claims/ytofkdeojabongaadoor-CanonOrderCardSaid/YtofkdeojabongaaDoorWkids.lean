/- The walk of the writer's kids. -/
import Derived.Test.YtofkdeojabongaaDoorWnode
namespace Go.Proofs.YtofkdeojabongaaDoor
open Go.RowKit Go.PlainAid
set_option linter.unusedVariables false
set_option linter.unusedSimpArgs false
theorem Bld.alloc {B b : Nat} {bs : List Value} {w : World} (h : Bld B b bs w) (o : Obj) : Bld B b bs (w.alloc o) := by
  have go : ∀ p, Lib.BuilderAtF 48 5 B b p bs w → Lib.BuilderAtF 48 5 B b p bs (w.alloc o) := by
    rintro p ⟨hB, v, hb, ho, hn⟩
    exact ⟨hB, v, (Lib.alloc_old w o b (bldLt hb)).trans hb, ho.alloc o, hn⟩
  rcases h with h | h
  · exact .inl (go _ h)
  · exact .inr (go _ h)
theorem Bld.lt {B b : Nat} {bs : List Value} {w : World} (h : Bld B b bs w) : b < w.heap.size := by
  rcases h with ⟨_, v, hb, _⟩ | ⟨_, v, hb, _⟩ <;> exact bldLt hb
theorem Kept.alloc {B b : Nat} {w w' : World} (h : Kept B b w w') (hB : B ≤ w'.heap.size) (o : Obj) : Kept B b w (w'.alloc o) := ⟨h.1.alloc hB o, h.2.alloc o⟩
theorem Kept.blk {B b : Nat} {w w' : World} (h : Kept B b w w') {x : Nat} {cs : Array Value} (hx : Blk w x 25 cs) (hne : x ≠ b) : Blk w' x 25 cs :=
  h.2 x _ hx (by intro e; injection e with e; exact hne e) (fun c fz e => by injection e with _ e2; exact absurd e2 (by decide))
def NodeC (B b : Nat) (vs : Array Value) (l' : List UInt8) (w : World) : Prop :=
  Calls Tryd.prog 22 #[.pointer (some ⟨b, 0, none⟩), .agg vs] w fun e w' => e = .returned (.tuple #[]) ∧ Bld B b (Lib.byteCells l') w' ∧ Kept B b w w'
def NodeH (B b : Nat) (ns : List Nd) : Prop := ∀ (i : Nat) (n : Nd), ns[i]? = some n → ∀ (cs : List Value) (l : List UInt8) (w : World), NdIs w B n cs → Bld B b (Lib.byteCells l) w → TabAt B w → B ≤ w.heap.size → goodN n → l.length + gN n ≤ 100000000000000 → NodeC B b cs.toArray (outN n l) w
theorem Kept.reads {B b : Nat} {w w' : World} (h : Kept B b w w') {size n : Nat} {A : Option Addr} {xs : List Value} (hr : Reads w B size A n xs) : Reads w' B size A n xs := hr.keep fun p hp => h.1.cell hp
theorem Kept.nds {B b : Nat} {w w' : World} (h : Kept B b w w') {ns : List Nd} {xs : List Value} (hr : NdsIs w B ns xs) : NdsIs w' B ns xs := NdsIs.keep (fun p hp => h.1.cell hp) _ _ hr
theorem cell_str {B b : Nat} {w w' : World} {A : Option Addr} {ks : List ByteArray} (h : Reads w B 1 A ks.length (ks.map Value.string)) (k : Kept B b w w') {i : Nat} {s : ByteArray} (hs : ks[i]? = some s) : ∃ ad, A = some ad ∧ ad.block < B ∧ w'.cell? (ad.add i) = some (.string s) := by
  obtain ⟨ad, s', e, hb, hs', hc⟩ := (k.reads h).str (List.getElem?_eq_some_iff.1 hs).1
  rw [hs] at hs'
  injection hs' with hs'
  subst hs'
  exact ⟨ad, e, hb, hc⟩
set_option maxRecDepth 100000 in
set_option maxHeartbeats 3000000 in
theorem Wkids_any (k num : Int) (t : ByteArray) (ks : List ByteArray) (ns : List Nd) (A A2 : Option Addr) (ck cc : Nat) (xs : List Value) (B b : Nat) (lb rb : UInt8) (l : List UInt8) (w : World)
    (hks : Reads w B 1 A ks.length (ks.map Value.string)) (hxs : Reads w B 5 A2 ns.length xs) (hns : NdsIs w B ns xs) (hm : ns.length ≤ 9223372036854775807) (hkl : k = 7 → ks.length = ns.length) (hsz : ∀ s ∈ ks, s.size ≤ 1000000000) (hgl : goodL ns)
    (HIH : Hid (NodeH B b ns)) (hb : Bld B b (Lib.byteCells l) w) (hT : TabAt B w) (hB : B ≤ w.heap.size) (hlen : l.length + 2 + gL ks ns ≤ 100000000000000) :
    Calls Tryd.prog 39 #[.pointer (some ⟨b, 0, none⟩), .agg #[.int .i64 k, .int .i64 num, .string t, .slice A ks.length ck, .slice A2 ns.length cc], .int .u8 lb.toNat, .int .u8 rb.toNat] w
      fun e w' => e = .returned (.tuple #[]) ∧ Bld B b (Lib.byteCells (outL (k == 7) ks ns true (l ++ [lb]) ++ [rb])) w' ∧ Kept B b w w' := by
  have HKS := Lib.hid hks
  have HXS := Lib.hid hxs
  have HNS := Lib.hid hns
  have HSZ := Lib.hid hsz
  have HGL := Lib.hid hgl
  have HKL := Lib.hid hkl
  have hbl := hb.lt
  have K0 : Kept B b w (w.alloc (.cells #[.int .i64 k, .int .i64 num, .string t, .slice A ks.length ck, .slice A2 ns.length cc] 25)) := (Kept.refl _ _ _).alloc hB _
  have X0 : Blk (w.alloc (.cells #[.int .i64 k, .int .i64 num, .string t, .slice A ks.length ck, .slice A2 ns.length cc] 25)) w.heap.size 25 #[.int .i64 k, .int .i64 num, .string t, .slice A ks.length ck, .slice A2 ns.length cc] := Blk.new w _ _
  have HX0 := Lib.hid X0
  have HB0 := Lib.hid (hb.alloc (.cells #[.int .i64 k, .int .i64 num, .string t, .slice A ks.length ck, .slice A2 ns.length cc] 25))
  have HT := Lib.hid hT
  obtain ⟨V, hV⟩ : ∃ V, V = outL (k == 7) ks ns true (l ++ [lb]) := ⟨_, rfl⟩
  rw [← hV]
  have HV0 : Hid (V = outL (k == 7) (ks.drop 0) (ns.drop 0) (decide (0 = 0)) (l ++ [lb])) := hV
  have hg0 : gL ks ns = gL (ks.drop 0) (ns.drop 0) := rfl
  have HG0 := Lib.hid hg0
  clear hks hxs hns hsz hgl hkl hb X0 hT hV hg0
  go_enter Tryd.func39, Tryd.ntmps39
  go_wp2_with fail
  refine (wbyte B b l _ lb rfl _ HB0.out (by omega) (by first | omega | (simp; omega))).mono ?_; rintro e w1 ⟨rfl, n1, k1⟩
  have K1 := K0.trans k1
  have X1 := k1.blk HX0.out (by omega)
  have N1 := Lib.hid n1
  have z1 := K1.1.size
  have z2 : w.heap.size < w1.heap.size := X1.lt
  have c4 : w1.cell? ⟨w.heap.size, 4, none⟩ = some (.slice A2 ns.length cc) := X1.cell 4
  have HX1 := Lib.hid X1
  clear n1 k1 HB0 HX0 K0 X1
  go_wp2_with fail
  go_loopw [18] (fun t5 wr => ∃ (i : Nat) (X : List UInt8), i ≤ ns.length ∧ t5 = .int .i64 i ∧ Hid (V = outL (k == 7) (ks.drop i) (ns.drop i) (decide (i = 0)) X) ∧ Hid (Bld B b (Lib.byteCells X) wr) ∧ X.length + 1 + gL (ks.drop i) (ns.drop i) ≤ 100000000000000 ∧ Hid (Kept B b w wr) ∧ Hid (Blk wr w.heap.size 25 #[.int .i64 k, .int .i64 num, .string t, .slice A ks.length ck, .slice A2 ns.length cc]) ∧ w.heap.size < wr.heap.size) (fun t5 _ => ns.length - (intOf t5).toNat)
  case atStart => exact ⟨0, l ++ [lb], by omega, rfl, HV0, N1, by rw [← HG0.out]; simp; omega, K1, HX1, z2⟩
  case round =>
    clear K1 N1 z1 z2 c4 HX1 HV0 HG0
    obtain ⟨i, X, hi, rfl, hv, hbl2, hxl, hk, hx, hz⟩ := hrel
    obtain ⟨wo, rfl⟩ : ∃ wo : World, wo = wr := ⟨_, rfl⟩
    have c0 : wo.cell? ⟨w.heap.size, 0, none⟩ = some (.int .i64 k) := hx.out.cell 0
    have c3 : wo.cell? ⟨w.heap.size, 3, none⟩ = some (.slice A ks.length ck) := hx.out.cell 3
    by_cases hlt : i < ns.length
    · obtain ⟨ad, n, v0, v1, v2, v3, v4, rfl, hadb, hni, hnd, e0, e1, e2, e3, e4⟩ := (hk.out.reads HXS.out).nd (hk.out.nds HNS.out) hlt
      obtain ⟨x0, x1, x2, x3, x4, x5, x6, x7, x8, rfl, rfl, rfl, rfl, rfl⟩ := hnd.form
      have hgat := gL_at ks ns i n hni
      have hgood := goodL_at ns i n hni HGL.out
      have q1 : (ad.add (i * 5)).block < wo.heap.size := by rw [block_of_add]; omega
      have HND := Lib.hid hnd
      have HNI := Lib.hid hni
      have HGD := Lib.hid hgood
      have HGA := Lib.hid hgat
      clear hnd hni hgood hgat
      have hgo := HGA.out
      have KY : Kept B b wo (wo.alloc (.cells #[.int .i64 x0, .int .i64 x1, .string x2, .slice x3 x4 x5, .slice x6 x7 x8] 25)) := (Kept.refl _ _ _).alloc (by omega) _
      have YB : Hid (Blk (wo.alloc (.cells #[.int .i64 x0, .int .i64 x1, .string x2, .slice x3 x4 x5, .slice x6 x7 x8] 25)) wo.heap.size 25 #[.int .i64 x0, .int .i64 x1, .string x2, .slice x3 x4 x5, .slice x6 x7 x8]) := Blk.new wo _ _
      have HBY : Hid (Bld B b (Lib.byteCells X) (wo.alloc (.cells #[.int .i64 x0, .int .i64 x1, .string x2, .slice x3 x4 x5, .slice x6 x7 x8] 25))) := hbl2.out.alloc _
      have hbo := hbl2.out.lt
      by_cases h7 : k = 7
      · have hk7 : (k == 7) = true := by rw [beq_iff_eq]; exact h7
        have hik : i < ks.length := by rw [HKL.out h7]; exact hlt
        obtain ⟨s, hki⟩ : ∃ s, ks[i]? = some s := ⟨_, List.getElem?_eq_getElem hik⟩
        have hss := HSZ.out s (List.mem_of_getElem? hki)
        have hh : (ks.drop i).headD ⟨#[]⟩ = s := by rw [List.drop_eq_getElem_cons hik, (List.getElem?_eq_some_iff.1 hki).2]; rfl
        rw [hh] at hgo
        subst h7
        by_cases hi0 : i = 0
        · have g0 : decide ((0 : Int) < (i : Int)) = false := by simp; omega
          have g1 : decide (0 < i) = false := by simp; omega
          have g2 : ¬ (0 < i) := by omega
          have HI0 := Lib.hid hi0
          clear hi0
          obtain ⟨adk, rfl, hadk, hcl⟩ := cell_str HKS.out hk.out hki
          have q2 : (adk.add i).block < wo.heap.size := by rw [block_of_add]; omega
          have hcl2 : (wo.alloc (.cells #[.int .i64 x0, .int .i64 x1, .string x2, .slice x3 x4 x5, .slice x6 x7 x8] 25)).cell? (adk.add i) = some (.string s) := (KY.1.cell (by rw [block_of_add]; exact hadk)).trans hcl
          go_wp2_with fail
          refine (Wtext_any B b X s _ HBY.out (by first | omega | (simp only [List.length_append, List.length_cons, List.length_nil]; omega)) hss (by first | omega | (simp; omega))).mono ?_; rintro e w1 ⟨rfl, n1, k1⟩
          have M1 := Lib.hid n1
          have KK1 := KY.trans k1
          have Y1 : Hid (Blk w1 wo.heap.size 25 #[.int .i64 x0, .int .i64 x1, .string x2, .slice x3 x4 x5, .slice x6 x7 x8]) := k1.blk (YB.out) (by omega)
          have s1 := KK1.1.size
          clear n1 k1
          have y01 : w1.cell? ⟨wo.heap.size, 0, none⟩ = some (Value.int .i64 x0) := Y1.out.cell 0
          have y11 : w1.cell? ⟨wo.heap.size, 1, none⟩ = some (Value.int .i64 x1) := Y1.out.cell 1
          have y21 : w1.cell? ⟨wo.heap.size, 2, none⟩ = some (Value.string x2) := Y1.out.cell 2
          have y31 : w1.cell? ⟨wo.heap.size, 3, none⟩ = some (Value.slice x3 x4 x5) := Y1.out.cell 3
          have y41 : w1.cell? ⟨wo.heap.size, 4, none⟩ = some (Value.slice x6 x7 x8) := Y1.out.cell 4
          have HXX1 : Hid (Blk w1 w.heap.size 25 #[.int .i64 7, .int .i64 num, .string t, .slice (some adk) ks.length ck, .slice (some ad) ns.length cc]) := KK1.blk hx.out (by omega)
          have cc01 : w1.cell? ⟨w.heap.size, 0, none⟩ = some (.int .i64 7) := HXX1.out.cell 0
          have cc31 : w1.cell? ⟨w.heap.size, 3, none⟩ = some (.slice (some adk) ks.length ck) := HXX1.out.cell 3
          go_wp2_with fail
          refine (wbyte B b (X ++ quoteU s.toList) 58 58 rfl _ M1.out (by have := quoteU_le s.toList; rw [tl_len'] at this; simp only [List.length_append, List.length_cons, List.length_nil]; omega) (by omega)).mono ?_; rintro e w2 ⟨rfl, n2, k2⟩
          have M2 := Lib.hid n2
          have KK2 := KK1.trans k2
          have Y2 : Hid (Blk w2 wo.heap.size 25 #[.int .i64 x0, .int .i64 x1, .string x2, .slice x3 x4 x5, .slice x6 x7 x8]) := k2.blk (Y1.out) (by omega)
          have s2 := KK2.1.size
          clear n2 k2
          have y02 : w2.cell? ⟨wo.heap.size, 0, none⟩ = some (Value.int .i64 x0) := Y2.out.cell 0
          have y12 : w2.cell? ⟨wo.heap.size, 1, none⟩ = some (Value.int .i64 x1) := Y2.out.cell 1
          have y22 : w2.cell? ⟨wo.heap.size, 2, none⟩ = some (Value.string x2) := Y2.out.cell 2
          have y32 : w2.cell? ⟨wo.heap.size, 3, none⟩ = some (Value.slice x3 x4 x5) := Y2.out.cell 3
          have y42 : w2.cell? ⟨wo.heap.size, 4, none⟩ = some (Value.slice x6 x7 x8) := Y2.out.cell 4
          have HXX2 : Hid (Blk w2 w.heap.size 25 #[.int .i64 7, .int .i64 num, .string t, .slice (some adk) ks.length ck, .slice (some ad) ns.length cc]) := KK2.blk hx.out (by omega)
          have cc02 : w2.cell? ⟨w.heap.size, 0, none⟩ = some (.int .i64 7) := HXX2.out.cell 0
          have cc32 : w2.cell? ⟨w.heap.size, 3, none⟩ = some (.slice (some adk) ks.length ck) := HXX2.out.cell 3
          go_wp2_with fail
          have HNC := HIH.out i n HNI.out [.int .i64 x0, .int .i64 x1, .string x2, .slice x3 x4 x5, .slice x6 x7 x8] ((X ++ quoteU s.toList) ++ [58]) _ (NdIs.keep (fun p hp => KK2.1.cell hp) _ _ HND.out) M2.out ((HT.out.kept hk.out).kept KK2) (by omega) HGD.out (by have := quoteU_le s.toList; rw [tl_len'] at this; simp only [List.length_append, List.length_cons, List.length_nil]; omega)
          refine (HNC : Calls _ _ _ _ _).mono ?_; rintro e w9 ⟨rfl, n9, k9⟩
          have K9 := hk.out.trans (KK2.trans k9)
          have X9 : Blk w9 w.heap.size 25 #[.int .i64 7, .int .i64 num, .string t, .slice (some adk) ks.length ck, .slice (some ad) ns.length cc] := (KK2.trans k9).blk hx.out (by omega)
          have N9 := Lib.hid n9
          have HL9 := outN_le n ((X ++ quoteU s.toList) ++ [58]) HGD.out
          have z9 : w.heap.size < w9.heap.size := X9.lt
          have HK9 := Lib.hid K9
          have HX9 := Lib.hid X9
          clear K9 X9 n9 HNC
          have HVV : Hid (V = outL ((7 : Int) == 7) (ks.drop (i + 1)) (ns.drop (i + 1)) (decide (i + 1 = 0)) (outN n ((X ++ quoteU s.toList) ++ [58]))) := by
            show _ = _
            rw [hv.out, outL_at ((7 : Int) == 7) ks ns i n s _ _ HNI.out (fun _ => hki), hk7]
            have hi0 := HI0.out
            simp [hi0]
          have hln : (outN n ((X ++ quoteU s.toList) ++ [58])).length + 1 + gL (ks.drop (i + 1)) (ns.drop (i + 1)) ≤ 100000000000000 := by
            have := quoteU_le s.toList; rw [tl_len'] at this; simp only [List.length_append, List.length_cons, List.length_nil] at HL9; omega
          have HLN := Lib.hid hln
          clear HL9 hln
          go_wp2_with fail
          go_roundw
          case rel => exact ⟨i + 1, _, by omega, by go_num, HVV, N9, HLN.out, HK9, HX9, z9⟩
          case measure => simp [intOf]; omega
        · have g0 : decide ((0 : Int) < (i : Int)) = true := by simp; omega
          have g1 : decide (0 < i) = true := by simp; omega
          have g2 : (0 < i) := by omega
          have HI0 := Lib.hid hi0
          clear hi0
          go_wp2_with fail
          refine (wbyte B b X 44 44 rfl _ HBY.out (by omega) (by first | omega | (simp; omega))).mono ?_; rintro e w1 ⟨rfl, n1, k1⟩
          have M1 := Lib.hid n1
          have KK1 := KY.trans k1
          have Y1 : Hid (Blk w1 wo.heap.size 25 #[.int .i64 x0, .int .i64 x1, .string x2, .slice x3 x4 x5, .slice x6 x7 x8]) := k1.blk (YB.out) (by omega)
          have s1 := KK1.1.size
          clear n1 k1
          have y01 : w1.cell? ⟨wo.heap.size, 0, none⟩ = some (Value.int .i64 x0) := Y1.out.cell 0
          have y11 : w1.cell? ⟨wo.heap.size, 1, none⟩ = some (Value.int .i64 x1) := Y1.out.cell 1
          have y21 : w1.cell? ⟨wo.heap.size, 2, none⟩ = some (Value.string x2) := Y1.out.cell 2
          have y31 : w1.cell? ⟨wo.heap.size, 3, none⟩ = some (Value.slice x3 x4 x5) := Y1.out.cell 3
          have y41 : w1.cell? ⟨wo.heap.size, 4, none⟩ = some (Value.slice x6 x7 x8) := Y1.out.cell 4
          have HXX1 : Hid (Blk w1 w.heap.size 25 #[.int .i64 7, .int .i64 num, .string t, .slice A ks.length ck, .slice (some ad) ns.length cc]) := KK1.blk hx.out (by omega)
          have cc01 : w1.cell? ⟨w.heap.size, 0, none⟩ = some (.int .i64 7) := HXX1.out.cell 0
          have cc31 : w1.cell? ⟨w.heap.size, 3, none⟩ = some (.slice A ks.length ck) := HXX1.out.cell 3
          obtain ⟨adk, rfl, hadk, hcl⟩ := cell_str HKS.out (hk.out.trans KK1) hki
          go_wp2_with fail
          refine (Wtext_any B b (X ++ [44]) s _ M1.out (by first | omega | (simp only [List.length_append, List.length_cons, List.length_nil]; omega)) hss (by omega)).mono ?_; rintro e w2 ⟨rfl, n2, k2⟩
          have M2 := Lib.hid n2
          have KK2 := KK1.trans k2
          have Y2 : Hid (Blk w2 wo.heap.size 25 #[.int .i64 x0, .int .i64 x1, .string x2, .slice x3 x4 x5, .slice x6 x7 x8]) := k2.blk (Y1.out) (by omega)
          have s2 := KK2.1.size
          clear n2 k2
          have y02 : w2.cell? ⟨wo.heap.size, 0, none⟩ = some (Value.int .i64 x0) := Y2.out.cell 0
          have y12 : w2.cell? ⟨wo.heap.size, 1, none⟩ = some (Value.int .i64 x1) := Y2.out.cell 1
          have y22 : w2.cell? ⟨wo.heap.size, 2, none⟩ = some (Value.string x2) := Y2.out.cell 2
          have y32 : w2.cell? ⟨wo.heap.size, 3, none⟩ = some (Value.slice x3 x4 x5) := Y2.out.cell 3
          have y42 : w2.cell? ⟨wo.heap.size, 4, none⟩ = some (Value.slice x6 x7 x8) := Y2.out.cell 4
          have HXX2 : Hid (Blk w2 w.heap.size 25 #[.int .i64 7, .int .i64 num, .string t, .slice (some adk) ks.length ck, .slice (some ad) ns.length cc]) := KK2.blk hx.out (by omega)
          have cc02 : w2.cell? ⟨w.heap.size, 0, none⟩ = some (.int .i64 7) := HXX2.out.cell 0
          have cc32 : w2.cell? ⟨w.heap.size, 3, none⟩ = some (.slice (some adk) ks.length ck) := HXX2.out.cell 3
          go_wp2_with fail
          refine (wbyte B b ((X ++ [44]) ++ quoteU s.toList) 58 58 rfl _ M2.out (by have := quoteU_le s.toList; rw [tl_len'] at this; simp only [List.length_append, List.length_cons, List.length_nil]; omega) (by omega)).mono ?_; rintro e w3 ⟨rfl, n3, k3⟩
          have M3 := Lib.hid n3
          have KK3 := KK2.trans k3
          have Y3 : Hid (Blk w3 wo.heap.size 25 #[.int .i64 x0, .int .i64 x1, .string x2, .slice x3 x4 x5, .slice x6 x7 x8]) := k3.blk (Y2.out) (by omega)
          have s3 := KK3.1.size
          clear n3 k3
          have y03 : w3.cell? ⟨wo.heap.size, 0, none⟩ = some (Value.int .i64 x0) := Y3.out.cell 0
          have y13 : w3.cell? ⟨wo.heap.size, 1, none⟩ = some (Value.int .i64 x1) := Y3.out.cell 1
          have y23 : w3.cell? ⟨wo.heap.size, 2, none⟩ = some (Value.string x2) := Y3.out.cell 2
          have y33 : w3.cell? ⟨wo.heap.size, 3, none⟩ = some (Value.slice x3 x4 x5) := Y3.out.cell 3
          have y43 : w3.cell? ⟨wo.heap.size, 4, none⟩ = some (Value.slice x6 x7 x8) := Y3.out.cell 4
          have HXX3 : Hid (Blk w3 w.heap.size 25 #[.int .i64 7, .int .i64 num, .string t, .slice (some adk) ks.length ck, .slice (some ad) ns.length cc]) := KK3.blk hx.out (by omega)
          have cc03 : w3.cell? ⟨w.heap.size, 0, none⟩ = some (.int .i64 7) := HXX3.out.cell 0
          have cc33 : w3.cell? ⟨w.heap.size, 3, none⟩ = some (.slice (some adk) ks.length ck) := HXX3.out.cell 3
          go_wp2_with fail
          have HNC := HIH.out i n HNI.out [.int .i64 x0, .int .i64 x1, .string x2, .slice x3 x4 x5, .slice x6 x7 x8] (((X ++ [44]) ++ quoteU s.toList) ++ [58]) _ (NdIs.keep (fun p hp => KK3.1.cell hp) _ _ HND.out) M3.out ((HT.out.kept hk.out).kept KK3) (by omega) HGD.out (by have := quoteU_le s.toList; rw [tl_len'] at this; simp only [List.length_append, List.length_cons, List.length_nil]; omega)
          refine (HNC : Calls _ _ _ _ _).mono ?_; rintro e w9 ⟨rfl, n9, k9⟩
          have K9 := hk.out.trans (KK3.trans k9)
          have X9 : Blk w9 w.heap.size 25 #[.int .i64 7, .int .i64 num, .string t, .slice (some adk) ks.length ck, .slice (some ad) ns.length cc] := (KK3.trans k9).blk hx.out (by omega)
          have N9 := Lib.hid n9
          have HL9 := outN_le n (((X ++ [44]) ++ quoteU s.toList) ++ [58]) HGD.out
          have z9 : w.heap.size < w9.heap.size := X9.lt
          have HK9 := Lib.hid K9
          have HX9 := Lib.hid X9
          clear K9 X9 n9 HNC
          have HVV : Hid (V = outL ((7 : Int) == 7) (ks.drop (i + 1)) (ns.drop (i + 1)) (decide (i + 1 = 0)) (outN n (((X ++ [44]) ++ quoteU s.toList) ++ [58]))) := by
            show _ = _
            rw [hv.out, outL_at ((7 : Int) == 7) ks ns i n s _ _ HNI.out (fun _ => hki), hk7]
            have hi0 := HI0.out
            simp [hi0]
          have hln : (outN n (((X ++ [44]) ++ quoteU s.toList) ++ [58])).length + 1 + gL (ks.drop (i + 1)) (ns.drop (i + 1)) ≤ 100000000000000 := by
            have := quoteU_le s.toList; rw [tl_len'] at this; simp only [List.length_append, List.length_cons, List.length_nil] at HL9; omega
          have HLN := Lib.hid hln
          clear HL9 hln
          go_wp2_with fail
          go_roundw
          case rel => exact ⟨i + 1, _, by omega, by go_num, HVV, N9, HLN.out, HK9, HX9, z9⟩
          case measure => simp [intOf]; omega
      · have hk7 : (k == 7) = false := by rw [beq_eq_false_iff_ne]; exact h7
        by_cases hi0 : i = 0
        · have g0 : decide ((0 : Int) < (i : Int)) = false := by simp; omega
          have g1 : decide (0 < i) = false := by simp; omega
          have g2 : ¬ (0 < i) := by omega
          have HI0 := Lib.hid hi0
          clear hi0
          go_wp2_with fail
          have HNC := HIH.out i n HNI.out [.int .i64 x0, .int .i64 x1, .string x2, .slice x3 x4 x5, .slice x6 x7 x8] X _ (NdIs.keep (fun p hp => KY.1.cell hp) _ _ HND.out) HBY.out ((HT.out.kept hk.out).kept KY) (by first | omega | (simp; omega)) HGD.out (by first | omega | (simp only [List.length_append, List.length_cons, List.length_nil]; omega))
          refine (HNC : Calls _ _ _ _ _).mono ?_; rintro e w9 ⟨rfl, n9, k9⟩
          have K9 := hk.out.trans (KY.trans k9)
          have X9 : Blk w9 w.heap.size 25 #[.int .i64 k, .int .i64 num, .string t, .slice A ks.length ck, .slice (some ad) ns.length cc] := (KY.trans k9).blk hx.out (by omega)
          have N9 := Lib.hid n9
          have HL9 := outN_le n X HGD.out
          have z9 : w.heap.size < w9.heap.size := X9.lt
          have HK9 := Lib.hid K9
          have HX9 := Lib.hid X9
          clear K9 X9 n9 HNC
          have HVV : Hid (V = outL (k == 7) (ks.drop (i + 1)) (ns.drop (i + 1)) (decide (i + 1 = 0)) (outN n X)) := by
            show _ = _
            rw [hv.out, outL_at (k == 7) ks ns i n ⟨#[]⟩ _ _ HNI.out (fun h => by rw [hk7] at h; cases h), hk7]
            have hi0 := HI0.out
            simp [hi0]
          have hln : (outN n X).length + 1 + gL (ks.drop (i + 1)) (ns.drop (i + 1)) ≤ 100000000000000 := by
            first | omega | (simp only [List.length_append, List.length_cons, List.length_nil] at HL9; omega)
          have HLN := Lib.hid hln
          clear HL9 hln
          go_wp2_with fail
          go_roundw
          case rel => exact ⟨i + 1, _, by omega, by go_num, HVV, N9, HLN.out, HK9, HX9, z9⟩
          case measure => simp [intOf]; omega
        · have g0 : decide ((0 : Int) < (i : Int)) = true := by simp; omega
          have g1 : decide (0 < i) = true := by simp; omega
          have g2 : (0 < i) := by omega
          have HI0 := Lib.hid hi0
          clear hi0
          go_wp2_with fail
          refine (wbyte B b X 44 44 rfl _ HBY.out (by omega) (by first | omega | (simp; omega))).mono ?_; rintro e w1 ⟨rfl, n1, k1⟩
          have M1 := Lib.hid n1
          have KK1 := KY.trans k1
          have Y1 : Hid (Blk w1 wo.heap.size 25 #[.int .i64 x0, .int .i64 x1, .string x2, .slice x3 x4 x5, .slice x6 x7 x8]) := k1.blk (YB.out) (by omega)
          have s1 := KK1.1.size
          clear n1 k1
          have y01 : w1.cell? ⟨wo.heap.size, 0, none⟩ = some (Value.int .i64 x0) := Y1.out.cell 0
          have y11 : w1.cell? ⟨wo.heap.size, 1, none⟩ = some (Value.int .i64 x1) := Y1.out.cell 1
          have y21 : w1.cell? ⟨wo.heap.size, 2, none⟩ = some (Value.string x2) := Y1.out.cell 2
          have y31 : w1.cell? ⟨wo.heap.size, 3, none⟩ = some (Value.slice x3 x4 x5) := Y1.out.cell 3
          have y41 : w1.cell? ⟨wo.heap.size, 4, none⟩ = some (Value.slice x6 x7 x8) := Y1.out.cell 4
          have HXX1 : Hid (Blk w1 w.heap.size 25 #[.int .i64 k, .int .i64 num, .string t, .slice A ks.length ck, .slice (some ad) ns.length cc]) := KK1.blk hx.out (by omega)
          have cc01 : w1.cell? ⟨w.heap.size, 0, none⟩ = some (.int .i64 k) := HXX1.out.cell 0
          have cc31 : w1.cell? ⟨w.heap.size, 3, none⟩ = some (.slice A ks.length ck) := HXX1.out.cell 3
          go_wp2_with fail
          have HNC := HIH.out i n HNI.out [.int .i64 x0, .int .i64 x1, .string x2, .slice x3 x4 x5, .slice x6 x7 x8] (X ++ [44]) _ (NdIs.keep (fun p hp => KK1.1.cell hp) _ _ HND.out) M1.out ((HT.out.kept hk.out).kept KK1) (by omega) HGD.out (by first | omega | (simp only [List.length_append, List.length_cons, List.length_nil]; omega))
          refine (HNC : Calls _ _ _ _ _).mono ?_; rintro e w9 ⟨rfl, n9, k9⟩
          have K9 := hk.out.trans (KK1.trans k9)
          have X9 : Blk w9 w.heap.size 25 #[.int .i64 k, .int .i64 num, .string t, .slice A ks.length ck, .slice (some ad) ns.length cc] := (KK1.trans k9).blk hx.out (by omega)
          have N9 := Lib.hid n9
          have HL9 := outN_le n (X ++ [44]) HGD.out
          have z9 : w.heap.size < w9.heap.size := X9.lt
          have HK9 := Lib.hid K9
          have HX9 := Lib.hid X9
          clear K9 X9 n9 HNC
          have HVV : Hid (V = outL (k == 7) (ks.drop (i + 1)) (ns.drop (i + 1)) (decide (i + 1 = 0)) (outN n (X ++ [44]))) := by
            show _ = _
            rw [hv.out, outL_at (k == 7) ks ns i n ⟨#[]⟩ _ _ HNI.out (fun h => by rw [hk7] at h; cases h), hk7]
            have hi0 := HI0.out
            simp [hi0]
          have hln : (outN n (X ++ [44])).length + 1 + gL (ks.drop (i + 1)) (ns.drop (i + 1)) ≤ 100000000000000 := by
            first | omega | (simp only [List.length_append, List.length_cons, List.length_nil] at HL9; omega)
          have HLN := Lib.hid hln
          clear HL9 hln
          go_wp2_with fail
          go_roundw
          case rel => exact ⟨i + 1, _, by omega, by go_num, HVV, N9, HLN.out, HK9, HX9, z9⟩
          case measure => simp [intOf]; omega
    · have HE : Hid (V = X) := by
        show _ = _
        rw [hv.out, List.drop_eq_nil_of_le (show ns.length ≤ i by omega)]
        unfold outL; rfl
      have hlx : X.length + 1 ≤ 100000000000000 := by omega
      go_wp2_with fail
      refine (wbyte B b X _ rb rfl _ hbl2.out (by omega) (by omega)).mono ?_; rintro e w2 ⟨rfl, n2, k2⟩
      have N2 := Lib.hid n2
      clear n2
      go_wp2_with fail
      go_end0
      exact ⟨rfl, by rw [HE.out]; exact N2.out, hk.out.trans k2⟩
end Go.Proofs.YtofkdeojabongaaDoor
