/- Texts of one seat, one behind the other: Cq1, Cq2, NdOpen. No condition. -/
import Derived.Test.YthbjehbpanhdoaaDoorL10
import Derived.Deep.Slices
import Derived.ReadAgain
import Derived.ChangeReads
import Derived.ProofKit
import Derived.OpenShut
namespace Go.Proofs.YthbjehbpanhdoaaDoor
open Go.RowKit Go.PlainAid
set_option linter.unusedVariables false
set_option linter.unusedSimpArgs false
def DoneQ (m : Int) (w : World) (D : Nat) : Prop := ∃ xs, Reads w w.heap.size 7 (some ⟨D, 0, none⟩) (doneP m).length xs ∧ ClsIs w w.heap.size (doneP m) xs
theorem DoneQ.below {m : Int} {w w' : World} {D : Nat} (h : DoneQ m w D) (hb : Below w.heap.size w w') : DoneQ m w' D := by
  obtain ⟨xs, h1, h2⟩ := h
  exact ⟨xs, (h1.keep fun p hp => hb.cell hp).more hb.size, ClsIs.more hb.size _ _ (h2.below hb)⟩
theorem DoneQ.new {m : Int} {w : World} {t : TypeId} {c0 c1 : Int} {c2 : ByteArray} {c3 : Option Addr} {c4 c5 : Nat} {c6 : Option Addr} {c7 c8 : Nat} {d0 d1 : Int} {d2 : ByteArray} {d3 : Option Addr} {d4 d5 : Nat} {d6 : Option Addr} {d7 d8 : Nat} {e0 e1 : Int} {e2 : ByteArray} {e3 : Option Addr} {e4 e5 : Nat} {e6 : Option Addr} {e7 e8 : Nat}
    (h1 : NdIs w w.heap.size eObj [.int .i64 c0, .int .i64 c1, .string c2, .slice c3 c4 c5, .slice c6 c7 c8]) (h2 : NdIs w w.heap.size (vN m) [.int .i64 d0, .int .i64 d1, .string d2, .slice d3 d4 d5, .slice d6 d7 d8]) (h3 : NdIs w w.heap.size eObj [.int .i64 e0, .int .i64 e1, .string e2, .slice e3 e4 e5, .slice e6 e7 e8]) :
    DoneQ m (w.alloc (.cells #[.string ⟨#[109]⟩, .int .i64 c0, .int .i64 c1, .string c2, .slice c3 c4 c5, .slice c6 c7 c8, .string ⟨#[99]⟩, .string ⟨#[109]⟩, .int .i64 d0, .int .i64 d1, .string d2, .slice d3 d4 d5, .slice d6 d7 d8, .string ⟨#[99]⟩, .string ⟨#[111, 116, 104, 101, 114]⟩, .int .i64 e0, .int .i64 e1, .string e2, .slice e3 e4 e5, .slice e6 e7 e8, .string ⟨#[99]⟩] t)) w.heap.size := by
  have hal : Below w.heap.size w (w.alloc (.cells #[.string ⟨#[109]⟩, .int .i64 c0, .int .i64 c1, .string c2, .slice c3 c4 c5, .slice c6 c7 c8, .string ⟨#[99]⟩, .string ⟨#[109]⟩, .int .i64 d0, .int .i64 d1, .string d2, .slice d3 d4 d5, .slice d6 d7 d8, .string ⟨#[99]⟩, .string ⟨#[111, 116, 104, 101, 114]⟩, .int .i64 e0, .int .i64 e1, .string e2, .slice e3 e4 e5, .slice e6 e7 e8, .string ⟨#[99]⟩] t)) := (Below.refl _ _).alloc (Nat.le_refl _) _
  refine ⟨[.string ⟨#[109]⟩, .int .i64 c0, .int .i64 c1, .string c2, .slice c3 c4 c5, .slice c6 c7 c8, .string ⟨#[99]⟩, .string ⟨#[109]⟩, .int .i64 d0, .int .i64 d1, .string d2, .slice d3 d4 d5, .slice d6 d7 d8, .string ⟨#[99]⟩, .string ⟨#[111, 116, 104, 101, 114]⟩, .int .i64 e0, .int .i64 e1, .string e2, .slice e3 e4 e5, .slice e6 e7 e8, .string ⟨#[99]⟩], fresh_rows w t 7 3 _ rfl _ (by simp), ?_⟩
  unfold doneP ClsIs
  refine ⟨[.int .i64 c0, .int .i64 c1, .string c2, .slice c3 c4 c5, .slice c6 c7 c8], [.string ⟨#[109]⟩, .int .i64 d0, .int .i64 d1, .string d2, .slice d3 d4 d5, .slice d6 d7 d8, .string ⟨#[99]⟩, .string ⟨#[111, 116, 104, 101, 114]⟩, .int .i64 e0, .int .i64 e1, .string e2, .slice e3 e4 e5, .slice e6 e7 e8, .string ⟨#[99]⟩], rfl, h1.step hal, ?_⟩
  unfold ClsIs
  refine ⟨[.int .i64 d0, .int .i64 d1, .string d2, .slice d3 d4 d5, .slice d6 d7 d8], [.string ⟨#[111, 116, 104, 101, 114]⟩, .int .i64 e0, .int .i64 e1, .string e2, .slice e3 e4 e5, .slice e6 e7 e8, .string ⟨#[99]⟩], rfl, h2.step hal, ?_⟩
  unfold ClsIs
  refine ⟨[.int .i64 e0, .int .i64 e1, .string e2, .slice e3 e4 e5, .slice e6 e7 e8], [], rfl, h3.step hal, by unfold ClsIs; rfl⟩
theorem alloc_lt_ (w : World) (o : Obj) : w.heap.size < (w.alloc o).heap.size := by simp
theorem lit_of {s : ByteArray} {l : List UInt8} (h : s.toList = l) : s = ⟨l.toArray⟩ := by
  rw [ByteArray.toList_eq] at h
  apply ByteArray.ext
  rw [← h]
theorem keep5 {w w' : World} {g : Nat} {v0 v1 v2 v3 v4 : Value} (h : w.cell? ⟨g, 0, none⟩ = some v0 ∧ w.cell? ⟨g, 1, none⟩ = some v1 ∧ w.cell? ⟨g, 2, none⟩ = some v2 ∧ w.cell? ⟨g, 3, none⟩ = some v3 ∧ w.cell? ⟨g, 4, none⟩ = some v4) (hb : Below w.heap.size w w') : w'.cell? ⟨g, 0, none⟩ = some v0 ∧ w'.cell? ⟨g, 1, none⟩ = some v1 ∧ w'.cell? ⟨g, 2, none⟩ = some v2 ∧ w'.cell? ⟨g, 3, none⟩ = some v3 ∧ w'.cell? ⟨g, 4, none⟩ = some v4 := by
  obtain ⟨h1, h2, h3, h4, h5⟩ := h
  have f : ∀ (p : Addr) (v : Value), w.cell? p = some v → w'.cell? p = some v := fun p v h => (hb.cell (World.block_lt_of_cell? _ _ h)).trans h
  exact ⟨f _ _ h1, f _ _ h2, f _ _ h3, f _ _ h4, f _ _ h5⟩
theorem own_empty (w : World) (t : TypeId) (z : Nat) : (w.alloc (.cells #[] t)).ownsRow w.heap.size t z (.slice (some ⟨w.heap.size, 0, none⟩) 0 0) 0 [] :=
  ⟨by simp, .inr ⟨w.heap.size, 0, #[], rfl, Nat.le_refl _, Blk.new w t #[], Nat.le_refl _, Nat.zero_le _, by simp, by simp⟩⟩
theorem grownB {W w w' : World} {r : Option Nat} (h : Below W.heap.size W w) (hg : w.grownBy w' r) (hr : ∀ g, r = some g → W.heap.size ≤ g) : Below W.heap.size W w' := h.grown hg h.size hr
theorem wpList_copyStrs (w : World) {ops : Array Oper} {rest : List Oper} {o : Oper} {a : Act} {Q : Exit → Act → World → Prop} (hgd : o.guard = none) (s x : Operand)
    (ho : o.op = .call { callee := .builtin .append, args := #[s, x], argTypes := #[22, 22] })
    (hs : a.eval s = .slice (some ⟨w.heap.size, 0, none⟩) 0 0) (B2 : Nat) (A : Option Addr) (m c : Nat) (l : List ByteArray) (hr : Reads w B2 1 A m (l.map Value.string)) (hB : B2 ≤ w.heap.size)
    (hx : a.eval x = .slice A m c) (hlim : m ≤ 1000000)
    (h : ∀ A2 c2 w', w'.ownsRow w.heap.size 9 1 (.slice A2 m c2) m (l.map Value.string) → Below w.heap.size w w' → wpList Tryd.prog ops Q rest (a.put o.dst (.slice A2 m c2)) w') :
    wpList Tryd.prog ops Q (o :: rest) a (w.alloc (.cells #[] 9)) := by
  have hal : Below w.heap.size w (w.alloc (.cells #[] 9)) := (Below.refl _ _).alloc (Nat.le_refl _) _
  obtain ⟨i0, hi0, hz0, hz1, hz2⟩ := info_parts strInfo
  refine wpList_plain hgd fun K hK => ?_
  obtain ⟨v', w', h1, h2, h3, h4⟩ := run_append_any (P := Tryd.prog) _ w.heap.size 22 o.type 9 i0 _ 1 16 Tryd.underlying22 hi0 hz0 hz1 hz2 rfl (by omega) _ 0 [] (own_empty w 9 1) B2 A m c _ (hr.keep fun p hp => hal.cell (by omega))
    (fun u hu => by obtain ⟨y, _, rfl⟩ := List.mem_map.1 hu; rfl) (by simp only [maxLen]; omega) (by omega) hal.size
  unfold Oper.wp execOp
  simp only [ho, resolve, invoke, builtin, Sem.run_bind, Sem.run_pure, Result.andThen_ok, List.map_toArray, List.map_cons, List.map_nil, hs, hx, h1]
  rw [Nat.zero_add, List.nil_append] at h2
  obtain ⟨A2, c2, rfl⟩ := own_form h2
  exact hK _ _ (h A2 c2 w' h2 (grownB hal h3 (fun g hg => by simp [Value.ownBlock] at hg; omega)))
theorem wpList_copyNds (w : World) {ops : Array Oper} {rest : List Oper} {o : Oper} {a : Act} {Q : Exit → Act → World → Prop} (hgd : o.guard = none) (s x : Operand)
    (ho : o.op = .call { callee := .builtin .append, args := #[s, x], argTypes := #[23, 23] })
    (hs : a.eval s = .slice (some ⟨w.heap.size, 0, none⟩) 0 0) (B2 : Nat) (A : Option Addr) (m c : Nat) (ys : List Value) (hr : Reads w B2 5 A m ys) (h1 : ∀ u ∈ ys, u.oneCell' = true) (hB : B2 ≤ w.heap.size)
    (hx : a.eval x = .slice A m c) (hlim : m ≤ 1000000)
    (h : ∀ A2 c2 w', w'.ownsRow w.heap.size 25 5 (.slice A2 m c2) m ys → Below w.heap.size w w' → wpList Tryd.prog ops Q rest (a.put o.dst (.slice A2 m c2)) w') :
    wpList Tryd.prog ops Q (o :: rest) a (w.alloc (.cells #[] 25)) := by
  have hal : Below w.heap.size w (w.alloc (.cells #[] 25)) := (Below.refl _ _).alloc (Nat.le_refl _) _
  obtain ⟨i0, hi0, hz0, hz1, hz2⟩ := info_parts nodeInfo
  refine wpList_plain hgd fun K hK => ?_
  obtain ⟨v', w', k1, h2, h3, h4⟩ := run_append_any (P := Tryd.prog) _ w.heap.size 23 o.type 25 i0 _ 5 80 Tryd.underlying23 hi0 hz0 hz1 hz2 rfl (by omega) _ 0 [] (own_empty w 25 5) B2 A m c _ (hr.keep fun p hp => hal.cell (by omega))
    h1 (by simp only [maxLen]; omega) (by omega) hal.size
  unfold Oper.wp execOp
  simp only [ho, resolve, invoke, builtin, Sem.run_bind, Sem.run_pure, Result.andThen_ok, List.map_toArray, List.map_cons, List.map_nil, hs, hx, k1]
  rw [Nat.zero_add, List.nil_append] at h2
  obtain ⟨A2, c2, rfl⟩ := own_form h2
  exact hK _ _ (h A2 c2 w' h2 (grownB hal h3 (fun g hg => by simp [Value.ownBlock] at hg; omega)))
theorem NdsIs.one {w : World} {B : Nat} : ∀ (ns : List Nd) (ys : List Value), NdsIs w B ns ys → ∀ u ∈ ys, u.oneCell' = true
  | [], ys, h => by unfold NdsIs at h; subst h; intro u hu; cases hu
  | n :: ns, ys, h => by
    unfold NdsIs at h
    obtain ⟨cs, zs, rfl, h1, h2⟩ := h
    obtain ⟨A, ck, A2, c, xs, rfl, -⟩ := h1.open_
    intro u hu
    rw [List.mem_append] at hu
    rcases hu with hu | hu
    · simp at hu; rcases hu with rfl | rfl | rfl | rfl | rfl <;> rfl
    · exact NdsIs.one ns zs h2 u hu
def ReOk (n : Nd) (w : World) (e : Ending) (w' : World) : Prop := ∃ (c0 c1 : Int) (c2 : ByteArray) (c3 : Option Addr) (c4 c5 : Nat) (c6 : Option Addr) (c7 c8 : Nat),
  e = .returned (.tuple #[.agg #[.int .i64 c0, .int .i64 c1, .string c2, .slice c3 c4 c5, .slice c6 c7 c8], .string ⟨#[]⟩]) ∧ NdIs w' w'.heap.size n [.int .i64 c0, .int .i64 c1, .string c2, .slice c3 c4 c5, .slice c6 c7 c8] ∧ Below w.heap.size w w'
theorem ResP.toOk {n : Nd} {w : World} {e : Ending} {w' : World} (h : ResP (.ok n) w e w') : ReOk n w e w' := h
theorem rows_at {w : World} {B n : Nat} {K : Option Addr} {ks : List ByteArray} (h : Reads w B 1 K n (ks.map Value.string)) (hn : 0 < n) : ∃ b o, K = some ⟨b, o, none⟩ ∧ b < B ∧ ∀ (i : Nat) (s : ByteArray), ks[i]? = some s → w.cell? ⟨b, o + i, none⟩ = some (.string s) := by
  obtain ⟨ad, e, hb, hc⟩ := h.2 hn
  have hl : 0 < (ks.map Value.string).length := by rw [h.1]; omega
  have hsp := spot_none (hc 0 _ (List.getElem?_eq_getElem hl))
  obtain ⟨b, o, sp⟩ := ad
  have hs0 : sp = none := by
    unfold Addr.add at hsp
    split at hsp <;> simp_all
  subst hs0
  refine ⟨b, o, e, hb, fun i s hs => ?_⟩
  have h2 := hc i (.string s) (by rw [List.getElem?_map, hs]; rfl)
  rw [show (⟨b, o, none⟩ : Addr).add i = ⟨b, o + i, none⟩ by unfold Addr.add; split <;> simp_all] at h2
  exact h2
theorem arr3_is {w : World} {m : Int} {g : Nat} (hm : I64 m) (h : Reads w w.heap.size 5 (some ⟨g, 0, none⟩) 3 [.int .i64 4, .int .i64 1, .string ⟨#[]⟩, .slice none 0 0, .slice none 0 0, .int .i64 4, .int .i64 m, .string ⟨#[]⟩, .slice none 0 0, .slice none 0 0, .int .i64 4, .int .i64 3, .string ⟨#[]⟩, .slice none 0 0, .slice none 0 0]) : NdIs w w.heap.size (.mk 6 0 ⟨#[]⟩ [] [num4 1, num4 m, num4 3]) [.int .i64 6, .int .i64 0, .string ⟨#[]⟩, .slice none 0 0, .slice (some ⟨g, 0, none⟩) 3 3] := by
  unfold NdIs
  exact ⟨none, 0, _, 3, _, rfl, ⟨rfl, fun h => absurd h (by simp)⟩, h, NdsIs.cons (num4_is 1 (by unfold I64; omega) _ _) (NdsIs.cons (num4_is m hm _ _) (NdsIs.cons (num4_is 3 (by unfold I64; omega) _ _) NdsIs.nil_)), by unfold I64; omega, by unfold I64; omega, by decide, by simp, by simp, by simp [maxLen]⟩
theorem res_doneQ (m : Int) (h1 : -32768 ≤ m) (h2 : m ≤ 32767) (n : Nd) (cs : List Value) (w : World) (D cap : Nat) (hn : NdIs w w.heap.size n cs) (hs : sizeOk n) (hD : DoneQ m w D) (hM : MaxOK w) : Calls Tryd.prog 9 #[.agg cs.toArray, .slice (some ⟨D, 0, none⟩) 3 cap] w (ResP (resN n (doneP m)) w) := by
  obtain ⟨xs, k1, k2⟩ := hD
  exact kResolve_any n (doneP m) _ cap xs cs w _ hn (Nat.le_refl _) hs k1 k2 (by show 3 ≤ 1000000; decide) (doneP_ok m h1 h2) hM
theorem res_nil (n : Nd) (cs : List Value) (w : World) (B : Nat) (hn : NdIs w B n cs) (hB : B ≤ w.heap.size) (hs : sizeOk n) (hM : MaxOK w) : Calls Tryd.prog 9 #[.agg cs.toArray, .slice none 0 0] w (ResP (resN n []) w) :=
  kResolve_any n [] none 0 [] cs w B hn hB hs ⟨rfl, fun h => absurd h (by simp)⟩ (by unfold ClsIs; rfl) (by simp) (fun d hd => by cases hd) hM
set_option maxRecDepth 100000 in
set_option maxHeartbeats 8000000 in
theorem callPlain_main (ks : List ByteArray) (ns : List Nd) (n : Nat) (hkn : ks.length = n) (hnn : ns.length = n) (K A : Option Addr) (kc c : Nat) (m k : Int) (hm1 : -32768 ≤ m) (hm2 : m ≤ 32767) (w : World)
    (ha : NdIs w w.heap.size (.mk 7 0 ⟨#[]⟩ ks ns) [.int .i64 7, .int .i64 0, .string ⟨#[]⟩, .slice K n kc, .slice A n c]) (hg : greatN (.mk 7 0 ⟨#[]⟩ ks ns) = false) (hr : rightD (.mk 7 0 ⟨#[]⟩ ks ns) 0 = true) (hM : MaxOK w) :
    Calls Tryd.prog 4 #[.agg #[.int .i64 7, .int .i64 0, .string ⟨#[]⟩, .slice K n kc, .slice A n c], .int .i16 m, .int .u8 k] w fun e w' => e = .returned (.bool true) ∧ Below w.heap.size w w' := by
  have hA0 : Below w.heap.size w (w.alloc (.cells #[.int .i64 7, .int .i64 0, .string ⟨#[]⟩, .slice K n kc, .slice A n c] 25)) := (Below.refl _ _).alloc (Nat.le_refl _) _
  have hX0 : Blk (w.alloc (.cells #[.int .i64 7, .int .i64 0, .string ⟨#[]⟩, .slice K n kc, .slice A n c] 25)) w.heap.size 25 #[.int .i64 7, .int .i64 0, .string ⟨#[]⟩, .slice K n kc, .slice A n c] := Blk.new _ _ _
  have HGA : Hid (∀ w', Below w.heap.size w w' → Calls Tryd.prog 6 #[.agg #[.int .i64 7, .int .i64 0, .string ⟨#[]⟩, .slice K n kc, .slice A n c]] w' (BoolBel false w')) := fun w' h => by
    have := great_any _ _ w' w.heap.size (ha.below h) h.size
    rw [hg] at this; exact this
  have HRR : Hid (∀ w', Below w.heap.size w w' → Calls Tryd.prog 7 #[.agg #[.int .i64 7, .int .i64 0, .string ⟨#[]⟩, .slice K n kc, .slice A n c]] w' (BoolBel true w')) := fun w' h => by
    have := rRight_any _ _ w' w.heap.size (ha.below h) h.size
    rw [hr] at this; exact this
  have HA := Lib.hid ha
  have HM := Lib.hid hM
  have HSZ := Lib.hid (not_great ha hg).1
  have HGK := Lib.hid (great_keys hg)
  have HR := Lib.hid hr
  have HKN := Lib.hid hkn
  have HNN := Lib.hid hnn
  have hn3 : n ≤ 300 := by have h := (great_keys hg).1; rw [show (Nd.mk 7 0 ⟨#[]⟩ ks ns).keys = ks from rfl, hkn] at h; exact h
  have HRD : Hid (Reads w w.heap.size 1 K n (ks.map Value.string)) := by
    have h := ha
    unfold NdIs at h
    obtain ⟨K1, kc1, A1, c1, xs, he, h1, _⟩ := h
    simp only [List.cons.injEq, Value.slice.injEq, and_true, true_and] at he
    obtain ⟨⟨e1, e2, e3⟩, _⟩ := he
    rw [hkn, ← e1] at h1
    exact h1
  have HRN : Hid (∃ ys, Reads w w.heap.size 5 A n ys ∧ NdsIs w w.heap.size ns ys) := by
    have h := ha
    unfold NdIs at h
    obtain ⟨K1, kc1, A1, c1, xs, he, _, h2, h3, _⟩ := h
    simp only [List.cons.injEq, Value.slice.injEq, and_true, true_and] at he
    obtain ⟨_, e4, e5, e6⟩ := he
    rw [hnn, ← e4] at h2
    exact ⟨xs, h2, h3⟩
  have HMM := Lib.hid (show -32768 ≤ m ∧ m ≤ 32767 from ⟨hm1, hm2⟩)
  have m3 : IntKind.i64.wrap m = m := IntWalk.i64_in _ (by omega)
  clear ha hM hg hr hkn hnn
  go_enter Tryd.func4, Tryd.ntmps4
  go_wp2_with fail
  refine (HGA.out _ hA0).mono ?_; rintro e w1 ⟨rfl, hw1⟩
  have hB1 := nextB hA0 hw1
  have hX1 := hX0.below hw1 hX0.lt
  obtain ⟨y0, y1, y2, y3, y4⟩ := hX1.cells5
  go_wp2_with fail
  refine (HRR.out _ hB1).mono ?_; rintro e w2 ⟨rfl, hw2⟩
  have hB2 := nextB hB1 hw2
  have HB := Lib.hid hB2
  have HX := Lib.hid (hX1.below hw2 hX1.lt)
  clear y0 y1 y2 y3 y4 hA0 hX0 hX1 hB1 hB2 hw1 hw2 HGA HRR
  obtain ⟨y0, y1, y2, y3, y4⟩ := HX.out.cells5
  have G0 : Hid (∀ (j : Nat) (s : ByteArray), j < 0 → ks[j]? = some s → plainK s) := fun j s h => absurd h (by omega)
  go_wp2_with fail
  go_loopw [7] (fun t7 wr => ∃ i : Nat, i ≤ n ∧ t7 = .int .i64 i ∧ Hid (∀ (j : Nat) (s : ByteArray), j < i → ks[j]? = some s → plainK s) ∧ wr = w2) (fun t7 _ => n - (intOf t7).toNat)
  case atStart => exact ⟨0, by omega, rfl, G0, rfl⟩
  case round =>
    clear G0
    obtain ⟨i, hi, rfl, hG, rfl⟩ := hrel
    by_cases hlt : i < n
    · obtain ⟨kb, ko, hK, hkb, hks⟩ := rows_at HRD.out (show 0 < n by omega)
      obtain ⟨s, hs⟩ : ∃ s, ks[i]? = some s := ⟨_, List.getElem?_eq_getElem (by have := HKN.out; omega)⟩
      have hcell : wr.cell? ⟨kb, ko + i, none⟩ = some (.string s) := (HB.out.cell hkb).trans (hks i s hs)
      have HS := Lib.hid hs
      have i0 : (0 : Int) ≤ (i : Int) := by omega
      have i1 : (i : Int) < (n : Int) := by omega
      have hW := HB.out
      have hb := get_bt s
      subst hK
      clear hks hs
      have stop : Calls Tryd.prog 8 #[] wr (BoolBel true wr) := awake26_any _
      have HST := Lib.hid stop
      clear stop
      by_cases hx : s = ⟨#[120]⟩
      · subst hx
        go_wp2_with fail
        refine HST.out.mono ?_; rintro e w3 ⟨rfl, hw3⟩
        have hW := nextB hW hw3
        clear hw3
        go_wp2_with fail
        go_ret
        exact ⟨rfl, hW⟩
      · have hx2 : ¬ s.toList = [120] := fun e => hx (lit_of e)
        by_cases h0 : s = ⟨#[]⟩
        · have HG2 : Hid (∀ (j : Nat) (t : ByteArray), j < i + 1 → ks[j]? = some t → plainK t) := fun j t hj ht => by
            by_cases e : j = i
            · subst e; rw [HS.out] at ht; injection ht with ht; subst ht; exact ⟨hx, hash_no (.inl (by rw [h0]; rfl))⟩
            · exact hG.out j t (by omega) ht
          subst h0
          clear hb hx hx2 HS hW HST
          go_wp2_with fail
          go_roundw
          case rel => exact ⟨i + 1, by omega, by go_num, HG2, trivial⟩
          case measure => simp [intOf]; omega
        · have h02 : ¬ s.toList = [] := fun e => h0 (lit_of e)
          have h03 : s.toList.isEmpty = false := by rw [List.isEmpty_eq_false_iff]; exact h02
          have hx3 : (s.toList == [120]) = false := by rw [beq_eq_false_iff_ne]; exact hx2
          have hsz : 0 < s.size := by
            rcases Nat.eq_zero_or_pos s.size with h | h
            · exfalso; apply h0
              apply ByteArray.ext
              exact Array.eq_empty_of_size_eq_zero h
            · exact h
          by_cases h35 : bt s 0 = 35
          · go_wp2_with fail
            refine HST.out.mono ?_; rintro e w3 ⟨rfl, hw3⟩
            have hW := nextB hW hw3
            clear hw3
            go_wp2_with fail
            go_ret
            exact ⟨rfl, hW⟩
          · have HG2 : Hid (∀ (j : Nat) (t : ByteArray), j < i + 1 → ks[j]? = some t → plainK t) := fun j t hj ht => by
              by_cases e : j = i
              · subst e; rw [HS.out] at ht; injection ht with ht; subst ht; exact ⟨hx, hash_no (.inr h35)⟩
              · exact hG.out j t (by omega) ht
            have h35b : (bt s 0 == 35) = false := by simp [h35]
            clear hW HST HS
            go_wp2_with fail
            go_roundw
            case rel => exact ⟨i + 1, by omega, by go_num, HG2, trivial⟩
            case measure => simp [intOf]; omega
    · obtain rfl : i = n := by omega
      have HP : Hid (∀ k ∈ ks, plainK k) := fun k hk => by
        obtain ⟨j, hj⟩ := List.mem_iff_getElem?.1 hk
        have := (List.getElem?_eq_some_iff.1 hj).1
        exact hG.out j k (by have := HKN.out; omega) hj
      have i1 : ¬ (i : Int) < (i : Int) := by omega
      have HRS : Hid (Calls Tryd.prog 9 #[.agg #[.int .i64 7, .int .i64 0, .string ⟨#[]⟩, .slice K i kc, .slice A i c], .slice none 0 0] wr (ReOk (.mk 7 0 ⟨#[]⟩ ks ns) wr)) := by
        have h := res_nil _ _ wr w.heap.size (HA.out.below HB.out) HB.out.size HSZ.out (HM.out.below HB.out)
        rw [res_plain rfl HR.out HP.out] at h
        exact h.mono fun e w' h => h.toOk
      clear hG hi hlt
      go_wp2_with fail
      refine (HRS.out : Calls _ _ _ _ _).mono ?_; rintro e w3 ⟨c0, c1, c2, c3, c4, c5, c6, c7, c8, rfl, hn3', hb3⟩
      have HN3 : Hid (NdIs w3 w3.heap.size (.mk 7 0 ⟨#[]⟩ ks ns) [.int .i64 c0, .int .i64 c1, .string c2, .slice c3 c4 c5, .slice c6 c7 c8]) := hn3'
      have HB3 := Lib.hid hb3
      clear hn3' hb3 HRS y0 y1 y2 y3 y4
      go_wp2_with fail
      clear i1
      refine (rStr_any _ _).mono ?_; rintro e w4 ⟨rfl, hb4⟩
      have HB4 : Hid (Below w3.heap.size w3 w4) := by first | exact hb4 | exact nextB (bel_alloc (Below.refl _ _)) hb4
      have HB4A := Lib.hid hb4
      clear hb4
      go_wp2_with fail
      refine (rNum_any _ _).mono ?_; rintro e w5 ⟨rfl, hb5⟩
      have HB5 : Hid (Below w4.heap.size w4 w5) := by first | exact hb5 | exact nextB (bel_alloc (Below.refl _ _)) hb5
      clear hb5
      go_wp2_with fail
      refine (rNum_any _ _).mono ?_; rintro e w6 ⟨rfl, hb6⟩
      have HB6 : Hid (Below w5.heap.size w5 w6) := by first | exact hb6 | exact nextB (bel_alloc (Below.refl _ _)) hb6
      clear hb6
      go_wp2_with fail
      refine (rNum_any _ _).mono ?_; rintro e w7 ⟨rfl, hb7⟩
      have HB7 : Hid (Below w6.heap.size w6 w7) := by first | exact hb7 | exact nextB (bel_alloc (Below.refl _ _)) hb7
      clear hb7
      go_wp2_with fail
      refine (rArr_any _ _ _ _).mono ?_; rintro e w8 ⟨rfl, hb8⟩
      have HB8 : Hid (Below w7.heap.size w7 w8) := by first | exact hb8 | exact nextB (bel_alloc (Below.refl _ _)) hb8
      have HBA8 := Lib.hid hb8
      clear hb8
      go_wp2_with fail
      have HAR : Hid (NdIs w8 w8.heap.size (.mk 6 0 ⟨#[]⟩ [] [num4 1, num4 m, num4 3]) [.int .i64 6, .int .i64 0, .string ⟨#[]⟩, .slice none 0 0, .slice (some ⟨w7.heap.size, 0, none⟩) 3 3]) := (arr3_is (by have := HMM.out; unfold I64; omega) (fresh_rows w7 25 5 3 [.int .i64 4, .int .i64 1, .string ⟨#[]⟩, .slice none 0 0, .slice none 0 0, .int .i64 4, .int .i64 m, .string ⟨#[]⟩, .slice none 0 0, .slice none 0 0, .int .i64 4, .int .i64 3, .string ⟨#[]⟩, .slice none 0 0, .slice none 0 0] rfl _ (by simp))).step HBA8.out
      have HO9 := Lib.hid (obj_fresh [strN listS, (.mk 6 0 ⟨#[]⟩ [] [num4 1, num4 m, num4 3])] [.int .i64 5, .int .i64 0, .string ⟨#[108, 105, 115, 116]⟩, .slice none 0 0, .slice none 0 0, .int .i64 6, .int .i64 0, .string ⟨#[]⟩, .slice none 0 0, .slice (some ⟨w7.heap.size, 0, none⟩) 3 3] w8 (NdsIs.cons (strN_is ⟨#[108, 105, 115, 116]⟩ (by decide) _ _) (NdsIs.cons HAR.out NdsIs.nil_)) rfl (by simp) 2)
      refine (HO9.out : Calls _ _ _ _ _).mono ?_; rintro e w9 ⟨d0, d1, d2, d3, d4, d5, d6, d7, d8, rfl, hn9, hb9⟩; have HN9 := Lib.hid hn9; clear hn9 HO9
      have HB9 : Hid (Below w8.heap.size w8 w9) := by first | exact hb9 | exact nextB (bel_alloc (Below.refl _ _)) hb9
      clear hb9
      go_wp2_with fail
      have HAL : Hid (Below w9.heap.size w9 (w9.alloc (.cells #[.int .i64 d0, .int .i64 d1, .string d2, .slice d3 d4 d5, .slice d6 d7 d8] 25))) := bel_alloc (Below.refl _ _)
      have C9 : Hid (Below w9.heap.size w9 w9) := Below.refl _ _
      have C8 := Lib.hid (nextB HB9.out C9.out)
      have C7 := Lib.hid (nextB HB8.out C8.out)
      have C6 := Lib.hid (nextB HB7.out C7.out)
      have C5 := Lib.hid (nextB HB6.out C6.out)
      have C4 := Lib.hid (nextB HB5.out C5.out)
      have C3 := Lib.hid (nextB HB4.out C4.out)
      have CR := Lib.hid (nextB HB3.out C3.out)
      have HBW : Hid (Below w.heap.size w (w9.alloc (.cells #[.int .i64 d0, .int .i64 d1, .string d2, .slice d3 d4 d5, .slice d6 d7 d8] 25))) := nextB (nextB HB.out CR.out) HAL.out
      have HXA : Hid (Blk (w9.alloc (.cells #[.int .i64 d0, .int .i64 d1, .string d2, .slice d3 d4 d5, .slice d6 d7 d8] 25)) w.heap.size 25 #[.int .i64 7, .int .i64 0, .string ⟨#[]⟩, .slice K i kc, .slice A i c]) := (HX.out.below CR.out HX.out.lt).alloc _
      have HC : Hid (Blk (w9.alloc (.cells #[.int .i64 d0, .int .i64 d1, .string d2, .slice d3 d4 d5, .slice d6 d7 d8] 25)) w3.heap.size 25 #[.int .i64 c0, .int .i64 c1, .string c2, .slice c3 c4 c5, .slice c6 c7 c8]) := ((Blk.new w3 25 #[.int .i64 c0, .int .i64 c1, .string c2, .slice c3 c4 c5, .slice c6 c7 c8]).below (nextB HB4A.out C4.out) (alloc_lt_ _ _)).alloc _
      have HCN : Hid (NdIs (w9.alloc (.cells #[.int .i64 d0, .int .i64 d1, .string d2, .slice d3 d4 d5, .slice d6 d7 d8] 25)) (w9.alloc (.cells #[.int .i64 d0, .int .i64 d1, .string d2, .slice d3 d4 d5, .slice d6 d7 d8] 25)).heap.size (.mk 7 0 ⟨#[]⟩ ks ns) [.int .i64 c0, .int .i64 c1, .string c2, .slice c3 c4 c5, .slice c6 c7 c8]) := (HN3.out.step C3.out).step HAL.out
      have HD : Hid (Blk (w9.alloc (.cells #[.int .i64 d0, .int .i64 d1, .string d2, .slice d3 d4 d5, .slice d6 d7 d8] 25)) w9.heap.size 25 #[.int .i64 d0, .int .i64 d1, .string d2, .slice d3 d4 d5, .slice d6 d7 d8]) := Blk.new _ _ _
      have HDN : Hid (NdIs (w9.alloc (.cells #[.int .i64 d0, .int .i64 d1, .string d2, .slice d3 d4 d5, .slice d6 d7 d8] 25)) (w9.alloc (.cells #[.int .i64 d0, .int .i64 d1, .string d2, .slice d3 d4 d5, .slice d6 d7 d8] 25)).heap.size (vN m) [.int .i64 d0, .int .i64 d1, .string d2, .slice d3 d4 d5, .slice d6 d7 d8]) := HN9.out.step HAL.out
      clear HB HX HN3 HN9 HAR HBA8 HB4A HAL CR HB3 HB4 HB5 HB6 HB7 HB8 HB9 C3 C4 C5 C6 C7 C8 C9
      generalize w9.alloc (.cells #[.int .i64 d0, .int .i64 d1, .string d2, .slice d3 d4 d5, .slice d6 d7 d8] 25) = wA at *
      generalize w3.heap.size = T8 at *
      generalize w9.heap.size = T10 at *
      skip
      have HN : Hid (N5 ⟨T10, 0, none⟩ (.int .i64 d0) (.int .i64 d1) (.string d2) (.slice d3 d4 d5) (.slice d6 d7 d8) wA) := HD.out.cells5
      have T0 := HN
      unfold N5 at T0
      have HB : Hid (Below wA.heap.size wA wA) := Below.refl _ _
      have HOE : Hid (∀ w', Calls Tryd.prog 12 #[.slice none 0 0] w' (ObjP eObj w')) := fun w' => rObj_any [] none 0 [] w' ⟨rfl, fun h => absurd h (by simp)⟩ NdsIs.nil_ (by simp)
      go_wp2_with fail
      go_cut [11] (fun t11 wx => ∃ D : Nat, t11 = .slice (some ⟨D, 0, none⟩) 3 3 ∧ Hid (DoneQ m wx D) ∧ Hid (Below wA.heap.size wA wx))
      case first =>
        go_region_held3 (fun w' => w'.cell? ⟨T10, 0, none⟩ = some (.int .i64 d0) ∧ w'.cell? ⟨T10, 1, none⟩ = some (.int .i64 d1) ∧ w'.cell? ⟨T10, 2, none⟩ = some (.string d2) ∧ w'.cell? ⟨T10, 3, none⟩ = some (.slice d3 d4 d5) ∧ w'.cell? ⟨T10, 4, none⟩ = some (.slice d6 d7 d8)) (first | with_reducible exact T0.out | exact n5_below HN.out (by (repeat (first | with_reducible exact HB.out | with_reducible refine bel_alloc ?_ | with_reducible refine bel_drew ?_)))) (first
          | (go_at_call 12; refine (HOE.out _ : Calls _ _ _ _ _).mono ?_; rintro e w6 ⟨e0, e1, e2, e3, e4, e5, e6, e7, e8, rfl, hn6, hw6⟩; (try (have HE1 := Lib.hid (HE0.out.step hw6))); (have HE0 := Lib.hid hn6); (have HB6 := Lib.hid (nextB (show Below wA.heap.size wA _ from by (repeat (first | with_reducible exact HB.out | with_reducible refine bel_alloc ?_ | with_reducible refine bel_drew ?_))) hw6)); clear HB; (have HB := HB6); clear HB6 hw6 hn6))
        all_goals
          go_wp2_with fail
          go_meet
          refine ⟨_, rfl, ?_, (by (repeat (first | with_reducible exact HB.out | with_reducible refine bel_alloc ?_ | with_reducible refine bel_drew ?_)) : Below wA.heap.size wA _)⟩
          first | exact DoneQ.new HE0.out (HDN.out.step HB.out) HE1.out | exact DoneQ.new HE1.out (HDN.out.step HB.out) HE0.out
      case rest =>
        obtain ⟨D, rfl, hDn, hB⟩ := hcut
        replace HXA := Lib.hid (HXA.out.below hB.out HXA.out.lt)
        replace HC := Lib.hid (HC.out.below hB.out HC.out.lt)
        replace HCN := Lib.hid (HCN.out.step hB.out)
        replace HBW := Lib.hid (nextB HBW.out hB.out)
        clear HD HDN HN T0 HOE hB HB
        obtain ⟨wF, rfl⟩ : ∃ w9 : World, w9 = wc := ⟨_, rfl⟩
        obtain ⟨y0, y1, y2, y3, y4⟩ := HXA.out.cells5
        go_upto_region 12 with fail
        clear y0 y1 y2 y3 y4
        obtain ⟨ys, hys, hns⟩ := HRN.out
        have HYS := Lib.hid hys; have HNS := Lib.hid hns
        clear hys hns HRN
        have HTB : Hid (Blk (wF.alloc (.cells #[.int .i64 7, .int .i64 0, .string ⟨#[]⟩, .slice K i kc, .slice A i c] 25)) wF.heap.size 25 #[.int .i64 7, .int .i64 0, .string ⟨#[]⟩, .slice K i kc, .slice A i c]) := Blk.new _ _ _
        have HFG : Hid (Below wF.heap.size wF (wF.alloc (.cells #[.int .i64 7, .int .i64 0, .string ⟨#[]⟩, .slice K i kc, .slice A i c] 25))) := bel_alloc (Below.refl _ _)
        have HSG : Hid ((wF.alloc (.cells #[.int .i64 7, .int .i64 0, .string ⟨#[]⟩, .slice K i kc, .slice A i c] 25)).heap.size = wF.heap.size + 1) := by show _ = _; simp
        generalize wF.alloc (.cells #[.int .i64 7, .int .i64 0, .string ⟨#[]⟩, .slice K i kc, .slice A i c] 25) = wG at *
        have HBG := Lib.hid (nextB HBW.out HFG.out)
        have HRG : Hid (Reads wG w.heap.size 1 K i (ks.map Value.string)) := HRD.out.keep fun p hp => HBG.out.cell hp
        have HLG := Lib.hid HBG.out.size
        have l3 : (wG.alloc (.cells #[] 9)).cell? ⟨w.heap.size, 3, none⟩ = some (.slice K i kc) := ((HXA.out.below HFG.out HXA.out.lt).alloc _).cell 3
        go_upto_region 13 with (first
          | (at_builtin; refine wpList_copyStrs wG rfl (.tmp 84) (.tmp 86) rfl (by rfl) w.heap.size K i kc ks HRG.out HLG.out (by rfl) (by omega) ?_; intro K1 kc1 wH p1 p2; have HP1 := Lib.hid p1; have HP2 := Lib.hid p2; clear p1 p2)
          | (at_builtin; refine wpList_pushStr wH rfl (.tmp 87) (.tmp 88) rfl wG.heap.size (.slice K1 i kc1) i (ks.map Value.string) (by rfl) HP1.out ⟨#[35, 120]⟩ (by rfl) (by omega) HP2.out.size ?_; intro v5 wI p1 p2 p3; obtain ⟨K2, kc2, rfl⟩ := own_form p1; have HP3 := Lib.hid p1; have HP4 := Lib.hid (grownB (bel_alloc HP2.out) p2 (fun g hg => (own_lt HP1.out hg).1)); clear p1 p2 p3; have HTI := Lib.hid (HTB.out.below HP4.out HTB.out.lt); have l4 := HTI.out.cell 3; have f4 := HTI.out.frozen 3))
        have HTS : Hid (Blk (wI.setCell ⟨wF.heap.size, 3, none⟩ (.slice K2 (i + 1) kc2)) wF.heap.size 25 #[.int .i64 7, .int .i64 0, .string ⟨#[]⟩, .slice K2 (i + 1) kc2, .slice A i c]) := by
          have h := HTI.out.set_ 3 (.slice K2 (i + 1) kc2)
          show Blk _ _ _ _
          simpa using h
        have HKS : Hid ((wI.setCell ⟨wF.heap.size, 3, none⟩ (.slice K2 (i + 1) kc2)).ownsRow wG.heap.size 9 1 (.slice K2 (i + 1) kc2) (i + 1) (ks.map Value.string ++ [.string ⟨#[35, 120]⟩])) := ownsRow_setCell_below HP3.out (a := ⟨wF.heap.size, 3, none⟩) (by have := HSG.out; show wF.heap.size < wG.heap.size; omega) _
        have HFS : Hid (Below wF.heap.size wF (wI.setCell ⟨wF.heap.size, 3, none⟩ (.slice K2 (i + 1) kc2))) := bel_set (nextB HFG.out HP4.out) (Nat.le_refl _)
        have HSG2 : Hid (wF.heap.size < wG.heap.size) := by have := HSG.out; show wF.heap.size < wG.heap.size; omega
        clear l3 l4 f4 HP1 HP2 HP3 HP4 HTI HRG HLG HBG HTB HFG HSG HRD
        generalize wI.setCell ⟨wF.heap.size, 3, none⟩ (.slice K2 (i + 1) kc2) = wJ at *
        have HBJ := Lib.hid (nextB HBW.out HFS.out)
        have HRJ : Hid (Reads wJ w.heap.size 5 A i ys) := HYS.out.keep fun p hp => HBJ.out.cell hp
        have HONE := Lib.hid (NdsIs.one ns ys HNS.out)
        have HLJ := Lib.hid HBJ.out.size
        have l3 : (wJ.alloc (.cells #[] 25)).cell? ⟨w.heap.size, 4, none⟩ = some (.slice A i c) := ((HXA.out.below HFS.out HXA.out.lt).alloc _).cell 4
        go_wp2_with (at_builtin; refine wpList_copyNds wJ rfl (.tmp 91) (.tmp 93) rfl (by rfl) w.heap.size A i c ys HRJ.out HONE.out HLJ.out (by rfl) (by omega) ?_; intro A1 c1' w20 p1 p2; have HP1 := Lib.hid p1; have HP2 := Lib.hid p2; clear p1 p2)
        refine (rStr_any _ _).mono ?_; rintro e w21 ⟨rfl, hb21⟩
        have HB21 : Hid (Below w20.heap.size w20 w21) := by first | exact hb21 | exact nextB (bel_alloc (Below.refl _ _)) hb21
        clear hb21
        go_wp2_with fail
        refine (rStr_any _ _).mono ?_; rintro e w22 ⟨rfl, hb22⟩
        have HB22 : Hid (Below w21.heap.size w21 w22) := by first | exact hb22 | exact nextB (bel_alloc (Below.refl _ _)) hb22
        clear hb22
        go_wp2_with fail
        refine (rStr_any _ _).mono ?_; rintro e w23 ⟨rfl, hb23⟩
        have HB23 : Hid (Below w22.heap.size w22 w23) := by first | exact hb23 | exact nextB (bel_alloc (Below.refl _ _)) hb23
        clear hb23
        go_wp2_with fail
        refine (rStr_any _ _).mono ?_; rintro e w24 ⟨rfl, hb24⟩
        have HB24 : Hid (Below w23.heap.size w23 w24) := by first | exact hb24 | exact nextB (bel_alloc (Below.refl _ _)) hb24
        clear hb24
        go_wp2_with fail
        refine (rStr_any _ _).mono ?_; rintro e w25 ⟨rfl, hb25⟩
        have HB25 : Hid (Below w24.heap.size w24 w25) := by first | exact hb25 | exact nextB (bel_alloc (Below.refl _ _)) hb25
        clear hb25
        go_wp2_with fail
        refine (rStr_any _ _).mono ?_; rintro e w26 ⟨rfl, hb26⟩
        have HB26 : Hid (Below w25.heap.size w25 w26) := by first | exact hb26 | exact nextB (bel_alloc (Below.refl _ _)) hb26
        clear hb26
        go_wp2_with fail
        have C26 : Hid (Below w26.heap.size w26 w26) := Below.refl _ _
        have C25 := Lib.hid (nextB HB26.out C26.out)
        have C24 := Lib.hid (nextB HB25.out C25.out)
        have C23 := Lib.hid (nextB HB24.out C24.out)
        have C22 := Lib.hid (nextB HB23.out C23.out)
        have C21 := Lib.hid (nextB HB22.out C22.out)
        have C20 := Lib.hid (nextB HB21.out C21.out)
        have HO27 := Lib.hid (obj_freshI [strN ⟨#[112, 97, 116, 104]⟩, strN ⟨#[47, 108, 105, 115, 116, 47, 49]⟩, strN ⟨#[110, 97, 109, 101]⟩, strN ⟨#[109]⟩, strN ⟨#[114, 101, 115, 117, 108, 116, 79, 102]⟩, strN ⟨#[99]⟩] [.int .i64 5, .int .i64 0, .string ⟨#[112, 97, 116, 104]⟩, .slice none 0 0, .slice none 0 0, .int .i64 5, .int .i64 0, .string ⟨#[47, 108, 105, 115, 116, 47, 49]⟩, .slice none 0 0, .slice none 0 0, .int .i64 5, .int .i64 0, .string ⟨#[110, 97, 109, 101]⟩, .slice none 0 0, .slice none 0 0, .int .i64 5, .int .i64 0, .string ⟨#[109]⟩, .slice none 0 0, .slice none 0 0, .int .i64 5, .int .i64 0, .string ⟨#[114, 101, 115, 117, 108, 116, 79, 102]⟩, .slice none 0 0, .slice none 0 0, .int .i64 5, .int .i64 0, .string ⟨#[99]⟩, .slice none 0 0, .slice none 0 0] w26 (NdsIs.cons (strN_is ⟨#[112, 97, 116, 104]⟩ (by decide) _ _) (NdsIs.cons (strN_is ⟨#[47, 108, 105, 115, 116, 47, 49]⟩ (by decide) _ _) (NdsIs.cons (strN_is ⟨#[110, 97, 109, 101]⟩ (by decide) _ _) (NdsIs.cons (strN_is ⟨#[109]⟩ (by decide) _ _) (NdsIs.cons (strN_is ⟨#[114, 101, 115, 117, 108, 116, 79, 102]⟩ (by decide) _ _) (NdsIs.cons (strN_is ⟨#[99]⟩ (by decide) _ _) (NdsIs.nil_))))))) rfl (by simp) 6)
        refine (HO27.out : Calls _ _ _ _ _).mono ?_; rintro e w27 ⟨f0, f1, f2, f3, f4, f5, f6, f7, f8, rfl, hn27, hb27, hf3, hf6⟩
        have HN27 : Hid (NdIs w27 w27.heap.size refP [.int .i64 f0, .int .i64 f1, .string f2, .slice f3 f4 f5, .slice f6 f7 f8]) := hn27
        have HB27 : Hid (Below w26.heap.size w26 w27) := nextB (bel_alloc (Below.refl _ _)) hb27
        have HF3 : Hid (∀ ad, f3 = some ad ∨ f6 = some ad → w26.heap.size ≤ ad.block) := fun ad h => by
          have hs : w26.heap.size ≤ (w26.alloc (.cells #[.int .i64 5, .int .i64 0, .string ⟨#[112, 97, 116, 104]⟩, .slice none 0 0, .slice none 0 0, .int .i64 5, .int .i64 0, .string ⟨#[47, 108, 105, 115, 116, 47, 49]⟩, .slice none 0 0, .slice none 0 0, .int .i64 5, .int .i64 0, .string ⟨#[110, 97, 109, 101]⟩, .slice none 0 0, .slice none 0 0, .int .i64 5, .int .i64 0, .string ⟨#[109]⟩, .slice none 0 0, .slice none 0 0, .int .i64 5, .int .i64 0, .string ⟨#[114, 101, 115, 117, 108, 116, 79, 102]⟩, .slice none 0 0, .slice none 0 0, .int .i64 5, .int .i64 0, .string ⟨#[99]⟩, .slice none 0 0, .slice none 0 0] 25)).heap.size := (bel_alloc (Below.refl w26.heap.size w26)).size
          rcases h with h | h
          · exact Nat.le_trans hs (hf3 ad h)
          · exact Nat.le_trans hs (hf6 ad h)
        clear hn27 hb27 hf3 hf6 HO27
        have HK27 := Lib.hid (nextB C20.out HB27.out)
        have HOWN := Lib.hid (own_old HP1.out HK27.out)
        have HJ27 := Lib.hid (nextB HP2.out HK27.out)
        have HLE := Lib.hid HJ27.out.size
        have HJW : Hid (wJ.heap.size ≤ w26.heap.size) := Nat.le_trans HP2.out.size C20.out.size
        have HOB : Hid (∀ g, (Value.slice A1 i c1').ownBlock = some g → wJ.heap.size ≤ g ∧ g < w26.heap.size) := fun g hg => ⟨(own_lt HP1.out hg).1, Nat.lt_of_lt_of_le (own_lt HP1.out hg).2 C20.out.size⟩
        clear HP1 HP2 HRJ HONE HLJ l3 HB21 HB22 HB23 HB24 HB25 HB26 C20 C21 C22 C23 C24 C25 C26
        go_upto_region 14 with (at_builtin; refine wpList_pushNd w27 rfl (.tmp 94) (.tmp 103) rfl wJ.heap.size (.slice A1 i c1') i ys (by rfl) HOWN.out f0 f1 f2 f3 f4 f5 f6 f7 f8 (by rfl) (by omega) HLE.out ?_; intro v5 wL p1 p2 p3; obtain ⟨A2, c2', rfl⟩ := own_form p1; have HP3 := Lib.hid p1; have HP5 := Lib.hid p2; have HP4 := Lib.hid (grownB HJ27.out p2 (fun g hg => (HOB.out g hg).1)); clear p1 p2 p3; have HTL := Lib.hid (HTS.out.below HP4.out HTS.out.lt); have l4 := HTL.out.cell 4; have g4 := HTL.out.frozen 4)
        have HTM : Hid (Blk (wL.setCell ⟨wF.heap.size, 4, none⟩ (.slice A2 (i + 1) c2')) wF.heap.size 25 #[.int .i64 7, .int .i64 0, .string ⟨#[]⟩, .slice K2 (i + 1) kc2, .slice A2 (i + 1) c2']) := by
          have h := HTL.out.set_ 4 (.slice A2 (i + 1) c2')
          show Blk _ _ _ _
          simpa using h
        have HJT : Hid (wF.heap.size < wJ.heap.size) := HTS.out.lt
        have HKM : Hid ((wL.setCell ⟨wF.heap.size, 4, none⟩ (.slice A2 (i + 1) c2')).ownsRow wG.heap.size 9 1 (.slice K2 (i + 1) kc2) (i + 1) (ks.map Value.string ++ [.string ⟨#[35, 120]⟩])) := ownsRow_setCell_below (own_old HKS.out HP4.out) (a := ⟨wF.heap.size, 4, none⟩) HSG2.out _
        have HAM : Hid ((wL.setCell ⟨wF.heap.size, 4, none⟩ (.slice A2 (i + 1) c2')).ownsRow wJ.heap.size 25 5 (.slice A2 (i + 1) c2') (i + 1) (ys ++ [.int .i64 f0, .int .i64 f1, .string f2, .slice f3 f4 f5, .slice f6 f7 f8])) := ownsRow_setCell_below HP3.out (a := ⟨wF.heap.size, 4, none⟩) HJT.out _
        have HFM : Hid (Below wF.heap.size wF (wL.setCell ⟨wF.heap.size, 4, none⟩ (.slice A2 (i + 1) c2'))) := bel_set (nextB HFS.out HP4.out) (Nat.le_refl _)
        have HRM : Hid (NdIs (wL.setCell ⟨wF.heap.size, 4, none⟩ (.slice A2 (i + 1) c2')) (wL.setCell ⟨wF.heap.size, 4, none⟩ (.slice A2 (i + 1) c2')).heap.size refP [.int .i64 f0, .int .i64 f1, .string f2, .slice f3 f4 f5, .slice f6 f7 f8]) := by
          unfold refP
          have hle : w27.heap.size ≤ (wL.setCell ⟨wF.heap.size, 4, none⟩ (.slice A2 (i + 1) c2')).heap.size := by rw [World.size_setCell]; exact HP5.out.size
          refine NdIs.leafKeep HN27.out (by intro m hm; simp at hm; rcases hm with rfl | rfl | rfl <;> exact ⟨rfl, rfl⟩) hle (fun ad j h hb => ?_)
          have h26 := HF3.out ad h
          have hj : wJ.heap.size ≤ w26.heap.size := HJW.out
          have ht := HJT.out
          have hbk : (ad.add j).block = ad.block := block_of_add _ _
          refine World.cell?_of_block ?_
          rw [hbk]
          refine (Below.heap_setCell _ _ _ _ (by show ad.block ≠ wF.heap.size; have ht2 : wF.heap.size < wJ.heap.size := ht; omega)).trans (HP5.out.block _ hb (fun e => ?_))
          have := (HOB.out _ e.symm).2
          omega
        have HNM : Hid (NdIs (wL.setCell ⟨wF.heap.size, 4, none⟩ (.slice A2 (i + 1) c2')) (wL.setCell ⟨wF.heap.size, 4, none⟩ (.slice A2 (i + 1) c2')).heap.size (moreN (.mk 7 0 ⟨#[]⟩ ks ns)) [.int .i64 7, .int .i64 0, .string ⟨#[]⟩, .slice K2 (i + 1) kc2, .slice A2 (i + 1) c2']) := by
          have ha := HA.out
          unfold NdIs at ha
          obtain ⟨_, _, _, _, _, _, _, _, _, _, _, _, hkl, _, _⟩ := ha
          have hkn := HKN.out
          have hnn := HNN.out
          have hbw : Below w.heap.size w (wL.setCell ⟨wF.heap.size, 4, none⟩ (.slice A2 (i + 1) c2')) := nextB HBW.out HFM.out
          have e1 : (ks ++ [hxS]).length = i + 1 := by rw [List.length_append, hkn]; rfl
          have e2 : (ns ++ [refP]).length = i + 1 := by rw [List.length_append, hnn]; rfl
          show NdIs _ _ (.mk 7 0 ⟨#[]⟩ (ks ++ [hxS]) (ns ++ [refP])) _
          unfold NdIs
          refine ⟨K2, kc2, A2, c2', _, by rw [e1, e2], ?_, ?_, NdsIs.snoc HRM.out ns ys (NdsIs.more hbw.size _ _ (NdsIs.keep (fun p hp => hbw.cell hp) _ _ HNS.out)), by unfold I64; omega, by unfold I64; omega, by decide, ?_, by rw [e1]; simp only [maxLen]; omega, by rw [e2]; simp only [maxLen]; omega⟩
          · rw [e1, List.map_append]
            exact own_reads HKM.out
          · rw [e2]
            exact own_reads HAM.out
          · intro s hs
            rw [List.mem_append] at hs
            rcases hs with hs | hs
            · exact hkl s hs
            · simp at hs; subst hs; decide
        have HRE : Hid (Calls Tryd.prog 9 #[.agg #[.int .i64 7, .int .i64 0, .string ⟨#[]⟩, .slice K2 (i + 1) kc2, .slice A2 (i + 1) c2'], .slice (some ⟨D, 0, none⟩) 3 3] (wL.setCell ⟨wF.heap.size, 4, none⟩ (.slice A2 (i + 1) c2')) (ReOk (.mk 7 0 ⟨#[]⟩ (ks ++ [xS]) (ns ++ [num4 m])) (wL.setCell ⟨wF.heap.size, 4, none⟩ (.slice A2 (i + 1) c2')))) := by
          have h := res_doneQ m HMM.out.1 HMM.out.2 _ _ _ D 3 HNM.out (more_size HSZ.out HGK.out.1 HGK.out.2) (hDn.out.below HFM.out) (HM.out.below (nextB HBW.out HFM.out))
          rw [res_more rfl HR.out HP.out m HMM.out.1 HMM.out.2] at h
          exact h.mono fun e w' h => h.toOk
        clear l4 g4 HTL HP3 HP4 HP5 HKS HTS HOB HJ27 HK27 HOWN HLE HF3 HN27 HKM HAM HRM HNM HFS HJT HSG2 HBJ HJW
        generalize wL.setCell ⟨wF.heap.size, 4, none⟩ (.slice A2 (i + 1) c2') = wM at *
        obtain ⟨q0, q1, q2, q3, q4⟩ := HTM.out.cells5
        go_wp2_with fail
        refine (HRE.out : Calls _ _ _ _ _).mono ?_; rintro e w28 ⟨g0, g1, g2, g3, g4, g5, g6, g7, g8, rfl, hg28, hb28⟩
        have HBM : Hid (Below wF.heap.size wF w28) := nextB HFM.out hb28
        have HAL8 : Hid (Below w28.heap.size w28 (w28.alloc (.cells #[.int .i64 g0, .int .i64 g1, .string g2, .slice g3 g4 g5, .slice g6 g7 g8] 25))) := bel_alloc (Below.refl _ _)
        have HGN : Hid (NdIs (w28.alloc (.cells #[.int .i64 g0, .int .i64 g1, .string g2, .slice g3 g4 g5, .slice g6 g7 g8] 25)) (w28.alloc (.cells #[.int .i64 g0, .int .i64 g1, .string g2, .slice g3 g4 g5, .slice g6 g7 g8] 25)).heap.size (.mk 7 0 ⟨#[]⟩ (ks ++ [xS]) (ns ++ [num4 m])) [.int .i64 g0, .int .i64 g1, .string g2, .slice g3 g4 g5, .slice g6 g7 g8]) := hg28.step HAL8.out
        have HGB : Hid (Blk (w28.alloc (.cells #[.int .i64 g0, .int .i64 g1, .string g2, .slice g3 g4 g5, .slice g6 g7 g8] 25)) w28.heap.size 25 #[.int .i64 g0, .int .i64 g1, .string g2, .slice g3 g4 g5, .slice g6 g7 g8]) := Blk.new _ _ _
        have HBM2 : Hid (Below wF.heap.size wF (w28.alloc (.cells #[.int .i64 g0, .int .i64 g1, .string g2, .slice g3 g4 g5, .slice g6 g7 g8] 25))) := nextB HBM.out HAL8.out
        clear hg28 hb28 HRE HBM HAL8 HFM HTM q0 q1 q2 q3 q4
        go_upto_region 15 with fail
        generalize w28.alloc (.cells #[.int .i64 g0, .int .i64 g1, .string g2, .slice g3 g4 g5, .slice g6 g7 g8] 25) = wN at *
        generalize w28.heap.size = T13 at *
        have HFD : Hid (Calls Tryd.prog 16 #[.agg #[.int .i64 g0, .int .i64 g1, .string g2, .slice g3 g4 g5, .slice g6 g7 g8], .string ⟨#[120]⟩] wN (RfindP (some (num4 m)) wN.heap.size wN)) := by
          have h := rFind_any _ xS _ wN _ HGN.out (Nat.le_refl _)
          have hf : findN (.mk 7 0 ⟨#[]⟩ (ks ++ [xS]) (ns ++ [num4 m])) xS = some (num4 m) := find_more (n := .mk 7 0 ⟨#[]⟩ ks ns) HP.out (HKN.out.trans HNN.out.symm) m
          rw [hf] at h
          exact h
        obtain ⟨q0, q1, q2, q3, q4⟩ := HGB.out.cells5
        go_wp2_with fail
        refine (HFD.out : Calls _ _ _ _ _).mono ?_; rintro e w29 ⟨h0, h1, h2, h3, h4, h5, h6, h7, h8, rfl, hn29, hb29⟩
        obtain ⟨-, -, hh0⟩ := NdIs.cells_ (show NdIs w29 wN.heap.size (num4 m) _ from hn29)
        have hh1 : h1 = m := hh0
        clear hh0
        subst hh1
        rw [show (some (num4 h1)).isSome = true from rfl]
        have HB29 : Hid (Below wN.heap.size wN (w29.alloc (.cells #[.int .i64 h0, .int .i64 h1, .string h2, .slice h3 h4 h5, .slice h6 h7 h8] 25))) := bel_alloc hb29
        have HHB : Hid (Blk (w29.alloc (.cells #[.int .i64 h0, .int .i64 h1, .string h2, .slice h3 h4 h5, .slice h6 h7 h8] 25)) w29.heap.size 25 #[.int .i64 h0, .int .i64 h1, .string h2, .slice h3 h4 h5, .slice h6 h7 h8]) := Blk.new _ _ _
        clear hn29 hb29 HFD q0 q1 q2 q3 q4
        go_upto_region 16 with fail
        generalize w29.alloc (.cells #[.int .i64 h0, .int .i64 h1, .string h2, .slice h3 h4 h5, .slice h6 h7 h8] 25) = wO at *
        generalize w29.heap.size = T15 at *
        have HFO := Lib.hid (nextB HBM2.out HB29.out)
        have hXO := HXA.out.below HFO.out HXA.out.lt
        have hCO := HC.out.below HFO.out HC.out.lt
        have hGO := HGB.out.below HB29.out HGB.out.lt
        obtain ⟨q0, q1, q2, q3, q4⟩ := hXO.cells5
        obtain ⟨r0, r1, r2, r3, r4⟩ := hCO.cells5
        obtain ⟨s0, s1, s2, s3, s4⟩ := hGO.cells5
        obtain ⟨t0, t1, t2, t3, t4⟩ := HHB.out.cells5
        have hg4 : g4 = i + 1 := by
          have h := HGN.out
          unfold NdIs at h
          obtain ⟨_, _, _, _, _, he, _⟩ := h
          simp only [List.cons.injEq, Value.slice.injEq, and_true, true_and] at he
          obtain ⟨-, -, -, ⟨-, e, -⟩, -⟩ := he
          rw [e, List.length_append, HKN.out]; rfl
        subst hg4
        have HSM : Hid (Calls Tryd.prog 11 #[.agg #[.int .i64 c0, .int .i64 c1, .string c2, .slice c3 c4 c5, .slice c6 c7 c8], .agg #[.int .i64 7, .int .i64 0, .string ⟨#[]⟩, .slice K i kc, .slice A i c]] wO (BoolBel true wO)) := by
          have h := rSame_any _ _ _ _ _ wO wO.heap.size (Nat.le_refl _) (HCN.out.step HFO.out) (NdIs.more (nextB HBW.out HFO.out).size _ _ (HA.out.below (nextB HBW.out HFO.out))) (Nat.le_refl _)
          rw [sameN_refl] at h
          exact h
        have hW := nextB HBW.out HFO.out
        have x1 : IntKind.i64.wrap ((i : Int) + 1) = (i : Int) + 1 := IntWalk.i64_in _ (by omega)
        have x2 : (((i + 1 : Nat) : Int) == (i : Int) + 1) = true := by simp
        have x3 : ((i + 1 : Nat) : Int) = (i : Int) + 1 := by omega
        clear HFO hXO hCO hGO HHB HGB HGN HBM2 HB29 HXA HC HCN HBW hDn HP HM HSZ HGK HR HMM HA HKN HNN HYS HNS
        go_wp2_with (first
          | (go_at_call 8; refine (awake26_any _).mono ?_; rintro e w1 ⟨rfl, hw1⟩; (first | replace hW := nextB hW hw1 | replace hW := nextA hW hw1 | replace hW := nextB hW.drew hw1 | replace hW := nextAA hW hw1 | replace hW := nextAD hW hw1); clear hw1)
          | (go_at_call 11; refine (HSM.out : Calls _ _ _ _ _).mono ?_; rintro e w30 ⟨rfl, hw1⟩; replace hW := nextB hW hw1; obtain ⟨q0, q1, q2, q3, q4⟩ := (keep5 ⟨q0, q1, q2, q3, q4⟩ hw1); obtain ⟨s0, s1, s2, s3, s4⟩ := (keep5 ⟨s0, s1, s2, s3, s4⟩ hw1); obtain ⟨t0, t1, t2, t3, t4⟩ := (keep5 ⟨t0, t1, t2, t3, t4⟩ hw1); clear hw1))
        go_ret
        exact ⟨rfl, hW⟩
set_option maxRecDepth 100000 in
set_option maxHeartbeats 1000000 in
theorem callPlain_stop (a : Nd) (m k : Int) (w : World) (x0 x1 : Int) (x2 : ByteArray) (x3 : Option Addr) (x4 x5 : Nat) (x6 : Option Addr) (x7 x8 : Nat) (ha : NdIs w w.heap.size a [.int .i64 x0, .int .i64 x1, .string x2, .slice x3 x4 x5, .slice x6 x7 x8]) (h : greatN a = true ∨ x0 ≠ 7 ∨ rightD a 0 = false) :
    Calls Tryd.prog 4 #[.agg #[.int .i64 x0, .int .i64 x1, .string x2, .slice x3 x4 x5, .slice x6 x7 x8], .int .i16 m, .int .u8 k] w fun e w' => e = .returned (.bool true) ∧ Below w.heap.size w w' := by
  have hA0 : Below w.heap.size w (w.alloc (.cells #[.int .i64 x0, .int .i64 x1, .string x2, .slice x3 x4 x5, .slice x6 x7 x8] 25)) := (Below.refl _ _).alloc (Nat.le_refl _) _
  have hX0 : Blk (w.alloc (.cells #[.int .i64 x0, .int .i64 x1, .string x2, .slice x3 x4 x5, .slice x6 x7 x8] 25)) w.heap.size 25 #[.int .i64 x0, .int .i64 x1, .string x2, .slice x3 x4 x5, .slice x6 x7 x8] := Blk.new _ _ _
  have HGA : Hid (∀ w', Below w.heap.size w w' → Calls Tryd.prog 6 #[.agg #[.int .i64 x0, .int .i64 x1, .string x2, .slice x3 x4 x5, .slice x6 x7 x8]] w' (BoolBel (greatN a) w')) := fun w' h => great_any _ _ w' w.heap.size (ha.below h) h.size
  have HRR : Hid (∀ w', Below w.heap.size w w' → Calls Tryd.prog 7 #[.agg #[.int .i64 x0, .int .i64 x1, .string x2, .slice x3 x4 x5, .slice x6 x7 x8]] w' (BoolBel (rightD a 0) w')) := fun w' h => rRight_any _ _ w' w.heap.size (ha.below h) h.size
  clear ha
  have hW := hA0
  cases hg : greatN a with
  | true =>
    rw [hg] at HGA
    clear hg h HRR
    go_enter Tryd.func4, Tryd.ntmps4
    go_wp2_with fail
    refine (HGA.out _ hA0).mono ?_; rintro e w1 ⟨rfl, hw1⟩
    replace hW := nextB hW hw1
    clear hw1
    go_wp2_with (go_at_call 8; refine (awake26_any _).mono ?_; rintro e w1 ⟨rfl, hw1⟩; (first | replace hW := nextB hW hw1 | replace hW := nextA hW hw1 | replace hW := nextB hW.drew hw1 | replace hW := nextAA hW hw1 | replace hW := nextAD hW hw1); clear hw1)
    go_ret
    exact ⟨rfl, hW⟩
  | false =>
    rw [hg] at HGA h
    by_cases h7 : x0 = 7
    · have hr : rightD a 0 = false := by
        rcases h with h | h | h
        · cases h
        · exact absurd h7 h
        · exact h
      subst h7
      rw [hr] at HRR
      clear hg h hr
      go_enter Tryd.func4, Tryd.ntmps4
      go_wp2_with fail
      refine (HGA.out _ hA0).mono ?_; rintro e w1 ⟨rfl, hw1⟩
      replace hW := nextB hW hw1
      have hX1 := hX0.below hw1 hX0.lt
      obtain ⟨y0, y1, y2, y3, y4⟩ := hX1.cells5
      clear hw1
      go_wp2_with fail
      refine (HRR.out _ hW).mono ?_; rintro e w2 ⟨rfl, hw2⟩
      replace hW := nextB hW hw2
      clear hw2
      go_wp2_with (go_at_call 8; refine (awake26_any _).mono ?_; rintro e w1 ⟨rfl, hw1⟩; (first | replace hW := nextB hW hw1 | replace hW := nextA hW hw1 | replace hW := nextB hW.drew hw1 | replace hW := nextAA hW hw1 | replace hW := nextAD hW hw1); clear hw1)
      go_ret
      exact ⟨rfl, hW⟩
    · have h7b : (x0 != 7) = true := by rw [bne_iff_ne]; exact h7
      have h7c : (x0 == 7) = false := by rw [beq_eq_false_iff_ne]; exact h7
      clear hg h HRR
      go_enter Tryd.func4, Tryd.ntmps4
      go_wp2_with fail
      refine (HGA.out _ hA0).mono ?_; rintro e w1 ⟨rfl, hw1⟩
      replace hW := nextB hW hw1
      have hX1 := hX0.below hw1 hX0.lt
      obtain ⟨y0, y1, y2, y3, y4⟩ := hX1.cells5
      clear hw1
      go_wp2_with (go_at_call 8; refine (awake26_any _).mono ?_; rintro e w1 ⟨rfl, hw1⟩; (first | replace hW := nextB hW hw1 | replace hW := nextA hW hw1 | replace hW := nextB hW.drew hw1 | replace hW := nextAA hW hw1 | replace hW := nextAD hW hw1); clear hw1)
      go_ret
      exact ⟨rfl, hW⟩
theorem callPlain_walk (a : Nd) (cs : List Value) (m k : Int) (w : World) (ha : NdIs w w.heap.size a cs) (hm : (Lit.int .i16 m).wf = true) (hM : MaxOK w) :
    Calls Tryd.prog 4 #[.agg cs.toArray, .int .i16 m, .int .u8 k] w fun e w' => e = .returned (.bool true) ∧ Below w.heap.size w w' := by
  have hr : -32768 ≤ m ∧ m ≤ 32767 := by
    simp [Lit.wf, IntKind.min, IntKind.max, IntKind.signed, IntKind.bits] at hm; omega
  obtain ⟨A, ck, A2, c, xs, rfl, hop⟩ := ha.open_
  by_cases h : greatN a = true ∨ a.kind ≠ 7 ∨ rightD a 0 = false
  · exact callPlain_stop a m k w _ _ _ _ _ _ _ _ _ ha h
  · have hg : greatN a = false := by
      cases hq : greatN a with
      | true => exact absurd (.inl hq) h
      | false => rfl
    have h7 : a.kind = 7 := Classical.byContradiction fun e => h (.inr (.inl e))
    have hd : rightD a 0 = true := by
      cases hq : rightD a 0 with
      | false => exact absurd (.inr (.inr hq)) h
      | true => rfl
    obtain ⟨e, hl⟩ := rightD_shape hd h7
    obtain ⟨ks, hks⟩ : ∃ ks, ks = a.keys := ⟨_, rfl⟩
    obtain ⟨ns, hns⟩ : ∃ ns, ns = a.kids := ⟨_, rfl⟩
    rw [← hks, ← hns] at e hl
    subst e
    have ha' : NdIs w w.heap.size (.mk 7 0 ⟨#[]⟩ ks ns) [.int .i64 7, .int .i64 0, .string ⟨#[]⟩, .slice A ks.length ck, .slice A2 ks.length c] := by
      have h1 : NdIs w w.heap.size (.mk 7 0 ⟨#[]⟩ ks ns) [.int .i64 7, .int .i64 0, .string ⟨#[]⟩, .slice A ks.length ck, .slice A2 ns.length c] := ha
      rw [← hl] at h1
      exact h1
    have := callPlain_main ks ns ks.length rfl hl.symm A A2 ck c m k hr.1 hr.2 w ha' hg hd hM
    rw [show (Nd.mk 7 0 ⟨#[]⟩ ks ns).kids.length = ks.length from hl.symm]
    exact this
end Go.Proofs.YthbjehbpanhdoaaDoor
namespace Go.Proofs.YthbjehbpanhdoaaDoor
open Go.RowKit
set_option linter.unusedVariables false
set_option linter.unusedSimpArgs false
theorem list_of {α : Type} : ∀ (n : Nat) (p : Nat → α → Prop), (∀ i, i < n → ∃ a, p i a) → ∃ l : List α, l.length = n ∧ ∀ i a, l[i]? = some a → p i a
  | 0, p, h => ⟨[], rfl, fun i a hi => by simp at hi⟩
  | n + 1, p, h => by
    obtain ⟨a, ha⟩ := h 0 (by omega)
    obtain ⟨l, hl, hp⟩ := list_of n (fun i => p (i + 1)) (fun i hi => h (i + 1) (by omega))
    refine ⟨a :: l, by simp [hl], fun i b hi => ?_⟩
    cases i with
    | zero => simp at hi; subst hi; exact ha
    | succ i => exact hp i b (by simpa using hi)
theorem cellsStr : Tryd.prog.cellsOf 9 = 1 := by kernel_rfl
theorem cellsInt : Tryd.prog.cellsOf 3 = 1 := by kernel_rfl
theorem cellsStrs : Tryd.prog.cellsOf 22 = 1 := by kernel_rfl
theorem cellsNodes : Tryd.prog.cellsOf 23 = 1 := by kernel_rfl
theorem cellsNode : Tryd.prog.cellsOf 25 = 5 := by kernel_rfl
theorem flat_reads {w : World} {a : Addr} : ∀ (l : List (List Value)) (k : Nat), (∀ (i : Nat) (c : List Value), l[i]? = some c → c.length = 5 ∧ ∀ r, r < 5 → w.cell? (a.add ((k + i) * 5 + r)) = c[r]?) → ∀ (j : Nat) (u : Value), l.flatten[j]? = some u → w.cell? (a.add (k * 5 + j)) = some u
  | [], k, h, j, u, hj => by simp at hj
  | c :: l, k, h, j, u, hj => by
    obtain ⟨h5, hc⟩ := h 0 c rfl
    rw [List.flatten_cons] at hj
    by_cases hlt : j < 5
    · rw [List.getElem?_append_left (by omega)] at hj
      rw [← hj, ← hc j hlt, Nat.add_zero]
    · rw [List.getElem?_append_right (by omega), h5] at hj
      have := flat_reads l (k + 1) (fun i c hi => by
        have := h (i + 1) c (by simpa using hi)
        rw [show k + 1 + i = k + (i + 1) by omega]; exact this) (j - 5) u hj
      rw [← this]
      congr 2
      omega
theorem nds_flat {w : World} {B : Nat} : ∀ (l : List (Nd × List Value)), (∀ p ∈ l, NdIs w B p.1 p.2) → NdsIs w B (l.map (·.1)) (l.map (·.2)).flatten
  | [], h => by unfold NdsIs; rfl
  | p :: l, h => by
    show NdsIs w B (p.1 :: l.map (·.1)) _
    unfold NdsIs
    exact ⟨p.2, (l.map (·.2)).flatten, rfl, h p (by simp), nds_flat l (fun q hq => h q (by simp [hq]))⟩
theorem len_flat : ∀ (l : List (List Value)), (∀ c ∈ l, c.length = 5) → l.flatten.length = l.length * 5
  | [], h => rfl
  | c :: l, h => by
    have := len_flat l (fun c hc => h c (by simp [hc]))
    rw [List.flatten_cons, List.length_append, this, h c (by simp), List.length_cons]; omega
section
variable {H : Type} {enc : TypeId × Value → H} {w : World} {sp : Nat → Bool} {held : Bool}
theorem cell_lt {a : Addr} {v : Value} (h : w.cell? a = some v) : a.block < w.heap.size := by
  rcases Nat.lt_or_ge a.block w.heap.size with h' | h'
  · exact h'
  · unfold World.cell? at h
    rw [Array.getElem?_eq_none h'] at h
    simp at h
theorem strs_of_trod {fuel : Nat} {cs : List Value} {x : DataW H × List MemPlace} (h : DataW.trod enc Tryd.prog w 0 sp held fuel 22 cs = some x) :
    ∃ (A : Option Addr) (c : Nat) (ks : List ByteArray), cs = [.slice A ks.length c] ∧ Reads w w.heap.size 1 A ks.length (ks.map Value.string) ∧ (∀ s ∈ ks, s.size ≤ maxLen) ∧ ks.length ≤ maxLen := by
  rcases Deep.open_slice Tryd.underlying22 h with ⟨rfl, rfl⟩ | ⟨a, len, cap, m, n, D, Pl, rfl, _, hl, hm, hmm, rfl, hi⟩
  · exact ⟨none, 0, [], rfl, Reads.none_, by simp, by simp [maxLen]⟩
  · have hlm : len ≤ m := by rw [hmm]; split <;> omega
    obtain ⟨ks, hk, hp⟩ := list_of len (fun i (s : ByteArray) => w.cell? (a.add i) = some (.string s) ∧ s.size ≤ maxLen) (fun i hi' => by
      obtain ⟨cs', hc, ht⟩ := hi i (by omega)
      rw [cellsStr, Nat.mul_one] at hc
      obtain ⟨s, rfl, _, hs⟩ := DataW.trod_string Tryd.underlying9 ht
      obtain ⟨_, _, hc⟩ := World.cells?_some hc
      exact ⟨s, by have := hc 0 (by omega); rw [show (a.add i).add 0 = a.add i by simp [Addr.add]] at this; exact this, hs⟩)
    subst hk
    refine ⟨some a, cap, ks, rfl, ⟨by simp, fun hn => ⟨a, rfl, ?_, fun j u hj => ?_⟩⟩, fun s hs => ?_, by omega⟩
    · have := (hp 0 ks[0] (List.getElem?_eq_getElem hn)).1
      have := cell_lt this
      rw [block_of_add] at this; exact this
    · rw [List.getElem?_map] at hj
      cases hk : ks[j]? with
      | none => rw [hk] at hj; simp at hj
      | some s => rw [hk] at hj; simp at hj; subst hj; exact (hp j s hk).1
    · obtain ⟨j, hj⟩ := List.getElem?_of_mem hs
      exact (hp j s hj).2
theorem wf_I64 {n : Int} (h : (Lit.int .i64 n).wf = true) : I64 n := bounds_i64 h
set_option maxRecDepth 100000 in
theorem nd_of_trod : ∀ (k fuel : Nat), fuel ≤ k → ∀ (cs : List Value) (x : DataW H × List MemPlace), DataW.trod enc Tryd.prog w 0 sp held fuel 25 cs = some x → ∃ n, NdIs w w.heap.size n cs := by
  intro k
  induction k with
  | zero =>
    intro fuel hf cs x h
    obtain rfl : fuel = 0 := by omega
    simp [DataW.trod] at h
  | succ k ih =>
    intro fuel hf cs x h
    obtain ⟨xs, n, rfl, rfl, hl, hxl, hfld⟩ := DataW.trod_struct Tryd.underlying25 h
    rw [cellsNode] at hl
    have h0 : DataW.trod enc Tryd.prog w 0 sp held n 3 ((cs.drop 0).take (Tryd.prog.cellsOf 3)) = xs[0]? := hfld 0 _ rfl
    have h1 : DataW.trod enc Tryd.prog w 0 sp held n 3 ((cs.drop 1).take (Tryd.prog.cellsOf 3)) = xs[1]? := hfld 1 _ rfl
    have h2 : DataW.trod enc Tryd.prog w 0 sp held n 9 ((cs.drop 2).take (Tryd.prog.cellsOf 9)) = xs[2]? := hfld 2 _ rfl
    have h3 : DataW.trod enc Tryd.prog w 0 sp held n 22 ((cs.drop 3).take (Tryd.prog.cellsOf 22)) = xs[3]? := hfld 3 _ rfl
    have h4 : DataW.trod enc Tryd.prog w 0 sp held n 23 ((cs.drop 4).take (Tryd.prog.cellsOf 23)) = xs[4]? := hfld 4 _ rfl
    rw [cellsInt] at h0 h1
    rw [cellsStr] at h2
    rw [cellsStrs] at h3
    rw [cellsNodes] at h4
    clear hfld h
    have hxl : xs.length = 5 := hxl
    match cs, hl with
    | [c0, c1, c2, c3, c4], _ =>
      match xs, hxl with
      | [y0, y1, y2, y3, y4], _ =>
        simp only [List.drop_succ_cons, List.drop_zero, List.take_succ_cons, List.take_zero, List.getElem?_cons_zero, List.getElem?_cons_succ] at h0 h1 h2 h3 h4
        obtain ⟨n0, e0, _, w0⟩ := DataW.trod_int Tryd.underlying3 h0
        obtain ⟨n1, e1, _, w1⟩ := DataW.trod_int Tryd.underlying3 h1
        obtain ⟨t, e2, _, w2⟩ := DataW.trod_string Tryd.underlying9 h2
        obtain ⟨A, ck, ks, e3, r3, s3, l3⟩ := strs_of_trod h3
        obtain rfl : c0 = .int .i64 n0 := by simpa using e0
        obtain rfl : c1 = .int .i64 n1 := by simpa using e1
        obtain rfl : c2 = .string t := by simpa using e2
        obtain rfl : c3 = .slice A ks.length ck := by simpa using e3
        rcases DataW.trod_slice Tryd.underlying23 h4 with ⟨e4, _⟩ | ⟨a, len, cap, elems, rest, n', rfl, e4, _, _, hlc, hcm, hel, hget, _, _⟩
        · obtain rfl : c4 = .slice none 0 0 := by simpa using e4
          refine ⟨.mk n0 n1 t ks [], ?_⟩
          unfold NdIs
          exact ⟨A, ck, none, 0, [], rfl, r3, Reads.none_, (by unfold NdsIs; rfl), wf_I64 w0, wf_I64 w1, w2, s3, l3, by simp [maxLen]⟩
        · obtain rfl : c4 = .slice (some a) len cap := by simpa using e4
          obtain ⟨l, hll, hp⟩ := list_of len (fun i (p : Nd × List Value) => NdIs w w.heap.size p.1 p.2 ∧ p.2.length = 5 ∧ ∀ r, r < 5 → w.cell? (a.add (i * 5 + r)) = p.2[r]?) (fun i hi => by
            have hg := hget i hi
            rw [List.getElem?_eq_getElem (by omega)] at hg
            obtain ⟨cs', g1, g2⟩ := Option.bind_eq_some_iff.1 hg
            rw [cellsNode] at g1
            obtain ⟨_, g3, g4⟩ := World.cells?_some g1
            obtain ⟨m, hm⟩ := ih n' (by omega) cs' _ g2
            exact ⟨(m, cs'), hm, g3, fun r hr => by have := g4 r hr; rw [add_of_add] at this; exact this⟩)
          subst hll
          refine ⟨.mk n0 n1 t ks (l.map (·.1)), ?_⟩
          unfold NdIs
          have hfr := flat_reads (w := w) (a := a) (l.map (·.2)) 0 (fun i c hc => by
            rw [List.getElem?_map] at hc
            cases hk : l[i]? with
            | none => rw [hk] at hc; simp at hc
            | some p => rw [hk] at hc; simp at hc; subst hc; rw [Nat.zero_add]; exact (hp i p hk).2)
          refine ⟨A, ck, some a, cap, (l.map (·.2)).flatten, (by simp), r3, ⟨?_, fun hn => ⟨a, rfl, ?_, fun j u hj => ?_⟩⟩, ?_, wf_I64 w0, wf_I64 w1, w2, s3, l3, (by simp; omega)⟩
          · rw [len_flat]
            · simp
            · intro c hc
              obtain ⟨p, hp', rfl⟩ := List.mem_map.1 hc
              obtain ⟨i, hi⟩ := List.getElem?_of_mem hp'
              exact (hp i p hi).2.1
          · simp at hn
            have hq := hp 0 l[0] (List.getElem?_eq_getElem hn)
            have h5 := hq.2.1
            have := hq.2.2 0 (by omega)
            rw [List.getElem?_eq_getElem (by omega)] at this
            have := cell_lt this
            rw [block_of_add] at this; exact this
          · have := hfr j u hj
            rw [show 0 * 5 + j = j by omega] at this; exact this
          · refine nds_flat l (fun p hp' => ?_)
            obtain ⟨i, hi⟩ := List.getElem?_of_mem hp'
            exact (hp i p hi).1
end
section
open Go.ChangeShapes Go.WideShapes
variable {H : Type} {enc : TypeId × Value → H} {W W' : World}
set_option maxRecDepth 100000 in
theorem open_node {r : Reach} {b0 : Nat} {sp : Nat → Bool} {held : Bool} {v : Value} {d : DataW H} {p : List MemPlace} (hv : Value.okWide Tryd.prog W r b0 25 v) (h : DataW.Trod enc Tryd.prog W 0 sp held 25 v d p) :
    ∃ n cs, v = .agg cs.toArray ∧ NdIs W W.heap.size n cs := by
  obtain ⟨cs, rfl, _⟩ := okWide_struct Tryd.underlying25 hv
  obtain ⟨fuel, hf⟩ := h
  obtain ⟨n, hn⟩ := nd_of_trod fuel fuel (Nat.le_refl _) _ _ hf
  exact ⟨n, cs.toList, by simp, by simpa [Value.cells] using hn⟩
theorem kids : Kids Tryd.prog (· < Tryd.prog.types.size) := kids_rows (by kernel_rfl) (by kernel_rfl)
theorem full : ∀ t e, t < Tryd.prog.types.size → Tryd.prog.underlying t = some (.slice e) → 0 < Tryd.prog.cellsOf e := slices_full_of _ (by kernel_rfl)
theorem all_carry : ∀ {ts : List TypeId} {vs : List Value} {ds : List (DataW H)} {ps : List MemPlace} {sp : Nat → Bool}, DataW.TrodAll enc Tryd.prog W 0 sp true ts vs ds ps → (∀ p ∈ ps, W.sameAt W' p) → DataW.TrodAll enc Tryd.prog W' 0 sp true ts vs ds ps
  | [], [], [], _, _, h, _ => h
  | _ :: _, _ :: _, _ :: _, _, _, ⟨p, q, ⟨n, h1⟩, h2, e⟩, hs => ⟨p, q, ⟨n, DataW.trod_carry n _ _ _ h1 (fun x hx => hs x (by rw [e]; exact List.mem_append_left _ hx))⟩, all_carry h2 (fun x hx => hs x (by rw [e]; exact List.mem_append_right _ hx)), e⟩
theorem args_again {ts : List TypeId} {vs : List Value} {ds : List (DataW H)} {ps : List MemPlace} (hT : ∀ t ∈ ts, t < Tryd.prog.types.size) (h : DataW.TrodAll enc Tryd.prog W 0 (fun _ => true) true ts vs ds ps) (hlt : ∀ p ∈ ps, p.block < W.heap.size)
    (hb : Below W.heap.size W W') (sp : Nat → Bool) (hs : ∀ p ∈ ps, sp p.block = true) : DataW.TrodAll enc Tryd.prog W' 0 sp true ts vs ds ps := by
  refine all_carry (DataW.TrodAll.respare kids full hT h hs) (fun p hp => ?_)
  have := hlt p hp
  cases p with
  | cell b off => exact hb.cell this
  | map b => exact hb.block b this
end
end Go.Proofs.YthbjehbpanhdoaaDoor
