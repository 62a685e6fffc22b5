/- Texts of one seat, one behind the other: Pt9, Pt10, Pt11, Rq0, Ri0, Copt, Bw0, Rf0, Rf1, Rf2. No condition. -/
import Derived.Test.YthbjehbpanhdoaaDoorL8
import Derived.Deep.RegionHeld3
import Derived.PlainAid
import Derived.RangeFuncNested
import Derived.RangeFuncBound
import Derived.RangeFuncCalls
import Derived.RangeFuncLeaves
import Derived.Shelf.Abstract
import Derived.Shelf.RegionOpen
import Derived.WalkKit
import Derived.OwnWalkIn
import Derived.TacticsInMore
import Derived.LoopNIn
import Derived.LoopIn
namespace Go.Proofs.YthbjehbpanhdoaaDoor
open Go.RowKit Go.PlainAid
set_option linter.unusedVariables false
set_option linter.unusedSimpArgs false
set_option maxRecDepth 100000
theorem partsF_step {q : ByteArray} {c : UInt8} {r : List UInt8} (h : q.toList = c :: r) {q2 : ByteArray} (h2 : q2.toList = r.dropWhile (· != 47)) : partsF q.size q.toList = ⟨(unesc (r.takeWhile (· != 47))).toArray⟩ :: partsF q2.size q2.toList := by
  have hs : q.size = r.length + 1 := by rw [← toList_len, h]; simp
  rw [h, hs, partsF_cons _ _ _ (Nat.le_refl _)]
  congr 1
  have h3 : (r.dropWhile (· != 47)).length ≤ r.length := (List.dropWhile_suffix _).length_le
  rw [h2]
  refine partsF_fuel _ _ _ h3 ?_
  rw [← toList_len q2, h2]; exact Nat.le_refl _
theorem partsF_empty {q : ByteArray} (h : q.toList = []) : partsF q.size q.toList = [] := by
  rw [h]; cases q.size <;> rfl
def sLenP (v : Value) : Nat := match v with | .slice _ n _ => n | _ => 0
def NextP (pb : Nat) (q : ByteArray) (w : World) (e : Ending) (w' : World) : Prop := ∃ (s q2 : ByteArray) (b : Bool), e = .returned (.tuple #[.string s, .bool b]) ∧ partsF q.size q.toList = (if b = true then s :: partsF q2.size q2.toList else []) ∧ Blk w' pb 9 #[.string q2] ∧ q2.size ≤ 1000 ∧ w.grownBy w' (some pb) ∧ MaxOK w'
theorem next_any (pb : Nat) (q : ByteArray) (w : World) (h : Blk w pb 9 #[.string q]) (hs : q.size ≤ 1000) (hM : MaxOK w) : Calls Tryd.prog 69 #[.pointer (some ⟨pb, 0, none⟩)] w (NextP pb q w) := by
  have hb0 : pb ≠ 0 := fun e => by
    subst e
    obtain ⟨m, hm⟩ := hM
    have := (h.cell 0).symm.trans hm
    simp at this
  cases hq : q.toList with
  | nil =>
    refine (parts1_nil pb q w h hq).mono ?_
    rintro e w' ⟨rfl, rfl⟩
    exact ⟨_, q, false, rfl, by rw [partsF_empty hq]; rfl, h, hs, World.grownBy.refl w _, hM⟩
  | cons c r =>
    refine (parts1_cons pb q c r w h hq hs hM).mono ?_
    rintro e w' ⟨rfl, ⟨q2, h1, h2, h3⟩, h4⟩
    exact ⟨_, q2, true, rfl, by rw [partsF_step hq h1]; rfl, h3, h2, h4, hM.grown h4 hb0⟩
theorem MaxOK.grownR {w w1 : World} {row : Option Nat} (h : MaxOK w) (hb : w.grownBy w1 row) (hne : some 0 ≠ row) : MaxOK w1 := by
  have hl := h.lt
  obtain ⟨m, hm⟩ := h
  exact ⟨m, (World.cell?_of_block (hb.block 0 hl hne)).trans hm⟩
theorem partsP_size (path : ByteArray) : ∀ s ∈ partsP path, s.size ≤ path.size := fun s hs => by
  have := partsF_size _ _ s hs
  rw [toList_len] at this; exact this
theorem partsP_len (path : ByteArray) : (partsP path).length ≤ path.size := by
  have := partsF_len path.size path.toList
  rw [toList_len] at this; exact this
theorem one_node {w : World} {m : Nd} {cs : List Value} (hn : NdIs w w.heap.size m cs) (h5 : cs.length = 5) (w2 : World) (k1 k2 : Nat) (hk1 : k1 < w2.heap.size) (hk2 : k2 < w2.heap.size) (hb : Below w.heap.size w w2) (h1 : Blk w2 k1 9 #[.string ⟨#[]⟩]) (h2 : Blk w2 k2 25 cs.toArray) :
    NdIs w2 w2.heap.size (.mk 7 0 ⟨#[]⟩ [⟨#[]⟩] [m]) [.int .i64 7, .int .i64 0, .string ⟨#[]⟩, .slice (some ⟨k1, 0, none⟩) 1 1, .slice (some ⟨k2, 0, none⟩) 1 1] := by
  unfold NdIs
  have e : ∀ g j : Nat, (⟨g, 0, none⟩ : Addr).add j = ⟨g, j, none⟩ := fun g j => by unfold Addr.add; split <;> simp_all
  refine ⟨_, 1, _, 1, cs, rfl, ⟨rfl, fun _ => ⟨_, rfl, hk1, fun j u hu => ?_⟩⟩, ⟨by simpa using h5, fun _ => ⟨_, rfl, hk2, fun j u hu => ?_⟩⟩, ?_, by unfold I64; omega, by unfold I64; omega, by (show (0 : Nat) ≤ maxLen); exact Nat.zero_le _, ?_, by simp [maxLen], by simp [maxLen]⟩
  · rw [e, h1.cell j]; simpa using hu
  · rw [e, h2.cell j]; simpa using hu
  · unfold NdsIs
    exact ⟨cs, [], by simp, NdIs.more hb.size _ _ (hn.below hb), by unfold NdsIs; rfl⟩
  · intro s hs
    simp at hs; subst hs
    show (0 : Nat) ≤ maxLen
    exact Nat.zero_le _
theorem find_one (m : Nd) : findN (.mk 7 0 ⟨#[]⟩ [⟨#[]⟩] [m]) ⟨#[]⟩ = some m := by
  simp [findN, idxK]
theorem pGet_right (n : Nd) (path : ByteArray) (x0 x1 : Int) (x2 : ByteArray) (x3 : Option Addr) (x4 x5 : Nat) (x6 : Option Addr) (x7 x8 : Nat) (w : World)
    (HCR : Hid (∀ w', Below w.heap.size w w' → Calls Tryd.prog 54 #[.agg #[.int .i64 x0, .int .i64 x1, .string x2, .slice x3 x4 x5, .slice x6 x7 x8]] w' (BoolBel false w'))) (HR : Hid (pointN n path = (none, 1))) :
    Calls Tryd.prog 40 #[.agg #[.int .i64 x0, .int .i64 x1, .string x2, .slice x3 x4 x5, .slice x6 x7 x8], .string path] w (PointP (pointN n path) w) := by
  have hA : Below w.heap.size w ((w.alloc (.cells #[.int .i64 x0, .int .i64 x1, .string x2, .slice x3 x4 x5, .slice x6 x7 x8] 25)).alloc (.cells #[.int .i64 0, .int .i64 0, .string ⟨#[]⟩, .slice none 0 0, .slice none 0 0] 25)) := ((Below.refl _ _).alloc (Nat.le_refl _) _).alloc (by simp) _
  have hX : Blk ((w.alloc (.cells #[.int .i64 x0, .int .i64 x1, .string x2, .slice x3 x4 x5, .slice x6 x7 x8] 25)).alloc (.cells #[.int .i64 0, .int .i64 0, .string ⟨#[]⟩, .slice none 0 0, .slice none 0 0] 25)) w.heap.size 25 #[.int .i64 x0, .int .i64 x1, .string x2, .slice x3 x4 x5, .slice x6 x7 x8] := (Blk.new w _ _).alloc _
  have hY : Blk ((w.alloc (.cells #[.int .i64 x0, .int .i64 x1, .string x2, .slice x3 x4 x5, .slice x6 x7 x8] 25)).alloc (.cells #[.int .i64 0, .int .i64 0, .string ⟨#[]⟩, .slice none 0 0, .slice none 0 0] 25)) (w.heap.size + 1) 25 #[.int .i64 0, .int .i64 0, .string ⟨#[]⟩, .slice none 0 0, .slice none 0 0] := by
    have := Blk.new (w.alloc (.cells #[.int .i64 x0, .int .i64 x1, .string x2, .slice x3 x4 x5, .slice x6 x7 x8] 25)) 25 #[.int .i64 0, .int .i64 0, .string ⟨#[]⟩, .slice none 0 0, .slice none 0 0]
    simpa using this
  have hZ : w.heap.size + 2 = ((w.alloc (.cells #[.int .i64 x0, .int .i64 x1, .string x2, .slice x3 x4 x5, .slice x6 x7 x8] 25)).alloc (.cells #[.int .i64 0, .int .i64 0, .string ⟨#[]⟩, .slice none 0 0, .slice none 0 0] 25)).heap.size := by simp
  have HA := Lib.hid hA
  have HX := Lib.hid hX
  have HY := Lib.hid hY
  clear hA hX hY
  go_enter Tryd.func40, Tryd.ntmps40
  go_upto_region 1 with fail
  generalize (w.alloc (.cells #[.int .i64 x0, .int .i64 x1, .string x2, .slice x3 x4 x5, .slice x6 x7 x8] 25)).alloc (.cells #[.int .i64 0, .int .i64 0, .string ⟨#[]⟩, .slice none 0 0, .slice none 0 0] 25) = wa at *
  obtain ⟨c0, c1, c2, c3, c4⟩ := HX.out.cells5
  go_wp2_with fail
  refine (HCR.out _ HA.out).mono ?_; rintro e w1 ⟨rfl, hw1⟩
  have HB1 := Lib.hid (HA.out.trans (hw1.mono HA.out.size))
  have HY1 := Lib.hid (HY.out.below hw1 HY.out.lt)
  clear hw1 c0 c1 c2 c3 c4 HA HX HY HCR
  obtain ⟨d0, d1, d2, d3, d4⟩ := HY1.out.cells5
  have f0 := HY1.out.frozen 0
  have f1 := HY1.out.frozen 1
  have f2 := HY1.out.frozen 2
  have f3 := HY1.out.frozen 3
  have f4 := HY1.out.frozen 4
  go_wp2_with fail
  clear d0 d1 d2 d3 d4 f0 f1 f2 f3 f4
  have F := point_fin (r := (none, 1)) (S2 := (fun _ => False)) (w := w) (w2 := w1) (y := w.heap.size + 1) (by omega) HB1.out HY1.out (nd0_in 0 (by unfold I64; omega) _ _) (fun b hb => hb.elim)
  unfold set5 at F
  generalize (((((w1).setCell ⟨w.heap.size + 1, 0, none⟩ (.int .i64 0)).setCell ⟨w.heap.size + 1, 1, none⟩ (.int .i64 0)).setCell ⟨w.heap.size + 1, 2, none⟩ (.string ⟨#[]⟩)).setCell ⟨w.heap.size + 1, 3, none⟩ (.slice none 0 0)).setCell ⟨w.heap.size + 1, 4, none⟩ (.slice none 0 0) = WF at *
  obtain ⟨F1, F2⟩ := F
  obtain ⟨q0, q1, q2, q3, q4⟩ := F1.cells5
  refine bodyPost_ret (v := .tuple #[.agg #[.int .i64 0, .int .i64 0, .string ⟨#[]⟩, .slice none 0 0, .slice none 0 0], .int .i64 1]) (by simp [results, Tryd.results40, go_sem, q0, q1, q2, q3, q4]) rfl ?_
  rw [HR.out]; exact F2
theorem pGet_form (n : Nd) (path : ByteArray) (x0 x1 : Int) (x2 : ByteArray) (x3 : Option Addr) (x4 x5 : Nat) (x6 : Option Addr) (x7 x8 : Nat) (w : World)
    (HCR : Hid (∀ w', Below w.heap.size w w' → Calls Tryd.prog 54 #[.agg #[.int .i64 x0, .int .i64 x1, .string x2, .slice x3 x4 x5, .slice x6 x7 x8]] w' (BoolBel true w'))) (HFM : Hid (∀ w', Calls Tryd.prog 55 #[.string path] w' (FormEnd false w'))) (HR : Hid (pointN n path = (none, 3))) :
    Calls Tryd.prog 40 #[.agg #[.int .i64 x0, .int .i64 x1, .string x2, .slice x3 x4 x5, .slice x6 x7 x8], .string path] w (PointP (pointN n path) w) := by
  have hA : Below w.heap.size w ((w.alloc (.cells #[.int .i64 x0, .int .i64 x1, .string x2, .slice x3 x4 x5, .slice x6 x7 x8] 25)).alloc (.cells #[.int .i64 0, .int .i64 0, .string ⟨#[]⟩, .slice none 0 0, .slice none 0 0] 25)) := ((Below.refl _ _).alloc (Nat.le_refl _) _).alloc (by simp) _
  have hX : Blk ((w.alloc (.cells #[.int .i64 x0, .int .i64 x1, .string x2, .slice x3 x4 x5, .slice x6 x7 x8] 25)).alloc (.cells #[.int .i64 0, .int .i64 0, .string ⟨#[]⟩, .slice none 0 0, .slice none 0 0] 25)) w.heap.size 25 #[.int .i64 x0, .int .i64 x1, .string x2, .slice x3 x4 x5, .slice x6 x7 x8] := (Blk.new w _ _).alloc _
  have hY : Blk ((w.alloc (.cells #[.int .i64 x0, .int .i64 x1, .string x2, .slice x3 x4 x5, .slice x6 x7 x8] 25)).alloc (.cells #[.int .i64 0, .int .i64 0, .string ⟨#[]⟩, .slice none 0 0, .slice none 0 0] 25)) (w.heap.size + 1) 25 #[.int .i64 0, .int .i64 0, .string ⟨#[]⟩, .slice none 0 0, .slice none 0 0] := by
    have := Blk.new (w.alloc (.cells #[.int .i64 x0, .int .i64 x1, .string x2, .slice x3 x4 x5, .slice x6 x7 x8] 25)) 25 #[.int .i64 0, .int .i64 0, .string ⟨#[]⟩, .slice none 0 0, .slice none 0 0]
    simpa using this
  have hZ : w.heap.size + 2 = ((w.alloc (.cells #[.int .i64 x0, .int .i64 x1, .string x2, .slice x3 x4 x5, .slice x6 x7 x8] 25)).alloc (.cells #[.int .i64 0, .int .i64 0, .string ⟨#[]⟩, .slice none 0 0, .slice none 0 0] 25)).heap.size := by simp
  have HA := Lib.hid hA
  have HX := Lib.hid hX
  have HY := Lib.hid hY
  clear hA hX hY
  go_enter Tryd.func40, Tryd.ntmps40
  go_upto_region 1 with fail
  generalize (w.alloc (.cells #[.int .i64 x0, .int .i64 x1, .string x2, .slice x3 x4 x5, .slice x6 x7 x8] 25)).alloc (.cells #[.int .i64 0, .int .i64 0, .string ⟨#[]⟩, .slice none 0 0, .slice none 0 0] 25) = wa at *
  obtain ⟨c0, c1, c2, c3, c4⟩ := HX.out.cells5
  go_wp2_with fail
  refine (HCR.out _ HA.out).mono ?_; rintro e w1 ⟨rfl, hw1⟩
  have HB1 := Lib.hid (HA.out.trans (hw1.mono HA.out.size))
  have HY1 := Lib.hid (HY.out.below hw1 HY.out.lt)
  clear hw1 c0 c1 c2 c3 c4 HA HX HY HCR
  go_wp2_with fail
  refine (HFM.out _ : Calls _ _ _ _ _).mono ?_; rintro e w2 ⟨rfl, hw2⟩; obtain rfl : _ = w2 := hw2
  obtain ⟨d0, d1, d2, d3, d4⟩ := HY1.out.cells5
  have f0 := HY1.out.frozen 0
  have f1 := HY1.out.frozen 1
  have f2 := HY1.out.frozen 2
  have f3 := HY1.out.frozen 3
  have f4 := HY1.out.frozen 4
  go_wp2_with fail
  clear d0 d1 d2 d3 d4 f0 f1 f2 f3 f4
  have F := point_fin (r := (none, 3)) (S2 := (fun _ => False)) (w := w) (w2 := w1) (y := w.heap.size + 1) (by omega) HB1.out HY1.out (nd0_in 0 (by unfold I64; omega) _ _) (fun b hb => hb.elim)
  unfold set5 at F
  generalize (((((w1).setCell ⟨w.heap.size + 1, 0, none⟩ (.int .i64 0)).setCell ⟨w.heap.size + 1, 1, none⟩ (.int .i64 0)).setCell ⟨w.heap.size + 1, 2, none⟩ (.string ⟨#[]⟩)).setCell ⟨w.heap.size + 1, 3, none⟩ (.slice none 0 0)).setCell ⟨w.heap.size + 1, 4, none⟩ (.slice none 0 0) = WF at *
  obtain ⟨F1, F2⟩ := F
  obtain ⟨q0, q1, q2, q3, q4⟩ := F1.cells5
  refine bodyPost_ret (v := .tuple #[.agg #[.int .i64 0, .int .i64 0, .string ⟨#[]⟩, .slice none 0 0, .slice none 0 0], .int .i64 3]) (by simp [results, Tryd.results40, go_sem, q0, q1, q2, q3, q4]) rfl ?_
  rw [HR.out]; exact F2
set_option maxHeartbeats 2000000 in
theorem pGet_walk (n : Nd) (path : ByteArray) (x0 x1 : Int) (x2 : ByteArray) (x3 : Option Addr) (x4 x5 : Nat) (x6 : Option Addr) (x7 x8 : Nat) (w : World)
    (HCR : Hid (∀ w', Below w.heap.size w w' → Calls Tryd.prog 54 #[.agg #[.int .i64 x0, .int .i64 x1, .string x2, .slice x3 x4 x5, .slice x6 x7 x8]] w' (BoolBel true w'))) (HFM : Hid (∀ w', Calls Tryd.prog 55 #[.string path] w' (FormEnd true w')))
    (HN : Hid (NdIn w (· < w.heap.size) n [.int .i64 x0, .int .i64 x1, .string x2, .slice x3 x4 x5, .slice x6 x7 x8])) (HSZ : Hid (sizeOk n ∧ n.count ≤ 1000000)) (HPL : Hid (path.size ≤ 1000)) (HM : Hid (MaxOK w))
    (R : Option Nd) (HR : Hid (getN (partsP path) n = R)) (HP : Hid ((R = none → pointN n path = (none, 7)) ∧ ∀ m, R = some m → pointN n path = (some m, 0))) :
    Calls Tryd.prog 40 #[.agg #[.int .i64 x0, .int .i64 x1, .string x2, .slice x3 x4 x5, .slice x6 x7 x8], .string path] w (PointP (pointN n path) w) := by
  have hmf : ∀ (fn : Fn) (first cap : Array Value) (w : World), (Instr.makeFunc fn first cap).run Tryd.prog w = .ok (.func fn first cap) w := fun _ _ _ _ => rfl
  have hA : Below w.heap.size w ((w.alloc (.cells #[.int .i64 x0, .int .i64 x1, .string x2, .slice x3 x4 x5, .slice x6 x7 x8] 25)).alloc (.cells #[.int .i64 0, .int .i64 0, .string ⟨#[]⟩, .slice none 0 0, .slice none 0 0] 25)) := ((Below.refl _ _).alloc (Nat.le_refl _) _).alloc (by simp) _
  have hX : Blk ((w.alloc (.cells #[.int .i64 x0, .int .i64 x1, .string x2, .slice x3 x4 x5, .slice x6 x7 x8] 25)).alloc (.cells #[.int .i64 0, .int .i64 0, .string ⟨#[]⟩, .slice none 0 0, .slice none 0 0] 25)) w.heap.size 25 #[.int .i64 x0, .int .i64 x1, .string x2, .slice x3 x4 x5, .slice x6 x7 x8] := (Blk.new w _ _).alloc _
  have hY : Blk ((w.alloc (.cells #[.int .i64 x0, .int .i64 x1, .string x2, .slice x3 x4 x5, .slice x6 x7 x8] 25)).alloc (.cells #[.int .i64 0, .int .i64 0, .string ⟨#[]⟩, .slice none 0 0, .slice none 0 0] 25)) (w.heap.size + 1) 25 #[.int .i64 0, .int .i64 0, .string ⟨#[]⟩, .slice none 0 0, .slice none 0 0] := by
    have := Blk.new (w.alloc (.cells #[.int .i64 x0, .int .i64 x1, .string x2, .slice x3 x4 x5, .slice x6 x7 x8] 25)) 25 #[.int .i64 0, .int .i64 0, .string ⟨#[]⟩, .slice none 0 0, .slice none 0 0]
    simpa using this
  have hZ : w.heap.size + 2 = ((w.alloc (.cells #[.int .i64 x0, .int .i64 x1, .string x2, .slice x3 x4 x5, .slice x6 x7 x8] 25)).alloc (.cells #[.int .i64 0, .int .i64 0, .string ⟨#[]⟩, .slice none 0 0, .slice none 0 0] 25)).heap.size := by simp
  have HA := Lib.hid hA
  have HX := Lib.hid hX
  have HY := Lib.hid hY
  clear hA hX hY
  go_enter Tryd.func40, Tryd.ntmps40
  go_upto_region 1 with fail
  generalize (w.alloc (.cells #[.int .i64 x0, .int .i64 x1, .string x2, .slice x3 x4 x5, .slice x6 x7 x8] 25)).alloc (.cells #[.int .i64 0, .int .i64 0, .string ⟨#[]⟩, .slice none 0 0, .slice none 0 0] 25) = wa at *
  obtain ⟨c0, c1, c2, c3, c4⟩ := HX.out.cells5
  go_wp2_with fail
  refine (HCR.out _ HA.out).mono ?_; rintro e w1 ⟨rfl, hw1⟩
  have hB1 := HA.out.trans (hw1.mono HA.out.size)
  have HB1 := Lib.hid hB1
  have HY1 := Lib.hid (HY.out.below hw1 HY.out.lt)
  have HX1 := Lib.hid (HX.out.below hw1 HX.out.lt)
  have hz1 : w.heap.size + 2 ≤ w1.heap.size := by have := hw1.size; omega
  clear hw1 c0 c1 c2 c3 c4 HA HX HY HCR hB1
  go_wp2_with fail
  refine (HFM.out _ : Calls _ _ _ _ _).mono ?_; rintro e w2 ⟨rfl, hw2⟩; obtain rfl : _ = w2 := hw2
  go_wp2_with fail
  refine (parts_any path _).mono ?_; rintro e w2 ⟨rfl, hw2⟩
  obtain rfl := hw2
  have hbp : Blk (w1.alloc (.cells #[.string path] 9)) w1.heap.size 9 #[.string path] := Blk.new w1 _ _
  have HM1 := Lib.hid ((HM.out.below HB1.out).below ((Below.refl w1.heap.size w1).alloc (Nat.le_refl _) (.cells #[.string path] 9)))
  have HNX := Lib.hid (next_any w1.heap.size path _ hbp HPL.out HM1.out)
  clear hbp
  go_wp2_with fail
  refine (HNX.out : Calls _ _ _ _ _).mono ?_; rintro e w3 ⟨s0, q0, b0, rfl, hq0, hblk0, hqz0, hg0, hM0⟩
  have hzA : w1.heap.size + 1 = (w1.alloc (.cells #[.string path] 9)).heap.size := by simp
  have HB3 : Hid (Below w.heap.size w w3) := (HB1.out.alloc HB1.out.size _).grown hg0 (by simp; have := HB1.out.size; omega) (fun k hk => by injection hk with hk; omega)
  have HX3 : Hid (Blk w3 w.heap.size 25 #[.int .i64 x0, .int .i64 x1, .string x2, .slice x3 x4 x5, .slice x6 x7 x8]) := (HX1.out.alloc _).grown hg0 (fun e => by injection e with e; omega)
  have HY3 : Hid (Blk w3 (w.heap.size + 1) 25 #[.int .i64 0, .int .i64 0, .string ⟨#[]⟩, .slice none 0 0, .slice none 0 0]) := (HY1.out.alloc _).grown hg0 (fun e => by injection e with e; omega)
  have HQ0 : Hid (Blk w3 w1.heap.size 9 #[.string q0]) := hblk0
  have HM3 := Lib.hid hM0
  have hz3 : w1.heap.size < w3.heap.size := by have := hg0.size; omega
  have HALL0 : Hid (partsP path = [] ++ (if b0 = true then s0 :: partsF q0.size q0.toList else [])) := hq0
  have HLEN := Lib.hid (partsP_len path)
  clear hq0 hblk0 hg0 hM0 HNX HB1 HX1 HY1 HM1 HFM hzA
  go_wp2_with fail
  go_loopw [6, 8, 9] (fun t6 t8 t9 wr => ∃ (done : List ByteArray) (Aw : Option Addr) (cw : Nat) (s q : ByteArray) (b : Bool), t6 = .slice Aw done.length cw ∧ t8 = .string s ∧ t9 = .bool b ∧ Hid (partsP path = done ++ (if b = true then s :: partsF q.size q.toList else [])) ∧ Hid (wr.ownsRow (w1.heap.size + 1) 9 1 (.slice Aw done.length cw) done.length (done.map Value.string)) ∧ Hid (Blk wr w1.heap.size 9 #[.string q]) ∧ q.size ≤ 1000 ∧
      Hid (Blk wr w.heap.size 25 #[.int .i64 x0, .int .i64 x1, .string x2, .slice x3 x4 x5, .slice x6 x7 x8]) ∧ Hid (Blk wr (w.heap.size + 1) 25 #[.int .i64 0, .int .i64 0, .string ⟨#[]⟩, .slice none 0 0, .slice none 0 0]) ∧ Hid (Below w.heap.size w wr) ∧ Hid (MaxOK wr) ∧ w1.heap.size < wr.heap.size)
    (fun t6 _ _ _ => (partsP path).length - sLenP t6)
  case atStart => exact ⟨[], none, 0, s0, q0, b0, rfl, rfl, rfl, HALL0, World.ownsRow_nil _ _ _ _, HQ0, hqz0, HX3, HY3, HB3, HM3, hz3⟩
  case round =>
    clear HALL0 HQ0 HX3 HY3 HB3 HM3 hz3 hqz0
    obtain ⟨done, Aw, cw, s, q, b, rfl, rfl, rfl, hall, ho, hq, hqz, hx, hy, hb, hm, hz⟩ := hrel
    obtain ⟨wo, rfl⟩ : ∃ wo : World, wo = wr := ⟨_, rfl⟩
    cases b with
    | true =>
      have hall2 : partsP path = done ++ s :: partsF q.size q.toList := hall.out
      have hdl : done.length < (partsP path).length := by rw [hall2]; simp
      have hdl2 : done.length ≤ 1000 := by have := HLEN.out; have := HPL.out; omega
      have HALL := Lib.hid hall2
      have hown : ∀ g, (Value.slice Aw done.length cw).ownBlock = some g → w1.heap.size + 1 ≤ g := fun g hg => (own_lt ho.out hg).1
      have HOWN := Lib.hid hown
      clear hall2 hall hown
      go_wp2_with (at_builtin; refine wpList_pushStrP _ rfl _ _ rfl (w1.heap.size + 1) (.slice Aw done.length cw) done.length (done.map Value.string) (by first | rfl | simp [Act.eval]) ho.out s (by first | rfl | simp [Act.eval]) ?lim ?hB ?_; (case lim => omega); (case hB => omega); intro v' w4 ho4 hg4; obtain ⟨Av, cv, rfl⟩ := own_form ho4; have HO4 := Lib.hid ho4; have HG4 := Lib.hid hg4; clear ho4 hg4)
      have hno : ∀ g, g ≤ w1.heap.size → some g ≠ (Value.slice Aw done.length cw).ownBlock := fun g hg e => by have := HOWN.out g e.symm; omega
      have HQ4 := Lib.hid (hq.out.grown HG4.out (hno _ (by omega)))
      have HX4 := Lib.hid (hx.out.grown HG4.out (hno _ (by omega)))
      have HY4 := Lib.hid (hy.out.grown HG4.out (hno _ (by omega)))
      have HB4 := Lib.hid (hb.out.grown HG4.out hb.out.size (fun k hk => by have := HOWN.out k hk; omega))
      have HM4 := Lib.hid (hm.out.grownR HG4.out (hno _ (by omega)))
      have hz4 : w1.heap.size < w4.heap.size := by have := HG4.out.size; omega
      clear hno
      have HNX := Lib.hid (next_any w1.heap.size q w4 HQ4.out hqz HM4.out)
      go_wp2_with fail
      refine (HNX.out : Calls _ _ _ _ _).mono ?_; rintro e w5 ⟨s2, q2, b2, rfl, hq2, hblk2, hqz2, hg2, hM2⟩
      have hown4 : ∀ g, (Value.slice Av (done.length + 1) cv).ownBlock = some g → w1.heap.size + 1 ≤ g := fun g hg => (own_lt HO4.out hg).1
      have HO5 : Hid (w5.ownsRow (w1.heap.size + 1) 9 1 (.slice Av (done.length + 1) cv) (done.length + 1) ((done ++ [s]).map Value.string)) := by
        have := World.ownsRow.kept HO4.out hg2 (.inr (fun e => by have := hown4 _ e; omega))
        rw [List.map_append]
        exact this
      have HX5 := Lib.hid (HX4.out.grown hg2 (fun e => by injection e with e; omega))
      have HY5 := Lib.hid (HY4.out.grown hg2 (fun e => by injection e with e; omega))
      have HB5 := Lib.hid (HB4.out.grown hg2 HB4.out.size (fun k hk => by injection hk with hk; omega))
      have hz5 : w1.heap.size < w5.heap.size := by have := hg2.size; omega
      have HM5 := Lib.hid hM2
      have HQ5 := Lib.hid hblk2
      have HALL5 : Hid (partsP path = (done ++ [s]) ++ (if b2 = true then s2 :: partsF q2.size q2.toList else [])) := by
        show _ = _
        rw [HALL.out, hq2]; simp
      clear HNX hq2 hblk2 hg2 hM2 hown4 ho hq hx hy hb hm HO4 HG4 HQ4 HX4 HY4 HB4 HM4
      go_wp2_with fail
      go_roundw
      case rel => exact ⟨done ++ [s], Av, cv, s2, q2, b2, by simp, rfl, rfl, HALL5, by rw [show (done ++ [s]).length = done.length + 1 by simp]; exact HO5, HQ5, hqz2, HX5, HY5, HB5, HM5, hz5⟩
      case measure => simp [sLenP]; omega
    | false =>
      have hall2 : partsP path = done := by have := hall.out; simpa using this
      have hcp := own_cap ho.out
      have hwz := hb.out.size
      have HGET : Hid (Calls Tryd.prog 57 #[.agg #[.int .i64 x0, .int .i64 x1, .string x2, .slice x3 x4 x5, .slice x6 x7 x8], .slice Aw done.length cw] wo (GetP R (· < w.heap.size) wo)) := by
        have := pget_any done (fun s hs => by have := partsP_size path s (by rw [hall2]; exact hs); have := HPL.out; omega) n [.int .i64 x0, .int .i64 x1, .string x2, .slice x3 x4 x5, .slice x6 x7 x8] wo (· < w.heap.size) Aw cw (NdIn.on HN.out (fun b hb => hb) hb.out) (fun b hlt => Nat.lt_of_lt_of_le hlt hwz) (own_readsP ho.out) hcp.1 hcp.2 HSZ.out.1 HSZ.out.2
        rw [← hall2, HR.out] at this
        rw [hall2] at this
        exact this
      obtain ⟨c0, c1, c2, c3, c4⟩ := hx.out.cells5
      have HMM : Hid (∀ m, R = some m → sizeOk m) := fun m hm => (getN_ok _ _ _ (HR.out.trans hm) HSZ.out.1 HSZ.out.2).1
      clear hall ho hcp hall2 HR hq hm
      go_wp2_with fail
      refine (HGET.out : Calls _ _ _ _ _).mono ?_; rintro e w4 ⟨y0, y1, y2, y3, y4, y5, y6, y7, y8, rfl, hn4, hw4⟩
      have HN4 := Lib.hid hn4
      have HB4 := Lib.hid (hb.out.trans (hw4.mono hwz))
      have HY4 := Lib.hid (hy.out.below hw4 hy.out.lt)
      have hz4 : wo.heap.size ≤ w4.heap.size := hw4.size
      clear hn4 hw4 hb hx hy c0 c1 c2 c3 c4 HGET
      have HY5 : Hid (Blk (w4.alloc (.cells #[.int .i64 y0, .int .i64 y1, .string y2, .slice y3 y4 y5, .slice y6 y7 y8] 25)) (w.heap.size + 1) 25 #[.int .i64 0, .int .i64 0, .string ⟨#[]⟩, .slice none 0 0, .slice none 0 0]) := HY4.out.alloc _
      have HB5 : Hid (Below w.heap.size w (w4.alloc (.cells #[.int .i64 y0, .int .i64 y1, .string y2, .slice y3 y4 y5, .slice y6 y7 y8] 25))) := HB4.out.alloc HB4.out.size _
      cases R with
      | none =>
        obtain ⟨d0, d1, d2, d3, d4⟩ := HY5.out.cells5
        have f0 := HY5.out.frozen 0
        have f1 := HY5.out.frozen 1
        have f2 := HY5.out.frozen 2
        have f3 := HY5.out.frozen 3
        have f4 := HY5.out.frozen 4
        go_wp2_with fail
        clear d0 d1 d2 d3 d4 f0 f1 f2 f3 f4
        have F := point_fin (r := (none, 7)) (S2 := (fun _ => False)) (w := w) (w2 := (w4.alloc (.cells #[.int .i64 y0, .int .i64 y1, .string y2, .slice y3 y4 y5, .slice y6 y7 y8] 25))) (y := w.heap.size + 1) (by omega) HB5.out HY5.out (nd0_in 0 (by unfold I64; omega) _ _) (fun b hb => hb.elim)
        unfold set5 at F
        generalize ((((((w4.alloc (.cells #[.int .i64 y0, .int .i64 y1, .string y2, .slice y3 y4 y5, .slice y6 y7 y8] 25))).setCell ⟨w.heap.size + 1, 0, none⟩ (.int .i64 0)).setCell ⟨w.heap.size + 1, 1, none⟩ (.int .i64 0)).setCell ⟨w.heap.size + 1, 2, none⟩ (.string ⟨#[]⟩)).setCell ⟨w.heap.size + 1, 3, none⟩ (.slice none 0 0)).setCell ⟨w.heap.size + 1, 4, none⟩ (.slice none 0 0) = WF at *
        obtain ⟨F1, F2⟩ := F
        obtain ⟨q0, q1, q2, q3, q4⟩ := F1.cells5
        refine bodyPost_ret (v := .tuple #[.agg #[.int .i64 0, .int .i64 0, .string ⟨#[]⟩, .slice none 0 0, .slice none 0 0], .int .i64 7]) (by simp [results, Tryd.results40, go_sem, q0, q1, q2, q3, q4]) rfl ?_
        rw [HP.out.1 (by first | trivial | rfl)]; exact F2
      | some m =>
        have hn6 : NdIs w4 w4.heap.size m [.int .i64 y0, .int .i64 y1, .string y2, .slice y3 y4 y5, .slice y6 y7 y8] := NdIn.is (fun b hb => by
          rcases hb with hb | hb
          · have : b < w.heap.size := hb
            omega
          · exact hb.2) _ _ HN4.out
        have hk1 : (w4.alloc (.cells #[.int .i64 y0, .int .i64 y1, .string y2, .slice y3 y4 y5, .slice y6 y7 y8] 25)).heap.size = w4.heap.size + 1 := by simp
        have hk2 : ((w4.alloc (.cells #[.int .i64 y0, .int .i64 y1, .string y2, .slice y3 y4 y5, .slice y6 y7 y8] 25)).alloc (.cells #[.string ⟨#[]⟩] 9)).heap.size = w4.heap.size + 2 := by simp
        have hk3 : (((w4.alloc (.cells #[.int .i64 y0, .int .i64 y1, .string y2, .slice y3 y4 y5, .slice y6 y7 y8] 25)).alloc (.cells #[.string ⟨#[]⟩] 9)).alloc (.cells #[.int .i64 y0, .int .i64 y1, .string y2, .slice y3 y4 y5, .slice y6 y7 y8] 25)).heap.size = w4.heap.size + 3 := by simp
        have hw5 : Below w4.heap.size w4 (((w4.alloc (.cells #[.int .i64 y0, .int .i64 y1, .string y2, .slice y3 y4 y5, .slice y6 y7 y8] 25)).alloc (.cells #[.string ⟨#[]⟩] 9)).alloc (.cells #[.int .i64 y0, .int .i64 y1, .string y2, .slice y3 y4 y5, .slice y6 y7 y8] 25)) := (((Below.refl _ _).alloc (Nat.le_refl _) _).alloc (by simp) _).alloc (by simp; omega) _
        have hb1 : Blk (((w4.alloc (.cells #[.int .i64 y0, .int .i64 y1, .string y2, .slice y3 y4 y5, .slice y6 y7 y8] 25)).alloc (.cells #[.string ⟨#[]⟩] 9)).alloc (.cells #[.int .i64 y0, .int .i64 y1, .string y2, .slice y3 y4 y5, .slice y6 y7 y8] 25)) (w4.heap.size + 1) 9 #[.string ⟨#[]⟩] := by
          have := (Blk.new (w4.alloc (.cells #[.int .i64 y0, .int .i64 y1, .string y2, .slice y3 y4 y5, .slice y6 y7 y8] 25)) 9 #[.string ⟨#[]⟩]).alloc (.cells #[.int .i64 y0, .int .i64 y1, .string y2, .slice y3 y4 y5, .slice y6 y7 y8] 25)
          rw [hk1] at this; exact this
        have hb2 : Blk (((w4.alloc (.cells #[.int .i64 y0, .int .i64 y1, .string y2, .slice y3 y4 y5, .slice y6 y7 y8] 25)).alloc (.cells #[.string ⟨#[]⟩] 9)).alloc (.cells #[.int .i64 y0, .int .i64 y1, .string y2, .slice y3 y4 y5, .slice y6 y7 y8] 25)) (w4.heap.size + 2) 25 #[.int .i64 y0, .int .i64 y1, .string y2, .slice y3 y4 y5, .slice y6 y7 y8] := by
          have := Blk.new ((w4.alloc (.cells #[.int .i64 y0, .int .i64 y1, .string y2, .slice y3 y4 y5, .slice y6 y7 y8] 25)).alloc (.cells #[.string ⟨#[]⟩] 9)) 25 #[.int .i64 y0, .int .i64 y1, .string y2, .slice y3 y4 y5, .slice y6 y7 y8]
          rw [hk2] at this; exact this
        have HCF : Hid (Calls Tryd.prog 21 #[.agg #[.int .i64 7, .int .i64 0, .string ⟨#[]⟩, .slice (some ⟨w4.heap.size + 1, 0, none⟩) 1 1, .slice (some ⟨w4.heap.size + 2, 0, none⟩) 1 1], .string ⟨#[]⟩] (((w4.alloc (.cells #[.int .i64 y0, .int .i64 y1, .string y2, .slice y3 y4 y5, .slice y6 y7 y8] 25)).alloc (.cells #[.string ⟨#[]⟩] 9)).alloc (.cells #[.int .i64 y0, .int .i64 y1, .string y2, .slice y3 y4 y5, .slice y6 y7 y8] 25)) (FindP (some m) (((w4.alloc (.cells #[.int .i64 y0, .int .i64 y1, .string y2, .slice y3 y4 y5, .slice y6 y7 y8] 25)).alloc (.cells #[.string ⟨#[]⟩] 9)).alloc (.cells #[.int .i64 y0, .int .i64 y1, .string y2, .slice y3 y4 y5, .slice y6 y7 y8] 25)))) := by
          have := cFind_any (.mk 7 0 ⟨#[]⟩ [⟨#[]⟩] [m]) ⟨#[]⟩ _ (((w4.alloc (.cells #[.int .i64 y0, .int .i64 y1, .string y2, .slice y3 y4 y5, .slice y6 y7 y8] 25)).alloc (.cells #[.string ⟨#[]⟩] 9)).alloc (.cells #[.int .i64 y0, .int .i64 y1, .string y2, .slice y3 y4 y5, .slice y6 y7 y8] 25)) _ (one_node hn6 rfl (((w4.alloc (.cells #[.int .i64 y0, .int .i64 y1, .string y2, .slice y3 y4 y5, .slice y6 y7 y8] 25)).alloc (.cells #[.string ⟨#[]⟩] 9)).alloc (.cells #[.int .i64 y0, .int .i64 y1, .string y2, .slice y3 y4 y5, .slice y6 y7 y8] 25)) (w4.heap.size + 1) (w4.heap.size + 2) (by omega) (by omega) hw5 hb1 hb2) (Nat.le_refl _) (by
            unfold sizeOk sizeOkL sizeOkL
            exact ⟨by omega, by decide, by intro s hs; simp at hs; subst hs; decide, by simp, HMM.out m rfl, trivial⟩)
          rw [find_one] at this
          exact this
        have HY6 : Hid (Blk (((w4.alloc (.cells #[.int .i64 y0, .int .i64 y1, .string y2, .slice y3 y4 y5, .slice y6 y7 y8] 25)).alloc (.cells #[.string ⟨#[]⟩] 9)).alloc (.cells #[.int .i64 y0, .int .i64 y1, .string y2, .slice y3 y4 y5, .slice y6 y7 y8] 25)) (w.heap.size + 1) 25 #[.int .i64 0, .int .i64 0, .string ⟨#[]⟩, .slice none 0 0, .slice none 0 0]) := (HY5.out.alloc _).alloc _
        have HB6 : Hid (Below w.heap.size w (((w4.alloc (.cells #[.int .i64 y0, .int .i64 y1, .string y2, .slice y3 y4 y5, .slice y6 y7 y8] 25)).alloc (.cells #[.string ⟨#[]⟩] 9)).alloc (.cells #[.int .i64 y0, .int .i64 y1, .string y2, .slice y3 y4 y5, .slice y6 y7 y8] 25))) := (HB5.out.alloc HB5.out.size _).alloc (by simp; omega) _
        have HK3 := Lib.hid hk3
        clear hn6 hk1 hk2 hk3 hw5 hb1 hb2 HMM HY5 HB5 HN4 HB4 HY4
        go_wp2_with fail
        refine (HCF.out : Calls _ _ _ _ _).mono ?_; rintro e w6 ⟨v0, v1, v2, v3, v4, v5, v6, v7, v8, rfl, hn6, hw6⟩
        have HN7 : Hid (NdIn w6 (Since (((w4.alloc (.cells #[.int .i64 y0, .int .i64 y1, .string y2, .slice y3 y4 y5, .slice y6 y7 y8] 25)).alloc (.cells #[.string ⟨#[]⟩] 9)).alloc (.cells #[.int .i64 y0, .int .i64 y1, .string y2, .slice y3 y4 y5, .slice y6 y7 y8] 25)) w6) m [.int .i64 v0, .int .i64 v1, .string v2, .slice v3 v4 v5, .slice v6 v7 v8]) := hn6
        have HY7 : Hid (Blk (w6.alloc (.cells #[.int .i64 v0, .int .i64 v1, .string v2, .slice v3 v4 v5, .slice v6 v7 v8] 25)) (w.heap.size + 1) 25 #[.int .i64 0, .int .i64 0, .string ⟨#[]⟩, .slice none 0 0, .slice none 0 0]) := (HY6.out.below hw6 HY6.out.lt).alloc _
        have hb7 := HB6.out.trans (hw6.mono HB6.out.size)
        have HB7 : Hid (Below w.heap.size w (w6.alloc (.cells #[.int .i64 v0, .int .i64 v1, .string v2, .slice v3 v4 v5, .slice v6 v7 v8] 25))) := hb7.alloc hb7.size _
        have hz6 : w4.heap.size + 3 ≤ w6.heap.size := by have := hw6.size; have := HK3.out; omega
        clear hn6 hw6 hb7 HCF HY6 HB6
        obtain ⟨d0, d1, d2, d3, d4⟩ := HY7.out.cells5
        have f0 := HY7.out.frozen 0
        have f1 := HY7.out.frozen 1
        have f2 := HY7.out.frozen 2
        have f3 := HY7.out.frozen 3
        have f4 := HY7.out.frozen 4
        go_wp2_with fail
        clear d0 d1 d2 d3 d4 f0 f1 f2 f3 f4
        have F := point_fin (r := (some m, 0)) (S2 := (Since (((w4.alloc (.cells #[.int .i64 y0, .int .i64 y1, .string y2, .slice y3 y4 y5, .slice y6 y7 y8] 25)).alloc (.cells #[.string ⟨#[]⟩] 9)).alloc (.cells #[.int .i64 y0, .int .i64 y1, .string y2, .slice y3 y4 y5, .slice y6 y7 y8] 25)) w6)) (w := w) (w2 := (w6.alloc (.cells #[.int .i64 v0, .int .i64 v1, .string v2, .slice v3 v4 v5, .slice v6 v7 v8] 25))) (y := w.heap.size + 1) (by omega) HB7.out HY7.out (NdIn.keep (fun p hp => World.cell?_alloc_lt _ _ _ hp.2) (fun _ h => h) _ _ HN7.out) (fun b hb => by
            have h1 : (((w4.alloc (.cells #[.int .i64 y0, .int .i64 y1, .string y2, .slice y3 y4 y5, .slice y6 y7 y8] 25)).alloc (.cells #[.string ⟨#[]⟩] 9)).alloc (.cells #[.int .i64 y0, .int .i64 y1, .string y2, .slice y3 y4 y5, .slice y6 y7 y8] 25)).heap.size ≤ b := hb.1
            have h2 := hb.2
            have h3 := HK3.out
            exact ⟨⟨by omega, by simp; omega⟩, by omega⟩)
        unfold set5 at F
        generalize ((((((w6.alloc (.cells #[.int .i64 v0, .int .i64 v1, .string v2, .slice v3 v4 v5, .slice v6 v7 v8] 25))).setCell ⟨w.heap.size + 1, 0, none⟩ (.int .i64 v0)).setCell ⟨w.heap.size + 1, 1, none⟩ (.int .i64 v1)).setCell ⟨w.heap.size + 1, 2, none⟩ (.string v2)).setCell ⟨w.heap.size + 1, 3, none⟩ (.slice v3 v4 v5)).setCell ⟨w.heap.size + 1, 4, none⟩ (.slice v6 v7 v8) = WF at *
        obtain ⟨F1, F2⟩ := F
        obtain ⟨q0, q1, q2, q3, q4⟩ := F1.cells5
        refine bodyPost_ret (v := .tuple #[.agg #[.int .i64 v0, .int .i64 v1, .string v2, .slice v3 v4 v5, .slice v6 v7 v8], .int .i64 0]) (by simp [results, Tryd.results40, go_sem, q0, q1, q2, q3, q4]) rfl ?_
        rw [HP.out.2 m rfl]; exact F2
theorem pointN_some {n : Nd} {path : ByteArray} {m : Nd} (hr : rightD n 0 = true) (hf : formP path = true) (hg : getN (partsP path) n = some m) : pointN n path = (some m, 0) := by
  unfold pointN
  rw [if_neg (by simp [hr]), if_neg (by simp [hf]), hg]
theorem pointN_none {n : Nd} {path : ByteArray} (hr : rightD n 0 = true) (hf : formP path = true) (hg : getN (partsP path) n = none) : pointN n path = (none, 7) := by
  unfold pointN
  rw [if_neg (by simp [hr]), if_neg (by simp [hf]), hg]
theorem pointN_form {n : Nd} {path : ByteArray} (hr : rightD n 0 = true) (hf : formP path = false) : pointN n path = (none, 3) := by
  unfold pointN
  rw [if_neg (by simp [hr]), if_pos hf]
theorem pGet_any (n : Nd) (path : ByteArray) (cs : List Value) (w : World) (B : Nat) (hn : NdIs w B n cs) (hB : B ≤ w.heap.size) (hs : sizeOk n) (hc : n.count ≤ 1000000) (hp : path.size ≤ 9223372036854775807) (hM : MaxOK w) :
    Calls Tryd.prog 40 #[.agg cs.toArray, .string path] w (PointP (pointN n path) w) := by
  have hn1 : NdIn w (· < w.heap.size) n cs := NdIn.mono (fun b hb => by omega) (hn.in_)
  have hl := hn.len
  obtain ⟨x0, x1, x2, x3, x4, x5, x6, x7, x8, rfl⟩ := hn1.form
  have HCR : Hid (∀ w', Below w.heap.size w w' → Calls Tryd.prog 54 #[.agg #[.int .i64 x0, .int .i64 x1, .string x2, .slice x3 x4 x5, .slice x6 x7 x8]] w' (BoolBel (rightD n 0) w')) := fun w' h' =>
    CRight_any n [.int .i64 x0, .int .i64 x1, .string x2, .slice x3 x4 x5, .slice x6 x7 x8] w' B (hn.below (h'.mono hB)) (Nat.le_trans hB h'.size)
  have HFM : Hid (∀ w', Calls Tryd.prog 55 #[.string path] w' (FormEnd (formP path) w')) := fun w' => form_any path w' hp
  cases hr : rightD n 0 with
  | false =>
    rw [hr] at HCR
    exact pGet_right n path x0 x1 x2 x3 x4 x5 x6 x7 x8 w HCR (show _ = _ by unfold pointN; rw [if_pos hr])
  | true =>
    rw [hr] at HCR
    cases hf : formP path with
    | false =>
      rw [hf] at HFM
      exact pGet_form n path x0 x1 x2 x3 x4 x5 x6 x7 x8 w HCR HFM (pointN_form hr hf)
    | true =>
      rw [hf] at HFM
      have hpl : path.size ≤ 1000 := by
        unfold formP at hf
        simp only [Bool.and_eq_true, decide_eq_true_eq] at hf
        exact hf.1.2
      refine pGet_walk n path x0 x1 x2 x3 x4 x5 x6 x7 x8 w HCR HFM hn1 ⟨hs, hc⟩ hpl hM (getN (partsP path) n) rfl ⟨fun h => pointN_none hr hf h, fun m h => pointN_some hr hf h⟩
def GetNum (n : Int) (w : World) (e : Ending) (w' : World) : Prop := ∃ (c0 : Int) (c2 : ByteArray) (c3 : Option Addr) (c4 c5 : Nat) (c6 : Option Addr) (c7 c8 : Nat),
  e = .returned (.tuple #[.agg #[.int .i64 c0, .int .i64 n, .string c2, .slice c3 c4 c5, .slice c6 c7 c8], .int .i64 0]) ∧ Below w.heap.size w w'
def GetErr (c : Int) (w : World) (e : Ending) (w' : World) : Prop := ∃ (c0 c1 : Int) (c2 : ByteArray) (c3 : Option Addr) (c4 c5 : Nat) (c6 : Option Addr) (c7 c8 : Nat),
  e = .returned (.tuple #[.agg #[.int .i64 c0, .int .i64 c1, .string c2, .slice c3 c4 c5, .slice c6 c7 c8], .int .i64 c]) ∧ Below w.heap.size w w'
def num4 (n : Int) : Nd := .mk 4 n ⟨#[]⟩ [] []
theorem num4_is (n : Int) (hk : I64 n) (w : World) (B : Nat) : NdIs w B (num4 n) [.int .i64 4, .int .i64 n, .string ⟨#[]⟩, .slice none 0 0, .slice none 0 0] := by
  unfold num4 NdIs
  exact ⟨none, 0, none, 0, [], rfl, Reads.none_, Reads.none_, (by unfold NdsIs; rfl), by unfold I64; omega, hk, by (show (0 : Nat) ≤ maxLen); exact Nat.zero_le _, by simp, by simp [maxLen], by simp [maxLen]⟩
theorem NdsIs.cons {w : World} {B : Nat} {n : Nd} {cs : List Value} {ns : List Nd} {xs : List Value} (h : NdIs w B n cs) (hs : NdsIs w B ns xs) : NdsIs w B (n :: ns) (cs ++ xs) := by
  unfold NdsIs; exact ⟨cs, xs, rfl, h, hs⟩
theorem NdsIs.nil_ {w : World} {B : Nat} : NdsIs w B [] [] := by unfold NdsIs; rfl
theorem tl_lit (l : List UInt8) : (⟨l.toArray⟩ : ByteArray).toList = l := by rw [ByteArray.toList_eq]
theorem validB_ascii : ∀ l : List UInt8, (∀ c ∈ l, c.toNat < 128) → validB l = true := fun l h => by
  rw [validB_iff]
  induction l with
  | nil => exact ValidP.nil
  | cons c l ih =>
    have e := putB_ascii c (h c (by simp))
    have := ValidP.cons (r := (c.toNat : Int)) (by rw [e]; simp) (ih fun c hc => h c (by simp [hc]))
    rw [e] at this
    exact this
theorem keysB_of (ks : List ByteArray) (h : ks.Nodup) (hv : ∀ s ∈ ks, ∀ c ∈ s.toList, c.toNat < 128) : keysB ks = true := by
  unfold keysB
  exact decide_eq_true ⟨h, fun s hs => validB_ascii _ (hv s hs)⟩
theorem rightLD_cons (n : Nd) (ns : List Nd) (deep : Int) : rightLD (n :: ns) deep = (rightD n deep && rightLD ns deep) := by
  have := rightLD_at (n :: ns) 0 n deep rfl
  rw [List.drop_zero] at this
  rw [this]; rfl
theorem rightD_obj {ks : List ByteArray} {ns : List Nd} {deep : Int} (hd : deep < 24) (hl : ks.length = ns.length) (hk : keysB ks = true) (hn : rightLD ns (deep + 1) = true) : rightD (.mk 7 0 ⟨#[]⟩ ks ns) deep = true := by
  rw [rightD_eq]
  simp [bareF, hd, hl, hk, hn]
theorem rightD_arr6 {ns : List Nd} {deep : Int} (hd : deep < 24) (hn : rightLD ns (deep + 1) = true) : rightD (.mk 6 0 ⟨#[]⟩ [] ns) deep = true := by
  rw [rightD_eq]
  simp [bareF, hd, hn]
theorem rightD_num4 {n : Int} (deep : Int) (h1 : -9007199254740991 ≤ n) (h2 : n ≤ 9007199254740991) : rightD (num4 n) deep = true := by
  unfold num4
  rw [rightD_eq]
  simp [bareF, h1, h2]
theorem size_num4 {n : Int} (h : I64 n) : sizeOk (num4 n) := by
  unfold num4 sizeOk sizeOkL
  exact ⟨h, by decide, by simp, by simp, trivial⟩
theorem size_lit {k : Int} {ks : List ByteArray} {ns : List Nd} (h1 : ∀ s ∈ ks, s.size ≤ 1000000) (h2 : ks.length ≤ 1000000) (h3 : ns.length ≤ 1000000) (h4 : sizeOkL ns) : sizeOk (.mk k 0 ⟨#[]⟩ ks ns) := by
  unfold sizeOk
  exact ⟨by omega, by decide, fun s hs => by have := h1 s hs; omega, ⟨h2, h3⟩, h4⟩
theorem sizeL_cons {n : Nd} {ns : List Nd} (h : sizeOk n) (hs : sizeOkL ns) : sizeOkL (n :: ns) := by
  unfold sizeOkL; exact ⟨h, hs⟩
theorem sizeL_nil : sizeOkL [] := by unfold sizeOkL; trivial
theorem getN_find {p : ByteArray} {l : List ByteArray} {n m : Nd} (h7 : n.kind = 7) (h : findN n p = some m) : getN (p :: l) n = getN l m := by
  rw [getN, if_pos h7, h]
theorem getN_at {p : ByteArray} {l : List ByteArray} {n m : Nd} {i : Nat} (h6 : n.kind = 6) (h42 : p.toList ≠ [42]) (hp : placeF p n.kids.length = i) (hk : n.kids[i]? = some m) : getN (p :: l) n = getN l m := by
  rw [getN, if_neg (by omega), if_pos h6, if_neg h42, if_neg (by omega), hp]
  simp [hk]
theorem findN_lit {ks : List ByteArray} {ns : List Nd} {num : Int} {t x : ByteArray} {i : Nat} (h : (ks.map ByteArray.toList).findIdx? (fun s => x.toList == s) = some i) : findN (.mk 7 num t ks ns) x = ns[i]? := by
  have e : idxK ks x = some i := by
    unfold idxK
    rw [List.findIdx?_map] at h
    exact h
  simp [findN, e]
theorem count_num4 (n : Int) : (num4 n).count = 1 := by unfold num4; simp [Nd.count, Nd.count.counts]
def ndEx : Nd := .mk 7 0 ⟨#[]⟩ [⟨#[97]⟩] [.mk 6 0 ⟨#[]⟩ [] [num4 7]]
theorem resN_ok_ {n : Nd} {l : List Cl} (h : n.kind = 7) (h2 : n.keys.length = n.kids.length) : resN n l = resAcc (fun m => referO m.kids.length m l) n.keys n.keys n.kids [] [] := by unfold resN; rw [if_neg (by rw [h, h2]; simp)]
def strN (s : ByteArray) : Nd := .mk 5 0 s [] []
def refN (a b c : ByteArray) : Nd := objO [strN rofS, strN a, strN rnmS, strN b, strN rpaS, strN c]
theorem text_at {ks : List ByteArray} {ns : List Nd} {x s : ByteArray} {i : Nat} (h : (ks.map ByteArray.toList).findIdx? (fun s => x.toList == s) = some i) (hn : ns[i]? = some (strN s)) : textO (.mk 7 0 ⟨#[]⟩ ks ns) x = some s := by
  unfold textO
  rw [findN_lit h, hn]
  rfl
def oneN : Nd := .mk 7 0 ⟨#[]⟩ [⟨#[97]⟩] [num4 1]
def doneL : List Cl := [⟨⟨#[109]⟩, oneN, ⟨#[99]⟩⟩]
def badN : List Nd := [num4 1, objO [], refN ⟨#[100]⟩ ⟨#[109]⟩ ⟨#[47, 97]⟩, refN ⟨#[99]⟩ ⟨#[110]⟩ ⟨#[47, 97]⟩, refN ⟨#[99]⟩ ⟨#[109]⟩ ⟨#[47, 98]⟩, refN ⟨#[99]⟩ ⟨#[109]⟩ ⟨#[97]⟩, objO [strN rofS, strN ⟨#[99]⟩, strN rnmS, strN ⟨#[109]⟩]]
def xS : ByteArray := ⟨#[120]⟩
def hxS : ByteArray := ⟨#[35, 120]⟩
theorem hash_hx : hashB hxS = true := rfl
theorem tl_hx : tlS hxS = xS := rfl
end Go.Proofs.YthbjehbpanhdoaaDoor
namespace Go.Proofs.YthbjehbpanhdoaaDoor
open Go.RowKit Go.PlainAid
set_option linter.unusedVariables false
set_option linter.unusedSimpArgs false
def SZ (lo hi : Nat) (w : World) (v1 v2 : Value) (b : Nat) : Prop := (b < lo ∨ hi ≤ b) ∧ b < w.heap.size ∧ v1.ownBlock ≠ some b ∧ v2.ownBlock ≠ some b
structure RI (lo hi : Nat) (w : World) (ks : List ByteArray) (ns : List Nd) (K : Option Addr) (kc : Nat) (A : Option Addr) (c : Nat) (ys : List Value) : Prop where
  keys : w.ownsRow hi 9 1 (.slice K ks.length kc) ks.length (ks.map Value.string)
  own : w.ownsRow hi 25 5 (.slice A ns.length c) ns.length ys
  kids : NdsIn w (SZ lo hi w (.slice K ks.length kc) (.slice A ns.length c)) ns ys
section
variable {lo hi : Nat} {w w' : World} {ks : List ByteArray} {ns : List Nd} {K : Option Addr} {kc : Nat} {A : Option Addr} {c : Nat} {ys : List Value}
theorem RI.below (h : RI lo hi w ks ns K kc A c ys) (hb : Below w.heap.size w w') : RI lo hi w' ks ns K kc A c ys :=
  ⟨own_old h.keys hb, own_old h.own hb, NdsIn.keep (fun p hp => hb.cell hp.2.1) (fun b hp => ⟨hp.1, Nat.lt_of_lt_of_le hp.2.1 hb.size, hp.2.2⟩) _ _ h.kids⟩
theorem RI.grown (h : RI lo hi w ks ns K kc A c ys) {row : Nat} (hg : w.grownBy w' (some row)) (h1 : lo ≤ row) (h2 : row < hi) : RI lo hi w' ks ns K kc A c ys :=
  ⟨World.ownsRow.kept h.keys hg (.inr (fun e => by have := (own_lt h.keys e).1; omega)), World.ownsRow.kept h.own hg (.inr (fun e => by have := (own_lt h.own e).1; omega)),
    NdsIn.keep (fun p hp => World.cell?_of_block (hg.block p.block hp.2.1 (fun e => by injection e with e; have := hp.1; omega))) (fun b hp => ⟨hp.1, Nat.lt_of_lt_of_le hp.2.1 hg.size, hp.2.2⟩) _ _ h.kids⟩
theorem RI.box (h : RI lo hi w ks ns K kc A c ys) {b : Nat} (o : Nat) (v : Value) (h1 : lo ≤ b) (h2 : b < hi) : RI lo hi (w.setCell ⟨b, o, none⟩ v) ks ns K kc A c ys :=
  h.grown (grown_set (g := b) ⟨rfl, rfl, rfl, Nat.le_refl _, fun _ _ _ => rfl⟩ o v) h1 h2
theorem RI.is (h : RI lo hi w ks ns K kc A c ys) (hks : ∀ t ∈ ks, t.size ≤ maxLen) : NdIs w w.heap.size (.mk 7 0 ⟨#[]⟩ ks ns) [.int .i64 7, .int .i64 0, .string ⟨#[]⟩, .slice K ks.length kc, .slice A ns.length c] := by
  unfold NdIs
  refine ⟨K, kc, A, c, ys, rfl, ?_, ?_, ?_, by unfold I64; omega, by unfold I64; omega, by decide, hks, own_len h.keys, own_len h.own⟩
  · exact (own_RS h.keys).reads (fun b hb => hb.2)
  · exact (own_RS h.own).reads (fun b hb => hb.2)
  · exact NdsIn.is (fun b hb => hb.2.1) _ _ h.kids
theorem RI.kid (hI : RI lo hi w ks ns K kc A c ys) {n : Nd} {cs : List Value} {S : Nat → Prop} (hn : NdIn w S n cs) (hS : ∀ b, S b → SZ lo hi w (.slice K ks.length kc) (.slice A ns.length c) b) {A2 : Option Addr} {c2 : Nat}
    (hown : w'.ownsRow hi 25 5 (.slice A2 (ns.length + 1) c2) (ns.length + 1) (ys ++ cs))
    (p2 : w.grownBy w' (Value.slice A ns.length c).ownBlock) (p3 : (Value.slice A2 (ns.length + 1) c2).ownBlock = (Value.slice A ns.length c).ownBlock ∨ ∃ g1, (Value.slice A2 (ns.length + 1) c2).ownBlock = some g1 ∧ w.heap.size ≤ g1) :
    RI lo hi w' ks (ns ++ [n]) K kc A2 c2 (ys ++ cs) := by
  have s3 := p2.size
  refine ⟨?_, by simpa using hown, NdsIn.keep (S := SZ lo hi w (.slice K ks.length kc) (.slice A ns.length c)) (fun p hp => World.cell?_of_block (p2.block p.block hp.2.1 (fun e => hp.2.2.2 e.symm))) (fun b hp => ⟨hp.1, Nat.lt_of_lt_of_le hp.2.1 s3, hp.2.2.1, ?_⟩) _ _ (NdsIn.app _ _ _ _ hI.kids (NdIn.keep (fun _ _ => rfl) hS _ _ hn))⟩
  · refine own_moved hI.keys (fun b e => p2.block b (own_lt hI.keys e).2 (fun e2 => own_apart hI.keys hI.own (by decide) e e2.symm)) s3
  · rw [List.length_append, List.length_singleton]
    rcases p3 with e | ⟨g, e, hg⟩
    · rw [e]; exact hp.2.2.2
    · rw [e]; intro e2; injection e2 with e2; have := hp.2.1; omega
theorem map_set_str (ks : List ByteArray) (i : Nat) (t : ByteArray) : (ks.set i t).map Value.string = (ks.map Value.string).set i (.string t) := by rw [List.map_set]
theorem setCell_grown (w : World) (g o : Nat) (v : Value) : w.grownBy (w.setCell ⟨g, o, none⟩ v) (some g) := grown_set ⟨rfl, rfl, rfl, Nat.le_refl _, fun _ _ _ => rfl⟩ o v
theorem RI.putKey {g : Nat} (hI : RI lo hi w ks ns (some ⟨g, 0, none⟩) kc A c ys) (i : Nat) (t : ByteArray) : RI lo hi (w.setCell ⟨g, i, none⟩ (.string t)) (ks.set i t) ns (some ⟨g, 0, none⟩) kc A c ys := by
  have hg := setCell_grown w g i (.string t)
  refine ⟨?_, ?_, NdsIn.keep (fun p hp => World.cell?_of_block (hg.block p.block hp.2.1 (fun e => hp.2.2.1 e.symm))) (fun b hp => ⟨hp.1, Nat.lt_of_lt_of_le hp.2.1 hg.size, by simpa using hp.2.2.1, hp.2.2.2⟩) _ _ hI.kids⟩
  · rw [map_set_str, List.length_set]; exact (World.ownsRow.stored hI.keys i (.string t)).1
  · exact own_moved hI.own (fun b e => hg.block b (own_lt hI.own e).2 (fun e2 => own_apart hI.own hI.keys (by decide) e e2.symm)) hg.size
theorem NdsIn.set {S : Nat → Prop} {n : Nd} {v0 v1 v2 v3 v4 : Value} (hn : NdIn w S n [v0, v1, v2, v3, v4]) : ∀ (ns : List Nd) (ys : List Value) (i : Nat), i < ns.length → NdsIn w S ns ys →
    NdsIn w S (ns.set i n) (((((ys.set (i * 5) v0).set (i * 5 + 1) v1).set (i * 5 + 2) v2).set (i * 5 + 3) v3).set (i * 5 + 4) v4)
  | [], ys, i, hi, h => absurd hi (by simp)
  | m :: ns, ys, 0, hi, h => by
    unfold NdsIn at h
    obtain ⟨cs, zs, rfl, h1, h2⟩ := h
    obtain ⟨k, mm, t, B1, a, cc, B2, b, d, rfl⟩ := h1.form
    show NdsIn w S (n :: ns) _
    unfold NdsIn
    exact ⟨[v0, v1, v2, v3, v4], zs, by simp, hn, h2⟩
  | m :: ns, ys, i + 1, hi, h => by
    unfold NdsIn at h
    obtain ⟨cs, zs, rfl, h1, h2⟩ := h
    obtain ⟨k, mm, t, B1, a, cc, B2, b, d, rfl⟩ := h1.form
    show NdsIn w S (m :: ns.set i n) _
    unfold NdsIn
    refine ⟨[.int .i64 k, .int .i64 mm, .string t, .slice B1 a cc, .slice B2 b d], _, ?_, h1, NdsIn.set hn ns zs i (by simpa using hi) h2⟩
    have e : ∀ j, (i + 1) * 5 + j = (i * 5 + j) + 1 + 1 + 1 + 1 + 1 := fun j => by omega
    have e0 : (i + 1) * 5 = i * 5 + 1 + 1 + 1 + 1 + 1 := by omega
    rw [e 1, e 2, e 3, e 4, e0]
    simp only [List.cons_append, List.nil_append, List.set_cons_succ]
theorem RI.putKid {g : Nat} (hI : RI lo hi w ks ns K kc (some ⟨g, 0, none⟩) c ys) (i : Nat) (hi2 : i < ns.length) {n : Nd} {v0 v1 v2 v3 v4 : Value} {S : Nat → Prop} (hn : NdIn w S n [v0, v1, v2, v3, v4]) (hS : ∀ b, S b → SZ lo hi w (.slice K ks.length kc) (.slice (some ⟨g, 0, none⟩) ns.length c) b) :
    RI lo hi (((((w.setCell ⟨g, i * 5, none⟩ v0).setCell ⟨g, i * 5 + 1, none⟩ v1).setCell ⟨g, i * 5 + 2, none⟩ v2).setCell ⟨g, i * 5 + 3, none⟩ v3).setCell ⟨g, i * 5 + 4, none⟩ v4) ks (ns.set i n) K kc (some ⟨g, 0, none⟩) c (((((ys.set (i * 5) v0).set (i * 5 + 1) v1).set (i * 5 + 2) v2).set (i * 5 + 3) v3).set (i * 5 + 4) v4) := by
  have hg : w.grownBy (((((w.setCell ⟨g, i * 5, none⟩ v0).setCell ⟨g, i * 5 + 1, none⟩ v1).setCell ⟨g, i * 5 + 2, none⟩ v2).setCell ⟨g, i * 5 + 3, none⟩ v3).setCell ⟨g, i * 5 + 4, none⟩ v4) (some g) :=
    grown_set (grown_set (grown_set (grown_set (grown_set ⟨rfl, rfl, rfl, Nat.le_refl _, fun _ _ _ => rfl⟩ _ _) _ _) _ _) _ _) _ _
  refine ⟨?_, ?_, NdsIn.keep (S := SZ lo hi w (.slice K ks.length kc) (.slice (some ⟨g, 0, none⟩) ns.length c)) (fun p hp => World.cell?_of_block (hg.block p.block hp.2.1 (fun e => hp.2.2.2 e.symm))) (fun b hp => ⟨hp.1, Nat.lt_of_lt_of_le hp.2.1 hg.size, hp.2.2.1, by simpa using hp.2.2.2⟩) _ _ (NdsIn.set (NdIn.keep (fun _ _ => rfl) hS _ _ hn) _ _ _ hi2 hI.kids)⟩
  · exact own_moved hI.keys (fun b e => hg.block b (own_lt hI.keys e).2 (fun e2 => own_apart hI.keys hI.own (by decide) e e2.symm)) hg.size
  · rw [List.length_set]
    exact (World.ownsRow.stored (World.ownsRow.stored (World.ownsRow.stored (World.ownsRow.stored (World.ownsRow.stored hI.own _ v0).1 _ v1).1 _ v2).1 _ v3).1 _ v4).1
end
theorem clone_own (ks : List ByteArray) (A : Option Addr) (ck B : Nat) (w : World) (hks : Reads w B 1 A ks.length (ks.map Value.string)) (hl : ks.length ≤ 1000000) (hB : B ≤ w.heap.size) :
    Calls Tryd.prog 51 #[.slice A ks.length ck] w fun e w' => ∃ A' c', e = .returned (.slice A' ks.length c') ∧ w'.ownsRow w.heap.size 9 1 (.slice A' ks.length c') ks.length (ks.map Value.string) ∧ Below w.heap.size w w' := by
  cases A with
  | none =>
    have : ks = [] := by
      rcases Nat.eq_zero_or_pos ks.length with h | h
      · exact List.eq_nil_of_length_eq_zero h
      · obtain ⟨ad, h, _⟩ := hks.2 h; cases h
    subst this
    refine (Tryd.slices_Clone_string_nil _ ck w).mono ?_
    rintro e w' ⟨rfl, rfl⟩
    exact ⟨none, 0, rfl, World.ownsRow_nil _ _ _ _, Below.refl _ _⟩
  | some a =>
    rcases Nat.eq_zero_or_pos ks.length with h | h
    · have : ks = [] := List.eq_nil_of_length_eq_zero h
      subst this
      refine (Tryd.slices_Clone_string_zero a ck w).mono ?_
      rintro e w' ⟨v', rfl, ho, hne, hb⟩
      obtain ⟨A', c', rfl⟩ := own_form ho
      exact ⟨_, _, rfl, ho, hb⟩
    · obtain ⟨ad, e, hb, hc⟩ := hks.2 h
      injection e with e
      subst e
      have h0 := hc 0 _ (List.getElem?_eq_getElem (by simpa using h))
      have hs := spot_none h0
      rw [show a.add 0 = a by simp [Addr.add]] at hs
      have ha : a = ⟨a.block, a.off, none⟩ := by cases a; simp at hs; subst hs; rfl
      rw [ha]
      refine (Tryd.slices_Clone_string a.block a.off ks.length ck ks w (Nat.le_refl _) (by omega) (fun j hj => ?_)).mono ?_
      · have h1 := hc j (.string (ks.getD j ByteArray.empty)) (by rw [List.getElem?_map, List.getElem?_eq_getElem hj]; simp [List.getD, hj])
        rw [← h1]
        congr 1
        unfold Addr.add
        split
        · rename_i h0; subst h0; rw [ha]; rfl
        · rfl
      · rintro e w' ⟨v', rfl, ho, hne, hb'⟩
        rw [List.take_length] at ho
        obtain ⟨g, cap, hv, hg1, hg2⟩ := ho.form h
        subst hv
        exact ⟨_, _, rfl, ho, hb'⟩
def TopNd (k num : Int) (t : ByteArray) (ks : List ByteArray) (ns : List Nd) (w : World) (e : Ending) (w' : World) : Prop := ∃ (A : Option Addr) (ck : Nat) (A2 : Option Addr) (cc : Nat) (ys : List Value),
  e = .returned (.agg #[.int .i64 k, .int .i64 num, .string t, .slice A ks.length ck, .slice A2 ns.length cc]) ∧ RI 0 w.heap.size w' ks ns A ck A2 cc ys ∧ Below w.heap.size w w'
def FindTop (k num : Int) (t : ByteArray) (ks : List ByteArray) (ns : List Nd) (w : World) (e : Ending) (w' : World) : Prop := ∃ (A : Option Addr) (ck : Nat) (A2 : Option Addr) (cc : Nat) (ys : List Value),
  e = .returned (.tuple #[.agg #[.int .i64 k, .int .i64 num, .string t, .slice A ks.length ck, .slice A2 ns.length cc], .bool true]) ∧ RI 0 w.heap.size w' ks ns A ck A2 cc ys ∧ Below w.heap.size w w'
theorem own_mono {w : World} {B B2 s n : Nat} {e : TypeId} {v : Value} {xs : List Value} (h : w.ownsRow B e s v n xs) (hb : B2 ≤ B) : w.ownsRow B2 e s v n xs :=
  ⟨h.1, h.2.imp id fun ⟨g, cap, cur, h1, h2, h3⟩ => ⟨g, cap, cur, h1, Nat.le_trans hb h2, h3⟩⟩
theorem RI.lift {lo hi hi2 : Nat} {w : World} {ks : List ByteArray} {ns : List Nd} {K : Option Addr} {kc : Nat} {A : Option Addr} {c : Nat} {ys : List Value} (h : RI lo hi w ks ns K kc A c ys) (h2 : hi2 ≤ hi) : RI lo hi2 w ks ns K kc A c ys :=
  ⟨own_mono h.keys h2, own_mono h.own h2, NdsIn.keep (fun _ _ => rfl) (fun b hb => ⟨hb.1.imp id (Nat.le_trans h2), hb.2⟩) _ _ h.kids⟩
theorem RI.push {hi : Nat} {w w2 w3 : World} {ks : List ByteArray} {ns : List Nd} {K : Option Addr} {kc : Nat} {A : Option Addr} {c : Nat} {ys : List Value} (hI : RI 0 hi w ks ns K kc A c ys) (hh : hi ≤ w.heap.size) (hb : Below w.heap.size w w2) {wa : World} (hwa : w.heap.size ≤ wa.heap.size) {n : Nd} {cs : List Value} (hn : NdIn w2 (Since wa w2) n cs) {A2 : Option Addr} {c2 : Nat}
    (hown : w3.ownsRow hi 25 5 (.slice A2 (ns.length + 1) c2) (ns.length + 1) (ys ++ cs)) (hg : w2.grownBy w3 (Value.slice A ns.length c).ownBlock)
    (p3 : (Value.slice A2 (ns.length + 1) c2).ownBlock = (Value.slice A ns.length c).ownBlock ∨ ∃ g1, (Value.slice A2 (ns.length + 1) c2).ownBlock = some g1 ∧ w2.heap.size ≤ g1) :
    RI 0 hi w3 ks (ns ++ [n]) K kc A2 c2 (ys ++ cs) :=
  (hI.below hb).kid hn (fun b hb2 => ⟨.inr (by have := hb2.1; omega), hb2.2, fun e => by have := (own_lt hI.keys e).2; have := hb2.1; omega, fun e => by have := (own_lt hI.own e).2; have := hb2.1; omega⟩) hown hg p3
set_option maxRecDepth 100000 in
set_option maxHeartbeats 3000000 in
theorem copied_top (k num : Int) (t : ByteArray) (ks : List ByteArray) (ns : List Nd) (A A2 : Option Addr) (ck cc : Nat) (xs : List Value) (w : World) (B : Nat)
    (hks : Reads w B 1 A ks.length (ks.map Value.string)) (hxs : Reads w B 5 A2 ns.length xs) (hns : NdsIs w B ns xs) (ht : t.size ≤ maxLen) (hsz : ∀ s ∈ ks, s.size ≤ maxLen) (hk1 : ks.length ≤ 1000000) (hk2 : ns.length ≤ 1000000)
    (hk0 : I64 k) (hn0 : I64 num) (hB : B ≤ w.heap.size) (HIH : Hid (CopyH B ns)) :
    Calls Tryd.prog 36 #[.agg #[.int .i64 k, .int .i64 num, .string t, .slice A ks.length ck, .slice A2 ns.length cc]] w (TopNd k num t ks ns w) := by
  have HXS := Lib.hid hxs
  have HNS := Lib.hid hns
  have HCL : Hid (∀ w', Below w.heap.size w w' → Calls Tryd.prog 51 #[.slice A ks.length ck] w' fun e w'' => ∃ A' c', e = .returned (.slice A' ks.length c') ∧ w''.ownsRow w'.heap.size 9 1 (.slice A' ks.length c') ks.length (ks.map Value.string) ∧ Below w'.heap.size w' w'') := fun w' hb =>
    clone_own ks A ck B w' (hks.keep fun p hp => hb.cell (by omega)) hk1 (by have := hb.size; omega)
  have HF : Hid (I64 k ∧ I64 num ∧ t.size ≤ maxLen ∧ (∀ s ∈ ks, s.size ≤ maxLen)) := ⟨hk0, hn0, ht, hsz⟩
  have hA : Below w.heap.size w ((w.alloc (.cells #[.int .i64 k, .int .i64 num, .string t, .slice A ks.length ck, .slice A2 ns.length cc] 25)).alloc (.cells #[.int .i64 0, .int .i64 0, .string ⟨#[]⟩, .slice none 0 0, .slice none 0 0] 25)) := ((Below.refl _ _).alloc (Nat.le_refl _) _).alloc (by simp) _
  have hX : Blk ((w.alloc (.cells #[.int .i64 k, .int .i64 num, .string t, .slice A ks.length ck, .slice A2 ns.length cc] 25)).alloc (.cells #[.int .i64 0, .int .i64 0, .string ⟨#[]⟩, .slice none 0 0, .slice none 0 0] 25)) w.heap.size 25 #[.int .i64 k, .int .i64 num, .string t, .slice A ks.length ck, .slice A2 ns.length cc] := (Blk.new w _ _).alloc _
  have hY : Blk ((w.alloc (.cells #[.int .i64 k, .int .i64 num, .string t, .slice A ks.length ck, .slice A2 ns.length cc] 25)).alloc (.cells #[.int .i64 0, .int .i64 0, .string ⟨#[]⟩, .slice none 0 0, .slice none 0 0] 25)) (w.heap.size + 1) 25 #[.int .i64 0, .int .i64 0, .string ⟨#[]⟩, .slice none 0 0, .slice none 0 0] := by
    have := Blk.new (w.alloc (.cells #[.int .i64 k, .int .i64 num, .string t, .slice A ks.length ck, .slice A2 ns.length cc] 25)) 25 #[.int .i64 0, .int .i64 0, .string ⟨#[]⟩, .slice none 0 0, .slice none 0 0]
    simpa using this
  have HX := Lib.hid hX
  have HY := Lib.hid hY
  clear hks hxs hns ht hsz hk0 hn0 hX hY
  go_enter Tryd.func36, Tryd.ntmps36
  go_wp2_with fail
  refine (HCL.out _ hA).mono ?_; rintro e w1 ⟨A', c', rfl, hr1, hw1⟩
  have hB1 := hA.trans (hw1.mono (by simp; omega))
  have hX1 := HX.out.below hw1 (by simp; omega)
  have hY1 := HY.out.below hw1 (by simp)
  obtain ⟨c0, c1, c2, c3, c4⟩ := hX1.cells5
  have f3 : w1.frozen? ⟨w.heap.size, 3, none⟩ = false := hX1.frozen 3
  have hs1 : w.heap.size + 2 ≤ w1.heap.size := by have := hw1.size; simp at this; omega
  have hX2 : Hid (Blk (w1.setCell ⟨w.heap.size, 3, none⟩ (.slice A' ks.length c')) w.heap.size 25 #[.int .i64 k, .int .i64 num, .string t, .slice A' ks.length c', .slice A2 ns.length cc]) := hX1.set_ 3 _
  have hY2 : Hid (Blk (w1.setCell ⟨w.heap.size, 3, none⟩ (.slice A' ks.length c')) (w.heap.size + 1) 25 #[.int .i64 0, .int .i64 0, .string ⟨#[]⟩, .slice none 0 0, .slice none 0 0]) := hY1.far (by simp) _
  have hB2 : Hid (Below w.heap.size w (w1.setCell ⟨w.heap.size, 3, none⟩ (.slice A' ks.length c'))) := hB1.setCell (p := ⟨w.heap.size, 3, none⟩) (Nat.le_refl _) _
  have hs2 : w.heap.size + 2 ≤ (w1.setCell ⟨w.heap.size, 3, none⟩ (.slice A' ks.length c')).heap.size := by simp; omega
  have HR2 : Hid (RI 0 (w.heap.size + 2) (w1.setCell ⟨w.heap.size, 3, none⟩ (.slice A' ks.length c')) ks [] A' c' none 0 []) :=
    RI.box (lo := 0) ⟨own_mono hr1 (by simp), World.ownsRow_nil _ _ _ _, NdsIn.nil⟩ 3 _ (Nat.zero_le _) (by omega)
  clear hX1 hY1 hr1 hw1 hB1
  have d4 : (w1.setCell ⟨w.heap.size, 3, none⟩ (.slice A' ks.length c')).cell? ⟨w.heap.size, 4, none⟩ = some (.slice A2 ns.length cc) := hX2.out.cell 4
  clear c0 c1 c2
  go_wp2_with fail
  go_loopw [3, 13] (fun tv t13 wr => ∃ (i : Nat) (ys : List Value) (Aw : Option Addr) (cw : Nat), i ≤ ns.length ∧ t13 = .int .i64 i ∧ tv = .slice Aw i cw ∧ Hid (RI 0 (w.heap.size + 2) wr ks (ns.take i) A' c' Aw cw ys) ∧
      Hid (Blk wr w.heap.size 25 #[.int .i64 k, .int .i64 num, .string t, .slice A' ks.length c', .slice A2 ns.length cc]) ∧ Hid (Blk wr (w.heap.size + 1) 25 #[.int .i64 0, .int .i64 0, .string ⟨#[]⟩, .slice none 0 0, .slice none 0 0]) ∧ Hid (Below w.heap.size w wr) ∧ w.heap.size + 2 ≤ wr.heap.size)
    (fun _ t13 _ => ns.length - (intOf t13).toNat)
  case atStart => exact ⟨0, [], none, 0, by omega, rfl, rfl, HR2, hX2, hY2, hB2, hs2⟩
  case round =>
    clear HR2 hX2 hY2 hB2 hs2 d4 c3 c4 f3
    obtain ⟨i, ys, Aw, cw, hi, rfl, rfl, hr, hx, hy, hb, hs⟩ := hrel
    have htk : (ns.take i).length = i := by rw [List.length_take]; omega
    have ho : Hid (wr.ownsRow (w.heap.size + 2) 25 5 (.slice Aw i cw) i ys) := by have := hr.out.own; rw [htk] at this; exact this
    have HTK := Lib.hid htk
    clear htk
    obtain ⟨wo, rfl⟩ : ∃ wo : World, wo = wr := ⟨_, rfl⟩
    by_cases hlt : i < ns.length
    · have hkeep : ∀ p : Addr, p.block < B → wo.cell? p = w.cell? p := fun p hp => hb.out.cell (by omega)
      obtain ⟨ad, n, v0, v1, v2, v3, v4, rfl, hadb, hni, hnd, e0, e1, e2, e3, e4⟩ := (HXS.out.keep hkeep).nd (NdsIs.keep hkeep _ _ HNS.out) hlt
      obtain ⟨x0, x1, x2, x3, x4, x5, x6, x7, x8, rfl, rfl, rfl, rfl, rfl⟩ := hnd.form
      have HNI := Lib.hid hni
      have HND := Lib.hid hnd
      have q3 : ¬ ad.block = wo.heap.size := by omega
      have q4 : ¬ (ad.add (i * 5)).block = wo.heap.size := by rw [block_of_add]; omega
      clear hni hnd hkeep
      have hWA : Below wo.heap.size wo (wo.alloc (.cells #[.int .i64 x0, .int .i64 x1, .string x2, .slice x3 x4 x5, .slice x6 x7 x8] 25)) := (Below.refl _ _).alloc (Nat.le_refl _) _
      have HWA := Lib.hid hWA
      go_wp2_with fail
      have HC := HIH.out i n [.int .i64 x0, .int .i64 x1, .string x2, .slice x3 x4 x5, .slice x6 x7 x8] _ HNI.out (HND.out.below (hWA.mono (by omega))) (by simp; omega)
      refine (HC : Calls _ _ _ _ _).mono ?_; rintro e w2 ⟨c0, c1, c2, c3, c4, c5, c6, c7, c8, rfl, hnew, hw2⟩
      have HNEW := Lib.hid hnew
      have HB2 : Hid (Below wo.heap.size wo w2) := HWA.out.trans (hw2.mono (by simp))
      have HO2 := Lib.hid (own_old ho.out HB2.out)
      have z2 : w.heap.size + 2 ≤ w2.heap.size := by have := HB2.out.size; omega
      have HS2 : Hid (wo.heap.size < w2.heap.size) := by have := hw2.size; simp at this; show _ < _; omega
      clear HC hnew hw2 hWA e0 e1 e2 e3 e4
      go_wp2_with (at_builtin; refine wpList_pushNd _ rfl _ _ rfl (w.heap.size + 2) _ i ys rfl HO2.out c0 c1 c2 c3 c4 c5 c6 c7 c8 rfl (by omega) z2 ?_; intro v' w3 ho3 hg3 hv3; obtain ⟨Av, cv, rfl⟩ := own_form ho3; have HO3 := Lib.hid ho3; have HG3 := Lib.hid hg3; have HV3 := Lib.hid hv3; clear ho3 hg3 hv3)
      have hown : ∀ g, (Value.slice Aw i cw).ownBlock = some g → g < wo.heap.size := fun g hg => (own_lt ho.out hg).2
      have hown3 : ∀ g, g < w.heap.size + 2 → some g ≠ (Value.slice Aw i cw).ownBlock := fun g hg e => by have := (own_lt ho.out e.symm).1; omega
      have g1 : Hid (RI 0 (w.heap.size + 2) w3 ks (ns.take (i + 1)) A' c' Av cv (ys ++ [.int .i64 c0, .int .i64 c1, .string c2, .slice c3 c4 c5, .slice c6 c7 c8])) := by
        show RI _ _ _ _ _ _ _ _ _ _
        rw [take_snoc HNI.out]
        exact RI.push hr.out hs HB2.out (by simp) HNEW.out (by rw [HTK.out]; exact HO3.out) (by rw [HTK.out]; exact HG3.out) (by rw [HTK.out]; exact HV3.out)
      have g3 : Hid (Blk w3 w.heap.size 25 #[.int .i64 k, .int .i64 num, .string t, .slice A' ks.length c', .slice (some ad) ns.length cc]) := (hx.out.below HB2.out (by omega)).grown HG3.out (hown3 _ (by omega))
      have g4 : Hid (Blk w3 (w.heap.size + 1) 25 #[.int .i64 0, .int .i64 0, .string ⟨#[]⟩, .slice none 0 0, .slice none 0 0]) := (hy.out.below HB2.out (by omega)).grown HG3.out (hown3 _ (by omega))
      have g5 : Hid (Below w.heap.size w w3) := (hb.out.trans (HB2.out.mono (by omega))).grown HG3.out (by omega) (fun g hg => by have := (own_lt ho.out hg).1; omega)
      have g6 : w.heap.size + 2 ≤ w3.heap.size := by have := HG3.out.size; omega
      clear hown hown3
      go_wp2_with fail
      go_roundw
      case rel => exact ⟨i + 1, _, _, _, by omega, by go_num, rfl, g1, g3, g4, g5, g6⟩
      case measure => simp [intOf]; omega
    · have hin : i = ns.length := by omega
      have HIN := Lib.hid hin
      clear hin
      have f4 : wo.frozen? ⟨w.heap.size, 4, none⟩ = false := hx.out.frozen 4
      obtain ⟨c0, c1, c2, c3, c4⟩ := hx.out.cells5
      obtain ⟨d0, d1, d2, d3, d4⟩ := hy.out.cells5
      have e0 : wo.frozen? ⟨w.heap.size + 1, 0, none⟩ = false := hy.out.frozen 0
      have e1 : wo.frozen? ⟨w.heap.size + 1, 1, none⟩ = false := hy.out.frozen 1
      have e2 : wo.frozen? ⟨w.heap.size + 1, 2, none⟩ = false := hy.out.frozen 2
      have e3 : wo.frozen? ⟨w.heap.size + 1, 3, none⟩ = false := hy.out.frozen 3
      have e4 : wo.frozen? ⟨w.heap.size + 1, 4, none⟩ = false := hy.out.frozen 4
      go_wp2_with fail
      have hfin : Hid (Blk ((((((wo.setCell ⟨w.heap.size, 4, none⟩ (.slice Aw i cw)).setCell ⟨w.heap.size + 1, 0, none⟩ (.int .i64 k)).setCell ⟨w.heap.size + 1, 1, none⟩ (.int .i64 num)).setCell ⟨w.heap.size + 1, 2, none⟩ (.string t)).setCell ⟨w.heap.size + 1, 3, none⟩ (.slice A' ks.length c')).setCell ⟨w.heap.size + 1, 4, none⟩ (.slice Aw i cw)) (w.heap.size + 1) 25 #[.int .i64 k, .int .i64 num, .string t, .slice A' ks.length c', .slice Aw i cw]) := ((((((hy.out.far (by simp) _).set_ 0 _).set_ 1 _).set_ 2 _).set_ 3 _).set_ 4 _)
      have hbel : Hid (Below w.heap.size w ((((((wo.setCell ⟨w.heap.size, 4, none⟩ (.slice Aw i cw)).setCell ⟨w.heap.size + 1, 0, none⟩ (.int .i64 k)).setCell ⟨w.heap.size + 1, 1, none⟩ (.int .i64 num)).setCell ⟨w.heap.size + 1, 2, none⟩ (.string t)).setCell ⟨w.heap.size + 1, 3, none⟩ (.slice A' ks.length c')).setCell ⟨w.heap.size + 1, 4, none⟩ (.slice Aw i cw))) := (((((hb.out.setCell (p := ⟨w.heap.size, 4, none⟩) (Nat.le_refl _) _).setCell (p := ⟨w.heap.size + 1, 0, none⟩) (by simp) _).setCell (p := ⟨w.heap.size + 1, 1, none⟩) (by simp) _).setCell (p := ⟨w.heap.size + 1, 2, none⟩) (by simp) _).setCell (p := ⟨w.heap.size + 1, 3, none⟩) (by simp) _).setCell (p := ⟨w.heap.size + 1, 4, none⟩) (by simp) _
      have hri : Hid (RI 0 (w.heap.size + 2) ((((((wo.setCell ⟨w.heap.size, 4, none⟩ (.slice Aw i cw)).setCell ⟨w.heap.size + 1, 0, none⟩ (.int .i64 k)).setCell ⟨w.heap.size + 1, 1, none⟩ (.int .i64 num)).setCell ⟨w.heap.size + 1, 2, none⟩ (.string t)).setCell ⟨w.heap.size + 1, 3, none⟩ (.slice A' ks.length c')).setCell ⟨w.heap.size + 1, 4, none⟩ (.slice Aw i cw)) ks (ns.take i) A' c' Aw cw ys) :=
        (((((hr.out.box 4 _ (Nat.zero_le _) (show w.heap.size < w.heap.size + 2 by omega)).box 0 _ (Nat.zero_le _) (show w.heap.size + 1 < w.heap.size + 2 by omega)).box 1 _ (Nat.zero_le _) (show w.heap.size + 1 < w.heap.size + 2 by omega)).box 2 _ (Nat.zero_le _) (show w.heap.size + 1 < w.heap.size + 2 by omega)).box 3 _ (Nat.zero_le _) (show w.heap.size + 1 < w.heap.size + 2 by omega)).box 4 _ (Nat.zero_le _) (show w.heap.size + 1 < w.heap.size + 2 by omega)
      have HFIN := hfin.out
      generalize ((((((wo.setCell ⟨w.heap.size, 4, none⟩ (.slice Aw i cw)).setCell ⟨w.heap.size + 1, 0, none⟩ (.int .i64 k)).setCell ⟨w.heap.size + 1, 1, none⟩ (.int .i64 num)).setCell ⟨w.heap.size + 1, 2, none⟩ (.string t)).setCell ⟨w.heap.size + 1, 3, none⟩ (.slice A' ks.length c')).setCell ⟨w.heap.size + 1, 4, none⟩ (.slice Aw i cw)) = WF at *
      obtain ⟨q0, q1, q2, q3, q4⟩ := HFIN.cells5
      refine bodyPost_ret (v := .agg #[.int .i64 k, .int .i64 num, .string t, .slice A' ks.length c', .slice Aw i cw]) (by simp [results, Tryd.results36, go_sem, q0, q1, q2, q3, q4]) rfl ?_
      have hin := HIN.out
      subst hin
      have hri := hri.out
      rw [List.take_length] at hri
      exact ⟨_, _, _, _, _, rfl, hri.lift (by omega), hbel.out⟩
set_option maxRecDepth 100000 in
set_option maxHeartbeats 3000000 in
theorem cFind_top (num : Int) (t : ByteArray) (ks : List ByteArray) (ns : List Nd) (A A2 : Option Addr) (ck cc : Nat) (xs : List Value) (x : ByteArray) (w : World) (B : Nat)
    (hks : Reads w B 1 A ks.length (ks.map Value.string)) (hxs : Reads w B 5 A2 ns.length xs) (hns : NdsIs w B ns xs) (hk1 : ks.length ≤ 9223372036854775807) (hk2 : ns.length ≤ 9223372036854775807)
    (hB : B ≤ w.heap.size) (i : Nat) (hi : idxK ks x = some i) (mk mn : Int) (mt : ByteArray) (mks : List ByteArray) (mns : List Nd) (hmn : ns[i]? = some (.mk mk mn mt mks mns))
    (HIH : Hid (∀ (cs : List Value) (w' : World), NdIs w' B (.mk mk mn mt mks mns) cs → B ≤ w'.heap.size → Calls Tryd.prog 36 #[.agg cs.toArray] w' (TopNd mk mn mt mks mns w'))) :
    Calls Tryd.prog 21 #[.agg #[.int .i64 7, .int .i64 num, .string t, .slice A ks.length ck, .slice A2 ns.length cc], .string x] w (FindTop mk mn mt mks mns w) := by
  have HXS := Lib.hid hxs
  have HNS := Lib.hid hns
  have HIX : Hid (∀ w', Below w.heap.size w w' → Calls Tryd.prog 35 #[.slice A ks.length ck, .string x] w' fun e w'' => e = .returned (.int .i64 (idxI ks x)) ∧ w' = w'') := fun w' hb =>
    sIndex_any ks x A ck B w' (hks.keep fun p hp => hb.cell (by omega)) hk1
  have hA : Below w.heap.size w ((w.alloc (.cells #[.int .i64 7, .int .i64 num, .string t, .slice A ks.length ck, .slice A2 ns.length cc] 25)).alloc (.cells #[.int .i64 0, .int .i64 0, .string ⟨#[]⟩, .slice none 0 0, .slice none 0 0] 25)) := ((Below.refl _ _).alloc (Nat.le_refl _) _).alloc (by simp) _
  clear hks hxs hns
  have e1 : idxI ks x = i := by unfold idxI; rw [hi]
  have hil := idxK_lt hi
  rw [e1] at HIX
  have hlt : i < ns.length := (List.getElem?_eq_some_iff.1 hmn).1
  have HMN := Lib.hid hmn
  clear e1 hi hmn
  obtain ⟨ad, n, v0, v1, v2, v3, v4, rfl, hadb, hni, hnd, e0, e1, e2, e3, e4⟩ := HXS.out.nd HNS.out hlt
  obtain ⟨x0, x1, x2, x3, x4, x5, x6, x7, x8, rfl, rfl, rfl, rfl, rfl⟩ := hnd.form
  have e : n = .mk mk mn mt mks mns := Option.some.inj (hni.symm.trans HMN.out)
  subst e
  have HC := Lib.hid (HIH.out [.int .i64 x0, .int .i64 x1, .string x2, .slice x3 x4 x5, .slice x6 x7 x8] _ (hnd.below (hA.mono hB)) (by have := hA.size; omega))
  have q0 : ¬ (ad.add (i * 5)).block = w.heap.size := by rw [block_of_add]; omega
  have q1 : ¬ (ad.add (i * 5)).block = w.heap.size + 1 := by rw [block_of_add]; omega
  have q2 : (ad.add (i * 5)).block < w.heap.size := by rw [block_of_add]; omega
  clear hni hnd
  go_enter Tryd.func21, Tryd.ntmps21
  go_wp2_with fail
  refine (HIX.out _ hA).mono ?_; rintro e w1 ⟨rfl, hw⟩; obtain rfl : _ = w1 := hw
  go_wp2_with fail
  refine (HC.out : Calls _ _ _ _ _).mono ?_; rintro e w2 ⟨Ak, kc2, Ax, xc2, ys, rfl, hnew, hw2⟩
  have hY : Blk w2 (w.heap.size + 1) 25 #[.int .i64 0, .int .i64 0, .string ⟨#[]⟩, .slice none 0 0, .slice none 0 0] := by
    have h := Blk.new (w.alloc (.cells #[.int .i64 7, .int .i64 num, .string t, .slice A ks.length ck, .slice (some ad) ns.length cc] 25)) 25 #[.int .i64 0, .int .i64 0, .string ⟨#[]⟩, .slice none 0 0, .slice none 0 0]
    have h2 := h.below hw2 (by simp)
    simpa using h2
  have hB2 := hA.trans (hw2.mono (by simp; omega))
  have hz2 : w.heap.size + 2 ≤ w2.heap.size := by have := hw2.size; simp at this; omega
  obtain ⟨d0, d1, d2, d3, d4⟩ := hY.cells5
  have f0 := hY.frozen 0
  have f1 := hY.frozen 1
  have f2 := hY.frozen 2
  have f3 := hY.frozen 3
  have f4 := hY.frozen 4
  have hfin : Hid (Blk (((((w2.setCell ⟨w.heap.size + 1, 0, none⟩ (.int .i64 mk)).setCell ⟨w.heap.size + 1, 1, none⟩ (.int .i64 mn)).setCell ⟨w.heap.size + 1, 2, none⟩ (.string mt)).setCell ⟨w.heap.size + 1, 3, none⟩ (.slice Ak mks.length kc2)).setCell ⟨w.heap.size + 1, 4, none⟩ (.slice Ax mns.length xc2)) (w.heap.size + 1) 25 #[.int .i64 mk, .int .i64 mn, .string mt, .slice Ak mks.length kc2, .slice Ax mns.length xc2]) := (((((hY.set_ 0 _).set_ 1 _).set_ 2 _).set_ 3 _).set_ 4 _)
  have hbel : Hid (Below w.heap.size w (((((w2.setCell ⟨w.heap.size + 1, 0, none⟩ (.int .i64 mk)).setCell ⟨w.heap.size + 1, 1, none⟩ (.int .i64 mn)).setCell ⟨w.heap.size + 1, 2, none⟩ (.string mt)).setCell ⟨w.heap.size + 1, 3, none⟩ (.slice Ak mks.length kc2)).setCell ⟨w.heap.size + 1, 4, none⟩ (.slice Ax mns.length xc2))) := ((((hB2.setCell (p := ⟨w.heap.size + 1, 0, none⟩) (by simp) _).setCell (p := ⟨w.heap.size + 1, 1, none⟩) (by simp) _).setCell (p := ⟨w.heap.size + 1, 2, none⟩) (by simp) _).setCell (p := ⟨w.heap.size + 1, 3, none⟩) (by simp) _).setCell (p := ⟨w.heap.size + 1, 4, none⟩) (by simp) _
  have hnd2 : Hid (RI 0 (w.heap.size + 2) (((((w2.setCell ⟨w.heap.size + 1, 0, none⟩ (.int .i64 mk)).setCell ⟨w.heap.size + 1, 1, none⟩ (.int .i64 mn)).setCell ⟨w.heap.size + 1, 2, none⟩ (.string mt)).setCell ⟨w.heap.size + 1, 3, none⟩ (.slice Ak mks.length kc2)).setCell ⟨w.heap.size + 1, 4, none⟩ (.slice Ax mns.length xc2)) mks mns Ak kc2 Ax xc2 ys) :=
    (((((hnew.lift (hi2 := w.heap.size + 2) (by simp)).box 0 _ (Nat.zero_le _) (show w.heap.size + 1 < w.heap.size + 2 by omega)).box 1 _ (Nat.zero_le _) (show w.heap.size + 1 < w.heap.size + 2 by omega)).box 2 _ (Nat.zero_le _) (show w.heap.size + 1 < w.heap.size + 2 by omega)).box 3 _ (Nat.zero_le _) (show w.heap.size + 1 < w.heap.size + 2 by omega)).box 4 _ (Nat.zero_le _) (show w.heap.size + 1 < w.heap.size + 2 by omega)
  have HFIN := hfin.out
  clear hnew hw2 hB2 hY
  go_wp2_with fail
  clear hfin d0 d1 d2 d3 d4 f0 f1 f2 f3 f4
  generalize (((((w2.setCell ⟨w.heap.size + 1, 0, none⟩ (.int .i64 mk)).setCell ⟨w.heap.size + 1, 1, none⟩ (.int .i64 mn)).setCell ⟨w.heap.size + 1, 2, none⟩ (.string mt)).setCell ⟨w.heap.size + 1, 3, none⟩ (.slice Ak mks.length kc2)).setCell ⟨w.heap.size + 1, 4, none⟩ (.slice Ax mns.length xc2)) = WF at *
  obtain ⟨q0, q1, q2, q3, q4⟩ := HFIN.cells5
  refine bodyPost_ret (v := .tuple #[.agg #[.int .i64 mk, .int .i64 mn, .string mt, .slice Ak mks.length kc2, .slice Ax mns.length xc2], .bool true]) (by simp [results, Tryd.results21, go_sem, q0, q1, q2, q3, q4]) rfl ?_
  exact ⟨_, _, _, _, _, rfl, hnd2.out.lift (by omega), hbel.out⟩
theorem cFind_own (n : Nd) (x : ByteArray) (cs : List Value) (w : World) (B : Nat) (hn : NdIs w B n cs) (hB : B ≤ w.heap.size) (hs : sizeOk n) (mk mn : Int) (mt : ByteArray) (mks : List ByteArray) (mns : List Nd) (hf : findN n x = some (.mk mk mn mt mks mns)) :
    Calls Tryd.prog 21 #[.agg cs.toArray, .string x] w (FindTop mk mn mt mks mns w) := by
  cases n with
  | mk k num t ks ns =>
    unfold NdIs at hn
    obtain ⟨A, ck, A2, cc, xs, rfl, hks, hxs, hns, ik, inn, ht, hkl, hk, hmm⟩ := hn
    unfold sizeOk at hs
    simp only [findN] at hf
    split at hf
    · rename_i h7
      subst h7
      split at hf
      · cases hf
      · rename_i i hi
        refine cFind_top num t ks ns A A2 ck cc xs x w B hks hxs hns hk hmm hB i hi mk mn mt mks mns hf (Lib.hid fun cs w' h2 h3 => ?_)
        have hsm := sizeOkL_get ns i _ hf hs.2.2.2.2
        unfold sizeOk at hsm
        unfold NdIs at h2
        obtain ⟨A, ck, A2, cc, xs, rfl, hks, hxs, hns, ik, inn, ht, hkl, hk, hmm⟩ := h2
        exact copied_top mk mn mt mks mns A A2 ck cc xs w' B hks hxs hns ht hkl hsm.2.2.2.1.1 hsm.2.2.2.1.2 ik inn h3 (Lib.hid fun i n cs w' h1 h2 h3 => copied_any n.count n (Nat.le_refl _) B cs w' h2 h3 (sizeOkL_get mns i n h1 hsm.2.2.2.2))
    · cases hf
end Go.Proofs.YthbjehbpanhdoaaDoor
namespace Go.Proofs.YthbjehbpanhdoaaDoor
open Go.RowKit Go.PlainAid Go.Shelf
set_option linter.unusedVariables false
set_option linter.unusedSimpArgs false
attribute [local go_sem] Oper.semAt_some
def dn (n : Nat) : (k : Nat) → k ≤ n → List {j : Nat // j < n}
  | 0, _ => []
  | k + 1, h => dn n k (by omega) ++ [⟨n - 1 - k, by omega⟩]
theorem dn_len (n : Nat) : ∀ (k : Nat) (h : k ≤ n), (dn n k h).length = k
  | 0, _ => rfl
  | k + 1, h => by unfold dn; rw [List.length_append, dn_len n k]; rfl
theorem dn_mem (n : Nat) : ∀ (k : Nat) (h : k ≤ n) (x : {j : Nat // j < n}), n - k ≤ x.1 → x ∈ dn n k h
  | 0, _, x, hx => by have := x.2; omega
  | k + 1, h, x, hx => by
    unfold dn
    rw [List.mem_append, List.mem_singleton]
    by_cases e : x.1 = n - 1 - k
    · exact .inr (Subtype.ext e)
    · exact .inl (dn_mem n k _ x (by omega))
set_option maxRecDepth 100000 in
set_option maxHeartbeats 2000000 in
theorem bw1_in (F : Fence) (n : Nat) (hF : F.fn 53) (hro : F.round = none) (hn : 1 ≤ n) (l Bs n₀ len cap : Nat) (A : Option Addr) (g : Nat → Value) (hreach : len ≤ 1000000) (hA : 0 < len → ∃ b off, A = some ⟨b, off, none⟩ ∧ b < n₀) (hBs : Bs < n₀)
    (J Jx : List {j : Nat // j < len} → World → Prop)
    (hY : ∀ pre x W, J pre W → pre.length < len → YieldAt F (n - 1) Tryd.prog l #[.int .i64 (x.1 : Int), .agg #[g (x.1 * 7), g (x.1 * 7 + 1), g (x.1 * 7 + 2), g (x.1 * 7 + 3), g (x.1 * 7 + 4), g (x.1 * 7 + 5), g (x.1 * 7 + 6)]] W fun e W' =>
      (e = .returned (.bool true) ∧ J (pre ++ [x]) W' ∧ Below n₀ W W') ∨ (e = .returned (.bool false) ∧ Jx (pre ++ [x]) W'))
    (W : World) (hc0 : W.cell? ⟨Bs, 0, none⟩ = some (.slice A len cap)) (hc : ∀ b off, A = some ⟨b, off, none⟩ → ∀ j, j < len * 7 → W.cell? ⟨b, off + j, none⟩ = some (g j)) (h0 : J [] W) :
    CallsIn F n Tryd.prog 53 #[.func (.yield l) #[] #[], .pointer (some ⟨Bs, 0, none⟩)] W fun e W' => (∃ v, e = .returned v) ∧
      ((∃ ys, ys = dn len len (Nat.le_refl _) ∧ J ys W') ∨ (∃ pre, (∃ k h, pre = dn len k h) ∧ Jx pre W')) := by
  refine callsIn_of_wp Tryd.func53 rfl hF ?_ hro
  simp only [Tryd.ntmps53, List.size_toArray, List.length_cons, List.length_nil, Nat.reduceAdd, Nat.reduceSub, Array.replicate_succ, Array.replicate_zero, List.push_toArray, List.append_toArray, List.nil_append, List.cons_append]
  have xw : IntKind.i64.wrap ((len : Int) - 1) = (len : Int) - 1 := IntWalk.i64_in _ (by omega)
  gi_wp2
  gi_loopw [3] (fun t3 wr => ∃ (k : Nat) (i : Int) (hk : k ≤ len), t3 = .int .i64 i ∧ i + 1 + k = len ∧ J (dn len k hk) wr ∧ Below n₀ W wr) (fun t3 _ => (intOf t3 + 1).toNat)
  case atStart => exact ⟨0, (len : Int) - 1, Nat.zero_le _, rfl, by omega, h0, Below.refl _ _⟩
  case round =>
    obtain ⟨k, i, hk, rfl, hik, hJs, hnx⟩ := hrel
    have hb0 := (hnx.cell (p := ⟨Bs, 0, none⟩) hBs).trans hc0
    by_cases hlt : k < len
    · obtain ⟨m, rfl⟩ : ∃ m : Nat, i = m := ⟨i.toNat, by omega⟩
      have hml : m < len := by omega
      obtain ⟨b, off, rfl, hb⟩ := hA (by omega)
      have hcx : ∀ j, j < len * 7 → wr.cell? ⟨b, off + j, none⟩ = some (g j) := fun j hj => (hnx.cell (p := ⟨b, off + j, none⟩) hb).trans (hc b off rfl j hj)
      have k0 := hcx (m * 7) (by omega)
      have k1 : wr.cell? ⟨b, off + m * 7 + 1, none⟩ = some (g (m * 7 + 1)) := by have h := hcx (m * 7 + 1) (by omega); rw [← Nat.add_assoc] at h; exact h
      have k2 : wr.cell? ⟨b, off + m * 7 + 2, none⟩ = some (g (m * 7 + 2)) := by have h := hcx (m * 7 + 2) (by omega); rw [← Nat.add_assoc] at h; exact h
      have k3 : wr.cell? ⟨b, off + m * 7 + 3, none⟩ = some (g (m * 7 + 3)) := by have h := hcx (m * 7 + 3) (by omega); rw [← Nat.add_assoc] at h; exact h
      have k4 : wr.cell? ⟨b, off + m * 7 + 4, none⟩ = some (g (m * 7 + 4)) := by have h := hcx (m * 7 + 4) (by omega); rw [← Nat.add_assoc] at h; exact h
      have k5 : wr.cell? ⟨b, off + m * 7 + 5, none⟩ = some (g (m * 7 + 5)) := by have h := hcx (m * 7 + 5) (by omega); rw [← Nat.add_assoc] at h; exact h
      have k6 : wr.cell? ⟨b, off + m * 7 + 6, none⟩ = some (g (m * 7 + 6)) := by have h := hcx (m * 7 + 6) (by omega); rw [← Nat.add_assoc] at h; exact h
      have m0 : (0 : Int) ≤ (m : Int) := by omega
      have m1 : (m : Int) < (len : Int) := by omega
      have mw : IntKind.i64.wrap ((m : Int) - 1) = (m : Int) - 1 := IntWalk.i64_in _ (by omega)
      obtain ⟨fn, tmps, assign, body, hy, hR⟩ := hY _ ⟨m, hml⟩ wr hJs (by rw [dn_len]; exact hlt)
      dsimp only at hy
      have HE : Hid (dn len k hk ++ [⟨m, hml⟩] = dn len (k + 1) hlt) := by
        show _ = _
        rw [dn]
        congr 2
        exact Subtype.ext (by show m = len - 1 - k; omega)
      clear hcx hJs
      gi_wp2
      refine hR.mono ?_
      rintro e W3 (⟨rfl, hJ3, hk3⟩ | ⟨rfl, hJx3⟩)
      · gi_wp2
        go_roundw
        case rel => exact ⟨k + 1, (m : Int) - 1, hlt, by simp [mw], by omega, by rw [← HE.out]; exact hJ3, hnx.trans hk3⟩
        case measure => simp [intOf, mw]
      · gi_wp2
        refine bodyPost_ret (results_none rfl _ _ _) rfl ?_
        exact ⟨⟨_, rfl⟩, .inr ⟨_, ⟨k + 1, hlt, HE.out⟩, hJx3⟩⟩
    · obtain rfl : k = len := by omega
      obtain rfl : i = -1 := by omega
      gi_wp2
      go_end0
      exact ⟨⟨_, rfl⟩, .inl ⟨_, rfl, hJs⟩⟩
def encC (len : Nat) (g : Nat → Value) (x : {j : Nat // j < len}) : Array Value := #[.int .i64 (x.1 : Int), .agg #[g (x.1 * 7), g (x.1 * 7 + 1), g (x.1 * 7 + 2), g (x.1 * 7 + 3), g (x.1 * 7 + 4), g (x.1 * 7 + 5), g (x.1 * 7 + 6)]]
theorem back_stops (F : Fence) (n : Nat) (hF : F.fn 53) (hro : F.round = none) (hn : 1 ≤ n) (Bs n₀ len cap : Nat) (A : Option Addr) (g : Nat → Value) (hreach : len ≤ 1000000) (hA : 0 < len → ∃ b off, A = some ⟨b, off, none⟩ ∧ b < n₀) (hBs : Bs < n₀) (w : World) (hn₀ : n₀ ≤ w.heap.size)
    (hc0 : w.cell? ⟨Bs, 0, none⟩ = some (.slice A len cap)) (hc : ∀ b off, A = some ⟨b, off, none⟩ → ∀ j, j < len * 7 → w.cell? ⟨b, off + j, none⟩ = some (g j)) :
    SeqStopsK F n Tryd.prog 53 #[.pointer (some ⟨Bs, 0, none⟩)] (encC len g) (Below n₀) (fun ys => ys = dn len len (Nat.le_refl _)) (fun pre => ∃ k h, pre = dn len k h) len w := fun l J Jx W hW _ _ hY h0 =>
  bw1_in F n hF hro hn l Bs n₀ len cap A g hreach hA hBs J Jx hY W ((hW.cell (p := ⟨Bs, 0, none⟩) (Nat.lt_of_lt_of_le hBs hn₀)).trans hc0)
    (fun b off e j hj => (hW.cell (p := ⟨b, off + j, none⟩) (by
      obtain ⟨b', off', e', hb⟩ := hA (by omega)
      rw [e] at e'
      injection e' with e'
      injection e' with e1 _ _
      show b < _
      omega)).trans (hc b off e j hj)) h0
set_option maxHeartbeats 1000000 in
theorem back_in (F : Fence) (n : Nat) (hF : F.fn 39) (hro : F.round = none) (A : Option Addr) (len cap : Nat) (w : World) :
    CallsIn F n Tryd.prog 39 #[.slice A len cap] w fun e w' => e = .returned (.func (.func 53) #[] #[.pointer (some ⟨w.heap.size, 0, none⟩)]) ∧ w' = w.alloc (.cells #[.slice A len cap] 26) := by
  refine callsIn_of_wp Tryd.func39 rfl hF ?_ hro
  simp only [Tryd.ntmps39, List.size_toArray, List.length_cons, List.length_nil, Nat.reduceAdd, Nat.reduceSub, Array.replicate_succ, Array.replicate_zero, List.push_toArray, List.append_toArray, List.nil_append, List.cons_append]
  gi_wp2
  go_ret
  exact ⟨rfl, rfl⟩
end Go.Proofs.YthbjehbpanhdoaaDoor
namespace Go.Proofs.YthbjehbpanhdoaaDoor
open Go.RowKit Go.PlainAid
set_option linter.unusedVariables false
set_option linter.unusedSimpArgs false
def KC (W2 W : World) : Prop := W2.heap.size ≤ W.heap.size ∧ ∀ (k : Nat) (cs : Array Value) (t : TypeId) (f : Nat × Nat), W2.heap[k]? = some (.cells cs t f) → W.heap[k]? = some (.cells cs t f)
theorem KC.refl (W : World) : KC W W := ⟨Nat.le_refl _, fun _ _ _ _ h => h⟩
theorem KC.grown {W2 X Y : World} {row : Option Nat} (h : KC W2 X) (hg : X.grownBy Y row) (hr : ∀ r, row = some r → ∃ o : Obj, X.heap[r]? = some o ∧ o.isCells = false) : KC W2 Y :=
  ⟨Nat.le_trans h.1 hg.size, fun k cs t f hk => by
    have hx := h.2 k cs t f hk
    refine (hg.block k (Array.getElem?_eq_some_iff.1 hx).1 (fun e => ?_)).trans hx
    obtain ⟨o, ho, hc⟩ := hr k e.symm
    rw [hx] at ho
    cases ho
    cases hc⟩
theorem KC.own {β : Type} (p : β → World → Prop) : Own (fun s W => ∃ W2, KC W2 W ∧ p s W2) := fun s X Y row hs hg hr => by
  obtain ⟨W2, h1, h2⟩ := hs
  exact ⟨W2, h1.grown hg hr, h2⟩
theorem KC.blk {W2 W : World} (h : KC W2 W) {g : Nat} {t : TypeId} {cs : Array Value} (hb : Blk W2 g t cs) : Blk W g t cs := h.2 _ _ _ _ hb
theorem KC.cell {W2 W : World} (h : KC W2 W) {p : Addr} {v : Value} (hp : W2.cell? p = some v) : W.cell? p = some v := by
  have hb : ∃ cs t f, W2.heap[p.block]? = some (.cells cs t f) := by
    unfold World.cell? at hp
    split at hp
    · rename_i h1
      exact ⟨_, _, _, h1⟩
    · cases hp
  obtain ⟨cs, t, f, hb⟩ := hb
  exact (World.cell?_of_block ((h.2 _ _ _ _ hb).trans hb.symm)).trans hp
theorem RS.kc {w w' : World} (hk : KC w w') {S : Nat → Prop} {size n : Nat} {A : Option Addr} {xs : List Value} (h : RS w S size A n xs) : RS w' S size A n xs :=
  ⟨h.1, fun hn => by
    obtain ⟨ad, e, hb, hc⟩ := h.2 hn
    exact ⟨ad, e, hb, fun j u hu => hk.cell (hc j u hu)⟩⟩
mutual
theorem NdIn.kc {w w' : World} (hk : KC w w') {S : Nat → Prop} : ∀ (n : Nd) (cs : List Value), NdIn w S n cs → NdIn w' S n cs
  | .mk k m t ks ns, cs, h => by
    unfold NdIn at h ⊢
    obtain ⟨A, ck, A2, c, xs, h1, h2, h3, h4, h5⟩ := h
    exact ⟨A, ck, A2, c, xs, h1, h2.kc hk, h3.kc hk, NdsIn.kc hk ns xs h4, h5⟩
theorem NdsIn.kc {w w' : World} (hk : KC w w') {S : Nat → Prop} : ∀ (ns : List Nd) (xs : List Value), NdsIn w S ns xs → NdsIn w' S ns xs
  | [], xs, h => by unfold NdsIn at h ⊢; exact h
  | n :: ns, xs, h => by
    unfold NdsIn at h ⊢
    obtain ⟨cs, ys, h1, h2, h3⟩ := h
    exact ⟨cs, ys, h1, NdIn.kc hk n cs h2, NdsIn.kc hk ns ys h3⟩
end
theorem keeps_below {B : Nat} {W W' : World} (h : Below W.heap.size W W') : KeepsFrom B W W' := ⟨h.size, fun k o _ hk _ => (h.block k (Array.getElem?_eq_some_iff.1 hk).1).trans hk⟩
end Go.Proofs.YthbjehbpanhdoaaDoor
namespace Go.Proofs.YthbjehbpanhdoaaDoor
open Go.RowKit Go.PlainAid Go.Shelf
set_option linter.unusedVariables false
set_option linter.unusedSimpArgs false
attribute [local go_sem] Oper.semAt_some
def hitJ (idf nmf : Nat → ByteArray) (id nm : ByteArray) (j : Nat) : Bool := (idf j).toList == id.toList && (nmf j).toList == nm.toList
def CellsC (g : Nat → Value) (w : World) (B : Nat) (a : Nd) (nm id : ByteArray) (j : Nat) : Prop := ∃ (x0 x1 : Int) (x2 : ByteArray) (x3 : Option Addr) (x4 x5 : Nat) (x6 : Option Addr) (x7 x8 : Nat), NdIs w B a [.int .i64 x0, .int .i64 x1, .string x2, .slice x3 x4 x5, .slice x6 x7 x8] ∧
  g (j * 7) = .string nm ∧ g (j * 7 + 1) = .int .i64 x0 ∧ g (j * 7 + 2) = .int .i64 x1 ∧ g (j * 7 + 3) = .string x2 ∧ g (j * 7 + 4) = .slice x3 x4 x5 ∧ g (j * 7 + 5) = .slice x6 x7 x8 ∧ g (j * 7 + 6) = .string id
def PrP (pr : Option Nd × Int) (w : World) (e : Ending) (w' : World) : Prop := ∃ (c0 c1 : Int) (c2 : ByteArray) (c3 : Option Addr) (c4 c5 : Nat) (c6 : Option Addr) (c7 c8 : Nat),
  e = .returned (.tuple #[.agg #[.int .i64 c0, .int .i64 c1, .string c2, .slice c3 c4 c5, .slice c6 c7 c8], .int .i64 pr.2]) ∧ NdIn w' (Since w w') (pr.1.getD (nd0 0)) [.int .i64 c0, .int .i64 c1, .string c2, .slice c3 c4 c5, .slice c6 c7 c8] ∧ Below w.heap.size w w'
def TxtP (r : Option ByteArray) (w : World) (e : Ending) (w' : World) : Prop := e = .returned (.tuple #[.string (r.getD ⟨#[]⟩), .bool r.isSome]) ∧ Below w.heap.size w w'
def RfP (r : Option Nd) (w : World) (e : Ending) (w' : World) : Prop := ∃ (c0 c1 : Int) (c2 : ByteArray) (c3 : Option Addr) (c4 c5 : Nat) (c6 : Option Addr) (c7 c8 : Nat),
  e = .returned (.tuple #[.agg #[.int .i64 c0, .int .i64 c1, .string c2, .slice c3 c4 c5, .slice c6 c7 c8], .bool r.isSome]) ∧ (∀ m, r = some m → NdIn w' (Since w w') m [.int .i64 c0, .int .i64 c1, .string c2, .slice c3 c4 c5, .slice c6 c7 c8]) ∧ Below w.heap.size w w'
def RQ {len : Nat} (w : World) (idf nmf : Nat → ByteArray) (id nm : ByteArray) (pr : Nat → Option Nd × Int) (c : Code) (pre : List {j : Nat // j < len}) (W2 : World) : Prop := c = .ret ∧ ∃ (ini : List {j : Nat // j < len}) (x : {j : Nat // j < len}), pre = ini ++ [x] ∧ (∀ y ∈ ini, hitJ idf nmf id nm y.1 = false) ∧ hitJ idf nmf id nm x.1 = true ∧
  ∃ (c0 c1 : Int) (c2 : ByteArray) (c3 : Option Addr) (c4 c5 : Nat) (c6 : Option Addr) (c7 c8 : Nat), Blk W2 (w.heap.size + 1) 25 #[.int .i64 c0, .int .i64 c1, .string c2, .slice c3 c4 c5, .slice c6 c7 c8] ∧ Blk W2 (w.heap.size + 1 + 1) 4 #[.bool ((pr x.1).2 == 0)] ∧
    NdIn W2 (fun b => w.heap.size ≤ b ∧ b < W2.heap.size) ((pr x.1).1.getD (nd0 0)) [.int .i64 c0, .int .i64 c1, .string c2, .slice c3 c4 c5, .slice c6 c7 c8]
set_option maxRecDepth 100000 in
set_option maxHeartbeats 1000000 in
theorem refer_walk (id nm pa : ByteArray) (x0 x1 : Int) (x2 : ByteArray) (x3 : Option Addr) (x4 x5 : Nat) (x6 : Option Addr) (x8 : Nat) (w : World) (len cap : Nat) (A : Option Addr) (g : Nat → Value) (idf nmf : Nat → ByteArray) (arf : Nat → Nd) (pr : Nat → Option Nd × Int) (R : Option Nd)
    (HT1 : Hid (∀ w', Below w.heap.size w w' → Calls Tryd.prog 38 #[.agg #[.int .i64 x0, .int .i64 x1, .string x2, .slice x3 x4 x5, .slice x6 3 x8], .string ⟨#[114, 101, 115, 117, 108, 116, 79, 102]⟩] w' fun e w'' => e = .returned (.tuple #[.string id, .bool true]) ∧ Below w'.heap.size w' w''))
    (HT2 : Hid (∀ w', Below w.heap.size w w' → Calls Tryd.prog 38 #[.agg #[.int .i64 x0, .int .i64 x1, .string x2, .slice x3 x4 x5, .slice x6 3 x8], .string ⟨#[110, 97, 109, 101]⟩] w' fun e w'' => e = .returned (.tuple #[.string nm, .bool true]) ∧ Below w'.heap.size w' w''))
    (HT3 : Hid (∀ w', Below w.heap.size w w' → Calls Tryd.prog 38 #[.agg #[.int .i64 x0, .int .i64 x1, .string x2, .slice x3 x4 x5, .slice x6 3 x8], .string ⟨#[112, 97, 116, 104]⟩] w' fun e w'' => e = .returned (.tuple #[.string pa, .bool true]) ∧ Below w'.heap.size w' w''))
    (hlen : len ≤ 1000000) (HA : Hid (0 < len → ∃ b off, A = some ⟨b, off, none⟩ ∧ b < w.heap.size)) (HC : Hid (∀ b off, A = some ⟨b, off, none⟩ → ∀ j, j < len * 7 → w.cell? ⟨b, off + j, none⟩ = some (g j)))
    (HCC : Hid (∀ j, j < len → CellsC g w w.heap.size (arf j) (nmf j) (idf j) j))
    (HG : Hid (∀ (j : Nat) (cs : List Value) (w' : World), j < len → NdIs w' w.heap.size (arf j) cs → Below w.heap.size w w' → Calls Tryd.prog 40 #[.agg cs.toArray, .string pa] w' (PrP (pr j) w')))
    (HPI : Hid (∀ j, (pr j).1.isSome = ((pr j).2 == 0)))
    (HRn : Hid ((∀ j, j < len → hitJ idf nmf id nm j = false) → R = none)) (HRs : Hid (∀ i, i < len → hitJ idf nmf id nm i = true → (∀ j, i < j → j < len → hitJ idf nmf id nm j = false) → R = (pr i).1)) :
    Calls Tryd.prog 25 #[.agg #[.int .i64 x0, .int .i64 x1, .string x2, .slice x3 x4 x5, .slice x6 3 x8], .slice A len cap] w (RfP R w) := by
  have HA0 : Hid (Below w.heap.size w (((w.alloc (.cells #[.int .i64 x0, .int .i64 x1, .string x2, .slice x3 x4 x5, .slice x6 3 x8] 25)).alloc (.cells #[.int .i64 0, .int .i64 0, .string ⟨#[]⟩, .slice none 0 0, .slice none 0 0] 25)).alloc (.cells #[.bool false] 4))) := (((Below.refl _ _).alloc (Nat.le_refl _) _).alloc (by simp) _).alloc (by simp; omega) _
  have X0 : Hid (Blk (((w.alloc (.cells #[.int .i64 x0, .int .i64 x1, .string x2, .slice x3 x4 x5, .slice x6 3 x8] 25)).alloc (.cells #[.int .i64 0, .int .i64 0, .string ⟨#[]⟩, .slice none 0 0, .slice none 0 0] 25)).alloc (.cells #[.bool false] 4)) w.heap.size 25 #[.int .i64 x0, .int .i64 x1, .string x2, .slice x3 x4 x5, .slice x6 3 x8]) := ((Blk.new w _ _).alloc _).alloc _
  have X4 : Hid (Blk (((w.alloc (.cells #[.int .i64 x0, .int .i64 x1, .string x2, .slice x3 x4 x5, .slice x6 3 x8] 25)).alloc (.cells #[.int .i64 0, .int .i64 0, .string ⟨#[]⟩, .slice none 0 0, .slice none 0 0] 25)).alloc (.cells #[.bool false] 4)) (w.heap.size + 1) 25 #[.int .i64 0, .int .i64 0, .string ⟨#[]⟩, .slice none 0 0, .slice none 0 0]) := by
    have h := (Blk.new (w.alloc (.cells #[.int .i64 x0, .int .i64 x1, .string x2, .slice x3 x4 x5, .slice x6 3 x8] 25)) 25 #[.int .i64 0, .int .i64 0, .string ⟨#[]⟩, .slice none 0 0, .slice none 0 0]).alloc (.cells #[.bool false] 4)
    rw [World.size_alloc] at h; exact h
  have X5 : Hid (Blk (((w.alloc (.cells #[.int .i64 x0, .int .i64 x1, .string x2, .slice x3 x4 x5, .slice x6 3 x8] 25)).alloc (.cells #[.int .i64 0, .int .i64 0, .string ⟨#[]⟩, .slice none 0 0, .slice none 0 0] 25)).alloc (.cells #[.bool false] 4)) (w.heap.size + 1 + 1) 4 #[.bool false]) := by
    have h := Blk.new ((w.alloc (.cells #[.int .i64 x0, .int .i64 x1, .string x2, .slice x3 x4 x5, .slice x6 3 x8] 25)).alloc (.cells #[.int .i64 0, .int .i64 0, .string ⟨#[]⟩, .slice none 0 0, .slice none 0 0] 25)) 4 #[.bool false]
    rw [World.size_alloc, World.size_alloc] at h; exact h
  refine (callsIn_wide (n := 8)).1 ?_
  refine callsIn_of_wp_marks Tryd.func25 rfl trivial ?_ rfl
  simp only [Tryd.ntmps25, List.size_toArray, List.length_cons, List.length_nil, Nat.reduceAdd, Nat.reduceSub, Array.replicate_succ, Array.replicate_zero, List.push_toArray, List.append_toArray, List.nil_append, List.cons_append]
  gi_wp2
  refine ⟨trivial, ?_⟩
  refine (callsIn_wide.2 (HT1.out _ HA0.out)).mono ?_
  rintro e w1 ⟨rfl, hb⟩
  have hAL : Below w1.heap.size w1 (w1.alloc (.cells #[.string id] 9)) := (Below.refl _ _).alloc (Nat.le_refl _) _
  have HA1 := Lib.hid (nextB (nextB HA0.out hb) hAL)
  have hs1 := hb.size
  have Y0 := Lib.hid ((X0.out.below hb X0.out.lt).alloc (.cells #[.string id] 9))
  have Y4 := Lib.hid ((X4.out.below hb X4.out.lt).alloc (.cells #[.string id] 9))
  have Y5 := Lib.hid ((X5.out.below hb X5.out.lt).alloc (.cells #[.string id] 9))
  have Y6 := Lib.hid (Blk.new w1 9 #[.string id])
  simp only [World.size_alloc] at hs1
  clear HA0 X0 X4 X5 HT1 hb hAL
  obtain ⟨y0, y1, y2, y3, y4⟩ := Y0.out.cells5
  gi_wp2
  obtain ⟨b6, hb6⟩ : ∃ b6, b6 = w1.heap.size := ⟨_, rfl⟩
  rw [← hb6] at Y6 hs1 ⊢
  clear hb6 y0 y1 y2 y3 y4
  generalize w1.alloc (.cells #[.string id] 9) = W1 at *
  refine ⟨trivial, ?_⟩
  refine (callsIn_wide.2 (HT2.out _ HA1.out)).mono ?_
  rintro e w2 ⟨rfl, hb⟩
  have hAL : Below w2.heap.size w2 (w2.alloc (.cells #[.string nm] 9)) := (Below.refl _ _).alloc (Nat.le_refl _) _
  have HA2 := Lib.hid (nextB (nextB HA1.out hb) hAL)
  have hs2 := hb.size
  have h6lt := Y6.out.lt
  have Z0 := Lib.hid ((Y0.out.below hb Y0.out.lt).alloc (.cells #[.string nm] 9))
  have Z4 := Lib.hid ((Y4.out.below hb Y4.out.lt).alloc (.cells #[.string nm] 9))
  have Z5 := Lib.hid ((Y5.out.below hb Y5.out.lt).alloc (.cells #[.string nm] 9))
  have Z6 := Lib.hid ((Y6.out.below hb Y6.out.lt).alloc (.cells #[.string nm] 9))
  have Z8 := Lib.hid (Blk.new w2 9 #[.string nm])
  clear HA1 Y0 Y4 Y5 Y6 HT2 hb hAL
  obtain ⟨y0, y1, y2, y3, y4⟩ := Z0.out.cells5
  gi_wp2
  obtain ⟨b8, hb8⟩ : ∃ b8, b8 = w2.heap.size := ⟨_, rfl⟩
  rw [← hb8] at Z8 hs2 ⊢
  clear hb8 y0 y1 y2 y3 y4
  generalize w2.alloc (.cells #[.string nm] 9) = W2 at *
  refine ⟨trivial, ?_⟩
  refine (callsIn_wide.2 (HT3.out _ HA2.out)).mono ?_
  rintro e w3 ⟨rfl, hb⟩
  have hAL : Below w3.heap.size w3 (w3.alloc (.cells #[.string pa] 9)) := (Below.refl _ _).alloc (Nat.le_refl _) _
  have HA3 := Lib.hid (nextB (nextB HA2.out hb) hAL)
  have hs3 := hb.size
  have h8lt := Z8.out.lt
  have V0 := Lib.hid ((Z0.out.below hb Z0.out.lt).alloc (.cells #[.string pa] 9))
  have V4 := Lib.hid ((Z4.out.below hb Z4.out.lt).alloc (.cells #[.string pa] 9))
  have V5 := Lib.hid ((Z5.out.below hb Z5.out.lt).alloc (.cells #[.string pa] 9))
  have V6 := Lib.hid ((Z6.out.below hb Z6.out.lt).alloc (.cells #[.string pa] 9))
  have V8 := Lib.hid ((Z8.out.below hb Z8.out.lt).alloc (.cells #[.string pa] 9))
  have V10 := Lib.hid (Blk.new w3 9 #[.string pa])
  clear HA2 Z0 Z4 Z5 Z6 Z8 HT3 hb hAL
  obtain ⟨y0, y1, y2, y3, y4⟩ := V0.out.cells5
  gi_wp2
  refine ⟨trivial, ?_⟩
  refine (back_in Fence.wide _ trivial rfl _ _ _ _).mono ?_
  rintro e w4 ⟨rfl, rfl⟩
  obtain ⟨b10, hb10⟩ : ∃ b10, b10 = w3.heap.size := ⟨_, rfl⟩
  rw [← hb10] at V10 hs3 ⊢
  clear hb10 y0 y1 y2 y3 y4 V0
  generalize w3.alloc (.cells #[.string pa] 9) = W3 at *
  gi_wp2
  have h10 := V10.out.lt
  have hA0 : Below W3.heap.size W3 (W3.alloc (.cells #[.slice A len cap] 26)) := (Below.refl _ _).alloc (Nat.le_refl _) _
  have HB := Lib.hid (nextB HA3.out hA0)
  have U4 := Lib.hid (V4.out.alloc (.cells #[.slice A len cap] 26))
  have U5 := Lib.hid (V5.out.alloc (.cells #[.slice A len cap] 26))
  have U6 := Lib.hid (V6.out.alloc (.cells #[.slice A len cap] 26))
  have U8 := Lib.hid (V8.out.alloc (.cells #[.slice A len cap] 26))
  have U10 := Lib.hid (V10.out.alloc (.cells #[.slice A len cap] 26))
  have U12 := Lib.hid (Blk.new W3 26 #[.slice A len cap])
  have hsz : (W3.alloc (.cells #[.slice A len cap] 26)).heap.size = W3.heap.size + 1 := by simp
  have hw3 := HA3.out.size
  obtain ⟨b12, hb12⟩ : ∃ b12, b12 = W3.heap.size := ⟨_, rfl⟩
  rw [← hb12] at U12 hsz h10 hw3 ⊢
  clear hA0 HA3 V4 V5 V6 V8 V10 hb12
  generalize W3.alloc (.cells #[.slice A len cap] 26) = W0 at *
  have hwW : w.heap.size ≤ W0.heap.size := by omega
  refine wpIn_rangeFunc_ownH rfl (by omega) (gf := 53) (lb := #[.pointer (some ⟨b12, 0, none⟩)]) rfl trivial (enters_of Tryd.func53 (by kernel_rfl) rfl)
    (back_stops Fence.wide _ trivial rfl (by omega) b12 W0.heap.size len cap A g hlen (fun h => by obtain ⟨b, off, e, hb⟩ := HA.out h; exact ⟨b, off, e, by omega⟩) (by omega) W0 (Nat.le_refl _) (U12.out.cell 0) (fun b off e j hj => by
      have hbl : b < w.heap.size := by
        obtain ⟨b', off', e', hb⟩ := HA.out (by omega)
        rw [e] at e'
        injection e' with e'
        injection e' with e1 _ _
        omega
      exact (HB.out.cell (p := ⟨b, off + j, none⟩) hbl).trans (HC.out b off e j hj))) belowK_t (belowK_b (Nat.le_refl _)) (Below.refl _ _) (fun _ => rfl)
    (fun pre W => (∀ x ∈ pre, hitJ idf nmf id nm x.1 = false) ∧ Below W0.heap.size W0 W)
    (fun c pre W => (∃ W2, KC W2 W ∧ RQ w idf nmf id nm pr c pre W2) ∧ Below w.heap.size w W)
    (OwnFrom.and (ownFrom_pure _ _) (ownFrom_below (Nat.le_refl _) (Nat.le_refl _)))
    (fun c => OwnFrom.and (Own.from (KC.own _) _) (ownFrom_below (Nat.le_refl _) hwW))
    ⟨by simp, Below.refl _ _⟩
    (fun x a' W => ∃ Bx, W0.heap.size ≤ Bx ∧ Blk W Bx 31 #[g (x.1 * 7), g (x.1 * 7 + 1), g (x.1 * 7 + 2), g (x.1 * 7 + 3), g (x.1 * 7 + 4), g (x.1 * 7 + 5), g (x.1 * 7 + 6)] ∧ a' = { tmps := #[.agg #[.int .i64 x0, .int .i64 x1, .string x2, .slice x3 x4 x5, .slice x6 3 x8], .slice A len cap, .pointer (some ⟨w.heap.size, 0, none⟩), undef, .pointer (some ⟨w.heap.size + 1, 0, none⟩), .pointer (some ⟨w.heap.size + 1 + 1, 0, none⟩), .pointer (some ⟨b6, 0, none⟩), .bool true, .pointer (some ⟨b8, 0, none⟩), .bool true, .pointer (some ⟨b10, 0, none⟩), .bool true, undef, .pointer (some ⟨Bx, 0, none⟩), undef, undef, .tuple #[.string id, .bool true], .agg #[.int .i64 x0, .int .i64 x1, .string x2, .slice x3 x4 x5, .slice x6 3 x8], .tuple #[.string id, .bool true], .string id, .bool true, .tuple #[.string nm, .bool true], .agg #[.int .i64 x0, .int .i64 x1, .string x2, .slice x3 x4 x5, .slice x6 3 x8], .tuple #[.string nm, .bool true], .string nm, .bool true, .tuple #[.string pa, .bool true], .agg #[.int .i64 x0, .int .i64 x1, .string x2, .slice x3 x4 x5, .slice x6 3 x8], .tuple #[.string pa, .bool true], .string pa, .bool true, .bool true, .bool false, .bool false, .bool true, .bool false, .bool false, .bool false, .bool true, .bool false, .bool false, .bool false, .pointer (some ⟨w.heap.size, 4, none⟩), .slice x6 3 x8, .int .i64 3, .bool false, .bool false, undef, .slice A len cap, .func (.func 53) #[] #[.pointer (some ⟨b12, 0, none⟩)], .int .i64 (x.1 : Int), .agg #[g (x.1 * 7), g (x.1 * 7 + 1), g (x.1 * 7 + 2), g (x.1 * 7 + 3), g (x.1 * 7 + 4), g (x.1 * 7 + 5), g (x.1 * 7 + 6)], undef, undef, undef, undef, undef, undef, undef, undef, undef, undef, undef, undef, undef, undef, undef, undef, undef, undef, undef, undef, undef], defers := [] })
    (fun x a' _ X Y row hs hg hr => by obtain ⟨Bx, e1, e2, e3⟩ := hs; exact ⟨Bx, e1, (KC.refl X).grown hg (fun r e => (hr r e).2) |>.blk e2, e3⟩)
    ?assign ?body ?done ?stop
  case assign =>
    rintro l pre x W K ⟨hp, hB1⟩ hK
    have hsW := hB1.size
    obtain ⟨z0, z1, z2, z3, z4, z5, z6, z7, z8, hnd, e0, e1, e2, e3, e4, e5, e6⟩ := HCC.out x.1 x.2
    clear HB U4 U5 U6 U8 U10 U12 HA HC HCC HG HPI HRn HRs hnd
    simp only [encC, e0, e1, e2, e3, e4, e5, e6] at hK ⊢
    clear e0 e1 e2 e3 e4 e5 e6
    gi_wp2
    exact hK _ _ ((KeepsOthers.alloc _ _).from _) ((Below.refl _ W).alloc hB1.size _) ⟨hp, hB1.alloc hB1.size _⟩ ⟨W.heap.size, hsW, Blk.new W _ _, rfl⟩
  case body =>
    rintro l pre x a' W hl ⟨r, hr⟩ ⟨hp, hB1⟩ ⟨Bx, hBx, bX, rfl⟩ hlt
    have hsW := hB1.size
    have HX4 := Lib.hid (U4.out.below hB1 U4.out.lt)
    have HX5 := Lib.hid (U5.out.below hB1 U5.out.lt)
    have k6 : W.cell? ⟨b6, 0, none⟩ = some (.string id) := (U6.out.below hB1 U6.out.lt).cell 0
    have k8 : W.cell? ⟨b8, 0, none⟩ = some (.string nm) := (U8.out.below hB1 U8.out.lt).cell 0
    have k10 : W.cell? ⟨b10, 0, none⟩ = some (.string pa) := (U10.out.below hB1 U10.out.lt).cell 0
    obtain ⟨z0, z1, z2, z3, z4, z5, z6, z7, z8, hnd, e0, e1, e2, e3, e4, e5, e6⟩ := HCC.out x.1 x.2
    have d0 : W.cell? ⟨Bx, 0, none⟩ = some (g (x.1 * 7)) := bX.cell 0
    have d1 : W.cell? ⟨Bx, 1, none⟩ = some (g (x.1 * 7 + 1)) := bX.cell 1
    have d2 : W.cell? ⟨Bx, 2, none⟩ = some (g (x.1 * 7 + 2)) := bX.cell 2
    have d3 : W.cell? ⟨Bx, 3, none⟩ = some (g (x.1 * 7 + 3)) := bX.cell 3
    have d4 : W.cell? ⟨Bx, 4, none⟩ = some (g (x.1 * 7 + 4)) := bX.cell 4
    have d5 : W.cell? ⟨Bx, 5, none⟩ = some (g (x.1 * 7 + 5)) := bX.cell 5
    have d6 : W.cell? ⟨Bx, 6, none⟩ = some (g (x.1 * 7 + 6)) := bX.cell 6
    rw [e0] at d0 ⊢; rw [e1] at d1 ⊢; rw [e2] at d2 ⊢; rw [e3] at d3 ⊢; rw [e4] at d4 ⊢; rw [e5] at d5 ⊢; rw [e6] at d6 ⊢
    have HPA := Lib.hid (nextB HB.out hB1)
    have HPB := Lib.hid hB1
    have HPR := Lib.hid hp
    have HRG := HG.out x.1 [.int .i64 z0, .int .i64 z1, .string z2, .slice z3 z4 z5, .slice z6 z7 z8] W x.2 (hnd.below HPA.out) HPA.out
    have HRG := Lib.hid HRG
    clear e0 e1 e2 e3 e4 e5 e6 hnd bX HG HCC HC HA U4 U5 U6 U8 U10 U12 HRn HRs hr hlt HB hp hB1
    cases q1 : ((idf x.1).toList == id.toList) with
    | false =>
      have HQ : Hid (hitJ idf nmf id nm x.1 = false) := by show _ = _; unfold hitJ; rw [q1]; rfl
      gi_wp2
      exact ⟨KeepsFrom.refl _ _, Below.refl _ _, ⟨fun y hy => by rcases List.mem_append.1 hy with h | h; exact HPR.out y h; rw [List.mem_singleton.1 h]; exact HQ.out, HPB.out⟩⟩
    | true =>
      cases q2 : ((nmf x.1).toList == nm.toList) with
      | false =>
        have HQ : Hid (hitJ idf nmf id nm x.1 = false) := by show _ = _; unfold hitJ; rw [q1, q2]; rfl
        gi_wp2
        exact ⟨KeepsFrom.refl _ _, Below.refl _ _, ⟨fun y hy => by rcases List.mem_append.1 hy with h | h; exact HPR.out y h; rw [List.mem_singleton.1 h]; exact HQ.out, HPB.out⟩⟩
      | true =>
        have HQ : Hid (hitJ idf nmf id nm x.1 = true) := by show _ = _; unfold hitJ; rw [q1, q2]; rfl
        gi_wp2
        refine ⟨trivial, ?_⟩
        refine (CallsIn.inRound l (callsIn_wide.2 HRG.out)).mono ?_
        rintro e w6 ⟨c0, c1, c2, c3, c4, c5, c6, c7, c8, rfl, hn, hb⟩
        have hs6 := hb.size
        have HN := Lib.hid hn
        have HBB := Lib.hid hb
        have HK4 := Lib.hid ((HX4.out.below hb HX4.out.lt).alloc (.cells #[.int .i64 c0, .int .i64 c1, .string c2, .slice c3 c4 c5, .slice c6 c7 c8] 25))
        have HK5 := Lib.hid ((HX5.out.below hb HX5.out.lt).alloc (.cells #[.int .i64 c0, .int .i64 c1, .string c2, .slice c3 c4 c5, .slice c6 c7 c8] 25))
        have hx4 := HX4.out.lt
        have hx5 := HX5.out.lt
        obtain ⟨p0, p1, p2, p3, p4⟩ := HK4.out.cells5
        have f0 := HK4.out.frozen 0
        have f1 := HK4.out.frozen 1
        have f2 := HK4.out.frozen 2
        have f3 := HK4.out.frozen 3
        have f4 := HK4.out.frozen 4
        have p5 : (w6.alloc (.cells #[.int .i64 c0, .int .i64 c1, .string c2, .slice c3 c4 c5, .slice c6 c7 c8] 25)).cell? ⟨w.heap.size + 1 + 1, 0, none⟩ = some (.bool false) := HK5.out.cell 0
        have f5 := HK5.out.frozen 0
        clear HRG hn hb HX4 HX5 k6 k8 k10 d0 d1 d2 d3 d4 d5 d6
        gi_wp2
        clear p0 p1 p2 p3 p4 p5 f0 f1 f2 f3 f4 f5
        have NF : NdIn (w6.alloc (.cells #[.int .i64 c0, .int .i64 c1, .string c2, .slice c3 c4 c5, .slice c6 c7 c8] 25)) (fun b => W.heap.size ≤ b ∧ b < w6.heap.size) ((pr x.1).1.getD (nd0 0)) [.int .i64 c0, .int .i64 c1, .string c2, .slice c3 c4 c5, .slice c6 c7 c8] := NdIn.keep (fun p hp => World.cell?_alloc_lt _ _ _ hp.2) (fun _ h => h) _ _ HN.out
        refine ⟨?_, ⟨_, KC.refl _, rfl, pre, x, rfl, HPR.out, HQ.out, c0, c1, c2, c3, c4, c5, c6, c7, c8, ((((((HK4.out.set_ 0 _).set_ 1 _).set_ 2 _).set_ 3 _).set_ 4 _).far (by show w.heap.size + 1 ≠ w.heap.size + 1 + 1; omega) _), (((((((HK5.out.far (by show w.heap.size + 1 + 1 ≠ w.heap.size + 1; omega) _).far (by show w.heap.size + 1 + 1 ≠ w.heap.size + 1; omega) _).far (by show w.heap.size + 1 + 1 ≠ w.heap.size + 1; omega) _).far (by show w.heap.size + 1 + 1 ≠ w.heap.size + 1; omega) _).far (by show w.heap.size + 1 + 1 ≠ w.heap.size + 1; omega) _).set_ 0 _)), ?_⟩, ?_⟩
        · exact ((keeps_below HBB.out).trans ((KeepsOthers.alloc _ _).from _)).trans ((((((((KeepsOthers.setCell _ _ _).trans (KeepsOthers.setCell _ _ _)).trans (KeepsOthers.setCell _ _ _)).trans (KeepsOthers.setCell _ _ _)).trans (KeepsOthers.setCell _ _ _)).trans (KeepsOthers.setCell _ _ _)).from _))
        · refine NdIn.keep (fun p hp => ?_) (fun b hb => ⟨by have := hb.1; omega, by have := hb.2; simp; omega⟩) _ _ NF
          have h1 := hp.1
          have ne : ∀ (g o : Nat), g < W.heap.size → (⟨g, o, none⟩ : Addr) ≠ p := fun g o hg e => by subst e; have h2 : W.heap.size ≤ g := h1; omega
          rw [World.cell?_setCell_other _ _ _ _ (ne _ _ hx5), World.cell?_setCell_other _ _ _ _ (ne _ _ hx4), World.cell?_setCell_other _ _ _ _ (ne _ _ hx4), World.cell?_setCell_other _ _ _ _ (ne _ _ hx4), World.cell?_setCell_other _ _ _ _ (ne _ _ hx4), World.cell?_setCell_other _ _ _ _ (ne _ _ hx4)]
        · have B6 := (nextB HPA.out HBB.out).alloc (by omega) (.cells #[.int .i64 c0, .int .i64 c1, .string c2, .slice c3 c4 c5, .slice c6 c7 c8] 25)
          exact (((((B6.setCell (p := ⟨w.heap.size + 1, 0, none⟩) (by show w.heap.size ≤ w.heap.size + 1; omega) _).setCell (p := ⟨w.heap.size + 1, 1, none⟩) (by show w.heap.size ≤ w.heap.size + 1; omega) _).setCell (p := ⟨w.heap.size + 1, 2, none⟩) (by show w.heap.size ≤ w.heap.size + 1; omega) _).setCell (p := ⟨w.heap.size + 1, 3, none⟩) (by show w.heap.size ≤ w.heap.size + 1; omega) _).setCell (p := ⟨w.heap.size + 1, 4, none⟩) (by show w.heap.size ≤ w.heap.size + 1; omega) _).setCell (p := ⟨w.heap.size + 1 + 1, 0, none⟩) (by show w.heap.size ≤ w.heap.size + 1 + 1; omega) _
  case done =>
    rintro D ys W hD rfl ⟨hp, hB1⟩ hK
    have hsW := hB1.size
    have HX4 := Lib.hid (U4.out.below hB1 U4.out.lt)
    have HX5 := Lib.hid (U5.out.below hB1 U5.out.lt)
    have HBB := Lib.hid (nextB HB.out hB1)
    have HRN : Hid (R = none) := HRn.out fun j hj => hp ⟨j, hj⟩ (dn_mem len len _ ⟨j, hj⟩ (by omega))
    have HKK := Lib.hid hK
    have hx4 := HX4.out.lt
    have hx5 := HX5.out.lt
    obtain ⟨p0, p1, p2, p3, p4⟩ := HX4.out.cells5
    have f0 := HX4.out.frozen 0
    have f1 := HX4.out.frozen 1
    have f2 := HX4.out.frozen 2
    have f3 := HX4.out.frozen 3
    have f4 := HX4.out.frozen 4
    have p5 : W.cell? ⟨w.heap.size + 1 + 1, 0, none⟩ = some (.bool false) := HX5.out.cell 0
    have f5 := HX5.out.frozen 0
    clear U4 U5 U6 U8 U10 U12 HB hp hB1 HA HC HCC HG HPI HRn HRs hK
    gi_wp2
    clear p0 p1 p2 p3 p4 p5 f0 f1 f2 f3 f4 f5
    have HF4 := Lib.hid ((((((HX4.out.set_ 0 (.int .i64 0)).set_ 1 (.int .i64 0)).set_ 2 (.string ⟨#[]⟩)).set_ 3 (.slice none 0 0)).set_ 4 (.slice none 0 0)).far (p := ⟨w.heap.size + 1 + 1, 0, none⟩) (by show w.heap.size + 1 ≠ w.heap.size + 1 + 1; omega) (.bool false))
    have HF5 := Lib.hid ((((((HX5.out.far (p := ⟨w.heap.size + 1, 0, none⟩) (by show w.heap.size + 1 + 1 ≠ w.heap.size + 1; omega) (.int .i64 0)).far (p := ⟨w.heap.size + 1, 1, none⟩) (by show w.heap.size + 1 + 1 ≠ w.heap.size + 1; omega) (.int .i64 0)).far (p := ⟨w.heap.size + 1, 2, none⟩) (by show w.heap.size + 1 + 1 ≠ w.heap.size + 1; omega) (.string ⟨#[]⟩)).far (p := ⟨w.heap.size + 1, 3, none⟩) (by show w.heap.size + 1 + 1 ≠ w.heap.size + 1; omega) (.slice none 0 0)).far (p := ⟨w.heap.size + 1, 4, none⟩) (by show w.heap.size + 1 + 1 ≠ w.heap.size + 1; omega) (.slice none 0 0)).set_ 0 (.bool false))
    have HFB := Lib.hid ((((((HBB.out.setCell (p := ⟨w.heap.size + 1, 0, none⟩) (by show w.heap.size ≤ w.heap.size + 1; omega) (.int .i64 0)).setCell (p := ⟨w.heap.size + 1, 1, none⟩) (by show w.heap.size ≤ w.heap.size + 1; omega) (.int .i64 0)).setCell (p := ⟨w.heap.size + 1, 2, none⟩) (by show w.heap.size ≤ w.heap.size + 1; omega) (.string ⟨#[]⟩)).setCell (p := ⟨w.heap.size + 1, 3, none⟩) (by show w.heap.size ≤ w.heap.size + 1; omega) (.slice none 0 0)).setCell (p := ⟨w.heap.size + 1, 4, none⟩) (by show w.heap.size ≤ w.heap.size + 1; omega) (.slice none 0 0)).setCell (p := ⟨w.heap.size + 1 + 1, 0, none⟩) (by show w.heap.size ≤ w.heap.size + 1 + 1; omega) (.bool false))
    have HK6 := Lib.hid (((((((KeepsOthers.setCell W ⟨w.heap.size + 1, 0, none⟩ (.int .i64 0)).trans (KeepsOthers.setCell _ ⟨w.heap.size + 1, 1, none⟩ (.int .i64 0))).trans (KeepsOthers.setCell _ ⟨w.heap.size + 1, 2, none⟩ (.string ⟨#[]⟩))).trans (KeepsOthers.setCell _ ⟨w.heap.size + 1, 3, none⟩ (.slice none 0 0))).trans (KeepsOthers.setCell _ ⟨w.heap.size + 1, 4, none⟩ (.slice none 0 0))).trans (KeepsOthers.setCell _ ⟨w.heap.size + 1 + 1, 0, none⟩ (.bool false))).same D _ HKK.out rfl)
    generalize ((((((W.setCell ⟨w.heap.size + 1, 0, none⟩ (.int .i64 0)).setCell ⟨w.heap.size + 1, 1, none⟩ (.int .i64 0)).setCell ⟨w.heap.size + 1, 2, none⟩ (.string ⟨#[]⟩)).setCell ⟨w.heap.size + 1, 3, none⟩ (.slice none 0 0)).setCell ⟨w.heap.size + 1, 4, none⟩ (.slice none 0 0)).setCell ⟨w.heap.size + 1 + 1, 0, none⟩ (.bool false)) = WF at *
    refine ⟨by simp, .inl ⟨_, _, rfl, run_takeDeferred HK6.out, ?_⟩⟩
    have hkc : KC WF (WF.putObj D (.deferred none)) := (KC.refl WF).grown (grownBy_putObj' WF D (.deferred none)) (fun r e => by cases e; exact ⟨_, HK6.out, rfl⟩)
    obtain ⟨q0, q1, q2, q3, q4⟩ := (hkc.blk HF4.out).cells5
    have q5 : (WF.putObj D (.deferred none)).cell? ⟨w.heap.size + 1 + 1, 0, none⟩ = some (.bool false) := (hkc.blk HF5.out).cell 0
    refine ⟨.tuple #[.agg #[.int .i64 0, .int .i64 0, .string ⟨#[]⟩, .slice none 0 0, .slice none 0 0], .bool false], by simp [results, Tryd.f25, go_sem, q0, q1, q2, q3, q4, q5], ?_⟩
    rw [HRN.out]
    exact ⟨_, _, _, _, _, _, _, _, _, rfl, (fun m hm => by cases hm), HFB.out.trans (belowK_b (w := W0) hwW _ D _ _ hD HK6.out rfl rfl)⟩
  case stop =>
    rintro D c pre W hD ⟨k, hk, hpre⟩ ⟨⟨W2, hKC, hRQ⟩, hB⟩ hK
    obtain ⟨rfl, ini, x, e1, e2, e3, c0, c1, c2, c3, c4, c5, c6, c7, c8, g4, g5, gn⟩ := hRQ
    have HRS : Hid (R = (pr x.1).1) := HRs.out x.1 x.2 e3 (fun j hj hjl => by
      rw [hpre] at e1
      cases k with
      | zero => simp [dn] at e1
      | succ k =>
        rw [dn] at e1
        obtain ⟨e4, e5⟩ := List.append_inj' e1 rfl
        have e6 : (⟨len - 1 - k, by omega⟩ : {j : Nat // j < len}) = x := by simpa using e5
        rw [← e6] at hj
        exact e2 ⟨j, hjl⟩ (by rw [← e4]; exact dn_mem len k _ ⟨j, hjl⟩ (by show len - k ≤ j; have : len - 1 - k < j := hj; omega)))
    have HPI2 := HPI.out x.1
    have HW2 := Lib.hid hKC
    have HG4 := Lib.hid g4
    have HG5 := Lib.hid g5
    have HGN := Lib.hid gn
    have HBB := Lib.hid hB
    have HKK := Lib.hid hK
    clear U4 U5 U6 U8 U10 U12 HB HA HC HCC HG HPI HRn HRs hK g4 g5 gn hB hKC e1 e2 e3 hpre
    gi_wp2
    refine ⟨by simp, .inl ⟨_, _, rfl, run_takeDeferred HKK.out, ?_⟩⟩
    have hkc : KC W2 (W.putObj D (.deferred none)) := HW2.out.grown (grownBy_putObj' W D (.deferred none)) (fun r e => by cases e; exact ⟨_, HKK.out, rfl⟩)
    obtain ⟨q0, q1, q2, q3, q4⟩ := (hkc.blk HG4.out).cells5
    have q5 : (W.putObj D (.deferred none)).cell? ⟨w.heap.size + 1 + 1, 0, none⟩ = some (.bool ((pr x.1).2 == 0)) := (hkc.blk HG5.out).cell 0
    refine ⟨.tuple #[.agg #[.int .i64 c0, .int .i64 c1, .string c2, .slice c3 c4 c5, .slice c6 c7 c8], .bool ((pr x.1).2 == 0)], by simp [results, Tryd.f25, go_sem, q0, q1, q2, q3, q4, q5], ?_⟩
    rw [HRS.out]
    refine ⟨_, _, _, _, _, _, _, _, _, by rw [HPI2], (fun m hm => ?_), HBB.out.trans (belowK_b (w := W0) hwW _ D _ _ hD HKK.out rfl rfl)⟩
    have h := HGN.out
    rw [hm] at h
    exact NdIn.keep (fun _ _ => rfl) (fun b hb => ⟨hb.1, Nat.lt_of_lt_of_le hb.2 hkc.1⟩) _ _ (NdIn.kc hkc _ _ h)
end Go.Proofs.YthbjehbpanhdoaaDoor
namespace Go.Proofs.YthbjehbpanhdoaaDoor
open Go.RowKit Go.PlainAid
set_option linter.unusedVariables false
set_option linter.unusedSimpArgs false
set_option maxRecDepth 100000 in
set_option maxHeartbeats 1000000 in
theorem refer_no1 (s1 s2 s3 : ByteArray) (g2 g3 : Bool) (x0 x1 : Int) (x2 : ByteArray) (x3 : Option Addr) (x4 x5 : Nat) (x6 : Option Addr) (x7 x8 : Nat) (w : World) (len cap : Nat) (A : Option Addr)
    (HT1 : Hid (∀ w', Below w.heap.size w w' → Calls Tryd.prog 38 #[.agg #[.int .i64 x0, .int .i64 x1, .string x2, .slice x3 x4 x5, .slice x6 x7 x8], .string ⟨#[114, 101, 115, 117, 108, 116, 79, 102]⟩] w' fun e w'' => e = .returned (.tuple #[.string ⟨#[]⟩, .bool false]) ∧ Below w'.heap.size w' w''))
    (HT2 : Hid (∀ w', Below w.heap.size w w' → Calls Tryd.prog 38 #[.agg #[.int .i64 x0, .int .i64 x1, .string x2, .slice x3 x4 x5, .slice x6 x7 x8], .string ⟨#[110, 97, 109, 101]⟩] w' fun e w'' => e = .returned (.tuple #[.string s2, .bool g2]) ∧ Below w'.heap.size w' w''))
    (HT3 : Hid (∀ w', Below w.heap.size w w' → Calls Tryd.prog 38 #[.agg #[.int .i64 x0, .int .i64 x1, .string x2, .slice x3 x4 x5, .slice x6 x7 x8], .string ⟨#[112, 97, 116, 104]⟩] w' fun e w'' => e = .returned (.tuple #[.string s3, .bool g3]) ∧ Below w'.heap.size w' w'')) :
    Calls Tryd.prog 25 #[.agg #[.int .i64 x0, .int .i64 x1, .string x2, .slice x3 x4 x5, .slice x6 x7 x8], .slice A len cap] w (RfP none w) := by
  have HA0 : Hid (Below w.heap.size w (((w.alloc (.cells #[.int .i64 x0, .int .i64 x1, .string x2, .slice x3 x4 x5, .slice x6 x7 x8] 25)).alloc (.cells #[.int .i64 0, .int .i64 0, .string ⟨#[]⟩, .slice none 0 0, .slice none 0 0] 25)).alloc (.cells #[.bool false] 4))) := (((Below.refl _ _).alloc (Nat.le_refl _) _).alloc (by simp) _).alloc (by simp; omega) _
  have X0 : Hid (Blk (((w.alloc (.cells #[.int .i64 x0, .int .i64 x1, .string x2, .slice x3 x4 x5, .slice x6 x7 x8] 25)).alloc (.cells #[.int .i64 0, .int .i64 0, .string ⟨#[]⟩, .slice none 0 0, .slice none 0 0] 25)).alloc (.cells #[.bool false] 4)) w.heap.size 25 #[.int .i64 x0, .int .i64 x1, .string x2, .slice x3 x4 x5, .slice x6 x7 x8]) := ((Blk.new w _ _).alloc _).alloc _
  have X4 : Hid (Blk (((w.alloc (.cells #[.int .i64 x0, .int .i64 x1, .string x2, .slice x3 x4 x5, .slice x6 x7 x8] 25)).alloc (.cells #[.int .i64 0, .int .i64 0, .string ⟨#[]⟩, .slice none 0 0, .slice none 0 0] 25)).alloc (.cells #[.bool false] 4)) (w.heap.size + 1) 25 #[.int .i64 0, .int .i64 0, .string ⟨#[]⟩, .slice none 0 0, .slice none 0 0]) := by
    have h := (Blk.new (w.alloc (.cells #[.int .i64 x0, .int .i64 x1, .string x2, .slice x3 x4 x5, .slice x6 x7 x8] 25)) 25 #[.int .i64 0, .int .i64 0, .string ⟨#[]⟩, .slice none 0 0, .slice none 0 0]).alloc (.cells #[.bool false] 4)
    rw [World.size_alloc] at h; exact h
  have X5 : Hid (Blk (((w.alloc (.cells #[.int .i64 x0, .int .i64 x1, .string x2, .slice x3 x4 x5, .slice x6 x7 x8] 25)).alloc (.cells #[.int .i64 0, .int .i64 0, .string ⟨#[]⟩, .slice none 0 0, .slice none 0 0] 25)).alloc (.cells #[.bool false] 4)) (w.heap.size + 1 + 1) 4 #[.bool false]) := by
    have h := Blk.new ((w.alloc (.cells #[.int .i64 x0, .int .i64 x1, .string x2, .slice x3 x4 x5, .slice x6 x7 x8] 25)).alloc (.cells #[.int .i64 0, .int .i64 0, .string ⟨#[]⟩, .slice none 0 0, .slice none 0 0] 25)) 4 #[.bool false]
    rw [World.size_alloc, World.size_alloc] at h; exact h
  go_enter Tryd.func25, Tryd.ntmps25
  go_wp2_with fail
  refine (HT1.out _ HA0.out : Calls _ _ _ _ _).mono ?_
  rintro e w1 ⟨rfl, hb⟩
  have hAL : Below w1.heap.size w1 (w1.alloc (.cells #[.string ⟨#[]⟩] 9)) := (Below.refl _ _).alloc (Nat.le_refl _) _
  have HA1 := Lib.hid (nextB (nextB HA0.out hb) hAL)
  have Y0 := Lib.hid ((X0.out.below hb X0.out.lt).alloc (.cells #[.string ⟨#[]⟩] 9))
  have Y4 := Lib.hid ((X4.out.below hb X4.out.lt).alloc (.cells #[.string ⟨#[]⟩] 9))
  have Y5 := Lib.hid ((X5.out.below hb X5.out.lt).alloc (.cells #[.string ⟨#[]⟩] 9))
  clear HA0 X0 X4 X5 HT1 hb hAL
  obtain ⟨y0, y1, y2, y3, y4⟩ := Y0.out.cells5
  go_wp2_with fail
  clear y0 y1 y2 y3 y4
  generalize w1.alloc (.cells #[.string ⟨#[]⟩] 9) = W1 at *
  refine (HT2.out _ HA1.out : Calls _ _ _ _ _).mono ?_
  rintro e w2 ⟨rfl, hb⟩
  have hAL : Below w2.heap.size w2 (w2.alloc (.cells #[.string s2] 9)) := (Below.refl _ _).alloc (Nat.le_refl _) _
  have HA2 := Lib.hid (nextB (nextB HA1.out hb) hAL)
  have Z0 := Lib.hid ((Y0.out.below hb Y0.out.lt).alloc (.cells #[.string s2] 9))
  have Z4 := Lib.hid ((Y4.out.below hb Y4.out.lt).alloc (.cells #[.string s2] 9))
  have Z5 := Lib.hid ((Y5.out.below hb Y5.out.lt).alloc (.cells #[.string s2] 9))
  clear HA1 Y0 Y4 Y5 HT2 hb hAL
  obtain ⟨y0, y1, y2, y3, y4⟩ := Z0.out.cells5
  go_wp2_with fail
  clear y0 y1 y2 y3 y4
  generalize w2.alloc (.cells #[.string s2] 9) = W2 at *
  refine (HT3.out _ HA2.out : Calls _ _ _ _ _).mono ?_
  rintro e w3 ⟨rfl, hb⟩
  have hAL : Below w3.heap.size w3 (w3.alloc (.cells #[.string s3] 9)) := (Below.refl _ _).alloc (Nat.le_refl _) _
  have HA3 := Lib.hid (nextB (nextB HA2.out hb) hAL)
  have V0 := Lib.hid ((Z0.out.below hb Z0.out.lt).alloc (.cells #[.string s3] 9))
  have V4 := Lib.hid ((Z4.out.below hb Z4.out.lt).alloc (.cells #[.string s3] 9))
  have V5 := Lib.hid ((Z5.out.below hb Z5.out.lt).alloc (.cells #[.string s3] 9))
  clear HA2 Z0 Z4 Z5 HT3 hb hAL
  obtain ⟨y0, y1, y2, y3, y4⟩ := V0.out.cells5
  obtain ⟨p0, p1, p2, p3, p4⟩ := V4.out.cells5
  have f0 := V4.out.frozen 0
  have f1 := V4.out.frozen 1
  have f2 := V4.out.frozen 2
  have f3 := V4.out.frozen 3
  have f4 := V4.out.frozen 4
  have p5 : (w3.alloc (.cells #[.string s3] 9)).cell? ⟨w.heap.size + 1 + 1, 0, none⟩ = some (.bool false) := V5.out.cell 0
  have f5 := V5.out.frozen 0
  go_wp2_with fail
  clear p0 p1 p2 p3 p4 p5 f0 f1 f2 f3 f4 f5 y0 y1 y2 y3 y4
  have HF4 := Lib.hid ((((((V4.out.set_ 0 (.int .i64 0)).set_ 1 (.int .i64 0)).set_ 2 (.string ⟨#[]⟩)).set_ 3 (.slice none 0 0)).set_ 4 (.slice none 0 0)).far (p := ⟨w.heap.size + 1 + 1, 0, none⟩) (by show w.heap.size + 1 ≠ w.heap.size + 1 + 1; omega) (.bool false))
  have HF5 := Lib.hid ((((((V5.out.far (p := ⟨w.heap.size + 1, 0, none⟩) (by show w.heap.size + 1 + 1 ≠ w.heap.size + 1; omega) (.int .i64 0)).far (p := ⟨w.heap.size + 1, 1, none⟩) (by show w.heap.size + 1 + 1 ≠ w.heap.size + 1; omega) (.int .i64 0)).far (p := ⟨w.heap.size + 1, 2, none⟩) (by show w.heap.size + 1 + 1 ≠ w.heap.size + 1; omega) (.string ⟨#[]⟩)).far (p := ⟨w.heap.size + 1, 3, none⟩) (by show w.heap.size + 1 + 1 ≠ w.heap.size + 1; omega) (.slice none 0 0)).far (p := ⟨w.heap.size + 1, 4, none⟩) (by show w.heap.size + 1 + 1 ≠ w.heap.size + 1; omega) (.slice none 0 0)).set_ 0 (.bool false))
  have HFB := Lib.hid ((((((HA3.out.setCell (p := ⟨w.heap.size + 1, 0, none⟩) (by show w.heap.size ≤ w.heap.size + 1; omega) (.int .i64 0)).setCell (p := ⟨w.heap.size + 1, 1, none⟩) (by show w.heap.size ≤ w.heap.size + 1; omega) (.int .i64 0)).setCell (p := ⟨w.heap.size + 1, 2, none⟩) (by show w.heap.size ≤ w.heap.size + 1; omega) (.string ⟨#[]⟩)).setCell (p := ⟨w.heap.size + 1, 3, none⟩) (by show w.heap.size ≤ w.heap.size + 1; omega) (.slice none 0 0)).setCell (p := ⟨w.heap.size + 1, 4, none⟩) (by show w.heap.size ≤ w.heap.size + 1; omega) (.slice none 0 0)).setCell (p := ⟨w.heap.size + 1 + 1, 0, none⟩) (by show w.heap.size ≤ w.heap.size + 1 + 1; omega) (.bool false))
  generalize (((((((w3.alloc (.cells #[.string s3] 9)).setCell ⟨w.heap.size + 1, 0, none⟩ (.int .i64 0)).setCell ⟨w.heap.size + 1, 1, none⟩ (.int .i64 0)).setCell ⟨w.heap.size + 1, 2, none⟩ (.string ⟨#[]⟩)).setCell ⟨w.heap.size + 1, 3, none⟩ (.slice none 0 0)).setCell ⟨w.heap.size + 1, 4, none⟩ (.slice none 0 0)).setCell ⟨w.heap.size + 1 + 1, 0, none⟩ (.bool false)) = WF at *
  obtain ⟨q0, q1, q2, q3, q4⟩ := HF4.out.cells5
  have q5 : WF.cell? ⟨w.heap.size + 1 + 1, 0, none⟩ = some (.bool false) := HF5.out.cell 0
  refine bodyPost_ret (v := .tuple #[.agg #[.int .i64 0, .int .i64 0, .string ⟨#[]⟩, .slice none 0 0, .slice none 0 0], .bool false]) (by simp [results, Tryd.results25, go_sem, q0, q1, q2, q3, q4, q5]) rfl ?_
  exact ⟨_, _, _, _, _, _, _, _, _, rfl, (fun m hm => by cases hm), HFB.out⟩
set_option maxRecDepth 100000 in
set_option maxHeartbeats 1000000 in
theorem refer_no2 (s1 s2 s3 : ByteArray) (g2 g3 : Bool) (x0 x1 : Int) (x2 : ByteArray) (x3 : Option Addr) (x4 x5 : Nat) (x6 : Option Addr) (x7 x8 : Nat) (w : World) (len cap : Nat) (A : Option Addr)
    (HT1 : Hid (∀ w', Below w.heap.size w w' → Calls Tryd.prog 38 #[.agg #[.int .i64 x0, .int .i64 x1, .string x2, .slice x3 x4 x5, .slice x6 x7 x8], .string ⟨#[114, 101, 115, 117, 108, 116, 79, 102]⟩] w' fun e w'' => e = .returned (.tuple #[.string s1, .bool true]) ∧ Below w'.heap.size w' w''))
    (HT2 : Hid (∀ w', Below w.heap.size w w' → Calls Tryd.prog 38 #[.agg #[.int .i64 x0, .int .i64 x1, .string x2, .slice x3 x4 x5, .slice x6 x7 x8], .string ⟨#[110, 97, 109, 101]⟩] w' fun e w'' => e = .returned (.tuple #[.string ⟨#[]⟩, .bool false]) ∧ Below w'.heap.size w' w''))
    (HT3 : Hid (∀ w', Below w.heap.size w w' → Calls Tryd.prog 38 #[.agg #[.int .i64 x0, .int .i64 x1, .string x2, .slice x3 x4 x5, .slice x6 x7 x8], .string ⟨#[112, 97, 116, 104]⟩] w' fun e w'' => e = .returned (.tuple #[.string s3, .bool g3]) ∧ Below w'.heap.size w' w'')) :
    Calls Tryd.prog 25 #[.agg #[.int .i64 x0, .int .i64 x1, .string x2, .slice x3 x4 x5, .slice x6 x7 x8], .slice A len cap] w (RfP none w) := by
  have HA0 : Hid (Below w.heap.size w (((w.alloc (.cells #[.int .i64 x0, .int .i64 x1, .string x2, .slice x3 x4 x5, .slice x6 x7 x8] 25)).alloc (.cells #[.int .i64 0, .int .i64 0, .string ⟨#[]⟩, .slice none 0 0, .slice none 0 0] 25)).alloc (.cells #[.bool false] 4))) := (((Below.refl _ _).alloc (Nat.le_refl _) _).alloc (by simp) _).alloc (by simp; omega) _
  have X0 : Hid (Blk (((w.alloc (.cells #[.int .i64 x0, .int .i64 x1, .string x2, .slice x3 x4 x5, .slice x6 x7 x8] 25)).alloc (.cells #[.int .i64 0, .int .i64 0, .string ⟨#[]⟩, .slice none 0 0, .slice none 0 0] 25)).alloc (.cells #[.bool false] 4)) w.heap.size 25 #[.int .i64 x0, .int .i64 x1, .string x2, .slice x3 x4 x5, .slice x6 x7 x8]) := ((Blk.new w _ _).alloc _).alloc _
  have X4 : Hid (Blk (((w.alloc (.cells #[.int .i64 x0, .int .i64 x1, .string x2, .slice x3 x4 x5, .slice x6 x7 x8] 25)).alloc (.cells #[.int .i64 0, .int .i64 0, .string ⟨#[]⟩, .slice none 0 0, .slice none 0 0] 25)).alloc (.cells #[.bool false] 4)) (w.heap.size + 1) 25 #[.int .i64 0, .int .i64 0, .string ⟨#[]⟩, .slice none 0 0, .slice none 0 0]) := by
    have h := (Blk.new (w.alloc (.cells #[.int .i64 x0, .int .i64 x1, .string x2, .slice x3 x4 x5, .slice x6 x7 x8] 25)) 25 #[.int .i64 0, .int .i64 0, .string ⟨#[]⟩, .slice none 0 0, .slice none 0 0]).alloc (.cells #[.bool false] 4)
    rw [World.size_alloc] at h; exact h
  have X5 : Hid (Blk (((w.alloc (.cells #[.int .i64 x0, .int .i64 x1, .string x2, .slice x3 x4 x5, .slice x6 x7 x8] 25)).alloc (.cells #[.int .i64 0, .int .i64 0, .string ⟨#[]⟩, .slice none 0 0, .slice none 0 0] 25)).alloc (.cells #[.bool false] 4)) (w.heap.size + 1 + 1) 4 #[.bool false]) := by
    have h := Blk.new ((w.alloc (.cells #[.int .i64 x0, .int .i64 x1, .string x2, .slice x3 x4 x5, .slice x6 x7 x8] 25)).alloc (.cells #[.int .i64 0, .int .i64 0, .string ⟨#[]⟩, .slice none 0 0, .slice none 0 0] 25)) 4 #[.bool false]
    rw [World.size_alloc, World.size_alloc] at h; exact h
  go_enter Tryd.func25, Tryd.ntmps25
  go_wp2_with fail
  refine (HT1.out _ HA0.out : Calls _ _ _ _ _).mono ?_
  rintro e w1 ⟨rfl, hb⟩
  have hAL : Below w1.heap.size w1 (w1.alloc (.cells #[.string s1] 9)) := (Below.refl _ _).alloc (Nat.le_refl _) _
  have HA1 := Lib.hid (nextB (nextB HA0.out hb) hAL)
  have Y0 := Lib.hid ((X0.out.below hb X0.out.lt).alloc (.cells #[.string s1] 9))
  have Y4 := Lib.hid ((X4.out.below hb X4.out.lt).alloc (.cells #[.string s1] 9))
  have Y5 := Lib.hid ((X5.out.below hb X5.out.lt).alloc (.cells #[.string s1] 9))
  clear HA0 X0 X4 X5 HT1 hb hAL
  obtain ⟨y0, y1, y2, y3, y4⟩ := Y0.out.cells5
  go_wp2_with fail
  clear y0 y1 y2 y3 y4
  generalize w1.alloc (.cells #[.string s1] 9) = W1 at *
  refine (HT2.out _ HA1.out : Calls _ _ _ _ _).mono ?_
  rintro e w2 ⟨rfl, hb⟩
  have hAL : Below w2.heap.size w2 (w2.alloc (.cells #[.string ⟨#[]⟩] 9)) := (Below.refl _ _).alloc (Nat.le_refl _) _
  have HA2 := Lib.hid (nextB (nextB HA1.out hb) hAL)
  have Z0 := Lib.hid ((Y0.out.below hb Y0.out.lt).alloc (.cells #[.string ⟨#[]⟩] 9))
  have Z4 := Lib.hid ((Y4.out.below hb Y4.out.lt).alloc (.cells #[.string ⟨#[]⟩] 9))
  have Z5 := Lib.hid ((Y5.out.below hb Y5.out.lt).alloc (.cells #[.string ⟨#[]⟩] 9))
  clear HA1 Y0 Y4 Y5 HT2 hb hAL
  obtain ⟨y0, y1, y2, y3, y4⟩ := Z0.out.cells5
  go_wp2_with fail
  clear y0 y1 y2 y3 y4
  generalize w2.alloc (.cells #[.string ⟨#[]⟩] 9) = W2 at *
  refine (HT3.out _ HA2.out : Calls _ _ _ _ _).mono ?_
  rintro e w3 ⟨rfl, hb⟩
  have hAL : Below w3.heap.size w3 (w3.alloc (.cells #[.string s3] 9)) := (Below.refl _ _).alloc (Nat.le_refl _) _
  have HA3 := Lib.hid (nextB (nextB HA2.out hb) hAL)
  have V0 := Lib.hid ((Z0.out.below hb Z0.out.lt).alloc (.cells #[.string s3] 9))
  have V4 := Lib.hid ((Z4.out.below hb Z4.out.lt).alloc (.cells #[.string s3] 9))
  have V5 := Lib.hid ((Z5.out.below hb Z5.out.lt).alloc (.cells #[.string s3] 9))
  clear HA2 Z0 Z4 Z5 HT3 hb hAL
  obtain ⟨y0, y1, y2, y3, y4⟩ := V0.out.cells5
  obtain ⟨p0, p1, p2, p3, p4⟩ := V4.out.cells5
  have f0 := V4.out.frozen 0
  have f1 := V4.out.frozen 1
  have f2 := V4.out.frozen 2
  have f3 := V4.out.frozen 3
  have f4 := V4.out.frozen 4
  have p5 : (w3.alloc (.cells #[.string s3] 9)).cell? ⟨w.heap.size + 1 + 1, 0, none⟩ = some (.bool false) := V5.out.cell 0
  have f5 := V5.out.frozen 0
  go_wp2_with fail
  clear p0 p1 p2 p3 p4 p5 f0 f1 f2 f3 f4 f5 y0 y1 y2 y3 y4
  have HF4 := Lib.hid ((((((V4.out.set_ 0 (.int .i64 0)).set_ 1 (.int .i64 0)).set_ 2 (.string ⟨#[]⟩)).set_ 3 (.slice none 0 0)).set_ 4 (.slice none 0 0)).far (p := ⟨w.heap.size + 1 + 1, 0, none⟩) (by show w.heap.size + 1 ≠ w.heap.size + 1 + 1; omega) (.bool false))
  have HF5 := Lib.hid ((((((V5.out.far (p := ⟨w.heap.size + 1, 0, none⟩) (by show w.heap.size + 1 + 1 ≠ w.heap.size + 1; omega) (.int .i64 0)).far (p := ⟨w.heap.size + 1, 1, none⟩) (by show w.heap.size + 1 + 1 ≠ w.heap.size + 1; omega) (.int .i64 0)).far (p := ⟨w.heap.size + 1, 2, none⟩) (by show w.heap.size + 1 + 1 ≠ w.heap.size + 1; omega) (.string ⟨#[]⟩)).far (p := ⟨w.heap.size + 1, 3, none⟩) (by show w.heap.size + 1 + 1 ≠ w.heap.size + 1; omega) (.slice none 0 0)).far (p := ⟨w.heap.size + 1, 4, none⟩) (by show w.heap.size + 1 + 1 ≠ w.heap.size + 1; omega) (.slice none 0 0)).set_ 0 (.bool false))
  have HFB := Lib.hid ((((((HA3.out.setCell (p := ⟨w.heap.size + 1, 0, none⟩) (by show w.heap.size ≤ w.heap.size + 1; omega) (.int .i64 0)).setCell (p := ⟨w.heap.size + 1, 1, none⟩) (by show w.heap.size ≤ w.heap.size + 1; omega) (.int .i64 0)).setCell (p := ⟨w.heap.size + 1, 2, none⟩) (by show w.heap.size ≤ w.heap.size + 1; omega) (.string ⟨#[]⟩)).setCell (p := ⟨w.heap.size + 1, 3, none⟩) (by show w.heap.size ≤ w.heap.size + 1; omega) (.slice none 0 0)).setCell (p := ⟨w.heap.size + 1, 4, none⟩) (by show w.heap.size ≤ w.heap.size + 1; omega) (.slice none 0 0)).setCell (p := ⟨w.heap.size + 1 + 1, 0, none⟩) (by show w.heap.size ≤ w.heap.size + 1 + 1; omega) (.bool false))
  generalize (((((((w3.alloc (.cells #[.string s3] 9)).setCell ⟨w.heap.size + 1, 0, none⟩ (.int .i64 0)).setCell ⟨w.heap.size + 1, 1, none⟩ (.int .i64 0)).setCell ⟨w.heap.size + 1, 2, none⟩ (.string ⟨#[]⟩)).setCell ⟨w.heap.size + 1, 3, none⟩ (.slice none 0 0)).setCell ⟨w.heap.size + 1, 4, none⟩ (.slice none 0 0)).setCell ⟨w.heap.size + 1 + 1, 0, none⟩ (.bool false)) = WF at *
  obtain ⟨q0, q1, q2, q3, q4⟩ := HF4.out.cells5
  have q5 : WF.cell? ⟨w.heap.size + 1 + 1, 0, none⟩ = some (.bool false) := HF5.out.cell 0
  refine bodyPost_ret (v := .tuple #[.agg #[.int .i64 0, .int .i64 0, .string ⟨#[]⟩, .slice none 0 0, .slice none 0 0], .bool false]) (by simp [results, Tryd.results25, go_sem, q0, q1, q2, q3, q4, q5]) rfl ?_
  exact ⟨_, _, _, _, _, _, _, _, _, rfl, (fun m hm => by cases hm), HFB.out⟩
set_option maxRecDepth 100000 in
set_option maxHeartbeats 1000000 in
theorem refer_no3 (s1 s2 s3 : ByteArray) (g2 g3 : Bool) (x0 x1 : Int) (x2 : ByteArray) (x3 : Option Addr) (x4 x5 : Nat) (x6 : Option Addr) (x7 x8 : Nat) (w : World) (len cap : Nat) (A : Option Addr)
    (HT1 : Hid (∀ w', Below w.heap.size w w' → Calls Tryd.prog 38 #[.agg #[.int .i64 x0, .int .i64 x1, .string x2, .slice x3 x4 x5, .slice x6 x7 x8], .string ⟨#[114, 101, 115, 117, 108, 116, 79, 102]⟩] w' fun e w'' => e = .returned (.tuple #[.string s1, .bool true]) ∧ Below w'.heap.size w' w''))
    (HT2 : Hid (∀ w', Below w.heap.size w w' → Calls Tryd.prog 38 #[.agg #[.int .i64 x0, .int .i64 x1, .string x2, .slice x3 x4 x5, .slice x6 x7 x8], .string ⟨#[110, 97, 109, 101]⟩] w' fun e w'' => e = .returned (.tuple #[.string s2, .bool true]) ∧ Below w'.heap.size w' w''))
    (HT3 : Hid (∀ w', Below w.heap.size w w' → Calls Tryd.prog 38 #[.agg #[.int .i64 x0, .int .i64 x1, .string x2, .slice x3 x4 x5, .slice x6 x7 x8], .string ⟨#[112, 97, 116, 104]⟩] w' fun e w'' => e = .returned (.tuple #[.string ⟨#[]⟩, .bool false]) ∧ Below w'.heap.size w' w'')) :
    Calls Tryd.prog 25 #[.agg #[.int .i64 x0, .int .i64 x1, .string x2, .slice x3 x4 x5, .slice x6 x7 x8], .slice A len cap] w (RfP none w) := by
  have HA0 : Hid (Below w.heap.size w (((w.alloc (.cells #[.int .i64 x0, .int .i64 x1, .string x2, .slice x3 x4 x5, .slice x6 x7 x8] 25)).alloc (.cells #[.int .i64 0, .int .i64 0, .string ⟨#[]⟩, .slice none 0 0, .slice none 0 0] 25)).alloc (.cells #[.bool false] 4))) := (((Below.refl _ _).alloc (Nat.le_refl _) _).alloc (by simp) _).alloc (by simp; omega) _
  have X0 : Hid (Blk (((w.alloc (.cells #[.int .i64 x0, .int .i64 x1, .string x2, .slice x3 x4 x5, .slice x6 x7 x8] 25)).alloc (.cells #[.int .i64 0, .int .i64 0, .string ⟨#[]⟩, .slice none 0 0, .slice none 0 0] 25)).alloc (.cells #[.bool false] 4)) w.heap.size 25 #[.int .i64 x0, .int .i64 x1, .string x2, .slice x3 x4 x5, .slice x6 x7 x8]) := ((Blk.new w _ _).alloc _).alloc _
  have X4 : Hid (Blk (((w.alloc (.cells #[.int .i64 x0, .int .i64 x1, .string x2, .slice x3 x4 x5, .slice x6 x7 x8] 25)).alloc (.cells #[.int .i64 0, .int .i64 0, .string ⟨#[]⟩, .slice none 0 0, .slice none 0 0] 25)).alloc (.cells #[.bool false] 4)) (w.heap.size + 1) 25 #[.int .i64 0, .int .i64 0, .string ⟨#[]⟩, .slice none 0 0, .slice none 0 0]) := by
    have h := (Blk.new (w.alloc (.cells #[.int .i64 x0, .int .i64 x1, .string x2, .slice x3 x4 x5, .slice x6 x7 x8] 25)) 25 #[.int .i64 0, .int .i64 0, .string ⟨#[]⟩, .slice none 0 0, .slice none 0 0]).alloc (.cells #[.bool false] 4)
    rw [World.size_alloc] at h; exact h
  have X5 : Hid (Blk (((w.alloc (.cells #[.int .i64 x0, .int .i64 x1, .string x2, .slice x3 x4 x5, .slice x6 x7 x8] 25)).alloc (.cells #[.int .i64 0, .int .i64 0, .string ⟨#[]⟩, .slice none 0 0, .slice none 0 0] 25)).alloc (.cells #[.bool false] 4)) (w.heap.size + 1 + 1) 4 #[.bool false]) := by
    have h := Blk.new ((w.alloc (.cells #[.int .i64 x0, .int .i64 x1, .string x2, .slice x3 x4 x5, .slice x6 x7 x8] 25)).alloc (.cells #[.int .i64 0, .int .i64 0, .string ⟨#[]⟩, .slice none 0 0, .slice none 0 0] 25)) 4 #[.bool false]
    rw [World.size_alloc, World.size_alloc] at h; exact h
  go_enter Tryd.func25, Tryd.ntmps25
  go_wp2_with fail
  refine (HT1.out _ HA0.out : Calls _ _ _ _ _).mono ?_
  rintro e w1 ⟨rfl, hb⟩
  have hAL : Below w1.heap.size w1 (w1.alloc (.cells #[.string s1] 9)) := (Below.refl _ _).alloc (Nat.le_refl _) _
  have HA1 := Lib.hid (nextB (nextB HA0.out hb) hAL)
  have Y0 := Lib.hid ((X0.out.below hb X0.out.lt).alloc (.cells #[.string s1] 9))
  have Y4 := Lib.hid ((X4.out.below hb X4.out.lt).alloc (.cells #[.string s1] 9))
  have Y5 := Lib.hid ((X5.out.below hb X5.out.lt).alloc (.cells #[.string s1] 9))
  clear HA0 X0 X4 X5 HT1 hb hAL
  obtain ⟨y0, y1, y2, y3, y4⟩ := Y0.out.cells5
  go_wp2_with fail
  clear y0 y1 y2 y3 y4
  generalize w1.alloc (.cells #[.string s1] 9) = W1 at *
  refine (HT2.out _ HA1.out : Calls _ _ _ _ _).mono ?_
  rintro e w2 ⟨rfl, hb⟩
  have hAL : Below w2.heap.size w2 (w2.alloc (.cells #[.string s2] 9)) := (Below.refl _ _).alloc (Nat.le_refl _) _
  have HA2 := Lib.hid (nextB (nextB HA1.out hb) hAL)
  have Z0 := Lib.hid ((Y0.out.below hb Y0.out.lt).alloc (.cells #[.string s2] 9))
  have Z4 := Lib.hid ((Y4.out.below hb Y4.out.lt).alloc (.cells #[.string s2] 9))
  have Z5 := Lib.hid ((Y5.out.below hb Y5.out.lt).alloc (.cells #[.string s2] 9))
  clear HA1 Y0 Y4 Y5 HT2 hb hAL
  obtain ⟨y0, y1, y2, y3, y4⟩ := Z0.out.cells5
  go_wp2_with fail
  clear y0 y1 y2 y3 y4
  generalize w2.alloc (.cells #[.string s2] 9) = W2 at *
  refine (HT3.out _ HA2.out : Calls _ _ _ _ _).mono ?_
  rintro e w3 ⟨rfl, hb⟩
  have hAL : Below w3.heap.size w3 (w3.alloc (.cells #[.string ⟨#[]⟩] 9)) := (Below.refl _ _).alloc (Nat.le_refl _) _
  have HA3 := Lib.hid (nextB (nextB HA2.out hb) hAL)
  have V0 := Lib.hid ((Z0.out.below hb Z0.out.lt).alloc (.cells #[.string ⟨#[]⟩] 9))
  have V4 := Lib.hid ((Z4.out.below hb Z4.out.lt).alloc (.cells #[.string ⟨#[]⟩] 9))
  have V5 := Lib.hid ((Z5.out.below hb Z5.out.lt).alloc (.cells #[.string ⟨#[]⟩] 9))
  clear HA2 Z0 Z4 Z5 HT3 hb hAL
  obtain ⟨y0, y1, y2, y3, y4⟩ := V0.out.cells5
  obtain ⟨p0, p1, p2, p3, p4⟩ := V4.out.cells5
  have f0 := V4.out.frozen 0
  have f1 := V4.out.frozen 1
  have f2 := V4.out.frozen 2
  have f3 := V4.out.frozen 3
  have f4 := V4.out.frozen 4
  have p5 : (w3.alloc (.cells #[.string ⟨#[]⟩] 9)).cell? ⟨w.heap.size + 1 + 1, 0, none⟩ = some (.bool false) := V5.out.cell 0
  have f5 := V5.out.frozen 0
  go_wp2_with fail
  clear p0 p1 p2 p3 p4 p5 f0 f1 f2 f3 f4 f5 y0 y1 y2 y3 y4
  have HF4 := Lib.hid ((((((V4.out.set_ 0 (.int .i64 0)).set_ 1 (.int .i64 0)).set_ 2 (.string ⟨#[]⟩)).set_ 3 (.slice none 0 0)).set_ 4 (.slice none 0 0)).far (p := ⟨w.heap.size + 1 + 1, 0, none⟩) (by show w.heap.size + 1 ≠ w.heap.size + 1 + 1; omega) (.bool false))
  have HF5 := Lib.hid ((((((V5.out.far (p := ⟨w.heap.size + 1, 0, none⟩) (by show w.heap.size + 1 + 1 ≠ w.heap.size + 1; omega) (.int .i64 0)).far (p := ⟨w.heap.size + 1, 1, none⟩) (by show w.heap.size + 1 + 1 ≠ w.heap.size + 1; omega) (.int .i64 0)).far (p := ⟨w.heap.size + 1, 2, none⟩) (by show w.heap.size + 1 + 1 ≠ w.heap.size + 1; omega) (.string ⟨#[]⟩)).far (p := ⟨w.heap.size + 1, 3, none⟩) (by show w.heap.size + 1 + 1 ≠ w.heap.size + 1; omega) (.slice none 0 0)).far (p := ⟨w.heap.size + 1, 4, none⟩) (by show w.heap.size + 1 + 1 ≠ w.heap.size + 1; omega) (.slice none 0 0)).set_ 0 (.bool false))
  have HFB := Lib.hid ((((((HA3.out.setCell (p := ⟨w.heap.size + 1, 0, none⟩) (by show w.heap.size ≤ w.heap.size + 1; omega) (.int .i64 0)).setCell (p := ⟨w.heap.size + 1, 1, none⟩) (by show w.heap.size ≤ w.heap.size + 1; omega) (.int .i64 0)).setCell (p := ⟨w.heap.size + 1, 2, none⟩) (by show w.heap.size ≤ w.heap.size + 1; omega) (.string ⟨#[]⟩)).setCell (p := ⟨w.heap.size + 1, 3, none⟩) (by show w.heap.size ≤ w.heap.size + 1; omega) (.slice none 0 0)).setCell (p := ⟨w.heap.size + 1, 4, none⟩) (by show w.heap.size ≤ w.heap.size + 1; omega) (.slice none 0 0)).setCell (p := ⟨w.heap.size + 1 + 1, 0, none⟩) (by show w.heap.size ≤ w.heap.size + 1 + 1; omega) (.bool false))
  generalize (((((((w3.alloc (.cells #[.string ⟨#[]⟩] 9)).setCell ⟨w.heap.size + 1, 0, none⟩ (.int .i64 0)).setCell ⟨w.heap.size + 1, 1, none⟩ (.int .i64 0)).setCell ⟨w.heap.size + 1, 2, none⟩ (.string ⟨#[]⟩)).setCell ⟨w.heap.size + 1, 3, none⟩ (.slice none 0 0)).setCell ⟨w.heap.size + 1, 4, none⟩ (.slice none 0 0)).setCell ⟨w.heap.size + 1 + 1, 0, none⟩ (.bool false)) = WF at *
  obtain ⟨q0, q1, q2, q3, q4⟩ := HF4.out.cells5
  have q5 : WF.cell? ⟨w.heap.size + 1 + 1, 0, none⟩ = some (.bool false) := HF5.out.cell 0
  refine bodyPost_ret (v := .tuple #[.agg #[.int .i64 0, .int .i64 0, .string ⟨#[]⟩, .slice none 0 0, .slice none 0 0], .bool false]) (by simp [results, Tryd.results25, go_sem, q0, q1, q2, q3, q4, q5]) rfl ?_
  exact ⟨_, _, _, _, _, _, _, _, _, rfl, (fun m hm => by cases hm), HFB.out⟩
set_option maxRecDepth 100000 in
set_option maxHeartbeats 1000000 in
theorem refer_no4 (s1 s2 s3 : ByteArray) (g2 g3 : Bool) (x0 x1 : Int) (x2 : ByteArray) (x3 : Option Addr) (x4 x5 : Nat) (x6 : Option Addr) (x7 x8 : Nat) (w : World) (len cap : Nat) (A : Option Addr)
    (HT1 : Hid (∀ w', Below w.heap.size w w' → Calls Tryd.prog 38 #[.agg #[.int .i64 x0, .int .i64 x1, .string x2, .slice x3 x4 x5, .slice x6 x7 x8], .string ⟨#[114, 101, 115, 117, 108, 116, 79, 102]⟩] w' fun e w'' => e = .returned (.tuple #[.string s1, .bool true]) ∧ Below w'.heap.size w' w''))
    (HT2 : Hid (∀ w', Below w.heap.size w w' → Calls Tryd.prog 38 #[.agg #[.int .i64 x0, .int .i64 x1, .string x2, .slice x3 x4 x5, .slice x6 x7 x8], .string ⟨#[110, 97, 109, 101]⟩] w' fun e w'' => e = .returned (.tuple #[.string s2, .bool true]) ∧ Below w'.heap.size w' w''))
    (HT3 : Hid (∀ w', Below w.heap.size w w' → Calls Tryd.prog 38 #[.agg #[.int .i64 x0, .int .i64 x1, .string x2, .slice x3 x4 x5, .slice x6 x7 x8], .string ⟨#[112, 97, 116, 104]⟩] w' fun e w'' => e = .returned (.tuple #[.string s3, .bool true]) ∧ Below w'.heap.size w' w'')) (h3 : ¬ x7 = 3) :
    Calls Tryd.prog 25 #[.agg #[.int .i64 x0, .int .i64 x1, .string x2, .slice x3 x4 x5, .slice x6 x7 x8], .slice A len cap] w (RfP none w) := by
  have n3 : ((x7 : Int) != 3) = true := by rw [bne_iff_ne]; omega
  have HA0 : Hid (Below w.heap.size w (((w.alloc (.cells #[.int .i64 x0, .int .i64 x1, .string x2, .slice x3 x4 x5, .slice x6 x7 x8] 25)).alloc (.cells #[.int .i64 0, .int .i64 0, .string ⟨#[]⟩, .slice none 0 0, .slice none 0 0] 25)).alloc (.cells #[.bool false] 4))) := (((Below.refl _ _).alloc (Nat.le_refl _) _).alloc (by simp) _).alloc (by simp; omega) _
  have X0 : Hid (Blk (((w.alloc (.cells #[.int .i64 x0, .int .i64 x1, .string x2, .slice x3 x4 x5, .slice x6 x7 x8] 25)).alloc (.cells #[.int .i64 0, .int .i64 0, .string ⟨#[]⟩, .slice none 0 0, .slice none 0 0] 25)).alloc (.cells #[.bool false] 4)) w.heap.size 25 #[.int .i64 x0, .int .i64 x1, .string x2, .slice x3 x4 x5, .slice x6 x7 x8]) := ((Blk.new w _ _).alloc _).alloc _
  have X4 : Hid (Blk (((w.alloc (.cells #[.int .i64 x0, .int .i64 x1, .string x2, .slice x3 x4 x5, .slice x6 x7 x8] 25)).alloc (.cells #[.int .i64 0, .int .i64 0, .string ⟨#[]⟩, .slice none 0 0, .slice none 0 0] 25)).alloc (.cells #[.bool false] 4)) (w.heap.size + 1) 25 #[.int .i64 0, .int .i64 0, .string ⟨#[]⟩, .slice none 0 0, .slice none 0 0]) := by
    have h := (Blk.new (w.alloc (.cells #[.int .i64 x0, .int .i64 x1, .string x2, .slice x3 x4 x5, .slice x6 x7 x8] 25)) 25 #[.int .i64 0, .int .i64 0, .string ⟨#[]⟩, .slice none 0 0, .slice none 0 0]).alloc (.cells #[.bool false] 4)
    rw [World.size_alloc] at h; exact h
  have X5 : Hid (Blk (((w.alloc (.cells #[.int .i64 x0, .int .i64 x1, .string x2, .slice x3 x4 x5, .slice x6 x7 x8] 25)).alloc (.cells #[.int .i64 0, .int .i64 0, .string ⟨#[]⟩, .slice none 0 0, .slice none 0 0] 25)).alloc (.cells #[.bool false] 4)) (w.heap.size + 1 + 1) 4 #[.bool false]) := by
    have h := Blk.new ((w.alloc (.cells #[.int .i64 x0, .int .i64 x1, .string x2, .slice x3 x4 x5, .slice x6 x7 x8] 25)).alloc (.cells #[.int .i64 0, .int .i64 0, .string ⟨#[]⟩, .slice none 0 0, .slice none 0 0] 25)) 4 #[.bool false]
    rw [World.size_alloc, World.size_alloc] at h; exact h
  go_enter Tryd.func25, Tryd.ntmps25
  go_wp2_with fail
  refine (HT1.out _ HA0.out : Calls _ _ _ _ _).mono ?_
  rintro e w1 ⟨rfl, hb⟩
  have hAL : Below w1.heap.size w1 (w1.alloc (.cells #[.string s1] 9)) := (Below.refl _ _).alloc (Nat.le_refl _) _
  have HA1 := Lib.hid (nextB (nextB HA0.out hb) hAL)
  have Y0 := Lib.hid ((X0.out.below hb X0.out.lt).alloc (.cells #[.string s1] 9))
  have Y4 := Lib.hid ((X4.out.below hb X4.out.lt).alloc (.cells #[.string s1] 9))
  have Y5 := Lib.hid ((X5.out.below hb X5.out.lt).alloc (.cells #[.string s1] 9))
  clear HA0 X0 X4 X5 HT1 hb hAL
  obtain ⟨y0, y1, y2, y3, y4⟩ := Y0.out.cells5
  go_wp2_with fail
  clear y0 y1 y2 y3 y4
  generalize w1.alloc (.cells #[.string s1] 9) = W1 at *
  refine (HT2.out _ HA1.out : Calls _ _ _ _ _).mono ?_
  rintro e w2 ⟨rfl, hb⟩
  have hAL : Below w2.heap.size w2 (w2.alloc (.cells #[.string s2] 9)) := (Below.refl _ _).alloc (Nat.le_refl _) _
  have HA2 := Lib.hid (nextB (nextB HA1.out hb) hAL)
  have Z0 := Lib.hid ((Y0.out.below hb Y0.out.lt).alloc (.cells #[.string s2] 9))
  have Z4 := Lib.hid ((Y4.out.below hb Y4.out.lt).alloc (.cells #[.string s2] 9))
  have Z5 := Lib.hid ((Y5.out.below hb Y5.out.lt).alloc (.cells #[.string s2] 9))
  clear HA1 Y0 Y4 Y5 HT2 hb hAL
  obtain ⟨y0, y1, y2, y3, y4⟩ := Z0.out.cells5
  go_wp2_with fail
  clear y0 y1 y2 y3 y4
  generalize w2.alloc (.cells #[.string s2] 9) = W2 at *
  refine (HT3.out _ HA2.out : Calls _ _ _ _ _).mono ?_
  rintro e w3 ⟨rfl, hb⟩
  have hAL : Below w3.heap.size w3 (w3.alloc (.cells #[.string s3] 9)) := (Below.refl _ _).alloc (Nat.le_refl _) _
  have HA3 := Lib.hid (nextB (nextB HA2.out hb) hAL)
  have V0 := Lib.hid ((Z0.out.below hb Z0.out.lt).alloc (.cells #[.string s3] 9))
  have V4 := Lib.hid ((Z4.out.below hb Z4.out.lt).alloc (.cells #[.string s3] 9))
  have V5 := Lib.hid ((Z5.out.below hb Z5.out.lt).alloc (.cells #[.string s3] 9))
  clear HA2 Z0 Z4 Z5 HT3 hb hAL
  obtain ⟨y0, y1, y2, y3, y4⟩ := V0.out.cells5
  obtain ⟨p0, p1, p2, p3, p4⟩ := V4.out.cells5
  have f0 := V4.out.frozen 0
  have f1 := V4.out.frozen 1
  have f2 := V4.out.frozen 2
  have f3 := V4.out.frozen 3
  have f4 := V4.out.frozen 4
  have p5 : (w3.alloc (.cells #[.string s3] 9)).cell? ⟨w.heap.size + 1 + 1, 0, none⟩ = some (.bool false) := V5.out.cell 0
  have f5 := V5.out.frozen 0
  go_wp2_with fail
  clear p0 p1 p2 p3 p4 p5 f0 f1 f2 f3 f4 f5 y0 y1 y2 y3 y4
  have HF4 := Lib.hid ((((((V4.out.set_ 0 (.int .i64 0)).set_ 1 (.int .i64 0)).set_ 2 (.string ⟨#[]⟩)).set_ 3 (.slice none 0 0)).set_ 4 (.slice none 0 0)).far (p := ⟨w.heap.size + 1 + 1, 0, none⟩) (by show w.heap.size + 1 ≠ w.heap.size + 1 + 1; omega) (.bool false))
  have HF5 := Lib.hid ((((((V5.out.far (p := ⟨w.heap.size + 1, 0, none⟩) (by show w.heap.size + 1 + 1 ≠ w.heap.size + 1; omega) (.int .i64 0)).far (p := ⟨w.heap.size + 1, 1, none⟩) (by show w.heap.size + 1 + 1 ≠ w.heap.size + 1; omega) (.int .i64 0)).far (p := ⟨w.heap.size + 1, 2, none⟩) (by show w.heap.size + 1 + 1 ≠ w.heap.size + 1; omega) (.string ⟨#[]⟩)).far (p := ⟨w.heap.size + 1, 3, none⟩) (by show w.heap.size + 1 + 1 ≠ w.heap.size + 1; omega) (.slice none 0 0)).far (p := ⟨w.heap.size + 1, 4, none⟩) (by show w.heap.size + 1 + 1 ≠ w.heap.size + 1; omega) (.slice none 0 0)).set_ 0 (.bool false))
  have HFB := Lib.hid ((((((HA3.out.setCell (p := ⟨w.heap.size + 1, 0, none⟩) (by show w.heap.size ≤ w.heap.size + 1; omega) (.int .i64 0)).setCell (p := ⟨w.heap.size + 1, 1, none⟩) (by show w.heap.size ≤ w.heap.size + 1; omega) (.int .i64 0)).setCell (p := ⟨w.heap.size + 1, 2, none⟩) (by show w.heap.size ≤ w.heap.size + 1; omega) (.string ⟨#[]⟩)).setCell (p := ⟨w.heap.size + 1, 3, none⟩) (by show w.heap.size ≤ w.heap.size + 1; omega) (.slice none 0 0)).setCell (p := ⟨w.heap.size + 1, 4, none⟩) (by show w.heap.size ≤ w.heap.size + 1; omega) (.slice none 0 0)).setCell (p := ⟨w.heap.size + 1 + 1, 0, none⟩) (by show w.heap.size ≤ w.heap.size + 1 + 1; omega) (.bool false))
  generalize (((((((w3.alloc (.cells #[.string s3] 9)).setCell ⟨w.heap.size + 1, 0, none⟩ (.int .i64 0)).setCell ⟨w.heap.size + 1, 1, none⟩ (.int .i64 0)).setCell ⟨w.heap.size + 1, 2, none⟩ (.string ⟨#[]⟩)).setCell ⟨w.heap.size + 1, 3, none⟩ (.slice none 0 0)).setCell ⟨w.heap.size + 1, 4, none⟩ (.slice none 0 0)).setCell ⟨w.heap.size + 1 + 1, 0, none⟩ (.bool false)) = WF at *
  obtain ⟨q0, q1, q2, q3, q4⟩ := HF4.out.cells5
  have q5 : WF.cell? ⟨w.heap.size + 1 + 1, 0, none⟩ = some (.bool false) := HF5.out.cell 0
  refine bodyPost_ret (v := .tuple #[.agg #[.int .i64 0, .int .i64 0, .string ⟨#[]⟩, .slice none 0 0, .slice none 0 0], .bool false]) (by simp [results, Tryd.results25, go_sem, q0, q1, q2, q3, q4, q5]) rfl ?_
  exact ⟨_, _, _, _, _, _, _, _, _, rfl, (fun m hm => by cases hm), HFB.out⟩
end Go.Proofs.YthbjehbpanhdoaaDoor
