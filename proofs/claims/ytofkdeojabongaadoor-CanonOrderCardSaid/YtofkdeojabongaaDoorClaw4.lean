/- The walk of CanonOrder. -/
import Derived.Test.YtofkdeojabongaaDoorClaw3
namespace Go.Proofs.YtofkdeojabongaaDoor
open Go.RowKit Go.PlainAid
set_option linter.unusedVariables false
set_option linter.unusedSimpArgs false
/-- an object of two kids -/
def ndTwo (p q : ByteArray) (a b : Nd) : Nd := .mk 7 0 ⟨#[]⟩ [p, q] [a, b]
theorem reads_of_blk {w : World} {g n size : Nat} {t : TypeId} {cs : Array Value} (h : Blk w g t cs) (hn : cs.size = n * size) (B : Nat) (hB : g < B) : Reads w B size (some ⟨g, 0, none⟩) n cs.toList := by
  refine ⟨by simp [hn], fun _ => ⟨_, rfl, hB, fun j u hj => ?_⟩⟩
  have e : (⟨g, 0, none⟩ : Addr).add j = ⟨g, j, none⟩ := by unfold Addr.add; split <;> simp_all
  rw [e, h.cell]
  simpa using hj
theorem two_is {w : World} {p q : ByteArray} {a b : Nd} {a0 a1 a2 a3 a4 b0 b1 b2 b3 b4 : Value} {k1 k2 B : Nat} (hp : p.size ≤ maxLen) (hq : q.size ≤ maxLen)
    (h1 : Blk w k1 9 #[.string p, .string q]) (h2 : Blk w k2 25 #[a0, a1, a2, a3, a4, b0, b1, b2, b3, b4]) (hb1 : k1 < B) (hb2 : k2 < B) (ha : NdIs w B a [a0, a1, a2, a3, a4]) (hb : NdIs w B b [b0, b1, b2, b3, b4]) :
    NdIs w B (ndTwo p q a b) [.int .i64 7, .int .i64 0, .string ⟨#[]⟩, .slice (some ⟨k1, 0, none⟩) 2 2, .slice (some ⟨k2, 0, none⟩) 2 2] := by
  unfold ndTwo NdIs
  refine ⟨some ⟨k1, 0, none⟩, 2, some ⟨k2, 0, none⟩, 2, [a0, a1, a2, a3, a4, b0, b1, b2, b3, b4], rfl, reads_of_blk h1 rfl B hb1, reads_of_blk h2 rfl B hb2, ?_, by unfold I64; omega, by unfold I64; omega, by (show (0 : Nat) ≤ maxLen); exact Nat.zero_le _, ?_, by simp [maxLen], by simp [maxLen]⟩
  · unfold NdsIs
    refine ⟨[a0, a1, a2, a3, a4], [b0, b1, b2, b3, b4], rfl, ha, ?_⟩
    unfold NdsIs
    exact ⟨[b0, b1, b2, b3, b4], [], rfl, hb, by unfold NdsIs; rfl⟩
  · intro s hs
    simp at hs
    rcases hs with rfl | rfl
    · exact hp
    · exact hq
theorem find_two1 (p q : ByteArray) (a b : Nd) : findN (ndTwo p q a b) p = some a := by
  unfold ndTwo
  simp only [findN, if_true]
  rw [idxK_some (i := 0) (s := p) rfl (by simp) (fun j s hj => by omega)]
  rfl
theorem find_two2 (p q : ByteArray) (a b : Nd) (h : (q.toList == p.toList) = false) : findN (ndTwo p q a b) q = some b := by
  unfold ndTwo
  simp only [findN, if_true]
  rw [idxK_some (i := 1) (s := q) rfl (by simp) (fun j s hj hs => by
    obtain rfl : j = 0 := by omega
    simp at hs; subst hs; exact h)]
  rfl
theorem find_two0 (p q x : ByteArray) (a b : Nd) (h1 : (x.toList == p.toList) = false) (h2 : (x.toList == q.toList) = false) : findN (ndTwo p q a b) x = none := by
  unfold ndTwo
  simp only [findN, if_true]
  rw [idxK_none (fun j s hs => by
    match j, hs with
    | 0, hs => simp at hs; subst hs; exact h1
    | 1, hs => simp at hs; subst hs; exact h2
    | (j + 2), hs => simp at hs)]
theorem size_two {a b : Nd} (p q : ByteArray) (hp : p.size ≤ 1000000000) (hq : q.size ≤ 1000000000) (ha : sizeOk a) (hb : sizeOk b) : sizeOk (ndTwo p q a b) := by
  unfold ndTwo sizeOk
  refine ⟨by omega, by decide, fun s hs => ?_, by simp, by unfold sizeOkL; refine ⟨ha, ?_⟩; unfold sizeOkL; exact ⟨hb, by unfold sizeOkL; trivial⟩⟩
  simp at hs
  rcases hs with rfl | rfl
  · exact hp
  · exact hq
theorem same_two (p q : ByteArray) (a b c d : Nd) (h : (p.toList == q.toList) = false) : sameN (ndTwo p q a b) (ndTwo q p c d) = false := by
  unfold ndTwo sameN sameK
  rw [h]; simp
/-- what the walk knows of its world -/
structure OrdW (W w : World) (bx by_ : Nat) (a b : Nd) (vx vy va vb : Array Value) (la lb lx ly : List Value) : Prop where
  below : Below W.heap.size W w
  ba : Blk w W.heap.size 25 va
  bb : Blk w (W.heap.size + 1) 25 vb
  xx : Blk w bx 25 vx
  yy : Blk w by_ 25 vy
  na : NdIs w w.heap.size a la
  nb : NdIs w w.heap.size b lb
  nx : NdIs w w.heap.size (ndTwo ⟨#[112]⟩ ⟨#[113]⟩ a b) lx
  ny : NdIs w w.heap.size (ndTwo ⟨#[113]⟩ ⟨#[112]⟩ b a) ly
theorem OrdW.next {W w w' : World} {bx by_ : Nat} {a b : Nd} {vx vy va vb : Array Value} {la lb lx ly : List Value} (h : OrdW W w bx by_ a b vx vy va vb la lb lx ly) (k : Below w.heap.size w w') : OrdW W w' bx by_ a b vx vy va vb la lb lx ly :=
  ⟨h.below.trans (k.mono h.below.size), h.ba.below k h.ba.lt, h.bb.below k h.bb.lt, h.xx.below k h.xx.lt, h.yy.below k h.yy.lt, NdIs.more k.size _ _ (h.na.below k), NdIs.more k.size _ _ (h.nb.below k), NdIs.more k.size _ _ (h.nx.below k), NdIs.more k.size _ _ (h.ny.below k)⟩
theorem ord_start {W w2 : World} {a b : Nd} {x0 x1 : Int} {x2 : ByteArray} {x3 : Option Addr} {x4 x5 : Nat} {x6 : Option Addr} {x7 x8 : Nat} {y0 y1 : Int} {y2 : ByteArray} {y3 : Option Addr} {y4 y5 : Nat} {y6 : Option Addr} {y7 y8 : Nat}
    (ha : NdIs w2 W.heap.size a [.int .i64 x0, .int .i64 x1, .string x2, .slice x3 x4 x5, .slice x6 x7 x8]) (hb : NdIs w2 W.heap.size b [.int .i64 y0, .int .i64 y1, .string y2, .slice y3 y4 y5, .slice y6 y7 y8]) (hB : Below W.heap.size W w2) (h1 : Blk w2 W.heap.size 25 #[.int .i64 x0, .int .i64 x1, .string x2, .slice x3 x4 x5, .slice x6 x7 x8]) (h2 : Blk w2 (W.heap.size + 1) 25 #[.int .i64 y0, .int .i64 y1, .string y2, .slice y3 y4 y5, .slice y6 y7 y8]) :
    OrdW W ((((((w2.alloc (.cells #[.string ⟨#[112]⟩, .string ⟨#[113]⟩] 9)).alloc (.cells #[.int .i64 x0, .int .i64 x1, .string x2, .slice x3 x4 x5, .slice x6 x7 x8, .int .i64 y0, .int .i64 y1, .string y2, .slice y3 y4 y5, .slice y6 y7 y8] 25)).alloc (.cells #[.int .i64 7, .int .i64 0, .string ⟨#[]⟩, .slice (some ⟨w2.heap.size, 0, none⟩) 2 2, .slice (some ⟨w2.heap.size + 1, 0, none⟩) 2 2] 25)).alloc (.cells #[.string ⟨#[113]⟩, .string ⟨#[112]⟩] 9)).alloc (.cells #[.int .i64 y0, .int .i64 y1, .string y2, .slice y3 y4 y5, .slice y6 y7 y8, .int .i64 x0, .int .i64 x1, .string x2, .slice x3 x4 x5, .slice x6 x7 x8] 25)).alloc (.cells #[.int .i64 7, .int .i64 0, .string ⟨#[]⟩, .slice (some ⟨w2.heap.size + 3, 0, none⟩) 2 2, .slice (some ⟨w2.heap.size + 4, 0, none⟩) 2 2] 25)) (w2.heap.size + 2) (w2.heap.size + 5) a b #[.int .i64 7, .int .i64 0, .string ⟨#[]⟩, .slice (some ⟨w2.heap.size, 0, none⟩) 2 2, .slice (some ⟨w2.heap.size + 1, 0, none⟩) 2 2] #[.int .i64 7, .int .i64 0, .string ⟨#[]⟩, .slice (some ⟨w2.heap.size + 3, 0, none⟩) 2 2, .slice (some ⟨w2.heap.size + 4, 0, none⟩) 2 2] #[.int .i64 x0, .int .i64 x1, .string x2, .slice x3 x4 x5, .slice x6 x7 x8] #[.int .i64 y0, .int .i64 y1, .string y2, .slice y3 y4 y5, .slice y6 y7 y8] [.int .i64 x0, .int .i64 x1, .string x2, .slice x3 x4 x5, .slice x6 x7 x8] [.int .i64 y0, .int .i64 y1, .string y2, .slice y3 y4 y5, .slice y6 y7 y8] [.int .i64 7, .int .i64 0, .string ⟨#[]⟩, .slice (some ⟨w2.heap.size, 0, none⟩) 2 2, .slice (some ⟨w2.heap.size + 1, 0, none⟩) 2 2] [.int .i64 7, .int .i64 0, .string ⟨#[]⟩, .slice (some ⟨w2.heap.size + 3, 0, none⟩) 2 2, .slice (some ⟨w2.heap.size + 4, 0, none⟩) 2 2] := by
  have k1 := Blk.new w2 9 #[.string ⟨#[112]⟩, .string ⟨#[113]⟩]
  have k2 := Blk.new (w2.alloc (.cells #[.string ⟨#[112]⟩, .string ⟨#[113]⟩] 9)) 25 #[.int .i64 x0, .int .i64 x1, .string x2, .slice x3 x4 x5, .slice x6 x7 x8, .int .i64 y0, .int .i64 y1, .string y2, .slice y3 y4 y5, .slice y6 y7 y8]
  have k3 := Blk.new ((w2.alloc (.cells #[.string ⟨#[112]⟩, .string ⟨#[113]⟩] 9)).alloc (.cells #[.int .i64 x0, .int .i64 x1, .string x2, .slice x3 x4 x5, .slice x6 x7 x8, .int .i64 y0, .int .i64 y1, .string y2, .slice y3 y4 y5, .slice y6 y7 y8] 25)) 25 #[.int .i64 7, .int .i64 0, .string ⟨#[]⟩, .slice (some ⟨w2.heap.size, 0, none⟩) 2 2, .slice (some ⟨w2.heap.size + 1, 0, none⟩) 2 2]
  have k4 := Blk.new (((w2.alloc (.cells #[.string ⟨#[112]⟩, .string ⟨#[113]⟩] 9)).alloc (.cells #[.int .i64 x0, .int .i64 x1, .string x2, .slice x3 x4 x5, .slice x6 x7 x8, .int .i64 y0, .int .i64 y1, .string y2, .slice y3 y4 y5, .slice y6 y7 y8] 25)).alloc (.cells #[.int .i64 7, .int .i64 0, .string ⟨#[]⟩, .slice (some ⟨w2.heap.size, 0, none⟩) 2 2, .slice (some ⟨w2.heap.size + 1, 0, none⟩) 2 2] 25)) 9 #[.string ⟨#[113]⟩, .string ⟨#[112]⟩]
  have k5 := Blk.new ((((w2.alloc (.cells #[.string ⟨#[112]⟩, .string ⟨#[113]⟩] 9)).alloc (.cells #[.int .i64 x0, .int .i64 x1, .string x2, .slice x3 x4 x5, .slice x6 x7 x8, .int .i64 y0, .int .i64 y1, .string y2, .slice y3 y4 y5, .slice y6 y7 y8] 25)).alloc (.cells #[.int .i64 7, .int .i64 0, .string ⟨#[]⟩, .slice (some ⟨w2.heap.size, 0, none⟩) 2 2, .slice (some ⟨w2.heap.size + 1, 0, none⟩) 2 2] 25)).alloc (.cells #[.string ⟨#[113]⟩, .string ⟨#[112]⟩] 9)) 25 #[.int .i64 y0, .int .i64 y1, .string y2, .slice y3 y4 y5, .slice y6 y7 y8, .int .i64 x0, .int .i64 x1, .string x2, .slice x3 x4 x5, .slice x6 x7 x8]
  have k6 := Blk.new (((((w2.alloc (.cells #[.string ⟨#[112]⟩, .string ⟨#[113]⟩] 9)).alloc (.cells #[.int .i64 x0, .int .i64 x1, .string x2, .slice x3 x4 x5, .slice x6 x7 x8, .int .i64 y0, .int .i64 y1, .string y2, .slice y3 y4 y5, .slice y6 y7 y8] 25)).alloc (.cells #[.int .i64 7, .int .i64 0, .string ⟨#[]⟩, .slice (some ⟨w2.heap.size, 0, none⟩) 2 2, .slice (some ⟨w2.heap.size + 1, 0, none⟩) 2 2] 25)).alloc (.cells #[.string ⟨#[113]⟩, .string ⟨#[112]⟩] 9)).alloc (.cells #[.int .i64 y0, .int .i64 y1, .string y2, .slice y3 y4 y5, .slice y6 y7 y8, .int .i64 x0, .int .i64 x1, .string x2, .slice x3 x4 x5, .slice x6 x7 x8] 25)) 25 #[.int .i64 7, .int .i64 0, .string ⟨#[]⟩, .slice (some ⟨w2.heap.size + 3, 0, none⟩) 2 2, .slice (some ⟨w2.heap.size + 4, 0, none⟩) 2 2]
  simp only [World.size_alloc] at k2 k3 k4 k5 k6
  have hk : Below w2.heap.size w2 ((((((w2.alloc (.cells #[.string ⟨#[112]⟩, .string ⟨#[113]⟩] 9)).alloc (.cells #[.int .i64 x0, .int .i64 x1, .string x2, .slice x3 x4 x5, .slice x6 x7 x8, .int .i64 y0, .int .i64 y1, .string y2, .slice y3 y4 y5, .slice y6 y7 y8] 25)).alloc (.cells #[.int .i64 7, .int .i64 0, .string ⟨#[]⟩, .slice (some ⟨w2.heap.size, 0, none⟩) 2 2, .slice (some ⟨w2.heap.size + 1, 0, none⟩) 2 2] 25)).alloc (.cells #[.string ⟨#[113]⟩, .string ⟨#[112]⟩] 9)).alloc (.cells #[.int .i64 y0, .int .i64 y1, .string y2, .slice y3 y4 y5, .slice y6 y7 y8, .int .i64 x0, .int .i64 x1, .string x2, .slice x3 x4 x5, .slice x6 x7 x8] 25)).alloc (.cells #[.int .i64 7, .int .i64 0, .string ⟨#[]⟩, .slice (some ⟨w2.heap.size + 3, 0, none⟩) 2 2, .slice (some ⟨w2.heap.size + 4, 0, none⟩) 2 2] 25)) := ((((((Below.refl _ _).alloc (Nat.le_refl _) _).alloc (by simp) _).alloc (by simp; omega) _).alloc (by simp; omega) _).alloc (by simp; omega) _).alloc (by simp; omega) _
  have hz : ((((((w2.alloc (.cells #[.string ⟨#[112]⟩, .string ⟨#[113]⟩] 9)).alloc (.cells #[.int .i64 x0, .int .i64 x1, .string x2, .slice x3 x4 x5, .slice x6 x7 x8, .int .i64 y0, .int .i64 y1, .string y2, .slice y3 y4 y5, .slice y6 y7 y8] 25)).alloc (.cells #[.int .i64 7, .int .i64 0, .string ⟨#[]⟩, .slice (some ⟨w2.heap.size, 0, none⟩) 2 2, .slice (some ⟨w2.heap.size + 1, 0, none⟩) 2 2] 25)).alloc (.cells #[.string ⟨#[113]⟩, .string ⟨#[112]⟩] 9)).alloc (.cells #[.int .i64 y0, .int .i64 y1, .string y2, .slice y3 y4 y5, .slice y6 y7 y8, .int .i64 x0, .int .i64 x1, .string x2, .slice x3 x4 x5, .slice x6 x7 x8] 25)).alloc (.cells #[.int .i64 7, .int .i64 0, .string ⟨#[]⟩, .slice (some ⟨w2.heap.size + 3, 0, none⟩) 2 2, .slice (some ⟨w2.heap.size + 4, 0, none⟩) 2 2] 25)).heap.size = w2.heap.size + 6 := by simp
  have m1 := ((((k1.alloc (.cells #[.int .i64 x0, .int .i64 x1, .string x2, .slice x3 x4 x5, .slice x6 x7 x8, .int .i64 y0, .int .i64 y1, .string y2, .slice y3 y4 y5, .slice y6 y7 y8] 25)).alloc (.cells #[.int .i64 7, .int .i64 0, .string ⟨#[]⟩, .slice (some ⟨w2.heap.size, 0, none⟩) 2 2, .slice (some ⟨w2.heap.size + 1, 0, none⟩) 2 2] 25)).alloc (.cells #[.string ⟨#[113]⟩, .string ⟨#[112]⟩] 9)).alloc (.cells #[.int .i64 y0, .int .i64 y1, .string y2, .slice y3 y4 y5, .slice y6 y7 y8, .int .i64 x0, .int .i64 x1, .string x2, .slice x3 x4 x5, .slice x6 x7 x8] 25)).alloc (.cells #[.int .i64 7, .int .i64 0, .string ⟨#[]⟩, .slice (some ⟨w2.heap.size + 3, 0, none⟩) 2 2, .slice (some ⟨w2.heap.size + 4, 0, none⟩) 2 2] 25)
  have m2 := (((k2.alloc (.cells #[.int .i64 7, .int .i64 0, .string ⟨#[]⟩, .slice (some ⟨w2.heap.size, 0, none⟩) 2 2, .slice (some ⟨w2.heap.size + 1, 0, none⟩) 2 2] 25)).alloc (.cells #[.string ⟨#[113]⟩, .string ⟨#[112]⟩] 9)).alloc (.cells #[.int .i64 y0, .int .i64 y1, .string y2, .slice y3 y4 y5, .slice y6 y7 y8, .int .i64 x0, .int .i64 x1, .string x2, .slice x3 x4 x5, .slice x6 x7 x8] 25)).alloc (.cells #[.int .i64 7, .int .i64 0, .string ⟨#[]⟩, .slice (some ⟨w2.heap.size + 3, 0, none⟩) 2 2, .slice (some ⟨w2.heap.size + 4, 0, none⟩) 2 2] 25)
  have m3 := ((k3.alloc (.cells #[.string ⟨#[113]⟩, .string ⟨#[112]⟩] 9)).alloc (.cells #[.int .i64 y0, .int .i64 y1, .string y2, .slice y3 y4 y5, .slice y6 y7 y8, .int .i64 x0, .int .i64 x1, .string x2, .slice x3 x4 x5, .slice x6 x7 x8] 25)).alloc (.cells #[.int .i64 7, .int .i64 0, .string ⟨#[]⟩, .slice (some ⟨w2.heap.size + 3, 0, none⟩) 2 2, .slice (some ⟨w2.heap.size + 4, 0, none⟩) 2 2] 25)
  have m4 := (k4.alloc (.cells #[.int .i64 y0, .int .i64 y1, .string y2, .slice y3 y4 y5, .slice y6 y7 y8, .int .i64 x0, .int .i64 x1, .string x2, .slice x3 x4 x5, .slice x6 x7 x8] 25)).alloc (.cells #[.int .i64 7, .int .i64 0, .string ⟨#[]⟩, .slice (some ⟨w2.heap.size + 3, 0, none⟩) 2 2, .slice (some ⟨w2.heap.size + 4, 0, none⟩) 2 2] 25)
  have m5 := k5.alloc (.cells #[.int .i64 7, .int .i64 0, .string ⟨#[]⟩, .slice (some ⟨w2.heap.size + 3, 0, none⟩) 2 2, .slice (some ⟨w2.heap.size + 4, 0, none⟩) 2 2] 25)
  clear k1 k2 k3 k4 k5
  have hna := NdIs.more (B' := ((((((w2.alloc (.cells #[.string ⟨#[112]⟩, .string ⟨#[113]⟩] 9)).alloc (.cells #[.int .i64 x0, .int .i64 x1, .string x2, .slice x3 x4 x5, .slice x6 x7 x8, .int .i64 y0, .int .i64 y1, .string y2, .slice y3 y4 y5, .slice y6 y7 y8] 25)).alloc (.cells #[.int .i64 7, .int .i64 0, .string ⟨#[]⟩, .slice (some ⟨w2.heap.size, 0, none⟩) 2 2, .slice (some ⟨w2.heap.size + 1, 0, none⟩) 2 2] 25)).alloc (.cells #[.string ⟨#[113]⟩, .string ⟨#[112]⟩] 9)).alloc (.cells #[.int .i64 y0, .int .i64 y1, .string y2, .slice y3 y4 y5, .slice y6 y7 y8, .int .i64 x0, .int .i64 x1, .string x2, .slice x3 x4 x5, .slice x6 x7 x8] 25)).alloc (.cells #[.int .i64 7, .int .i64 0, .string ⟨#[]⟩, .slice (some ⟨w2.heap.size + 3, 0, none⟩) 2 2, .slice (some ⟨w2.heap.size + 4, 0, none⟩) 2 2] 25)).heap.size) (by rw [hz]; have := hB.size; omega) _ _ (ha.below (hk.mono hB.size))
  have hnb := NdIs.more (B' := ((((((w2.alloc (.cells #[.string ⟨#[112]⟩, .string ⟨#[113]⟩] 9)).alloc (.cells #[.int .i64 x0, .int .i64 x1, .string x2, .slice x3 x4 x5, .slice x6 x7 x8, .int .i64 y0, .int .i64 y1, .string y2, .slice y3 y4 y5, .slice y6 y7 y8] 25)).alloc (.cells #[.int .i64 7, .int .i64 0, .string ⟨#[]⟩, .slice (some ⟨w2.heap.size, 0, none⟩) 2 2, .slice (some ⟨w2.heap.size + 1, 0, none⟩) 2 2] 25)).alloc (.cells #[.string ⟨#[113]⟩, .string ⟨#[112]⟩] 9)).alloc (.cells #[.int .i64 y0, .int .i64 y1, .string y2, .slice y3 y4 y5, .slice y6 y7 y8, .int .i64 x0, .int .i64 x1, .string x2, .slice x3 x4 x5, .slice x6 x7 x8] 25)).alloc (.cells #[.int .i64 7, .int .i64 0, .string ⟨#[]⟩, .slice (some ⟨w2.heap.size + 3, 0, none⟩) 2 2, .slice (some ⟨w2.heap.size + 4, 0, none⟩) 2 2] 25)).heap.size) (by rw [hz]; have := hB.size; omega) _ _ (hb.below (hk.mono hB.size))
  have z1 := h1.lt
  have z2 := h2.lt
  generalize ((((((w2.alloc (.cells #[.string ⟨#[112]⟩, .string ⟨#[113]⟩] 9)).alloc (.cells #[.int .i64 x0, .int .i64 x1, .string x2, .slice x3 x4 x5, .slice x6 x7 x8, .int .i64 y0, .int .i64 y1, .string y2, .slice y3 y4 y5, .slice y6 y7 y8] 25)).alloc (.cells #[.int .i64 7, .int .i64 0, .string ⟨#[]⟩, .slice (some ⟨w2.heap.size, 0, none⟩) 2 2, .slice (some ⟨w2.heap.size + 1, 0, none⟩) 2 2] 25)).alloc (.cells #[.string ⟨#[113]⟩, .string ⟨#[112]⟩] 9)).alloc (.cells #[.int .i64 y0, .int .i64 y1, .string y2, .slice y3 y4 y5, .slice y6 y7 y8, .int .i64 x0, .int .i64 x1, .string x2, .slice x3 x4 x5, .slice x6 x7 x8] 25)).alloc (.cells #[.int .i64 7, .int .i64 0, .string ⟨#[]⟩, .slice (some ⟨w2.heap.size + 3, 0, none⟩) 2 2, .slice (some ⟨w2.heap.size + 4, 0, none⟩) 2 2] 25)) = w6 at *
  refine ⟨hB.trans (hk.mono hB.size), h1.below hk z1, h2.below hk z2, m3, k6, hna, hnb, ?_, ?_⟩
  · exact two_is (by decide) (by decide) m1 m2 (by omega) (by omega) hna hnb
  · exact two_is (by decide) (by decide) m4 m5 (by omega) (by omega) hnb hna
set_option maxRecDepth 100000 in
set_option maxHeartbeats 3000000 in
theorem canonOrder_walk (a b : Nd) (cs ds : List Value) (W : World) (ha : NdIs W W.heap.size a cs) (hb : NdIs W W.heap.size b ds) (hT : TabOK W) :
    Calls Tryd.prog 6 #[.agg cs.toArray, .agg ds.toArray] W fun e W' => e = .returned (.bool true) ∧ Below W.heap.size W W' := by
  have hla := ha.len
  have hlb := hb.len
  match cs, hla, ds, hlb with
  | [v0, v1, v2, v3, v4], _, [u0, u1, u2, u3, u4], _ =>
    obtain ⟨x0, x1, x2, x3, x4, x5, x6, x7, x8, rfl, rfl, rfl, rfl, rfl⟩ := ha.form
    obtain ⟨y0, y1, y2, y3, y4, y5, y6, y7, y8, rfl, rfl, rfl, rfl, rfl⟩ := hb.form
    show Calls Tryd.prog 6 #[.agg #[.int .i64 x0, .int .i64 x1, .string x2, .slice x3 x4 x5, .slice x6 x7 x8], .agg #[.int .i64 y0, .int .i64 y1, .string y2, .slice y3 y4 y5, .slice y6 y7 y8]] W _
    have HA : Hid (∀ w', Below W.heap.size W w' → NdIs w' W.heap.size a [.int .i64 x0, .int .i64 x1, .string x2, .slice x3 x4 x5, .slice x6 x7 x8]) := fun w' h => ha.below h
    have HB : Hid (∀ w', Below W.heap.size W w' → NdIs w' W.heap.size b [.int .i64 y0, .int .i64 y1, .string y2, .slice y3 y4 y5, .slice y6 y7 y8]) := fun w' h => hb.below h
    have HGA : Hid (∀ w', Below W.heap.size W w' → Calls Tryd.prog 9 #[.agg #[.int .i64 x0, .int .i64 x1, .string x2, .slice x3 x4 x5, .slice x6 x7 x8]] w' (BoolBel (greatN a) w')) := fun w' h => great_any a _ w' W.heap.size (HA.out w' h) h.size
    have HGB : Hid (∀ w', Below W.heap.size W w' → Calls Tryd.prog 9 #[.agg #[.int .i64 y0, .int .i64 y1, .string y2, .slice y3 y4 y5, .slice y6 y7 y8]] w' (BoolBel (greatN b) w')) := fun w' h => great_any b _ w' W.heap.size (HB.out w' h) h.size
    have HW : Hid (∀ w', Below W.heap.size W w' → Calls Tryd.prog 10 #[] w' (BoolBel true w')) := fun w' h => awake8_any w' (hT.below h)
    have s0 : SS W (.int .i64 x0) (.int .i64 x1) (.string x2) (.slice x3 x4 x5) (.slice x6 x7 x8) (.int .i64 y0) (.int .i64 y1) (.string y2) (.slice y3 y4 y5) (.slice y6 y7 y8) ((W.alloc (.cells #[.int .i64 x0, .int .i64 x1, .string x2, .slice x3 x4 x5, .slice x6 x7 x8] 25)).alloc (.cells #[.int .i64 y0, .int .i64 y1, .string y2, .slice y3 y4 y5, .slice y6 y7 y8] 25)) := ss_new W _ _ _ _ _ _ _ _ _ _
    have hX0 : Blk ((W.alloc (.cells #[.int .i64 x0, .int .i64 x1, .string x2, .slice x3 x4 x5, .slice x6 x7 x8] 25)).alloc (.cells #[.int .i64 y0, .int .i64 y1, .string y2, .slice y3 y4 y5, .slice y6 y7 y8] 25)) W.heap.size 25 #[.int .i64 x0, .int .i64 x1, .string x2, .slice x3 x4 x5, .slice x6 x7 x8] := (Blk.new W _ _).alloc _
    have hY0 : Blk ((W.alloc (.cells #[.int .i64 x0, .int .i64 x1, .string x2, .slice x3 x4 x5, .slice x6 x7 x8] 25)).alloc (.cells #[.int .i64 y0, .int .i64 y1, .string y2, .slice y3 y4 y5, .slice y6 y7 y8] 25)) (W.heap.size + 1) 25 #[.int .i64 y0, .int .i64 y1, .string y2, .slice y3 y4 y5, .slice y6 y7 y8] := by
      have := Blk.new (W.alloc (.cells #[.int .i64 x0, .int .i64 x1, .string x2, .slice x3 x4 x5, .slice x6 x7 x8] 25)) 25 #[.int .i64 y0, .int .i64 y1, .string y2, .slice y3 y4 y5, .slice y6 y7 y8]
      simpa using this
    have HNA : Hid (greatN a = false → sizeOk a ∧ gN a ≤ 60000000) := fun h => not_great ha h
    have HNB : Hid (greatN b = false → sizeOk b ∧ gN b ≤ 60000000) := fun h => not_great hb h
    clear ha hb hT
    generalize hga : greatN a = ga at *
    generalize hgb : greatN b = gb at *
    cases ga with
    | true =>
      go_enter Tryd.func6, Tryd.ntmps6
      go_wp2_with fail
      refine (HGA.out _ s0.2.2.2).mono ?_; rintro e w1 ⟨rfl, hw1⟩
      have s1 := ss_below s0 hw1
      go_wp2_with fail
      refine (HW.out _ s1.2.2.2).mono ?_; rintro e w2 ⟨rfl, hw2⟩
      go_wp2_with fail
      go_ret
      exact ⟨rfl, (ss_below s1 hw2).2.2.2⟩
    | false =>
    cases gb with
    | true =>
      go_enter Tryd.func6, Tryd.ntmps6
      go_wp2_with fail
      refine (HGA.out _ s0.2.2.2).mono ?_; rintro e w1 ⟨rfl, hw1⟩
      have s1 := ss_below s0 hw1
      obtain ⟨⟨c0, c1, c2, c3, c4⟩, ⟨d0, d1, d2, d3, d4⟩, _, hB1⟩ := s1
      go_wp2_with fail
      refine (HGB.out _ hB1).mono ?_; rintro e w2 ⟨rfl, hw2⟩
      have hB2 := hB1.trans (hw2.mono hB1.size)
      clear c0 c1 c2 c3 c4 d0 d1 d2 d3 d4
      go_wp2_with fail
      refine (HW.out _ hB2).mono ?_; rintro e w3 ⟨rfl, hw3⟩
      go_wp2_with fail
      go_ret
      exact ⟨rfl, hB2.trans (hw3.mono hB2.size)⟩
    | false =>
      have hza := HNA.out (by trivial)
      have hzb := HNB.out (by trivial)
      have HS1 : Hid (sizeOk (ndTwo ⟨#[112]⟩ ⟨#[113]⟩ a b)) := size_two _ _ (by decide) (by decide) hza.1 hzb.1
      have HS2 : Hid (sizeOk (ndTwo ⟨#[113]⟩ ⟨#[112]⟩ b a)) := size_two _ _ (by decide) (by decide) hzb.1 hza.1
      have HS3 : Hid (sizeOk (ndArr a)) := size_arr hza.1
      clear hza hzb HNA HNB hga hgb
      go_enter Tryd.func6, Tryd.ntmps6
      go_wp2_with fail
      refine (HGA.out _ s0.2.2.2).mono ?_; rintro e w1 ⟨rfl, hw1⟩
      have s1 := ss_below s0 hw1
      have hX1 := hX0.below hw1 hX0.lt
      have hY1 := hY0.below hw1 hY0.lt
      obtain ⟨⟨c0, c1, c2, c3, c4⟩, ⟨d0, d1, d2, d3, d4⟩, _, _⟩ := id s1
      go_wp2_with fail
      refine (HGB.out _ s1.2.2.2).mono ?_; rintro e w2 ⟨rfl, hw2⟩
      have s2 := ss_below s1 hw2
      have hX2 := hX1.below hw2 hX1.lt
      have hY2 := hY1.below hw2 hY1.lt
      clear c0 c1 c2 c3 c4 d0 d1 d2 d3 d4
      obtain ⟨⟨c0, c1, c2, c3, c4⟩, ⟨d0, d1, d2, d3, d4⟩, hz, hB2⟩ := id s2
      have hz0 : W.heap.size < w2.heap.size := by omega
      have O6 := Lib.hid (ord_start (HA.out _ hB2) (HB.out _ hB2) hB2 hX2 hY2)
      obtain ⟨r0, r1, r2, r3, r4⟩ := ((((hX2.alloc (.cells #[.string ⟨#[112]⟩, .string ⟨#[113]⟩] 9)).alloc (.cells #[.int .i64 x0, .int .i64 x1, .string x2, .slice x3 x4 x5, .slice x6 x7 x8, .int .i64 y0, .int .i64 y1, .string y2, .slice y3 y4 y5, .slice y6 y7 y8] 25)).alloc (.cells #[.int .i64 7, .int .i64 0, .string ⟨#[]⟩, .slice (some ⟨w2.heap.size, 0, none⟩) 2 2, .slice (some ⟨w2.heap.size + 1, 0, none⟩) 2 2] 25)).alloc (.cells #[.string ⟨#[113]⟩, .string ⟨#[112]⟩] 9)).cells5
      obtain ⟨t0, t1, t2, t3, t4⟩ := ((((hY2.alloc (.cells #[.string ⟨#[112]⟩, .string ⟨#[113]⟩] 9)).alloc (.cells #[.int .i64 x0, .int .i64 x1, .string x2, .slice x3 x4 x5, .slice x6 x7 x8, .int .i64 y0, .int .i64 y1, .string y2, .slice y3 y4 y5, .slice y6 y7 y8] 25)).alloc (.cells #[.int .i64 7, .int .i64 0, .string ⟨#[]⟩, .slice (some ⟨w2.heap.size, 0, none⟩) 2 2, .slice (some ⟨w2.heap.size + 1, 0, none⟩) 2 2] 25)).alloc (.cells #[.string ⟨#[113]⟩, .string ⟨#[112]⟩] 9)).cells5
      clear hX0 hY0 hX1 hY1 hX2 hY2 s0 s1 s2 hw1 hw2
      have HF1 : Hid (∀ w', (OrdW W w' (w2.heap.size + 2) (w2.heap.size + 5) a b #[.int .i64 7, .int .i64 0, .string ⟨#[]⟩, .slice (some ⟨w2.heap.size, 0, none⟩) 2 2, .slice (some ⟨w2.heap.size + 1, 0, none⟩) 2 2] #[.int .i64 7, .int .i64 0, .string ⟨#[]⟩, .slice (some ⟨w2.heap.size + 3, 0, none⟩) 2 2, .slice (some ⟨w2.heap.size + 4, 0, none⟩) 2 2] #[.int .i64 x0, .int .i64 x1, .string x2, .slice x3 x4 x5, .slice x6 x7 x8] #[.int .i64 y0, .int .i64 y1, .string y2, .slice y3 y4 y5, .slice y6 y7 y8] [.int .i64 x0, .int .i64 x1, .string x2, .slice x3 x4 x5, .slice x6 x7 x8] [.int .i64 y0, .int .i64 y1, .string y2, .slice y3 y4 y5, .slice y6 y7 y8] [.int .i64 7, .int .i64 0, .string ⟨#[]⟩, .slice (some ⟨w2.heap.size, 0, none⟩) 2 2, .slice (some ⟨w2.heap.size + 1, 0, none⟩) 2 2] [.int .i64 7, .int .i64 0, .string ⟨#[]⟩, .slice (some ⟨w2.heap.size + 3, 0, none⟩) 2 2, .slice (some ⟨w2.heap.size + 4, 0, none⟩) 2 2]) → Calls Tryd.prog 18 #[.agg #[.int .i64 7, .int .i64 0, .string ⟨#[]⟩, .slice (some ⟨w2.heap.size, 0, none⟩) 2 2, .slice (some ⟨w2.heap.size + 1, 0, none⟩) 2 2], .string ⟨#[112]⟩] w' (FindP (some a) w')) := fun w' h => by
        have := cFind_any _ ⟨#[112]⟩ _ w' w'.heap.size h.nx (Nat.le_refl _) HS1.out
        rw [find_two1] at this; exact this
      have HF2 : Hid (∀ w', (OrdW W w' (w2.heap.size + 2) (w2.heap.size + 5) a b #[.int .i64 7, .int .i64 0, .string ⟨#[]⟩, .slice (some ⟨w2.heap.size, 0, none⟩) 2 2, .slice (some ⟨w2.heap.size + 1, 0, none⟩) 2 2] #[.int .i64 7, .int .i64 0, .string ⟨#[]⟩, .slice (some ⟨w2.heap.size + 3, 0, none⟩) 2 2, .slice (some ⟨w2.heap.size + 4, 0, none⟩) 2 2] #[.int .i64 x0, .int .i64 x1, .string x2, .slice x3 x4 x5, .slice x6 x7 x8] #[.int .i64 y0, .int .i64 y1, .string y2, .slice y3 y4 y5, .slice y6 y7 y8] [.int .i64 x0, .int .i64 x1, .string x2, .slice x3 x4 x5, .slice x6 x7 x8] [.int .i64 y0, .int .i64 y1, .string y2, .slice y3 y4 y5, .slice y6 y7 y8] [.int .i64 7, .int .i64 0, .string ⟨#[]⟩, .slice (some ⟨w2.heap.size, 0, none⟩) 2 2, .slice (some ⟨w2.heap.size + 1, 0, none⟩) 2 2] [.int .i64 7, .int .i64 0, .string ⟨#[]⟩, .slice (some ⟨w2.heap.size + 3, 0, none⟩) 2 2, .slice (some ⟨w2.heap.size + 4, 0, none⟩) 2 2]) → Calls Tryd.prog 18 #[.agg #[.int .i64 7, .int .i64 0, .string ⟨#[]⟩, .slice (some ⟨w2.heap.size + 3, 0, none⟩) 2 2, .slice (some ⟨w2.heap.size + 4, 0, none⟩) 2 2], .string ⟨#[112]⟩] w' (FindP (some a) w')) := fun w' h => by
        have := cFind_any _ ⟨#[112]⟩ _ w' w'.heap.size h.ny (Nat.le_refl _) HS2.out
        rw [find_two2 _ _ _ _ (by kernel_rfl)] at this; exact this
      have HF3 : Hid (∀ w', (OrdW W w' (w2.heap.size + 2) (w2.heap.size + 5) a b #[.int .i64 7, .int .i64 0, .string ⟨#[]⟩, .slice (some ⟨w2.heap.size, 0, none⟩) 2 2, .slice (some ⟨w2.heap.size + 1, 0, none⟩) 2 2] #[.int .i64 7, .int .i64 0, .string ⟨#[]⟩, .slice (some ⟨w2.heap.size + 3, 0, none⟩) 2 2, .slice (some ⟨w2.heap.size + 4, 0, none⟩) 2 2] #[.int .i64 x0, .int .i64 x1, .string x2, .slice x3 x4 x5, .slice x6 x7 x8] #[.int .i64 y0, .int .i64 y1, .string y2, .slice y3 y4 y5, .slice y6 y7 y8] [.int .i64 x0, .int .i64 x1, .string x2, .slice x3 x4 x5, .slice x6 x7 x8] [.int .i64 y0, .int .i64 y1, .string y2, .slice y3 y4 y5, .slice y6 y7 y8] [.int .i64 7, .int .i64 0, .string ⟨#[]⟩, .slice (some ⟨w2.heap.size, 0, none⟩) 2 2, .slice (some ⟨w2.heap.size + 1, 0, none⟩) 2 2] [.int .i64 7, .int .i64 0, .string ⟨#[]⟩, .slice (some ⟨w2.heap.size + 3, 0, none⟩) 2 2, .slice (some ⟨w2.heap.size + 4, 0, none⟩) 2 2]) → Calls Tryd.prog 18 #[.agg #[.int .i64 7, .int .i64 0, .string ⟨#[]⟩, .slice (some ⟨w2.heap.size, 0, none⟩) 2 2, .slice (some ⟨w2.heap.size + 1, 0, none⟩) 2 2], .string ⟨#[114]⟩] w' (FindP none w')) := fun w' h => by
        have := cFind_any _ ⟨#[114]⟩ _ w' w'.heap.size h.nx (Nat.le_refl _) HS1.out
        rw [find_two0 _ _ _ _ _ (by kernel_rfl) (by kernel_rfl)] at this; exact this
      have HF4 : Hid (∀ w', (OrdW W w' (w2.heap.size + 2) (w2.heap.size + 5) a b #[.int .i64 7, .int .i64 0, .string ⟨#[]⟩, .slice (some ⟨w2.heap.size, 0, none⟩) 2 2, .slice (some ⟨w2.heap.size + 1, 0, none⟩) 2 2] #[.int .i64 7, .int .i64 0, .string ⟨#[]⟩, .slice (some ⟨w2.heap.size + 3, 0, none⟩) 2 2, .slice (some ⟨w2.heap.size + 4, 0, none⟩) 2 2] #[.int .i64 x0, .int .i64 x1, .string x2, .slice x3 x4 x5, .slice x6 x7 x8] #[.int .i64 y0, .int .i64 y1, .string y2, .slice y3 y4 y5, .slice y6 y7 y8] [.int .i64 x0, .int .i64 x1, .string x2, .slice x3 x4 x5, .slice x6 x7 x8] [.int .i64 y0, .int .i64 y1, .string y2, .slice y3 y4 y5, .slice y6 y7 y8] [.int .i64 7, .int .i64 0, .string ⟨#[]⟩, .slice (some ⟨w2.heap.size, 0, none⟩) 2 2, .slice (some ⟨w2.heap.size + 1, 0, none⟩) 2 2] [.int .i64 7, .int .i64 0, .string ⟨#[]⟩, .slice (some ⟨w2.heap.size + 3, 0, none⟩) 2 2, .slice (some ⟨w2.heap.size + 4, 0, none⟩) 2 2]) → Calls Tryd.prog 18 #[.agg #[.int .i64 6, .int .i64 0, .string ⟨#[]⟩, .slice none 0 0, .slice (some ⟨w'.heap.size, 0, none⟩) 1 1], .string ⟨#[112]⟩] (w'.alloc (.cells #[.int .i64 x0, .int .i64 x1, .string x2, .slice x3 x4 x5, .slice x6 x7 x8] 25)) (FindP none (w'.alloc (.cells #[.int .i64 x0, .int .i64 x1, .string x2, .slice x3 x4 x5, .slice x6 x7 x8] 25)))) := fun w' h => by
        have := cFind_any (ndArr a) ⟨#[112]⟩ _ (w'.alloc (.cells #[.int .i64 x0, .int .i64 x1, .string x2, .slice x3 x4 x5, .slice x6 x7 x8] 25)) (w'.heap.size + 1) (arr_is h.na (Nat.le_refl _)) (by simp) HS3.out
        rw [show findN (ndArr a) ⟨#[112]⟩ = none by simp [ndArr, findN]] at this; exact this
      have HCS : Hid (∀ w', (OrdW W w' (w2.heap.size + 2) (w2.heap.size + 5) a b #[.int .i64 7, .int .i64 0, .string ⟨#[]⟩, .slice (some ⟨w2.heap.size, 0, none⟩) 2 2, .slice (some ⟨w2.heap.size + 1, 0, none⟩) 2 2] #[.int .i64 7, .int .i64 0, .string ⟨#[]⟩, .slice (some ⟨w2.heap.size + 3, 0, none⟩) 2 2, .slice (some ⟨w2.heap.size + 4, 0, none⟩) 2 2] #[.int .i64 x0, .int .i64 x1, .string x2, .slice x3 x4 x5, .slice x6 x7 x8] #[.int .i64 y0, .int .i64 y1, .string y2, .slice y3 y4 y5, .slice y6 y7 y8] [.int .i64 x0, .int .i64 x1, .string x2, .slice x3 x4 x5, .slice x6 x7 x8] [.int .i64 y0, .int .i64 y1, .string y2, .slice y3 y4 y5, .slice y6 y7 y8] [.int .i64 7, .int .i64 0, .string ⟨#[]⟩, .slice (some ⟨w2.heap.size, 0, none⟩) 2 2, .slice (some ⟨w2.heap.size + 1, 0, none⟩) 2 2] [.int .i64 7, .int .i64 0, .string ⟨#[]⟩, .slice (some ⟨w2.heap.size + 3, 0, none⟩) 2 2, .slice (some ⟨w2.heap.size + 4, 0, none⟩) 2 2]) → Calls Tryd.prog 16 #[.agg #[.int .i64 7, .int .i64 0, .string ⟨#[]⟩, .slice (some ⟨w2.heap.size, 0, none⟩) 2 2, .slice (some ⟨w2.heap.size + 1, 0, none⟩) 2 2], .agg #[.int .i64 7, .int .i64 0, .string ⟨#[]⟩, .slice (some ⟨w2.heap.size + 3, 0, none⟩) 2 2, .slice (some ⟨w2.heap.size + 4, 0, none⟩) 2 2]] w' (BoolBel false w')) := fun w' h => by
        have := cSame_any _ (ndTwo ⟨#[112]⟩ ⟨#[113]⟩ a b) (ndTwo ⟨#[113]⟩ ⟨#[112]⟩ b a) _ _ w' w'.heap.size (Nat.le_refl _) h.nx h.ny (Nat.le_refl _)
        rw [same_two _ _ _ _ _ _ (by kernel_rfl)] at this; exact this
      have HRS : Hid (∀ (cs : List Value) w', (OrdW W w' (w2.heap.size + 2) (w2.heap.size + 5) a b #[.int .i64 7, .int .i64 0, .string ⟨#[]⟩, .slice (some ⟨w2.heap.size, 0, none⟩) 2 2, .slice (some ⟨w2.heap.size + 1, 0, none⟩) 2 2] #[.int .i64 7, .int .i64 0, .string ⟨#[]⟩, .slice (some ⟨w2.heap.size + 3, 0, none⟩) 2 2, .slice (some ⟨w2.heap.size + 4, 0, none⟩) 2 2] #[.int .i64 x0, .int .i64 x1, .string x2, .slice x3 x4 x5, .slice x6 x7 x8] #[.int .i64 y0, .int .i64 y1, .string y2, .slice y3 y4 y5, .slice y6 y7 y8] [.int .i64 x0, .int .i64 x1, .string x2, .slice x3 x4 x5, .slice x6 x7 x8] [.int .i64 y0, .int .i64 y1, .string y2, .slice y3 y4 y5, .slice y6 y7 y8] [.int .i64 7, .int .i64 0, .string ⟨#[]⟩, .slice (some ⟨w2.heap.size, 0, none⟩) 2 2, .slice (some ⟨w2.heap.size + 1, 0, none⟩) 2 2] [.int .i64 7, .int .i64 0, .string ⟨#[]⟩, .slice (some ⟨w2.heap.size + 3, 0, none⟩) 2 2, .slice (some ⟨w2.heap.size + 4, 0, none⟩) 2 2]) → NdIs w' w'.heap.size a cs → Calls Tryd.prog 17 #[.agg cs.toArray, .agg #[.int .i64 x0, .int .i64 x1, .string x2, .slice x3 x4 x5, .slice x6 x7 x8]] w' (BoolBel true w')) := fun cs w' h h2 => by
        have := rSame_any a.count a a cs _ w' w'.heap.size (Nat.le_refl _) h2 h.na (Nat.le_refl _)
        rw [sameN_refl] at this; exact this
      clear HS1 HS2 HS3 HA HB HGA HGB
      go_wp2_with fail
      clear r0 r1 r2 r3 r4 t0 t1 t2 t3 t4 c0 c1 c2 c3 c4 d0 d1 d2 d3 d4
      generalize ((((((w2.alloc (.cells #[.string ⟨#[112]⟩, .string ⟨#[113]⟩] 9)).alloc (.cells #[.int .i64 x0, .int .i64 x1, .string x2, .slice x3 x4 x5, .slice x6 x7 x8, .int .i64 y0, .int .i64 y1, .string y2, .slice y3 y4 y5, .slice y6 y7 y8] 25)).alloc (.cells #[.int .i64 7, .int .i64 0, .string ⟨#[]⟩, .slice (some ⟨w2.heap.size, 0, none⟩) 2 2, .slice (some ⟨w2.heap.size + 1, 0, none⟩) 2 2] 25)).alloc (.cells #[.string ⟨#[113]⟩, .string ⟨#[112]⟩] 9)).alloc (.cells #[.int .i64 y0, .int .i64 y1, .string y2, .slice y3 y4 y5, .slice y6 y7 y8, .int .i64 x0, .int .i64 x1, .string x2, .slice x3 x4 x5, .slice x6 x7 x8] 25)).alloc (.cells #[.int .i64 7, .int .i64 0, .string ⟨#[]⟩, .slice (some ⟨w2.heap.size + 3, 0, none⟩) 2 2, .slice (some ⟨w2.heap.size + 4, 0, none⟩) 2 2] 25)) = w6 at *
      refine (HF1.out _ O6.out).mono ?_; rintro e w7 ⟨g0, g1, g2, g3, g4, g5, g6, g7, g8, rfl, hn7, hw7⟩
      have O7 := O6.out.next hw7
      have O7a := Lib.hid (O7.next ((Below.refl _ _).alloc (Nat.le_refl _) (.cells #[.int .i64 g0, .int .i64 g1, .string g2, .slice g3 g4 g5, .slice g6 g7 g8] 25)))
      have N7 : NdIs (w7.alloc (.cells #[.int .i64 g0, .int .i64 g1, .string g2, .slice g3 g4 g5, .slice g6 g7 g8] 25)) w7.heap.size a [.int .i64 g0, .int .i64 g1, .string g2, .slice g3 g4 g5, .slice g6 g7 g8] := (NdIn.is (fun b hb => hb.2) _ _ hn7).below ((Below.refl _ _).alloc (Nat.le_refl _) _)
      have P7 : Blk (w7.alloc (.cells #[.int .i64 g0, .int .i64 g1, .string g2, .slice g3 g4 g5, .slice g6 g7 g8] 25)) w7.heap.size 25 #[.int .i64 g0, .int .i64 g1, .string g2, .slice g3 g4 g5, .slice g6 g7 g8] := Blk.new w7 _ _
      obtain ⟨c0, c1, c2, c3, c4⟩ := O7a.out.yy.cells5
      clear hn7 O7
      go_wp2_with fail
      refine (HF2.out _ O7a.out).mono ?_; rintro e w8 ⟨h0, h1, h2, h3, h4, h5, h6, h7, h8, rfl, hn8, hw8⟩
      have O8 := O7a.out.next hw8
      have O8a := Lib.hid (O8.next ((Below.refl _ _).alloc (Nat.le_refl _) (.cells #[.int .i64 h0, .int .i64 h1, .string h2, .slice h3 h4 h5, .slice h6 h7 h8] 25)))
      have zz78 : w7.heap.size + 1 ≤ w8.heap.size := by have := hw8.size; simp at this; omega
      have N8 : NdIs (w8.alloc (.cells #[.int .i64 h0, .int .i64 h1, .string h2, .slice h3 h4 h5, .slice h6 h7 h8] 25)) w8.heap.size a [.int .i64 h0, .int .i64 h1, .string h2, .slice h3 h4 h5, .slice h6 h7 h8] := (NdIn.is (fun b hb => hb.2) _ _ hn8).below ((Below.refl _ _).alloc (Nat.le_refl _) _)
      have N8' : NdIs (w8.alloc (.cells #[.int .i64 h0, .int .i64 h1, .string h2, .slice h3 h4 h5, .slice h6 h7 h8] 25)) w7.heap.size a [.int .i64 g0, .int .i64 g1, .string g2, .slice g3 g4 g5, .slice g6 g7 g8] := (N7.below (hw8.mono (by simp))).below (((Below.refl _ _).alloc (Nat.le_refl _) _).mono (by omega))
      have P8 : Blk (w8.alloc (.cells #[.int .i64 h0, .int .i64 h1, .string h2, .slice h3 h4 h5, .slice h6 h7 h8] 25)) w8.heap.size 25 #[.int .i64 h0, .int .i64 h1, .string h2, .slice h3 h4 h5, .slice h6 h7 h8] := Blk.new w8 _ _
      have P8' := (P7.below hw8 P7.lt).alloc (.cells #[.int .i64 h0, .int .i64 h1, .string h2, .slice h3 h4 h5, .slice h6 h7 h8] 25)
      clear hn8 O8 N7 P7 c0 c1 c2 c3 c4
      obtain ⟨c0, c1, c2, c3, c4⟩ := O8a.out.xx.cells5
      go_wp2_with fail
      refine (HF3.out _ O8a.out).mono ?_; rintro e w9 ⟨k0, k1, k2, k3, k4, k5, k6, k7, k8, rfl, hn9, hw9⟩
      have O9 := O8a.out.next hw9
      have O9a := Lib.hid (O9.next ((Below.refl _ _).alloc (Nat.le_refl _) (.cells #[.int .i64 k0, .int .i64 k1, .string k2, .slice k3 k4 k5, .slice k6 k7 k8] 25)))
      have zz89 : w8.heap.size + 1 ≤ w9.heap.size := by have := hw9.size; simp at this; omega
      have k9 : Below (w8.alloc (.cells #[.int .i64 h0, .int .i64 h1, .string h2, .slice h3 h4 h5, .slice h6 h7 h8] 25)).heap.size (w8.alloc (.cells #[.int .i64 h0, .int .i64 h1, .string h2, .slice h3 h4 h5, .slice h6 h7 h8] 25)) (w9.alloc (.cells #[.int .i64 k0, .int .i64 k1, .string k2, .slice k3 k4 k5, .slice k6 k7 k8] 25)) := hw9.alloc hw9.size _
      have N9 := N8.below (k9.mono (by simp))
      have N9' := N8'.below (k9.mono (by simp; omega))
      have P9 := P8.below k9 P8.lt
      have P9' := P8'.below k9 P8'.lt
      clear hn9 O9 N8 N8' P8 P8' k9 c0 c1 c2 c3 c4
      obtain ⟨c0, c1, c2, c3, c4⟩ := O9a.out.ba.cells5
      go_wp2_with fail
      have HF4' := HF4.out _ O9a.out
      simp only [World.size_alloc] at HF4'
      refine HF4'.mono ?_; rintro e w10 ⟨m0, m1, m2, m3, m4, m5, m6, m7, m8, rfl, hn10, hw10⟩
      have k10 : Below (w9.alloc (.cells #[.int .i64 k0, .int .i64 k1, .string k2, .slice k3 k4 k5, .slice k6 k7 k8] 25)).heap.size (w9.alloc (.cells #[.int .i64 k0, .int .i64 k1, .string k2, .slice k3 k4 k5, .slice k6 k7 k8] 25)) w10 := ((Below.refl _ _).alloc (Nat.le_refl _) _).trans (hw10.mono (by simp))
      have O10 := O9a.out.next k10
      have O10a := Lib.hid (O10.next ((Below.refl _ _).alloc (Nat.le_refl _) (.cells #[.int .i64 m0, .int .i64 m1, .string m2, .slice m3 m4 m5, .slice m6 m7 m8] 25)))
      have zz90 : w9.heap.size + 1 ≤ w10.heap.size := by have := k10.size; simp at this; omega
      have k11 : Below (w9.alloc (.cells #[.int .i64 k0, .int .i64 k1, .string k2, .slice k3 k4 k5, .slice k6 k7 k8] 25)).heap.size (w9.alloc (.cells #[.int .i64 k0, .int .i64 k1, .string k2, .slice k3 k4 k5, .slice k6 k7 k8] 25)) (w10.alloc (.cells #[.int .i64 m0, .int .i64 m1, .string m2, .slice m3 m4 m5, .slice m6 m7 m8] 25)) := k10.alloc k10.size _
      have N10 := N9.below (k11.mono (by simp; omega))
      have N10' := N9'.below (k11.mono (by simp; omega))
      have P10 := P9.below k11 P9.lt
      have P10' := P9'.below k11 P9'.lt
      clear hn10 O10 N9 N9' P9 P9' k10 k11 HF4' c0 c1 c2 c3 c4
      obtain ⟨c0, c1, c2, c3, c4⟩ := O10a.out.xx.cells5
      obtain ⟨d0, d1, d2, d3, d4⟩ := O10a.out.yy.cells5
      go_wp2_with fail
      refine (HCS.out _ O10a.out).mono ?_; rintro e w11 ⟨rfl, hw11⟩
      have O11 := Lib.hid (O10a.out.next hw11)
      have zz01 : w10.heap.size + 1 ≤ w11.heap.size := by have := hw11.size; simp at this; omega
      have N11 := N10.below (hw11.mono (by simp; omega))
      have N11' := N10'.below (hw11.mono (by simp; omega))
      have P11 := P10.below hw11 P10.lt
      have P11' := P10'.below hw11 P10'.lt
      clear N10 N10' P10 P10' c0 c1 c2 c3 c4 d0 d1 d2 d3 d4
      obtain ⟨c0, c1, c2, c3, c4⟩ := P11'.cells5
      obtain ⟨d0, d1, d2, d3, d4⟩ := O11.out.ba.cells5
      go_wp2_with fail
      refine (HRS.out [.int .i64 g0, .int .i64 g1, .string g2, .slice g3 g4 g5, .slice g6 g7 g8] _ O11.out (NdIs.more (by omega) _ _ N11') : Calls _ _ _ _ _).mono ?_; rintro e w12 ⟨rfl, hw12⟩
      have O12 := Lib.hid (O11.out.next hw12)
      have N12 := N11.below (hw12.mono (by omega))
      have P12 := P11.below hw12 P11.lt
      have zz12 := hw12.size
      clear N11 N11' P11 P11' c0 c1 c2 c3 c4 d0 d1 d2 d3 d4
      obtain ⟨c0, c1, c2, c3, c4⟩ := P12.cells5
      obtain ⟨d0, d1, d2, d3, d4⟩ := O12.out.ba.cells5
      go_wp2_with fail
      refine (HRS.out [.int .i64 h0, .int .i64 h1, .string h2, .slice h3 h4 h5, .slice h6 h7 h8] _ O12.out (NdIs.more (by omega) _ _ N12) : Calls _ _ _ _ _).mono ?_; rintro e w13 ⟨rfl, hw13⟩
      have O13 := O12.out.next hw13
      have B13 := Lib.hid O13.below
      clear O13 N12 P12 c0 c1 c2 c3 c4 d0 d1 d2 d3 d4
      go_wp2_with fail
      refine (HW.out _ B13.out).mono ?_; rintro e w14 ⟨rfl, hw14⟩
      go_wp2_with fail
      go_ret
      exact ⟨rfl, B13.out.trans (hw14.mono B13.out.size)⟩
end Go.Proofs.YtofkdeojabongaaDoor
