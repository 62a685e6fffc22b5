/- Texts of one seat,one behind the other: Bw0,Rf0,Rf1,Rf2,Rz1,Rz2,Rq1,Rr0,Rr1,Cq0. No condition. -/
import Derived.Test.YthbjehbpanhdoaaDoorN10
import Derived.PlainAid
import Derived.RangeFuncNested
import Derived.RangeFuncBound
import Derived.RangeFuncCalls
import Derived.RangeFuncLeaves
import Derived.Shelf.Abstract
import Derived.Shelf.RegionOpen
import Derived.WalkKit
import Derived.OwnWalkIn
import Derived.TacticsInMore
import Derived.LoopNIn
import Derived.LoopIn
import Derived.Deep.DeepCutAuto
namespace Go.Proofs.YthbjehbpanhdoaaDoor
open Go.RowKit Go.PlainAid Go.Shelf
set_option linter.unusedVariables false
set_option linter.unusedSimpArgs false
attribute [local go_sem] Oper.semAt_some
def dn (n:Nat):(k:Nat) → k ≤ n → List {j:Nat // j < n}
 | 0,_ => []
 | k + 1,h => dn n k (by omega) ++ [⟨n - 1 - k,by omega⟩]
theorem dn_len (n:Nat):∀ (k:Nat) (h:k ≤ n),(dn n k h).length = k
 | 0,_ => rfl
 | k + 1,h => by unfold dn;rw [List.length_append,dn_len n k];rfl
theorem dn_mem (n:Nat):∀ (k:Nat) (h:k ≤ n) (x:{j:Nat // j < n}),n - k ≤ x.1 → x ∈ dn n k h
 | 0,_,x,hx => by have:=x.2;omega
 | k + 1,h,x,hx => by
  unfold dn
  rw [List.mem_append,List.mem_singleton]
  by_cases e:x.1 = n - 1 - k
  ·exact .inr (Subtype.ext e)
  ·exact .inl (dn_mem n k _ x (by omega))
set_option maxRecDepth 100000 in
set_option maxHeartbeats 2000000 in
theorem bw1_in (F:Fence) (n:Nat) (hF:F.fn 53) (hro:F.round = none) (hn:1 ≤ n) (l Bs n₀ len cap:Nat) (A:Option Addr) (g:Nat → Value) (hreach:len ≤ 1000000) (hA:0 < len → ∃ b off,A = some (qa b off) ∧ b < n₀) (hBs:Bs < n₀)
  (J Jx:List {j:Nat // j < len} → World → Prop)
  (hY:∀ pre x W,J pre W → pre.length < len → YieldAt F (n - 1) Tryd.prog l #[.int .i64 (x.1:Int),.agg #[g (x.1 * 7),g (x.1 * 7 + 1),g (x.1 * 7 + 2),g (x.1 * 7 + 3),g (x.1 * 7 + 4),g (x.1 * 7 + 5),g (x.1 * 7 + 6)]] W fun e W' =>
   (e = .returned (.bool true) ∧ J (pre ++ [x]) W' ∧ Below n₀ W W') ∨ (e = .returned (.bool false) ∧ Jx (pre ++ [x]) W'))
  (W:World) (hc0:W.cell? (qa Bs 0) = some (.slice A len cap)) (hc:∀ b off,A = some (qa b off) → ∀ j,j < len * 7 → W.cell? (qa b (off + j)) = some (g j)) (h0:J [] W) :
  CallsIn F n Tryd.prog 53 #[.func (.yield l) #[] #[],.pointer (some (qa Bs 0))] W fun e W' => (∃ v,e = .returned v) ∧
   ((∃ ys,ys = dn len len (Nat.le_refl _) ∧ J ys W') ∨ (∃ pre,(∃ k h,pre = dn len k h) ∧ Jx pre W')):=by
 refine callsIn_of_wp Tryd.func53 rfl hF ?_ hro
 simp only [Tryd.ntmps53,List.size_toArray,List.length_cons,List.length_nil,Nat.reduceAdd,Nat.reduceSub,Array.replicate_succ,Array.replicate_zero,List.push_toArray,List.append_toArray,List.nil_append,List.cons_append]
 have xw:IntKind.i64.wrap ((len:Int) - 1) = (len:Int) - 1:=IntWalk.i64_in _ (by omega)
 gi_wp2
 gi_loopw [3] (fun t3 wr => ∃ (k:Nat) (i:Int) (hk:k ≤ len),t3 = .int .i64 i ∧ i + 1 + k = len ∧ J (dn len k hk) wr ∧ Below n₀ W wr) (fun t3 _ => (intOf t3 + 1).toNat)
 case atStart => exact ⟨0,(len:Int) - 1,Nat.zero_le _,rfl,by omega,h0,Below.refl _ _⟩
 case round =>
  obtain ⟨k,i,hk,rfl,hik,hJs,hnx⟩:=hrel
  have hb0:=(hnx.cell (p:=(qa Bs 0)) hBs).trans hc0
  by_cases hlt:k < len
  ·obtain ⟨m,rfl⟩:∃ m:Nat,i = m:=⟨i.toNat,by omega⟩
   have hml:m < len:=by omega
   obtain ⟨b,off,rfl,hb⟩:=hA (by omega)
   have hcx:∀ j,j < len * 7 → wr.cell? (qa b (off + j)) = some (g j):=fun j hj => (hnx.cell (p:=(qa b (off + j))) hb).trans (hc b off rfl j hj)
   have k0:=hcx (m * 7) (by omega)
   have k1:wr.cell? (qa b (off + m * 7 + 1)) = some (g (m * 7 + 1)):=by have h:=hcx (m * 7 + 1) (by omega);rw [← Nat.add_assoc] at h;exact h
   have k2:wr.cell? (qa b (off + m * 7 + 2)) = some (g (m * 7 + 2)):=by have h:=hcx (m * 7 + 2) (by omega);rw [← Nat.add_assoc] at h;exact h
   have k3:wr.cell? (qa b (off + m * 7 + 3)) = some (g (m * 7 + 3)):=by have h:=hcx (m * 7 + 3) (by omega);rw [← Nat.add_assoc] at h;exact h
   have k4:wr.cell? (qa b (off + m * 7 + 4)) = some (g (m * 7 + 4)):=by have h:=hcx (m * 7 + 4) (by omega);rw [← Nat.add_assoc] at h;exact h
   have k5:wr.cell? (qa b (off + m * 7 + 5)) = some (g (m * 7 + 5)):=by have h:=hcx (m * 7 + 5) (by omega);rw [← Nat.add_assoc] at h;exact h
   have k6:wr.cell? (qa b (off + m * 7 + 6)) = some (g (m * 7 + 6)):=by have h:=hcx (m * 7 + 6) (by omega);rw [← Nat.add_assoc] at h;exact h
   have m0:(0:Int) ≤ (m:Int):=by omega
   have m1:(m:Int) < (len:Int):=by omega
   have mw:IntKind.i64.wrap ((m:Int) - 1) = (m:Int) - 1:=IntWalk.i64_in _ (by omega)
   obtain ⟨fn,tmps,assign,body,hy,hR⟩:=hY _ ⟨m,hml⟩ wr hJs (by rw [dn_len];exact hlt)
   dsimp only at hy
   have HE:Hid (dn len k hk ++ [⟨m,hml⟩] = dn len (k + 1) hlt):=by
    show _ = _
    rw [dn]
    congr 2
    exact Subtype.ext (by show m = len - 1 - k;omega)
   clear hcx hJs
   gi_wp2
   refine hR.mono ?_
   rintro e W3 (⟨rfl,hJ3,hk3⟩ | ⟨rfl,hJx3⟩)
   ·gi_wp2
    go_roundw
    case rel => exact ⟨k + 1,(m:Int) - 1,hlt,by simp [mw],by omega,by rw [← HE.out];exact hJ3,hnx.trans hk3⟩
    case measure => simp [intOf,mw]
   ·gi_wp2
    refine bodyPost_ret (results_none rfl _ _ _) rfl ?_
    exact ⟨⟨_,rfl⟩,.inr ⟨_,⟨k + 1,hlt,HE.out⟩,hJx3⟩⟩
  ·obtain rfl:k = len:=by omega
   obtain rfl:i = -1:=by omega
   gi_wp2
   go_end0
   exact ⟨⟨_,rfl⟩,.inl ⟨_,rfl,hJs⟩⟩
def encC (len:Nat) (g:Nat → Value) (x:{j:Nat // j < len}):Array Value:=#[.int .i64 (x.1:Int),.agg #[g (x.1 * 7),g (x.1 * 7 + 1),g (x.1 * 7 + 2),g (x.1 * 7 + 3),g (x.1 * 7 + 4),g (x.1 * 7 + 5),g (x.1 * 7 + 6)]]
theorem back_stops (F:Fence) (n:Nat) (hF:F.fn 53) (hro:F.round = none) (hn:1 ≤ n) (Bs n₀ len cap:Nat) (A:Option Addr) (g:Nat → Value) (hreach:len ≤ 1000000) (hA:0 < len → ∃ b off,A = some (qa b off) ∧ b < n₀) (hBs:Bs < n₀) (w:World) (hn₀:n₀ ≤ w.heap.size)
  (hc0:w.cell? (qa Bs 0) = some (.slice A len cap)) (hc:∀ b off,A = some (qa b off) → ∀ j,j < len * 7 → w.cell? (qa b (off + j)) = some (g j)) :
  SeqStopsK F n Tryd.prog 53 #[.pointer (some (qa Bs 0))] (encC len g) (Below n₀) (fun ys => ys = dn len len (Nat.le_refl _)) (fun pre => ∃ k h,pre = dn len k h) len w:=fun l J Jx W hW _ _ hY h0 =>
 bw1_in F n hF hro hn l Bs n₀ len cap A g hreach hA hBs J Jx hY W ((hW.cell (p:=(qa Bs 0)) (Nat.lt_of_lt_of_le hBs hn₀)).trans hc0)
  (fun b off e j hj => (hW.cell (p:=(qa b (off + j))) (by
   obtain ⟨b',off',e',hb⟩:=hA (by omega)
   rw [e] at e'
   injection e' with e'
   injection e' with e1 _ _
   show b < _
   omega)).trans (hc b off e j hj)) h0
set_option maxHeartbeats 1000000 in
theorem back_in (F:Fence) (n:Nat) (hF:F.fn 39) (hro:F.round = none) (A:Option Addr) (len cap:Nat) (w:World) :
  CallsIn F n Tryd.prog 39 #[.slice A len cap] w fun e w' => e = .returned (.func (.func 53) #[] #[.pointer (some (qa w.heap.size 0))]) ∧ w' = w.alloc (.cells #[.slice A len cap] 26):=by
 refine callsIn_of_wp Tryd.func39 rfl hF ?_ hro
 simp only [Tryd.ntmps39,List.size_toArray,List.length_cons,List.length_nil,Nat.reduceAdd,Nat.reduceSub,Array.replicate_succ,Array.replicate_zero,List.push_toArray,List.append_toArray,List.nil_append,List.cons_append]
 gi_wp2
 go_ret
 exact ⟨rfl,rfl⟩
end Go.Proofs.YthbjehbpanhdoaaDoor
namespace Go.Proofs.YthbjehbpanhdoaaDoor
open Go.RowKit Go.PlainAid
set_option linter.unusedVariables false
set_option linter.unusedSimpArgs false
def KC (W2 W:World):Prop:=W2.heap.size ≤ W.heap.size ∧ ∀ (k:Nat) (cs:Array Value) (t:TypeId) (f:Nat × Nat),W2.heap[k]? = some (.cells cs t f) → W.heap[k]? = some (.cells cs t f)
theorem KC.refl (W:World):KC W W:=⟨Nat.le_refl _,fun _ _ _ _ h => h⟩
theorem KC.grown {W2 X Y:World} {row:Option Nat} (h:KC W2 X) (hg:X.grownBy Y row) (hr:∀ r,row = some r → ∃ o:Obj,X.heap[r]? = some o ∧ o.isCells = false):KC W2 Y:=
 ⟨Nat.le_trans h.1 hg.size,fun k cs t f hk => by
  have hx:=h.2 k cs t f hk
  refine (hg.block k (Array.getElem?_eq_some_iff.1 hx).1 (fun e => ?_)).trans hx
  obtain ⟨o,ho,hc⟩:=hr k e.symm
  rw [hx] at ho
  cases ho
  cases hc⟩
theorem KC.own {β:Type} (p:β → World → Prop):Own (fun s W => ∃ W2,KC W2 W ∧ p s W2):=fun s X Y row hs hg hr => by
 obtain ⟨W2,h1,h2⟩:=hs
 exact ⟨W2,h1.grown hg hr,h2⟩
theorem KC.blk {W2 W:World} (h:KC W2 W) {g:Nat} {t:TypeId} {cs:Array Value} (hb:Blk W2 g t cs):Blk W g t cs:=h.2 _ _ _ _ hb
theorem KC.cell {W2 W:World} (h:KC W2 W) {p:Addr} {v:Value} (hp:W2.cell? p = some v):W.cell? p = some v:=by
 have hb:∃ cs t f,W2.heap[p.block]? = some (.cells cs t f):=by
  unfold World.cell? at hp
  split at hp
  ·rename_i h1
   exact ⟨_,_,_,h1⟩
  ·cases hp
 obtain ⟨cs,t,f,hb⟩:=hb
 exact (World.cell?_of_block ((h.2 _ _ _ _ hb).trans hb.symm)).trans hp
theorem RS.kc {w w':World} (hk:KC w w') {S:Nat → Prop} {size n:Nat} {A:Option Addr} {xs:List Value} (h:RS w S size A n xs):RS w' S size A n xs:=
 ⟨h.1,fun hn => by
  obtain ⟨ad,e,hb,hc⟩:=h.2 hn
  exact ⟨ad,e,hb,fun j u hu => hk.cell (hc j u hu)⟩⟩
mutual
theorem NdIn.kc {w w':World} (hk:KC w w') {S:Nat → Prop}:∀ (n:Nd) (cs:List Value),NdIn w S n cs → NdIn w' S n cs
 | .mk k m t ks ns,cs,h => by
  unfold NdIn at h ⊢
  obtain ⟨A,ck,A2,c,xs,h1,h2,h3,h4,h5⟩:=h
  exact ⟨A,ck,A2,c,xs,h1,h2.kc hk,h3.kc hk,NdsIn.kc hk ns xs h4,h5⟩
theorem NdsIn.kc {w w':World} (hk:KC w w') {S:Nat → Prop}:∀ (ns:List Nd) (xs:List Value),NdsIn w S ns xs → NdsIn w' S ns xs
 | [],xs,h => by unfold NdsIn at h ⊢;exact h
 | n :: ns,xs,h => by
  unfold NdsIn at h ⊢
  obtain ⟨cs,ys,h1,h2,h3⟩:=h
  exact ⟨cs,ys,h1,NdIn.kc hk n cs h2,NdsIn.kc hk ns ys h3⟩
end
theorem keeps_below {B:Nat} {W W':World} (h:Below W.heap.size W W'):KeepsFrom B W W':=⟨h.size,fun k o _ hk _ => (h.block k (Array.getElem?_eq_some_iff.1 hk).1).trans hk⟩
end Go.Proofs.YthbjehbpanhdoaaDoor
namespace Go.Proofs.YthbjehbpanhdoaaDoor
open Go.RowKit Go.PlainAid Go.Shelf
set_option linter.unusedVariables false
set_option linter.unusedSimpArgs false
attribute [local go_sem] Oper.semAt_some
def hitJ (idf nmf:Nat → ByteArray) (id nm:ByteArray) (j:Nat):Bool:=(idf j).toList == id.toList && (nmf j).toList == nm.toList
def CellsC (g:Nat → Value) (w:World) (B:Nat) (a:Nd) (nm id:ByteArray) (j:Nat):Prop:=∃ (x0 x1:Int) (x2:ByteArray) (x3:Option Addr) (x4 x5:Nat) (x6:Option Addr) (x7 x8:Nat),NdIs w B a (nL x0 x1 x2 x3 x4 x5 x6 x7 x8) ∧
 g (j * 7) = .string nm ∧ g (j * 7 + 1) = .int .i64 x0 ∧ g (j * 7 + 2) = .int .i64 x1 ∧ g (j * 7 + 3) = .string x2 ∧ g (j * 7 + 4) = .slice x3 x4 x5 ∧ g (j * 7 + 5) = .slice x6 x7 x8 ∧ g (j * 7 + 6) = .string id
def PrP (pr:Option Nd × Int) (w:World) (e:Ending) (w':World):Prop:=∃ (c0 c1:Int) (c2:ByteArray) (c3:Option Addr) (c4 c5:Nat) (c6:Option Addr) (c7 c8:Nat),
 e = .returned (.tuple #[.agg (nA c0 c1 c2 c3 c4 c5 c6 c7 c8),.int .i64 pr.2]) ∧ NdIn w' (Since w w') (pr.1.getD (nd0 0)) (nL c0 c1 c2 c3 c4 c5 c6 c7 c8) ∧ Below w.heap.size w w'
def TxtP (r:Option ByteArray) (w:World) (e:Ending) (w':World):Prop:=e = .returned (.tuple #[.string (r.getD ⟨#[]⟩),.bool r.isSome]) ∧ Below w.heap.size w w'
def RfP (r:Option Nd) (w:World) (e:Ending) (w':World):Prop:=∃ (c0 c1:Int) (c2:ByteArray) (c3:Option Addr) (c4 c5:Nat) (c6:Option Addr) (c7 c8:Nat),
 e = .returned (.tuple #[.agg (nA c0 c1 c2 c3 c4 c5 c6 c7 c8),.bool r.isSome]) ∧ (∀ m,r = some m → NdIn w' (Since w w') m (nL c0 c1 c2 c3 c4 c5 c6 c7 c8)) ∧ Below w.heap.size w w'
def RQ {len:Nat} (w:World) (idf nmf:Nat → ByteArray) (id nm:ByteArray) (pr:Nat → Option Nd × Int) (c:Code) (pre:List {j:Nat // j < len}) (W2:World):Prop:=c = .ret ∧ ∃ (ini:List {j:Nat // j < len}) (x:{j:Nat // j < len}),pre = ini ++ [x] ∧ (∀ y ∈ ini,hitJ idf nmf id nm y.1 = false) ∧ hitJ idf nmf id nm x.1 = true ∧
 ∃ (c0 c1:Int) (c2:ByteArray) (c3:Option Addr) (c4 c5:Nat) (c6:Option Addr) (c7 c8:Nat),Blk W2 (w.heap.size + 1) 25 (nA c0 c1 c2 c3 c4 c5 c6 c7 c8) ∧ Blk W2 (w.heap.size + 1 + 1) 4 #[.bool ((pr x.1).2 == 0)] ∧
  NdIn W2 (fun b => w.heap.size ≤ b ∧ b < W2.heap.size) ((pr x.1).1.getD (nd0 0)) (nL c0 c1 c2 c3 c4 c5 c6 c7 c8)
set_option maxRecDepth 100000 in
set_option maxHeartbeats 1000000 in
theorem refer_walk (id nm pa:ByteArray) (x0 x1:Int) (x2:ByteArray) (x3:Option Addr) (x4 x5:Nat) (x6:Option Addr) (x8:Nat) (w:World) (len cap:Nat) (A:Option Addr) (g:Nat → Value) (idf nmf:Nat → ByteArray) (arf:Nat → Nd) (pr:Nat → Option Nd × Int) (R:Option Nd)
  (HT1:Hid (∀ w',Below w.heap.size w w' → Calls Tryd.prog 38 #[.agg (nA x0 x1 x2 x3 x4 x5 x6 3 x8),.string ⟨#[114,101,115,117,108,116,79,102]⟩] w' fun e w'' => e = .returned (.tuple #[.string id,.bool true]) ∧ Below w'.heap.size w' w''))
  (HT2:Hid (∀ w',Below w.heap.size w w' → Calls Tryd.prog 38 #[.agg (nA x0 x1 x2 x3 x4 x5 x6 3 x8),.string ⟨#[110,97,109,101]⟩] w' fun e w'' => e = .returned (.tuple #[.string nm,.bool true]) ∧ Below w'.heap.size w' w''))
  (HT3:Hid (∀ w',Below w.heap.size w w' → Calls Tryd.prog 38 #[.agg (nA x0 x1 x2 x3 x4 x5 x6 3 x8),.string ⟨#[112,97,116,104]⟩] w' fun e w'' => e = .returned (.tuple #[.string pa,.bool true]) ∧ Below w'.heap.size w' w''))
  (hlen:len ≤ 1000000) (HA:Hid (0 < len → ∃ b off,A = some (qa b off) ∧ b < w.heap.size)) (HC:Hid (∀ b off,A = some (qa b off) → ∀ j,j < len * 7 → w.cell? (qa b (off + j)) = some (g j)))
  (HCC:Hid (∀ j,j < len → CellsC g w w.heap.size (arf j) (nmf j) (idf j) j))
  (HG:Hid (∀ (j:Nat) (cs:List Value) (w':World),j < len → NdIs w' w.heap.size (arf j) cs → Below w.heap.size w w' → Calls Tryd.prog 40 #[.agg cs.toArray,.string pa] w' (PrP (pr j) w')))
  (HPI:Hid (∀ j,(pr j).1.isSome = ((pr j).2 == 0)))
  (HRn:Hid ((∀ j,j < len → hitJ idf nmf id nm j = false) → R = none)) (HRs:Hid (∀ i,i < len → hitJ idf nmf id nm i = true → (∀ j,i < j → j < len → hitJ idf nmf id nm j = false) → R = (pr i).1)) :
  Calls Tryd.prog 25 #[.agg (nA x0 x1 x2 x3 x4 x5 x6 3 x8),.slice A len cap] w (RfP R w):=by
 have HA0:Hid (Below w.heap.size w (((w.alloc (.cells (nA x0 x1 x2 x3 x4 x5 x6 3 x8) 25)).alloc (.cells Zn 25)).alloc (.cells #[.bool false] 4))):=(((Below.refl _ _).alloc (Nat.le_refl _) _).alloc (by simp) _).alloc (by simp;omega) _
 have X0:Hid (Blk (((w.alloc (.cells (nA x0 x1 x2 x3 x4 x5 x6 3 x8) 25)).alloc (.cells Zn 25)).alloc (.cells #[.bool false] 4)) w.heap.size 25 (nA x0 x1 x2 x3 x4 x5 x6 3 x8)):=((Blk.new w _ _).alloc _).alloc _
 have X4:Hid (Blk (((w.alloc (.cells (nA x0 x1 x2 x3 x4 x5 x6 3 x8) 25)).alloc (.cells Zn 25)).alloc (.cells #[.bool false] 4)) (w.heap.size + 1) 25 Zn):=by
  have h:=(Blk.new (w.alloc (.cells (nA x0 x1 x2 x3 x4 x5 x6 3 x8) 25)) 25 Zn).alloc (.cells #[.bool false] 4)
  rw [World.size_alloc] at h;exact h
 have X5:Hid (Blk (((w.alloc (.cells (nA x0 x1 x2 x3 x4 x5 x6 3 x8) 25)).alloc (.cells Zn 25)).alloc (.cells #[.bool false] 4)) (w.heap.size + 1 + 1) 4 #[.bool false]):=by
  have h:=Blk.new ((w.alloc (.cells (nA x0 x1 x2 x3 x4 x5 x6 3 x8) 25)).alloc (.cells Zn 25)) 4 #[.bool false]
  rw [World.size_alloc,World.size_alloc] at h;exact h
 refine (callsIn_wide (n:=8)).1 ?_
 refine callsIn_of_wp_marks Tryd.func25 rfl trivial ?_ rfl
 simp only [Tryd.ntmps25,List.size_toArray,List.length_cons,List.length_nil,Nat.reduceAdd,Nat.reduceSub,Array.replicate_succ,Array.replicate_zero,List.push_toArray,List.append_toArray,List.nil_append,List.cons_append]
 gi_wp2
 refine ⟨trivial,?_⟩
 refine (callsIn_wide.2 (HT1.out _ HA0.out)).mono ?_
 rintro e w1 ⟨rfl,hb⟩
 have hAL:Below w1.heap.size w1 (w1.alloc (.cells #[.string id] 9)):=(Below.refl _ _).alloc (Nat.le_refl _) _
 have HA1:=Lib.hid (nextB (nextB HA0.out hb) hAL)
 have hs1:=hb.size
 have Y0:=Lib.hid ((X0.out.below hb X0.out.lt).alloc (.cells #[.string id] 9))
 have Y4:=Lib.hid ((X4.out.below hb X4.out.lt).alloc (.cells #[.string id] 9))
 have Y5:=Lib.hid ((X5.out.below hb X5.out.lt).alloc (.cells #[.string id] 9))
 have Y6:=Lib.hid (Blk.new w1 9 #[.string id])
 simp only [World.size_alloc] at hs1
 clear HA0 X0 X4 X5 HT1 hb hAL
 obtain ⟨y0,y1,y2,y3,y4⟩:=Y0.out.cells5
 gi_wp2
 obtain ⟨b6,hb6⟩:∃ b6,b6 = w1.heap.size:=⟨_,rfl⟩
 rw [← hb6] at Y6 hs1 ⊢
 clear hb6 y0 y1 y2 y3 y4
 generalize w1.alloc (.cells #[.string id] 9) = W1 at *
 refine ⟨trivial,?_⟩
 refine (callsIn_wide.2 (HT2.out _ HA1.out)).mono ?_
 rintro e w2 ⟨rfl,hb⟩
 have hAL:Below w2.heap.size w2 (w2.alloc (.cells #[.string nm] 9)):=(Below.refl _ _).alloc (Nat.le_refl _) _
 have HA2:=Lib.hid (nextB (nextB HA1.out hb) hAL)
 have hs2:=hb.size
 have h6lt:=Y6.out.lt
 have Z0:=Lib.hid ((Y0.out.below hb Y0.out.lt).alloc (.cells #[.string nm] 9))
 have Z4:=Lib.hid ((Y4.out.below hb Y4.out.lt).alloc (.cells #[.string nm] 9))
 have Z5:=Lib.hid ((Y5.out.below hb Y5.out.lt).alloc (.cells #[.string nm] 9))
 have Z6:=Lib.hid ((Y6.out.below hb Y6.out.lt).alloc (.cells #[.string nm] 9))
 have Z8:=Lib.hid (Blk.new w2 9 #[.string nm])
 clear HA1 Y0 Y4 Y5 Y6 HT2 hb hAL
 obtain ⟨y0,y1,y2,y3,y4⟩:=Z0.out.cells5
 gi_wp2
 obtain ⟨b8,hb8⟩:∃ b8,b8 = w2.heap.size:=⟨_,rfl⟩
 rw [← hb8] at Z8 hs2 ⊢
 clear hb8 y0 y1 y2 y3 y4
 generalize w2.alloc (.cells #[.string nm] 9) = W2 at *
 refine ⟨trivial,?_⟩
 refine (callsIn_wide.2 (HT3.out _ HA2.out)).mono ?_
 rintro e w3 ⟨rfl,hb⟩
 have hAL:Below w3.heap.size w3 (w3.alloc (.cells #[.string pa] 9)):=(Below.refl _ _).alloc (Nat.le_refl _) _
 have HA3:=Lib.hid (nextB (nextB HA2.out hb) hAL)
 have hs3:=hb.size
 have h8lt:=Z8.out.lt
 have V0:=Lib.hid ((Z0.out.below hb Z0.out.lt).alloc (.cells #[.string pa] 9))
 have V4:=Lib.hid ((Z4.out.below hb Z4.out.lt).alloc (.cells #[.string pa] 9))
 have V5:=Lib.hid ((Z5.out.below hb Z5.out.lt).alloc (.cells #[.string pa] 9))
 have V6:=Lib.hid ((Z6.out.below hb Z6.out.lt).alloc (.cells #[.string pa] 9))
 have V8:=Lib.hid ((Z8.out.below hb Z8.out.lt).alloc (.cells #[.string pa] 9))
 have V10:=Lib.hid (Blk.new w3 9 #[.string pa])
 clear HA2 Z0 Z4 Z5 Z6 Z8 HT3 hb hAL
 obtain ⟨y0,y1,y2,y3,y4⟩:=V0.out.cells5
 gi_wp2
 refine ⟨trivial,?_⟩
 refine (back_in Fence.wide _ trivial rfl _ _ _ _).mono ?_
 rintro e w4 ⟨rfl,rfl⟩
 obtain ⟨b10,hb10⟩:∃ b10,b10 = w3.heap.size:=⟨_,rfl⟩
 rw [← hb10] at V10 hs3 ⊢
 clear hb10 y0 y1 y2 y3 y4 V0
 generalize w3.alloc (.cells #[.string pa] 9) = W3 at *
 gi_wp2
 have h10:=V10.out.lt
 have hA0:Below W3.heap.size W3 (W3.alloc (.cells #[.slice A len cap] 26)):=(Below.refl _ _).alloc (Nat.le_refl _) _
 have HB:=Lib.hid (nextB HA3.out hA0)
 have U4:=Lib.hid (V4.out.alloc (.cells #[.slice A len cap] 26))
 have U5:=Lib.hid (V5.out.alloc (.cells #[.slice A len cap] 26))
 have U6:=Lib.hid (V6.out.alloc (.cells #[.slice A len cap] 26))
 have U8:=Lib.hid (V8.out.alloc (.cells #[.slice A len cap] 26))
 have U10:=Lib.hid (V10.out.alloc (.cells #[.slice A len cap] 26))
 have U12:=Lib.hid (Blk.new W3 26 #[.slice A len cap])
 have hsz:(W3.alloc (.cells #[.slice A len cap] 26)).heap.size = W3.heap.size + 1:=by simp
 have hw3:=HA3.out.size
 obtain ⟨b12,hb12⟩:∃ b12,b12 = W3.heap.size:=⟨_,rfl⟩
 rw [← hb12] at U12 hsz h10 hw3 ⊢
 clear hA0 HA3 V4 V5 V6 V8 V10 hb12
 generalize W3.alloc (.cells #[.slice A len cap] 26) = W0 at *
 have hwW:w.heap.size ≤ W0.heap.size:=by omega
 refine wpIn_rangeFunc_ownH rfl (by omega) (gf:=53) (lb:=#[.pointer (some (qa b12 0))]) rfl trivial (enters_of Tryd.func53 (by kernel_rfl) rfl)
  (back_stops Fence.wide _ trivial rfl (by omega) b12 W0.heap.size len cap A g hlen (fun h => by obtain ⟨b,off,e,hb⟩:=HA.out h;exact ⟨b,off,e,by omega⟩) (by omega) W0 (Nat.le_refl _) (U12.out.cell 0) (fun b off e j hj => by
   have hbl:b < w.heap.size:=by
    obtain ⟨b',off',e',hb⟩:=HA.out (by omega)
    rw [e] at e'
    injection e' with e'
    injection e' with e1 _ _
    omega
   exact (HB.out.cell (p:=(qa b (off + j))) hbl).trans (HC.out b off e j hj))) belowK_t (belowK_b (Nat.le_refl _)) (Below.refl _ _) (fun _ => rfl)
  (fun pre W => (∀ x ∈ pre,hitJ idf nmf id nm x.1 = false) ∧ Below W0.heap.size W0 W)
  (fun c pre W => (∃ W2,KC W2 W ∧ RQ w idf nmf id nm pr c pre W2) ∧ Below w.heap.size w W)
  (OwnFrom.and (ownFrom_pure _ _) (ownFrom_below (Nat.le_refl _) (Nat.le_refl _)))
  (fun c => OwnFrom.and (Own.from (KC.own _) _) (ownFrom_below (Nat.le_refl _) hwW))
  ⟨by simp,Below.refl _ _⟩
  (fun x a' W => ∃ Bx,W0.heap.size ≤ Bx ∧ Blk W Bx 31 #[g (x.1 * 7),g (x.1 * 7 + 1),g (x.1 * 7 + 2),g (x.1 * 7 + 3),g (x.1 * 7 + 4),g (x.1 * 7 + 5),g (x.1 * 7 + 6)] ∧ a' = { tmps:=#[.agg (nA x0 x1 x2 x3 x4 x5 x6 3 x8),.slice A len cap,.pointer (some (qa w.heap.size 0)),undef,.pointer (some (qa (w.heap.size + 1) 0)),.pointer (some (qa (w.heap.size + 1 + 1) 0)),.pointer (some (qa b6 0)),.bool true,.pointer (some (qa b8 0)),.bool true,.pointer (some (qa b10 0)),.bool true,undef,.pointer (some (qa Bx 0)),undef,undef,.tuple #[.string id,.bool true],.agg (nA x0 x1 x2 x3 x4 x5 x6 3 x8),.tuple #[.string id,.bool true],.string id,.bool true,.tuple #[.string nm,.bool true],.agg (nA x0 x1 x2 x3 x4 x5 x6 3 x8),.tuple #[.string nm,.bool true],.string nm,.bool true,.tuple #[.string pa,.bool true],.agg (nA x0 x1 x2 x3 x4 x5 x6 3 x8),.tuple #[.string pa,.bool true],.string pa,.bool true,.bool true,.bool false,.bool false,.bool true,.bool false,.bool false,.bool false,.bool true,.bool false,.bool false,.bool false,.pointer (some (qa w.heap.size 4)),.slice x6 3 x8,.int .i64 3,.bool false,.bool false,undef,.slice A len cap,.func (.func 53) #[] #[.pointer (some (qa b12 0))],.int .i64 (x.1:Int),.agg #[g (x.1 * 7),g (x.1 * 7 + 1),g (x.1 * 7 + 2),g (x.1 * 7 + 3),g (x.1 * 7 + 4),g (x.1 * 7 + 5),g (x.1 * 7 + 6)],undef,undef,undef,undef,undef,undef,undef,undef,undef,undef,undef,undef,undef,undef,undef,undef,undef,undef,undef,undef,undef],defers:=[] })
  (fun x a' _ X Y row hs hg hr => by obtain ⟨Bx,e1,e2,e3⟩:=hs;exact ⟨Bx,e1,(KC.refl X).grown hg (fun r e => (hr r e).2) |>.blk e2,e3⟩)
  ?assign ?body ?done ?stop
 case assign =>
  rintro l pre x W K ⟨hp,hB1⟩ hK
  have hsW:=hB1.size
  obtain ⟨z0,z1,z2,z3,z4,z5,z6,z7,z8,hnd,e0,e1,e2,e3,e4,e5,e6⟩:=HCC.out x.1 x.2
  clear HB U4 U5 U6 U8 U10 U12 HA HC HCC HG HPI HRn HRs hnd
  simp only [encC,e0,e1,e2,e3,e4,e5,e6] at hK ⊢
  clear e0 e1 e2 e3 e4 e5 e6
  gi_wp2
  exact hK _ _ ((KeepsOthers.alloc _ _).from _) ((Below.refl _ W).alloc hB1.size _) ⟨hp,hB1.alloc hB1.size _⟩ ⟨W.heap.size,hsW,Blk.new W _ _,rfl⟩
 case body =>
  rintro l pre x a' W hl ⟨r,hr⟩ ⟨hp,hB1⟩ ⟨Bx,hBx,bX,rfl⟩ hlt
  have hsW:=hB1.size
  have HX4:=Lib.hid (U4.out.below hB1 U4.out.lt)
  have HX5:=Lib.hid (U5.out.below hB1 U5.out.lt)
  have k6:W.cell? (qa b6 0) = some (.string id):=(U6.out.below hB1 U6.out.lt).cell 0
  have k8:W.cell? (qa b8 0) = some (.string nm):=(U8.out.below hB1 U8.out.lt).cell 0
  have k10:W.cell? (qa b10 0) = some (.string pa):=(U10.out.below hB1 U10.out.lt).cell 0
  obtain ⟨z0,z1,z2,z3,z4,z5,z6,z7,z8,hnd,e0,e1,e2,e3,e4,e5,e6⟩:=HCC.out x.1 x.2
  have d0:W.cell? (qa Bx 0) = some (g (x.1 * 7)):=bX.cell 0
  have d1:W.cell? (qa Bx 1) = some (g (x.1 * 7 + 1)):=bX.cell 1
  have d2:W.cell? (qa Bx 2) = some (g (x.1 * 7 + 2)):=bX.cell 2
  have d3:W.cell? (qa Bx 3) = some (g (x.1 * 7 + 3)):=bX.cell 3
  have d4:W.cell? (qa Bx 4) = some (g (x.1 * 7 + 4)):=bX.cell 4
  have d5:W.cell? (qa Bx 5) = some (g (x.1 * 7 + 5)):=bX.cell 5
  have d6:W.cell? (qa Bx 6) = some (g (x.1 * 7 + 6)):=bX.cell 6
  rw [e0] at d0 ⊢;rw [e1] at d1 ⊢;rw [e2] at d2 ⊢;rw [e3] at d3 ⊢;rw [e4] at d4 ⊢;rw [e5] at d5 ⊢;rw [e6] at d6 ⊢
  have HPA:=Lib.hid (nextB HB.out hB1)
  have HPB:=Lib.hid hB1
  have HPR:=Lib.hid hp
  have HRG:=HG.out x.1 (nL z0 z1 z2 z3 z4 z5 z6 z7 z8) W x.2 (hnd.below HPA.out) HPA.out
  have HRG:=Lib.hid HRG
  clear e0 e1 e2 e3 e4 e5 e6 hnd bX HG HCC HC HA U4 U5 U6 U8 U10 U12 HRn HRs hr hlt HB hp hB1
  cases q1:((idf x.1).toList == id.toList) with
  | false =>
   have HQ:Hid (hitJ idf nmf id nm x.1 = false):=by show _ = _;unfold hitJ;rw [q1];rfl
   gi_wp2
   exact ⟨KeepsFrom.refl _ _,Below.refl _ _,⟨fun y hy => by rcases List.mem_append.1 hy with h | h;exact HPR.out y h;rw [List.mem_singleton.1 h];exact HQ.out,HPB.out⟩⟩
  | true =>
   cases q2:((nmf x.1).toList == nm.toList) with
   | false =>
    have HQ:Hid (hitJ idf nmf id nm x.1 = false):=by show _ = _;unfold hitJ;rw [q1,q2];rfl
    gi_wp2
    exact ⟨KeepsFrom.refl _ _,Below.refl _ _,⟨fun y hy => by rcases List.mem_append.1 hy with h | h;exact HPR.out y h;rw [List.mem_singleton.1 h];exact HQ.out,HPB.out⟩⟩
   | true =>
    have HQ:Hid (hitJ idf nmf id nm x.1 = true):=by show _ = _;unfold hitJ;rw [q1,q2];rfl
    gi_wp2
    refine ⟨trivial,?_⟩
    refine (CallsIn.inRound l (callsIn_wide.2 HRG.out)).mono ?_
    rintro e w6 ⟨c0,c1,c2,c3,c4,c5,c6,c7,c8,rfl,hn,hb⟩
    have hs6:=hb.size
    have HN:=Lib.hid hn
    have HBB:=Lib.hid hb
    have HK4:=Lib.hid ((HX4.out.below hb HX4.out.lt).alloc (.cells (nA c0 c1 c2 c3 c4 c5 c6 c7 c8) 25))
    have HK5:=Lib.hid ((HX5.out.below hb HX5.out.lt).alloc (.cells (nA c0 c1 c2 c3 c4 c5 c6 c7 c8) 25))
    have hx4:=HX4.out.lt
    have hx5:=HX5.out.lt
    obtain ⟨p0,p1,p2,p3,p4⟩:=HK4.out.cells5
    have f0:=HK4.out.frozen 0
    have f1:=HK4.out.frozen 1
    have f2:=HK4.out.frozen 2
    have f3:=HK4.out.frozen 3
    have f4:=HK4.out.frozen 4
    have p5:(w6.alloc (.cells (nA c0 c1 c2 c3 c4 c5 c6 c7 c8) 25)).cell? (qa (w.heap.size + 1 + 1) 0) = some (.bool false):=HK5.out.cell 0
    have f5:=HK5.out.frozen 0
    clear HRG hn hb HX4 HX5 k6 k8 k10 d0 d1 d2 d3 d4 d5 d6
    gi_wp2
    clear p0 p1 p2 p3 p4 p5 f0 f1 f2 f3 f4 f5
    have NF:NdIn (w6.alloc (.cells (nA c0 c1 c2 c3 c4 c5 c6 c7 c8) 25)) (fun b => W.heap.size ≤ b ∧ b < w6.heap.size) ((pr x.1).1.getD (nd0 0)) (nL c0 c1 c2 c3 c4 c5 c6 c7 c8):=NdIn.keep (fun p hp => World.cell?_alloc_lt _ _ _ hp.2) (fun _ h => h) _ _ HN.out
    refine ⟨?_,⟨_,KC.refl _,rfl,pre,x,rfl,HPR.out,HQ.out,c0,c1,c2,c3,c4,c5,c6,c7,c8,((((((HK4.out.set_ 0 _).set_ 1 _).set_ 2 _).set_ 3 _).set_ 4 _).far (by show w.heap.size + 1 ≠ w.heap.size + 1 + 1;omega) _),(((((((HK5.out.far (by show w.heap.size + 1 + 1 ≠ w.heap.size + 1;omega) _).far (by show w.heap.size + 1 + 1 ≠ w.heap.size + 1;omega) _).far (by show w.heap.size + 1 + 1 ≠ w.heap.size + 1;omega) _).far (by show w.heap.size + 1 + 1 ≠ w.heap.size + 1;omega) _).far (by show w.heap.size + 1 + 1 ≠ w.heap.size + 1;omega) _).set_ 0 _)),?_⟩,?_⟩
    ·exact ((keeps_below HBB.out).trans ((KeepsOthers.alloc _ _).from _)).trans ((((((((KeepsOthers.setCell _ _ _).trans (KeepsOthers.setCell _ _ _)).trans (KeepsOthers.setCell _ _ _)).trans (KeepsOthers.setCell _ _ _)).trans (KeepsOthers.setCell _ _ _)).trans (KeepsOthers.setCell _ _ _)).from _))
    ·refine NdIn.keep (fun p hp => ?_) (fun b hb => ⟨by have:=hb.1;omega,by have:=hb.2;simp;omega⟩) _ _ NF
     have h1:=hp.1
     have ne:∀ (g o:Nat),g < W.heap.size → ((qa g o):Addr) ≠ p:=fun g o hg e => by subst e;have h2:W.heap.size ≤ g:=h1;omega
     rw [World.cell?_setCell_other _ _ _ _ (ne _ _ hx5),World.cell?_setCell_other _ _ _ _ (ne _ _ hx4),World.cell?_setCell_other _ _ _ _ (ne _ _ hx4),World.cell?_setCell_other _ _ _ _ (ne _ _ hx4),World.cell?_setCell_other _ _ _ _ (ne _ _ hx4),World.cell?_setCell_other _ _ _ _ (ne _ _ hx4)]
    ·have B6:=(nextB HPA.out HBB.out).alloc (by omega) (.cells (nA c0 c1 c2 c3 c4 c5 c6 c7 c8) 25)
     exact (((((B6.setCell (p:=(qa (w.heap.size + 1) 0)) (by show w.heap.size ≤ w.heap.size + 1;omega) _).setCell (p:=(qa (w.heap.size + 1) 1)) (by show w.heap.size ≤ w.heap.size + 1;omega) _).setCell (p:=(qa (w.heap.size + 1) 2)) (by show w.heap.size ≤ w.heap.size + 1;omega) _).setCell (p:=(qa (w.heap.size + 1) 3)) (by show w.heap.size ≤ w.heap.size + 1;omega) _).setCell (p:=(qa (w.heap.size + 1) 4)) (by show w.heap.size ≤ w.heap.size + 1;omega) _).setCell (p:=(qa (w.heap.size + 1 + 1) 0)) (by show w.heap.size ≤ w.heap.size + 1 + 1;omega) _
 case done =>
  rintro D ys W hD rfl ⟨hp,hB1⟩ hK
  have hsW:=hB1.size
  have HX4:=Lib.hid (U4.out.below hB1 U4.out.lt)
  have HX5:=Lib.hid (U5.out.below hB1 U5.out.lt)
  have HBB:=Lib.hid (nextB HB.out hB1)
  have HRN:Hid (R = none):=HRn.out fun j hj => hp ⟨j,hj⟩ (dn_mem len len _ ⟨j,hj⟩ (by omega))
  have HKK:=Lib.hid hK
  have hx4:=HX4.out.lt
  have hx5:=HX5.out.lt
  obtain ⟨p0,p1,p2,p3,p4⟩:=HX4.out.cells5
  have f0:=HX4.out.frozen 0
  have f1:=HX4.out.frozen 1
  have f2:=HX4.out.frozen 2
  have f3:=HX4.out.frozen 3
  have f4:=HX4.out.frozen 4
  have p5:W.cell? (qa (w.heap.size + 1 + 1) 0) = some (.bool false):=HX5.out.cell 0
  have f5:=HX5.out.frozen 0
  clear U4 U5 U6 U8 U10 U12 HB hp hB1 HA HC HCC HG HPI HRn HRs hK
  gi_wp2
  clear p0 p1 p2 p3 p4 p5 f0 f1 f2 f3 f4 f5
  have HF4:=Lib.hid ((((((HX4.out.set_ 0 (.int .i64 0)).set_ 1 (.int .i64 0)).set_ 2 (.string ⟨#[]⟩)).set_ 3 (.slice none 0 0)).set_ 4 (.slice none 0 0)).far (p:=(qa (w.heap.size + 1 + 1) 0)) (by show w.heap.size + 1 ≠ w.heap.size + 1 + 1;omega) (.bool false))
  have HF5:=Lib.hid ((((((HX5.out.far (p:=(qa (w.heap.size + 1) 0)) (by show w.heap.size + 1 + 1 ≠ w.heap.size + 1;omega) (.int .i64 0)).far (p:=(qa (w.heap.size + 1) 1)) (by show w.heap.size + 1 + 1 ≠ w.heap.size + 1;omega) (.int .i64 0)).far (p:=(qa (w.heap.size + 1) 2)) (by show w.heap.size + 1 + 1 ≠ w.heap.size + 1;omega) (.string ⟨#[]⟩)).far (p:=(qa (w.heap.size + 1) 3)) (by show w.heap.size + 1 + 1 ≠ w.heap.size + 1;omega) (.slice none 0 0)).far (p:=(qa (w.heap.size + 1) 4)) (by show w.heap.size + 1 + 1 ≠ w.heap.size + 1;omega) (.slice none 0 0)).set_ 0 (.bool false))
  have HFB:=Lib.hid ((((((HBB.out.setCell (p:=(qa (w.heap.size + 1) 0)) (by show w.heap.size ≤ w.heap.size + 1;omega) (.int .i64 0)).setCell (p:=(qa (w.heap.size + 1) 1)) (by show w.heap.size ≤ w.heap.size + 1;omega) (.int .i64 0)).setCell (p:=(qa (w.heap.size + 1) 2)) (by show w.heap.size ≤ w.heap.size + 1;omega) (.string ⟨#[]⟩)).setCell (p:=(qa (w.heap.size + 1) 3)) (by show w.heap.size ≤ w.heap.size + 1;omega) (.slice none 0 0)).setCell (p:=(qa (w.heap.size + 1) 4)) (by show w.heap.size ≤ w.heap.size + 1;omega) (.slice none 0 0)).setCell (p:=(qa (w.heap.size + 1 + 1) 0)) (by show w.heap.size ≤ w.heap.size + 1 + 1;omega) (.bool false))
  have HK6:=Lib.hid (((((((KeepsOthers.setCell W (qa (w.heap.size + 1) 0) (.int .i64 0)).trans (KeepsOthers.setCell _ (qa (w.heap.size + 1) 1) (.int .i64 0))).trans (KeepsOthers.setCell _ (qa (w.heap.size + 1) 2) (.string ⟨#[]⟩))).trans (KeepsOthers.setCell _ (qa (w.heap.size + 1) 3) (.slice none 0 0))).trans (KeepsOthers.setCell _ (qa (w.heap.size + 1) 4) (.slice none 0 0))).trans (KeepsOthers.setCell _ (qa (w.heap.size + 1 + 1) 0) (.bool false))).same D _ HKK.out rfl)
  generalize ((((((W.setCell (qa (w.heap.size + 1) 0) (.int .i64 0)).setCell (qa (w.heap.size + 1) 1) (.int .i64 0)).setCell (qa (w.heap.size + 1) 2) (.string ⟨#[]⟩)).setCell (qa (w.heap.size + 1) 3) (.slice none 0 0)).setCell (qa (w.heap.size + 1) 4) (.slice none 0 0)).setCell (qa (w.heap.size + 1 + 1) 0) (.bool false)) = WF at *
  refine ⟨by simp,.inl ⟨_,_,rfl,run_takeDeferred HK6.out,?_⟩⟩
  have hkc:KC WF (WF.putObj D (.deferred none)):=(KC.refl WF).grown (grownBy_putObj' WF D (.deferred none)) (fun r e => by cases e;exact ⟨_,HK6.out,rfl⟩)
  obtain ⟨q0,q1,q2,q3,q4⟩:=(hkc.blk HF4.out).cells5
  have q5:(WF.putObj D (.deferred none)).cell? (qa (w.heap.size + 1 + 1) 0) = some (.bool false):=(hkc.blk HF5.out).cell 0
  refine ⟨.tuple #[.agg Zn,.bool false],by simp [results,Tryd.f25,go_sem,q0,q1,q2,q3,q4,q5],?_⟩
  rw [HRN.out]
  exact ⟨_,_,_,_,_,_,_,_,_,rfl,(fun m hm => by cases hm),HFB.out.trans (belowK_b (w:=W0) hwW _ D _ _ hD HK6.out rfl rfl)⟩
 case stop =>
  rintro D c pre W hD ⟨k,hk,hpre⟩ ⟨⟨W2,hKC,hRQ⟩,hB⟩ hK
  obtain ⟨rfl,ini,x,e1,e2,e3,c0,c1,c2,c3,c4,c5,c6,c7,c8,g4,g5,gn⟩:=hRQ
  have HRS:Hid (R = (pr x.1).1):=HRs.out x.1 x.2 e3 (fun j hj hjl => by
   rw [hpre] at e1
   cases k with
   | zero => simp [dn] at e1
   | succ k =>
    rw [dn] at e1
    obtain ⟨e4,e5⟩:=List.append_inj' e1 rfl
    have e6:(⟨len - 1 - k,by omega⟩:{j:Nat // j < len}) = x:=by simpa using e5
    rw [← e6] at hj
    exact e2 ⟨j,hjl⟩ (by rw [← e4];exact dn_mem len k _ ⟨j,hjl⟩ (by show len - k ≤ j;have:len - 1 - k < j:=hj;omega)))
  have HPI2:=HPI.out x.1
  have HW2:=Lib.hid hKC
  have HG4:=Lib.hid g4
  have HG5:=Lib.hid g5
  have HGN:=Lib.hid gn
  have HBB:=Lib.hid hB
  have HKK:=Lib.hid hK
  clear U4 U5 U6 U8 U10 U12 HB HA HC HCC HG HPI HRn HRs hK g4 g5 gn hB hKC e1 e2 e3 hpre
  gi_wp2
  refine ⟨by simp,.inl ⟨_,_,rfl,run_takeDeferred HKK.out,?_⟩⟩
  have hkc:KC W2 (W.putObj D (.deferred none)):=HW2.out.grown (grownBy_putObj' W D (.deferred none)) (fun r e => by cases e;exact ⟨_,HKK.out,rfl⟩)
  obtain ⟨q0,q1,q2,q3,q4⟩:=(hkc.blk HG4.out).cells5
  have q5:(W.putObj D (.deferred none)).cell? (qa (w.heap.size + 1 + 1) 0) = some (.bool ((pr x.1).2 == 0)):=(hkc.blk HG5.out).cell 0
  refine ⟨.tuple #[.agg (nA c0 c1 c2 c3 c4 c5 c6 c7 c8),.bool ((pr x.1).2 == 0)],by simp [results,Tryd.f25,go_sem,q0,q1,q2,q3,q4,q5],?_⟩
  rw [HRS.out]
  refine ⟨_,_,_,_,_,_,_,_,_,by rw [HPI2],(fun m hm => ?_),HBB.out.trans (belowK_b (w:=W0) hwW _ D _ _ hD HKK.out rfl rfl)⟩
  have h:=HGN.out
  rw [hm] at h
  exact NdIn.keep (fun _ _ => rfl) (fun b hb => ⟨hb.1,Nat.lt_of_lt_of_le hb.2 hkc.1⟩) _ _ (NdIn.kc hkc _ _ h)
end Go.Proofs.YthbjehbpanhdoaaDoor
namespace Go.Proofs.YthbjehbpanhdoaaDoor
open Go.RowKit Go.PlainAid
set_option linter.unusedVariables false
set_option linter.unusedSimpArgs false
set_option maxRecDepth 100000 in
set_option maxHeartbeats 1000000 in
theorem refer_no1 (s1 s2 s3:ByteArray) (g2 g3:Bool) (x0 x1:Int) (x2:ByteArray) (x3:Option Addr) (x4 x5:Nat) (x6:Option Addr) (x7 x8:Nat) (w:World) (len cap:Nat) (A:Option Addr)
  (HT1:Hid (∀ w',Below w.heap.size w w' → Calls Tryd.prog 38 #[.agg (nA x0 x1 x2 x3 x4 x5 x6 x7 x8),.string ⟨#[114,101,115,117,108,116,79,102]⟩] w' fun e w'' => e = .returned (.tuple #[.string ⟨#[]⟩,.bool false]) ∧ Below w'.heap.size w' w''))
  (HT2:Hid (∀ w',Below w.heap.size w w' → Calls Tryd.prog 38 #[.agg (nA x0 x1 x2 x3 x4 x5 x6 x7 x8),.string ⟨#[110,97,109,101]⟩] w' fun e w'' => e = .returned (.tuple #[.string s2,.bool g2]) ∧ Below w'.heap.size w' w''))
  (HT3:Hid (∀ w',Below w.heap.size w w' → Calls Tryd.prog 38 #[.agg (nA x0 x1 x2 x3 x4 x5 x6 x7 x8),.string ⟨#[112,97,116,104]⟩] w' fun e w'' => e = .returned (.tuple #[.string s3,.bool g3]) ∧ Below w'.heap.size w' w'')) :
  Calls Tryd.prog 25 #[.agg (nA x0 x1 x2 x3 x4 x5 x6 x7 x8),.slice A len cap] w (RfP none w):=by
 have HA0:Hid (Below w.heap.size w (((w.alloc (.cells (nA x0 x1 x2 x3 x4 x5 x6 x7 x8) 25)).alloc (.cells Zn 25)).alloc (.cells #[.bool false] 4))):=(((Below.refl _ _).alloc (Nat.le_refl _) _).alloc (by simp) _).alloc (by simp;omega) _
 have X0:Hid (Blk (((w.alloc (.cells (nA x0 x1 x2 x3 x4 x5 x6 x7 x8) 25)).alloc (.cells Zn 25)).alloc (.cells #[.bool false] 4)) w.heap.size 25 (nA x0 x1 x2 x3 x4 x5 x6 x7 x8)):=((Blk.new w _ _).alloc _).alloc _
 have X4:Hid (Blk (((w.alloc (.cells (nA x0 x1 x2 x3 x4 x5 x6 x7 x8) 25)).alloc (.cells Zn 25)).alloc (.cells #[.bool false] 4)) (w.heap.size + 1) 25 Zn):=by
  have h:=(Blk.new (w.alloc (.cells (nA x0 x1 x2 x3 x4 x5 x6 x7 x8) 25)) 25 Zn).alloc (.cells #[.bool false] 4)
  rw [World.size_alloc] at h;exact h
 have X5:Hid (Blk (((w.alloc (.cells (nA x0 x1 x2 x3 x4 x5 x6 x7 x8) 25)).alloc (.cells Zn 25)).alloc (.cells #[.bool false] 4)) (w.heap.size + 1 + 1) 4 #[.bool false]):=by
  have h:=Blk.new ((w.alloc (.cells (nA x0 x1 x2 x3 x4 x5 x6 x7 x8) 25)).alloc (.cells Zn 25)) 4 #[.bool false]
  rw [World.size_alloc,World.size_alloc] at h;exact h
 go_enter Tryd.func25,Tryd.ntmps25
 go_wp2_with fail
 refine (HT1.out _ HA0.out:Calls _ _ _ _ _).mono ?_
 rintro e w1 ⟨rfl,hb⟩
 have hAL:Below w1.heap.size w1 (w1.alloc (.cells #[.string ⟨#[]⟩] 9)):=(Below.refl _ _).alloc (Nat.le_refl _) _
 have HA1:=Lib.hid (nextB (nextB HA0.out hb) hAL)
 have Y0:=Lib.hid ((X0.out.below hb X0.out.lt).alloc (.cells #[.string ⟨#[]⟩] 9))
 have Y4:=Lib.hid ((X4.out.below hb X4.out.lt).alloc (.cells #[.string ⟨#[]⟩] 9))
 have Y5:=Lib.hid ((X5.out.below hb X5.out.lt).alloc (.cells #[.string ⟨#[]⟩] 9))
 clear HA0 X0 X4 X5 HT1 hb hAL
 obtain ⟨y0,y1,y2,y3,y4⟩:=Y0.out.cells5
 go_wp2_with fail
 clear y0 y1 y2 y3 y4
 generalize w1.alloc (.cells #[.string ⟨#[]⟩] 9) = W1 at *
 refine (HT2.out _ HA1.out:Calls _ _ _ _ _).mono ?_
 rintro e w2 ⟨rfl,hb⟩
 have hAL:Below w2.heap.size w2 (w2.alloc (.cells #[.string s2] 9)):=(Below.refl _ _).alloc (Nat.le_refl _) _
 have HA2:=Lib.hid (nextB (nextB HA1.out hb) hAL)
 have Z0:=Lib.hid ((Y0.out.below hb Y0.out.lt).alloc (.cells #[.string s2] 9))
 have Z4:=Lib.hid ((Y4.out.below hb Y4.out.lt).alloc (.cells #[.string s2] 9))
 have Z5:=Lib.hid ((Y5.out.below hb Y5.out.lt).alloc (.cells #[.string s2] 9))
 clear HA1 Y0 Y4 Y5 HT2 hb hAL
 obtain ⟨y0,y1,y2,y3,y4⟩:=Z0.out.cells5
 go_wp2_with fail
 clear y0 y1 y2 y3 y4
 generalize w2.alloc (.cells #[.string s2] 9) = W2 at *
 refine (HT3.out _ HA2.out:Calls _ _ _ _ _).mono ?_
 rintro e w3 ⟨rfl,hb⟩
 have hAL:Below w3.heap.size w3 (w3.alloc (.cells #[.string s3] 9)):=(Below.refl _ _).alloc (Nat.le_refl _) _
 have HA3:=Lib.hid (nextB (nextB HA2.out hb) hAL)
 have V0:=Lib.hid ((Z0.out.below hb Z0.out.lt).alloc (.cells #[.string s3] 9))
 have V4:=Lib.hid ((Z4.out.below hb Z4.out.lt).alloc (.cells #[.string s3] 9))
 have V5:=Lib.hid ((Z5.out.below hb Z5.out.lt).alloc (.cells #[.string s3] 9))
 clear HA2 Z0 Z4 Z5 HT3 hb hAL
 obtain ⟨y0,y1,y2,y3,y4⟩:=V0.out.cells5
 obtain ⟨p0,p1,p2,p3,p4⟩:=V4.out.cells5
 have f0:=V4.out.frozen 0
 have f1:=V4.out.frozen 1
 have f2:=V4.out.frozen 2
 have f3:=V4.out.frozen 3
 have f4:=V4.out.frozen 4
 have p5:(w3.alloc (.cells #[.string s3] 9)).cell? (qa (w.heap.size + 1 + 1) 0) = some (.bool false):=V5.out.cell 0
 have f5:=V5.out.frozen 0
 go_wp2_with fail
 clear p0 p1 p2 p3 p4 p5 f0 f1 f2 f3 f4 f5 y0 y1 y2 y3 y4
 have HF4:=Lib.hid ((((((V4.out.set_ 0 (.int .i64 0)).set_ 1 (.int .i64 0)).set_ 2 (.string ⟨#[]⟩)).set_ 3 (.slice none 0 0)).set_ 4 (.slice none 0 0)).far (p:=(qa (w.heap.size + 1 + 1) 0)) (by show w.heap.size + 1 ≠ w.heap.size + 1 + 1;omega) (.bool false))
 have HF5:=Lib.hid ((((((V5.out.far (p:=(qa (w.heap.size + 1) 0)) (by show w.heap.size + 1 + 1 ≠ w.heap.size + 1;omega) (.int .i64 0)).far (p:=(qa (w.heap.size + 1) 1)) (by show w.heap.size + 1 + 1 ≠ w.heap.size + 1;omega) (.int .i64 0)).far (p:=(qa (w.heap.size + 1) 2)) (by show w.heap.size + 1 + 1 ≠ w.heap.size + 1;omega) (.string ⟨#[]⟩)).far (p:=(qa (w.heap.size + 1) 3)) (by show w.heap.size + 1 + 1 ≠ w.heap.size + 1;omega) (.slice none 0 0)).far (p:=(qa (w.heap.size + 1) 4)) (by show w.heap.size + 1 + 1 ≠ w.heap.size + 1;omega) (.slice none 0 0)).set_ 0 (.bool false))
 have HFB:=Lib.hid ((((((HA3.out.setCell (p:=(qa (w.heap.size + 1) 0)) (by show w.heap.size ≤ w.heap.size + 1;omega) (.int .i64 0)).setCell (p:=(qa (w.heap.size + 1) 1)) (by show w.heap.size ≤ w.heap.size + 1;omega) (.int .i64 0)).setCell (p:=(qa (w.heap.size + 1) 2)) (by show w.heap.size ≤ w.heap.size + 1;omega) (.string ⟨#[]⟩)).setCell (p:=(qa (w.heap.size + 1) 3)) (by show w.heap.size ≤ w.heap.size + 1;omega) (.slice none 0 0)).setCell (p:=(qa (w.heap.size + 1) 4)) (by show w.heap.size ≤ w.heap.size + 1;omega) (.slice none 0 0)).setCell (p:=(qa (w.heap.size + 1 + 1) 0)) (by show w.heap.size ≤ w.heap.size + 1 + 1;omega) (.bool false))
 generalize (((((((w3.alloc (.cells #[.string s3] 9)).setCell (qa (w.heap.size + 1) 0) (.int .i64 0)).setCell (qa (w.heap.size + 1) 1) (.int .i64 0)).setCell (qa (w.heap.size + 1) 2) (.string ⟨#[]⟩)).setCell (qa (w.heap.size + 1) 3) (.slice none 0 0)).setCell (qa (w.heap.size + 1) 4) (.slice none 0 0)).setCell (qa (w.heap.size + 1 + 1) 0) (.bool false)) = WF at *
 obtain ⟨q0,q1,q2,q3,q4⟩:=HF4.out.cells5
 have q5:WF.cell? (qa (w.heap.size + 1 + 1) 0) = some (.bool false):=HF5.out.cell 0
 refine bodyPost_ret (v:=.tuple #[.agg Zn,.bool false]) (by simp [results,Tryd.results25,go_sem,q0,q1,q2,q3,q4,q5]) rfl ?_
 exact ⟨_,_,_,_,_,_,_,_,_,rfl,(fun m hm => by cases hm),HFB.out⟩
set_option maxRecDepth 100000 in
set_option maxHeartbeats 1000000 in
theorem refer_no2 (s1 s2 s3:ByteArray) (g2 g3:Bool) (x0 x1:Int) (x2:ByteArray) (x3:Option Addr) (x4 x5:Nat) (x6:Option Addr) (x7 x8:Nat) (w:World) (len cap:Nat) (A:Option Addr)
  (HT1:Hid (∀ w',Below w.heap.size w w' → Calls Tryd.prog 38 #[.agg (nA x0 x1 x2 x3 x4 x5 x6 x7 x8),.string ⟨#[114,101,115,117,108,116,79,102]⟩] w' fun e w'' => e = .returned (.tuple #[.string s1,.bool true]) ∧ Below w'.heap.size w' w''))
  (HT2:Hid (∀ w',Below w.heap.size w w' → Calls Tryd.prog 38 #[.agg (nA x0 x1 x2 x3 x4 x5 x6 x7 x8),.string ⟨#[110,97,109,101]⟩] w' fun e w'' => e = .returned (.tuple #[.string ⟨#[]⟩,.bool false]) ∧ Below w'.heap.size w' w''))
  (HT3:Hid (∀ w',Below w.heap.size w w' → Calls Tryd.prog 38 #[.agg (nA x0 x1 x2 x3 x4 x5 x6 x7 x8),.string ⟨#[112,97,116,104]⟩] w' fun e w'' => e = .returned (.tuple #[.string s3,.bool g3]) ∧ Below w'.heap.size w' w'')) :
  Calls Tryd.prog 25 #[.agg (nA x0 x1 x2 x3 x4 x5 x6 x7 x8),.slice A len cap] w (RfP none w):=by
 have HA0:Hid (Below w.heap.size w (((w.alloc (.cells (nA x0 x1 x2 x3 x4 x5 x6 x7 x8) 25)).alloc (.cells Zn 25)).alloc (.cells #[.bool false] 4))):=(((Below.refl _ _).alloc (Nat.le_refl _) _).alloc (by simp) _).alloc (by simp;omega) _
 have X0:Hid (Blk (((w.alloc (.cells (nA x0 x1 x2 x3 x4 x5 x6 x7 x8) 25)).alloc (.cells Zn 25)).alloc (.cells #[.bool false] 4)) w.heap.size 25 (nA x0 x1 x2 x3 x4 x5 x6 x7 x8)):=((Blk.new w _ _).alloc _).alloc _
 have X4:Hid (Blk (((w.alloc (.cells (nA x0 x1 x2 x3 x4 x5 x6 x7 x8) 25)).alloc (.cells Zn 25)).alloc (.cells #[.bool false] 4)) (w.heap.size + 1) 25 Zn):=by
  have h:=(Blk.new (w.alloc (.cells (nA x0 x1 x2 x3 x4 x5 x6 x7 x8) 25)) 25 Zn).alloc (.cells #[.bool false] 4)
  rw [World.size_alloc] at h;exact h
 have X5:Hid (Blk (((w.alloc (.cells (nA x0 x1 x2 x3 x4 x5 x6 x7 x8) 25)).alloc (.cells Zn 25)).alloc (.cells #[.bool false] 4)) (w.heap.size + 1 + 1) 4 #[.bool false]):=by
  have h:=Blk.new ((w.alloc (.cells (nA x0 x1 x2 x3 x4 x5 x6 x7 x8) 25)).alloc (.cells Zn 25)) 4 #[.bool false]
  rw [World.size_alloc,World.size_alloc] at h;exact h
 go_enter Tryd.func25,Tryd.ntmps25
 go_wp2_with fail
 refine (HT1.out _ HA0.out:Calls _ _ _ _ _).mono ?_
 rintro e w1 ⟨rfl,hb⟩
 have hAL:Below w1.heap.size w1 (w1.alloc (.cells #[.string s1] 9)):=(Below.refl _ _).alloc (Nat.le_refl _) _
 have HA1:=Lib.hid (nextB (nextB HA0.out hb) hAL)
 have Y0:=Lib.hid ((X0.out.below hb X0.out.lt).alloc (.cells #[.string s1] 9))
 have Y4:=Lib.hid ((X4.out.below hb X4.out.lt).alloc (.cells #[.string s1] 9))
 have Y5:=Lib.hid ((X5.out.below hb X5.out.lt).alloc (.cells #[.string s1] 9))
 clear HA0 X0 X4 X5 HT1 hb hAL
 obtain ⟨y0,y1,y2,y3,y4⟩:=Y0.out.cells5
 go_wp2_with fail
 clear y0 y1 y2 y3 y4
 generalize w1.alloc (.cells #[.string s1] 9) = W1 at *
 refine (HT2.out _ HA1.out:Calls _ _ _ _ _).mono ?_
 rintro e w2 ⟨rfl,hb⟩
 have hAL:Below w2.heap.size w2 (w2.alloc (.cells #[.string ⟨#[]⟩] 9)):=(Below.refl _ _).alloc (Nat.le_refl _) _
 have HA2:=Lib.hid (nextB (nextB HA1.out hb) hAL)
 have Z0:=Lib.hid ((Y0.out.below hb Y0.out.lt).alloc (.cells #[.string ⟨#[]⟩] 9))
 have Z4:=Lib.hid ((Y4.out.below hb Y4.out.lt).alloc (.cells #[.string ⟨#[]⟩] 9))
 have Z5:=Lib.hid ((Y5.out.below hb Y5.out.lt).alloc (.cells #[.string ⟨#[]⟩] 9))
 clear HA1 Y0 Y4 Y5 HT2 hb hAL
 obtain ⟨y0,y1,y2,y3,y4⟩:=Z0.out.cells5
 go_wp2_with fail
 clear y0 y1 y2 y3 y4
 generalize w2.alloc (.cells #[.string ⟨#[]⟩] 9) = W2 at *
 refine (HT3.out _ HA2.out:Calls _ _ _ _ _).mono ?_
 rintro e w3 ⟨rfl,hb⟩
 have hAL:Below w3.heap.size w3 (w3.alloc (.cells #[.string s3] 9)):=(Below.refl _ _).alloc (Nat.le_refl _) _
 have HA3:=Lib.hid (nextB (nextB HA2.out hb) hAL)
 have V0:=Lib.hid ((Z0.out.below hb Z0.out.lt).alloc (.cells #[.string s3] 9))
 have V4:=Lib.hid ((Z4.out.below hb Z4.out.lt).alloc (.cells #[.string s3] 9))
 have V5:=Lib.hid ((Z5.out.below hb Z5.out.lt).alloc (.cells #[.string s3] 9))
 clear HA2 Z0 Z4 Z5 HT3 hb hAL
 obtain ⟨y0,y1,y2,y3,y4⟩:=V0.out.cells5
 obtain ⟨p0,p1,p2,p3,p4⟩:=V4.out.cells5
 have f0:=V4.out.frozen 0
 have f1:=V4.out.frozen 1
 have f2:=V4.out.frozen 2
 have f3:=V4.out.frozen 3
 have f4:=V4.out.frozen 4
 have p5:(w3.alloc (.cells #[.string s3] 9)).cell? (qa (w.heap.size + 1 + 1) 0) = some (.bool false):=V5.out.cell 0
 have f5:=V5.out.frozen 0
 go_wp2_with fail
 clear p0 p1 p2 p3 p4 p5 f0 f1 f2 f3 f4 f5 y0 y1 y2 y3 y4
 have HF4:=Lib.hid ((((((V4.out.set_ 0 (.int .i64 0)).set_ 1 (.int .i64 0)).set_ 2 (.string ⟨#[]⟩)).set_ 3 (.slice none 0 0)).set_ 4 (.slice none 0 0)).far (p:=(qa (w.heap.size + 1 + 1) 0)) (by show w.heap.size + 1 ≠ w.heap.size + 1 + 1;omega) (.bool false))
 have HF5:=Lib.hid ((((((V5.out.far (p:=(qa (w.heap.size + 1) 0)) (by show w.heap.size + 1 + 1 ≠ w.heap.size + 1;omega) (.int .i64 0)).far (p:=(qa (w.heap.size + 1) 1)) (by show w.heap.size + 1 + 1 ≠ w.heap.size + 1;omega) (.int .i64 0)).far (p:=(qa (w.heap.size + 1) 2)) (by show w.heap.size + 1 + 1 ≠ w.heap.size + 1;omega) (.string ⟨#[]⟩)).far (p:=(qa (w.heap.size + 1) 3)) (by show w.heap.size + 1 + 1 ≠ w.heap.size + 1;omega) (.slice none 0 0)).far (p:=(qa (w.heap.size + 1) 4)) (by show w.heap.size + 1 + 1 ≠ w.heap.size + 1;omega) (.slice none 0 0)).set_ 0 (.bool false))
 have HFB:=Lib.hid ((((((HA3.out.setCell (p:=(qa (w.heap.size + 1) 0)) (by show w.heap.size ≤ w.heap.size + 1;omega) (.int .i64 0)).setCell (p:=(qa (w.heap.size + 1) 1)) (by show w.heap.size ≤ w.heap.size + 1;omega) (.int .i64 0)).setCell (p:=(qa (w.heap.size + 1) 2)) (by show w.heap.size ≤ w.heap.size + 1;omega) (.string ⟨#[]⟩)).setCell (p:=(qa (w.heap.size + 1) 3)) (by show w.heap.size ≤ w.heap.size + 1;omega) (.slice none 0 0)).setCell (p:=(qa (w.heap.size + 1) 4)) (by show w.heap.size ≤ w.heap.size + 1;omega) (.slice none 0 0)).setCell (p:=(qa (w.heap.size + 1 + 1) 0)) (by show w.heap.size ≤ w.heap.size + 1 + 1;omega) (.bool false))
 generalize (((((((w3.alloc (.cells #[.string s3] 9)).setCell (qa (w.heap.size + 1) 0) (.int .i64 0)).setCell (qa (w.heap.size + 1) 1) (.int .i64 0)).setCell (qa (w.heap.size + 1) 2) (.string ⟨#[]⟩)).setCell (qa (w.heap.size + 1) 3) (.slice none 0 0)).setCell (qa (w.heap.size + 1) 4) (.slice none 0 0)).setCell (qa (w.heap.size + 1 + 1) 0) (.bool false)) = WF at *
 obtain ⟨q0,q1,q2,q3,q4⟩:=HF4.out.cells5
 have q5:WF.cell? (qa (w.heap.size + 1 + 1) 0) = some (.bool false):=HF5.out.cell 0
 refine bodyPost_ret (v:=.tuple #[.agg Zn,.bool false]) (by simp [results,Tryd.results25,go_sem,q0,q1,q2,q3,q4,q5]) rfl ?_
 exact ⟨_,_,_,_,_,_,_,_,_,rfl,(fun m hm => by cases hm),HFB.out⟩
set_option maxRecDepth 100000 in
set_option maxHeartbeats 1000000 in
theorem refer_no3 (s1 s2 s3:ByteArray) (g2 g3:Bool) (x0 x1:Int) (x2:ByteArray) (x3:Option Addr) (x4 x5:Nat) (x6:Option Addr) (x7 x8:Nat) (w:World) (len cap:Nat) (A:Option Addr)
  (HT1:Hid (∀ w',Below w.heap.size w w' → Calls Tryd.prog 38 #[.agg (nA x0 x1 x2 x3 x4 x5 x6 x7 x8),.string ⟨#[114,101,115,117,108,116,79,102]⟩] w' fun e w'' => e = .returned (.tuple #[.string s1,.bool true]) ∧ Below w'.heap.size w' w''))
  (HT2:Hid (∀ w',Below w.heap.size w w' → Calls Tryd.prog 38 #[.agg (nA x0 x1 x2 x3 x4 x5 x6 x7 x8),.string ⟨#[110,97,109,101]⟩] w' fun e w'' => e = .returned (.tuple #[.string s2,.bool true]) ∧ Below w'.heap.size w' w''))
  (HT3:Hid (∀ w',Below w.heap.size w w' → Calls Tryd.prog 38 #[.agg (nA x0 x1 x2 x3 x4 x5 x6 x7 x8),.string ⟨#[112,97,116,104]⟩] w' fun e w'' => e = .returned (.tuple #[.string ⟨#[]⟩,.bool false]) ∧ Below w'.heap.size w' w'')) :
  Calls Tryd.prog 25 #[.agg (nA x0 x1 x2 x3 x4 x5 x6 x7 x8),.slice A len cap] w (RfP none w):=by
 have HA0:Hid (Below w.heap.size w (((w.alloc (.cells (nA x0 x1 x2 x3 x4 x5 x6 x7 x8) 25)).alloc (.cells Zn 25)).alloc (.cells #[.bool false] 4))):=(((Below.refl _ _).alloc (Nat.le_refl _) _).alloc (by simp) _).alloc (by simp;omega) _
 have X0:Hid (Blk (((w.alloc (.cells (nA x0 x1 x2 x3 x4 x5 x6 x7 x8) 25)).alloc (.cells Zn 25)).alloc (.cells #[.bool false] 4)) w.heap.size 25 (nA x0 x1 x2 x3 x4 x5 x6 x7 x8)):=((Blk.new w _ _).alloc _).alloc _
 have X4:Hid (Blk (((w.alloc (.cells (nA x0 x1 x2 x3 x4 x5 x6 x7 x8) 25)).alloc (.cells Zn 25)).alloc (.cells #[.bool false] 4)) (w.heap.size + 1) 25 Zn):=by
  have h:=(Blk.new (w.alloc (.cells (nA x0 x1 x2 x3 x4 x5 x6 x7 x8) 25)) 25 Zn).alloc (.cells #[.bool false] 4)
  rw [World.size_alloc] at h;exact h
 have X5:Hid (Blk (((w.alloc (.cells (nA x0 x1 x2 x3 x4 x5 x6 x7 x8) 25)).alloc (.cells Zn 25)).alloc (.cells #[.bool false] 4)) (w.heap.size + 1 + 1) 4 #[.bool false]):=by
  have h:=Blk.new ((w.alloc (.cells (nA x0 x1 x2 x3 x4 x5 x6 x7 x8) 25)).alloc (.cells Zn 25)) 4 #[.bool false]
  rw [World.size_alloc,World.size_alloc] at h;exact h
 go_enter Tryd.func25,Tryd.ntmps25
 go_wp2_with fail
 refine (HT1.out _ HA0.out:Calls _ _ _ _ _).mono ?_
 rintro e w1 ⟨rfl,hb⟩
 have hAL:Below w1.heap.size w1 (w1.alloc (.cells #[.string s1] 9)):=(Below.refl _ _).alloc (Nat.le_refl _) _
 have HA1:=Lib.hid (nextB (nextB HA0.out hb) hAL)
 have Y0:=Lib.hid ((X0.out.below hb X0.out.lt).alloc (.cells #[.string s1] 9))
 have Y4:=Lib.hid ((X4.out.below hb X4.out.lt).alloc (.cells #[.string s1] 9))
 have Y5:=Lib.hid ((X5.out.below hb X5.out.lt).alloc (.cells #[.string s1] 9))
 clear HA0 X0 X4 X5 HT1 hb hAL
 obtain ⟨y0,y1,y2,y3,y4⟩:=Y0.out.cells5
 go_wp2_with fail
 clear y0 y1 y2 y3 y4
 generalize w1.alloc (.cells #[.string s1] 9) = W1 at *
 refine (HT2.out _ HA1.out:Calls _ _ _ _ _).mono ?_
 rintro e w2 ⟨rfl,hb⟩
 have hAL:Below w2.heap.size w2 (w2.alloc (.cells #[.string s2] 9)):=(Below.refl _ _).alloc (Nat.le_refl _) _
 have HA2:=Lib.hid (nextB (nextB HA1.out hb) hAL)
 have Z0:=Lib.hid ((Y0.out.below hb Y0.out.lt).alloc (.cells #[.string s2] 9))
 have Z4:=Lib.hid ((Y4.out.below hb Y4.out.lt).alloc (.cells #[.string s2] 9))
 have Z5:=Lib.hid ((Y5.out.below hb Y5.out.lt).alloc (.cells #[.string s2] 9))
 clear HA1 Y0 Y4 Y5 HT2 hb hAL
 obtain ⟨y0,y1,y2,y3,y4⟩:=Z0.out.cells5
 go_wp2_with fail
 clear y0 y1 y2 y3 y4
 generalize w2.alloc (.cells #[.string s2] 9) = W2 at *
 refine (HT3.out _ HA2.out:Calls _ _ _ _ _).mono ?_
 rintro e w3 ⟨rfl,hb⟩
 have hAL:Below w3.heap.size w3 (w3.alloc (.cells #[.string ⟨#[]⟩] 9)):=(Below.refl _ _).alloc (Nat.le_refl _) _
 have HA3:=Lib.hid (nextB (nextB HA2.out hb) hAL)
 have V0:=Lib.hid ((Z0.out.below hb Z0.out.lt).alloc (.cells #[.string ⟨#[]⟩] 9))
 have V4:=Lib.hid ((Z4.out.below hb Z4.out.lt).alloc (.cells #[.string ⟨#[]⟩] 9))
 have V5:=Lib.hid ((Z5.out.below hb Z5.out.lt).alloc (.cells #[.string ⟨#[]⟩] 9))
 clear HA2 Z0 Z4 Z5 HT3 hb hAL
 obtain ⟨y0,y1,y2,y3,y4⟩:=V0.out.cells5
 obtain ⟨p0,p1,p2,p3,p4⟩:=V4.out.cells5
 have f0:=V4.out.frozen 0
 have f1:=V4.out.frozen 1
 have f2:=V4.out.frozen 2
 have f3:=V4.out.frozen 3
 have f4:=V4.out.frozen 4
 have p5:(w3.alloc (.cells #[.string ⟨#[]⟩] 9)).cell? (qa (w.heap.size + 1 + 1) 0) = some (.bool false):=V5.out.cell 0
 have f5:=V5.out.frozen 0
 go_wp2_with fail
 clear p0 p1 p2 p3 p4 p5 f0 f1 f2 f3 f4 f5 y0 y1 y2 y3 y4
 have HF4:=Lib.hid ((((((V4.out.set_ 0 (.int .i64 0)).set_ 1 (.int .i64 0)).set_ 2 (.string ⟨#[]⟩)).set_ 3 (.slice none 0 0)).set_ 4 (.slice none 0 0)).far (p:=(qa (w.heap.size + 1 + 1) 0)) (by show w.heap.size + 1 ≠ w.heap.size + 1 + 1;omega) (.bool false))
 have HF5:=Lib.hid ((((((V5.out.far (p:=(qa (w.heap.size + 1) 0)) (by show w.heap.size + 1 + 1 ≠ w.heap.size + 1;omega) (.int .i64 0)).far (p:=(qa (w.heap.size + 1) 1)) (by show w.heap.size + 1 + 1 ≠ w.heap.size + 1;omega) (.int .i64 0)).far (p:=(qa (w.heap.size + 1) 2)) (by show w.heap.size + 1 + 1 ≠ w.heap.size + 1;omega) (.string ⟨#[]⟩)).far (p:=(qa (w.heap.size + 1) 3)) (by show w.heap.size + 1 + 1 ≠ w.heap.size + 1;omega) (.slice none 0 0)).far (p:=(qa (w.heap.size + 1) 4)) (by show w.heap.size + 1 + 1 ≠ w.heap.size + 1;omega) (.slice none 0 0)).set_ 0 (.bool false))
 have HFB:=Lib.hid ((((((HA3.out.setCell (p:=(qa (w.heap.size + 1) 0)) (by show w.heap.size ≤ w.heap.size + 1;omega) (.int .i64 0)).setCell (p:=(qa (w.heap.size + 1) 1)) (by show w.heap.size ≤ w.heap.size + 1;omega) (.int .i64 0)).setCell (p:=(qa (w.heap.size + 1) 2)) (by show w.heap.size ≤ w.heap.size + 1;omega) (.string ⟨#[]⟩)).setCell (p:=(qa (w.heap.size + 1) 3)) (by show w.heap.size ≤ w.heap.size + 1;omega) (.slice none 0 0)).setCell (p:=(qa (w.heap.size + 1) 4)) (by show w.heap.size ≤ w.heap.size + 1;omega) (.slice none 0 0)).setCell (p:=(qa (w.heap.size + 1 + 1) 0)) (by show w.heap.size ≤ w.heap.size + 1 + 1;omega) (.bool false))
 generalize (((((((w3.alloc (.cells #[.string ⟨#[]⟩] 9)).setCell (qa (w.heap.size + 1) 0) (.int .i64 0)).setCell (qa (w.heap.size + 1) 1) (.int .i64 0)).setCell (qa (w.heap.size + 1) 2) (.string ⟨#[]⟩)).setCell (qa (w.heap.size + 1) 3) (.slice none 0 0)).setCell (qa (w.heap.size + 1) 4) (.slice none 0 0)).setCell (qa (w.heap.size + 1 + 1) 0) (.bool false)) = WF at *
 obtain ⟨q0,q1,q2,q3,q4⟩:=HF4.out.cells5
 have q5:WF.cell? (qa (w.heap.size + 1 + 1) 0) = some (.bool false):=HF5.out.cell 0
 refine bodyPost_ret (v:=.tuple #[.agg Zn,.bool false]) (by simp [results,Tryd.results25,go_sem,q0,q1,q2,q3,q4,q5]) rfl ?_
 exact ⟨_,_,_,_,_,_,_,_,_,rfl,(fun m hm => by cases hm),HFB.out⟩
set_option maxRecDepth 100000 in
set_option maxHeartbeats 1000000 in
theorem refer_no4 (s1 s2 s3:ByteArray) (g2 g3:Bool) (x0 x1:Int) (x2:ByteArray) (x3:Option Addr) (x4 x5:Nat) (x6:Option Addr) (x7 x8:Nat) (w:World) (len cap:Nat) (A:Option Addr)
  (HT1:Hid (∀ w',Below w.heap.size w w' → Calls Tryd.prog 38 #[.agg (nA x0 x1 x2 x3 x4 x5 x6 x7 x8),.string ⟨#[114,101,115,117,108,116,79,102]⟩] w' fun e w'' => e = .returned (.tuple #[.string s1,.bool true]) ∧ Below w'.heap.size w' w''))
  (HT2:Hid (∀ w',Below w.heap.size w w' → Calls Tryd.prog 38 #[.agg (nA x0 x1 x2 x3 x4 x5 x6 x7 x8),.string ⟨#[110,97,109,101]⟩] w' fun e w'' => e = .returned (.tuple #[.string s2,.bool true]) ∧ Below w'.heap.size w' w''))
  (HT3:Hid (∀ w',Below w.heap.size w w' → Calls Tryd.prog 38 #[.agg (nA x0 x1 x2 x3 x4 x5 x6 x7 x8),.string ⟨#[112,97,116,104]⟩] w' fun e w'' => e = .returned (.tuple #[.string s3,.bool true]) ∧ Below w'.heap.size w' w'')) (h3:¬ x7 = 3) :
  Calls Tryd.prog 25 #[.agg (nA x0 x1 x2 x3 x4 x5 x6 x7 x8),.slice A len cap] w (RfP none w):=by
 have n3:((x7:Int) != 3) = true:=by rw [bne_iff_ne];omega
 have HA0:Hid (Below w.heap.size w (((w.alloc (.cells (nA x0 x1 x2 x3 x4 x5 x6 x7 x8) 25)).alloc (.cells Zn 25)).alloc (.cells #[.bool false] 4))):=(((Below.refl _ _).alloc (Nat.le_refl _) _).alloc (by simp) _).alloc (by simp;omega) _
 have X0:Hid (Blk (((w.alloc (.cells (nA x0 x1 x2 x3 x4 x5 x6 x7 x8) 25)).alloc (.cells Zn 25)).alloc (.cells #[.bool false] 4)) w.heap.size 25 (nA x0 x1 x2 x3 x4 x5 x6 x7 x8)):=((Blk.new w _ _).alloc _).alloc _
 have X4:Hid (Blk (((w.alloc (.cells (nA x0 x1 x2 x3 x4 x5 x6 x7 x8) 25)).alloc (.cells Zn 25)).alloc (.cells #[.bool false] 4)) (w.heap.size + 1) 25 Zn):=by
  have h:=(Blk.new (w.alloc (.cells (nA x0 x1 x2 x3 x4 x5 x6 x7 x8) 25)) 25 Zn).alloc (.cells #[.bool false] 4)
  rw [World.size_alloc] at h;exact h
 have X5:Hid (Blk (((w.alloc (.cells (nA x0 x1 x2 x3 x4 x5 x6 x7 x8) 25)).alloc (.cells Zn 25)).alloc (.cells #[.bool false] 4)) (w.heap.size + 1 + 1) 4 #[.bool false]):=by
  have h:=Blk.new ((w.alloc (.cells (nA x0 x1 x2 x3 x4 x5 x6 x7 x8) 25)).alloc (.cells Zn 25)) 4 #[.bool false]
  rw [World.size_alloc,World.size_alloc] at h;exact h
 go_enter Tryd.func25,Tryd.ntmps25
 go_wp2_with fail
 refine (HT1.out _ HA0.out:Calls _ _ _ _ _).mono ?_
 rintro e w1 ⟨rfl,hb⟩
 have hAL:Below w1.heap.size w1 (w1.alloc (.cells #[.string s1] 9)):=(Below.refl _ _).alloc (Nat.le_refl _) _
 have HA1:=Lib.hid (nextB (nextB HA0.out hb) hAL)
 have Y0:=Lib.hid ((X0.out.below hb X0.out.lt).alloc (.cells #[.string s1] 9))
 have Y4:=Lib.hid ((X4.out.below hb X4.out.lt).alloc (.cells #[.string s1] 9))
 have Y5:=Lib.hid ((X5.out.below hb X5.out.lt).alloc (.cells #[.string s1] 9))
 clear HA0 X0 X4 X5 HT1 hb hAL
 obtain ⟨y0,y1,y2,y3,y4⟩:=Y0.out.cells5
 go_wp2_with fail
 clear y0 y1 y2 y3 y4
 generalize w1.alloc (.cells #[.string s1] 9) = W1 at *
 refine (HT2.out _ HA1.out:Calls _ _ _ _ _).mono ?_
 rintro e w2 ⟨rfl,hb⟩
 have hAL:Below w2.heap.size w2 (w2.alloc (.cells #[.string s2] 9)):=(Below.refl _ _).alloc (Nat.le_refl _) _
 have HA2:=Lib.hid (nextB (nextB HA1.out hb) hAL)
 have Z0:=Lib.hid ((Y0.out.below hb Y0.out.lt).alloc (.cells #[.string s2] 9))
 have Z4:=Lib.hid ((Y4.out.below hb Y4.out.lt).alloc (.cells #[.string s2] 9))
 have Z5:=Lib.hid ((Y5.out.below hb Y5.out.lt).alloc (.cells #[.string s2] 9))
 clear HA1 Y0 Y4 Y5 HT2 hb hAL
 obtain ⟨y0,y1,y2,y3,y4⟩:=Z0.out.cells5
 go_wp2_with fail
 clear y0 y1 y2 y3 y4
 generalize w2.alloc (.cells #[.string s2] 9) = W2 at *
 refine (HT3.out _ HA2.out:Calls _ _ _ _ _).mono ?_
 rintro e w3 ⟨rfl,hb⟩
 have hAL:Below w3.heap.size w3 (w3.alloc (.cells #[.string s3] 9)):=(Below.refl _ _).alloc (Nat.le_refl _) _
 have HA3:=Lib.hid (nextB (nextB HA2.out hb) hAL)
 have V0:=Lib.hid ((Z0.out.below hb Z0.out.lt).alloc (.cells #[.string s3] 9))
 have V4:=Lib.hid ((Z4.out.below hb Z4.out.lt).alloc (.cells #[.string s3] 9))
 have V5:=Lib.hid ((Z5.out.below hb Z5.out.lt).alloc (.cells #[.string s3] 9))
 clear HA2 Z0 Z4 Z5 HT3 hb hAL
 obtain ⟨y0,y1,y2,y3,y4⟩:=V0.out.cells5
 obtain ⟨p0,p1,p2,p3,p4⟩:=V4.out.cells5
 have f0:=V4.out.frozen 0
 have f1:=V4.out.frozen 1
 have f2:=V4.out.frozen 2
 have f3:=V4.out.frozen 3
 have f4:=V4.out.frozen 4
 have p5:(w3.alloc (.cells #[.string s3] 9)).cell? (qa (w.heap.size + 1 + 1) 0) = some (.bool false):=V5.out.cell 0
 have f5:=V5.out.frozen 0
 go_wp2_with fail
 clear p0 p1 p2 p3 p4 p5 f0 f1 f2 f3 f4 f5 y0 y1 y2 y3 y4
 have HF4:=Lib.hid ((((((V4.out.set_ 0 (.int .i64 0)).set_ 1 (.int .i64 0)).set_ 2 (.string ⟨#[]⟩)).set_ 3 (.slice none 0 0)).set_ 4 (.slice none 0 0)).far (p:=(qa (w.heap.size + 1 + 1) 0)) (by show w.heap.size + 1 ≠ w.heap.size + 1 + 1;omega) (.bool false))
 have HF5:=Lib.hid ((((((V5.out.far (p:=(qa (w.heap.size + 1) 0)) (by show w.heap.size + 1 + 1 ≠ w.heap.size + 1;omega) (.int .i64 0)).far (p:=(qa (w.heap.size + 1) 1)) (by show w.heap.size + 1 + 1 ≠ w.heap.size + 1;omega) (.int .i64 0)).far (p:=(qa (w.heap.size + 1) 2)) (by show w.heap.size + 1 + 1 ≠ w.heap.size + 1;omega) (.string ⟨#[]⟩)).far (p:=(qa (w.heap.size + 1) 3)) (by show w.heap.size + 1 + 1 ≠ w.heap.size + 1;omega) (.slice none 0 0)).far (p:=(qa (w.heap.size + 1) 4)) (by show w.heap.size + 1 + 1 ≠ w.heap.size + 1;omega) (.slice none 0 0)).set_ 0 (.bool false))
 have HFB:=Lib.hid ((((((HA3.out.setCell (p:=(qa (w.heap.size + 1) 0)) (by show w.heap.size ≤ w.heap.size + 1;omega) (.int .i64 0)).setCell (p:=(qa (w.heap.size + 1) 1)) (by show w.heap.size ≤ w.heap.size + 1;omega) (.int .i64 0)).setCell (p:=(qa (w.heap.size + 1) 2)) (by show w.heap.size ≤ w.heap.size + 1;omega) (.string ⟨#[]⟩)).setCell (p:=(qa (w.heap.size + 1) 3)) (by show w.heap.size ≤ w.heap.size + 1;omega) (.slice none 0 0)).setCell (p:=(qa (w.heap.size + 1) 4)) (by show w.heap.size ≤ w.heap.size + 1;omega) (.slice none 0 0)).setCell (p:=(qa (w.heap.size + 1 + 1) 0)) (by show w.heap.size ≤ w.heap.size + 1 + 1;omega) (.bool false))
 generalize (((((((w3.alloc (.cells #[.string s3] 9)).setCell (qa (w.heap.size + 1) 0) (.int .i64 0)).setCell (qa (w.heap.size + 1) 1) (.int .i64 0)).setCell (qa (w.heap.size + 1) 2) (.string ⟨#[]⟩)).setCell (qa (w.heap.size + 1) 3) (.slice none 0 0)).setCell (qa (w.heap.size + 1) 4) (.slice none 0 0)).setCell (qa (w.heap.size + 1 + 1) 0) (.bool false)) = WF at *
 obtain ⟨q0,q1,q2,q3,q4⟩:=HF4.out.cells5
 have q5:WF.cell? (qa (w.heap.size + 1 + 1) 0) = some (.bool false):=HF5.out.cell 0
 refine bodyPost_ret (v:=.tuple #[.agg Zn,.bool false]) (by simp [results,Tryd.results25,go_sem,q0,q1,q2,q3,q4,q5]) rfl ?_
 exact ⟨_,_,_,_,_,_,_,_,_,rfl,(fun m hm => by cases hm),HFB.out⟩
theorem ResP.bad {r:Except ByteArray Nd} {s:ByteArray} {w w':World} (h:r = .error s) (hb:Below w.heap.size w w'):ResP r w (.returned (.tuple #[.agg Zn,.string s])) w':=by
 subst h
 exact ⟨_,_,_,_,_,_,_,_,_,rfl,NdIn.is (S:=fun _ => False) (fun _ h => h.elim) _ _ (nd0_in 0 (by unfold I64;omega) _ _),hb⟩
theorem set_mid {α:Type}:∀ (a:List α) (k x:α) (r:List α),(a ++ k :: r).set a.length x = (a ++ [x]) ++ r
 | [],k,x,r => rfl
 | b :: a,k,x,r => by show b :: ((a ++ k :: r).set a.length x) = _;rw [set_mid a k x r];rfl

set_option maxRecDepth 100000 in
theorem kres_kind (k num:Int) (t:ByteArray) (K:Option Addr) (kl kc:Nat) (A:Option Addr) (al c:Nat) (w:World) (D:Option Addr) (ln dc:Nat) (h7:k ≠ 7) :
  Calls Tryd.prog 9 #[.agg (nA k num t K kl kc A al c),.slice D ln dc] w fun e w' => e = .returned (.tuple #[.agg Zn,.string badA]) ∧ Below w.heap.size w w':=by
 have n7:(k != 7) = true:=by rw [bne_iff_ne];exact h7
 have HA0:Below w.heap.size w ((w.alloc (.cells (nA k num t K kl kc A al c) 25)).alloc (.cells Zn 25)):=((Below.refl _ _).alloc (Nat.le_refl _) _).alloc (by simp) _
 have HX4:Blk ((w.alloc (.cells (nA k num t K kl kc A al c) 25)).alloc (.cells Zn 25)) (w.heap.size + 1) 25 Zn:=by
  have h:=Blk.new (w.alloc (.cells (nA k num t K kl kc A al c) 25)) 25 Zn
  rw [World.size_alloc] at h;exact h
 have HFB:=Lib.hid HA0
 have HF4:=Lib.hid HX4
 clear HA0 HX4
 unfold badA
 go_enter Tryd.func9,Tryd.ntmps9
 go_wp2_with fail
 obtain ⟨q0,q1,q2,q3,q4⟩:=HF4.out.cells5
 refine bodyPost_ret (v:=.tuple #[.agg Zn,.string ⟨#[105,110,118,97,108,105,100,65,114,103,117,109,101,110,116,115]⟩]) (by simp [results,Tryd.results9,go_sem,q0,q1,q2,q3,q4]) rfl ?_
 exact ⟨rfl,HFB.out⟩
set_option maxRecDepth 100000 in
theorem kres_len (num:Int) (t:ByteArray) (K:Option Addr) (kl kc:Nat) (A:Option Addr) (al c:Nat) (w:World) (D:Option Addr) (ln dc:Nat) (hl:kl ≠ al) :
  Calls Tryd.prog 9 #[.agg (nA 7 num t K kl kc A al c),.slice D ln dc] w fun e w' => e = .returned (.tuple #[.agg Zn,.string badA]) ∧ Below w.heap.size w w':=by
 have n7:((kl:Int) != (al:Int)) = true:=by rw [bne_iff_ne];omega
 have HA0:Below w.heap.size w ((w.alloc (.cells (nA 7 num t K kl kc A al c) 25)).alloc (.cells Zn 25)):=((Below.refl _ _).alloc (Nat.le_refl _) _).alloc (by simp) _
 have HX4:Blk ((w.alloc (.cells (nA 7 num t K kl kc A al c) 25)).alloc (.cells Zn 25)) (w.heap.size + 1) 25 Zn:=by
  have h:=Blk.new (w.alloc (.cells (nA 7 num t K kl kc A al c) 25)) 25 Zn
  rw [World.size_alloc] at h;exact h
 have HFB:=Lib.hid HA0
 have HF4:=Lib.hid HX4
 clear HA0 HX4
 unfold badA
 go_enter Tryd.func9,Tryd.ntmps9
 go_wp2_with fail
 obtain ⟨q0,q1,q2,q3,q4⟩:=HF4.out.cells5
 refine bodyPost_ret (v:=.tuple #[.agg Zn,.string ⟨#[105,110,118,97,108,105,100,65,114,103,117,109,101,110,116,115]⟩]) (by simp [results,Tryd.results9,go_sem,q0,q1,q2,q3,q4]) rfl ?_
 exact ⟨rfl,HFB.out⟩
set_option maxRecDepth 100000 in
set_option maxHeartbeats 1000000 in
theorem kres_walk (num:Int) (t:ByteArray) (ks:List ByteArray) (ns:List Nd) (K:Option Addr) (kc:Nat) (A:Option Addr) (c:Nat) (w:World) (n:Nat) (hkl:ks.length = n) (hnl:ns.length = n) (hn2:n ≤ 1000000) (D:Option Addr) (ln dc:Nat) (R:Nd → Option Nd)
  (HKO:Hid (∀ w',Below w.heap.size w w' → Calls Tryd.prog 22 #[.slice (some (qa w'.heap.size 0)) 2 2] (w'.alloc (.cells #[.int .i64 5,.int .i64 0,.string ⟨#[]⟩,.slice none 0 0,.slice none 0 0,.int .i64 7,.int .i64 0,.string ⟨#[]⟩,.slice K n kc,.slice A n c] 25)) (ObjP (.mk 7 0 ⟨#[]⟩ [⟨#[]⟩] [.mk 7 0 ⟨#[]⟩ ks ns]) (w'.alloc (.cells #[.int .i64 5,.int .i64 0,.string ⟨#[]⟩,.slice none 0 0,.slice none 0 0,.int .i64 7,.int .i64 0,.string ⟨#[]⟩,.slice K n kc,.slice A n c] 25)))))
  (HFI:Hid (∀ w' cs,NdIs w' w'.heap.size (.mk 7 0 ⟨#[]⟩ [⟨#[]⟩] [.mk 7 0 ⟨#[]⟩ ks ns]) cs → Calls Tryd.prog 21 #[.agg cs.toArray,.string ⟨#[]⟩] w' (FindTop 7 0 ⟨#[]⟩ ks ns w')))
  (HCN:Hid (∀ w' x,Below w.heap.size w w' → Calls Tryd.prog 24 #[.slice K n kc,.string x] w' fun e w'' => e = .returned (.bool (idxK ks x).isSome) ∧ w' = w''))
  (HCP:Hid (∀ k w',Calls Tryd.prog 23 #[.string k,.string ⟨#[35]⟩] w' fun e w'' => e = .returned (.tuple #[.string (tlS k),.bool (hashB k)]) ∧ w'' = w'))
  (HRF:Hid (∀ (i:Nat) (m:Nd) (cs:List Value) (w':World),ns[i]? = some m → NdIs w' w'.heap.size m cs → Below w.heap.size w w' → Calls Tryd.prog 25 #[.agg cs.toArray,.slice D ln dc] w' (RfP (R m) w')))
  (HKS:Hid (∀ s ∈ ks,s.size ≤ maxLen)) :
  Calls Tryd.prog 9 #[.agg (nA 7 num t K n kc A n c),.slice D ln dc] w (ResP (resAcc R ks ks ns [] []) w):=by
 have HA0:Hid (Below w.heap.size w ((w.alloc (.cells (nA 7 num t K n kc A n c) 25)).alloc (.cells Zn 25))):=((Below.refl _ _).alloc (Nat.le_refl _) _).alloc (by simp) _
 have X2:Hid (Blk ((w.alloc (.cells (nA 7 num t K n kc A n c) 25)).alloc (.cells Zn 25)) w.heap.size 25 (nA 7 num t K n kc A n c)):=(Blk.new w _ _).alloc _
 have X4:Hid (Blk ((w.alloc (.cells (nA 7 num t K n kc A n c) 25)).alloc (.cells Zn 25)) (w.heap.size + 1) 25 Zn):=by
  have h:=Blk.new (w.alloc (.cells (nA 7 num t K n kc A n c) 25)) 25 Zn
  rw [World.size_alloc] at h;exact h
 have HKL:=Lib.hid hkl
 have HNL:=Lib.hid hnl
 clear hkl hnl
 go_enter Tryd.func9,Tryd.ntmps9
 go_wp2_with fail
 have HK1:=HKO.out _ HA0.out
 simp only [World.size_alloc] at HK1
 refine (HK1:Calls _ _ _ _ _).mono ?_
 rintro e w1 ⟨p0,p1,p2,p3,p4,p5,p6,p7,p8,rfl,hn,hb⟩
 have HA1:=Lib.hid (nextB (HA0.out.alloc HA0.out.size (.cells #[.int .i64 5,.int .i64 0,.string ⟨#[]⟩,.slice none 0 0,.slice none 0 0,.int .i64 7,.int .i64 0,.string ⟨#[]⟩,.slice K n kc,.slice A n c] 25)) hb)
 have Y2:=Lib.hid ((X2.out.alloc (.cells #[.int .i64 5,.int .i64 0,.string ⟨#[]⟩,.slice none 0 0,.slice none 0 0,.int .i64 7,.int .i64 0,.string ⟨#[]⟩,.slice K n kc,.slice A n c] 25)).below hb (X2.out.alloc (.cells #[.int .i64 5,.int .i64 0,.string ⟨#[]⟩,.slice none 0 0,.slice none 0 0,.int .i64 7,.int .i64 0,.string ⟨#[]⟩,.slice K n kc,.slice A n c] 25)).lt)
 have Y4:=Lib.hid ((X4.out.alloc (.cells #[.int .i64 5,.int .i64 0,.string ⟨#[]⟩,.slice none 0 0,.slice none 0 0,.int .i64 7,.int .i64 0,.string ⟨#[]⟩,.slice K n kc,.slice A n c] 25)).below hb (X4.out.alloc (.cells #[.int .i64 5,.int .i64 0,.string ⟨#[]⟩,.slice none 0 0,.slice none 0 0,.int .i64 7,.int .i64 0,.string ⟨#[]⟩,.slice K n kc,.slice A n c] 25)).lt)
 have HF1:=Lib.hid (HFI.out w1 _ hn)
 have hs1:=hb.size
 simp only [World.size_alloc] at hs1
 clear HK1 HKO HFI HA0 X2 X4 hn hb
 go_wp2_with fail
 refine (HF1.out:Calls _ _ _ _ _).mono ?_
 rintro e w2 ⟨K2,kc2,A2,c2,ys,rfl,hri,hb⟩
 rw [HKL.out,HNL.out]
 have hb6:Below w2.heap.size w2 (w2.alloc (.cells #[.int .i64 7,.int .i64 0,.string ⟨#[]⟩,.slice K2 n kc2,.slice A2 n c2] 25)):=(Below.refl _ _).alloc (Nat.le_refl _) _
 have hs2:=hb.size
 have HA2:=Lib.hid (nextB (nextB HA1.out hb) hb6)
 have V2:=Lib.hid ((Y2.out.below hb Y2.out.lt).alloc (.cells #[.int .i64 7,.int .i64 0,.string ⟨#[]⟩,.slice K2 n kc2,.slice A2 n c2] 25))
 have V4:=Lib.hid ((Y4.out.below hb Y4.out.lt).alloc (.cells #[.int .i64 7,.int .i64 0,.string ⟨#[]⟩,.slice K2 n kc2,.slice A2 n c2] 25))
 have V6:=Lib.hid (Blk.new w2 25 #[.int .i64 7,.int .i64 0,.string ⟨#[]⟩,.slice K2 n kc2,.slice A2 n c2])
 have HRI:=Lib.hid (hri.below hb6)
 have HEQ:Hid (resAcc R ks ks ns [] [] = resAcc R ks (ks.drop 0) (ns.drop 0) [] []):=rfl
 have HK0:Hid (∀ s ∈ [] ++ ks.drop 0,s.size ≤ maxLen):=HKS.out
 have HLK:Hid (∀ g,(Value.slice K2 n kc2).ownBlock = some g → g < w2.heap.size):=fun g hg => by have h:=hri.keys;rw [HKL.out] at h;exact (own_lt h hg).2
 have HLA:Hid (∀ g,(Value.slice A2 n c2).ownBlock = some g → g < w2.heap.size):=fun g hg => by have h:=hri.own;rw [HNL.out] at h;exact (own_lt h hg).2
 clear HF1 HA1 Y2 Y4 hb hb6 hri
 obtain ⟨v0,v1,v2,v3,v4⟩:=V6.out.cells5
 go_wp2_with fail
 obtain ⟨b6,hb6⟩:∃ b6,b6 = w2.heap.size:=⟨_,rfl⟩
 rw [← hb6] at V6 hs2 HLK HLA ⊢
 clear hb6 v0 v1 v2 v3 v4
 generalize w2.alloc (.cells #[.int .i64 7,.int .i64 0,.string ⟨#[]⟩,.slice K2 n kc2,.slice A2 n c2] 25) = W2 at *
 obtain ⟨hi,hhi⟩:∃ hi,hi = w1.heap.size:=⟨_,rfl⟩
 rw [← hhi] at HRI hs1 hs2
 clear hhi
 go_loopw [42] (fun t42 wr => ∃ (i:Nat) (aK:List ByteArray) (aN:List Nd) (ys:List Value),i ≤ n ∧ aK.length = i ∧ aN.length = i ∧ t42 = .int .i64 i ∧ Hid (resAcc R ks ks ns [] [] = resAcc R ks (ks.drop i) (ns.drop i) aK aN) ∧ Hid (∀ s ∈ aK ++ ks.drop i,s.size ≤ maxLen) ∧ Hid (RI 0 hi wr (aK ++ ks.drop i) (aN ++ ns.drop i) K2 kc2 A2 c2 ys) ∧ Hid (Blk wr b6 25 #[.int .i64 7,.int .i64 0,.string ⟨#[]⟩,.slice K2 n kc2,.slice A2 n c2]) ∧ Hid (Blk wr w.heap.size 25 (nA 7 num t K n kc A n c)) ∧ Hid (Blk wr (w.heap.size + 1) 25 Zn) ∧ Hid (Below w.heap.size w wr)) (fun t42 _ => n - (intOf t42).toNat)
 case atStart => exact ⟨0,[],[],ys,Nat.zero_le _,rfl,rfl,rfl,HEQ,HK0,HRI,V6,V2,V4,HA2⟩
 case round =>
  clear HRI V6 V2 V4 HA2 HEQ HK0
  obtain ⟨i,aK,aN,ys,hin,ha,hb',rfl,HEQ,HKZ,HRI,B6,B2,B4,HB⟩:=hrel
  obtain ⟨wo,rfl⟩:∃ wo:World,wo = wr:=⟨_,rfl⟩
  have hLK:(aK ++ ks.drop i).length = n:=by rw [List.length_append,List.length_drop,HKL.out];omega
  have hLN:(aN ++ ns.drop i).length = n:=by rw [List.length_append,List.length_drop,HNL.out];omega
  have ok:=HRI.out.keys
  rw [hLK] at ok
  have ow:=HRI.out.own
  rw [hLN] at ow
  by_cases hlt:i < n
  ·obtain ⟨k,hk⟩:∃ k,ks[i]? = some k:=⟨ks[i]'(by rw [HKL.out];exact hlt),List.getElem?_eq_getElem _⟩
   obtain ⟨m,hm⟩:∃ m,ns[i]? = some m:=⟨ns[i]'(by rw [HNL.out];exact hlt),List.getElem?_eq_getElem _⟩
   have hdk:ks.drop i = k :: ks.drop (i + 1):=by rw [List.drop_eq_getElem_cons (by rw [HKL.out];exact hlt)];congr 1;exact Option.some.inj ((List.getElem?_eq_getElem _).symm.trans hk)
   have hdn:ns.drop i = m :: ns.drop (i + 1):=by rw [List.drop_eq_getElem_cons (by rw [HNL.out];exact hlt)];congr 1;exact Option.some.inj ((List.getElem?_eq_getElem _).symm.trans hm)
   obtain ⟨gk,ck,hv,gk1,gk2⟩:=World.ownsRow.form ok (by omega)
   injection hv with e1 _ e2
   subst e1
   subst e2
   obtain ⟨ga,ca,hv,ga1,ga2⟩:=World.ownsRow.form ow (by omega)
   injection hv with e1 _ e2
   subst e1
   subst e2
   have hgb:gk < b6:=HLK.out gk rfl
   have hab:ga < b6:=HLA.out ga rfl
   have hkg:gk ≠ ga:=fun e => own_apart ok ow (by decide) (g:=gk) rfl (by rw [e];rfl)
   have kcell:wo.cell? (qa gk i) = some (.string k):=by
    rw [ok.cellAt i (by omega),hdk,List.getElem?_map,List.getElem?_append_right (by omega),ha,Nat.sub_self];rfl
   obtain ⟨cs,hnd,hcs⟩:=NdsIs.at_ _ _ i m (NdsIn.is (B:=wo.heap.size) (fun b hb => hb.2.1) _ _ HRI.out.kids) (by rw [hdn,List.getElem?_append_right (by omega),hb',Nat.sub_self];rfl)
   obtain ⟨x0,x1,x2,x3,x4,x5,x6,x7,x8,rfl⟩:=(NdIs.in_ _ _ hnd).form
   have n0:wo.cell? (qa ga (i * 5)) = some (.int .i64 x0):=(ow.cellAt (i * 5) (by omega)).trans (hcs 0 (by omega))
   have n1:wo.cell? (qa ga (i * 5 + 1)) = some (.int .i64 x1):=(ow.cellAt (i * 5 + 1) (by omega)).trans (hcs 1 (by omega))
   have n2:wo.cell? (qa ga (i * 5 + 2)) = some (.string x2):=(ow.cellAt (i * 5 + 2) (by omega)).trans (hcs 2 (by omega))
   have n3:wo.cell? (qa ga (i * 5 + 3)) = some (.slice x3 x4 x5):=(ow.cellAt (i * 5 + 3) (by omega)).trans (hcs 3 (by omega))
   have n4:wo.cell? (qa ga (i * 5 + 4)) = some (.slice x6 x7 x8):=(ow.cellAt (i * 5 + 4) (by omega)).trans (hcs 4 (by omega))
   have v63:wo.cell? (qa b6 3) = some (.slice (some (qa gk 0)) n kc2):=B6.out.cell 3
   have v64:wo.cell? (qa b6 4) = some (.slice (some (qa ga 0)) n c2):=B6.out.cell 4
   have v23:wo.cell? (qa w.heap.size 3) = some (.slice K n kc):=B2.out.cell 3
   have i0:(0:Int) ≤ (i:Int):=by omega
   have i1:(i:Int) < (n:Int):=by omega
   have HND:=Lib.hid hnd
   have HDK:=Lib.hid hdk
   have HDN:=Lib.hid hdn
   have HHM:=Lib.hid hm
   clear ok ow hcs hnd hdk hdn hm hk
   cases hq:hashB k with
   | false =>
    have HQ:=Lib.hid hq
    clear hq
    go_wp2_with fail
    refine (HCP.out k wo:Calls _ _ _ _ _).mono ?_
    rintro e w3 ⟨rfl,rfl⟩
    rw [HQ.out]
    have eK:(aK ++ [k]) ++ ks.drop (i + 1) = aK ++ ks.drop i:=by rw [HDK.out];simp
    have eN:(aN ++ [m]) ++ ns.drop (i + 1) = aN ++ ns.drop i:=by rw [HDN.out];simp
    have HEQ2:Hid (resAcc R ks ks ns [] [] = resAcc R ks (ks.drop (i + 1)) (ns.drop (i + 1)) (aK ++ [k]) (aN ++ [m])):=by show _ = _;rw [HEQ.out,HDK.out,HDN.out,resAcc_no HQ.out]
    rw [← eK] at HKZ
    rw [← eK,← eN] at HRI
    clear eK eN hLK hLN
    go_wp2_with fail
    go_roundw
    case rel => exact ⟨i + 1,aK ++ [k],aN ++ [m],ys,by omega,by simp [ha],by simp [hb'],by go_num,HEQ2,HKZ,HRI,B6,B2,B4,HB⟩
    case measure => simp [intOf];omega
   | true =>
    have HQ:=Lib.hid hq
    clear hq
    go_wp2_with fail
    refine (HCP.out k wo:Calls _ _ _ _ _).mono ?_
    rintro e w3 ⟨rfl,rfl⟩
    rw [HQ.out]
    cases hd:(idxK ks (tlS k)).isSome with
    | true =>
     have HD:=Lib.hid hd
     have HV:Hid (resAcc R ks ks ns [] [] = .error badA):=by show _ = _;rw [HEQ.out,HDK.out,HDN.out,resAcc_twice HQ.out hd]
     have HCNI:=HCN.out w3 (tlS k) HB.out
     rw [hd] at HCNI
     have HCNJ:=Lib.hid HCNI
     clear hd HCNI HRF HCN HCP
     obtain ⟨p0,p1,p2,p3,p4⟩:=B4.out.cells5
     have f0:=B4.out.frozen 0
     have f1:=B4.out.frozen 1
     have f2:=B4.out.frozen 2
     have f3:=B4.out.frozen 3
     have f4:=B4.out.frozen 4
     go_wp2_with fail
     refine (HCNJ.out:Calls _ _ _ _ _).mono ?_
     rintro e w4 ⟨rfl,rfl⟩
     go_wp2_with fail
     clear p0 p1 p2 p3 p4 f0 f1 f2 f3 f4
     have HFB:=Lib.hid (((((HB.out.setCell (p:=(qa (w.heap.size + 1) 0)) (by show w.heap.size ≤ w.heap.size + 1;omega) (.int .i64 0)).setCell (p:=(qa (w.heap.size + 1) 1)) (by show w.heap.size ≤ w.heap.size + 1;omega) (.int .i64 0)).setCell (p:=(qa (w.heap.size + 1) 2)) (by show w.heap.size ≤ w.heap.size + 1;omega) (.string ⟨#[]⟩)).setCell (p:=(qa (w.heap.size + 1) 3)) (by show w.heap.size ≤ w.heap.size + 1;omega) (.slice none 0 0)).setCell (p:=(qa (w.heap.size + 1) 4)) (by show w.heap.size ≤ w.heap.size + 1;omega) (.slice none 0 0))
     have HF4:=Lib.hid (((((B4.out.set_ 0 (.int .i64 0)).set_ 1 (.int .i64 0)).set_ 2 (.string ⟨#[]⟩)).set_ 3 (.slice none 0 0)).set_ 4 (.slice none 0 0))
     generalize (((((w3.setCell (qa (w.heap.size + 1) 0) (.int .i64 0)).setCell (qa (w.heap.size + 1) 1) (.int .i64 0)).setCell (qa (w.heap.size + 1) 2) (.string ⟨#[]⟩)).setCell (qa (w.heap.size + 1) 3) (.slice none 0 0)).setCell (qa (w.heap.size + 1) 4) (.slice none 0 0)) = WF at *
     obtain ⟨q0,q1,q2,q3,q4⟩:=HF4.out.cells5
     refine bodyPost_ret (v:=.tuple #[.agg Zn,.string ⟨#[105,110,118,97,108,105,100,65,114,103,117,109,101,110,116,115]⟩]) (by simp [results,Tryd.results9,go_sem,q0,q1,q2,q3,q4]) rfl ?_
     exact ResP.bad HV.out HFB.out
    | false =>
     have HD:=Lib.hid hd
     have HCNI:=HCN.out w3 (tlS k) HB.out
     rw [hd] at HCNI
     have HCNJ:=Lib.hid HCNI
     have HRI0:=Lib.hid (HRF.out i m (nL x0 x1 x2 x3 x4 x5 x6 x7 x8) w3 HHM.out HND.out HB.out)
     clear hd HCNI HRF HCN HCP
     go_wp2_with fail
     refine (HCNJ.out:Calls _ _ _ _ _).mono ?_
     rintro e w4 ⟨rfl,rfl⟩
     go_wp2_with fail
     refine (HRI0.out:Calls _ _ _ _ _).mono ?_
     rintro e w4 ⟨c0,c1,c2',c3,c4,c5,c6,c7,c8,rfl,hrn,hb4⟩
     have hal:Below w4.heap.size w4 (w4.alloc (.cells (nA c0 c1 c2' c3 c4 c5 c6 c7 c8) 25)):=(Below.refl _ _).alloc (Nat.le_refl _) _
     have hs4:=hb4.size
     have G6:=Lib.hid ((B6.out.below hb4 B6.out.lt).alloc (.cells (nA c0 c1 c2' c3 c4 c5 c6 c7 c8) 25))
     have G2:=Lib.hid ((B2.out.below hb4 B2.out.lt).alloc (.cells (nA c0 c1 c2' c3 c4 c5 c6 c7 c8) 25))
     have G4:=Lib.hid ((B4.out.below hb4 B4.out.lt).alloc (.cells (nA c0 c1 c2' c3 c4 c5 c6 c7 c8) 25))
     have G12:=Lib.hid (Blk.new w4 25 (nA c0 c1 c2' c3 c4 c5 c6 c7 c8))
     have GB:=Lib.hid (nextB (nextB HB.out hb4) hal)
     have hlt6:=B6.out.lt
     clear HCNJ HRI0 n0 n1 n2 n3 n4 v63 v64 v23 kcell
     cases hr:R m with
     | none =>
      have HV:Hid (resAcc R ks ks ns [] [] = .error badR):=by show _ = _;rw [HEQ.out,HDK.out,HDN.out,resAcc_bad HQ.out HD.out hr]
      clear hr hrn hb4 hal HRI
      obtain ⟨p0,p1,p2,p3,p4⟩:=G4.out.cells5
      have f0:=G4.out.frozen 0
      have f1:=G4.out.frozen 1
      have f2:=G4.out.frozen 2
      have f3:=G4.out.frozen 3
      have f4:=G4.out.frozen 4
      go_wp2_with fail
      clear p0 p1 p2 p3 p4 f0 f1 f2 f3 f4
      generalize w4.alloc (.cells (nA c0 c1 c2' c3 c4 c5 c6 c7 c8) 25) = W5 at *
      have HFB:=Lib.hid (((((GB.out.setCell (p:=(qa (w.heap.size + 1) 0)) (by show w.heap.size ≤ w.heap.size + 1;omega) (.int .i64 0)).setCell (p:=(qa (w.heap.size + 1) 1)) (by show w.heap.size ≤ w.heap.size + 1;omega) (.int .i64 0)).setCell (p:=(qa (w.heap.size + 1) 2)) (by show w.heap.size ≤ w.heap.size + 1;omega) (.string ⟨#[]⟩)).setCell (p:=(qa (w.heap.size + 1) 3)) (by show w.heap.size ≤ w.heap.size + 1;omega) (.slice none 0 0)).setCell (p:=(qa (w.heap.size + 1) 4)) (by show w.heap.size ≤ w.heap.size + 1;omega) (.slice none 0 0))
      have HF4:=Lib.hid (((((G4.out.set_ 0 (.int .i64 0)).set_ 1 (.int .i64 0)).set_ 2 (.string ⟨#[]⟩)).set_ 3 (.slice none 0 0)).set_ 4 (.slice none 0 0))
      generalize (((((W5.setCell (qa (w.heap.size + 1) 0) (.int .i64 0)).setCell (qa (w.heap.size + 1) 1) (.int .i64 0)).setCell (qa (w.heap.size + 1) 2) (.string ⟨#[]⟩)).setCell (qa (w.heap.size + 1) 3) (.slice none 0 0)).setCell (qa (w.heap.size + 1) 4) (.slice none 0 0)) = WF at *
      obtain ⟨q0,q1,q2,q3,q4⟩:=HF4.out.cells5
      refine bodyPost_ret (v:=.tuple #[.agg Zn,.string ⟨#[105,110,118,97,108,105,100,82,101,115,117,108,116,82,101,102,101,114,101,110,99,101]⟩]) (by simp [results,Tryd.results9,go_sem,q0,q1,q2,q3,q4]) rfl ?_
      exact ResP.bad HV.out HFB.out
     | some x =>
      have HR:=Lib.hid hr
      have HEQ2:Hid (resAcc R ks ks ns [] [] = resAcc R ks (ks.drop (i + 1)) (ns.drop (i + 1)) (aK ++ [tlS k]) (aN ++ [x])):=by show _ = _;rw [HEQ.out,HDK.out,HDN.out,resAcc_yes HQ.out HD.out hr]
      have hnx:NdIn (w4.alloc (.cells (nA c0 c1 c2' c3 c4 c5 c6 c7 c8) 25)) (Since w3 w4) x (nL c0 c1 c2' c3 c4 c5 c6 c7 c8):=NdIn.keep (fun p hp => World.cell?_alloc_lt _ _ _ hp.2) (fun _ h => h) _ _ (hrn x hr)
      have hri5:=(HRI.out.below hb4).below hal
      have HKZ2:Hid (∀ s ∈ (aK ++ [tlS k]) ++ ks.drop (i + 1),s.size ≤ maxLen):=fun s hs => by
       rw [List.append_assoc,List.mem_append,List.singleton_append,List.mem_cons] at hs
       have hz:=HKZ.out
       rw [HDK.out] at hz
       rcases hs with h | rfl | h
       ·exact hz s (List.mem_append.2 (.inl h))
       ·exact Nat.le_trans (tlS_size k) (hz k (by simp))
       ·exact hz s (by simp [h])
      have eK:(aK ++ ks.drop i).set i (tlS k) = (aK ++ [tlS k]) ++ ks.drop (i + 1):=by rw [HDK.out,← ha];exact set_mid aK k (tlS k) _
      have eN:(aN ++ ns.drop i).set i x = (aN ++ [x]) ++ ns.drop (i + 1):=by rw [HDN.out,← hb'];exact set_mid aN m x _
      have hsal:(w4.alloc (.cells (nA c0 c1 c2' c3 c4 c5 c6 c7 c8) 25)).heap.size = w4.heap.size + 1:=by simp
      obtain ⟨b12,hb12⟩:∃ b12,b12 = w4.heap.size:=⟨_,rfl⟩
      have G12':Hid (Blk (w4.alloc (.cells (nA c0 c1 c2' c3 c4 c5 c6 c7 c8) 25)) b12 25 (nA c0 c1 c2' c3 c4 c5 c6 c7 c8)):=by rw [hb12];exact G12.out
      have hS:∀ b,Since w3 w4 b → SZ 0 hi (w4.alloc (.cells (nA c0 c1 c2' c3 c4 c5 c6 c7 c8) 25)) (.slice (some (qa gk 0)) (aK ++ ks.drop i).length kc2) (.slice (some (qa ga 0)) (aN ++ ns.drop i).length c2) b:=fun b hb => ⟨.inr (by have:=hb.1;omega),by rw [hsal];have:=hb.2;omega,fun e => by have e:gk = b:=Option.some.inj e;have:=hb.1;omega,fun e => by have e:ga = b:=Option.some.inj e;have:=hb.1;omega⟩
      have hS2:∀ b,Since w3 w4 b → SZ 0 hi ((w4.alloc (.cells (nA c0 c1 c2' c3 c4 c5 c6 c7 c8) 25)).setCell (qa gk i) (.string (tlS k))) (.slice (some (qa gk 0)) ((aK ++ ks.drop i).set i (tlS k)).length kc2) (.slice (some (qa ga 0)) (aN ++ ns.drop i).length c2) b:=fun b hb => ⟨.inr (by have:=hb.1;omega),by rw [World.size_setCell,hsal];have:=hb.2;omega,fun e => by have e:gk = b:=Option.some.inj e;have:=hb.1;omega,fun e => by have e:ga = b:=Option.some.inj e;have:=hb.1;omega⟩
      have hnx2:NdIn ((w4.alloc (.cells (nA c0 c1 c2' c3 c4 c5 c6 c7 c8) 25)).setCell (qa gk i) (.string (tlS k))) (Since w3 w4) x (nL c0 c1 c2' c3 c4 c5 c6 c7 c8):=NdIn.keep (fun p hp => World.cell?_setCell_other _ _ _ _ (by intro e;subst e;have h:w3.heap.size ≤ gk:=hp.1;omega)) (fun _ h => h) _ _ hnx
      have P1:=(hri5.putKey i (tlS k)).putKid i (by rw [hLN];exact hlt) hnx2 hS2
      have P2:=(hri5.putKid i (by rw [hLN];exact hlt) hnx hS).putKey i (tlS k)
      rw [eK,eN] at P1 P2
      have P1:=Lib.hid P1
      have P2:=Lib.hid P2
      have ok5:=hri5.keys
      rw [hLK] at ok5
      have ow5:=hri5.own
      rw [hLN] at ow5
      have k0:(w4.alloc (.cells (nA c0 c1 c2' c3 c4 c5 c6 c7 c8) 25)).cell? (qa gk i) = some (.string k):=by
       rw [ok5.cellAt i (by omega),HDK.out,List.getElem?_map,List.getElem?_append_right (by omega),ha,Nat.sub_self];rfl
      obtain ⟨cs5,hnd5,hcs5⟩:=NdsIs.at_ _ _ i m (NdsIn.is (B:=(w4.alloc (.cells (nA c0 c1 c2' c3 c4 c5 c6 c7 c8) 25)).heap.size) (fun b hb => hb.2.1) _ _ hri5.kids) (by rw [HDN.out,List.getElem?_append_right (by omega),hb',Nat.sub_self];rfl)
      obtain ⟨y0,y1,y2,y3,y4,y5,y6,y7,y8,rfl⟩:=(NdIs.in_ _ _ hnd5).form
      have m0:(w4.alloc (.cells (nA c0 c1 c2' c3 c4 c5 c6 c7 c8) 25)).cell? (qa ga (i * 5)) = some (.int .i64 y0):=(ow5.cellAt (i * 5) (by omega)).trans (hcs5 0 (by omega))
      have m1:(w4.alloc (.cells (nA c0 c1 c2' c3 c4 c5 c6 c7 c8) 25)).cell? (qa ga (i * 5 + 1)) = some (.int .i64 y1):=(ow5.cellAt (i * 5 + 1) (by omega)).trans (hcs5 1 (by omega))
      have m2:(w4.alloc (.cells (nA c0 c1 c2' c3 c4 c5 c6 c7 c8) 25)).cell? (qa ga (i * 5 + 2)) = some (.string y2):=(ow5.cellAt (i * 5 + 2) (by omega)).trans (hcs5 2 (by omega))
      have m3:(w4.alloc (.cells (nA c0 c1 c2' c3 c4 c5 c6 c7 c8) 25)).cell? (qa ga (i * 5 + 3)) = some (.slice y3 y4 y5):=(ow5.cellAt (i * 5 + 3) (by omega)).trans (hcs5 3 (by omega))
      have m4:(w4.alloc (.cells (nA c0 c1 c2' c3 c4 c5 c6 c7 c8) 25)).cell? (qa ga (i * 5 + 4)) = some (.slice y6 y7 y8):=(ow5.cellAt (i * 5 + 4) (by omega)).trans (hcs5 4 (by omega))
      have fk:=ok5.frozenAt i
      have fa0:=ow5.frozenAt (i * 5)
      have fa1:=ow5.frozenAt (i * 5 + 1)
      have fa2:=ow5.frozenAt (i * 5 + 2)
      have fa3:=ow5.frozenAt (i * 5 + 3)
      have fa4:=ow5.frozenAt (i * 5 + 4)
      have v63:(w4.alloc (.cells (nA c0 c1 c2' c3 c4 c5 c6 c7 c8) 25)).cell? (qa b6 3) = some (.slice (some (qa gk 0)) n kc2):=G6.out.cell 3
      have v64:(w4.alloc (.cells (nA c0 c1 c2' c3 c4 c5 c6 c7 c8) 25)).cell? (qa b6 4) = some (.slice (some (qa ga 0)) n c2):=G6.out.cell 4
      obtain ⟨d0,d1,d2,d3,d4⟩:=G12'.out.cells5
      have hw0:=HB.out.size
      have q1:¬ gk = b6:=by omega
      have q2:¬ ga = b6:=by omega
      have q3:¬ gk = b12:=by omega
      have q4:¬ ga = b12:=by omega
      have q5:¬ gk = ga:=hkg
      have q6:¬ ga = gk:=fun e => hkg e.symm
      have E1:=Lib.hid ((((((G6.out.far (p:=(qa gk i)) (by show _ ≠ gk;omega) (.string (tlS k))).far (p:=(qa ga (i * 5))) (by show _ ≠ ga;omega) (.int .i64 c0)).far (p:=(qa ga (i * 5 + 1))) (by show _ ≠ ga;omega) (.int .i64 c1)).far (p:=(qa ga (i * 5 + 2))) (by show _ ≠ ga;omega) (.string c2')).far (p:=(qa ga (i * 5 + 3))) (by show _ ≠ ga;omega) (.slice c3 c4 c5)).far (p:=(qa ga (i * 5 + 4))) (by show _ ≠ ga;omega) (.slice c6 c7 c8))
      have E2:=Lib.hid ((((((G6.out.far (p:=(qa ga (i * 5))) (by show _ ≠ ga;omega) (.int .i64 c0)).far (p:=(qa ga (i * 5 + 1))) (by show _ ≠ ga;omega) (.int .i64 c1)).far (p:=(qa ga (i * 5 + 2))) (by show _ ≠ ga;omega) (.string c2')).far (p:=(qa ga (i * 5 + 3))) (by show _ ≠ ga;omega) (.slice c3 c4 c5)).far (p:=(qa ga (i * 5 + 4))) (by show _ ≠ ga;omega) (.slice c6 c7 c8)).far (p:=(qa gk i)) (by show _ ≠ gk;omega) (.string (tlS k)))
      have E3:=Lib.hid ((((((G2.out.far (p:=(qa gk i)) (by show _ ≠ gk;omega) (.string (tlS k))).far (p:=(qa ga (i * 5))) (by show _ ≠ ga;omega) (.int .i64 c0)).far (p:=(qa ga (i * 5 + 1))) (by show _ ≠ ga;omega) (.int .i64 c1)).far (p:=(qa ga (i * 5 + 2))) (by show _ ≠ ga;omega) (.string c2')).far (p:=(qa ga (i * 5 + 3))) (by show _ ≠ ga;omega) (.slice c3 c4 c5)).far (p:=(qa ga (i * 5 + 4))) (by show _ ≠ ga;omega) (.slice c6 c7 c8))
      have E4:=Lib.hid ((((((G2.out.far (p:=(qa ga (i * 5))) (by show _ ≠ ga;omega) (.int .i64 c0)).far (p:=(qa ga (i * 5 + 1))) (by show _ ≠ ga;omega) (.int .i64 c1)).far (p:=(qa ga (i * 5 + 2))) (by show _ ≠ ga;omega) (.string c2')).far (p:=(qa ga (i * 5 + 3))) (by show _ ≠ ga;omega) (.slice c3 c4 c5)).far (p:=(qa ga (i * 5 + 4))) (by show _ ≠ ga;omega) (.slice c6 c7 c8)).far (p:=(qa gk i)) (by show _ ≠ gk;omega) (.string (tlS k)))
      have E5:=Lib.hid ((((((G4.out.far (p:=(qa gk i)) (by show _ ≠ gk;omega) (.string (tlS k))).far (p:=(qa ga (i * 5))) (by show _ ≠ ga;omega) (.int .i64 c0)).far (p:=(qa ga (i * 5 + 1))) (by show _ ≠ ga;omega) (.int .i64 c1)).far (p:=(qa ga (i * 5 + 2))) (by show _ ≠ ga;omega) (.string c2')).far (p:=(qa ga (i * 5 + 3))) (by show _ ≠ ga;omega) (.slice c3 c4 c5)).far (p:=(qa ga (i * 5 + 4))) (by show _ ≠ ga;omega) (.slice c6 c7 c8))
      have E6:=Lib.hid ((((((G4.out.far (p:=(qa ga (i * 5))) (by show _ ≠ ga;omega) (.int .i64 c0)).far (p:=(qa ga (i * 5 + 1))) (by show _ ≠ ga;omega) (.int .i64 c1)).far (p:=(qa ga (i * 5 + 2))) (by show _ ≠ ga;omega) (.string c2')).far (p:=(qa ga (i * 5 + 3))) (by show _ ≠ ga;omega) (.slice c3 c4 c5)).far (p:=(qa ga (i * 5 + 4))) (by show _ ≠ ga;omega) (.slice c6 c7 c8)).far (p:=(qa gk i)) (by show _ ≠ gk;omega) (.string (tlS k)))
      have E7:=Lib.hid ((((((GB.out.setCell (p:=(qa gk i)) (by show w.heap.size ≤ gk;omega) (.string (tlS k))).setCell (p:=(qa ga (i * 5))) (by show w.heap.size ≤ ga;omega) (.int .i64 c0)).setCell (p:=(qa ga (i * 5 + 1))) (by show w.heap.size ≤ ga;omega) (.int .i64 c1)).setCell (p:=(qa ga (i * 5 + 2))) (by show w.heap.size ≤ ga;omega) (.string c2')).setCell (p:=(qa ga (i * 5 + 3))) (by show w.heap.size ≤ ga;omega) (.slice c3 c4 c5)).setCell (p:=(qa ga (i * 5 + 4))) (by show w.heap.size ≤ ga;omega) (.slice c6 c7 c8))
      have E8:=Lib.hid ((((((GB.out.setCell (p:=(qa ga (i * 5))) (by show w.heap.size ≤ ga;omega) (.int .i64 c0)).setCell (p:=(qa ga (i * 5 + 1))) (by show w.heap.size ≤ ga;omega) (.int .i64 c1)).setCell (p:=(qa ga (i * 5 + 2))) (by show w.heap.size ≤ ga;omega) (.string c2')).setCell (p:=(qa ga (i * 5 + 3))) (by show w.heap.size ≤ ga;omega) (.slice c3 c4 c5)).setCell (p:=(qa ga (i * 5 + 4))) (by show w.heap.size ≤ ga;omega) (.slice c6 c7 c8)).setCell (p:=(qa gk i)) (by show w.heap.size ≤ gk;omega) (.string (tlS k)))
      clear hrn hnx hnx2 hS hS2 eK eN ok5 ow5 hnd5 hcs5 hri5 hr hal hb4 HRI hLK hLN
      clear B6 B2 B4 G6 G2 G4 G12 HB GB HEQ HKZ
      rw [← hb12] at hsal hs4
      go_wp2_with fail
      rw [← hb12]
      clear hb12
      generalize w4.alloc (.cells (nA c0 c1 c2' c3 c4 c5 c6 c7 c8) 25) = W5 at *
      go_region
      all_goals
       go_wp2_with fail
       go_roundw
       case rel => exact ⟨i + 1,aK ++ [tlS k],aN ++ [x],_,by omega,by simp [ha],by simp [hb'],by go_num,HEQ2,HKZ2,P1.out.below (Below.refl _ _).drew,E1.out.drew,E3.out.drew,E5.out.drew,E7.out.drew⟩
       case measure => simp [intOf];omega
  ·obtain rfl:i = n:=by omega
   have HV:Hid (resAcc R ks ks ns [] [] = .ok (.mk 7 0 ⟨#[]⟩ aK aN)):=by show _ = _;rw [HEQ.out];exact resAcc_end _ _ _ _ _ _ (.inl (List.drop_eq_nil_of_le (by rw [HKL.out];exact Nat.le_refl _)))
   have e1:aK ++ ks.drop i = aK:=by rw [List.drop_eq_nil_of_le (by rw [HKL.out];exact Nat.le_refl _),List.append_nil]
   have e2:aN ++ ns.drop i = aN:=by rw [List.drop_eq_nil_of_le (by rw [HNL.out];exact Nat.le_refl _),List.append_nil]
   rw [e1] at HRI HKZ
   rw [e2] at HRI
   have i1:¬ (i:Int) < (i:Int):=by omega
   obtain ⟨v0,v1,v2,v3,v4⟩:=B6.out.cells5
   obtain ⟨p0',p1',p2',p3',p4'⟩:=B4.out.cells5
   have f0:=B4.out.frozen 0
   have f1:=B4.out.frozen 1
   have f2:=B4.out.frozen 2
   have f3:=B4.out.frozen 3
   have f4:=B4.out.frozen 4
   clear ok ow hLK hLN e1 e2 HRF HCN HCP HKS HLK HLA
   go_wp2_with fail
   clear p0' p1' p2' p3' p4' f0 f1 f2 f3 f4 v0 v1 v2 v3 v4
   have HFB:=Lib.hid (((((HB.out.setCell (p:=(qa (w.heap.size + 1) 0)) (by show w.heap.size ≤ w.heap.size + 1;omega) (.int .i64 7)).setCell (p:=(qa (w.heap.size + 1) 1)) (by show w.heap.size ≤ w.heap.size + 1;omega) (.int .i64 0)).setCell (p:=(qa (w.heap.size + 1) 2)) (by show w.heap.size ≤ w.heap.size + 1;omega) (.string ⟨#[]⟩)).setCell (p:=(qa (w.heap.size + 1) 3)) (by show w.heap.size ≤ w.heap.size + 1;omega) (.slice K2 i kc2)).setCell (p:=(qa (w.heap.size + 1) 4)) (by show w.heap.size ≤ w.heap.size + 1;omega) (.slice A2 i c2))
   have HF4:=Lib.hid (((((B4.out.set_ 0 (.int .i64 7)).set_ 1 (.int .i64 0)).set_ 2 (.string ⟨#[]⟩)).set_ 3 (.slice K2 i kc2)).set_ 4 (.slice A2 i c2))
   have HFR:=Lib.hid (((((HRI.out.box (b:=w.heap.size + 1) 0 (.int .i64 7) (Nat.zero_le _) (by omega)).box (b:=w.heap.size + 1) 1 (.int .i64 0) (Nat.zero_le _) (by omega)).box (b:=w.heap.size + 1) 2 (.string ⟨#[]⟩) (Nat.zero_le _) (by omega)).box (b:=w.heap.size + 1) 3 (.slice K2 i kc2) (Nat.zero_le _) (by omega)).box (b:=w.heap.size + 1) 4 (.slice A2 i c2) (Nat.zero_le _) (by omega))
   generalize (((((wo.setCell (qa (w.heap.size + 1) 0) (.int .i64 7)).setCell (qa (w.heap.size + 1) 1) (.int .i64 0)).setCell (qa (w.heap.size + 1) 2) (.string ⟨#[]⟩)).setCell (qa (w.heap.size + 1) 3) (.slice K2 i kc2)).setCell (qa (w.heap.size + 1) 4) (.slice A2 i c2)) = WF at *
   obtain ⟨q0,q1,q2,q3,q4⟩:=HF4.out.cells5
   refine bodyPost_ret (v:=.tuple #[.agg #[.int .i64 7,.int .i64 0,.string ⟨#[]⟩,.slice K2 i kc2,.slice A2 i c2],.string ⟨#[]⟩]) (by simp [results,Tryd.results9,go_sem,q0,q1,q2,q3,q4]) rfl ?_
   rw [HV.out]
   have hfin:=HFR.out.is HKZ.out
   rw [ha,hb'] at hfin
   exact ⟨_,_,_,_,_,_,_,_,_,rfl,hfin,HFB.out⟩
theorem sizeOk_txt {n:Nd} (h:sizeOk n):n.text.size ≤ 1000000000:=by
 cases n;unfold sizeOk at h;exact h.2.1
theorem textO_size {n:Nd} {x t:ByteArray} (hs:sizeOk n) (h:textO n x = some t):t.size ≤ 1000000000:=by
 unfold textO at h
 split at h
 ·cases h
 ·rename_i k hk
  split at h
  ·injection h with h
   subst h
   obtain ⟨i,hi⟩:=findN_kid hk
   exact sizeOk_txt (kid_ok hi hs).1
  ·cases h
theorem resN_bad {n:Nd} {l:List Cl} (h:n.kind ≠ 7 ∨ n.keys.length ≠ n.kids.length):resN n l = .error badA:=by unfold resN;rw [if_pos h]
theorem resN_ok {n:Nd} {l:List Cl} (h:n.kind = 7) (h2:n.keys.length = n.kids.length):resN n l = resAcc (fun m => referO m.kids.length m l) n.keys n.keys n.kids [] []:=by unfold resN;rw [if_neg (by rw [h,h2];simp)]
def clJ (l:List Cl) (j:Nat):Cl:=l.getD j ⟨⟨#[]⟩,nd0 0,⟨#[]⟩⟩
theorem clJ_at {l:List Cl} {j:Nat} (h:j < l.length):l[j]? = some (clJ l j):=by
 unfold clJ;rw [List.getD_eq_getElem?_getD,List.getElem?_eq_getElem h];rfl
theorem clJ_eq {l:List Cl} {j:Nat} {c:Cl} (h:l[j]? = some c):clJ l j = c:=by
 unfold clJ;rw [List.getD_eq_getElem?_getD,h];rfl
theorem kreferred_any (n:Nd) (l:List Cl) (A:Option Addr) (cap:Nat) (xs cs:List Value) (w:World) (B:Nat) (hn:NdIs w B n cs) (hB:B ≤ w.heap.size) (hs:sizeOk n) (hL:Reads w w.heap.size 7 A l.length xs) (hC:ClsIs w w.heap.size l xs) (hl:l.length ≤ 1000000)
  (hok:∀ d ∈ l,sizeOk d.args ∧ d.args.count ≤ 1000000) (hM:MaxOK w):Calls Tryd.prog 25 #[.agg cs.toArray,.slice A l.length cap] w (RfP (referO n.kids.length n l) w):=by
 obtain ⟨A1,ck,A2,c,ys,rfl, -⟩:=hn.open_
 have hT:∀ (x:ByteArray) (V:Option ByteArray),textO n x = V → Hid (∀ w',Below w.heap.size w w' → Calls Tryd.prog 38 #[.agg (nA n.kind n.num n.text A1 n.keys.length ck A2 n.kids.length c),.string x] w' (TextP V w')):=fun x V hV w' h => by
  have h1:=kText_any n x _ w' B (hn.below (h.mono hB)) (Nat.le_trans hB h.size) hs
  rw [hV] at h1
  exact h1
 cases h1:textO n rofS with
 | none =>
  rw [refer_a h1]
  exact refer_no1 ⟨#[]⟩ _ _ _ _ _ _ _ _ _ _ _ _ _ w _ _ _ (hT _ _ h1) (hT _ _ rfl) (hT _ _ rfl)
 | some id =>
  cases h2:textO n rnmS with
  | none =>
   rw [refer_b h2]
   exact refer_no2 id ⟨#[]⟩ _ true _ _ _ _ _ _ _ _ _ _ w _ _ _ (hT _ _ h1) (hT _ _ h2) (hT _ _ rfl)
  | some nm =>
   cases h3:textO n rpaS with
   | none =>
    rw [refer_c h3]
    exact refer_no3 id nm ⟨#[]⟩ true true _ _ _ _ _ _ _ _ _ w _ _ _ (hT _ _ h1) (hT _ _ h2) (hT _ _ h3)
   | some pa =>
    by_cases h4:n.kids.length = 3
    case neg =>
     rw [refer_m h4]
     exact refer_no4 id nm pa true true _ _ _ _ _ _ _ _ _ w _ _ _ (hT _ _ h1) (hT _ _ h2) (hT _ _ h3) h4
    have hps:=textO_size hs h3
    have t1:=hT _ _ h1
    have t2:=hT _ _ h2
    have t3:=hT _ _ h3
    rw [refer_3 h1 h2 h3 h4]
    rw [h4] at t1 t2 t3 ⊢
    have hA:0 < l.length → ∃ b off,A = some (qa b off) ∧ b < w.heap.size ∧ ∀ j,j < l.length * 7 → w.cell? (qa b (off + j)) = some (xs.getD j undef):=fun h0 => by
     obtain ⟨ad,e,hb,hc⟩:=hL.2 h0
     have hx:0 < xs.length:=by rw [hL.1];omega
     have hsp:=spot_none (hc 0 xs[0] (List.getElem?_eq_getElem hx))
     obtain ⟨b,off,sp⟩:=ad
     have hs0:sp = none:=by
      unfold Addr.add at hsp
      split at hsp <;> simp_all
     subst hs0
     refine ⟨b,off,e,hb,fun j hj => ?_⟩
     have hjx:j < xs.length:=by rw [hL.1];exact hj
     have h:=hc j _ (List.getElem?_eq_getElem hjx)
     rw [show ((qa b off):Addr).add j = (qa b (off + j)) by unfold Addr.add;split <;> simp_all] at h
     rw [h,List.getD_eq_getElem?_getD,List.getElem?_eq_getElem hjx];rfl
    refine refer_walk id nm pa _ _ _ _ _ _ _ _ w l.length cap A (fun j => xs.getD j undef) (fun j => (clJ l j).id) (fun j => (clJ l j).name) (fun j => (clJ l j).args) (fun j => pointN (clJ l j).args pa) (backO id nm pa l) t1 t2 t3 hl ?_ ?_ ?_ ?_ (fun j => pointN_iff _ _) ?_ ?_
    ·exact fun h0 => by obtain ⟨b,off,e,hb,_⟩:=hA h0;exact ⟨b,off,e,hb⟩
    ·intro b off e j hj
     obtain ⟨b',off',e',_,hc⟩:=hA (by omega)
     rw [e] at e'
     injection e' with e'
     injection e' with e1 e2 _
     subst e1
     subst e2
     exact hc j hj
    ·intro j hj
     obtain ⟨cs,k1,k2⟩:=ClsIs.at_ l xs j (clJ l j) hC (clJ_at hj)
     obtain ⟨x0,x1,x2,x3,x4,x5,x6,x7,x8,rfl⟩:=(NdIs.in_ _ _ k1).form
     have g:∀ i v,i < 7 → (Value.string (clJ l j).name :: ((nL x0 x1 x2 x3 x4 x5 x6 x7 x8) ++ [Value.string (clJ l j).id]))[i]? = some v → xs.getD (j * 7 + i) undef = v:=fun i v hi hv => by
      rw [List.getD_eq_getElem?_getD,k2 i hi,hv];rfl
     exact ⟨x0,x1,x2,x3,x4,x5,x6,x7,x8,k1,g 0 _ (by omega) rfl,g 1 _ (by omega) rfl,g 2 _ (by omega) rfl,g 3 _ (by omega) rfl,g 4 _ (by omega) rfl,g 5 _ (by omega) rfl,g 6 _ (by omega) rfl⟩
    ·intro j cs w' hj k1 k2
     obtain ⟨o1,o2⟩:=hok (clJ l j) (List.mem_of_getElem? (clJ_at hj))
     exact pGet_any _ pa cs w' w.heap.size k1 k2.size o1 o2 (by omega) (hM.below k2)
    ·exact fun h => back_none fun j c hj => by
      have h5:hitB id nm (clJ l j) = false:=h j (List.getElem?_eq_some_iff.1 hj).1
      rw [clJ_eq hj] at h5
      exact h5
    ·exact fun i hi h5 h6 => back_some (clJ_at hi) h5 fun j c hij hj => by
      have h7:hitB id nm (clJ l j) = false:=h6 j hij (List.getElem?_eq_some_iff.1 hj).1
      rw [clJ_eq hj] at h7
      exact h7
set_option maxRecDepth 100000 in
theorem kResolve_any (n:Nd) (l:List Cl) (A:Option Addr) (cap:Nat) (xs cs:List Value) (w:World) (B:Nat) (hn:NdIs w B n cs) (hB:B ≤ w.heap.size) (hs:sizeOk n) (hL:Reads w w.heap.size 7 A l.length xs) (hC:ClsIs w w.heap.size l xs) (hl:l.length ≤ 1000000)
  (hok:∀ d ∈ l,sizeOk d.args ∧ d.args.count ≤ 1000000) (hM:MaxOK w):Calls Tryd.prog 9 #[.agg cs.toArray,.slice A l.length cap] w (ResP (resN n l) w):=by
 cases n with
 | mk k num t ks ns =>
  unfold NdIs at hn
  obtain ⟨K,kc,A2,c,ys,rfl,hks,hxs,hns,ik,inn,ht,hkl,hk1,hk2⟩:=hn
  unfold sizeOk at hs
  obtain ⟨s1,s2,s3,s4,s5⟩:=hs
  by_cases h7:k = 7
  case neg =>
   rw [resN_bad (n:=.mk k num t ks ns) (.inl h7)]
   exact (kres_kind k num t K ks.length kc A2 ns.length c w A l.length cap h7).mono (fun e w' ⟨he,hb⟩ => by rw [he];exact ResP.bad rfl hb)
  subst h7
  by_cases hll:ks.length = ns.length
  case neg =>
   rw [resN_bad (n:=.mk 7 num t ks ns) (.inr hll)]
   exact (kres_len num t K ks.length kc A2 ns.length c w A l.length cap hll).mono (fun e w' ⟨he,hb⟩ => by rw [he];exact ResP.bad rfl hb)
  rw [resN_ok (n:=.mk 7 num t ks ns) rfl hll]
  have hobj:sizeOk (.mk 7 0 ⟨#[]⟩ [⟨#[]⟩] [.mk 7 0 ⟨#[]⟩ ks ns]):=by
   have hin:sizeOk (.mk 7 0 ⟨#[]⟩ ks ns):=by unfold sizeOk;exact ⟨by omega,by decide,s3,s4,s5⟩
   unfold sizeOk
   exact ⟨by omega,by decide,(by intro s hs;simp at hs;subst hs;decide),by simp,(by unfold sizeOkL;exact ⟨hin,by unfold sizeOkL;trivial⟩)⟩
  have hIs:∀ w',Below w.heap.size w w' → NdIs w' w.heap.size (.mk 7 0 ⟨#[]⟩ ks ns) [.int .i64 7,.int .i64 0,.string ⟨#[]⟩,.slice K ks.length kc,.slice A2 ns.length c]:=fun w' hb => by
   refine NdIs.below (NdIs.more hB _ _ ?_) hb
   unfold NdIs
   exact ⟨K,kc,A2,c,ys,rfl,hks,hxs,hns,by unfold I64;omega,by unfold I64;omega,by decide,hkl,hk1,hk2⟩
  have hW:=kres_walk num t ks ns K kc A2 c w ks.length rfl hll.symm s4.1 A l.length cap (fun m => referO m.kids.length m l) ?_ ?_ ?_ ?_ ?_ (Lib.hid hkl)
  ·rw [hll] at hW ⊢
   exact hW
  ·intro w' hb
   have hsz:=hb.size
   have hal:Below w'.heap.size w' (w'.alloc (.cells #[.int .i64 5,.int .i64 0,.string ⟨#[]⟩,.slice none 0 0,.slice none 0 0,.int .i64 7,.int .i64 0,.string ⟨#[]⟩,.slice K ks.length kc,.slice A2 ks.length c] 25)):=(Below.refl _ _).alloc (Nat.le_refl _) _
   refine kObj_any [.mk 5 0 ⟨#[]⟩ [] [],.mk 7 0 ⟨#[]⟩ ks ns] (some (qa w'.heap.size 0)) 2 [.int .i64 5,.int .i64 0,.string ⟨#[]⟩,.slice none 0 0,.slice none 0 0,.int .i64 7,.int .i64 0,.string ⟨#[]⟩,.slice K ks.length kc,.slice A2 ks.length c] _ ?_ ?_ (by simp)
   ·refine ⟨rfl,fun _ => ⟨_,rfl,by simp,fun j u hj => ?_⟩⟩
    have e:((qa w'.heap.size 0):Addr).add j = (qa w'.heap.size j):=by unfold Addr.add;split <;> simp_all
    rw [e,World.cell?_alloc_mark]
    simpa using hj
   ·unfold NdsIs
    refine ⟨[.int .i64 5,.int .i64 0,.string ⟨#[]⟩,.slice none 0 0,.slice none 0 0],[.int .i64 7,.int .i64 0,.string ⟨#[]⟩,.slice K ks.length kc,.slice A2 ks.length c],rfl,NdIn.is (S:=fun _ => False) (fun _ h => h.elim) _ _ (nd0_in 5 (by unfold I64;omega) _ _),?_⟩
    unfold NdsIs
    refine ⟨[.int .i64 7,.int .i64 0,.string ⟨#[]⟩,.slice K ks.length kc,.slice A2 ks.length c],[],rfl,?_,by unfold NdsIs;rfl⟩
    have h:=hIs w' hb
    rw [← hll] at h
    exact NdIs.more (by simp;omega) _ _ (h.below (hal.mono hsz))
  ·intro w' cs' hcs
   exact cFind_own _ ⟨#[]⟩ cs' w' w'.heap.size hcs (Nat.le_refl _) hobj 7 0 ⟨#[]⟩ ks ns (by simp [findN,idxK,List.findIdx?_cons])
  ·intro w' x hb
   have h:=contains_any ks x K kc B w' (hks.keep fun p hp => hb.cell (by omega)) (by omega)
   rw [idxI_some] at h
   exact h
  ·exact fun k w' => Tryd.strings_CutPrefix k ⟨#[35]⟩ w'
  ·intro i m cs' w' hi hm hb
   have hsm:=sizeOkL_get ns i m hi s5
   exact kreferred_any m l A cap xs cs' w' w'.heap.size hm (Nat.le_refl _) hsm (RS.reads (S:=(· < w.heap.size)) (hL.keep fun p hp => hb.cell hp) (fun b h => Nat.lt_of_lt_of_le h hb.size)) (ClsIs.more hb.size _ _ (ClsIs.keep (fun p hp => hb.cell hp) _ _ hC)) hl hok (hM.below hb)
theorem NdIs.step {w w':World} {n:Nd} {cs:List Value} (h:NdIs w w.heap.size n cs) (hb:Below w.heap.size w w'):NdIs w' w'.heap.size n cs:=NdIs.more hb.size _ _ (h.below hb)
theorem bel_alloc {W w':World} {o:Obj} (h:Below W.heap.size W w'):Below W.heap.size W (w'.alloc o):=h.alloc h.size _
theorem bel_drew {W w':World} (h:Below W.heap.size W w'):Below W.heap.size W w'.drew:=h.drew
theorem bel_set {W w':World} {b k:Nat} {v:Value} (h:Below W.heap.size W w') (hb:W.heap.size ≤ b):Below W.heap.size W (w'.setCell (qa b k) v):=h.setCell (p:=(qa b k)) hb v
def N5 (a:Addr) (v0 v1 v2 v3 v4:Value) (w:World):Prop:=w.cell? a = some v0 ∧ w.cell? (qa a.block (a.off + 1)) = some v1 ∧ w.cell? (qa a.block (a.off + 2)) = some v2 ∧ w.cell? (qa a.block (a.off + 3)) = some v3 ∧ w.cell? (qa a.block (a.off + 4)) = some v4
theorem n5_below {a:Addr} {v0 v1 v2 v3 v4:Value} {w w':World} (h:N5 a v0 v1 v2 v3 v4 w) (hb:Below w.heap.size w w'):N5 a v0 v1 v2 v3 v4 w':=by
 obtain ⟨h1,h2,h3,h4,h5⟩:=h
 have f:∀ (p:Addr) (v:Value),w.cell? p = some v → w'.cell? p = some v:=fun p v h => (hb.cell (World.block_lt_of_cell? _ _ h)).trans h
 exact ⟨f _ _ h1,f _ _ h2,f _ _ h3,f _ _ h4,f _ _ h5⟩
def ZB (W w:World) (zb:Nat):Prop:=W.heap.size ≤ zb ∧ Blk w zb 25 Zn
theorem ZB.lo {W w:World} {zb:Nat} (h:ZB W w zb):W.heap.size ≤ zb:=h.1
theorem ZB.new {W w1:World} (h:Below W.heap.size W w1):ZB W (w1.alloc (.cells Zn 25)) w1.heap.size:=⟨h.size,Blk.new _ _ _⟩
theorem ZB.alloc {W w:World} {zb:Nat} {o:Obj} (h:ZB W w zb):ZB W (w.alloc o) zb:=⟨h.1,h.2.alloc _⟩
theorem ZB.drew {W w:World} {zb:Nat} (h:ZB W w zb):ZB W w.drew zb:=⟨h.1,h.2.drew⟩
theorem ZB.below {W w w':World} {zb:Nat} (h:ZB W w zb) (hb:Below w.heap.size w w'):ZB W w' zb:=⟨h.1,h.2.below hb h.2.lt⟩
def DoneAt (w:World) (D:Nat):Prop:=∃ xs,Reads w w.heap.size 7 (some (qa D 0)) doneL.length xs ∧ ClsIs w w.heap.size doneL xs
def ReT (r:ByteArray) (w:World) (e:Ending) (w':World):Prop:=∃ (c0 c1:Int) (c2:ByteArray) (c3:Option Addr) (c4 c5:Nat) (c6:Option Addr) (c7 c8:Nat),
 e = .returned (.tuple #[.agg (nA c0 c1 c2 c3 c4 c5 c6 c7 c8),.string r]) ∧ Below w.heap.size w w'
theorem alloc_sz_ (w:World) (o:Obj):(w.alloc o).heap.size = w.heap.size + 1:=by simp
theorem rpp_set {r:Option Nd × Int} {B:Nat} {w w2:World} {y:Nat} {a b c d e:Value} {e0 e1:Int} {e2:ByteArray} {e3:Option Addr} {e4 e5:Nat} {e6:Option Addr} {e7 e8:Nat} (hB:B ≤ w.heap.size) (hy:w.heap.size ≤ y) {wc:World} (hyc:y < wc.heap.size) (hwc:w.heap.size ≤ wc.heap.size)
  (hn:NdIn w2 (fun b => b < B ∨ Since wc w2 b) (r.1.getD (nd0 0)) (nL e0 e1 e2 e3 e4 e5 e6 e7 e8)):NdIn (set5 w2 y a b c d e) (fun q => q < B ∨ Since w (set5 w2 y a b c d e) q) (r.1.getD (nd0 0)) (nL e0 e1 e2 e3 e4 e5 e6 e7 e8):=
 set5_in hn (fun b hb => by
  rcases hb with hb | hb
  ·omega
  ·have:=hb.1;omega) (fun b hb => by
  rcases hb with hb | hb
  ·exact .inl hb
  ·exact .inr ⟨by have:=hb.1;omega,by rw [set5_size];exact hb.2⟩)
set_option maxRecDepth 100000 in
set_option maxHeartbeats 3000000 in
theorem rref_walk (s1 s2 s3:ByteArray) (b1 b2 b3:Bool) (x0 x1:Int) (x2:ByteArray) (x3:Option Addr) (x4 x5:Nat) (x6:Option Addr) (x7 x8:Nat) (w:World) (l:List Cl) (cap:Nat) (A:Option Addr) (xs:List Value) (B:Nat) (R:Option Nd)
  (HT1:Hid (∀ w',Below w.heap.size w w' → Calls Tryd.prog 41 #[.agg (nA x0 x1 x2 x3 x4 x5 x6 x7 x8),.string ⟨#[114,101,115,117,108,116,79,102]⟩] w' fun e w'' => e = .returned (.tuple #[.string s1,.bool b1]) ∧ Below w'.heap.size w' w''))
  (HT2:Hid (∀ w',Below w.heap.size w w' → Calls Tryd.prog 41 #[.agg (nA x0 x1 x2 x3 x4 x5 x6 x7 x8),.string ⟨#[110,97,109,101]⟩] w' fun e w'' => e = .returned (.tuple #[.string s2,.bool b2]) ∧ Below w'.heap.size w' w''))
  (HT3:Hid (∀ w',Below w.heap.size w w' → Calls Tryd.prog 41 #[.agg (nA x0 x1 x2 x3 x4 x5 x6 x7 x8),.string ⟨#[112,97,116,104]⟩] w' fun e w'' => e = .returned (.tuple #[.string s3,.bool b3]) ∧ Below w'.heap.size w' w''))
  (hB:B ≤ w.heap.size) (hL:Reads w B 7 A l.length xs) (hC:ClsIs w B l xs) (hl:l.length ≤ 1000000) (hok:∀ d ∈ l,sizeOk d.args ∧ d.args.count ≤ 1000000) (hp:s3.size ≤ 9223372036854775807)
  (hNo:(b1 = false ∨ b2 = false ∨ b3 = false ∨ x4 ≠ 3) → R = none) (hYes:b1 = true → b2 = true → b3 = true → x4 = 3 → R = backO s1 s2 s3 l) :
  Calls Tryd.prog 26 #[.agg (nA x0 x1 x2 x3 x4 x5 x6 x7 x8),.slice A l.length cap] w (ReferP R (· < B) w):=by
 have HA0:Hid (Below w.heap.size w ((w.alloc (.cells (nA x0 x1 x2 x3 x4 x5 x6 x7 x8) 25)).alloc (.cells Zn 25))):=bel_alloc (bel_alloc (Below.refl _ _))
 have X0:Hid (Blk ((w.alloc (.cells (nA x0 x1 x2 x3 x4 x5 x6 x7 x8) 25)).alloc (.cells Zn 25)) w.heap.size 25 (nA x0 x1 x2 x3 x4 x5 x6 x7 x8)):=(Blk.new w _ _).alloc _
 have X4:Hid (ZB w ((w.alloc (.cells (nA x0 x1 x2 x3 x4 x5 x6 x7 x8) 25)).alloc (.cells Zn 25)) (w.heap.size + 1)):=by
  have h:=ZB.new (bel_alloc (o:=.cells (nA x0 x1 x2 x3 x4 x5 x6 x7 x8) 25) (Below.refl w.heap.size w))
  rw [alloc_sz_] at h;exact h
 have HNO:=Lib.hid hNo;have HYES:=Lib.hid hYes;have HOK:=Lib.hid hok;have HL:=Lib.hid hL;have HC:=Lib.hid hC;have HPS:=Lib.hid hp;have HBW:=Lib.hid hB
 clear hNo hYes hok hL hC hp hB
 go_enter Tryd.func26,Tryd.ntmps26
 go_wp2_with fail
 refine (HT1.out _ HA0.out:Calls _ _ _ _ _).mono ?_;rintro e w1 ⟨rfl,hb⟩
 have HA1:=Lib.hid (nextB HA0.out hb)
 replace X0:=Lib.hid (X0.out.below hb X0.out.lt)
 replace X4:=Lib.hid (X4.out.below hb)
 clear hb HT1 HA0
 obtain ⟨y0,y1,y2,y3,y4⟩:=X0.out.cells5
 go_wp2_with fail
 clear y0 y1 y2 y3 y4
 refine (HT2.out _ HA1.out:Calls _ _ _ _ _).mono ?_;rintro e w2 ⟨rfl,hb⟩
 have HA2:=Lib.hid (nextB HA1.out hb)
 replace X0:=Lib.hid (X0.out.below hb X0.out.lt)
 replace X4:=Lib.hid (X4.out.below hb)
 clear hb HT2 HA1
 obtain ⟨y0,y1,y2,y3,y4⟩:=X0.out.cells5
 go_wp2_with fail
 clear y0 y1 y2 y3 y4
 refine (HT3.out _ HA2.out:Calls _ _ _ _ _).mono ?_;rintro e w3 ⟨rfl,hb⟩
 have HA3:=Lib.hid (nextB HA2.out hb)
 replace X0:=Lib.hid (X0.out.below hb X0.out.lt)
 replace X4:=Lib.hid (X4.out.below hb)
 clear hb HT3 HA2
 obtain ⟨y0,y1,y2,y3,y4⟩:=X0.out.cells5
 obtain ⟨p0,p1,p2,p3,p4⟩:=X4.out.2.cells5
 have f0:=X4.out.2.frozen 0
 have f1:=X4.out.2.frozen 1
 have f2:=X4.out.2.frozen 2
 have f3:=X4.out.2.frozen 3
 have f4:=X4.out.2.frozen 4
 have HF4:Hid (Blk (((((w3.setCell (qa (w.heap.size + 1) 0) (.int .i64 0)).setCell (qa (w.heap.size + 1) 1) (.int .i64 0)).setCell (qa (w.heap.size + 1) 2) (.string ⟨#[]⟩)).setCell (qa (w.heap.size + 1) 3) (.slice none 0 0)).setCell (qa (w.heap.size + 1) 4) (.slice none 0 0)) (w.heap.size + 1) 25 Zn):=set5_blk X4.out.2
 have HFB:Hid (Below w.heap.size w (((((w3.setCell (qa (w.heap.size + 1) 0) (.int .i64 0)).setCell (qa (w.heap.size + 1) 1) (.int .i64 0)).setCell (qa (w.heap.size + 1) 2) (.string ⟨#[]⟩)).setCell (qa (w.heap.size + 1) 3) (.slice none 0 0)).setCell (qa (w.heap.size + 1) 4) (.slice none 0 0))):=set5_below HA3.out (Nat.le_add_right _ _)
 cases b1 with
 | false =>
  have hR:R = none:=HNO.out (.inl rfl)
  clear HNO HYES HOK HL HC HPS HBW
  go_wp2_with fail
  clear p0 p1 p2 p3 p4 f0 f1 f2 f3 f4 y0 y1 y2 y3 y4
  generalize (((((w3.setCell (qa (w.heap.size + 1) 0) (.int .i64 0)).setCell (qa (w.heap.size + 1) 1) (.int .i64 0)).setCell (qa (w.heap.size + 1) 2) (.string ⟨#[]⟩)).setCell (qa (w.heap.size + 1) 3) (.slice none 0 0)).setCell (qa (w.heap.size + 1) 4) (.slice none 0 0)) = WF at *
  obtain ⟨q0,q1,q2,q3,q4⟩:=HF4.out.cells5
  refine bodyPost_ret (v:=.tuple #[.agg Zn,.bool false]) (by simp [results,Tryd.results26,go_sem,q0,q1,q2,q3,q4]) rfl ?_
  subst hR
  exact ⟨_,_,_,_,_,_,_,_,_,rfl,(fun m hm => by cases hm),HFB.out⟩
 | true =>
 cases b2 with
 | false =>
  have hR:R = none:=HNO.out (.inr (.inl rfl))
  clear HNO HYES HOK HL HC HPS HBW
  go_wp2_with fail
  clear p0 p1 p2 p3 p4 f0 f1 f2 f3 f4 y0 y1 y2 y3 y4
  generalize (((((w3.setCell (qa (w.heap.size + 1) 0) (.int .i64 0)).setCell (qa (w.heap.size + 1) 1) (.int .i64 0)).setCell (qa (w.heap.size + 1) 2) (.string ⟨#[]⟩)).setCell (qa (w.heap.size + 1) 3) (.slice none 0 0)).setCell (qa (w.heap.size + 1) 4) (.slice none 0 0)) = WF at *
  obtain ⟨q0,q1,q2,q3,q4⟩:=HF4.out.cells5
  refine bodyPost_ret (v:=.tuple #[.agg Zn,.bool false]) (by simp [results,Tryd.results26,go_sem,q0,q1,q2,q3,q4]) rfl ?_
  subst hR
  exact ⟨_,_,_,_,_,_,_,_,_,rfl,(fun m hm => by cases hm),HFB.out⟩
 | true =>
 cases b3 with
 | false =>
  have hR:R = none:=HNO.out (.inr (.inr (.inl rfl)))
  clear HNO HYES HOK HL HC HPS HBW
  go_wp2_with fail
  clear p0 p1 p2 p3 p4 f0 f1 f2 f3 f4 y0 y1 y2 y3 y4
  generalize (((((w3.setCell (qa (w.heap.size + 1) 0) (.int .i64 0)).setCell (qa (w.heap.size + 1) 1) (.int .i64 0)).setCell (qa (w.heap.size + 1) 2) (.string ⟨#[]⟩)).setCell (qa (w.heap.size + 1) 3) (.slice none 0 0)).setCell (qa (w.heap.size + 1) 4) (.slice none 0 0)) = WF at *
  obtain ⟨q0,q1,q2,q3,q4⟩:=HF4.out.cells5
  refine bodyPost_ret (v:=.tuple #[.agg Zn,.bool false]) (by simp [results,Tryd.results26,go_sem,q0,q1,q2,q3,q4]) rfl ?_
  subst hR
  exact ⟨_,_,_,_,_,_,_,_,_,rfl,(fun m hm => by cases hm),HFB.out⟩
 | true =>
 by_cases h3:x4 = 3
 case neg =>
  have n3:((x4:Int) != 3) = true:=by rw [bne_iff_ne];omega
  have hR:R = none:=HNO.out (.inr (.inr (.inr h3)))
  clear HNO HYES HOK HL HC HPS HBW
  go_wp2_with fail
  clear p0 p1 p2 p3 p4 f0 f1 f2 f3 f4 y0 y1 y2 y3 y4
  generalize (((((w3.setCell (qa (w.heap.size + 1) 0) (.int .i64 0)).setCell (qa (w.heap.size + 1) 1) (.int .i64 0)).setCell (qa (w.heap.size + 1) 2) (.string ⟨#[]⟩)).setCell (qa (w.heap.size + 1) 3) (.slice none 0 0)).setCell (qa (w.heap.size + 1) 4) (.slice none 0 0)) = WF at *
  obtain ⟨q0,q1,q2,q3,q4⟩:=HF4.out.cells5
  refine bodyPost_ret (v:=.tuple #[.agg Zn,.bool false]) (by simp [results,Tryd.results26,go_sem,q0,q1,q2,q3,q4]) rfl ?_
  subst hR
  exact ⟨_,_,_,_,_,_,_,_,_,rfl,(fun m hm => by cases hm),HFB.out⟩
 subst h3
 have hR:=HYES.out rfl rfl rfl rfl
 have HR:=Lib.hid hR
 clear hR HNO HYES
 have G0:Hid (∀ (j:Nat) (c:Cl),l.length ≤ j → l[j]? = some c → hitB s1 s2 c = false):=fun j c hj hc => by have:=(List.getElem?_eq_some_iff.1 hc).1;omega
 have z1:IntKind.i64.wrap ((l.length:Int) - 1) = (l.length:Int) - 1:=IntWalk.i64_in _ (by omega)
 go_wp2_with fail
 go_loopw [12] (fun t12 wr => ∃ i:Nat,i ≤ l.length ∧ t12 = .int .i64 ((i:Int) - 1) ∧ Hid (∀ (j:Nat) (c:Cl),i ≤ j → l[j]? = some c → hitB s1 s2 c = false) ∧ wr = w3) (fun t12 _ => (intOf t12 + 1).toNat)
 case atStart => exact ⟨l.length,Nat.le_refl _,rfl,G0,rfl⟩
 case round =>
  clear G0 z1
  obtain ⟨i,hi,rfl,hG,rfl⟩:=hrel
  match i,hi,hG with
  | 0,hi,hG =>
   have i1:¬ (0:Int) ≤ ((0:Nat):Int) - 1:=by omega
   have hR:R = none:=by rw [HR.out];exact back_none fun j c hc => hG.out j c (Nat.zero_le _) hc
   clear HR HOK HL HC HPS HBW hG
   go_wp2_with fail
   clear p0 p1 p2 p3 p4 f0 f1 f2 f3 f4 y0 y1 y2 y3 y4
   generalize (((((wr.setCell (qa (w.heap.size + 1) 0) (.int .i64 0)).setCell (qa (w.heap.size + 1) 1) (.int .i64 0)).setCell (qa (w.heap.size + 1) 2) (.string ⟨#[]⟩)).setCell (qa (w.heap.size + 1) 3) (.slice none 0 0)).setCell (qa (w.heap.size + 1) 4) (.slice none 0 0)) = WF at *
   obtain ⟨q0,q1,q2,q3,q4⟩:=HF4.out.cells5
   refine bodyPost_ret (v:=.tuple #[.agg Zn,.bool false]) (by simp [results,Tryd.results26,go_sem,q0,q1,q2,q3,q4]) rfl ?_
   subst hR
   exact ⟨_,_,_,_,_,_,_,_,_,rfl,(fun m hm => by cases hm),HFB.out⟩
  | i + 1,hi,hG =>
   have e0:((i + 1:Nat):Int) - 1 = (i:Int):=by omega
   rw [e0]
   have HKP:Hid (∀ p:Addr,p.block < B → wr.cell? p = w.cell? p):=fun p hp => HA3.out.cell (Nat.lt_of_lt_of_le hp HBW.out)
   have hLr:=HL.out.keep HKP.out
   have hCr:=ClsIs.keep HKP.out _ _ HC.out
   obtain ⟨ad,cl,c0,c1,c2,c3,c4,c5,c6,c7,c8,rfl,hadb,hci,hcn,a0,a1,a2,a3,a4,a5,a6⟩:=Reads.cl hLr hCr (show i < l.length by omega)
   have i0:(0:Int) ≤ (i:Int):=by omega
   have i1:(i:Int) < (l.length:Int):=by omega
   have z2:IntKind.i64.wrap ((i:Int) - 1) = (i:Int) - 1:=IntWalk.i64_in _ (by omega)
   have HCI:=Lib.hid hci
   have HCN:=Lib.hid hcn
   clear hLr hCr hci hcn
   have go_on:Hid (hitB s1 s2 cl = false → ∀ (j:Nat) (c:Cl),i ≤ j → l[j]? = some c → hitB s1 s2 c = false):=fun hh j c hj hc => by
    by_cases e:j = i
    ·subst e;rw [HCI.out] at hc;injection hc with hc;rw [← hc];exact hh
    ·exact hG.out j c (by omega) hc
   cases h1:(cl.id.toList == s1.toList) with
   | false =>
    have HG2:=Lib.hid (go_on.out (by unfold hitB;rw [h1];rfl))
    go_wp2_with fail
    go_roundw
    case rel => exact ⟨i,by omega,rfl,HG2,trivial⟩
    case measure => first | (simp [intOf];done) | (simp [intOf];omega)
   | true =>
    cases h2:(cl.name.toList == s2.toList) with
    | false =>
     have HG2:=Lib.hid (go_on.out (by unfold hitB;rw [h1,h2];rfl))
     go_wp2_with fail
     go_roundw
     case rel => exact ⟨i,by omega,rfl,HG2,trivial⟩
     case measure => first | (simp [intOf];done) | (simp [intOf];omega)
    | true =>
     have hR:R = (pointN cl.args s3).1:=by
      rw [HR.out]
      exact back_some HCI.out (by unfold hitB;rw [h1,h2];rfl) fun j c hj hc => hG.out j c (by omega) hc
     have HR2:=Lib.hid hR
     have HPT:=Lib.hid (rPoint_any cl.args s3 _ wr B HCN.out (Nat.le_trans HBW.out HA3.out.size) (HOK.out _ (List.mem_of_getElem? HCI.out)).1 (HOK.out _ (List.mem_of_getElem? HCI.out)).2 HPS.out)
     clear hR HR go_on hG HCN HCI HOK HL HC HPS y0 y1 y2 y3 y4
     go_wp2_with fail
     refine (HPT.out:Calls _ _ _ _ _).mono ?_;rintro e w4 ⟨e0',e1,e2,e3,e4,e5,e6,e7,e8,rfl,hn4,hb4⟩
     have hE:=bel_alloc (o:=.cells (nA e0' e1 e2 e3 e4 e5 e6 e7 e8) 25) (Below.refl w4.heap.size w4)
     have HZ5:=Lib.hid ((X4.out.below hb4).alloc (o:=.cells (nA e0' e1 e2 e3 e4 e5 e6 e7 e8) 25))
     have HA5:=Lib.hid (nextB (nextB HA3.out hb4) hE)
     have HN5:Hid (NdIn (w4.alloc (.cells (nA e0' e1 e2 e3 e4 e5 e6 e7 e8) 25)) (fun b => b < B ∨ Since wr (w4.alloc (.cells (nA e0' e1 e2 e3 e4 e5 e6 e7 e8) 25)) b) ((pointN cl.args s3).1.getD (nd0 0)) (nL e0' e1 e2 e3 e4 e5 e6 e7 e8)):=NdIn.keep (fun p hp => World.cell?_alloc_lt _ _ _ (by
      rcases hp with hp | hp
      ·have:=HBW.out;have:=HA3.out.size;have:=hb4.size;omega
      ·exact hp.2)) (fun b hb => hb.imp id fun h => ⟨h.1,Nat.lt_of_lt_of_le h.2 hE.size⟩) _ _ hn4
     have HRS:=Lib.hid (rpp_set (a:=.int .i64 e0') (b:=.int .i64 e1) (c:=.string e2) (d:=.slice e3 e4 e5) (e:=.slice e6 e7 e8) (y:=w.heap.size + 1) (wc:=wr) HBW.out (Nat.le_add_right _ _) X4.out.2.lt HA3.out.size HN5.out)
     have HF5:Hid (Blk (set5 (w4.alloc (.cells (nA e0' e1 e2 e3 e4 e5 e6 e7 e8) 25)) (w.heap.size + 1) (.int .i64 e0') (.int .i64 e1) (.string e2) (.slice e3 e4 e5) (.slice e6 e7 e8)) (w.heap.size + 1) 25 (nA e0' e1 e2 e3 e4 e5 e6 e7 e8)):=set5_blk HZ5.out.2
     have HFB5:Hid (Below w.heap.size w (set5 (w4.alloc (.cells (nA e0' e1 e2 e3 e4 e5 e6 e7 e8) 25)) (w.heap.size + 1) (.int .i64 e0') (.int .i64 e1) (.string e2) (.slice e3 e4 e5) (.slice e6 e7 e8))):=set5_below HA5.out (Nat.le_add_right _ _)
     unfold set5 at HRS HF5 HFB5
     clear p0 p1 p2 p3 p4 f0 f1 f2 f3 f4 a0 a1 a2 a3 a4 a5 a6 HPT
     obtain ⟨p0,p1,p2,p3,p4⟩:=HZ5.out.2.cells5
     have f0:=HZ5.out.2.frozen 0
     have f1:=HZ5.out.2.frozen 1
     have f2:=HZ5.out.2.frozen 2
     have f3:=HZ5.out.2.frozen 3
     have f4:=HZ5.out.2.frozen 4
     have hbb:=pointN_iff cl.args s3
     rw [← HR2.out] at hbb
     have HBB:=Lib.hid hbb
     clear hn4 hb4 hE HN5 HA5 hbb HF4 HFB
     go_wp2_with fail
     clear p0 p1 p2 p3 p4 f0 f1 f2 f3 f4
     generalize (((((w4.alloc (.cells (nA e0' e1 e2 e3 e4 e5 e6 e7 e8) 25)).setCell (qa (w.heap.size + 1) 0) (.int .i64 e0')).setCell (qa (w.heap.size + 1) 1) (.int .i64 e1)).setCell (qa (w.heap.size + 1) 2) (.string e2)).setCell (qa (w.heap.size + 1) 3) (.slice e3 e4 e5)).setCell (qa (w.heap.size + 1) 4) (.slice e6 e7 e8) = WF at *
     obtain ⟨q0,q1,q2,q3,q4⟩:=HF5.out.cells5
     refine bodyPost_ret (v:=.tuple #[.agg (nA e0' e1 e2 e3 e4 e5 e6 e7 e8),.bool ((pointN cl.args s3).2 == 0)]) (by simp [results,Tryd.results26,go_sem,q0,q1,q2,q3,q4]) rfl ?_
     refine ⟨_,_,_,_,_,_,_,_,_,by rw [HBB.out],fun m hm => ?_,HFB5.out⟩
     have h:=HRS.out
     rw [← HR2.out,hm] at h
     exact h
theorem rrefer_any (n:Nd) (l:List Cl) (A:Option Addr) (cap:Nat) (xs cs:List Value) (w:World) (B:Nat) (hn:NdIs w B n cs) (hB:B ≤ w.heap.size) (hs:sizeOk n) (hL:Reads w B 7 A l.length xs) (hC:ClsIs w B l xs) (hl:l.length ≤ 1000000)
  (hok:∀ d ∈ l,sizeOk d.args ∧ d.args.count ≤ 1000000):Calls Tryd.prog 26 #[.agg cs.toArray,.slice A l.length cap] w (ReferP (referO n.keys.length n l) (· < B) w):=by
 obtain ⟨A1,ck,A2,c,ys,rfl, -⟩:=hn.open_
 have hT:∀ (x:ByteArray),Hid (∀ w',Below w.heap.size w w' → Calls Tryd.prog 41 #[.agg (nA n.kind n.num n.text A1 n.keys.length ck A2 n.kids.length c),.string x] w' fun e w'' => e = .returned (.tuple #[.string ((textO n x).getD ⟨#[]⟩),.bool (textO n x).isSome]) ∧ Below w'.heap.size w' w''):=fun x w' h =>
  rText_any n x _ w' B (hn.below (h.mono hB)) (Nat.le_trans hB h.size)
 refine rref_walk _ _ _ _ _ _ _ _ _ _ _ _ _ _ _ w l cap A xs B (referO n.keys.length n l) (hT rofS) (hT rnmS) (hT rpaS) hB hL hC hl hok ?_ (fun h => ?_) (fun h1 h2 h3 h4 => ?_)
 ·cases h:textO n rpaS with
  | none => decide
  | some t => have:=textO_size hs h;show t.size ≤ _;omega
 ·rcases h with h | h | h | h
  ·exact refer_a (by cases hq:textO n rofS with | none => rfl | some t => rw [hq] at h;cases h)
  ·exact refer_b (by cases hq:textO n rnmS with | none => rfl | some t => rw [hq] at h;cases h)
  ·exact refer_c (by cases hq:textO n rpaS with | none => rfl | some t => rw [hq] at h;cases h)
  ·exact refer_m h
 ·obtain ⟨t1,e1⟩:=Option.isSome_iff_exists.1 h1
  obtain ⟨t2,e2⟩:=Option.isSome_iff_exists.1 h2
  obtain ⟨t3,e3⟩:=Option.isSome_iff_exists.1 h3
  rw [refer_3 e1 e2 e3 h4,e1,e2,e3];rfl
end Go.Proofs.YthbjehbpanhdoaaDoor
namespace Go.Proofs.YthbjehbpanhdoaaDoor
open Go.RowKit Go.PlainAid
set_option linter.unusedVariables false
set_option linter.unusedSimpArgs false
set_option maxRecDepth 100000
def listS:ByteArray:=⟨#[108,105,115,116]⟩
def vN (m:Int):Nd:=.mk 7 0 ⟨#[]⟩ [listS] [.mk 6 0 ⟨#[]⟩ [] [num4 1,num4 m,num4 3]]
def eObj:Nd:=.mk 7 0 ⟨#[]⟩ [] []
def doneP (m:Int):List Cl:=[⟨⟨#[109]⟩,eObj,⟨#[99]⟩⟩,⟨⟨#[109]⟩,vN m,⟨#[99]⟩⟩,⟨⟨#[111,116,104,101,114]⟩,eObj,⟨#[99]⟩⟩]
def pthS:ByteArray:=⟨#[47,108,105,115,116,47,49]⟩
def refP:Nd:=.mk 7 0 ⟨#[]⟩ [rpaS,rnmS,rofS] [strN pthS,strN ⟨#[109]⟩,strN ⟨#[99]⟩]
def moreN (n:Nd):Nd:=.mk 7 0 ⟨#[]⟩ (n.keys ++ [hxS]) (n.kids ++ [refP])
def plainK (k:ByteArray):Prop:=k ≠ xS ∧ hashB k = false
theorem hash_is {s:ByteArray} {u:UInt8} (h:s.toList[0]? = some u):hashB s = (u == 35):=by
 unfold hashB
 rw [ByteArray.toList_eq] at h
 cases hd:s.data.toList with
 | nil => rw [hd] at h;cases h
 | cons a l =>
  rw [hd] at h
  injection h with h
  subst h
  unfold Lib.hasPrefix
  simp [List.isPrefixOf]
  exact BEq.comm
theorem hash_yes {s:ByteArray} (h:0 < s.size) (h2:bt s 0 = 35):hashB s = true:=by
 obtain ⟨u,h3,h4⟩:=bt_get s 0 h
 rw [hash_is h3,beq_iff_eq]
 apply UInt8.toNat_inj.1
 show u.toNat = 35
 omega
theorem hash_no {s:ByteArray} (h:s.size = 0 ∨ bt s 0 ≠ 35):hashB s = false:=by
 by_cases h0:0 < s.size
 ·obtain ⟨u,h3,h4⟩:=bt_get s 0 h0
  rw [hash_is h3,beq_eq_false_iff_ne]
  intro e
  subst e
  rcases h with h | h
  ·omega
  ·exact h h4
 ·have e:s.data.toList = []:=List.eq_nil_of_length_eq_zero (by show s.data.toList.length = 0;rw [Array.length_toList];show s.size = 0;omega)
  unfold hashB
  rw [e]
  rfl
end Go.Proofs.YthbjehbpanhdoaaDoor
