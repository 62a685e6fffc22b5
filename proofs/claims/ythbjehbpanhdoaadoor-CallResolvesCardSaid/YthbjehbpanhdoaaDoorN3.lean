/- Texts of one seat,one behind the other: Find,Rfind,Text3,Pt0,Jr0,Pt1,Pt2,Pt3,Pt4. No condition. -/
import Derived.Test.YthbjehbpanhdoaaDoorN2
import Derived.Lib.Replace
import Derived.Lib.CountLaws
import Derived.Lib.ReplaceLaws
import Derived.Lib.SplitLaws
import Derived.Deep.LoopGhost
import Derived.Deep.RegionHeld3
namespace Go.Proofs.YthbjehbpanhdoaaDoor
open Go.RowKit Go.PlainAid
set_option linter.unusedVariables false
set_option linter.unusedSimpArgs false
def idxK (ks:List ByteArray) (x:ByteArray):Option Nat:=ks.findIdx? (fun s => x.toList == s.toList)
def idxI (ks:List ByteArray) (x:ByteArray):Int:=match idxK ks x with | none => -1 | some i => i
theorem idxK_none {ks:List ByteArray} {x:ByteArray} (h:∀ (j:Nat) (s:ByteArray),ks[j]? = some s → (x.toList == s.toList) = false):idxK ks x = none:=by
 unfold idxK
 rw [List.findIdx?_eq_none_iff]
 intro s hs
 obtain ⟨j,hj⟩:=List.getElem?_of_mem hs
 exact h j s hj
theorem idxK_some {ks:List ByteArray} {x:ByteArray} {i:Nat} {s:ByteArray} (hi:ks[i]? = some s) (hs:(x.toList == s.toList) = true) (h:∀ (j:Nat) (s:ByteArray),j < i → ks[j]? = some s → (x.toList == s.toList) = false):idxK ks x = some i:=by
 unfold idxK
 rw [List.findIdx?_eq_some_iff_getElem]
 obtain ⟨hl,he⟩:=List.getElem?_eq_some_iff.1 hi
 refine ⟨hl,by rw [he];exact hs,fun j hj => ?_⟩
 have:=h j ks[j] hj (List.getElem?_eq_getElem (by omega))
 simp [this]
theorem idxK_lt {ks:List ByteArray} {x:ByteArray} {i:Nat} (h:idxK ks x = some i):i < ks.length:=by
 unfold idxK at h
 rw [List.findIdx?_eq_some_iff_getElem] at h
 exact h.1
set_option maxRecDepth 100000 in
set_option maxHeartbeats 1000000 in
theorem sIndex_any (ks:List ByteArray) (x:ByteArray) (A:Option Addr) (ck B:Nat) (w:World) (hks:Reads w B 1 A ks.length (ks.map Value.string)) (hl:ks.length ≤ 9223372036854775807) :
  Calls Tryd.prog 35 #[.slice A ks.length ck,.string x] w fun e w' => e = .returned (.int .i64 (idxI ks x)) ∧ w = w':=by
 obtain ⟨V,hV⟩:∃ V,V = idxI ks x:=⟨_,rfl⟩
 rw [← hV]
 have HV:=Lib.hid hV
 have HKS:=Lib.hid hks
 clear hV hks
 go_enter Tryd.func35,Tryd.ntmps35
 go_wp2_with fail
 go_loop [8] (fun t => ∃ i:Nat,i ≤ ks.length ∧ t = .int .i64 i ∧ Hid (∀ (j:Nat) (s:ByteArray),j < i → ks[j]? = some s → (x.toList == s.toList) = false)) (fun t => ks.length - (intOf t).toNat)
 case atStart => exact ⟨0,by omega,rfl,fun j s hj => by omega⟩
 case round =>
  obtain ⟨i,hi,rfl,hno⟩:=hrel
  by_cases hlt:i < ks.length
  ·obtain ⟨ad,s,rfl,hadb,hs,hcell⟩:=HKS.out.str hlt
   have HS:=Lib.hid hs
   clear hs
   cases he:(x.toList == s.toList) with
   | true =>
    have HE:Hid (V = (i:Int)):=by show _ = _;rw [HV.out];unfold idxI;rw [idxK_some HS.out he hno.out]
    go_wp2_with fail
    go_ret
    exact ⟨by rw [HE.out];rfl,rfl⟩
   | false =>
    have hno2:Hid (∀ (j:Nat) (s:ByteArray),j < i + 1 → ks[j]? = some s → (x.toList == s.toList) = false):=fun j s' hj hs' => by
     by_cases e:j = i
     ·subst e;rw [HS.out] at hs';injection hs' with e2;subst e2;exact he
     ·exact hno.out j s' (by omega) hs'
    go_wp2_with fail
    go_round
    case rel => exact ⟨i + 1,by omega,by go_num,hno2⟩
    case measure => simp [intOf];omega
  ·have HE:Hid (V = -1):=by
    show _ = _
    rw [HV.out];unfold idxI
    rw [idxK_none (fun j s hj => hno.out j s (by have:=(List.getElem?_eq_some_iff.1 hj).1;omega) hj)]
   go_wp2_with fail
   go_ret
   exact ⟨by rw [HE.out];rfl,rfl⟩
def findN:Nd → ByteArray → Option Nd
 | .mk k _ _ ks ns,x => if k = 7 then match idxK ks x with | none => none | some i => ns[i]? else none
def FindP (r:Option Nd) (w:World) (e:Ending) (w':World):Prop:=∃ (c0 c1:Int) (c2:ByteArray) (c3:Option Addr) (c4 c5:Nat) (c6:Option Addr) (c7 c8:Nat),
 e = .returned (.tuple #[.agg (nA c0 c1 c2 c3 c4 c5 c6 c7 c8),.bool r.isSome]) ∧ NdIn w' (Since w w') (r.getD (nd0 0)) (nL c0 c1 c2 c3 c4 c5 c6 c7 c8) ∧ Below w.heap.size w w'
theorem nd0_in (k:Int) (hk:I64 k) (w:World) (S:Nat → Prop):NdIn w S (nd0 k) [.int .i64 k,.int .i64 0,.string ⟨#[]⟩,.slice none 0 0,.slice none 0 0]:=by
 unfold nd0 NdIn
 exact ⟨none,0,none,0,[],rfl,RS.none_,RS.none_,NdsIn.nil,hk,by unfold I64;omega,by (show (0:Nat) ≤ maxLen);exact Nat.zero_le _,by simp,by simp [maxLen],by simp [maxLen]⟩
set_option maxRecDepth 100000 in
set_option maxHeartbeats 3000000 in
theorem cFind_step (k num:Int) (t:ByteArray) (ks:List ByteArray) (ns:List Nd) (A A2:Option Addr) (ck cc:Nat) (xs:List Value) (x:ByteArray) (w:World) (B:Nat)
  (hks:Reads w B 1 A ks.length (ks.map Value.string)) (hxs:Reads w B 5 A2 ns.length xs) (hns:NdsIs w B ns xs) (hk1:ks.length ≤ 9223372036854775807) (hk2:ns.length ≤ 9223372036854775807)
  (hB:B ≤ w.heap.size) (HIH:Hid (CopyH B ns)) :
  Calls Tryd.prog 21 #[.agg (nA k num t A ks.length ck A2 ns.length cc),.string x] w (FindP (findN (.mk k num t ks ns) x) w):=by
 have HXS:=Lib.hid hxs
 have HNS:=Lib.hid hns
 have HIX:Hid (∀ w',Below w.heap.size w w' → Calls Tryd.prog 35 #[.slice A ks.length ck,.string x] w' fun e w'' => e = .returned (.int .i64 (idxI ks x)) ∧ w' = w''):=fun w' hb =>
  sIndex_any ks x A ck B w' (hks.keep fun p hp => hb.cell (by omega)) hk1
 have hA:Below w.heap.size w ((w.alloc (.cells (nA k num t A ks.length ck A2 ns.length cc) 25)).alloc (.cells Zn 25)):=((Below.refl _ _).alloc (Nat.le_refl _) _).alloc (by simp) _
 obtain ⟨r,hr⟩:∃ r,r = findN (.mk k num t ks ns) x:=⟨_,rfl⟩
 rw [← hr]
 have HR:=Lib.hid hr
 clear hks hxs hns hr
 by_cases h7:k = 7
 case neg =>
  have n7:(k != 7) = true:=by rw [bne_iff_ne];exact h7
  have e:Hid (r = none):=by show _ = _;rw [HR.out];simp [findN,h7]
  go_enter Tryd.func21,Tryd.ntmps21
  go_wp2_with fail
  refine bodyPost_ret (v:=.tuple #[.agg Zn,.bool false]) (by simp [results,Tryd.results21,go_sem]) rfl ?_
  rw [e.out]
  exact ⟨_,_,_,_,_,_,_,_,_,rfl,nd0_in 0 (by unfold I64;omega) _ _,hA⟩
 subst h7
 cases hi:idxK ks x with
 | none =>
  have e:Hid (r = none):=by show _ = _;rw [HR.out];simp [findN,hi]
  have e1:idxI ks x = -1:=by unfold idxI;rw [hi]
  rw [e1] at HIX
  clear e1 hi
  go_enter Tryd.func21,Tryd.ntmps21
  go_wp2_with fail
  refine (HIX.out _ hA).mono ?_;rintro e w1 ⟨rfl,hw⟩;obtain rfl:_ = w1:=hw
  go_wp2_with fail
  refine bodyPost_ret (v:=.tuple #[.agg Zn,.bool false]) (by simp [results,Tryd.results21,go_sem]) rfl ?_
  rw [e.out]
  exact ⟨_,_,_,_,_,_,_,_,_,rfl,nd0_in 0 (by unfold I64;omega) _ _,hA⟩
 | some i =>
  have e1:idxI ks x = i:=by unfold idxI;rw [hi]
  have hil:=idxK_lt hi
  have HI:=Lib.hid hi
  rw [e1] at HIX
  clear e1 hi
  by_cases hlt:i < ns.length
  case neg =>
   have e:Hid (r = none):=by show _ = _;rw [HR.out];simp [findN,HI.out];omega
   go_enter Tryd.func21,Tryd.ntmps21
   go_wp2_with fail
   refine (HIX.out _ hA).mono ?_;rintro e w1 ⟨rfl,hw⟩;obtain rfl:_ = w1:=hw
   go_wp2_with fail
   refine bodyPost_ret (v:=.tuple #[.agg Zn,.bool false]) (by simp [results,Tryd.results21,go_sem]) rfl ?_
   rw [e.out]
   exact ⟨_,_,_,_,_,_,_,_,_,rfl,nd0_in 0 (by unfold I64;omega) _ _,hA⟩
  obtain ⟨ad,n,v0,v1,v2,v3,v4,rfl,hadb,hni,hnd,e0,e1,e2,e3,e4⟩:=HXS.out.nd HNS.out hlt
  obtain ⟨x0,x1,x2,x3,x4,x5,x6,x7,x8,rfl,rfl,rfl,rfl,rfl⟩:=hnd.form
  have e:Hid (r = some n):=by show _ = _;rw [HR.out];simp only [findN,if_true,HI.out];exact hni
  have HC:=Lib.hid (HIH.out i n (nL x0 x1 x2 x3 x4 x5 x6 x7 x8) _ hni (hnd.below (hA.mono hB)) (by have:=hA.size;omega))
  have q0:¬ (ad.add (i * 5)).block = w.heap.size:=by rw [block_of_add];omega
  have q1:¬ (ad.add (i * 5)).block = w.heap.size + 1:=by rw [block_of_add];omega
  have q2:(ad.add (i * 5)).block < w.heap.size:=by rw [block_of_add];omega
  clear hni hnd
  go_enter Tryd.func21,Tryd.ntmps21
  go_wp2_with fail
  refine (HIX.out _ hA).mono ?_;rintro e w1 ⟨rfl,hw⟩;obtain rfl:_ = w1:=hw
  go_wp2_with fail
  refine (HC.out:Calls _ _ _ _ _).mono ?_;rintro e w2 ⟨c0,c1,c2,c3,c4,c5,c6,c7,c8,rfl,hnew,hw2⟩
  have hY:Blk w2 (w.heap.size + 1) 25 Zn:=by
   have h:=Blk.new (w.alloc (.cells #[.int .i64 7,.int .i64 num,.string t,.slice A ks.length ck,.slice (some ad) ns.length cc] 25)) 25 Zn
   have h2:=h.below hw2 (by simp)
   simpa using h2
  have hB2:=hA.trans (hw2.mono (by simp;omega))
  have hz2:w.heap.size + 2 ≤ w2.heap.size:=by have:=hw2.size;simp at this;omega
  obtain ⟨d0,d1,d2,d3,d4⟩:=hY.cells5
  have f0:=hY.frozen 0
  have f1:=hY.frozen 1
  have f2:=hY.frozen 2
  have f3:=hY.frozen 3
  have f4:=hY.frozen 4
  have hfin:Hid (Blk (((((w2.setCell (qa (w.heap.size + 1) 0) (.int .i64 c0)).setCell (qa (w.heap.size + 1) 1) (.int .i64 c1)).setCell (qa (w.heap.size + 1) 2) (.string c2)).setCell (qa (w.heap.size + 1) 3) (.slice c3 c4 c5)).setCell (qa (w.heap.size + 1) 4) (.slice c6 c7 c8)) (w.heap.size + 1) 25 (nA c0 c1 c2 c3 c4 c5 c6 c7 c8)):=(((((hY.set_ 0 _).set_ 1 _).set_ 2 _).set_ 3 _).set_ 4 _)
  have hbel:Hid (Below w.heap.size w (((((w2.setCell (qa (w.heap.size + 1) 0) (.int .i64 c0)).setCell (qa (w.heap.size + 1) 1) (.int .i64 c1)).setCell (qa (w.heap.size + 1) 2) (.string c2)).setCell (qa (w.heap.size + 1) 3) (.slice c3 c4 c5)).setCell (qa (w.heap.size + 1) 4) (.slice c6 c7 c8))):=((((hB2.setCell (p:=(qa (w.heap.size + 1) 0)) (by simp) _).setCell (p:=(qa (w.heap.size + 1) 1)) (by simp) _).setCell (p:=(qa (w.heap.size + 1) 2)) (by simp) _).setCell (p:=(qa (w.heap.size + 1) 3)) (by simp) _).setCell (p:=(qa (w.heap.size + 1) 4)) (by simp) _
  have hnd2:Hid (NdIn (((((w2.setCell (qa (w.heap.size + 1) 0) (.int .i64 c0)).setCell (qa (w.heap.size + 1) 1) (.int .i64 c1)).setCell (qa (w.heap.size + 1) 2) (.string c2)).setCell (qa (w.heap.size + 1) 3) (.slice c3 c4 c5)).setCell (qa (w.heap.size + 1) 4) (.slice c6 c7 c8)) (Since w (((((w2.setCell (qa (w.heap.size + 1) 0) (.int .i64 c0)).setCell (qa (w.heap.size + 1) 1) (.int .i64 c1)).setCell (qa (w.heap.size + 1) 2) (.string c2)).setCell (qa (w.heap.size + 1) 3) (.slice c3 c4 c5)).setCell (qa (w.heap.size + 1) 4) (.slice c6 c7 c8))) n (nL c0 c1 c2 c3 c4 c5 c6 c7 c8)):=by
   refine NdIn.keep (fun p hp => ?_) (fun b hb => ⟨by have:=hb.1;simp at this;omega,by simp;exact hb.2⟩) _ _ hnew
   have h1:=hp.1
   simp at h1
   have ne:∀ (g o:Nat),g < w.heap.size + 2 → ((qa g o):Addr) ≠ p:=fun g o hg e => by subst e;simp at h1;omega
   rw [World.cell?_setCell_other _ _ _ _ (ne _ _ (by omega)),World.cell?_setCell_other _ _ _ _ (ne _ _ (by omega)),World.cell?_setCell_other _ _ _ _ (ne _ _ (by omega)),World.cell?_setCell_other _ _ _ _ (ne _ _ (by omega)),World.cell?_setCell_other _ _ _ _ (ne _ _ (by omega))]
  have HFIN:=hfin.out
  clear hnew hw2 hB2 hY
  go_wp2_with fail
  clear hfin d0 d1 d2 d3 d4 f0 f1 f2 f3 f4
  generalize (((((w2.setCell (qa (w.heap.size + 1) 0) (.int .i64 c0)).setCell (qa (w.heap.size + 1) 1) (.int .i64 c1)).setCell (qa (w.heap.size + 1) 2) (.string c2)).setCell (qa (w.heap.size + 1) 3) (.slice c3 c4 c5)).setCell (qa (w.heap.size + 1) 4) (.slice c6 c7 c8)) = WF at *
  obtain ⟨q0,q1,q2,q3,q4⟩:=HFIN.cells5
  refine bodyPost_ret (v:=.tuple #[.agg (nA c0 c1 c2 c3 c4 c5 c6 c7 c8),.bool true]) (by simp [results,Tryd.results21,go_sem,q0,q1,q2,q3,q4]) rfl ?_
  rw [e.out]
  exact ⟨_,_,_,_,_,_,_,_,_,rfl,hnd2.out,hbel.out⟩
theorem cFind_any (n:Nd) (x:ByteArray) (cs:List Value) (w:World) (B:Nat) (hn:NdIs w B n cs) (hB:B ≤ w.heap.size) (hs:sizeOk n):Calls Tryd.prog 21 #[.agg cs.toArray,.string x] w (FindP (findN n x) w):=by
 cases n with
 | mk k num t ks ns =>
  unfold NdIs at hn
  obtain ⟨A,ck,A2,cc,xs,rfl,hks,hxs,hns,ik,inn,ht,hkl,hk,hmm⟩:=hn
  unfold sizeOk at hs
  exact cFind_step k num t ks ns A A2 ck cc xs x w B hks hxs hns hk hmm hB (Lib.hid fun i n cs w' h1 h2 h3 => copied_any n.count n (Nat.le_refl _) B cs w' h2 h3 (sizeOkL_get ns i n h1 hs.2.2.2.2))
def RfindP (r:Option Nd) (B:Nat) (w:World) (e:Ending) (w':World):Prop:=∃ (c0 c1:Int) (c2:ByteArray) (c3:Option Addr) (c4 c5:Nat) (c6:Option Addr) (c7 c8:Nat),
 e = .returned (.tuple #[.agg (nA c0 c1 c2 c3 c4 c5 c6 c7 c8),.bool r.isSome]) ∧ NdIs w' B (r.getD (nd0 0)) (nL c0 c1 c2 c3 c4 c5 c6 c7 c8) ∧ Below w.heap.size w w'
theorem sym_beq (a b:List UInt8):(a == b) = (b == a):=by
 rw [Bool.eq_iff_iff,beq_iff_eq,beq_iff_eq];exact eq_comm
set_option maxRecDepth 100000 in
set_option maxHeartbeats 3000000 in
theorem rFind_step (k num:Int) (t:ByteArray) (ks:List ByteArray) (ns:List Nd) (A A2:Option Addr) (ck cc:Nat) (xs:List Value) (x:ByteArray) (w:World) (B:Nat)
  (hks:Reads w B 1 A ks.length (ks.map Value.string)) (hxs:Reads w B 5 A2 ns.length xs) (hns:NdsIs w B ns xs) (hk1:ks.length ≤ 9223372036854775807) (hk2:ns.length ≤ 9223372036854775807)
  (hB:B ≤ w.heap.size) :
  Calls Tryd.prog 16 #[.agg (nA k num t A ks.length ck A2 ns.length cc),.string x] w (RfindP (findN (.mk k num t ks ns) x) B w):=by
 have HXS:=Lib.hid hxs
 have HNS:=Lib.hid hns
 have HKS:=Lib.hid hks
 have hA:Below w.heap.size w ((w.alloc (.cells (nA k num t A ks.length ck A2 ns.length cc) 25)).alloc (.cells Zn 25)):=((Below.refl _ _).alloc (Nat.le_refl _) _).alloc (by simp) _
 have hX:Hid (Blk ((w.alloc (.cells (nA k num t A ks.length ck A2 ns.length cc) 25)).alloc (.cells Zn 25)) w.heap.size 25 (nA k num t A ks.length ck A2 ns.length cc)):=(Blk.new w _ _).alloc _
 have hY:Hid (Blk ((w.alloc (.cells (nA k num t A ks.length ck A2 ns.length cc) 25)).alloc (.cells Zn 25)) (w.heap.size + 1) 25 Zn):=by
  have:=Blk.new (w.alloc (.cells (nA k num t A ks.length ck A2 ns.length cc) 25)) 25 Zn
  show Blk _ _ _ _
  simpa using this
 obtain ⟨r,hr⟩:∃ r,r = findN (.mk k num t ks ns) x:=⟨_,rfl⟩
 rw [← hr]
 have HR:=Lib.hid hr
 have HA:=Lib.hid hA
 clear hks hxs hns hr
 go_enter Tryd.func16,Tryd.ntmps16
 go_wp2_with fail
 have HS:w.heap.size + 2 ≤ ((w.alloc (.cells (nA k num t A ks.length ck A2 ns.length cc) 25)).alloc (.cells Zn 25)).heap.size:=by simp
 clear hA
 generalize (w.alloc (.cells (nA k num t A ks.length ck A2 ns.length cc) 25)).alloc (.cells Zn 25) = wa at *
 go_loop [6] (fun t => ∃ i:Nat,i ≤ ks.length ∧ i ≤ ns.length ∧ t = .int .i64 i ∧ Hid (∀ (j:Nat) (s:ByteArray),j < i → ks[j]? = some s → (x.toList == s.toList) = false) ∧ (0 < i → k = 7)) (fun t => ks.length - (intOf t).toNat)
 case atStart => exact ⟨0,by omega,by omega,rfl,fun j s hj => by omega,fun h => by omega⟩
 case round =>
  obtain ⟨i,hi,hi2,rfl,hno,hk7⟩:=hrel
  have HK7:=Lib.hid hk7
  clear hk7
  obtain ⟨c0,c1,c2,c3,c4⟩:=hX.out.cells5
  obtain ⟨d0,d1,d2,d3,d4⟩:=hY.out.cells5
  have f0:=hY.out.frozen 0
  have f1:=hY.out.frozen 1
  have f2:=hY.out.frozen 2
  have f3:=hY.out.frozen 3
  have f4:=hY.out.frozen 4
  have stop:∀ (h:r = none),Hid (RfindP r B w (.returned (.tuple #[.agg Zn,.bool false])) (((((wa.setCell (qa (w.heap.size + 1) 0) (.int .i64 0)).setCell (qa (w.heap.size + 1) 1) (.int .i64 0)).setCell (qa (w.heap.size + 1) 2) (.string ⟨#[]⟩)).setCell (qa (w.heap.size + 1) 3) (.slice none 0 0)).setCell (qa (w.heap.size + 1) 4) (.slice none 0 0))):=fun h => by
   subst h
   exact ⟨_,_,_,_,_,_,_,_,_,rfl,nd0_is 0 (by unfold I64;omega) _ _,((((HA.out.setCell (p:=(qa (w.heap.size + 1) 0)) (by simp) _).setCell (p:=(qa (w.heap.size + 1) 1)) (by simp) _).setCell (p:=(qa (w.heap.size + 1) 2)) (by simp) _).setCell (p:=(qa (w.heap.size + 1) 3)) (by simp) _).setCell (p:=(qa (w.heap.size + 1) 4)) (by simp) _⟩
  have HSTOP:=Lib.hid stop
  clear stop
  by_cases hlt:i < ks.length
  ·by_cases hlt2:i < ns.length
   ·by_cases h7:k = 7
    ·subst h7
     obtain ⟨adk,s,rfl,hadk,hs,hcell⟩:=(HKS.out.keep (w':=wa) fun p hp => HA.out.cell (by omega)).str hlt
     have HSK:=Lib.hid hs
     have hsy:=sym_beq s.toList x.toList
     clear hs
     cases he:(x.toList == s.toList) with
     | true =>
      have he2:(s.toList == x.toList) = true:=hsy.trans he
      obtain ⟨ad,n,v0,v1,v2,v3,v4,rfl,hadb,hni,hnd,e0,e1,e2,e3,e4⟩:=(HXS.out.keep (w':=wa) fun p hp => HA.out.cell (by omega)).nd (NdsIs.keep (fun p hp => HA.out.cell (by omega)) _ _ HNS.out) hlt2
      obtain ⟨x0,x1,x2,x3,x4,x5,x6,x7,x8,rfl,rfl,rfl,rfl,rfl⟩:=hnd.form
      have e:Hid (r = some n):=by show _ = _;rw [HR.out];simp only [findN,if_true,idxK_some HSK.out he hno.out];exact hni
      have hfin:Hid (Blk (((((wa.setCell (qa (w.heap.size + 1) 0) (.int .i64 x0)).setCell (qa (w.heap.size + 1) 1) (.int .i64 x1)).setCell (qa (w.heap.size + 1) 2) (.string x2)).setCell (qa (w.heap.size + 1) 3) (.slice x3 x4 x5)).setCell (qa (w.heap.size + 1) 4) (.slice x6 x7 x8)) (w.heap.size + 1) 25 (nA x0 x1 x2 x3 x4 x5 x6 x7 x8)):=(((((hY.out.set_ 0 _).set_ 1 _).set_ 2 _).set_ 3 _).set_ 4 _)
      have hbel:Hid (Below w.heap.size w (((((wa.setCell (qa (w.heap.size + 1) 0) (.int .i64 x0)).setCell (qa (w.heap.size + 1) 1) (.int .i64 x1)).setCell (qa (w.heap.size + 1) 2) (.string x2)).setCell (qa (w.heap.size + 1) 3) (.slice x3 x4 x5)).setCell (qa (w.heap.size + 1) 4) (.slice x6 x7 x8))):=((((HA.out.setCell (p:=(qa (w.heap.size + 1) 0)) (by simp) _).setCell (p:=(qa (w.heap.size + 1) 1)) (by simp) _).setCell (p:=(qa (w.heap.size + 1) 2)) (by simp) _).setCell (p:=(qa (w.heap.size + 1) 3)) (by simp) _).setCell (p:=(qa (w.heap.size + 1) 4)) (by simp) _
      have hnd2:Hid (NdIs (((((wa.setCell (qa (w.heap.size + 1) 0) (.int .i64 x0)).setCell (qa (w.heap.size + 1) 1) (.int .i64 x1)).setCell (qa (w.heap.size + 1) 2) (.string x2)).setCell (qa (w.heap.size + 1) 3) (.slice x3 x4 x5)).setCell (qa (w.heap.size + 1) 4) (.slice x6 x7 x8)) B n (nL x0 x1 x2 x3 x4 x5 x6 x7 x8)):=by
       refine NdIs.keep (fun p hp => ?_) _ _ hnd
       have ne:∀ (g o:Nat),w.heap.size ≤ g → ((qa g o):Addr) ≠ p:=fun g o hg e => by subst e;have h2:g < B:=hp;omega
       rw [World.cell?_setCell_other _ _ _ _ (ne _ _ (by omega)),World.cell?_setCell_other _ _ _ _ (ne _ _ (by omega)),World.cell?_setCell_other _ _ _ _ (ne _ _ (by omega)),World.cell?_setCell_other _ _ _ _ (ne _ _ (by omega)),World.cell?_setCell_other _ _ _ _ (ne _ _ (by omega))]
      have HFIN:=hfin.out
      clear hni hnd he hsy
      go_wp2_with fail
      clear hfin d0 d1 d2 d3 d4 f0 f1 f2 f3 f4
      generalize (((((wa.setCell (qa (w.heap.size + 1) 0) (.int .i64 x0)).setCell (qa (w.heap.size + 1) 1) (.int .i64 x1)).setCell (qa (w.heap.size + 1) 2) (.string x2)).setCell (qa (w.heap.size + 1) 3) (.slice x3 x4 x5)).setCell (qa (w.heap.size + 1) 4) (.slice x6 x7 x8)) = WF at *
      obtain ⟨q0,q1,q2,q3,q4⟩:=HFIN.cells5
      refine bodyPost_ret (v:=.tuple #[.agg (nA x0 x1 x2 x3 x4 x5 x6 x7 x8),.bool true]) (by simp [results,Tryd.results16,go_sem,q0,q1,q2,q3,q4]) rfl ?_
      rw [e.out]
      exact ⟨_,_,_,_,_,_,_,_,_,rfl,hnd2.out,hbel.out⟩
     | false =>
      have he2:(s.toList == x.toList) = false:=hsy.trans he
      have hno2:Hid (∀ (j:Nat) (s:ByteArray),j < i + 1 → ks[j]? = some s → (x.toList == s.toList) = false):=fun j s' hj hs' => by
       by_cases e:j = i
       ·subst e;rw [HSK.out] at hs';injection hs' with e2;subst e2;exact he
       ·exact hno.out j s' (by omega) hs'
      clear hsy
      go_wp2_with fail
      go_round
      case rel => exact ⟨i + 1,by omega,by omega,by go_num,hno2,fun _ => by first | trivial | rfl⟩
      case measure => simp [intOf];omega
    ·have e:r = none:=by rw [HR.out];simp [findN,h7]
     have HE:=HSTOP.out e
     have n7:(k == 7) = false:=by rw [beq_eq_false_iff_ne];exact h7
     clear e
     go_wp2_with fail
     refine bodyPost_ret (v:=.tuple #[.agg Zn,.bool false]) (by simp [results,Tryd.results16,go_sem,d0,d1,d2,d3,d4]) rfl ?_
     exact HE.out
   ·have e:r = none:=by
     rw [HR.out]
     by_cases h7:k = 7
     ·subst h7
      simp only [findN,if_true]
      cases hx:idxK ks x with
      | none => rfl
      | some j =>
       have hj:¬ j < i:=fun h => by
        unfold idxK at hx
        rw [List.findIdx?_eq_some_iff_getElem] at hx
        obtain ⟨h1,h2,_⟩:=hx
        have:=hno.out j ks[j] h (List.getElem?_eq_getElem h1)
        rw [this] at h2;cases h2
       exact List.getElem?_eq_none (by omega)
     ·simp [findN,h7]
    have HE:=HSTOP.out e
    clear e
    go_wp2_with fail
    refine bodyPost_ret (v:=.tuple #[.agg Zn,.bool false]) (by simp [results,Tryd.results16,go_sem,d0,d1,d2,d3,d4]) rfl ?_
    exact HE.out
  ·have e:r = none:=by
    rw [HR.out]
    by_cases h7:k = 7
    ·subst h7
     simp only [findN,if_true]
     rw [idxK_none (fun j s hj => hno.out j s (by have:=(List.getElem?_eq_some_iff.1 hj).1;omega) hj)]
    ·simp [findN,h7]
   have HE:=HSTOP.out e
   clear e
   go_wp2_with fail
   refine bodyPost_ret (v:=.tuple #[.agg Zn,.bool false]) (by simp [results,Tryd.results16,go_sem,d0,d1,d2,d3,d4]) rfl ?_
   exact HE.out
theorem rFind_any (n:Nd) (x:ByteArray) (cs:List Value) (w:World) (B:Nat) (hn:NdIs w B n cs) (hB:B ≤ w.heap.size):Calls Tryd.prog 16 #[.agg cs.toArray,.string x] w (RfindP (findN n x) B w):=by
 cases n with
 | mk k num t ks ns =>
  unfold NdIs at hn
  obtain ⟨A,ck,A2,cc,xs,rfl,hks,hxs,hns,ik,inn,ht,hkl,hk,hmm⟩:=hn
  exact rFind_step k num t ks ns A A2 ck cc xs x w B hks hxs hns hk hmm hB
def TNumEnd (v:Int × Bool) (w:World) (e:Ending) (w':World):Prop:=e = .returned (.tuple #[.int .i64 v.1,.bool v.2]) ∧ w = w'
theorem size_empty {s:ByteArray} (h:s.size = 0):s.toList = []:=by
 rw [ByteArray.toList_eq]
 exact List.eq_nil_of_length_eq_zero (by simpa using h)
theorem size_full {s:ByteArray} (h:0 < s.size):¬ s.toList = []:=by
 intro e
 rw [ByteArray.toList_eq] at e
 have h1:s.data.toList.length = 0:=by rw [e];rfl
 have h2:s.data.toList.length = s.size:=by simp
 omega
theorem digits_stop (s:ByteArray) (k n:Nat) (h:k < n) (hk:(decide (48 ≤ bt s k) && decide (bt s k ≤ 57)) = false):digitsB s n = false:=by
 induction n with
 | zero => omega
 | succ n ih =>
  simp only [digitsB]
  by_cases e:k = n
  ·subst e;rw [hk,Bool.and_false]
  ·rw [ih (by omega),Bool.false_and]
theorem rnumber_short (s:ByteArray) (w:World) (hs:s.size ≤ 9223372036854775807) (h:s.size = 0 ∨ 10 < s.size ∨ (bt s 0 = 48 ∧ 1 < s.size)):Calls Tryd.prog 73 #[.string s] w (TNumEnd (0,false) w):=by
 have hb:=get_bt s
 have hcase:s.size = 0 ∨ 10 < s.size ∨ (s.size ≤ 10 ∧ bt s 0 = 48 ∧ 1 < s.size):=by omega
 clear h
 rcases hcase with h | h | ⟨h,h48,h1⟩
 ·have f1:=size_empty h
  go_enter Tryd.func73,Tryd.ntmps73
  go_wp2
  go_ret2
  exact ⟨rfl,rfl⟩
 ·have f1:=size_full (s:=s) (by omega)
  have f2:s.toList.isEmpty = false:=by cases hh:s.toList with | nil => exact absurd hh f1 | cons _ _ => rfl
  go_enter Tryd.func73,Tryd.ntmps73
  go_wp2
  go_ret2
  exact ⟨rfl,rfl⟩
 ·have f1:=size_full (s:=s) (by omega)
  have f2:s.toList.isEmpty = false:=by cases hh:s.toList with | nil => exact absurd hh f1 | cons _ _ => rfl
  have f3:(bt s 0 == 48) = true:=by rw [h48];rfl
  have f4:0 < s.size:=by omega
  go_enter Tryd.func73,Tryd.ntmps73
  go_wp2
  go_ret2
  exact ⟨rfl,rfl⟩
set_option maxHeartbeats 400000 in
theorem rnumber_long (s:ByteArray) (w:World) (h0:0 < s.size) (h1:s.size ≤ 10) (h2:¬ (bt s 0 = 48 ∧ 1 < s.size)) (v:Int × Bool)
  (hv1:digitsB s s.size = false → v = (0,false)) (hv2:digitsB s s.size = true → 4294967295 < numZ s s.size → v = (0,false)) (hv3:digitsB s s.size = true → numZ s s.size ≤ 4294967295 → v = (numZ s s.size,true)) :
  Calls Tryd.prog 73 #[.string s] w (TNumEnd v w):=by
 have hb:=get_bt s
 have H1:=Lib.hid hv1
 have H2:=Lib.hid hv2
 have H3:=Lib.hid hv3
 clear hv1 hv2 hv3
 have f1:=size_full h0
 have f2:s.toList.isEmpty = false:=by cases hh:s.toList with | nil => exact absurd hh f1 | cons _ _ => rfl
 have hcase:((bt s 0 == 48) = false ∧ s.size ≤ 1) ∨ ((bt s 0 == 48) = false ∧ 1 < s.size) ∨ ((bt s 0 == 48) = true ∧ s.size ≤ 1):=by
  by_cases e:bt s 0 = 48
  ·right;right;exact ⟨by rw [e];rfl,by omega⟩
  ·have e':(bt s 0 == 48) = false:=by simpa using e
   by_cases h':s.size ≤ 1
   ·exact Or.inl ⟨e',h'⟩
   ·exact Or.inr (Or.inl ⟨e',by omega⟩)
 clear h2
 rcases hcase with ⟨f3,f4⟩ | ⟨f3,f4⟩ | ⟨f3,f4⟩
 all_goals
  go_enter Tryd.func73,Tryd.ntmps73
  go_wp2
  go_loop [4,5] (fun n i => ∃ k:Nat,k ≤ s.size ∧ i = .int .i64 k ∧ n = .int .i64 (numZ s k) ∧ Hid (digitsB s k = true)) (fun _ i => s.size - (intOf i).toNat)
  case atStart => exact ⟨0,by omega,rfl,rfl,rfl⟩
  case round =>
   obtain ⟨k,hk,rfl,rfl,hd⟩:=hrel
   obtain ⟨n0,n1⟩:=numZ_small s k (by omega) hd.out
   have b0:=bt_nonneg s k
   have b1:=bt_le s k
   by_cases hlt:k < s.size
   ·by_cases h48:48 ≤ bt s k
    ·by_cases h57:bt s k ≤ 57
     ·have hn:Hid (digitsB s (k + 1) = true):=by show _ = _;simp only [digitsB,hd.out,h48,h57,decide_true,Bool.and_self]
      go_wp2
      go_round
      case rel => exact ⟨k + 1,by omega,by go_num,congrArg (Value.int .i64) (by simp only [numZ];omega),hn⟩
      case measure => simp [intOf];omega
     ·have hx:=H1.out (digits_stop s k s.size hlt (by simp [h57]))
      have HX:=Lib.hid hx
      clear hx
      go_wp2
      go_ret2
      exact ⟨by rw [HX.out];rfl,rfl⟩
    ·have hx:=H1.out (digits_stop s k s.size hlt (by simp [h48]))
     have HX:=Lib.hid hx
     clear hx
     go_wp2
     go_ret2
     exact ⟨by rw [HX.out];rfl,rfl⟩
   ·obtain rfl:k = s.size:=by omega
    by_cases hm:4294967295 < numZ s s.size
    ·have HX:=Lib.hid (H2.out hd.out hm)
     go_wp2
     go_ret2
     exact ⟨by rw [HX.out];rfl,rfl⟩
    ·have HX:=Lib.hid (H3.out hd.out (by omega))
     go_wp2
     go_ret2
     exact ⟨by rw [HX.out];rfl,rfl⟩
theorem rnumber_any (s:ByteArray) (w:World) (hs:s.size ≤ 9223372036854775807):Calls Tryd.prog 73 #[.string s] w (TNumEnd (numB s) w):=by
 unfold numB
 by_cases h:s.size = 0 ∨ 10 < s.size ∨ (bt s 0 = 48 ∧ 1 < s.size)
 ·rw [if_pos h];exact rnumber_short s w hs h
 ·rw [if_neg h]
  refine rnumber_long s w (by omega) (by omega) (by omega) _ (fun h1 => ?_) (fun h1 h2 => ?_) (fun h1 h2 => ?_)
  ·rw [if_pos h1]
  ·rw [if_neg (by simp [h1]),if_pos h2]
  ·rw [if_neg (by simp [h1]),if_neg (by omega)]
def rep2 (a b c:UInt8):List UInt8 → List UInt8
 | x :: y :: r => if x = a ∧ y = b then c :: rep2 a b c r else x :: rep2 a b c (y :: r)
 | l => l
theorem rep2_ne {a b c x:UInt8} (h:x ≠ a) (l:List UInt8):rep2 a b c (x :: l) = x :: rep2 a b c l:=by
 cases l with
 | nil => simp [rep2]
 | cons y r => simp [rep2,h]
theorem rep2_hit (a b c:UInt8) (l:List UInt8):rep2 a b c (a :: b :: l) = c :: rep2 a b c l:=by simp [rep2]
theorem rep2_off {a b c y:UInt8} (h:y ≠ b) (l:List UInt8):rep2 a b c (a :: y :: l) = a :: rep2 a b c (y :: l):=by simp [rep2,h]
def repF (old new s:List UInt8):List UInt8:=Lib.replaceK old new (Lib.count s old) s
theorem repF_nil (a b c:UInt8):repF [a,b] [c] [] = []:=by
 unfold repF
 rw [Lib.count_miss (by simp [Lib.index])]
 rfl
theorem repF_hit (a b c:UInt8) (l:List UInt8):repF [a,b] [c] (a :: b :: l) = c :: repF [a,b] [c] l:=by
 unfold repF
 have h:Lib.index (a :: b :: l) [a,b] = ((0:Nat):Int):=by simp [Lib.index,List.isPrefixOf]
 rw [Lib.count_hit (by simp) h,Nat.add_comm,Lib.replaceK_hit _ _ _ _ _ h]
 simp
theorem repF_miss (a b c x:UInt8) (l:List UInt8) (h:[a,b].isPrefixOf (x :: l) = false):repF [a,b] [c] (x :: l) = x :: repF [a,b] [c] l:=by
 unfold repF
 rcases Lib.index_spec l [a,b] with ⟨h1,_⟩ | ⟨i,h1,_⟩
 ·have h2:Lib.index (x :: l) [a,b] = -1:=by rw [Lib.index,h];simp [h1]
  rw [Lib.count_miss h1,Lib.count_miss h2]
  rfl
 ·have h2:Lib.index (x :: l) [a,b] = ((i + 1:Nat):Int):=by
   rw [Lib.index,h,h1]
   have:((i:Int) == -1) = false:=by rw [beq_eq_false_iff_ne];omega
   simp [this]
  rw [Lib.count_hit (by simp) h1,Lib.count_hit (by simp) h2,Nat.add_comm 1,Nat.add_comm 1,Lib.replaceK_hit _ _ _ _ _ h1,Lib.replaceK_hit _ _ _ _ _ h2]
  simp [Nat.add_right_comm i 1 2]
theorem repF_eq (a b c:UInt8):∀ (k:Nat) (l:List UInt8),l.length ≤ k → repF [a,b] [c] l = rep2 a b c l
 | _,[],_ => by rw [repF_nil];rfl
 | 0,x :: l,h => by simp at h
 | k + 1,[x],h => by
  rw [repF_miss _ _ _ _ _ (by simp [List.isPrefixOf]),repF_nil];rfl
 | k + 1,x :: y :: l,h => by
  simp only [List.length_cons] at h
  by_cases hx:x = a ∧ y = b
  ·obtain ⟨rfl,rfl⟩:=hx
   rw [repF_hit,rep2_hit,repF_eq x y c k l (by omega)]
  ·rw [repF_miss,repF_eq a b c k (y :: l) (by simp;omega)]
   ·rw [rep2,if_neg hx]
   ·simp only [List.isPrefixOf,Bool.and_true]
    rw [Bool.and_eq_false_iff,beq_eq_false_iff_ne,beq_eq_false_iff_ne]
    by_cases h1:a = x
    ·right;intro h2;exact hx ⟨h1.symm,h2.symm⟩
    ·left;exact h1
theorem replaceAll2 (a b c:UInt8) (l:List UInt8):Lib.replaceAll l [a,b] [c] = rep2 a b c l:=by
 unfold Lib.replaceAll Lib.replace Lib.replaceNum
 rw [if_neg (by simp),if_pos (.inl (by decide))]
 exact repF_eq a b c l.length l (Nat.le_refl _)
def tildeOk:List UInt8 → Bool
 | [] => true
 | c :: r => (if c = 126 then (r.head? == some 48 || r.head? == some 49) else true) && tildeOk r
def unesc (l:List UInt8):List UInt8:=rep2 126 48 126 (rep2 126 49 47 l)
def unesc1:List UInt8 → List UInt8
 | x :: y :: r => if x = 126 then (if y = 49 then 47 else 126) :: unesc1 r else x :: unesc1 (y :: r)
 | l => l
theorem unesc_ne {x:UInt8} (h:x ≠ 126) (l:List UInt8):unesc (x :: l) = x :: unesc l:=by
 unfold unesc;rw [rep2_ne h,rep2_ne h]
theorem unesc1_ne {x:UInt8} (h:x ≠ 126) (l:List UInt8):unesc1 (x :: l) = x :: unesc1 l:=by
 cases l with
 | nil => simp [unesc1]
 | cons y r => simp [unesc1,h]
theorem unesc_eq:∀ (k:Nat) (l:List UInt8),l.length ≤ k → tildeOk l = true → unesc l = unesc1 l
 | _,[],_,_ => rfl
 | 0,x :: l,h,_ => by simp at h
 | k + 1,[x],h,ht => by
  by_cases hx:x = 126
  ·subst hx;simp [tildeOk] at ht
  ·rw [unesc_ne hx,unesc1_ne hx];rfl
 | k + 1,x :: y :: l,h,ht => by
  simp only [List.length_cons] at h
  have ht2:tildeOk (y :: l) = true:=by
   rw [tildeOk,Bool.and_eq_true] at ht;exact ht.2
  by_cases hx:x = 126
  ·subst hx
   have ht3:tildeOk l = true:=by
    rw [tildeOk,Bool.and_eq_true] at ht2;exact ht2.2
   have hy:y = 48 ∨ y = 49:=by
    rw [tildeOk,Bool.and_eq_true] at ht
    simpa using ht.1
   have ih:=unesc_eq k l (by omega) ht3
   rcases hy with rfl | rfl
   ·unfold unesc
    rw [rep2_off (by decide),rep2_ne (x:=48) (by decide),rep2_hit]
    show 126 :: unesc l = _
    rw [ih];simp [unesc1]
   ·unfold unesc
    rw [rep2_hit,rep2_ne (x:=47) (by decide)]
    show 47 :: unesc l = _
    rw [ih];simp [unesc1]
  ·rw [unesc_ne hx,unesc1_ne hx,unesc_eq k (y :: l) (by simp;omega) ht2]
def formP (p:ByteArray):Bool:=(p.toList.isEmpty || p.toList.head? == some 47) && decide (p.size ≤ 1000) && tildeOk p.toList
def partsF:Nat → List UInt8 → List ByteArray
 | 0,_ => []
 | _ + 1,[] => []
 | k + 1,_ :: r => ⟨(unesc (r.takeWhile (· != 47))).toArray⟩ :: partsF k (r.dropWhile (· != 47))
def partsP (p:ByteArray):List ByteArray:=partsF p.size p.toList
theorem cut47 (l:List UInt8):(Lib.cut l [47]).1 = l.takeWhile (· != 47):=by
 unfold Lib.cut
 induction l with
 | nil => simp [Lib.index]
 | cons c l ih =>
  by_cases hc:c = 47
  ·subst hc
   simp [Lib.index,List.isPrefixOf]
  ·have hp:[(47:UInt8)].isPrefixOf (c :: l) = false:=by simp [List.isPrefixOf];exact fun e => hc e.symm
   rw [List.takeWhile_cons_of_pos (by simpa using hc),← ih]
   rcases Lib.index_spec l [47] with ⟨h1,_⟩ | ⟨i,h1,_⟩
   ·have h2:Lib.index (c :: l) [47] = -1:=by rw [Lib.index,hp];simp [h1]
    rw [h1,h2];simp
   ·have h2:Lib.index (c :: l) [47] = ((i + 1:Nat):Int):=by
     rw [Lib.index,hp,h1]
     have:((i:Int) == -1) = false:=by rw [beq_eq_false_iff_ne];omega
     simp [this]
    rw [h1,h2,if_pos (by omega),if_pos (by omega)]
    simp
theorem drop_takeWhile {α:Type} (p:α → Bool) (l:List α):l.drop (l.takeWhile p).length = l.dropWhile p:=by
 induction l with
 | nil => rfl
 | cons c l ih =>
  by_cases h:p c = true
  ·rw [List.takeWhile_cons_of_pos h,List.dropWhile_cons_of_pos h];simpa using ih
  ·rw [List.takeWhile_cons_of_neg h,List.dropWhile_cons_of_neg h];rfl
theorem partsF_fuel:∀ (k m:Nat) (l:List UInt8),l.length ≤ k → l.length ≤ m → partsF k l = partsF m l
 | 0,m,[],_,_ => by cases m <;> rfl
 | 0,m,_ :: _,h,_ => by simp at h
 | k + 1,0,[],_,_ => rfl
 | k + 1,0,_ :: _,_,h => by simp at h
 | k + 1,m + 1,[],_,_ => rfl
 | k + 1,m + 1,c :: r,h,h' => by
  have:(r.dropWhile (· != 47)).length ≤ r.length:=(List.dropWhile_suffix _).length_le
  simp only [List.length_cons] at h h'
  rw [partsF,partsF,partsF_fuel k m _ (by omega) (by omega)]
theorem partsF_cons (k:Nat) (c:UInt8) (r:List UInt8) (h:r.length ≤ k):partsF (k + 1) (c :: r) = ⟨(unesc (r.takeWhile (· != 47))).toArray⟩ :: partsF k (r.dropWhile (· != 47)):=rfl
theorem partsF_len:∀ (k:Nat) (l:List UInt8),(partsF k l).length ≤ l.length
 | 0,l => by simp [partsF]
 | k + 1,[] => by simp [partsF]
 | k + 1,c :: r => by
  have:(r.dropWhile (· != 47)).length ≤ r.length:=(List.dropWhile_suffix _).length_le
  have:=partsF_len k (r.dropWhile (· != 47))
  rw [partsF];simp;omega
theorem rep2_len (a b c:UInt8):∀ (k:Nat) (l:List UInt8),l.length ≤ k → (rep2 a b c l).length ≤ l.length
 | _,[],_ => by simp [rep2]
 | 0,x :: l,h => by simp at h
 | k + 1,[x],h => by simp [rep2]
 | k + 1,x :: y :: l,h => by
  simp only [List.length_cons] at h
  rw [rep2]
  split
  ·have:=rep2_len a b c k l (by omega)
   simp;omega
  ·have:=rep2_len a b c k (y :: l) (by simp;omega)
   simp at this ⊢;omega
theorem unesc_len (l:List UInt8):(unesc l).length ≤ l.length:=Nat.le_trans (rep2_len _ _ _ _ _ (Nat.le_refl _)) (rep2_len _ _ _ _ _ (Nat.le_refl _))
theorem partsF_size:∀ (k:Nat) (l:List UInt8),∀ s ∈ partsF k l,s.size ≤ l.length
 | 0,l => by simp [partsF]
 | k + 1,[] => by simp [partsF]
 | k + 1,c :: r => by
  intro s hs
  have h1:(r.dropWhile (· != 47)).length ≤ r.length:=(List.dropWhile_suffix _).length_le
  have h2:(r.takeWhile (· != 47)).length ≤ r.length:=(List.takeWhile_prefix _).length_le
  rw [partsF] at hs
  rcases List.mem_cons.1 hs with rfl | hs
  ·have:=unesc_len (r.takeWhile (· != 47))
   show (unesc (r.takeWhile (· != 47))).toArray.size ≤ _
   simp;omega
  ·have:=partsF_size k _ s hs
   simp;omega
def placeF (s:ByteArray) (n:Nat):Int:=
 if s.size = 0 ∨ 9 < s.size ∨ (bt s 0 = 48 ∧ 1 < s.size) then -1
 else if digitsB s s.size = false then -1 else if (n:Int) ≤ numZ s s.size then -1 else numZ s s.size
def Nd.kind:Nd → Int
 | .mk k _ _ _ _ => k
def Nd.kids:Nd → List Nd
 | .mk _ _ _ _ ns => ns
def starAdd (x:Nd) (acc:List Nd):List Nd:=if x.kind = 6 then acc ++ x.kids else acc ++ [x]
def starL (f:Nd → Option Nd):List Nd → List Nd → Option (List Nd)
 | [],acc => some acc
 | n :: ns,acc => match f n with
  | none => none
  | some x => starL f ns (starAdd x acc)
def getN:List ByteArray → Nd → Option Nd
 | [],n => some n
 | p :: l,n => if n.kind = 7 then (match findN n p with
   | none => none
   | some m => getN l m)
  else if n.kind = 6 then (if p.toList = [42] then (match starL (getN l) n.kids [] with
   | none => none
   | some ns => some (.mk 6 0 ⟨#[]⟩ [] ns))
   else if placeF p n.kids.length < 0 then none else (match n.kids[(placeF p n.kids.length).toNat]? with
   | none => none
   | some m => getN l m))
  else none
def RdSt (w:World) (rb:Nat) (s:ByteArray) (k:Nat):Prop:=Blk w rb 77 #[.string s,.int .i64 k,.int .i64 0]
def RdTo (rb:Nat) (s:ByteArray) (l:List UInt8) (w w':World):Prop:=∃ k,k ≤ s.size ∧ s.toList.drop k = l ∧ RdSt w' rb s k ∧ w.grownBy w' (some rb)
def Failed (rb:Nat) (s:ByteArray) (c:Int) (w:World) (e:Ending) (w':World):Prop:=
 e = .panicked [{ v:=.iface 97 (.agg #[]),recovered:=false }] ∧ (∃ k:Int,Blk w' rb 77 #[.string s,.int .i64 k,.int .i64 c]) ∧ w.grownBy w' (some rb)
theorem grown_refl (w:World) (r:Option Nat):w.grownBy w r:=World.grownBy.refl w r
theorem grown_drewN {w w':World} {r:Option Nat} (h:w.grownBy w' r) (n:Nat):w.grownBy (w'.drewN n) r:=⟨h.os,h.tape,h.output,h.size,h.block⟩
theorem grown_drew {w w':World} {r:Option Nat} (h:w.grownBy w' r):w.grownBy w'.drew r:=⟨h.os,h.tape,h.output,h.size,h.block⟩
theorem grown_set {w w':World} {g:Nat} (h:w.grownBy w' (some g)) (i:Nat) (v:Value):w.grownBy (w'.setCell (qa g i) v) (some g):=
 ⟨h.os,h.tape,h.output,by have:=h.size;simpa using this,fun k hk hne => by rw [Below.heap_setCell _ _ _ _ (fun e => hne (by rw [e]))];exact h.block k hk hne⟩
theorem grown_alloc {w w':World} {r:Option Nat} (h:w.grownBy w' r) (o:Obj):w.grownBy (w'.alloc o) r:=h.trans (World.grownBy_alloc w' o r)
theorem grown_below {w w':World} {r:Option Nat} (k:Below w.heap.size w w'):w.grownBy w' r:=⟨k.os,k.tape,k.output,k.size,fun i hi _ => k.block i hi⟩
theorem Failed.from {rb:Nat} {s:ByteArray} {c:Int} {w w1:World} {e:Ending} {w':World} (h:Failed rb s c w1 e w') (k:w.grownBy w1 (some rb)):Failed rb s c w e w':=⟨h.1,h.2.1,k.trans h.2.2⟩
theorem drop_cons (s:ByteArray) (k:Nat) (h:k < s.size):∃ u:UInt8,bt s k = u.toNat ∧ s.toList.drop k = u :: s.toList.drop (k + 1):=by
 have h2:k < s.toList.length:=by rw [toList_len];exact h
 exact ⟨s.toList[k],bt_eq s k _ (List.getElem?_eq_getElem h2),List.drop_eq_getElem_cons h2⟩
theorem drop_end (s:ByteArray) (k:Nat) (h:s.size ≤ k):s.toList.drop k = []:=List.drop_eq_nil_of_le (by rw [toList_len];exact h)
theorem Blk.cells3 {w:World} {g:Nat} {t:TypeId} {a b c:Value} (h:Blk w g t #[a,b,c]):w.cell? (qa g 0) = some a ∧ w.cell? (qa g 1) = some b ∧ w.cell? (qa g 2) = some c:=
 ⟨h.cell 0,h.cell 1,h.cell 2⟩
set_option maxRecDepth 100000 in
theorem fail_any (rb:Nat) (s:ByteArray) (k:Nat) (c:Int) (w:World) (h:RdSt w rb s k):Calls Tryd.prog 47 #[.pointer (some (qa rb 0)),.int .i64 c] w (Failed rb s c w):=by
 obtain ⟨c0,c1,c2⟩:=h.cells3
 have f2:=h.frozen 2
 have HB:=Lib.hid h
 clear h
 go_enter Tryd.func47,Tryd.ntmps47
 go_wp2
 exact ⟨rfl,rfl,⟨k,HB.out.set_ 2 _⟩,grown_set (grown_refl _ _) 2 _⟩
theorem bt0 {p:ByteArray} {c:UInt8} {r:List UInt8} (h:p.toList = c :: r):bt p 0 = c.toNat:=bt_eq p 0 c (by rw [h];rfl)
theorem formP_nil (p:ByteArray) (h:p.toList = []):formP p = true:=by
 have:p.size = 0:=by rw [← toList_len,h];rfl
 unfold formP
 rw [h,this];rfl
theorem formP_cons (p:ByteArray) (c:UInt8) (r:List UInt8) (h:p.toList = c :: r):formP p = (decide (bt p 0 = 47) && decide (p.size ≤ 1000) && tildeOk p.toList):=by
 unfold formP
 rw [bt0 h]
 rw [h]
 simp only [List.isEmpty_cons,Bool.false_or,List.head?_cons]
 congr 2
 rw [Bool.eq_iff_iff,beq_iff_eq,decide_eq_true_iff,Option.some.injEq,← UInt8.toNat_inj]
 show c.toNat = 47 ↔ _
 omega
theorem tilde_ne (p:ByteArray) (k:Nat) (hk:k < p.size) (h:bt p k ≠ 126):tildeOk (p.toList.drop k) = tildeOk (p.toList.drop (k + 1)):=by
 obtain ⟨u,h1,h2⟩:=drop_cons p k hk
 rw [h2,tildeOk,if_neg]
 ·simp
 ·intro e;subst e;exact h (by rw [h1];rfl)
theorem tilde_end (p:ByteArray) (k:Nat) (hk:k + 1 = p.size) (h:bt p k = 126):tildeOk (p.toList.drop k) = false:=by
 obtain ⟨u,h1,h2⟩:=drop_cons p k (by omega)
 have hu:u = 126:=by rw [← UInt8.toNat_inj];show u.toNat = 126;omega
 rw [h2,drop_end p (k + 1) (by omega),hu]
 rfl
theorem tilde_two (p:ByteArray) (k:Nat) (hk:k + 1 < p.size) (h:bt p k = 126):tildeOk (p.toList.drop k) = ((decide (bt p (k + 1) = 48) || decide (bt p (k + 1) = 49)) && tildeOk (p.toList.drop (k + 1))):=by
 obtain ⟨u,h1,h2⟩:=drop_cons p k (by omega)
 obtain ⟨v,k1,k2⟩:=drop_cons p (k + 1) hk
 have hu:u = 126:=by rw [← UInt8.toNat_inj];show u.toNat = 126;omega
 rw [h2,hu]
 conv => lhs;rw [tildeOk,if_pos rfl]
 congr 1
 rw [k2,k1,List.head?_cons]
 congr 1
 ·rw [Bool.eq_iff_iff,beq_iff_eq,decide_eq_true_iff,Option.some.injEq,← UInt8.toNat_inj]
  show v.toNat = 48 ↔ _
  omega
 ·rw [Bool.eq_iff_iff,beq_iff_eq,decide_eq_true_iff,Option.some.injEq,← UInt8.toNat_inj]
  show v.toNat = 49 ↔ _
  omega
def FormEnd (v:Bool) (w:World) (e:Ending) (w':World):Prop:=e = .returned (.bool v) ∧ w = w'
set_option maxHeartbeats 1000000 in
theorem form_loop (p:ByteArray) (w:World) (h0:p.toList = [] ∨ (bt p 0 = 47 ∧ 0 < p.size)) (h1:p.size ≤ 1000) (v:Bool) (hv:v = tildeOk p.toList):Calls Tryd.prog 55 #[.string p] w (FormEnd v w):=by
 have hb:=get_bt p
 have HV:=Lib.hid hv
 have hl:¬ (1000:Int) < (p.size:Int):=by omega
 clear hv
 have hcase:(p.toList = [] ∧ p.toList.isEmpty = true) ∨ (¬ p.toList = [] ∧ p.toList.isEmpty = false ∧ (bt p 0 != 47) = false ∧ 0 < p.size):=by
  rcases h0 with h | ⟨h,h2⟩
  ·exact .inl ⟨h,by rw [h];rfl⟩
  ·have f1:=size_full h2
   exact .inr ⟨f1,by cases hh:p.toList with | nil => exact absurd hh f1 | cons _ _ => rfl,by rw [h];rfl,h2⟩
 clear h0
 rcases hcase with ⟨f1,f2⟩ | ⟨f1,f2,f3,f4⟩
 all_goals
  go_enter Tryd.func55,Tryd.ntmps55
  go_wp2
  go_loop [18] (fun i => ∃ k:Nat,k ≤ p.size ∧ i = .int .i64 k ∧ Hid (v = tildeOk (p.toList.drop k))) (fun i => p.size - (intOf i).toNat)
  case atStart => exact ⟨0,by omega,rfl,by rw [List.drop_zero];exact HV.out⟩
  case round =>
   obtain ⟨k,hk,rfl,hd⟩:=hrel
   by_cases hlt:k < p.size
   ·by_cases h126:bt p k = 126
    ·have g1:(bt p k == 126) = true:=by rw [h126];rfl
     by_cases hk1:k + 1 = p.size
     ·have HX:Hid (v = false):=hd.out.trans (tilde_end p k hk1 h126)
      have g2:((k:Int) + 1 == (p.size:Int)) = true:=by rw [beq_iff_eq];omega
      clear h126 hk1
      go_wp2
      go_ret
      exact ⟨by rw [HX.out];rfl,rfl⟩
     ·have g2:((k:Int) + 1 == (p.size:Int)) = false:=by rw [beq_eq_false_iff_ne];omega
      have hk2:k + 1 < p.size:=by omega
      have e:=hd.out.trans (tilde_two p k hk2 h126)
      by_cases h48:bt p (k + 1) = 48
      ·have g3:(bt p (k + 1) != 48) = false:=by rw [h48];rfl
       have HN:Hid (v = tildeOk (p.toList.drop (k + 1))):=by show _ = _;rw [e,h48];simp
       clear h126 hk1 h48 e
       go_wp2
       go_round
       case rel => exact ⟨k + 1,by omega,by go_num,HN⟩
       case measure => simp [intOf];omega
      ·have g3:(bt p (k + 1) != 48) = true:=by rw [bne_iff_ne];exact h48
       by_cases h49:bt p (k + 1) = 49
       ·have g4:(bt p (k + 1) != 49) = false:=by rw [h49];rfl
        have HN:Hid (v = tildeOk (p.toList.drop (k + 1))):=by show _ = _;rw [e,h49];simp
        clear h126 hk1 h48 h49 e
        go_wp2
        go_round
        case rel => exact ⟨k + 1,by omega,by go_num,HN⟩
        case measure => simp [intOf];omega
       ·have g4:(bt p (k + 1) != 49) = true:=by rw [bne_iff_ne];exact h49
        have HX:Hid (v = false):=by show _ = _;rw [e];simp [h48,h49]
        clear h126 hk1 h48 h49 e
        go_wp2
        go_ret
        exact ⟨by rw [HX.out];rfl,rfl⟩
    ·have g1:(bt p k == 126) = false:=by rw [beq_eq_false_iff_ne];exact h126
     have HN:Hid (v = tildeOk (p.toList.drop (k + 1))):=hd.out.trans (tilde_ne p k hlt h126)
     clear h126
     go_wp2
     go_round
     case rel => exact ⟨k + 1,by omega,by go_num,HN⟩
     case measure => simp [intOf];omega
   ·have HX:Hid (v = true):=by show _ = _;rw [hd.out,drop_end p k (by omega)];rfl
    go_wp2
    go_ret
    exact ⟨by rw [HX.out];rfl,rfl⟩
theorem form_any (p:ByteArray) (w:World) (hs:p.size ≤ 9223372036854775807):Calls Tryd.prog 55 #[.string p] w (FormEnd (formP p) w):=by
 cases hp:p.toList with
 | nil =>
  rw [formP_nil p hp]
  have:p.size = 0:=by rw [← toList_len,hp];rfl
  exact form_loop p w (.inl hp) (by omega) _ (by rw [hp];rfl)
 | cons c r =>
  have h0:0 < p.size:=by rw [← toList_len,hp];simp
  rw [formP_cons p c r hp]
  by_cases h47:bt p 0 = 47
  ·by_cases hl:p.size ≤ 1000
   ·refine form_loop p w (.inr ⟨h47,h0⟩) hl _ ?_
    simp [h47,hl]
   ·have e:(decide (bt p 0 = 47) && decide (p.size ≤ 1000) && tildeOk p.toList) = false:=by simp [hl]
    rw [e]
    have hb:=get_bt p
    have f1:=size_full h0
    have f2:p.toList.isEmpty = false:=by cases hh:p.toList with | nil => exact absurd hh f1 | cons _ _ => rfl
    have f3:(bt p 0 != 47) = false:=by rw [h47];rfl
    have f4:(1000:Int) < (p.size:Int):=by omega
    clear hp e h47 hl
    go_enter Tryd.func55,Tryd.ntmps55
    go_wp2
    go_ret
    exact ⟨rfl,rfl⟩
  ·have e:(decide (bt p 0 = 47) && decide (p.size ≤ 1000) && tildeOk p.toList) = false:=by simp [h47]
   rw [e]
   have hb:=get_bt p
   have f1:=size_full h0
   have f2:p.toList.isEmpty = false:=by cases hh:p.toList with | nil => exact absurd hh f1 | cons _ _ => rfl
   have f3:(bt p 0 != 47) = true:=by rw [bne_iff_ne];exact h47
   clear hp e h47
   go_enter Tryd.func55,Tryd.ntmps55
   go_wp2
   go_ret
   exact ⟨rfl,rfl⟩
def PlaceEnd (v:Int) (w:World) (e:Ending) (w':World):Prop:=e = .returned (.int .i64 v) ∧ w = w'
theorem place_short (s:ByteArray) (n:Nat) (w:World) (hs:s.size ≤ 9223372036854775807) (h:s.size = 0 ∨ 9 < s.size ∨ (bt s 0 = 48 ∧ 1 < s.size)):Calls Tryd.prog 72 #[.string s,.int .i64 n] w (PlaceEnd (-1) w):=by
 have hb:=get_bt s
 have hcase:s.size = 0 ∨ 9 < s.size ∨ (s.size ≤ 9 ∧ bt s 0 = 48 ∧ 1 < s.size):=by omega
 clear h
 rcases hcase with h | h | ⟨h,h48,h1⟩
 ·have f1:=size_empty h
  go_enter Tryd.func72,Tryd.ntmps72
  go_wp2
  go_ret
  exact ⟨rfl,rfl⟩
 ·have f1:=size_full (s:=s) (by omega)
  have f2:s.toList.isEmpty = false:=by cases hh:s.toList with | nil => exact absurd hh f1 | cons _ _ => rfl
  go_enter Tryd.func72,Tryd.ntmps72
  go_wp2
  go_ret
  exact ⟨rfl,rfl⟩
 ·have f1:=size_full (s:=s) (by omega)
  have f2:s.toList.isEmpty = false:=by cases hh:s.toList with | nil => exact absurd hh f1 | cons _ _ => rfl
  have f3:(bt s 0 == 48) = true:=by rw [h48];rfl
  have f4:0 < s.size:=by omega
  go_enter Tryd.func72,Tryd.ntmps72
  go_wp2
  go_ret
  exact ⟨rfl,rfl⟩
set_option maxHeartbeats 400000 in
theorem place_long (s:ByteArray) (n:Nat) (w:World) (hn:n ≤ 9223372036854775807) (h0:0 < s.size) (h1:s.size ≤ 9) (h2:¬ (bt s 0 = 48 ∧ 1 < s.size)) (v:Int)
  (hv1:digitsB s s.size = false → v = -1) (hv2:digitsB s s.size = true → (n:Int) ≤ numZ s s.size → v = -1) (hv3:digitsB s s.size = true → numZ s s.size < (n:Int) → v = numZ s s.size) :
  Calls Tryd.prog 72 #[.string s,.int .i64 n] w (PlaceEnd v w):=by
 have hb:=get_bt s
 have H1:=Lib.hid hv1
 have H2:=Lib.hid hv2
 have H3:=Lib.hid hv3
 clear hv1 hv2 hv3
 have f1:=size_full h0
 have f2:s.toList.isEmpty = false:=by cases hh:s.toList with | nil => exact absurd hh f1 | cons _ _ => rfl
 have hcase:(bt s 0 == 48) = false ∨ ((bt s 0 == 48) = true ∧ s.size ≤ 1):=by
  by_cases e:bt s 0 = 48
  ·right;exact ⟨by rw [e];rfl,by omega⟩
  ·left;simpa using e
 clear h2
 rcases hcase with f3 | ⟨f3,f4⟩
 all_goals
  go_enter Tryd.func72,Tryd.ntmps72
  go_wp2
  go_loop [5,26] (fun n i => ∃ k:Nat,k ≤ s.size ∧ i = .int .i64 k ∧ n = .int .i64 (numZ s k) ∧ Hid (digitsB s k = true)) (fun _ i => s.size - (intOf i).toNat)
  case atStart => exact ⟨0,by omega,rfl,rfl,rfl⟩
  case round =>
   obtain ⟨k,hk,rfl,rfl,hd⟩:=hrel
   obtain ⟨n0,n1⟩:=numZ_small s k (by omega) hd.out
   have b0:=bt_nonneg s k
   have b1:=bt_le s k
   by_cases hlt:k < s.size
   ·by_cases h48:48 ≤ bt s k
    ·by_cases h57:bt s k ≤ 57
     ·have hn:Hid (digitsB s (k + 1) = true):=by show _ = _;simp only [digitsB,hd.out,h48,h57,decide_true,Bool.and_self]
      go_wp2
      go_round
      case rel => exact ⟨k + 1,by omega,by go_num,rfl,hn⟩
      case measure => simp [intOf];omega
     ·have hx:=H1.out (digits_stop s k s.size hlt (by simp [h57]))
      have HX:=Lib.hid hx
      clear hx
      go_wp2
      go_ret
      exact ⟨by rw [HX.out];rfl,rfl⟩
    ·have hx:=H1.out (digits_stop s k s.size hlt (by simp [h48]))
     have HX:=Lib.hid hx
     clear hx
     go_wp2
     go_ret
     exact ⟨by rw [HX.out];rfl,rfl⟩
   ·obtain rfl:k = s.size:=by omega
    by_cases hm:(n:Int) ≤ numZ s s.size
    ·have HX:=Lib.hid (H2.out hd.out hm)
     go_wp2
     go_ret
     exact ⟨by rw [HX.out];rfl,rfl⟩
    ·have HX:=Lib.hid (H3.out hd.out (by omega))
     go_wp2
     go_ret
     exact ⟨by rw [HX.out];rfl,rfl⟩
theorem place_any (s:ByteArray) (n:Nat) (w:World) (hs:s.size ≤ 9223372036854775807) (hn:n ≤ 9223372036854775807):Calls Tryd.prog 72 #[.string s,.int .i64 n] w (PlaceEnd (placeF s n) w):=by
 unfold placeF
 by_cases h:s.size = 0 ∨ 9 < s.size ∨ (bt s 0 = 48 ∧ 1 < s.size)
 ·rw [if_pos h];exact place_short s n w hs h
 ·rw [if_neg h]
  refine place_long s n w hn (by omega) (by omega) (by omega) _ (fun h1 => ?_) (fun h1 h2 => ?_) (fun h1 h2 => ?_)
  ·rw [if_pos h1]
  ·rw [if_neg (by simp [h1]),if_pos h2]
  ·rw [if_neg (by simp [h1]),if_neg (by omega)]
def MaxOK (w:World):Prop:=∃ m,w.cell? (qa 0 0) = some (.int .i64 m)
theorem MaxOK.lt {w:World} (h:MaxOK w):0 < w.heap.size:=by
 obtain ⟨m,hm⟩:=h
 exact World.block_lt_of_cell? _ _ hm
theorem MaxOK.below {w w1:World} (h:MaxOK w) (hb:Below w.heap.size w w1):MaxOK w1:=by
 have hl:=h.lt
 obtain ⟨m,hm⟩:=h
 exact ⟨m,(hb.cell (p:=(qa 0 0)) hl).trans hm⟩
theorem MaxOK.grown {w w1:World} {b:Nat} (h:MaxOK w) (hb:w.grownBy w1 (some b)) (hne:b ≠ 0):MaxOK w1:=by
 have hl:=h.lt
 obtain ⟨m,hm⟩:=h
 exact ⟨m,(World.cell?_of_block (hb.block 0 hl (fun e => hne (by injection e with e;exact e.symm)))).trans hm⟩
theorem maxOK {w:World} (h:w.ShapedOpen Tryd.prog):MaxOK w:=Tryd.laysM155.s1_3 w h
theorem lst (l:List UInt8):(⟨l.toArray⟩:ByteArray).toList = l:=by rw [ByteArray.toList_eq]
theorem lsz (l:List UInt8):(⟨l.toArray⟩:ByteArray).size = l.length:=by
 show l.toArray.size = _
 simp
theorem ext_toList (p:ByteArray) (k:Nat):(p.extract k p.size).toList = p.toList.drop k:=by
 rw [ByteArray.toList_eq,ByteArray.toList_eq]
 exact Lib.extract_to_end p k
theorem cut_law (s:ByteArray) (w:World) (hs:s.size ≤ 1000) (hM:MaxOK w):Calls Tryd.prog 70 #[.string s,.string ⟨#[47]⟩] w fun e w' => ∃ (T:ByteArray) (f:Bool) (n:Nat),e = .returned (.tuple #[.string ⟨(s.toList.takeWhile (· != 47)).toArray⟩,.string T,.bool f]) ∧ w' = w.drewN n:=by
 obtain ⟨m,hm⟩:=hM
 refine (Tryd.strings_Cut s ⟨#[47]⟩ m w (by omega) hm).mono ?_
 rintro e w' ⟨rfl,n,rfl⟩
 refine ⟨⟨(Lib.cut s.data.toList [47]).2.1.toArray⟩,(Lib.cut s.data.toList [47]).2.2,n,?_,rfl⟩
 rw [ByteArray.toList_eq,← cut47]
theorem rep_law (s:ByteArray) (a b c:UInt8) (w:World) (hs:s.size ≤ 1000) (hM:MaxOK w):Calls Tryd.prog 71 #[.string s,.string ⟨#[a,b]⟩,.string ⟨#[c]⟩] w fun e w' => e = .returned (.string ⟨(rep2 a b c s.toList).toArray⟩) ∧ Below w.heap.size w w':=by
 obtain ⟨m,hm⟩:=hM
 have hc:Lib.countB s ⟨#[a,b]⟩ ≤ s.size:=Lib.countB_le ⟨#[a,b]⟩ (by show 1 ≤ 2;omega) s.size s (Nat.le_refl _)
 have h1:(⟨#[c]⟩:ByteArray).size = 1:=rfl
 refine (Tryd.strings_ReplaceAll s ⟨#[a,b]⟩ ⟨#[c]⟩ m w (by omega) hm (by show 1 ≤ 2;omega) (by rw [h1];omega)).mono ?_
 rintro e w' ⟨rfl,hb⟩
 refine ⟨?_,hb⟩
 rw [ByteArray.toList_eq,← replaceAll2]
def PartC (b:Nat) (r:List UInt8) (w:World) (e:Ending) (w':World):Prop:=
 e = .returned (.tuple #[.string ⟨(unesc (r.takeWhile (· != 47))).toArray⟩,.bool true]) ∧ (∃ q:ByteArray,q.toList = r.dropWhile (· != 47) ∧ q.size ≤ 1000 ∧ Blk w' b 9 #[.string q]) ∧ w.grownBy w' (some b)
theorem parts1_nil (b:Nat) (p:ByteArray) (w:World) (h:Blk w b 9 #[.string p]) (hp:p.toList = []):Calls Tryd.prog 69 #[.pointer (some (qa b 0))] w fun e w' => e = .returned (.tuple #[.string ⟨#[]⟩,.bool false]) ∧ w = w':=by
 have c0:=h.cell 0
 have f1:p.toList.isEmpty = true:=by rw [hp];rfl
 clear h
 go_enter Tryd.func69,Tryd.ntmps69
 go_wp2_with fail
 go_ret2
 exact ⟨rfl,rfl⟩
set_option maxHeartbeats 1000000 in
theorem parts1_cons (b:Nat) (p:ByteArray) (c:UInt8) (r:List UInt8) (w:World) (h:Blk w b 9 #[.string p]) (hp:p.toList = c :: r) (hs:p.size ≤ 1000) (hM:MaxOK w):Calls Tryd.prog 69 #[.pointer (some (qa b 0))] w (PartC b r w):=by
 have hb0:b ≠ 0:=fun e => by
  subst e
  obtain ⟨m,hm⟩:=hM
  have:=(h.cell 0).symm.trans hm
  simp at this
 have c0:w.cell? (qa b 0) = some (.string p):=h.cell 0
 have f0:=h.frozen 0
 have hpz:1 ≤ p.size:=by rw [← toList_len,hp];simp
 have f1:¬ p.toList = []:=by rw [hp];simp
 have f2:p.toList.isEmpty = false:=by rw [hp];rfl
 have hrl:r.length + 1 = p.size:=by rw [← toList_len,hp];simp
 obtain ⟨S,hS⟩:∃ S:ByteArray,S = ⟨(r.takeWhile (· != 47)).toArray⟩:=⟨_,rfl⟩
 have hSl:S.toList = r.takeWhile (· != 47):=by rw [hS,lst]
 have hSz:S.size = (r.takeWhile (· != 47)).length:=by rw [hS,lsz]
 have hSr:S.size ≤ r.length:=by rw [hSz];exact (List.takeWhile_prefix _).length_le
 have hSz2:1 + S.size ≤ p.size:=by omega
 have HC:Hid (∀ w',MaxOK w' → Calls Tryd.prog 70 #[.string (p.extract 1 p.size),.string ⟨#[47]⟩] w' fun e w'' => ∃ (T:ByteArray) (f:Bool) (n:Nat),e = .returned (.tuple #[.string S,.string T,.bool f]) ∧ w'' = w'.drewN n):=fun w' h' => by
  have:=cut_law (p.extract 1 p.size) w' (by rw [ByteArray.size_extract];omega) h'
  rw [ext_toList,hp,List.drop_succ_cons,List.drop_zero,← hS] at this
  exact this
 obtain ⟨R,hR⟩:∃ R:ByteArray,R = ⟨(rep2 126 49 47 S.toList).toArray⟩:=⟨_,rfl⟩
 have hRz:R.size ≤ 1000:=by
  rw [hR,lsz]
  have:=rep2_len 126 49 47 _ S.toList (Nat.le_refl _)
  rw [toList_len] at this;omega
 obtain ⟨U,hU⟩:∃ U:ByteArray,U = ⟨(unesc (r.takeWhile (· != 47))).toArray⟩:=⟨_,rfl⟩
 have hUR:U = ⟨(rep2 126 48 126 R.toList).toArray⟩:=by rw [hU,hR,lst,hSl];rfl
 have HR1:Hid (∀ w',MaxOK w' → Calls Tryd.prog 71 #[.string S,.string ⟨#[126,49]⟩,.string ⟨#[47]⟩] w' fun e w'' => e = .returned (.string R) ∧ Below w'.heap.size w' w''):=fun w' h' => by
  rw [hR];exact rep_law S 126 49 47 w' (by omega) h'
 have HR2:Hid (∀ w',MaxOK w' → Calls Tryd.prog 71 #[.string R,.string ⟨#[126,48]⟩,.string ⟨#[126]⟩] w' fun e w'' => e = .returned (.string U) ∧ Below w'.heap.size w' w''):=fun w' h' => by
  rw [hUR];exact rep_law R 126 48 126 w' hRz h'
 have HU:=Lib.hid hU
 have HQ:Hid ((p.extract (1 + S.size) p.size).toList = r.dropWhile (· != 47)):=by
  show _ = _
  rw [ext_toList,hp,Nat.add_comm,List.drop_succ_cons,hSz,drop_takeWhile]
 have HQZ:Hid ((p.extract (1 + S.size) p.size).size ≤ 1000):=by
  show _ ≤ _
  rw [ByteArray.size_extract];omega
 have HB:=Lib.hid h
 have HM:=Lib.hid hM
 clear h hM hS hSl hSz hR hUR hU hp hrl hSr hRz
 go_enter Tryd.func69,Tryd.ntmps69
 go_wp2_with fail
 refine (HC.out _ HM.out).mono ?_;rintro e w1 ⟨T,f,n,rfl,rfl⟩
 clear HC
 go_wp2_with fail
 have hg1:w.grownBy ((w.drewN n).setCell (qa b 0) (.string (p.extract (1 + S.size) p.size))) (some b):=grown_set (grown_drewN (grown_refl w _) n) 0 _
 have hb1:Blk ((w.drewN n).setCell (qa b 0) (.string (p.extract (1 + S.size) p.size))) b 9 #[.string (p.extract (1 + S.size) p.size)]:=(HB.out.drewN n).set_ 0 _
 have HG1:=Lib.hid hg1
 have HB1:=Lib.hid hb1
 have HM1:=Lib.hid (HM.out.grown hg1 hb0)
 clear hg1 hb1 c0 f0
 refine (HR1.out _ HM1.out).mono ?_;rintro e w2 ⟨rfl,hb2⟩
 have HM2:=Lib.hid (HM1.out.below hb2)
 have HB2:=Lib.hid (HB1.out.below hb2 HB1.out.lt)
 have HG2:=Lib.hid (HG1.out.trans (grown_below hb2))
 clear hb2 HM1 HB1 HG1
 go_wp2_with fail
 refine (HR2.out _ HM2.out).mono ?_;rintro e w3 ⟨rfl,hb3⟩
 have HB3:=Lib.hid (HB2.out.below hb3 HB2.out.lt)
 have HG3:=Lib.hid (HG2.out.trans (grown_below hb3))
 clear hb3 HM2 HB2 HG2
 go_wp2_with fail
 go_ret2
 exact ⟨by rw [HU.out];rfl,⟨_,HQ.out,HQZ.out,HB3.out⟩,HG3.out⟩
end Go.Proofs.YthbjehbpanhdoaaDoor
namespace Go.Proofs.YthbjehbpanhdoaaDoor
open Go.RowKit Go.PlainAid
set_option linter.unusedVariables false
set_option linter.unusedSimpArgs false
set_option maxRecDepth 100000
def set5 (w:World) (y:Nat) (a b c d e:Value):World:=((((w.setCell (qa y 0) a).setCell (qa y 1) b).setCell (qa y 2) c).setCell (qa y 3) d).setCell (qa y 4) e
theorem set5_blk {w:World} {y:Nat} {t:TypeId} {a b c d e a' b' c' d' e':Value} (h:Blk w y t #[a',b',c',d',e']):Blk (set5 w y a b c d e) y t #[a,b,c,d,e]:=(((((h.set_ 0 a).set_ 1 b).set_ 2 c).set_ 3 d).set_ 4 e)
theorem set5_far {w:World} {y g:Nat} {t:TypeId} {cs:Array Value} {a b c d e:Value} (h:Blk w g t cs) (hne:g ≠ y):Blk (set5 w y a b c d e) g t cs:=(((((h.far hne a).far hne b).far hne c).far hne d).far hne e)
theorem set5_below {B:Nat} {w w':World} {y:Nat} {a b c d e:Value} (h:Below B w w') (hy:B ≤ y):Below B w (set5 w' y a b c d e):=
 (((((h.setCell (p:=(qa y 0)) hy a).setCell (p:=(qa y 1)) hy b).setCell (p:=(qa y 2)) hy c).setCell (p:=(qa y 3)) hy d).setCell (p:=(qa y 4)) hy e)
theorem set5_size (w:World) (y:Nat) (a b c d e:Value):(set5 w y a b c d e).heap.size = w.heap.size:=by simp [set5]
theorem set5_cell {w:World} {y:Nat} {a b c d e:Value} {p:Addr} (hp:p.block ≠ y):(set5 w y a b c d e).cell? p = w.cell? p:=by
 have ne:∀ o:Nat,((qa y o):Addr) ≠ p:=fun o e => hp (by rw [← e])
 unfold set5
 rw [World.cell?_setCell_other _ _ _ _ (ne _),World.cell?_setCell_other _ _ _ _ (ne _),World.cell?_setCell_other _ _ _ _ (ne _),World.cell?_setCell_other _ _ _ _ (ne _),World.cell?_setCell_other _ _ _ _ (ne _)]
theorem set5_in {w:World} {y:Nat} {S S':Nat → Prop} {n:Nd} {cs:List Value} {a b c d e:Value} (h:NdIn w S n cs) (hy:∀ b,S b → b ≠ y) (hs:∀ b,S b → S' b):NdIn (set5 w y a b c d e) S' n cs:=
 NdIn.keep (fun p hp => set5_cell (hy _ hp)) hs _ _ h
theorem NdIn.mono {w:World} {S S':Nat → Prop} (hs:∀ b,S b → S' b) {n:Nd} {cs:List Value} (h:NdIn w S n cs):NdIn w S' n cs:=NdIn.keep (fun _ _ => rfl) hs n cs h
theorem NdIn.on {w w':World} {S:Nat → Prop} {B:Nat} {n:Nd} {cs:List Value} (h:NdIn w S n cs) (hs:∀ b,S b → b < B) (hb:Below B w w'):NdIn w' S n cs:=NdIn.keep (fun p hp => hb.cell (hs _ hp)) (fun _ h => h) n cs h
def GetP (r:Option Nd) (S:Nat → Prop) (w:World) (e:Ending) (w':World):Prop:=∃ (c0 c1:Int) (c2:ByteArray) (c3:Option Addr) (c4 c5:Nat) (c6:Option Addr) (c7 c8:Nat),
 e = .returned (.tuple #[.agg (nA c0 c1 c2 c3 c4 c5 c6 c7 c8),.bool r.isSome]) ∧ NdIn w' (fun b => S b ∨ Since w w' b) (r.getD (nd0 0)) (nL c0 c1 c2 c3 c4 c5 c6 c7 c8) ∧ Below w.heap.size w w'
theorem get_fin {r:Option Nd} {S S2:Nat → Prop} {w w2:World} {y:Nat} {a b c d e:Value} {c0 c1:Int} {c2:ByteArray} {c3:Option Addr} {c4 c5:Nat} {c6:Option Addr} {c7 c8:Nat}
  (hyb:w.heap.size ≤ y) (hb:Below w.heap.size w w2) (hy:Blk w2 y 25 #[a,b,c,d,e]) (hn:NdIn w2 S2 (r.getD (nd0 0)) (nL c0 c1 c2 c3 c4 c5 c6 c7 c8))
  (hS2:∀ b,S2 b → (S b ∨ Since w w2 b) ∧ b ≠ y) :
  Blk (set5 w2 y (.int .i64 c0) (.int .i64 c1) (.string c2) (.slice c3 c4 c5) (.slice c6 c7 c8)) y 25 (nA c0 c1 c2 c3 c4 c5 c6 c7 c8) ∧
  GetP r S w (.returned (.tuple #[.agg (nA c0 c1 c2 c3 c4 c5 c6 c7 c8),.bool r.isSome])) (set5 w2 y (.int .i64 c0) (.int .i64 c1) (.string c2) (.slice c3 c4 c5) (.slice c6 c7 c8)):=by
 refine ⟨set5_blk hy,_,_,_,_,_,_,_,_,_,rfl,set5_in hn (fun b hb => (hS2 b hb).2) (fun b hb => ?_),set5_below hb hyb⟩
 rcases (hS2 b hb).1 with h | h
 ·exact .inl h
 ·exact .inr ⟨h.1,by rw [set5_size];exact h.2⟩
theorem NdsIn.app2 {w:World} {S:Nat → Prop}:∀ (ns:List Nd) (xs:List Value) (ms:List Nd) (ys:List Value),NdsIn w S ns xs → NdsIn w S ms ys → NdsIn w S (ns ++ ms) (xs ++ ys)
 | [],xs,ms,ys,h,hn => by
  unfold NdsIn at h
  subst h
  simpa using hn
 | m :: ns,xs,ms,ys,h,hn => by
  unfold NdsIn at h
  obtain ⟨ds,zs,rfl,h2,h3⟩:=h
  show NdsIn w S (m :: (ns ++ ms)) _
  unfold NdsIn
  exact ⟨ds,zs ++ ys,by simp,h2,NdsIn.app2 ns zs ms ys h3 hn⟩
theorem NdsIn.flat_ok {w:World} {S:Nat → Prop}:∀ (ns:List Nd) (xs:List Value),NdsIn w S ns xs → ∀ u ∈ xs,u.oneCell' = true
 | [],xs,h => by unfold NdsIn at h;subst h;simp
 | m :: ns,xs,h => by
  unfold NdsIn at h
  obtain ⟨ds,zs,rfl,h2,h3⟩:=h
  obtain ⟨_,_,_,_,_,_,_,_,_,rfl⟩:=h2.form
  intro u hu
  rcases List.mem_append.1 hu with hu | hu
  ·simp at hu;rcases hu with rfl | rfl | rfl | rfl | rfl <;> rfl
  ·exact NdsIn.flat_ok ns zs h3 u hu
theorem wpList_pushNds (w:World) {ops:Array Oper} {rest:List Oper} {o:Oper} {a:Act} {Q:Exit → Act → World → Prop} (hgd:o.guard = none) (s x:Operand)
  (ho:o.op = .call { callee:=.builtin .append,args:=#[s,x],argTypes:=#[23,23] })
  (B:Nat) (v:Value) (n:Nat) (xs:List Value) (hs:a.eval s = v) (hown:w.ownsRow B 25 5 v n xs) (B2:Nat) (A:Option Addr) (m c:Nat) (ys:List Value) (hr:Reads w B2 5 A m ys) (h1:∀ u ∈ ys,u.oneCell' = true)
  (hx:a.eval x = .slice A m c)
  (hlim:n + m ≤ 1000000000000) (hB:B ≤ w.heap.size)
  (h:∀ v' w',w'.ownsRow B 25 5 v' (n + m) (xs ++ ys) → w.grownBy w' v.ownBlock → (v'.ownBlock = v.ownBlock ∨ ∃ g,v'.ownBlock = some g ∧ w.heap.size ≤ g) → wpList Tryd.prog ops Q rest (a.put o.dst v') w') :
  wpList Tryd.prog ops Q (o :: rest) a w:=by
 obtain ⟨i0,hi0,hz0,hz1,hz2⟩:=info_parts nodeInfo
 refine wpList_plain hgd fun K hK => ?_
 obtain ⟨v',w',h1,h2,h3,h4⟩:=run_append_any (P:=Tryd.prog) w B 23 o.type 25 i0 _ 5 80 Tryd.underlying23 hi0 hz0 hz1 hz2 rfl (by omega) v n _ hown B2 _ m c _ hr
  h1 (by simp only [maxLen];omega) (by omega) hB
 unfold Oper.wp execOp
 simp only [ho,resolve,invoke,builtin,Sem.run_bind,Sem.run_pure,Result.andThen_ok,List.map_toArray,List.map_cons,List.map_nil,hs,hx,h1]
 refine hK _ _ (h v' w' h2 h3 ?_)
 rcases h4 with h4 | h4
 ·exact .inl h4
 ·exact .inr ⟨_,h4,by simp⟩
theorem NdsIn.at_ {w:World} {S:Nat → Prop}:∀ (ns:List Nd) (xs:List Value) (i:Nat) (n:Nd),NdsIn w S ns xs → ns[i]? = some n → ∃ cs,NdIn w S n cs ∧ ∀ j,j < 5 → xs[i * 5 + j]? = cs[j]?
 | [],xs,i,n,h,hi => by simp at hi
 | a :: ns,xs,i,n,h,hi => by
  unfold NdsIn at h
  obtain ⟨cs,ys,rfl,h2,h3⟩:=h
  have hl:cs.length = 5:=by obtain ⟨_,_,_,_,_,_,_,_,_,rfl⟩:=h2.form;rfl
  cases i with
  | zero =>
   simp at hi;subst hi
   exact ⟨cs,h2,fun j hj => by rw [Nat.zero_mul,Nat.zero_add,List.getElem?_append_left (by omega)]⟩
  | succ i =>
   obtain ⟨cs',k1,k2⟩:=NdsIn.at_ ns ys i n h3 (by simpa using hi)
   refine ⟨cs',k1,fun j hj => ?_⟩
   rw [← k2 j hj,List.getElem?_append_right (by omega)]
   congr 1
   omega
theorem RS.nd {w:World} {S:Nat → Prop} {A:Option Addr} {ns:List Nd} {xs:List Value} (h:RS w S 5 A ns.length xs) (hs:NdsIn w S ns xs) {i:Nat} (hi:i < ns.length) :
  ∃ b off m,A = some (qa b off) ∧ S b ∧ ns[i]? = some m ∧ ∃ (c0 c1:Int) (c2:ByteArray) (c3:Option Addr) (c4 c5:Nat) (c6:Option Addr) (c7 c8:Nat),NdIn w S m (nL c0 c1 c2 c3 c4 c5 c6 c7 c8) ∧
   w.cell? (qa b (off + i * 5)) = some (.int .i64 c0) ∧ w.cell? (qa b (off + i * 5 + 1)) = some (.int .i64 c1) ∧ w.cell? (qa b (off + i * 5 + 2)) = some (.string c2) ∧ w.cell? (qa b (off + i * 5 + 3)) = some (.slice c3 c4 c5) ∧ w.cell? (qa b (off + i * 5 + 4)) = some (.slice c6 c7 c8):=by
 obtain ⟨ad,e,hb,hc⟩:=h.2 (by omega)
 obtain ⟨cs,h1,h2⟩:=NdsIn.at_ ns xs i ns[i] hs (List.getElem?_eq_getElem hi)
 obtain ⟨c0,c1,c2,c3,c4,c5,c6,c7,c8,rfl⟩:=h1.form
 have hx:0 < xs.length:=by rw [h.1];omega
 have hsp:=spot_none (hc 0 xs[0] (List.getElem?_eq_getElem hx))
 obtain ⟨b,off,sp⟩:=ad
 have hs:sp = none:=by
  unfold Addr.add at hsp
  split at hsp <;> simp_all
 subst hs
 have g:∀ j u,j < 5 → [Value.int .i64 c0,.int .i64 c1,.string c2,.slice c3 c4 c5,.slice c6 c7 c8][j]? = some u → w.cell? (qa b (off + (i * 5 + j))) = some u:=fun j u hj hu => by
  have:=hc _ _ ((h2 j hj).trans hu)
  rw [show ((qa b off):Addr).add (i * 5 + j) = (qa b (off + (i * 5 + j))) by unfold Addr.add;split <;> simp_all] at this
  exact this
 exact ⟨b,off,ns[i],e,hb,List.getElem?_eq_getElem hi,c0,c1,c2,c3,c4,c5,c6,c7,c8,h1,g 0 _ (by omega) rfl,g 1 _ (by omega) rfl,g 2 _ (by omega) rfl,g 3 _ (by omega) rfl,g 4 _ (by omega) rfl⟩
theorem placeF_lt (p:ByteArray) (n:Nat):placeF p n < 0 ∨ ∃ i:Nat,i < n ∧ placeF p n = i:=by
 unfold placeF
 split
 ·left;omega
 ·rename_i h
  split
  ·left;omega
  ·rename_i hd
   split
   ·left;omega
   ·have:=numZ_bound p p.size (by omega) (by simpa using hd)
    right
    exact ⟨(numZ p p.size).toNat,by omega,by omega⟩
theorem sizeOkL_app:∀ (ns ms:List Nd),sizeOkL ns → sizeOkL ms → sizeOkL (ns ++ ms)
 | [],ms,_,h => h
 | n :: ns,ms,h1,h2 => by
  unfold sizeOkL at h1
  show sizeOkL (n :: (ns ++ ms))
  unfold sizeOkL
  exact ⟨h1.1,sizeOkL_app ns ms h1.2 h2⟩
theorem counts_app:∀ (ns ms:List Nd),Nd.count.counts (ns ++ ms) = Nd.count.counts ns + Nd.count.counts ms
 | [],ms => by simp [Nd.count.counts]
 | n :: ns,ms => by
  show Nd.count.counts (n :: (ns ++ ms)) = _
  simp only [Nd.count.counts,counts_app ns ms];omega
theorem len_counts:∀ (ns:List Nd),ns.length ≤ Nd.count.counts ns
 | [] => by simp
 | n :: ns => by
  have:=len_counts ns
  have:=n.count_pos
  simp only [List.length_cons,Nd.count.counts];omega
theorem findN_kid {n m:Nd} {x:ByteArray} (h:findN n x = some m):∃ i:Nat,n.kids[i]? = some m:=by
 cases n with
 | mk k num t ks ns =>
  by_cases hk:k = 7
  ·cases hi:idxK ks x with
   | none => simp [findN,hk,hi] at h
   | some i => exact ⟨i,by simpa [findN,hk,hi,Nd.kids] using h⟩
  ·simp [findN,hk] at h
theorem kid_ok {n m:Nd} {i:Nat} (h:n.kids[i]? = some m) (hs:sizeOk n):sizeOk m ∧ m.count < n.count:=by
 cases n with
 | mk k num t ks ns =>
  unfold sizeOk at hs
  refine ⟨sizeOkL_get ns i m h hs.2.2.2.2,?_⟩
  have:=Nd.counts_get ns i m h
  simp only [Nd.count];omega
theorem star_ok (f:Nd → Option Nd):∀ (ns acc out:List Nd),starL f ns acc = some out → (∀ n m,n ∈ ns → f n = some m → sizeOk m ∧ m.count ≤ n.count) → sizeOkL acc →
  sizeOkL out ∧ Nd.count.counts out ≤ Nd.count.counts acc + Nd.count.counts ns
 | [],acc,out,h,_,ha => by
  unfold starL at h;injection h with h;subst h
  exact ⟨ha,by omega⟩
 | n :: ns,acc,out,h,hf,ha => by
  unfold starL at h
  split at h
  ·cases h
  ·rename_i x hx
   obtain ⟨k1,k2⟩:=hf n x (by simp) hx
   have ha2:sizeOkL (starAdd x acc) ∧ Nd.count.counts (starAdd x acc) ≤ Nd.count.counts acc + x.count:=by
    cases x with
    | mk k num t ks ms =>
     unfold starAdd
     split
     ·refine ⟨sizeOkL_app _ _ ha (by unfold sizeOk at k1;exact k1.2.2.2.2),?_⟩
      rw [counts_app];simp only [Nd.kids,Nd.count];omega
     ·refine ⟨sizeOkL_app _ _ ha (by unfold sizeOkL;exact ⟨k1,by unfold sizeOkL;trivial⟩),?_⟩
      rw [counts_app];simp only [Nd.count.counts];omega
   obtain ⟨h1,h2⟩:=star_ok f ns _ out h (fun n m hn => hf n m (by simp [hn])) ha2.1
   refine ⟨h1,?_⟩
   simp only [Nd.count.counts];omega
theorem getN_ok:∀ (l:List ByteArray) (n m:Nd),getN l n = some m → sizeOk n → n.count ≤ 1000000 → sizeOk m ∧ m.count ≤ n.count
 | [],n,m,h,hs,hc => by unfold getN at h;injection h with h;subst h;exact ⟨hs,Nat.le_refl _⟩
 | p :: l,n,m,h,hs,hc => by
  unfold getN at h
  split at h
  ·split at h
   ·cases h
   ·rename_i q hq
    obtain ⟨i,hi⟩:=findN_kid hq
    obtain ⟨k1,k2⟩:=kid_ok hi hs
    have:=getN_ok l q m h k1 (by omega)
    exact ⟨this.1,by omega⟩
  ·split at h
   ·split at h
    ·split at h
     ·cases h
     ·rename_i ns hns
      injection h with h;subst h
      obtain ⟨k1,k2⟩:=star_ok (getN l) n.kids [] ns hns (fun a b ha hb => by
       obtain ⟨i,hi⟩:=List.getElem?_of_mem ha
       obtain ⟨k1,k2⟩:=kid_ok hi hs
       exact getN_ok l a b hb k1 (by omega)) (by unfold sizeOkL;trivial)
      have hk:Nd.count.counts n.kids + 1 = n.count:=by cases n;simp only [Nd.kids,Nd.count];omega
      simp only [Nd.count.counts] at k2
      have hl:=len_counts ns
      refine ⟨?_,by simp only [Nd.count];omega⟩
      unfold sizeOk
      exact ⟨by omega,by decide,by simp,by simp;omega,k1⟩
    ·split at h
     ·cases h
     ·split at h
      ·cases h
      ·rename_i q hq
       obtain ⟨k1,k2⟩:=kid_ok hq hs
       have:=getN_ok l q m h k1 (by omega)
       exact ⟨this.1,by omega⟩
   ·cases h
def GS (w:World) (g1 o1 g2 o2:Nat) (v u0 u1 u2 u3 u4:Value) (w':World):Prop:=
 w'.cell? (qa g1 o1) = some v ∧ w'.cell? (qa g2 o2) = some u0 ∧ w'.cell? (qa g2 (o2 + 1)) = some u1 ∧ w'.cell? (qa g2 (o2 + 2)) = some u2 ∧ w'.cell? (qa g2 (o2 + 3)) = some u3 ∧ w'.cell? (qa g2 (o2 + 4)) = some u4 ∧ Below w.heap.size w w'
theorem GS.drew {w w':World} {g1 o1 g2 o2:Nat} {v u0 u1 u2 u3 u4:Value} (h:GS w g1 o1 g2 o2 v u0 u1 u2 u3 u4 w'):GS w g1 o1 g2 o2 v u0 u1 u2 u3 u4 w'.drew:=⟨h.1,h.2.1,h.2.2.1,h.2.2.2.1,h.2.2.2.2.1,h.2.2.2.2.2.1,h.2.2.2.2.2.2.drew⟩
theorem GS.below {w w' w2:World} {g1 o1 g2 o2:Nat} {v u0 u1 u2 u3 u4:Value} (h:GS w g1 o1 g2 o2 v u0 u1 u2 u3 u4 w') (k:Below w'.heap.size w' w2):GS w g1 o1 g2 o2 v u0 u1 u2 u3 u4 w2:=by
 obtain ⟨h0,h1,h2,h3,h4,h5,h6⟩:=h
 have e:∀ {p:Addr} {x:Value},w'.cell? p = some x → w2.cell? p = some x:=fun hp => (k.cell (World.block_lt_of_cell? _ _ hp)).trans hp
 exact ⟨e h0,e h1,e h2,e h3,e h4,e h5,h6.trans (k.mono h6.size)⟩
theorem GS.set5 {w w':World} {g1 o1 g2 o2 y:Nat} {v u0 u1 u2 u3 u4 a b c d e:Value} (h:GS w g1 o1 g2 o2 v u0 u1 u2 u3 u4 w') (hy:w.heap.size ≤ y) (n1:g1 ≠ y) (n2:g2 ≠ y):GS w g1 o1 g2 o2 v u0 u1 u2 u3 u4 (set5 w' y a b c d e):=by
 obtain ⟨h0,h1,h2,h3,h4,h5,h6⟩:=h
 exact ⟨(set5_cell n1).trans h0,(set5_cell n2).trans h1,(set5_cell n2).trans h2,(set5_cell n2).trans h3,(set5_cell n2).trans h4,(set5_cell n2).trans h5,set5_below h6 hy⟩
def OS (w:World) (x ab ao:Nat) (v0 v1 v2 v3 v4 u:Value) (w':World):Prop:=
 w'.cell? (qa x 0) = some v0 ∧ w'.cell? (qa x 1) = some v1 ∧ w'.cell? (qa x 2) = some v2 ∧ w'.cell? (qa x 3) = some v3 ∧ w'.cell? (qa x 4) = some v4 ∧ w'.cell? (qa ab ao) = some u ∧ Below w.heap.size w w'
theorem OS.below {w w' w2:World} {x ab ao:Nat} {v0 v1 v2 v3 v4 u:Value} (h:OS w x ab ao v0 v1 v2 v3 v4 u w') (k:Below w'.heap.size w' w2):OS w x ab ao v0 v1 v2 v3 v4 u w2:=by
 obtain ⟨h0,h1,h2,h3,h4,h5,h6⟩:=h
 have e:∀ {p:Addr} {x:Value},w'.cell? p = some x → w2.cell? p = some x:=fun hp => (k.cell (World.block_lt_of_cell? _ _ hp)).trans hp
 exact ⟨e h0,e h1,e h2,e h3,e h4,e h5,h6.trans (k.mono h6.size)⟩
theorem OS.alloc {w w':World} {x ab ao:Nat} {v0 v1 v2 v3 v4 u:Value} (h:OS w x ab ao v0 v1 v2 v3 v4 u w') (o:Obj):OS w x ab ao v0 v1 v2 v3 v4 u (w'.alloc o):=h.below ((Below.refl _ _).alloc (Nat.le_refl _) o)
theorem OS.drew {w w':World} {x ab ao:Nat} {v0 v1 v2 v3 v4 u:Value} (h:OS w x ab ao v0 v1 v2 v3 v4 u w'):OS w x ab ao v0 v1 v2 v3 v4 u w'.drew:=h.below (Below.refl _ _).drew
theorem OS.set5 {w w':World} {x ab ao y:Nat} {v0 v1 v2 v3 v4 u a b c d e:Value} (h:OS w x ab ao v0 v1 v2 v3 v4 u w') (hy:w.heap.size ≤ y) (n1:x ≠ y) (n2:ab ≠ y):OS w x ab ao v0 v1 v2 v3 v4 u (set5 w' y a b c d e):=by
 obtain ⟨h0,h1,h2,h3,h4,h5,h6⟩:=h
 exact ⟨(set5_cell n1).trans h0,(set5_cell n1).trans h1,(set5_cell n1).trans h2,(set5_cell n1).trans h3,(set5_cell n1).trans h4,(set5_cell n2).trans h5,set5_below h6 hy⟩
def GetOK (l:List ByteArray):Prop:=∀ (n:Nd) (cs:List Value) (w:World) (S:Nat → Prop) (A:Option Addr) (c:Nat),NdIn w S n cs → (∀ b,S b → b < w.heap.size) → Reads w w.heap.size 1 A l.length (l.map Value.string) → l.length ≤ c → c ≤ maxLen → sizeOk n → n.count ≤ 1000000 → Calls Tryd.prog 57 #[.agg cs.toArray,.slice A l.length c] w (GetP (getN l n) S w)
set_option maxHeartbeats 1000000 in
theorem get_nil:GetOK []:=by
 intro n cs w S A c hn hS hr hl hc hs hct
 have HN:=Lib.hid hn
 cases n with
 | mk k num t ks ns =>
 unfold NdIn at hn
 obtain ⟨A1,ck,A2,cc,xs,rfl,hks,hxs,hns,ik,inn,ht,hkl,hkm,hmm⟩:=hn
 have HS:=Lib.hid hS
 clear hS hks hxs hns hkl hr
 show Calls Tryd.prog 57 #[.agg (nA k num t A1 ks.length ck A2 ns.length cc),.slice A 0 c] w _
 have hA:Below w.heap.size w ((w.alloc (.cells (nA k num t A1 ks.length ck A2 ns.length cc) 25)).alloc (.cells Zn 25)):=((Below.refl _ _).alloc (Nat.le_refl _) _).alloc (by simp) _
 have hX:Blk ((w.alloc (.cells (nA k num t A1 ks.length ck A2 ns.length cc) 25)).alloc (.cells Zn 25)) w.heap.size 25 (nA k num t A1 ks.length ck A2 ns.length cc):=(Blk.new w _ _).alloc _
 have hY:Blk ((w.alloc (.cells (nA k num t A1 ks.length ck A2 ns.length cc) 25)).alloc (.cells Zn 25)) (w.heap.size + 1) 25 Zn:=by
  have:=Blk.new (w.alloc (.cells (nA k num t A1 ks.length ck A2 ns.length cc) 25)) 25 Zn
  simpa using this
 have hZ:w.heap.size + 2 = ((w.alloc (.cells (nA k num t A1 ks.length ck A2 ns.length cc) 25)).alloc (.cells Zn 25)).heap.size:=by simp
 have HA:=Lib.hid hA
 have HX:=Lib.hid hX
 have HY:=Lib.hid hY
 clear hA hX hY
 go_enter Tryd.func57,Tryd.ntmps57
 go_upto_region 1 with fail
 generalize (w.alloc (.cells (nA k num t A1 ks.length ck A2 ns.length cc) 25)).alloc (.cells Zn 25) = wa at *
 obtain ⟨c0,c1,c2,c3,c4⟩:=HX.out.cells5
 obtain ⟨d0,d1,d2,d3,d4⟩:=HY.out.cells5
 have f0:=HY.out.frozen 0
 have f1:=HY.out.frozen 1
 have f2:=HY.out.frozen 2
 have f3:=HY.out.frozen 3
 have f4:=HY.out.frozen 4
 go_wp2_with fail
 clear d0 d1 d2 d3 d4 f0 f1 f2 f3 f4
 have F:=get_fin (r:=some (.mk k num t ks ns)) (S:=S) (S2:=S) (w:=w) (w2:=wa) (y:=w.heap.size + 1) (by omega) HA.out HY.out (HN.out.on HS.out HA.out) (fun b hb => ⟨.inl hb,fun e => by have:=HS.out b hb;omega⟩)
 unfold set5 at F
 generalize (((((wa).setCell (qa (w.heap.size + 1) 0) (.int .i64 k)).setCell (qa (w.heap.size + 1) 1) (.int .i64 num)).setCell (qa (w.heap.size + 1) 2) (.string t)).setCell (qa (w.heap.size + 1) 3) (.slice A1 ks.length ck)).setCell (qa (w.heap.size + 1) 4) (.slice A2 ns.length cc) = WF at *
 obtain ⟨F1,F2⟩:=F
 obtain ⟨q0,q1,q2,q3,q4⟩:=F1.cells5
 refine bodyPost_ret (v:=.tuple #[.agg (nA k num t A1 ks.length ck A2 ns.length cc),.bool true]) (by simp [results,Tryd.results57,go_sem,q0,q1,q2,q3,q4]) rfl ?_
 exact F2
def GetStep (p:ByteArray) (l:List ByteArray) (n:Nd) (len cap:Nat) (TA:Nat → Nat → Option Addr):Prop:=p.size ≤ 9223372036854775807 → ∀ (cs:List Value) (w:World) (S:Nat → Prop) (ab ao:Nat),NdIn w S n cs → (∀ b,S b → b < w.heap.size) → ab < w.heap.size → w.cell? (qa ab ao) = some (.string p) → Reads w w.heap.size 1 (TA ab ao) l.length (l.map Value.string) → cap ≤ maxLen → sizeOk n → n.count ≤ 1000000 → Calls Tryd.prog 57 #[.agg cs.toArray,.slice (some (qa ab ao)) len cap] w (GetP (getN (p :: l) n) S w)
set_option maxHeartbeats 1000000 in
theorem get_other (p:ByteArray) (l:List ByteArray) (n:Nd) (c:Nat) (TA:Nat → Nat → Option Addr) (h7:n.kind ≠ 7) (h6:n.kind ≠ 6):GetStep p l n (l.length + 1) c TA:=by
 intro hpz cs w S ab ao hn hS hab hp hr hc hs hct
 cases n with
 | mk k num t ks ns =>
 unfold NdIn at hn
 obtain ⟨A1,ck,A2,cc,xs,rfl,hks,hxs,hns,ik,inn,ht,hkl,hkm,hmm⟩:=hn
 simp only [Nd.kind] at h7 h6
 have e7:(k == 7) = false:=by rw [beq_eq_false_iff_ne];exact h7
 have e6:(k == 6) = false:=by rw [beq_eq_false_iff_ne];exact h6
 have HR:Hid (getN (p :: l) (.mk k num t ks ns) = none):=by show _ = _;simp [getN,Nd.kind,h7,h6]
 have HS:=Lib.hid hS
 clear hS hks hxs hns hkl hr h7 h6 hp
 show Calls Tryd.prog 57 #[.agg (nA k num t A1 ks.length ck A2 ns.length cc),.slice (some (qa ab ao)) (l.length + 1) c] w _
 have hA:Below w.heap.size w ((w.alloc (.cells (nA k num t A1 ks.length ck A2 ns.length cc) 25)).alloc (.cells Zn 25)):=((Below.refl _ _).alloc (Nat.le_refl _) _).alloc (by simp) _
 have hX:Blk ((w.alloc (.cells (nA k num t A1 ks.length ck A2 ns.length cc) 25)).alloc (.cells Zn 25)) w.heap.size 25 (nA k num t A1 ks.length ck A2 ns.length cc):=(Blk.new w _ _).alloc _
 have hY:Blk ((w.alloc (.cells (nA k num t A1 ks.length ck A2 ns.length cc) 25)).alloc (.cells Zn 25)) (w.heap.size + 1) 25 Zn:=by
  have:=Blk.new (w.alloc (.cells (nA k num t A1 ks.length ck A2 ns.length cc) 25)) 25 Zn
  simpa using this
 have hZ:w.heap.size + 2 = ((w.alloc (.cells (nA k num t A1 ks.length ck A2 ns.length cc) 25)).alloc (.cells Zn 25)).heap.size:=by simp
 have HA:=Lib.hid hA
 have HX:=Lib.hid hX
 have HY:=Lib.hid hY
 clear hA hX hY
 go_enter Tryd.func57,Tryd.ntmps57
 go_upto_region 1 with fail
 generalize (w.alloc (.cells (nA k num t A1 ks.length ck A2 ns.length cc) 25)).alloc (.cells Zn 25) = wa at *
 obtain ⟨c0,c1,c2,c3,c4⟩:=HX.out.cells5
 obtain ⟨d0,d1,d2,d3,d4⟩:=HY.out.cells5
 have f0:=HY.out.frozen 0
 have f1:=HY.out.frozen 1
 have f2:=HY.out.frozen 2
 have f3:=HY.out.frozen 3
 have f4:=HY.out.frozen 4
 go_wp2_with fail
 clear d0 d1 d2 d3 d4 f0 f1 f2 f3 f4
 have F:=get_fin (r:=none) (S:=S) (S2:=(fun _ => False)) (w:=w) (w2:=wa) (y:=w.heap.size + 1) (by omega) HA.out HY.out (nd0_in 0 (by unfold I64;omega) _ _) (fun b hb => hb.elim)
 unfold set5 at F
 generalize (((((wa).setCell (qa (w.heap.size + 1) 0) (.int .i64 0)).setCell (qa (w.heap.size + 1) 1) (.int .i64 0)).setCell (qa (w.heap.size + 1) 2) (.string ⟨#[]⟩)).setCell (qa (w.heap.size + 1) 3) (.slice none 0 0)).setCell (qa (w.heap.size + 1) 4) (.slice none 0 0) = WF at *
 obtain ⟨F1,F2⟩:=F
 obtain ⟨q0,q1,q2,q3,q4⟩:=F1.cells5
 refine bodyPost_ret (v:=.tuple #[.agg Zn,.bool false]) (by simp [results,Tryd.results57,go_sem,q0,q1,q2,q3,q4]) rfl ?_
 rw [HR.out];exact F2
set_option maxHeartbeats 2000000 in
theorem get_place1 (p:ByteArray) (IH:GetOK []) (n:Nd) (h6:n.kind = 6) (hp42:p.toList ≠ [42]):GetStep p [] n 1 1 (fun ab ao => some (qa ab ao)):=by
 intro hpz cs w S ab ao hn hS hab hp hr hc hs hct
 cases n with
 | mk k num t ks ns =>
 have HK:Hid (∀ (i:Nat) (m:Nd),ns[i]? = some m → sizeOk m ∧ m.count ≤ 1000000):=fun i m hi => by
  have:=kid_ok (n:=.mk k num t ks ns) (i:=i) (m:=m) hi hs
  exact ⟨this.1,by omega⟩
 unfold NdIn at hn
 obtain ⟨A1,ck,A2,cc,xs,rfl,hks,hxs,hns,ik,inn,ht,hkl,hkm,hmm⟩:=hn
 simp only [Nd.kind] at h6
 subst h6
 obtain ⟨V,hV⟩:∃ V,V = placeF p ns.length:=⟨_,rfl⟩
 have e42:(p.toList == [42]) = false:=by rw [beq_eq_false_iff_ne];exact hp42
 have HS:=Lib.hid hS
 have HXS:=Lib.hid hxs
 have HNS:=Lib.hid hns
 have HR:=Lib.hid hr
 have HV:=Lib.hid hV
 clear hS hks hxs hns hkl hr hV hp42 hs
 have hp0:=Lib.hid hp
 show Calls Tryd.prog 57 #[.agg (nA 6 num t A1 ks.length ck A2 ns.length cc),.slice (some (qa ab ao)) 1 1] w _
 have hA:Below w.heap.size w ((w.alloc (.cells (nA 6 num t A1 ks.length ck A2 ns.length cc) 25)).alloc (.cells Zn 25)):=((Below.refl _ _).alloc (Nat.le_refl _) _).alloc (by simp) _
 have hX:Blk ((w.alloc (.cells (nA 6 num t A1 ks.length ck A2 ns.length cc) 25)).alloc (.cells Zn 25)) w.heap.size 25 (nA 6 num t A1 ks.length ck A2 ns.length cc):=(Blk.new w _ _).alloc _
 have hY:Blk ((w.alloc (.cells (nA 6 num t A1 ks.length ck A2 ns.length cc) 25)).alloc (.cells Zn 25)) (w.heap.size + 1) 25 Zn:=by
  have:=Blk.new (w.alloc (.cells (nA 6 num t A1 ks.length ck A2 ns.length cc) 25)) 25 Zn
  simpa using this
 have hZ:w.heap.size + 2 = ((w.alloc (.cells (nA 6 num t A1 ks.length ck A2 ns.length cc) 25)).alloc (.cells Zn 25)).heap.size:=by simp
 have HA:=Lib.hid hA
 have HX:=Lib.hid hX
 have HY:=Lib.hid hY
 clear hA hX hY
 go_enter Tryd.func57,Tryd.ntmps57
 go_upto_region 1 with fail
 generalize (w.alloc (.cells (nA 6 num t A1 ks.length ck A2 ns.length cc) 25)).alloc (.cells Zn 25) = wa at *
 have p0:wa.cell? (qa ab ao) = some (.string p):=(HA.out.cell (p:=(qa ab ao)) hab).trans hp0.out
 obtain ⟨c0,c1,c2,c3,c4⟩:=HX.out.cells5
 obtain ⟨d0,d1,d2,d3,d4⟩:=HY.out.cells5
 have f0:=HY.out.frozen 0
 have f1:=HY.out.frozen 1
 have f2:=HY.out.frozen 2
 have f3:=HY.out.frozen 3
 have f4:=HY.out.frozen 4
 clear hp
 have HPL:Hid (∀ w',Calls Tryd.prog 72 #[.string p,.int .i64 ns.length] w' (PlaceEnd V w')):=fun w' => by
  rw [HV.out];exact place_any p ns.length w' hpz (by unfold maxLen at hmm;omega)
 clear hpz
 go_wp2_with fail
 go_region_held3 (fun w' => w'.cell? (qa ab ao) = some (.string p) ∧ w'.cell? (qa w.heap.size 4) = some (.slice A2 ns.length cc) ∧ w' = wa.drew) (first | assumption | exact ⟨p0,c4,rfl⟩) (first
  | (go_at_call 72;refine (HPL.out _:Calls _ _ _ _ _).mono ?_;rintro e w5 ⟨rfl,hw5⟩;obtain rfl:_ = w5:=hw5))
 have HA2:=Lib.hid HA.out.drew
 have HX2:=Lib.hid HX.out.drew
 have HY2:=Lib.hid HY.out.drew
 have hZ2:w.heap.size + 2 = wa.drew.heap.size:=hZ
 clear HA HX HY hZ c0 c1 c2 c3 c4 d0 d1 d2 d3 d4 f0 f1 f2 f3 f4 p0
 generalize wa.drew = wd at *
 by_cases hv:V < 0
 ·have HG:Hid (getN (p :: []) (.mk 6 num t ks ns) = none):=by
   show _ = _
   rw [HV.out] at hv
   have e42':p.toList ≠ [42]:=by rw [beq_eq_false_iff_ne] at e42;exact e42
   simp [getN,Nd.kind,Nd.kids,e42',hv]
  obtain ⟨c0,c1,c2,c3,c4⟩:=HX2.out.cells5
  obtain ⟨d0,d1,d2,d3,d4⟩:=HY2.out.cells5
  have f0:=HY2.out.frozen 0
  have f1:=HY2.out.frozen 1
  have f2:=HY2.out.frozen 2
  have f3:=HY2.out.frozen 3
  have f4:=HY2.out.frozen 4
  go_wp2_with fail
  clear d0 d1 d2 d3 d4 f0 f1 f2 f3 f4
  have F:=get_fin (r:=none) (S:=S) (S2:=(fun _ => False)) (w:=w) (w2:=wd) (y:=w.heap.size + 1) (by omega) HA2.out HY2.out (nd0_in 0 (by unfold I64;omega) _ _) (fun b hb => hb.elim)
  unfold set5 at F
  generalize (((((wd).setCell (qa (w.heap.size + 1) 0) (.int .i64 0)).setCell (qa (w.heap.size + 1) 1) (.int .i64 0)).setCell (qa (w.heap.size + 1) 2) (.string ⟨#[]⟩)).setCell (qa (w.heap.size + 1) 3) (.slice none 0 0)).setCell (qa (w.heap.size + 1) 4) (.slice none 0 0) = WF at *
  obtain ⟨F1,F2⟩:=F
  obtain ⟨q0,q1,q2,q3,q4⟩:=F1.cells5
  refine bodyPost_ret (v:=.tuple #[.agg Zn,.bool false]) (by simp [results,Tryd.results57,go_sem,q0,q1,q2,q3,q4]) rfl ?_
  rw [HG.out];exact F2
 ·obtain ⟨i,hi,hVi⟩:∃ i:Nat,i < ns.length ∧ V = i:=by
   rcases placeF_lt p ns.length with h | ⟨i,h1,h2⟩
   ·rw [HV.out] at hv;omega
   ·exact ⟨i,h1,HV.out.trans h2⟩
  have hkp:∀ q:Addr,S q.block → wd.cell? q = w.cell? q:=fun q hq => HA2.out.cell (HS.out _ hq)
  obtain ⟨b,off,m,rfl,hbS,hmi,x0,x1,x2,x3,x4,x5,x6,x7,x8,hnd,e0,e1,e2,e3,e4⟩:=(HXS.out.keep hkp).nd (NdsIn.keep hkp (fun _ h => h) _ _ HNS.out) hi
  have HG:Hid (getN (p :: []) (.mk 6 num t ks ns) = getN [] m):=by
   show _ = _
   have e42':p.toList ≠ [42]:=by rw [beq_eq_false_iff_ne] at e42;exact e42
   have hp0:=HV.out.symm.trans hVi
   have hnn:¬ (i:Int) < 0:=by omega
   simp [getN,Nd.kind,Nd.kids,e42',hp0,hmi,hnn]
  subst hVi
  have hbl:=HS.out b hbS
  have HM:=Lib.hid (HK.out i m hmi)
  have HB:=Lib.hid hbS
  have HIH:Hid (∀ w',Below w.heap.size w w' → Calls Tryd.prog 57 #[.agg (nA x0 x1 x2 x3 x4 x5 x6 x7 x8),.slice (some (qa ab ao)) 0 0] w' (GetP (getN [] m) S w')):=fun w' h' =>
   IH m (nL x0 x1 x2 x3 x4 x5 x6 x7 x8) w' S _ 0 (NdIn.keep (fun q hq => (h'.cell (HS.out _ hq)).trans (hkp q hq).symm) (fun _ h => h) _ _ hnd) (fun b hb => by have:=HS.out b hb;have:=h'.size;omega) ((HR.out.keep fun q hq => h'.cell hq).more h'.size) (Nat.le_refl _) (by unfold maxLen at *;omega) HM.out.1 HM.out.2
  have hi0:(0:Int) ≤ (i:Int):=by omega
  have hi1:(i:Int) < (ns.length:Int):=by omega
  have hl1:(1:Int) ≤ (1:Nat):=by omega
  skip
  have hxy:w.heap.size ≠ w.heap.size + 1:=by omega
  have hby:b ≠ w.heap.size + 1:=by omega
  obtain ⟨c0,c1,c2,c3,c4⟩:=HX2.out.cells5
  clear c0 c1 c2 c3
  obtain ⟨d0,d1,d2,d3,d4⟩:=HY2.out.cells5
  have f0:=HY2.out.frozen 0
  have f1:=HY2.out.frozen 1
  have f2:=HY2.out.frozen 2
  have f3:=HY2.out.frozen 3
  have f4:=HY2.out.frozen 4
  have hgs:GS w w.heap.size 4 b (off + i * 5) (.slice (some (qa b off)) ns.length cc) (.int .i64 x0) (.int .i64 x1) (.string x2) (.slice x3 x4 x5) (.slice x6 x7 x8) wd:=⟨c4,e0,e1,e2,e3,e4,HA2.out⟩
  have HGS:=Lib.hid hgs
  have HS0:Hid (wd.drew.cell? (qa w.heap.size 4) = some (.slice (some (qa b off)) ns.length cc) ∧ wd.drew.cell? (qa b (off + i * 5)) = some (.int .i64 x0) ∧ wd.drew.cell? (qa b (off + i * 5 + 1)) = some (.int .i64 x1) ∧ wd.drew.cell? (qa b (off + i * 5 + 2)) = some (.string x2) ∧ wd.drew.cell? (qa b (off + i * 5 + 3)) = some (.slice x3 x4 x5) ∧ wd.drew.cell? (qa b (off + i * 5 + 4)) = some (.slice x6 x7 x8) ∧ Below w.heap.size w wd.drew):=hgs.drew
  clear hkp hmi hnd hbS IH hv hgs
  go_wp2_with fail
  go_region_held3 (fun w' => w'.cell? (qa w.heap.size 4) = some (.slice (some (qa b off)) ns.length cc) ∧ w'.cell? (qa b (off + i * 5)) = some (.int .i64 x0) ∧ w'.cell? (qa b (off + i * 5 + 1)) = some (.int .i64 x1) ∧ w'.cell? (qa b (off + i * 5 + 2)) = some (.string x2) ∧ w'.cell? (qa b (off + i * 5 + 3)) = some (.slice x3 x4 x5) ∧ w'.cell? (qa b (off + i * 5 + 4)) = some (.slice x6 x7 x8) ∧ Below w.heap.size w w') (first | with_reducible exact HS0.out | with_reducible exact HS5.out | with_reducible exact HSF.out) (first
   | (go_at_call 57;refine (HIH.out _ (by first | assumption | exact HA2.out.drew)).mono ?_;rintro e w5 ⟨y0,y1,y2,y3,y4,y5,y6,y7,y8,rfl,hn5,hb5⟩;have hY5:=HY2.out.drew.below hb5 HY2.out.drew.lt;have HY5:=Lib.hid hY5;have HN5:=Lib.hid hn5;have hz5:wd.heap.size ≤ w5.heap.size:=hb5.size;clear hn5;obtain ⟨d0,d1,d2,d3,d4⟩:=hY5.cells5;have f0:=hY5.frozen 0;have f1:=hY5.frozen 1;have f2:=hY5.frozen 2;have f3:=hY5.frozen 3;have f4:=hY5.frozen 4;have HS5:Hid (w5.cell? (qa w.heap.size 4) = some (.slice (some (qa b off)) ns.length cc) ∧ w5.cell? (qa b (off + i * 5)) = some (.int .i64 x0) ∧ w5.cell? (qa b (off + i * 5 + 1)) = some (.int .i64 x1) ∧ w5.cell? (qa b (off + i * 5 + 2)) = some (.string x2) ∧ w5.cell? (qa b (off + i * 5 + 3)) = some (.slice x3 x4 x5) ∧ w5.cell? (qa b (off + i * 5 + 4)) = some (.slice x6 x7 x8) ∧ Below w.heap.size w w5):=HGS.out.drew.below hb5;have HSF:Hid ((((((w5.setCell (qa (w.heap.size + 1) 0) (.int .i64 y0)).setCell (qa (w.heap.size + 1) 1) (.int .i64 y1)).setCell (qa (w.heap.size + 1) 2) (.string y2)).setCell (qa (w.heap.size + 1) 3) (.slice y3 y4 y5)).setCell (qa (w.heap.size + 1) 4) (.slice y6 y7 y8)).cell? (qa w.heap.size 4) = some (.slice (some (qa b off)) ns.length cc) ∧ (((((w5.setCell (qa (w.heap.size + 1) 0) (.int .i64 y0)).setCell (qa (w.heap.size + 1) 1) (.int .i64 y1)).setCell (qa (w.heap.size + 1) 2) (.string y2)).setCell (qa (w.heap.size + 1) 3) (.slice y3 y4 y5)).setCell (qa (w.heap.size + 1) 4) (.slice y6 y7 y8)).cell? (qa b (off + i * 5)) = some (.int .i64 x0) ∧ (((((w5.setCell (qa (w.heap.size + 1) 0) (.int .i64 y0)).setCell (qa (w.heap.size + 1) 1) (.int .i64 y1)).setCell (qa (w.heap.size + 1) 2) (.string y2)).setCell (qa (w.heap.size + 1) 3) (.slice y3 y4 y5)).setCell (qa (w.heap.size + 1) 4) (.slice y6 y7 y8)).cell? (qa b (off + i * 5 + 1)) = some (.int .i64 x1) ∧ (((((w5.setCell (qa (w.heap.size + 1) 0) (.int .i64 y0)).setCell (qa (w.heap.size + 1) 1) (.int .i64 y1)).setCell (qa (w.heap.size + 1) 2) (.string y2)).setCell (qa (w.heap.size + 1) 3) (.slice y3 y4 y5)).setCell (qa (w.heap.size + 1) 4) (.slice y6 y7 y8)).cell? (qa b (off + i * 5 + 2)) = some (.string x2) ∧ (((((w5.setCell (qa (w.heap.size + 1) 0) (.int .i64 y0)).setCell (qa (w.heap.size + 1) 1) (.int .i64 y1)).setCell (qa (w.heap.size + 1) 2) (.string y2)).setCell (qa (w.heap.size + 1) 3) (.slice y3 y4 y5)).setCell (qa (w.heap.size + 1) 4) (.slice y6 y7 y8)).cell? (qa b (off + i * 5 + 3)) = some (.slice x3 x4 x5) ∧ (((((w5.setCell (qa (w.heap.size + 1) 0) (.int .i64 y0)).setCell (qa (w.heap.size + 1) 1) (.int .i64 y1)).setCell (qa (w.heap.size + 1) 2) (.string y2)).setCell (qa (w.heap.size + 1) 3) (.slice y3 y4 y5)).setCell (qa (w.heap.size + 1) 4) (.slice y6 y7 y8)).cell? (qa b (off + i * 5 + 4)) = some (.slice x6 x7 x8) ∧ Below w.heap.size w (((((w5.setCell (qa (w.heap.size + 1) 0) (.int .i64 y0)).setCell (qa (w.heap.size + 1) 1) (.int .i64 y1)).setCell (qa (w.heap.size + 1) 2) (.string y2)).setCell (qa (w.heap.size + 1) 3) (.slice y3 y4 y5)).setCell (qa (w.heap.size + 1) 4) (.slice y6 y7 y8))):=(HGS.out.drew.below hb5).set5 (by omega) hxy hby))
  go_wp2_with fail
  clear d0 d1 d2 d3 d4 f0 f1 f2 f3 f4
  have F:=get_fin (r:=getN [] m) (S:=S) (S2:=(fun b => S b ∨ Since wd.drew w5 b)) (w:=w) (w2:=w5) (y:=w.heap.size + 1) (by omega) HS5.out.2.2.2.2.2.2 HY5.out HN5.out (fun b hb => by
    rcases hb with hb | hb
    ·exact ⟨.inl hb,fun e => by have:=HS.out b hb;omega⟩
    ·have h1:wd.heap.size ≤ b:=hb.1
     exact ⟨.inr ⟨by omega,hb.2⟩,by omega⟩)
  unfold set5 at F
  generalize (((((w5).setCell (qa (w.heap.size + 1) 0) (.int .i64 y0)).setCell (qa (w.heap.size + 1) 1) (.int .i64 y1)).setCell (qa (w.heap.size + 1) 2) (.string y2)).setCell (qa (w.heap.size + 1) 3) (.slice y3 y4 y5)).setCell (qa (w.heap.size + 1) 4) (.slice y6 y7 y8) = WF at *
  obtain ⟨F1,F2⟩:=F
  obtain ⟨q0,q1,q2,q3,q4⟩:=F1.cells5
  refine bodyPost_ret (v:=.tuple #[.agg (nA y0 y1 y2 y3 y4 y5 y6 y7 y8),.bool (getN [] m).isSome]) (by simp [results,Tryd.results57,go_sem,q0,q1,q2,q3,q4]) rfl ?_
  rw [HG.out];exact F2
set_option maxHeartbeats 2000000 in
theorem get_place2 (p:ByteArray) (l:List ByteArray) (c:Nat) (hc1:¬ c = 1) (hl:l.length + 1 ≤ c) (IH:GetOK l) (n:Nd) (h6:n.kind = 6) (hp42:p.toList ≠ [42]):GetStep p l n (l.length + 1) c (fun ab ao => some (qa ab (ao + 1))):=by
 intro hpz cs w S ab ao hn hS hab hp hr hc hs hct
 cases n with
 | mk k num t ks ns =>
 have HK:Hid (∀ (i:Nat) (m:Nd),ns[i]? = some m → sizeOk m ∧ m.count ≤ 1000000):=fun i m hi => by
  have:=kid_ok (n:=.mk k num t ks ns) (i:=i) (m:=m) hi hs
  exact ⟨this.1,by omega⟩
 unfold NdIn at hn
 obtain ⟨A1,ck,A2,cc,xs,rfl,hks,hxs,hns,ik,inn,ht,hkl,hkm,hmm⟩:=hn
 simp only [Nd.kind] at h6
 subst h6
 obtain ⟨V,hV⟩:∃ V,V = placeF p ns.length:=⟨_,rfl⟩
 have e42:(p.toList == [42]) = false:=by rw [beq_eq_false_iff_ne];exact hp42
 have HS:=Lib.hid hS
 have HXS:=Lib.hid hxs
 have HNS:=Lib.hid hns
 have HR:=Lib.hid hr
 have HV:=Lib.hid hV
 clear hS hks hxs hns hkl hr hV hp42 hs
 have hp0:=Lib.hid hp
 show Calls Tryd.prog 57 #[.agg (nA 6 num t A1 ks.length ck A2 ns.length cc),.slice (some (qa ab ao)) (l.length + 1) c] w _
 have hA:Below w.heap.size w ((w.alloc (.cells (nA 6 num t A1 ks.length ck A2 ns.length cc) 25)).alloc (.cells Zn 25)):=((Below.refl _ _).alloc (Nat.le_refl _) _).alloc (by simp) _
 have hX:Blk ((w.alloc (.cells (nA 6 num t A1 ks.length ck A2 ns.length cc) 25)).alloc (.cells Zn 25)) w.heap.size 25 (nA 6 num t A1 ks.length ck A2 ns.length cc):=(Blk.new w _ _).alloc _
 have hY:Blk ((w.alloc (.cells (nA 6 num t A1 ks.length ck A2 ns.length cc) 25)).alloc (.cells Zn 25)) (w.heap.size + 1) 25 Zn:=by
  have:=Blk.new (w.alloc (.cells (nA 6 num t A1 ks.length ck A2 ns.length cc) 25)) 25 Zn
  simpa using this
 have hZ:w.heap.size + 2 = ((w.alloc (.cells (nA 6 num t A1 ks.length ck A2 ns.length cc) 25)).alloc (.cells Zn 25)).heap.size:=by simp
 have HA:=Lib.hid hA
 have HX:=Lib.hid hX
 have HY:=Lib.hid hY
 clear hA hX hY
 go_enter Tryd.func57,Tryd.ntmps57
 go_upto_region 1 with fail
 generalize (w.alloc (.cells (nA 6 num t A1 ks.length ck A2 ns.length cc) 25)).alloc (.cells Zn 25) = wa at *
 have p0:wa.cell? (qa ab ao) = some (.string p):=(HA.out.cell (p:=(qa ab ao)) hab).trans hp0.out
 obtain ⟨c0,c1,c2,c3,c4⟩:=HX.out.cells5
 obtain ⟨d0,d1,d2,d3,d4⟩:=HY.out.cells5
 have f0:=HY.out.frozen 0
 have f1:=HY.out.frozen 1
 have f2:=HY.out.frozen 2
 have f3:=HY.out.frozen 3
 have f4:=HY.out.frozen 4
 clear hp
 have HPL:Hid (∀ w',Calls Tryd.prog 72 #[.string p,.int .i64 ns.length] w' (PlaceEnd V w')):=fun w' => by
  rw [HV.out];exact place_any p ns.length w' hpz (by unfold maxLen at hmm;omega)
 clear hpz
 go_wp2_with fail
 go_region_held3 (fun w' => w'.cell? (qa ab ao) = some (.string p) ∧ w'.cell? (qa w.heap.size 4) = some (.slice A2 ns.length cc) ∧ w' = wa.drew) (first | assumption | exact ⟨p0,c4,rfl⟩) (first
  | (go_at_call 72;refine (HPL.out _:Calls _ _ _ _ _).mono ?_;rintro e w5 ⟨rfl,hw5⟩;obtain rfl:_ = w5:=hw5))
 have HA2:=Lib.hid HA.out.drew
 have HX2:=Lib.hid HX.out.drew
 have HY2:=Lib.hid HY.out.drew
 have hZ2:w.heap.size + 2 = wa.drew.heap.size:=hZ
 clear HA HX HY hZ c0 c1 c2 c3 c4 d0 d1 d2 d3 d4 f0 f1 f2 f3 f4 p0
 generalize wa.drew = wd at *
 by_cases hv:V < 0
 ·have HG:Hid (getN (p :: l) (.mk 6 num t ks ns) = none):=by
   show _ = _
   rw [HV.out] at hv
   have e42':p.toList ≠ [42]:=by rw [beq_eq_false_iff_ne] at e42;exact e42
   simp [getN,Nd.kind,Nd.kids,e42',hv]
  obtain ⟨c0,c1,c2,c3,c4⟩:=HX2.out.cells5
  obtain ⟨d0,d1,d2,d3,d4⟩:=HY2.out.cells5
  have f0:=HY2.out.frozen 0
  have f1:=HY2.out.frozen 1
  have f2:=HY2.out.frozen 2
  have f3:=HY2.out.frozen 3
  have f4:=HY2.out.frozen 4
  go_wp2_with fail
  clear d0 d1 d2 d3 d4 f0 f1 f2 f3 f4
  have F:=get_fin (r:=none) (S:=S) (S2:=(fun _ => False)) (w:=w) (w2:=wd) (y:=w.heap.size + 1) (by omega) HA2.out HY2.out (nd0_in 0 (by unfold I64;omega) _ _) (fun b hb => hb.elim)
  unfold set5 at F
  generalize (((((wd).setCell (qa (w.heap.size + 1) 0) (.int .i64 0)).setCell (qa (w.heap.size + 1) 1) (.int .i64 0)).setCell (qa (w.heap.size + 1) 2) (.string ⟨#[]⟩)).setCell (qa (w.heap.size + 1) 3) (.slice none 0 0)).setCell (qa (w.heap.size + 1) 4) (.slice none 0 0) = WF at *
  obtain ⟨F1,F2⟩:=F
  obtain ⟨q0,q1,q2,q3,q4⟩:=F1.cells5
  refine bodyPost_ret (v:=.tuple #[.agg Zn,.bool false]) (by simp [results,Tryd.results57,go_sem,q0,q1,q2,q3,q4]) rfl ?_
  rw [HG.out];exact F2
 ·obtain ⟨i,hi,hVi⟩:∃ i:Nat,i < ns.length ∧ V = i:=by
   rcases placeF_lt p ns.length with h | ⟨i,h1,h2⟩
   ·rw [HV.out] at hv;omega
   ·exact ⟨i,h1,HV.out.trans h2⟩
  have hkp:∀ q:Addr,S q.block → wd.cell? q = w.cell? q:=fun q hq => HA2.out.cell (HS.out _ hq)
  obtain ⟨b,off,m,rfl,hbS,hmi,x0,x1,x2,x3,x4,x5,x6,x7,x8,hnd,e0,e1,e2,e3,e4⟩:=(HXS.out.keep hkp).nd (NdsIn.keep hkp (fun _ h => h) _ _ HNS.out) hi
  have HG:Hid (getN (p :: l) (.mk 6 num t ks ns) = getN l m):=by
   show _ = _
   have e42':p.toList ≠ [42]:=by rw [beq_eq_false_iff_ne] at e42;exact e42
   have hp0:=HV.out.symm.trans hVi
   have hnn:¬ (i:Int) < 0:=by omega
   simp [getN,Nd.kind,Nd.kids,e42',hp0,hmi,hnn]
  subst hVi
  have hbl:=HS.out b hbS
  have HM:=Lib.hid (HK.out i m hmi)
  have HB:=Lib.hid hbS
  have HIH:Hid (∀ w',Below w.heap.size w w' → Calls Tryd.prog 57 #[.agg (nA x0 x1 x2 x3 x4 x5 x6 x7 x8),.slice (some (qa ab (ao + 1))) l.length (c - 1)] w' (GetP (getN l m) S w')):=fun w' h' =>
   IH m (nL x0 x1 x2 x3 x4 x5 x6 x7 x8) w' S _ (c - 1) (NdIn.keep (fun q hq => (h'.cell (HS.out _ hq)).trans (hkp q hq).symm) (fun _ h => h) _ _ hnd) (fun b hb => by have:=HS.out b hb;have:=h'.size;omega) ((HR.out.keep fun q hq => h'.cell hq).more h'.size) (by omega) (by unfold maxLen at *;omega) HM.out.1 HM.out.2
  have hi0:(0:Int) ≤ (i:Int):=by omega
  have hi1:(i:Int) < (ns.length:Int):=by omega
  have hl1:(1:Int) ≤ ((l.length + 1):Nat):=by omega
  have hx:¬ (l.length:Int) + 1 < 1:=by omega
  have hxy:w.heap.size ≠ w.heap.size + 1:=by omega
  have hby:b ≠ w.heap.size + 1:=by omega
  obtain ⟨c0,c1,c2,c3,c4⟩:=HX2.out.cells5
  clear c0 c1 c2 c3
  obtain ⟨d0,d1,d2,d3,d4⟩:=HY2.out.cells5
  have f0:=HY2.out.frozen 0
  have f1:=HY2.out.frozen 1
  have f2:=HY2.out.frozen 2
  have f3:=HY2.out.frozen 3
  have f4:=HY2.out.frozen 4
  have hgs:GS w w.heap.size 4 b (off + i * 5) (.slice (some (qa b off)) ns.length cc) (.int .i64 x0) (.int .i64 x1) (.string x2) (.slice x3 x4 x5) (.slice x6 x7 x8) wd:=⟨c4,e0,e1,e2,e3,e4,HA2.out⟩
  have HGS:=Lib.hid hgs
  have HS0:Hid (wd.drew.cell? (qa w.heap.size 4) = some (.slice (some (qa b off)) ns.length cc) ∧ wd.drew.cell? (qa b (off + i * 5)) = some (.int .i64 x0) ∧ wd.drew.cell? (qa b (off + i * 5 + 1)) = some (.int .i64 x1) ∧ wd.drew.cell? (qa b (off + i * 5 + 2)) = some (.string x2) ∧ wd.drew.cell? (qa b (off + i * 5 + 3)) = some (.slice x3 x4 x5) ∧ wd.drew.cell? (qa b (off + i * 5 + 4)) = some (.slice x6 x7 x8) ∧ Below w.heap.size w wd.drew):=hgs.drew
  clear hkp hmi hnd hbS IH hv hgs
  go_wp2_with fail
  go_region_held3 (fun w' => w'.cell? (qa w.heap.size 4) = some (.slice (some (qa b off)) ns.length cc) ∧ w'.cell? (qa b (off + i * 5)) = some (.int .i64 x0) ∧ w'.cell? (qa b (off + i * 5 + 1)) = some (.int .i64 x1) ∧ w'.cell? (qa b (off + i * 5 + 2)) = some (.string x2) ∧ w'.cell? (qa b (off + i * 5 + 3)) = some (.slice x3 x4 x5) ∧ w'.cell? (qa b (off + i * 5 + 4)) = some (.slice x6 x7 x8) ∧ Below w.heap.size w w') (first | with_reducible exact HS0.out | with_reducible exact HS5.out | with_reducible exact HSF.out) (first
   | (go_at_call 57;refine (HIH.out _ (by first | assumption | exact HA2.out.drew)).mono ?_;rintro e w5 ⟨y0,y1,y2,y3,y4,y5,y6,y7,y8,rfl,hn5,hb5⟩;have hY5:=HY2.out.drew.below hb5 HY2.out.drew.lt;have HY5:=Lib.hid hY5;have HN5:=Lib.hid hn5;have hz5:wd.heap.size ≤ w5.heap.size:=hb5.size;clear hn5;obtain ⟨d0,d1,d2,d3,d4⟩:=hY5.cells5;have f0:=hY5.frozen 0;have f1:=hY5.frozen 1;have f2:=hY5.frozen 2;have f3:=hY5.frozen 3;have f4:=hY5.frozen 4;have HS5:Hid (w5.cell? (qa w.heap.size 4) = some (.slice (some (qa b off)) ns.length cc) ∧ w5.cell? (qa b (off + i * 5)) = some (.int .i64 x0) ∧ w5.cell? (qa b (off + i * 5 + 1)) = some (.int .i64 x1) ∧ w5.cell? (qa b (off + i * 5 + 2)) = some (.string x2) ∧ w5.cell? (qa b (off + i * 5 + 3)) = some (.slice x3 x4 x5) ∧ w5.cell? (qa b (off + i * 5 + 4)) = some (.slice x6 x7 x8) ∧ Below w.heap.size w w5):=HGS.out.drew.below hb5;have HSF:Hid ((((((w5.setCell (qa (w.heap.size + 1) 0) (.int .i64 y0)).setCell (qa (w.heap.size + 1) 1) (.int .i64 y1)).setCell (qa (w.heap.size + 1) 2) (.string y2)).setCell (qa (w.heap.size + 1) 3) (.slice y3 y4 y5)).setCell (qa (w.heap.size + 1) 4) (.slice y6 y7 y8)).cell? (qa w.heap.size 4) = some (.slice (some (qa b off)) ns.length cc) ∧ (((((w5.setCell (qa (w.heap.size + 1) 0) (.int .i64 y0)).setCell (qa (w.heap.size + 1) 1) (.int .i64 y1)).setCell (qa (w.heap.size + 1) 2) (.string y2)).setCell (qa (w.heap.size + 1) 3) (.slice y3 y4 y5)).setCell (qa (w.heap.size + 1) 4) (.slice y6 y7 y8)).cell? (qa b (off + i * 5)) = some (.int .i64 x0) ∧ (((((w5.setCell (qa (w.heap.size + 1) 0) (.int .i64 y0)).setCell (qa (w.heap.size + 1) 1) (.int .i64 y1)).setCell (qa (w.heap.size + 1) 2) (.string y2)).setCell (qa (w.heap.size + 1) 3) (.slice y3 y4 y5)).setCell (qa (w.heap.size + 1) 4) (.slice y6 y7 y8)).cell? (qa b (off + i * 5 + 1)) = some (.int .i64 x1) ∧ (((((w5.setCell (qa (w.heap.size + 1) 0) (.int .i64 y0)).setCell (qa (w.heap.size + 1) 1) (.int .i64 y1)).setCell (qa (w.heap.size + 1) 2) (.string y2)).setCell (qa (w.heap.size + 1) 3) (.slice y3 y4 y5)).setCell (qa (w.heap.size + 1) 4) (.slice y6 y7 y8)).cell? (qa b (off + i * 5 + 2)) = some (.string x2) ∧ (((((w5.setCell (qa (w.heap.size + 1) 0) (.int .i64 y0)).setCell (qa (w.heap.size + 1) 1) (.int .i64 y1)).setCell (qa (w.heap.size + 1) 2) (.string y2)).setCell (qa (w.heap.size + 1) 3) (.slice y3 y4 y5)).setCell (qa (w.heap.size + 1) 4) (.slice y6 y7 y8)).cell? (qa b (off + i * 5 + 3)) = some (.slice x3 x4 x5) ∧ (((((w5.setCell (qa (w.heap.size + 1) 0) (.int .i64 y0)).setCell (qa (w.heap.size + 1) 1) (.int .i64 y1)).setCell (qa (w.heap.size + 1) 2) (.string y2)).setCell (qa (w.heap.size + 1) 3) (.slice y3 y4 y5)).setCell (qa (w.heap.size + 1) 4) (.slice y6 y7 y8)).cell? (qa b (off + i * 5 + 4)) = some (.slice x6 x7 x8) ∧ Below w.heap.size w (((((w5.setCell (qa (w.heap.size + 1) 0) (.int .i64 y0)).setCell (qa (w.heap.size + 1) 1) (.int .i64 y1)).setCell (qa (w.heap.size + 1) 2) (.string y2)).setCell (qa (w.heap.size + 1) 3) (.slice y3 y4 y5)).setCell (qa (w.heap.size + 1) 4) (.slice y6 y7 y8))):=(HGS.out.drew.below hb5).set5 (by omega) hxy hby))
  go_wp2_with fail
  clear d0 d1 d2 d3 d4 f0 f1 f2 f3 f4
  have F:=get_fin (r:=getN l m) (S:=S) (S2:=(fun b => S b ∨ Since wd.drew w5 b)) (w:=w) (w2:=w5) (y:=w.heap.size + 1) (by omega) HS5.out.2.2.2.2.2.2 HY5.out HN5.out (fun b hb => by
    rcases hb with hb | hb
    ·exact ⟨.inl hb,fun e => by have:=HS.out b hb;omega⟩
    ·have h1:wd.heap.size ≤ b:=hb.1
     exact ⟨.inr ⟨by omega,hb.2⟩,by omega⟩)
  unfold set5 at F
  generalize (((((w5).setCell (qa (w.heap.size + 1) 0) (.int .i64 y0)).setCell (qa (w.heap.size + 1) 1) (.int .i64 y1)).setCell (qa (w.heap.size + 1) 2) (.string y2)).setCell (qa (w.heap.size + 1) 3) (.slice y3 y4 y5)).setCell (qa (w.heap.size + 1) 4) (.slice y6 y7 y8) = WF at *
  obtain ⟨F1,F2⟩:=F
  obtain ⟨q0,q1,q2,q3,q4⟩:=F1.cells5
  refine bodyPost_ret (v:=.tuple #[.agg (nA y0 y1 y2 y3 y4 y5 y6 y7 y8),.bool (getN l m).isSome]) (by simp [results,Tryd.results57,go_sem,q0,q1,q2,q3,q4]) rfl ?_
  rw [HG.out];exact F2
end Go.Proofs.YthbjehbpanhdoaaDoor
