/- Texts of one seat,one behind the other: Fo7,Fo8,Fo9,Pt10,Fo10,Cl0,Pt11,Rq0,Ri0,Copt. No condition. -/
import Derived.Test.YthbjehbpanhdoaaDoorN9
import Derived.Deep.RegionHeld3
namespace Go.Proofs.YthbjehbpanhdoaaDoor
open Go.RowKit Go.PlainAid
set_option linter.unusedVariables false
set_option linter.unusedSimpArgs false
set_option maxRecDepth 100000
set_option maxHeartbeats 4000000 in
theorem fget_star1 (p:ByteArray) (IH:FGetOK []) (n:Nd) (h6:n.kind = 6) (hp42:p.toList = [42]):FGetStep p [] n 1 1 (fun ab ao => some (qa ab ao)):=by
 intro hpz cs w S ab ao hn hS hSB hab hp hr hc hs hct
 skip
 cases n with
 | mk k num t ks ns =>
 have HK:Hid (∀ (i:Nat) (m:Nd),ns[i]? = some m → sizeOk m ∧ m.count ≤ 1000000):=fun i m hi => by
  have:=kid_ok (n:=.mk k num t ks ns) (i:=i) (m:=m) hi hs
  exact ⟨this.1,by omega⟩
 have hcn0:Nd.count.counts ns ≤ 1000000:=by simp only [Nd.count] at hct;omega
 simp only [Nd.kind] at h6
 subst h6
 have HG:Hid (getN (p :: []) (.mk 6 num t ks ns) = match starL (getN []) ns [] with | none => none | some l => some (.mk 6 0 ⟨#[]⟩ [] l)):=by
  show _ = _
  rw [getN,if_neg (by show ¬ (6:Int) = 7;decide),if_pos (by rfl),if_pos hp42]
  simp only [Nd.kids]
  cases starL (getN []) ns [] <;> rfl
 unfold NdIn at hn
 obtain ⟨A1,ck,A2,cc,xs,rfl,hks,hxs,hns,ik,inn,ht,hkl,hkm,hmm⟩:=hn
 have e42:(p.toList == [42]) = true:=by rw [hp42];rfl
 have hnl:ns.length ≤ 1000000:=Nat.le_trans (len_counts ns) hcn0
 have HS:=Lib.hid hS
 have HSB:=Lib.hid hSB
 clear hSB
 have HXS:=Lib.hid hxs
 have HNS:=Lib.hid hns
 have HR:=Lib.hid hr
 have HCN:=Lib.hid hcn0
 clear hS hks hxs hns hkl hr hs hp42 hcn0 hct ik inn ht hkm hmm
 have hp0:=Lib.hid hp
 show Calls Tryd.prog 59 #[.agg (nA 6 num t A1 ks.length ck A2 ns.length cc),.slice (some (qa ab ao)) 1 1] w _
 have hA:Below w.heap.size w ((w.alloc (.cells (nA 6 num t A1 ks.length ck A2 ns.length cc) 25)).alloc (.cells Zn 25)):=((Below.refl _ _).alloc (Nat.le_refl _) _).alloc (by simp) _
 have hX:Blk ((w.alloc (.cells (nA 6 num t A1 ks.length ck A2 ns.length cc) 25)).alloc (.cells Zn 25)) w.heap.size 25 (nA 6 num t A1 ks.length ck A2 ns.length cc):=(Blk.new w _ _).alloc _
 have hY:Blk ((w.alloc (.cells (nA 6 num t A1 ks.length ck A2 ns.length cc) 25)).alloc (.cells Zn 25)) (w.heap.size + 1) 25 Zn:=by
  have:=Blk.new (w.alloc (.cells (nA 6 num t A1 ks.length ck A2 ns.length cc) 25)) 25 Zn
  simpa using this
 have hZ:w.heap.size + 2 = ((w.alloc (.cells (nA 6 num t A1 ks.length ck A2 ns.length cc) 25)).alloc (.cells Zn 25)).heap.size:=by simp
 have HA:=Lib.hid hA
 have HX:=Lib.hid hX
 have HY:=Lib.hid hY
 clear hA hX hY
 go_enter Tryd.func59,Tryd.ntmps59
 go_upto_region 1 with fail
 generalize (w.alloc (.cells (nA 6 num t A1 ks.length ck A2 ns.length cc) 25)).alloc (.cells Zn 25) = wa at *
 have p0:wa.cell? (qa ab ao) = some (.string p):=(HA.out.cell (p:=(qa ab ao)) hab).trans hp0.out
 obtain ⟨c0,c1,c2,c3,c4⟩:=HX.out.cells5
 clear hp
 have HI0:=Lib.hid (SInv.start S HA.out HY.out (by omega))
 have hl:w.heap.size < wa.heap.size:=by omega
 have c4b:(wa.alloc (.cells #[.int .i64 6,.int .i64 0,.string ⟨#[]⟩,.slice none 0 0,.slice none 0 0] 25)).cell? (qa w.heap.size 4) = some (.slice A2 ns.length cc):=(World.cell?_alloc_lt _ _ _ hl).trans c4
 go_wp2_with fail
 clear c0 c1 c2 c3 c4 p0 c4b
 go_loopw [9] (fun t9 wr => ∃ (i:Nat) (acc:List Nd) (ys:List Value) (Aw:Option Addr) (cw:Nat),i ≤ ns.length ∧ t9 = .int .i64 i ∧ Hid (starL (getN []) (ns.drop i) acc = starL (getN []) ns []) ∧ Hid (Nd.count.counts acc + Nd.count.counts (ns.drop i) ≤ 1000000) ∧ Hid (SInv w S wa.heap.size acc Aw cw ys wr) ∧ Hid (Blk wr w.heap.size 25 (nA 6 num t A1 ks.length ck A2 ns.length cc)))
  (fun t9 _ => ns.length - (intOf t9).toNat)
 case atStart => exact ⟨0,[],[],none,0,by omega,rfl,rfl,by show _ ≤ _;simp only [Nd.count.counts,List.drop_zero];have:=HCN.out;omega,HI0,HX.out.alloc _⟩
 case round =>
  obtain ⟨i,acc,ys,Aw,cw,hi,rfl,hst,hcn,hI,hxb⟩:=hrel
  obtain ⟨wo,rfl⟩:∃ wo:World,wo = wr:=⟨_,rfl⟩
  have hob:wa.heap.size < wo.heap.size:=hI.out.2.2.2.2.2.2
  obtain ⟨c0,c1,c2,c3,c4⟩:=hxb.out.cells5
  clear c0 c1 c2 c3
  by_cases hlt:i < ns.length
  ·have hkp:∀ q:Addr,S q.block → wo.cell? q = w.cell? q:=fun q hq => hI.out.2.2.2.2.1.cell (HS.out _ hq)
   obtain ⟨b,off,m,rfl,hbS,hmi,x0,x1,x2,x3,x4,x5,x6,x7,x8,hnd,e0,e1,e2,e3,e4⟩:=(HXS.out.keep hkp).nd (NdsIn.keep hkp (fun _ h => h) _ _ HNS.out) hlt
   have hbl:=HS.out b hbS
   have hwz:w.heap.size ≤ wo.heap.size:=hI.out.2.2.2.2.1.size
   have HM:=Lib.hid (HK.out i m hmi)
   have hdr:ns.drop i = m :: ns.drop (i + 1):=by
    obtain ⟨h1,h2⟩:=List.getElem?_eq_some_iff.1 hmi
    rw [← h2];exact List.drop_eq_getElem_cons h1
   obtain ⟨R,hR⟩:∃ R,R = getN [] m:=⟨_,rfl⟩
   have HIH:Hid (∀ w',Below wo.heap.size wo w' → Calls Tryd.prog 59 #[.agg (nA x0 x1 x2 x3 x4 x5 x6 x7 x8),.slice (some (qa ab ao)) 0 0] w' (GetP R S w')):=fun w' h' => by
    rw [hR]
    exact IH m (nL x0 x1 x2 x3 x4 x5 x6 x7 x8) w' S _ 0 (NdIn.keep (fun q hq => h'.cell (by have:=HS.out _ hq;omega)) (fun _ h => h) _ _ hnd) (fun b hb => by have:=HS.out b hb;have:=h'.size;omega) HSB.out ((HR.out.keep fun q hq => ((h'.mono hwz).cell hq).trans (hI.out.2.2.2.2.1.cell hq)).more (Nat.le_trans hwz h'.size)) (Nat.le_refl _) (by unfold maxLen at *;omega) HM.out.1 HM.out.2
   have HST1:Hid (∀ r,R = r → starL (getN []) ns [] = match r with | none => none | some x => starL (getN []) (ns.drop (i + 1)) (starAdd x acc)):=fun r hr => by
    rw [← hst.out,hdr,starL,← hR,hr];cases r <;> rfl
   have HCN1:Hid (∀ x,R = some x → Nd.count.counts (starAdd x acc) + Nd.count.counts (ns.drop (i + 1)) ≤ 1000000 ∧ x.count ≤ 1000000):=fun x hx => by
    have h1:=hcn.out
    rw [hdr] at h1
    simp only [Nd.count.counts] at h1
    have h2:=(getN_ok [] m x (by rw [← hR];exact hx) HM.out.1 HM.out.2).2
    refine ⟨?_,by omega⟩
    cases x with
    | mk k num t ks ms =>
     unfold starAdd
     split
     ·rw [counts_app];simp only [Nd.kids,Nd.count] at h2 ⊢;omega
     ·rw [counts_app];simp only [Nd.count.counts];omega
   have hal:acc.length ≤ 1000000:=by
    have h1:=len_counts acc
    have h2:=hcn.out
    omega
   have HOW:Hid (∀ g,(Value.slice Aw acc.length cw).ownBlock = some g → g < wo.heap.size):=fun g hg => (own_lt hI.out.1 hg).2
   have hgs:GS w w.heap.size 4 b (off + i * 5) (.slice (some (qa b off)) ns.length cc) (.int .i64 x0) (.int .i64 x1) (.string x2) (.slice x3 x4 x5) (.slice x6 x7 x8) wo:=⟨c4,e0,e1,e2,e3,e4,hI.out.2.2.2.2.1⟩
   have HS0:Hid (wo.drew.cell? (qa w.heap.size 4) = some (.slice (some (qa b off)) ns.length cc) ∧ wo.drew.cell? (qa b (off + i * 5)) = some (.int .i64 x0) ∧ wo.drew.cell? (qa b (off + i * 5 + 1)) = some (.int .i64 x1) ∧ wo.drew.cell? (qa b (off + i * 5 + 2)) = some (.string x2) ∧ wo.drew.cell? (qa b (off + i * 5 + 3)) = some (.slice x3 x4 x5) ∧ wo.drew.cell? (qa b (off + i * 5 + 4)) = some (.slice x6 x7 x8) ∧ Below w.heap.size w wo.drew):=hgs.drew
   have HSB0:Hid ((wo.drew.alloc (.cells Zn 25)).cell? (qa w.heap.size 4) = some (.slice (some (qa b off)) ns.length cc) ∧ (wo.drew.alloc (.cells Zn 25)).cell? (qa b (off + i * 5)) = some (.int .i64 x0) ∧ (wo.drew.alloc (.cells Zn 25)).cell? (qa b (off + i * 5 + 1)) = some (.int .i64 x1) ∧ (wo.drew.alloc (.cells Zn 25)).cell? (qa b (off + i * 5 + 2)) = some (.string x2) ∧ (wo.drew.alloc (.cells Zn 25)).cell? (qa b (off + i * 5 + 3)) = some (.slice x3 x4 x5) ∧ (wo.drew.alloc (.cells Zn 25)).cell? (qa b (off + i * 5 + 4)) = some (.slice x6 x7 x8) ∧ Below w.heap.size w (wo.drew.alloc (.cells Zn 25))):=hgs.drew.below ((Below.refl _ _).alloc (Nat.le_refl _) _)
   have HSB1:Hid ((wo.alloc (.cells Zn 25)).drew.cell? (qa w.heap.size 4) = some (.slice (some (qa b off)) ns.length cc) ∧ (wo.alloc (.cells Zn 25)).drew.cell? (qa b (off + i * 5)) = some (.int .i64 x0) ∧ (wo.alloc (.cells Zn 25)).drew.cell? (qa b (off + i * 5 + 1)) = some (.int .i64 x1) ∧ (wo.alloc (.cells Zn 25)).drew.cell? (qa b (off + i * 5 + 2)) = some (.string x2) ∧ (wo.alloc (.cells Zn 25)).drew.cell? (qa b (off + i * 5 + 3)) = some (.slice x3 x4 x5) ∧ (wo.alloc (.cells Zn 25)).drew.cell? (qa b (off + i * 5 + 4)) = some (.slice x6 x7 x8) ∧ Below w.heap.size w (wo.alloc (.cells Zn 25)).drew):=(hgs.below ((Below.refl _ _).alloc (Nat.le_refl _) _)).drew
   have HZB:Hid (Blk (wo.alloc (.cells Zn 25)).drew (wo.heap.size) 25 Zn):=(Blk.new wo _ _).drew
   have HBA:Hid (Below wo.heap.size wo wo.drew):=(Below.refl _ _).drew
   have HBB:Hid (Below wo.heap.size wo (wo.alloc (.cells Zn 25)).drew):=((Below.refl _ _).alloc (Nat.le_refl _) _).drew
   have hzz:(wo.alloc (.cells Zn 25)).drew.heap.size = wo.heap.size + 1:=by show (wo.alloc (.cells Zn 25)).heap.size = _;simp
   have HZZ:=Lib.hid hzz
   have hxz:w.heap.size ≠ wo.heap.size:=by omega
   have hbz:b ≠ wo.heap.size:=by omega
   have hi0:(0:Int) ≤ (i:Int):=by omega
   have hi1:(i:Int) < (ns.length:Int):=by omega
   clear hkp hmi hnd hbS hst hcn hdr hR hzz hgs
   go_upto_region 15 with fail
   go_cut [10,11] (fun t10 t11 wx => ∃ (zb:Nat) (y0 y1:Int) (y2:ByteArray) (y3:Option Addr) (y4 y5:Nat) (y6:Option Addr) (y7 y8:Nat),t10 = .pointer (some (qa zb 0)) ∧ t11 = .bool R.isSome ∧ Hid (Blk wx zb 25 (nA y0 y1 y2 y3 y4 y5 y6 y7 y8)) ∧ Hid (NdIn wx (fun b => S b ∨ (wo.heap.size ≤ b ∧ b < wx.heap.size ∧ b ≠ zb)) (R.getD (nd0 0)) (nL y0 y1 y2 y3 y4 y5 y6 y7 y8)) ∧ Hid (Below wo.heap.size wo wx) ∧ wo.heap.size ≤ zb)
   case first =>
    skip
    skip
    go_region_held3 (fun w' => w'.cell? (qa w.heap.size 4) = some (.slice (some (qa b off)) ns.length cc) ∧ w'.cell? (qa b (off + i * 5)) = some (.int .i64 x0) ∧ w'.cell? (qa b (off + i * 5 + 1)) = some (.int .i64 x1) ∧ w'.cell? (qa b (off + i * 5 + 2)) = some (.string x2) ∧ w'.cell? (qa b (off + i * 5 + 3)) = some (.slice x3 x4 x5) ∧ w'.cell? (qa b (off + i * 5 + 4)) = some (.slice x6 x7 x8) ∧ Below w.heap.size w w') (first | with_reducible exact HS0.out | with_reducible exact HSB0.out | with_reducible exact HSB1.out | with_reducible exact HS5.out | with_reducible exact HS5a.out | with_reducible exact HS5b.out) (first
     | (go_at_call 59;(with_reducible refine (HIH.out wo.drew HBA.out).mono ?_);rintro e w5 ⟨y0,y1,y2,y3,y4,y5,y6,y7,y8,rfl,hn5,hb5⟩;have HN5:=Lib.hid hn5;have HB5:=Lib.hid hb5;clear hn5 hb5;have HS5:Hid (w5.cell? (qa w.heap.size 4) = some (.slice (some (qa b off)) ns.length cc) ∧ w5.cell? (qa b (off + i * 5)) = some (.int .i64 x0) ∧ w5.cell? (qa b (off + i * 5 + 1)) = some (.int .i64 x1) ∧ w5.cell? (qa b (off + i * 5 + 2)) = some (.string x2) ∧ w5.cell? (qa b (off + i * 5 + 3)) = some (.slice x3 x4 x5) ∧ w5.cell? (qa b (off + i * 5 + 4)) = some (.slice x6 x7 x8) ∧ Below w.heap.size w w5):=GS.below HS0.out HB5.out;have HS5a:Hid ((w5.alloc (.cells Zn 25)).cell? (qa w.heap.size 4) = some (.slice (some (qa b off)) ns.length cc) ∧ (w5.alloc (.cells Zn 25)).cell? (qa b (off + i * 5)) = some (.int .i64 x0) ∧ (w5.alloc (.cells Zn 25)).cell? (qa b (off + i * 5 + 1)) = some (.int .i64 x1) ∧ (w5.alloc (.cells Zn 25)).cell? (qa b (off + i * 5 + 2)) = some (.string x2) ∧ (w5.alloc (.cells Zn 25)).cell? (qa b (off + i * 5 + 3)) = some (.slice x3 x4 x5) ∧ (w5.alloc (.cells Zn 25)).cell? (qa b (off + i * 5 + 4)) = some (.slice x6 x7 x8) ∧ Below w.heap.size w (w5.alloc (.cells Zn 25))):=GS.below (GS.below HS0.out HB5.out) ((Below.refl _ _).alloc (Nat.le_refl _) _);have HS5b:Hid ((w5.alloc (.cells (nA y0 y1 y2 y3 y4 y5 y6 y7 y8) 25)).cell? (qa w.heap.size 4) = some (.slice (some (qa b off)) ns.length cc) ∧ (w5.alloc (.cells (nA y0 y1 y2 y3 y4 y5 y6 y7 y8) 25)).cell? (qa b (off + i * 5)) = some (.int .i64 x0) ∧ (w5.alloc (.cells (nA y0 y1 y2 y3 y4 y5 y6 y7 y8) 25)).cell? (qa b (off + i * 5 + 1)) = some (.int .i64 x1) ∧ (w5.alloc (.cells (nA y0 y1 y2 y3 y4 y5 y6 y7 y8) 25)).cell? (qa b (off + i * 5 + 2)) = some (.string x2) ∧ (w5.alloc (.cells (nA y0 y1 y2 y3 y4 y5 y6 y7 y8) 25)).cell? (qa b (off + i * 5 + 3)) = some (.slice x3 x4 x5) ∧ (w5.alloc (.cells (nA y0 y1 y2 y3 y4 y5 y6 y7 y8) 25)).cell? (qa b (off + i * 5 + 4)) = some (.slice x6 x7 x8) ∧ Below w.heap.size w (w5.alloc (.cells (nA y0 y1 y2 y3 y4 y5 y6 y7 y8) 25))):=GS.below (GS.below HS0.out HB5.out) ((Below.refl _ _).alloc (Nat.le_refl _) _))
     | (go_at_call 59;(with_reducible refine (HIH.out (wo.alloc (.cells Zn 25)).drew HBB.out).mono ?_);rintro e w5 ⟨y0,y1,y2,y3,y4,y5,y6,y7,y8,rfl,hn5,hb5⟩;have HN5:=Lib.hid hn5;have HB5:=Lib.hid hb5;clear hn5 hb5;have HS5:Hid (w5.cell? (qa w.heap.size 4) = some (.slice (some (qa b off)) ns.length cc) ∧ w5.cell? (qa b (off + i * 5)) = some (.int .i64 x0) ∧ w5.cell? (qa b (off + i * 5 + 1)) = some (.int .i64 x1) ∧ w5.cell? (qa b (off + i * 5 + 2)) = some (.string x2) ∧ w5.cell? (qa b (off + i * 5 + 3)) = some (.slice x3 x4 x5) ∧ w5.cell? (qa b (off + i * 5 + 4)) = some (.slice x6 x7 x8) ∧ Below w.heap.size w w5):=GS.below HSB1.out HB5.out;have HZ5:=Lib.hid (HZB.out.below HB5.out HZB.out.lt);obtain ⟨d0,d1,d2,d3,d4⟩:=HZ5.out.cells5;have f0:=HZ5.out.frozen 0;have f1:=HZ5.out.frozen 1;have f2:=HZ5.out.frozen 2;have f3:=HZ5.out.frozen 3;have f4:=HZ5.out.frozen 4;have HS5b:Hid ((((((w5.setCell (qa wo.heap.size 0) (.int .i64 y0)).setCell (qa wo.heap.size 1) (.int .i64 y1)).setCell (qa wo.heap.size 2) (.string y2)).setCell (qa wo.heap.size 3) (.slice y3 y4 y5)).setCell (qa wo.heap.size 4) (.slice y6 y7 y8)).cell? (qa w.heap.size 4) = some (.slice (some (qa b off)) ns.length cc) ∧ (((((w5.setCell (qa wo.heap.size 0) (.int .i64 y0)).setCell (qa wo.heap.size 1) (.int .i64 y1)).setCell (qa wo.heap.size 2) (.string y2)).setCell (qa wo.heap.size 3) (.slice y3 y4 y5)).setCell (qa wo.heap.size 4) (.slice y6 y7 y8)).cell? (qa b (off + i * 5)) = some (.int .i64 x0) ∧ (((((w5.setCell (qa wo.heap.size 0) (.int .i64 y0)).setCell (qa wo.heap.size 1) (.int .i64 y1)).setCell (qa wo.heap.size 2) (.string y2)).setCell (qa wo.heap.size 3) (.slice y3 y4 y5)).setCell (qa wo.heap.size 4) (.slice y6 y7 y8)).cell? (qa b (off + i * 5 + 1)) = some (.int .i64 x1) ∧ (((((w5.setCell (qa wo.heap.size 0) (.int .i64 y0)).setCell (qa wo.heap.size 1) (.int .i64 y1)).setCell (qa wo.heap.size 2) (.string y2)).setCell (qa wo.heap.size 3) (.slice y3 y4 y5)).setCell (qa wo.heap.size 4) (.slice y6 y7 y8)).cell? (qa b (off + i * 5 + 2)) = some (.string x2) ∧ (((((w5.setCell (qa wo.heap.size 0) (.int .i64 y0)).setCell (qa wo.heap.size 1) (.int .i64 y1)).setCell (qa wo.heap.size 2) (.string y2)).setCell (qa wo.heap.size 3) (.slice y3 y4 y5)).setCell (qa wo.heap.size 4) (.slice y6 y7 y8)).cell? (qa b (off + i * 5 + 3)) = some (.slice x3 x4 x5) ∧ (((((w5.setCell (qa wo.heap.size 0) (.int .i64 y0)).setCell (qa wo.heap.size 1) (.int .i64 y1)).setCell (qa wo.heap.size 2) (.string y2)).setCell (qa wo.heap.size 3) (.slice y3 y4 y5)).setCell (qa wo.heap.size 4) (.slice y6 y7 y8)).cell? (qa b (off + i * 5 + 4)) = some (.slice x6 x7 x8) ∧ Below w.heap.size w (((((w5.setCell (qa wo.heap.size 0) (.int .i64 y0)).setCell (qa wo.heap.size 1) (.int .i64 y1)).setCell (qa wo.heap.size 2) (.string y2)).setCell (qa wo.heap.size 3) (.slice y3 y4 y5)).setCell (qa wo.heap.size 4) (.slice y6 y7 y8))):=GS.set5 (GS.below HSB1.out HB5.out) hwz hxz hbz))
    ·go_wp2_with fail
     go_meet
     have hz5:wo.drew.heap.size ≤ w5.heap.size:=HB5.out.size
     have hz6:wo.drew.heap.size = wo.heap.size:=rfl
     refine ⟨w5.heap.size,y0,y1,y2,y3,y4,y5,y6,y7,y8,rfl,rfl,Blk.new w5 _ _,?_,((HBA.out.trans (HB5.out.mono (by omega))).alloc (by omega) _:Below _ _ _),by omega⟩
     exact NdIn.keep (fun q hq => World.cell?_alloc_lt _ _ _ (by
      rcases hq with hq | hq
      ·have:=HS.out _ hq;omega
      ·exact hq.2)) (fun b hb => by
      rcases hb with hb | hb
      ·exact .inl hb
      ·have h1:wo.drew.heap.size ≤ b:=hb.1
       have h2:b < w5.heap.size:=hb.2
       exact .inr ⟨by omega,by simp;omega,by omega⟩) _ _ HN5.out
    ·go_wp2_with fail
     go_meet
     have hz5:(wo.alloc (.cells Zn 25)).drew.heap.size ≤ w5.heap.size:=HB5.out.size
     have hz6:=HZZ.out
     refine ⟨wo.heap.size,y0,y1,y2,y3,y4,y5,y6,y7,y8,rfl,rfl,(set5_blk HZ5.out:Blk _ _ _ _),?_,(set5_below (HBB.out.trans (HB5.out.mono (by omega))) (by omega):Below _ _ _),by omega⟩
     exact set5_in HN5.out (fun b hb => by
      rcases hb with hb | hb
      ·have:=HS.out _ hb;omega
      ·have h1:(wo.alloc (.cells Zn 25)).drew.heap.size ≤ b:=hb.1
       omega) (fun b hb => by
      rcases hb with hb | hb
      ·exact .inl hb
      ·have h1:(wo.alloc (.cells Zn 25)).drew.heap.size ≤ b:=hb.1
       have h2:b < w5.heap.size:=hb.2
       exact .inr ⟨by omega,by show b < (set5 w5 _ _ _ _ _ _).heap.size;rw [set5_size];exact h2,by omega⟩)
   case rest =>
    obtain ⟨zb,y0,y1,y2,y3,y4,y5,y6,y7,y8,rfl,rfl,hzb,hn5,hbb,hz2⟩:=hcut
    have HI5:=Lib.hid (hI.out.later HS.out hbb.out)
    have HXC:=Lib.hid (hxb.out.below hbb.out hxb.out.lt)
    clear HIH HS0 HSB0 HSB1 HZB HBA HBB HZZ hxz hbz hI HI0 hxb c4
    cases R with
    | none =>
     obtain ⟨d0,d1,d2,d3,d4⟩:=HI5.out.2.2.2.1.cells5
     have f0:=HI5.out.2.2.2.1.frozen 0
     have f1:=HI5.out.2.2.2.1.frozen 1
     have f2:=HI5.out.2.2.2.1.frozen 2
     have f3:=HI5.out.2.2.2.1.frozen 3
     have f4:=HI5.out.2.2.2.1.frozen 4
     go_wp2_with fail
     clear d0 d1 d2 d3 d4 f0 f1 f2 f3 f4
     have F:=get_fin (r:=none) (S:=S) (S2:=(fun _ => False)) (w:=w) (w2:=wc) (y:=w.heap.size + 1) (by omega) HI5.out.2.2.2.2.1 HI5.out.2.2.2.1 (nd0_in 0 (by unfold I64;omega) _ _) (fun b hb => hb.elim)
     unfold set5 at F
     generalize (((((wc).setCell (qa (w.heap.size + 1) 0) (.int .i64 0)).setCell (qa (w.heap.size + 1) 1) (.int .i64 0)).setCell (qa (w.heap.size + 1) 2) (.string ⟨#[]⟩)).setCell (qa (w.heap.size + 1) 3) (.slice none 0 0)).setCell (qa (w.heap.size + 1) 4) (.slice none 0 0) = WF at *
     obtain ⟨F1,F2⟩:=F
     obtain ⟨q0,q1,q2,q3,q4⟩:=F1.cells5
     refine bodyPost_ret (v:=.tuple #[.agg Zn,.bool false]) (by simp [results,Tryd.results57,go_sem,q0,q1,q2,q3,q4]) rfl ?_
     rw [HG.out,HST1.out none rfl]
     exact F2
    | some x =>
     obtain ⟨k2,m2,t2,ks2,ms⟩:=x
     obtain ⟨hcx,hcy⟩:=HCN1.out _ rfl
     have HN7:Hid (NdIn wc (fun b => S b ∨ (wo.heap.size ≤ b ∧ b < wc.heap.size ∧ b ≠ zb)) (.mk k2 m2 t2 ks2 ms) (nL y0 y1 y2 y3 y4 y5 y6 y7 y8)):=hn5.out
     have hT:∀ b,(S b ∨ (wo.heap.size ≤ b ∧ b < wc.heap.size ∧ b ≠ zb)) → (S b ∨ SK (wa.heap.size + 1) wc (.slice Aw acc.length cw) b):=fun b hb => by
      rcases hb with hb | hb
      ·exact .inl hb
      ·exact .inr ⟨by omega,hb.2.1,fun e => by have:=HOW.out _ e;omega⟩
     have hTz:∀ b,(S b ∨ SK (wa.heap.size + 1) wc (.slice Aw acc.length cw) b) → b < wc.heap.size:=fun b hb => by
      rcases hb with hb | hb
      ·have:=HS.out _ hb;have:=HI5.out.2.2.2.2.1.size;omega
      ·exact hb.2.1
     have HN8:Hid (NdIn wc (fun b => S b ∨ SK (wa.heap.size + 1) wc (.slice Aw acc.length cw) b) (.mk k2 m2 t2 ks2 ms) (nL y0 y1 y2 y3 y4 y5 y6 y7 y8)):=NdIn.mono hT HN7.out
     have hu:=HN8.out
     unfold NdIn at hu
     obtain ⟨B1,bk,B2,bc,zs,heq,_,hrs,hnds,_,_,_,_,_,_⟩:=hu
     cases heq
     have HRS:Hid (Reads wc wc.heap.size 5 y6 ms.length zs):=hrs.reads hTz
     have HMS:=Lib.hid hnds
     have HFL:=Lib.hid (NdsIn.flat_ok _ _ hnds)
     have hwcz:=HI5.out.2.2.2.2.2.2
     obtain ⟨z0,z1,z2,z3,z4⟩:=hzb.out.cells5
     obtain ⟨o0,o1,o2,o3,o4⟩:=HI5.out.2.2.1.cells5
     clear o0 o1 o2 o3 hT hTz hrs hnds hn5 HN7
     by_cases hk6:y0 = 6
     ·subst hk6
      have hst2:Hid (starL (getN []) (ns.drop (i + 1)) (acc ++ ms) = starL (getN []) ns []):=by
       show _ = _
       have:=HST1.out _ rfl
       simp only [starAdd,Nd.kind,Nd.kids,if_true] at this
       exact this.symm
      have hcn2:Hid (Nd.count.counts (acc ++ ms) + Nd.count.counts (ns.drop (i + 1)) ≤ 1000000):=by
       simp only [starAdd,Nd.kind,Nd.kids,if_true] at hcx
       exact hcx
      have hml:ms.length ≤ 1000000:=by
       have:=len_counts ms
       simp only [Nd.count] at hcy;omega
      clear HST1 HCN1 hcx hcy z1 z2 z3
      go_wp2_with (at_builtin;refine wpList_pushNds _ rfl _ _ rfl (wa.heap.size + 1) (.slice Aw acc.length cw) acc.length ys (by first | rfl | simp [Act.eval]) HI5.out.1 wc.heap.size y6 ms.length y8 zs HRS.out HFL.out (by first | rfl | simp [Act.eval]) ?lim ?hB ?_;(case lim => omega);(case hB => omega);intro v' w3 ho3 hg3 hv3;obtain ⟨Av,cv,rfl⟩:=own_form ho3;have HP:=Lib.hid (SInv.push HI5.out HS.out ms zs HMS.out (by simp) ho3 hg3 hv3);have hb3:=HI5.out.2.2.1.grown hg3 (fun e => by have:=(own_lt HI5.out.1 e.symm).1;omega);obtain ⟨o0,o1,o2,o3,o4⟩:=hb3.cells5;have of4:=hb3.frozen 4;have HX3:Hid (Blk (w3.setCell (qa wa.heap.size 4) (.slice Av (acc.length + ms.length) cv)) w.heap.size 25 #[.int .i64 6,.int .i64 num,.string t,.slice A1 ks.length ck,.slice (some (qa b off)) ns.length cc]):=(HXC.out.grown hg3 (fun e => by have:=(own_lt HI5.out.1 e.symm).1;omega)).far (by show w.heap.size ≠ wa.heap.size;omega) _;clear o0 o1 o2 o3 ho3 hg3 hv3 hb3)
      go_roundw
      case rel => exact ⟨i + 1,acc ++ ms,ys ++ zs,Av,cv,by omega,by go_num,hst2,hcn2,HP,HX3⟩
      case measure => simp [intOf];omega
     ·have e6:(y0 == 6) = false:=by rw [beq_eq_false_iff_ne];exact hk6
      have hst2:Hid (starL (getN []) (ns.drop (i + 1)) (acc ++ [.mk y0 y1 y2 ks2 ms]) = starL (getN []) ns []):=by
       show _ = _
       have:=HST1.out _ rfl
       have hsa:starAdd (.mk y0 y1 y2 ks2 ms) acc = acc ++ [.mk y0 y1 y2 ks2 ms]:=if_neg hk6
       simp only [hsa] at this
       exact this.symm
      have hcn2:Hid (Nd.count.counts (acc ++ [.mk y0 y1 y2 ks2 ms]) + Nd.count.counts (ns.drop (i + 1)) ≤ 1000000):=by
       have hsa:starAdd (.mk y0 y1 y2 ks2 ms) acc = acc ++ [.mk y0 y1 y2 ks2 ms]:=if_neg hk6
       rw [hsa] at hcx
       exact hcx
      have HMS2:Hid (NdsIn wc (fun b => S b ∨ SK (wa.heap.size + 1) wc (.slice Aw acc.length cw) b) [.mk y0 y1 y2 ks2 ms] (nL y0 y1 y2 y3 ks2.length y5 y6 ms.length y8)):=by
       exact NdsIn.app [] [] _ _ NdsIn.nil HN8.out
      clear HST1 HCN1 hcx hcy hk6
      go_wp2_with (at_builtin;refine wpList_pushNd _ rfl _ _ rfl (wa.heap.size + 1) (.slice Aw acc.length cw) acc.length ys (by first | rfl | simp [Act.eval]) HI5.out.1 y0 y1 y2 y3 ks2.length y5 y6 ms.length y8 (by first | rfl | simp [Act.eval]) ?lim ?hB ?_;(case lim => omega);(case hB => omega);intro v' w3 ho3 hg3 hv3;obtain ⟨Av,cv,rfl⟩:=own_form ho3;have HP:=Lib.hid (SInv.push HI5.out HS.out [.mk y0 y1 y2 ks2 ms] (nL y0 y1 y2 y3 ks2.length y5 y6 ms.length y8) HMS2.out (by simp) ho3 hg3 hv3);have hb3:=HI5.out.2.2.1.grown hg3 (fun e => by have:=(own_lt HI5.out.1 e.symm).1;omega);obtain ⟨o0,o1,o2,o3,o4⟩:=hb3.cells5;have of4:=hb3.frozen 4;have HX3:Hid (Blk (w3.setCell (qa wa.heap.size 4) (.slice Av (acc.length + 1) cv)) w.heap.size 25 #[.int .i64 6,.int .i64 num,.string t,.slice A1 ks.length ck,.slice (some (qa b off)) ns.length cc]):=(HXC.out.grown hg3 (fun e => by have:=(own_lt HI5.out.1 e.symm).1;omega)).far (by show w.heap.size ≠ wa.heap.size;omega) _;clear o0 o1 o2 o3 ho3 hg3 hv3 hb3)
      go_roundw
      case rel => exact ⟨i + 1,acc ++ [.mk y0 y1 y2 ks2 ms],ys ++ (nL y0 y1 y2 y3 ks2.length y5 y6 ms.length y8),Av,cv,by omega,by go_num,hst2,hcn2,HP,HX3⟩
      case measure => simp [intOf];omega
  ·have hal:acc.length ≤ 1000000:=by
    have h1:=len_counts acc
    have h2:=hcn.out
    omega
   have HSF:Hid (starL (getN []) ns [] = some acc):=by
    show _ = _
    rw [← hst.out,List.drop_eq_nil_of_le (by omega)];rfl
   have hwz:=hI.out.2.2.2.2.2.1
   obtain ⟨o0,o1,o2,o3,o4⟩:=hI.out.2.2.1.cells5
   obtain ⟨d0,d1,d2,d3,d4⟩:=hI.out.2.2.2.1.cells5
   have f0:=hI.out.2.2.2.1.frozen 0
   have f1:=hI.out.2.2.2.1.frozen 1
   have f2:=hI.out.2.2.2.1.frozen 2
   have f3:=hI.out.2.2.2.1.frozen 3
   have f4:=hI.out.2.2.2.1.frozen 4
   clear hst hcn
   go_wp2_with fail
   clear d0 d1 d2 d3 d4 f0 f1 f2 f3 f4
   have F:=get_fin (r:=some (.mk 6 0 ⟨#[]⟩ [] acc)) (S:=S) (S2:=(fun b => S b ∨ (wa.heap.size + 1 ≤ b ∧ b < wo.heap.size))) (w:=w) (w2:=wo) (y:=w.heap.size + 1) (by omega) hI.out.2.2.2.2.1 hI.out.2.2.2.1 (hI.out.node hal) (fun b hb => by
     rcases hb with hb | hb
     ·exact ⟨.inl hb,fun e => by have:=HS.out b hb;omega⟩
     ·exact ⟨.inr ⟨by omega,hb.2⟩,by omega⟩)
   unfold set5 at F
   generalize (((((wo).setCell (qa (w.heap.size + 1) 0) (.int .i64 6)).setCell (qa (w.heap.size + 1) 1) (.int .i64 0)).setCell (qa (w.heap.size + 1) 2) (.string ⟨#[]⟩)).setCell (qa (w.heap.size + 1) 3) (.slice none 0 0)).setCell (qa (w.heap.size + 1) 4) (.slice Aw acc.length cw) = WF at *
   obtain ⟨F1,F2⟩:=F
   obtain ⟨q0,q1,q2,q3,q4⟩:=F1.cells5
   refine bodyPost_ret (v:=.tuple #[.agg #[.int .i64 6,.int .i64 0,.string ⟨#[]⟩,.slice none 0 0,.slice Aw acc.length cw],.bool true]) (by simp [results,Tryd.results57,go_sem,q0,q1,q2,q3,q4]) rfl ?_
   rw [HG.out,HSF.out]
   exact F2
set_option maxHeartbeats 4000000 in
theorem fget_star2 (p:ByteArray) (l:List ByteArray) (c:Nat) (hc1:¬ c = 1) (hl:l.length + 1 ≤ c) (IH:FGetOK l) (n:Nd) (h6:n.kind = 6) (hp42:p.toList = [42]):FGetStep p l n (l.length + 1) c (fun ab ao => some (qa ab (ao + 1))):=by
 intro hpz cs w S ab ao hn hS hSB hab hp hr hc hs hct
 have HC1:=Lib.hid hc1
 cases n with
 | mk k num t ks ns =>
 have HK:Hid (∀ (i:Nat) (m:Nd),ns[i]? = some m → sizeOk m ∧ m.count ≤ 1000000):=fun i m hi => by
  have:=kid_ok (n:=.mk k num t ks ns) (i:=i) (m:=m) hi hs
  exact ⟨this.1,by omega⟩
 have hcn0:Nd.count.counts ns ≤ 1000000:=by simp only [Nd.count] at hct;omega
 simp only [Nd.kind] at h6
 subst h6
 have HG:Hid (getN (p :: l) (.mk 6 num t ks ns) = match starL (getN l) ns [] with | none => none | some l => some (.mk 6 0 ⟨#[]⟩ [] l)):=by
  show _ = _
  rw [getN,if_neg (by show ¬ (6:Int) = 7;decide),if_pos (by rfl),if_pos hp42]
  simp only [Nd.kids]
  cases starL (getN l) ns [] <;> rfl
 unfold NdIn at hn
 obtain ⟨A1,ck,A2,cc,xs,rfl,hks,hxs,hns,ik,inn,ht,hkl,hkm,hmm⟩:=hn
 have e42:(p.toList == [42]) = true:=by rw [hp42];rfl
 have hnl:ns.length ≤ 1000000:=Nat.le_trans (len_counts ns) hcn0
 have HS:=Lib.hid hS
 have HSB:=Lib.hid hSB
 clear hSB
 have HXS:=Lib.hid hxs
 have HNS:=Lib.hid hns
 have HR:=Lib.hid hr
 have HCN:=Lib.hid hcn0
 clear hS hks hxs hns hkl hr hs hp42 hcn0 hct ik inn ht hkm hmm
 have hp0:=Lib.hid hp
 show Calls Tryd.prog 59 #[.agg (nA 6 num t A1 ks.length ck A2 ns.length cc),.slice (some (qa ab ao)) (l.length + 1) c] w _
 have hA:Below w.heap.size w ((w.alloc (.cells (nA 6 num t A1 ks.length ck A2 ns.length cc) 25)).alloc (.cells Zn 25)):=((Below.refl _ _).alloc (Nat.le_refl _) _).alloc (by simp) _
 have hX:Blk ((w.alloc (.cells (nA 6 num t A1 ks.length ck A2 ns.length cc) 25)).alloc (.cells Zn 25)) w.heap.size 25 (nA 6 num t A1 ks.length ck A2 ns.length cc):=(Blk.new w _ _).alloc _
 have hY:Blk ((w.alloc (.cells (nA 6 num t A1 ks.length ck A2 ns.length cc) 25)).alloc (.cells Zn 25)) (w.heap.size + 1) 25 Zn:=by
  have:=Blk.new (w.alloc (.cells (nA 6 num t A1 ks.length ck A2 ns.length cc) 25)) 25 Zn
  simpa using this
 have hZ:w.heap.size + 2 = ((w.alloc (.cells (nA 6 num t A1 ks.length ck A2 ns.length cc) 25)).alloc (.cells Zn 25)).heap.size:=by simp
 have HA:=Lib.hid hA
 have HX:=Lib.hid hX
 have HY:=Lib.hid hY
 clear hA hX hY
 go_enter Tryd.func59,Tryd.ntmps59
 go_upto_region 1 with fail
 generalize (w.alloc (.cells (nA 6 num t A1 ks.length ck A2 ns.length cc) 25)).alloc (.cells Zn 25) = wa at *
 have p0:wa.cell? (qa ab ao) = some (.string p):=(HA.out.cell (p:=(qa ab ao)) hab).trans hp0.out
 obtain ⟨c0,c1,c2,c3,c4⟩:=HX.out.cells5
 clear hp
 have HI0:=Lib.hid (SInv.start S HA.out HY.out (by omega))
 have hl:w.heap.size < wa.heap.size:=by omega
 have c4b:(wa.alloc (.cells #[.int .i64 6,.int .i64 0,.string ⟨#[]⟩,.slice none 0 0,.slice none 0 0] 25)).cell? (qa w.heap.size 4) = some (.slice A2 ns.length cc):=(World.cell?_alloc_lt _ _ _ hl).trans c4
 go_wp2_with fail
 clear c0 c1 c2 c3 c4 p0 c4b
 go_loopw [9] (fun t9 wr => ∃ (i:Nat) (acc:List Nd) (ys:List Value) (Aw:Option Addr) (cw:Nat),i ≤ ns.length ∧ t9 = .int .i64 i ∧ Hid (starL (getN l) (ns.drop i) acc = starL (getN l) ns []) ∧ Hid (Nd.count.counts acc + Nd.count.counts (ns.drop i) ≤ 1000000) ∧ Hid (SInv w S wa.heap.size acc Aw cw ys wr) ∧ Hid (Blk wr w.heap.size 25 (nA 6 num t A1 ks.length ck A2 ns.length cc)))
  (fun t9 _ => ns.length - (intOf t9).toNat)
 case atStart => exact ⟨0,[],[],none,0,by omega,rfl,rfl,by show _ ≤ _;simp only [Nd.count.counts,List.drop_zero];have:=HCN.out;omega,HI0,HX.out.alloc _⟩
 case round =>
  obtain ⟨i,acc,ys,Aw,cw,hi,rfl,hst,hcn,hI,hxb⟩:=hrel
  obtain ⟨wo,rfl⟩:∃ wo:World,wo = wr:=⟨_,rfl⟩
  have hob:wa.heap.size < wo.heap.size:=hI.out.2.2.2.2.2.2
  obtain ⟨c0,c1,c2,c3,c4⟩:=hxb.out.cells5
  clear c0 c1 c2 c3
  by_cases hlt:i < ns.length
  ·have hkp:∀ q:Addr,S q.block → wo.cell? q = w.cell? q:=fun q hq => hI.out.2.2.2.2.1.cell (HS.out _ hq)
   obtain ⟨b,off,m,rfl,hbS,hmi,x0,x1,x2,x3,x4,x5,x6,x7,x8,hnd,e0,e1,e2,e3,e4⟩:=(HXS.out.keep hkp).nd (NdsIn.keep hkp (fun _ h => h) _ _ HNS.out) hlt
   have hbl:=HS.out b hbS
   have hwz:w.heap.size ≤ wo.heap.size:=hI.out.2.2.2.2.1.size
   have HM:=Lib.hid (HK.out i m hmi)
   have hdr:ns.drop i = m :: ns.drop (i + 1):=by
    obtain ⟨h1,h2⟩:=List.getElem?_eq_some_iff.1 hmi
    rw [← h2];exact List.drop_eq_getElem_cons h1
   obtain ⟨R,hR⟩:∃ R,R = getN l m:=⟨_,rfl⟩
   have HIH:Hid (∀ w',Below wo.heap.size wo w' → Calls Tryd.prog 59 #[.agg (nA x0 x1 x2 x3 x4 x5 x6 x7 x8),.slice (some (qa ab (ao + 1))) l.length (c - 1)] w' (GetP R S w')):=fun w' h' => by
    rw [hR]
    exact IH m (nL x0 x1 x2 x3 x4 x5 x6 x7 x8) w' S _ (c - 1) (NdIn.keep (fun q hq => h'.cell (by have:=HS.out _ hq;omega)) (fun _ h => h) _ _ hnd) (fun b hb => by have:=HS.out b hb;have:=h'.size;omega) HSB.out ((HR.out.keep fun q hq => ((h'.mono hwz).cell hq).trans (hI.out.2.2.2.2.1.cell hq)).more (Nat.le_trans hwz h'.size)) (by omega) (by unfold maxLen at *;omega) HM.out.1 HM.out.2
   have HST1:Hid (∀ r,R = r → starL (getN l) ns [] = match r with | none => none | some x => starL (getN l) (ns.drop (i + 1)) (starAdd x acc)):=fun r hr => by
    rw [← hst.out,hdr,starL,← hR,hr];cases r <;> rfl
   have HCN1:Hid (∀ x,R = some x → Nd.count.counts (starAdd x acc) + Nd.count.counts (ns.drop (i + 1)) ≤ 1000000 ∧ x.count ≤ 1000000):=fun x hx => by
    have h1:=hcn.out
    rw [hdr] at h1
    simp only [Nd.count.counts] at h1
    have h2:=(getN_ok l m x (by rw [← hR];exact hx) HM.out.1 HM.out.2).2
    refine ⟨?_,by omega⟩
    cases x with
    | mk k num t ks ms =>
     unfold starAdd
     split
     ·rw [counts_app];simp only [Nd.kids,Nd.count] at h2 ⊢;omega
     ·rw [counts_app];simp only [Nd.count.counts];omega
   have hal:acc.length ≤ 1000000:=by
    have h1:=len_counts acc
    have h2:=hcn.out
    omega
   have HOW:Hid (∀ g,(Value.slice Aw acc.length cw).ownBlock = some g → g < wo.heap.size):=fun g hg => (own_lt hI.out.1 hg).2
   have hgs:GS w w.heap.size 4 b (off + i * 5) (.slice (some (qa b off)) ns.length cc) (.int .i64 x0) (.int .i64 x1) (.string x2) (.slice x3 x4 x5) (.slice x6 x7 x8) wo:=⟨c4,e0,e1,e2,e3,e4,hI.out.2.2.2.2.1⟩
   have HS0:Hid (wo.drew.cell? (qa w.heap.size 4) = some (.slice (some (qa b off)) ns.length cc) ∧ wo.drew.cell? (qa b (off + i * 5)) = some (.int .i64 x0) ∧ wo.drew.cell? (qa b (off + i * 5 + 1)) = some (.int .i64 x1) ∧ wo.drew.cell? (qa b (off + i * 5 + 2)) = some (.string x2) ∧ wo.drew.cell? (qa b (off + i * 5 + 3)) = some (.slice x3 x4 x5) ∧ wo.drew.cell? (qa b (off + i * 5 + 4)) = some (.slice x6 x7 x8) ∧ Below w.heap.size w wo.drew):=hgs.drew
   have HSB0:Hid ((wo.drew.alloc (.cells Zn 25)).cell? (qa w.heap.size 4) = some (.slice (some (qa b off)) ns.length cc) ∧ (wo.drew.alloc (.cells Zn 25)).cell? (qa b (off + i * 5)) = some (.int .i64 x0) ∧ (wo.drew.alloc (.cells Zn 25)).cell? (qa b (off + i * 5 + 1)) = some (.int .i64 x1) ∧ (wo.drew.alloc (.cells Zn 25)).cell? (qa b (off + i * 5 + 2)) = some (.string x2) ∧ (wo.drew.alloc (.cells Zn 25)).cell? (qa b (off + i * 5 + 3)) = some (.slice x3 x4 x5) ∧ (wo.drew.alloc (.cells Zn 25)).cell? (qa b (off + i * 5 + 4)) = some (.slice x6 x7 x8) ∧ Below w.heap.size w (wo.drew.alloc (.cells Zn 25))):=hgs.drew.below ((Below.refl _ _).alloc (Nat.le_refl _) _)
   have HSB1:Hid ((wo.alloc (.cells Zn 25)).drew.cell? (qa w.heap.size 4) = some (.slice (some (qa b off)) ns.length cc) ∧ (wo.alloc (.cells Zn 25)).drew.cell? (qa b (off + i * 5)) = some (.int .i64 x0) ∧ (wo.alloc (.cells Zn 25)).drew.cell? (qa b (off + i * 5 + 1)) = some (.int .i64 x1) ∧ (wo.alloc (.cells Zn 25)).drew.cell? (qa b (off + i * 5 + 2)) = some (.string x2) ∧ (wo.alloc (.cells Zn 25)).drew.cell? (qa b (off + i * 5 + 3)) = some (.slice x3 x4 x5) ∧ (wo.alloc (.cells Zn 25)).drew.cell? (qa b (off + i * 5 + 4)) = some (.slice x6 x7 x8) ∧ Below w.heap.size w (wo.alloc (.cells Zn 25)).drew):=(hgs.below ((Below.refl _ _).alloc (Nat.le_refl _) _)).drew
   have HZB:Hid (Blk (wo.alloc (.cells Zn 25)).drew (wo.heap.size) 25 Zn):=(Blk.new wo _ _).drew
   have HBA:Hid (Below wo.heap.size wo wo.drew):=(Below.refl _ _).drew
   have HBB:Hid (Below wo.heap.size wo (wo.alloc (.cells Zn 25)).drew):=((Below.refl _ _).alloc (Nat.le_refl _) _).drew
   have hzz:(wo.alloc (.cells Zn 25)).drew.heap.size = wo.heap.size + 1:=by show (wo.alloc (.cells Zn 25)).heap.size = _;simp
   have HZZ:=Lib.hid hzz
   have hxz:w.heap.size ≠ wo.heap.size:=by omega
   have hbz:b ≠ wo.heap.size:=by omega
   have hi0:(0:Int) ≤ (i:Int):=by omega
   have hi1:(i:Int) < (ns.length:Int):=by omega
   clear hkp hmi hnd hbS hst hcn hdr hR hzz hgs
   go_upto_region 15 with fail
   go_cut [10,11] (fun t10 t11 wx => ∃ (zb:Nat) (y0 y1:Int) (y2:ByteArray) (y3:Option Addr) (y4 y5:Nat) (y6:Option Addr) (y7 y8:Nat),t10 = .pointer (some (qa zb 0)) ∧ t11 = .bool R.isSome ∧ Hid (Blk wx zb 25 (nA y0 y1 y2 y3 y4 y5 y6 y7 y8)) ∧ Hid (NdIn wx (fun b => S b ∨ (wo.heap.size ≤ b ∧ b < wx.heap.size ∧ b ≠ zb)) (R.getD (nd0 0)) (nL y0 y1 y2 y3 y4 y5 y6 y7 y8)) ∧ Hid (Below wo.heap.size wo wx) ∧ wo.heap.size ≤ zb)
   case first =>
    have hx:¬ (l.length:Int) + 1 < 1:=by omega
    have hc9:=HC1.out
    have ht9:∀ w9:World,(Instr.slice 22 (.slice (some (qa ab ao)) (l.length + 1) c) (some (.int .i64 1)) none none).run Tryd.prog w9 = .ok (.slice (some (qa ab (ao + 1))) l.length (c - 1)) w9:=fun w9 => by go_simp
    go_region_held3 (fun w' => w'.cell? (qa w.heap.size 4) = some (.slice (some (qa b off)) ns.length cc) ∧ w'.cell? (qa b (off + i * 5)) = some (.int .i64 x0) ∧ w'.cell? (qa b (off + i * 5 + 1)) = some (.int .i64 x1) ∧ w'.cell? (qa b (off + i * 5 + 2)) = some (.string x2) ∧ w'.cell? (qa b (off + i * 5 + 3)) = some (.slice x3 x4 x5) ∧ w'.cell? (qa b (off + i * 5 + 4)) = some (.slice x6 x7 x8) ∧ Below w.heap.size w w') (first | with_reducible exact HS0.out | with_reducible exact HSB0.out | with_reducible exact HSB1.out | with_reducible exact HS5.out | with_reducible exact HS5a.out | with_reducible exact HS5b.out) (first
     | (go_at_call 59;(with_reducible refine (HIH.out wo.drew HBA.out).mono ?_);rintro e w5 ⟨y0,y1,y2,y3,y4,y5,y6,y7,y8,rfl,hn5,hb5⟩;have HN5:=Lib.hid hn5;have HB5:=Lib.hid hb5;clear hn5 hb5;have HS5:Hid (w5.cell? (qa w.heap.size 4) = some (.slice (some (qa b off)) ns.length cc) ∧ w5.cell? (qa b (off + i * 5)) = some (.int .i64 x0) ∧ w5.cell? (qa b (off + i * 5 + 1)) = some (.int .i64 x1) ∧ w5.cell? (qa b (off + i * 5 + 2)) = some (.string x2) ∧ w5.cell? (qa b (off + i * 5 + 3)) = some (.slice x3 x4 x5) ∧ w5.cell? (qa b (off + i * 5 + 4)) = some (.slice x6 x7 x8) ∧ Below w.heap.size w w5):=GS.below HS0.out HB5.out;have HS5a:Hid ((w5.alloc (.cells Zn 25)).cell? (qa w.heap.size 4) = some (.slice (some (qa b off)) ns.length cc) ∧ (w5.alloc (.cells Zn 25)).cell? (qa b (off + i * 5)) = some (.int .i64 x0) ∧ (w5.alloc (.cells Zn 25)).cell? (qa b (off + i * 5 + 1)) = some (.int .i64 x1) ∧ (w5.alloc (.cells Zn 25)).cell? (qa b (off + i * 5 + 2)) = some (.string x2) ∧ (w5.alloc (.cells Zn 25)).cell? (qa b (off + i * 5 + 3)) = some (.slice x3 x4 x5) ∧ (w5.alloc (.cells Zn 25)).cell? (qa b (off + i * 5 + 4)) = some (.slice x6 x7 x8) ∧ Below w.heap.size w (w5.alloc (.cells Zn 25))):=GS.below (GS.below HS0.out HB5.out) ((Below.refl _ _).alloc (Nat.le_refl _) _);have HS5b:Hid ((w5.alloc (.cells (nA y0 y1 y2 y3 y4 y5 y6 y7 y8) 25)).cell? (qa w.heap.size 4) = some (.slice (some (qa b off)) ns.length cc) ∧ (w5.alloc (.cells (nA y0 y1 y2 y3 y4 y5 y6 y7 y8) 25)).cell? (qa b (off + i * 5)) = some (.int .i64 x0) ∧ (w5.alloc (.cells (nA y0 y1 y2 y3 y4 y5 y6 y7 y8) 25)).cell? (qa b (off + i * 5 + 1)) = some (.int .i64 x1) ∧ (w5.alloc (.cells (nA y0 y1 y2 y3 y4 y5 y6 y7 y8) 25)).cell? (qa b (off + i * 5 + 2)) = some (.string x2) ∧ (w5.alloc (.cells (nA y0 y1 y2 y3 y4 y5 y6 y7 y8) 25)).cell? (qa b (off + i * 5 + 3)) = some (.slice x3 x4 x5) ∧ (w5.alloc (.cells (nA y0 y1 y2 y3 y4 y5 y6 y7 y8) 25)).cell? (qa b (off + i * 5 + 4)) = some (.slice x6 x7 x8) ∧ Below w.heap.size w (w5.alloc (.cells (nA y0 y1 y2 y3 y4 y5 y6 y7 y8) 25))):=GS.below (GS.below HS0.out HB5.out) ((Below.refl _ _).alloc (Nat.le_refl _) _))
     | (go_at_call 59;(with_reducible refine (HIH.out (wo.alloc (.cells Zn 25)).drew HBB.out).mono ?_);rintro e w5 ⟨y0,y1,y2,y3,y4,y5,y6,y7,y8,rfl,hn5,hb5⟩;have HN5:=Lib.hid hn5;have HB5:=Lib.hid hb5;clear hn5 hb5;have HS5:Hid (w5.cell? (qa w.heap.size 4) = some (.slice (some (qa b off)) ns.length cc) ∧ w5.cell? (qa b (off + i * 5)) = some (.int .i64 x0) ∧ w5.cell? (qa b (off + i * 5 + 1)) = some (.int .i64 x1) ∧ w5.cell? (qa b (off + i * 5 + 2)) = some (.string x2) ∧ w5.cell? (qa b (off + i * 5 + 3)) = some (.slice x3 x4 x5) ∧ w5.cell? (qa b (off + i * 5 + 4)) = some (.slice x6 x7 x8) ∧ Below w.heap.size w w5):=GS.below HSB1.out HB5.out;have HZ5:=Lib.hid (HZB.out.below HB5.out HZB.out.lt);obtain ⟨d0,d1,d2,d3,d4⟩:=HZ5.out.cells5;have f0:=HZ5.out.frozen 0;have f1:=HZ5.out.frozen 1;have f2:=HZ5.out.frozen 2;have f3:=HZ5.out.frozen 3;have f4:=HZ5.out.frozen 4;have HS5b:Hid ((((((w5.setCell (qa wo.heap.size 0) (.int .i64 y0)).setCell (qa wo.heap.size 1) (.int .i64 y1)).setCell (qa wo.heap.size 2) (.string y2)).setCell (qa wo.heap.size 3) (.slice y3 y4 y5)).setCell (qa wo.heap.size 4) (.slice y6 y7 y8)).cell? (qa w.heap.size 4) = some (.slice (some (qa b off)) ns.length cc) ∧ (((((w5.setCell (qa wo.heap.size 0) (.int .i64 y0)).setCell (qa wo.heap.size 1) (.int .i64 y1)).setCell (qa wo.heap.size 2) (.string y2)).setCell (qa wo.heap.size 3) (.slice y3 y4 y5)).setCell (qa wo.heap.size 4) (.slice y6 y7 y8)).cell? (qa b (off + i * 5)) = some (.int .i64 x0) ∧ (((((w5.setCell (qa wo.heap.size 0) (.int .i64 y0)).setCell (qa wo.heap.size 1) (.int .i64 y1)).setCell (qa wo.heap.size 2) (.string y2)).setCell (qa wo.heap.size 3) (.slice y3 y4 y5)).setCell (qa wo.heap.size 4) (.slice y6 y7 y8)).cell? (qa b (off + i * 5 + 1)) = some (.int .i64 x1) ∧ (((((w5.setCell (qa wo.heap.size 0) (.int .i64 y0)).setCell (qa wo.heap.size 1) (.int .i64 y1)).setCell (qa wo.heap.size 2) (.string y2)).setCell (qa wo.heap.size 3) (.slice y3 y4 y5)).setCell (qa wo.heap.size 4) (.slice y6 y7 y8)).cell? (qa b (off + i * 5 + 2)) = some (.string x2) ∧ (((((w5.setCell (qa wo.heap.size 0) (.int .i64 y0)).setCell (qa wo.heap.size 1) (.int .i64 y1)).setCell (qa wo.heap.size 2) (.string y2)).setCell (qa wo.heap.size 3) (.slice y3 y4 y5)).setCell (qa wo.heap.size 4) (.slice y6 y7 y8)).cell? (qa b (off + i * 5 + 3)) = some (.slice x3 x4 x5) ∧ (((((w5.setCell (qa wo.heap.size 0) (.int .i64 y0)).setCell (qa wo.heap.size 1) (.int .i64 y1)).setCell (qa wo.heap.size 2) (.string y2)).setCell (qa wo.heap.size 3) (.slice y3 y4 y5)).setCell (qa wo.heap.size 4) (.slice y6 y7 y8)).cell? (qa b (off + i * 5 + 4)) = some (.slice x6 x7 x8) ∧ Below w.heap.size w (((((w5.setCell (qa wo.heap.size 0) (.int .i64 y0)).setCell (qa wo.heap.size 1) (.int .i64 y1)).setCell (qa wo.heap.size 2) (.string y2)).setCell (qa wo.heap.size 3) (.slice y3 y4 y5)).setCell (qa wo.heap.size 4) (.slice y6 y7 y8))):=GS.set5 (GS.below HSB1.out HB5.out) hwz hxz hbz))
    ·go_wp2_with fail
     go_meet
     have hz5:wo.drew.heap.size ≤ w5.heap.size:=HB5.out.size
     have hz6:wo.drew.heap.size = wo.heap.size:=rfl
     refine ⟨w5.heap.size,y0,y1,y2,y3,y4,y5,y6,y7,y8,rfl,rfl,Blk.new w5 _ _,?_,((HBA.out.trans (HB5.out.mono (by omega))).alloc (by omega) _:Below _ _ _),by omega⟩
     exact NdIn.keep (fun q hq => World.cell?_alloc_lt _ _ _ (by
      rcases hq with hq | hq
      ·have:=HS.out _ hq;omega
      ·exact hq.2)) (fun b hb => by
      rcases hb with hb | hb
      ·exact .inl hb
      ·have h1:wo.drew.heap.size ≤ b:=hb.1
       have h2:b < w5.heap.size:=hb.2
       exact .inr ⟨by omega,by simp;omega,by omega⟩) _ _ HN5.out
    ·go_wp2_with fail
     go_meet
     have hz5:(wo.alloc (.cells Zn 25)).drew.heap.size ≤ w5.heap.size:=HB5.out.size
     have hz6:=HZZ.out
     refine ⟨wo.heap.size,y0,y1,y2,y3,y4,y5,y6,y7,y8,rfl,rfl,(set5_blk HZ5.out:Blk _ _ _ _),?_,(set5_below (HBB.out.trans (HB5.out.mono (by omega))) (by omega):Below _ _ _),by omega⟩
     exact set5_in HN5.out (fun b hb => by
      rcases hb with hb | hb
      ·have:=HS.out _ hb;omega
      ·have h1:(wo.alloc (.cells Zn 25)).drew.heap.size ≤ b:=hb.1
       omega) (fun b hb => by
      rcases hb with hb | hb
      ·exact .inl hb
      ·have h1:(wo.alloc (.cells Zn 25)).drew.heap.size ≤ b:=hb.1
       have h2:b < w5.heap.size:=hb.2
       exact .inr ⟨by omega,by show b < (set5 w5 _ _ _ _ _ _).heap.size;rw [set5_size];exact h2,by omega⟩)
   case rest =>
    obtain ⟨zb,y0,y1,y2,y3,y4,y5,y6,y7,y8,rfl,rfl,hzb,hn5,hbb,hz2⟩:=hcut
    have HI5:=Lib.hid (hI.out.later HS.out hbb.out)
    have HXC:=Lib.hid (hxb.out.below hbb.out hxb.out.lt)
    clear HIH HS0 HSB0 HSB1 HZB HBA HBB HZZ hxz hbz hI HI0 hxb c4
    cases R with
    | none =>
     obtain ⟨d0,d1,d2,d3,d4⟩:=HI5.out.2.2.2.1.cells5
     have f0:=HI5.out.2.2.2.1.frozen 0
     have f1:=HI5.out.2.2.2.1.frozen 1
     have f2:=HI5.out.2.2.2.1.frozen 2
     have f3:=HI5.out.2.2.2.1.frozen 3
     have f4:=HI5.out.2.2.2.1.frozen 4
     go_wp2_with fail
     clear d0 d1 d2 d3 d4 f0 f1 f2 f3 f4
     have F:=get_fin (r:=none) (S:=S) (S2:=(fun _ => False)) (w:=w) (w2:=wc) (y:=w.heap.size + 1) (by omega) HI5.out.2.2.2.2.1 HI5.out.2.2.2.1 (nd0_in 0 (by unfold I64;omega) _ _) (fun b hb => hb.elim)
     unfold set5 at F
     generalize (((((wc).setCell (qa (w.heap.size + 1) 0) (.int .i64 0)).setCell (qa (w.heap.size + 1) 1) (.int .i64 0)).setCell (qa (w.heap.size + 1) 2) (.string ⟨#[]⟩)).setCell (qa (w.heap.size + 1) 3) (.slice none 0 0)).setCell (qa (w.heap.size + 1) 4) (.slice none 0 0) = WF at *
     obtain ⟨F1,F2⟩:=F
     obtain ⟨q0,q1,q2,q3,q4⟩:=F1.cells5
     refine bodyPost_ret (v:=.tuple #[.agg Zn,.bool false]) (by simp [results,Tryd.results57,go_sem,q0,q1,q2,q3,q4]) rfl ?_
     rw [HG.out,HST1.out none rfl]
     exact F2
    | some x =>
     obtain ⟨k2,m2,t2,ks2,ms⟩:=x
     obtain ⟨hcx,hcy⟩:=HCN1.out _ rfl
     have HN7:Hid (NdIn wc (fun b => S b ∨ (wo.heap.size ≤ b ∧ b < wc.heap.size ∧ b ≠ zb)) (.mk k2 m2 t2 ks2 ms) (nL y0 y1 y2 y3 y4 y5 y6 y7 y8)):=hn5.out
     have hT:∀ b,(S b ∨ (wo.heap.size ≤ b ∧ b < wc.heap.size ∧ b ≠ zb)) → (S b ∨ SK (wa.heap.size + 1) wc (.slice Aw acc.length cw) b):=fun b hb => by
      rcases hb with hb | hb
      ·exact .inl hb
      ·exact .inr ⟨by omega,hb.2.1,fun e => by have:=HOW.out _ e;omega⟩
     have hTz:∀ b,(S b ∨ SK (wa.heap.size + 1) wc (.slice Aw acc.length cw) b) → b < wc.heap.size:=fun b hb => by
      rcases hb with hb | hb
      ·have:=HS.out _ hb;have:=HI5.out.2.2.2.2.1.size;omega
      ·exact hb.2.1
     have HN8:Hid (NdIn wc (fun b => S b ∨ SK (wa.heap.size + 1) wc (.slice Aw acc.length cw) b) (.mk k2 m2 t2 ks2 ms) (nL y0 y1 y2 y3 y4 y5 y6 y7 y8)):=NdIn.mono hT HN7.out
     have hu:=HN8.out
     unfold NdIn at hu
     obtain ⟨B1,bk,B2,bc,zs,heq,_,hrs,hnds,_,_,_,_,_,_⟩:=hu
     cases heq
     have HRS:Hid (Reads wc wc.heap.size 5 y6 ms.length zs):=hrs.reads hTz
     have HMS:=Lib.hid hnds
     have HFL:=Lib.hid (NdsIn.flat_ok _ _ hnds)
     have hwcz:=HI5.out.2.2.2.2.2.2
     obtain ⟨z0,z1,z2,z3,z4⟩:=hzb.out.cells5
     obtain ⟨o0,o1,o2,o3,o4⟩:=HI5.out.2.2.1.cells5
     clear o0 o1 o2 o3 hT hTz hrs hnds hn5 HN7
     by_cases hk6:y0 = 6
     ·subst hk6
      have hst2:Hid (starL (getN l) (ns.drop (i + 1)) (acc ++ ms) = starL (getN l) ns []):=by
       show _ = _
       have:=HST1.out _ rfl
       simp only [starAdd,Nd.kind,Nd.kids,if_true] at this
       exact this.symm
      have hcn2:Hid (Nd.count.counts (acc ++ ms) + Nd.count.counts (ns.drop (i + 1)) ≤ 1000000):=by
       simp only [starAdd,Nd.kind,Nd.kids,if_true] at hcx
       exact hcx
      have hml:ms.length ≤ 1000000:=by
       have:=len_counts ms
       simp only [Nd.count] at hcy;omega
      clear HST1 HCN1 hcx hcy z1 z2 z3
      go_wp2_with (at_builtin;refine wpList_pushNds _ rfl _ _ rfl (wa.heap.size + 1) (.slice Aw acc.length cw) acc.length ys (by first | rfl | simp [Act.eval]) HI5.out.1 wc.heap.size y6 ms.length y8 zs HRS.out HFL.out (by first | rfl | simp [Act.eval]) ?lim ?hB ?_;(case lim => omega);(case hB => omega);intro v' w3 ho3 hg3 hv3;obtain ⟨Av,cv,rfl⟩:=own_form ho3;have HP:=Lib.hid (SInv.push HI5.out HS.out ms zs HMS.out (by simp) ho3 hg3 hv3);have hb3:=HI5.out.2.2.1.grown hg3 (fun e => by have:=(own_lt HI5.out.1 e.symm).1;omega);obtain ⟨o0,o1,o2,o3,o4⟩:=hb3.cells5;have of4:=hb3.frozen 4;have HX3:Hid (Blk (w3.setCell (qa wa.heap.size 4) (.slice Av (acc.length + ms.length) cv)) w.heap.size 25 #[.int .i64 6,.int .i64 num,.string t,.slice A1 ks.length ck,.slice (some (qa b off)) ns.length cc]):=(HXC.out.grown hg3 (fun e => by have:=(own_lt HI5.out.1 e.symm).1;omega)).far (by show w.heap.size ≠ wa.heap.size;omega) _;clear o0 o1 o2 o3 ho3 hg3 hv3 hb3)
      go_roundw
      case rel => exact ⟨i + 1,acc ++ ms,ys ++ zs,Av,cv,by omega,by go_num,hst2,hcn2,HP,HX3⟩
      case measure => simp [intOf];omega
     ·have e6:(y0 == 6) = false:=by rw [beq_eq_false_iff_ne];exact hk6
      have hst2:Hid (starL (getN l) (ns.drop (i + 1)) (acc ++ [.mk y0 y1 y2 ks2 ms]) = starL (getN l) ns []):=by
       show _ = _
       have:=HST1.out _ rfl
       have hsa:starAdd (.mk y0 y1 y2 ks2 ms) acc = acc ++ [.mk y0 y1 y2 ks2 ms]:=if_neg hk6
       simp only [hsa] at this
       exact this.symm
      have hcn2:Hid (Nd.count.counts (acc ++ [.mk y0 y1 y2 ks2 ms]) + Nd.count.counts (ns.drop (i + 1)) ≤ 1000000):=by
       have hsa:starAdd (.mk y0 y1 y2 ks2 ms) acc = acc ++ [.mk y0 y1 y2 ks2 ms]:=if_neg hk6
       rw [hsa] at hcx
       exact hcx
      have HMS2:Hid (NdsIn wc (fun b => S b ∨ SK (wa.heap.size + 1) wc (.slice Aw acc.length cw) b) [.mk y0 y1 y2 ks2 ms] (nL y0 y1 y2 y3 ks2.length y5 y6 ms.length y8)):=by
       exact NdsIn.app [] [] _ _ NdsIn.nil HN8.out
      clear HST1 HCN1 hcx hcy hk6
      go_wp2_with (at_builtin;refine wpList_pushNd _ rfl _ _ rfl (wa.heap.size + 1) (.slice Aw acc.length cw) acc.length ys (by first | rfl | simp [Act.eval]) HI5.out.1 y0 y1 y2 y3 ks2.length y5 y6 ms.length y8 (by first | rfl | simp [Act.eval]) ?lim ?hB ?_;(case lim => omega);(case hB => omega);intro v' w3 ho3 hg3 hv3;obtain ⟨Av,cv,rfl⟩:=own_form ho3;have HP:=Lib.hid (SInv.push HI5.out HS.out [.mk y0 y1 y2 ks2 ms] (nL y0 y1 y2 y3 ks2.length y5 y6 ms.length y8) HMS2.out (by simp) ho3 hg3 hv3);have hb3:=HI5.out.2.2.1.grown hg3 (fun e => by have:=(own_lt HI5.out.1 e.symm).1;omega);obtain ⟨o0,o1,o2,o3,o4⟩:=hb3.cells5;have of4:=hb3.frozen 4;have HX3:Hid (Blk (w3.setCell (qa wa.heap.size 4) (.slice Av (acc.length + 1) cv)) w.heap.size 25 #[.int .i64 6,.int .i64 num,.string t,.slice A1 ks.length ck,.slice (some (qa b off)) ns.length cc]):=(HXC.out.grown hg3 (fun e => by have:=(own_lt HI5.out.1 e.symm).1;omega)).far (by show w.heap.size ≠ wa.heap.size;omega) _;clear o0 o1 o2 o3 ho3 hg3 hv3 hb3)
      go_roundw
      case rel => exact ⟨i + 1,acc ++ [.mk y0 y1 y2 ks2 ms],ys ++ (nL y0 y1 y2 y3 ks2.length y5 y6 ms.length y8),Av,cv,by omega,by go_num,hst2,hcn2,HP,HX3⟩
      case measure => simp [intOf];omega
  ·have hal:acc.length ≤ 1000000:=by
    have h1:=len_counts acc
    have h2:=hcn.out
    omega
   have HSF:Hid (starL (getN l) ns [] = some acc):=by
    show _ = _
    rw [← hst.out,List.drop_eq_nil_of_le (by omega)];rfl
   have hwz:=hI.out.2.2.2.2.2.1
   obtain ⟨o0,o1,o2,o3,o4⟩:=hI.out.2.2.1.cells5
   obtain ⟨d0,d1,d2,d3,d4⟩:=hI.out.2.2.2.1.cells5
   have f0:=hI.out.2.2.2.1.frozen 0
   have f1:=hI.out.2.2.2.1.frozen 1
   have f2:=hI.out.2.2.2.1.frozen 2
   have f3:=hI.out.2.2.2.1.frozen 3
   have f4:=hI.out.2.2.2.1.frozen 4
   clear hst hcn
   go_wp2_with fail
   clear d0 d1 d2 d3 d4 f0 f1 f2 f3 f4
   have F:=get_fin (r:=some (.mk 6 0 ⟨#[]⟩ [] acc)) (S:=S) (S2:=(fun b => S b ∨ (wa.heap.size + 1 ≤ b ∧ b < wo.heap.size))) (w:=w) (w2:=wo) (y:=w.heap.size + 1) (by omega) hI.out.2.2.2.2.1 hI.out.2.2.2.1 (hI.out.node hal) (fun b hb => by
     rcases hb with hb | hb
     ·exact ⟨.inl hb,fun e => by have:=HS.out b hb;omega⟩
     ·exact ⟨.inr ⟨by omega,hb.2⟩,by omega⟩)
   unfold set5 at F
   generalize (((((wo).setCell (qa (w.heap.size + 1) 0) (.int .i64 6)).setCell (qa (w.heap.size + 1) 1) (.int .i64 0)).setCell (qa (w.heap.size + 1) 2) (.string ⟨#[]⟩)).setCell (qa (w.heap.size + 1) 3) (.slice none 0 0)).setCell (qa (w.heap.size + 1) 4) (.slice Aw acc.length cw) = WF at *
   obtain ⟨F1,F2⟩:=F
   obtain ⟨q0,q1,q2,q3,q4⟩:=F1.cells5
   refine bodyPost_ret (v:=.tuple #[.agg #[.int .i64 6,.int .i64 0,.string ⟨#[]⟩,.slice none 0 0,.slice Aw acc.length cw],.bool true]) (by simp [results,Tryd.results57,go_sem,q0,q1,q2,q3,q4]) rfl ?_
   rw [HG.out,HSF.out]
   exact F2
theorem follow_any:∀ (l:List ByteArray),(∀ s ∈ l,s.size ≤ 1000000) → FGetOK l
 | [],_ => fget_nil
 | p :: l,hz => by
  have IH:=follow_any l (fun s hs => hz s (by simp [hs]))
  intro n cs w S A c hn hS hSB hr hl hc hs hct
  have hpz:p.size ≤ 9223372036854775807:=by have:=hz p (by simp);omega
  obtain ⟨ad,rfl,hab,hcell⟩:=hr.2 (by simp)
  have hp0:=hcell 0 (.string p) rfl
  have hsp:=spot_none hp0
  obtain ⟨ab,ao,sp⟩:=ad
  have hsn:sp = none:=by
   unfold Addr.add at hsp
   split at hsp <;> simp_all
  subst hsn
  rw [show ((qa ab ao):Addr).add 0 = (qa ab ao) by simp [Addr.add]] at hp0
  by_cases hc1:c = 1
  ·have hl0:l = []:=by
    cases l with
    | nil => rfl
    | cons a l => simp at hl;omega
   subst hl0 hc1
   have ht:Reads w w.heap.size 1 ((fun ab ao => some ((qa ab ao):Addr)) ab ao) ([]:List ByteArray).length (([]:List ByteArray).map Value.string):=⟨rfl,fun h => absurd h (by simp)⟩
   by_cases h7:n.kind = 7
   ·exact fget_obj1 p IH n h7 hpz cs w S ab ao hn hS hSB hab hp0 ht hc hs hct
   ·by_cases h6:n.kind = 6
    ·by_cases h42:p.toList = [42]
     ·exact fget_star1 p IH n h6 h42 hpz cs w S ab ao hn hS hSB hab hp0 ht hc hs hct
     ·exact fget_place1 p IH n h6 h42 hpz cs w S ab ao hn hS hSB hab hp0 ht hc hs hct
    ·exact fget_other p [] n 1 (fun ab ao => some (qa ab ao)) h7 h6 hpz cs w S ab ao hn hS hSB hab hp0 ht hc hs hct
  ·have hl2:l.length + 1 ≤ c:=by simpa using hl
   have ht:Reads w w.heap.size 1 ((fun ab ao => some ((qa ab (ao + 1)):Addr)) ab ao) l.length (l.map Value.string):=⟨by simp,fun h => ⟨_,rfl,hab,fun j u hu => by
    have:=hcell (j + 1) u (by simpa using hu)
    rw [show ((qa ab ao):Addr).add (j + 1) = (qa ab (ao + (j + 1))) by unfold Addr.add;split <;> simp_all] at this
    rw [show ((qa ab (ao + 1)):Addr).add j = (qa ab (ao + (j + 1))) by unfold Addr.add;split <;> simp_all <;> omega]
    exact this⟩⟩
   by_cases h7:n.kind = 7
   ·exact fget_obj2 p l c hc1 hl2 IH n h7 hpz cs w S ab ao hn hS hSB hab hp0 ht hc hs hct
   ·by_cases h6:n.kind = 6
    ·by_cases h42:p.toList = [42]
     ·exact fget_star2 p l c hc1 hl2 IH n h6 h42 hpz cs w S ab ao hn hS hSB hab hp0 ht hc hs hct
     ·exact fget_place2 p l c hc1 hl2 IH n h6 h42 hpz cs w S ab ao hn hS hSB hab hp0 ht hc hs hct
    ·exact fget_other p l n c (fun ab ao => some (qa ab (ao + 1))) h7 h6 hpz cs w S ab ao hn hS hSB hab hp0 ht hc hs hct
def n47 (c:UInt8):Bool:=c != 47
theorem tilde_take:∀ (k:Nat) (l:List UInt8),l.length ≤ k → tildeOk l = true → tildeOk (l.takeWhile (· != 47)) = true
 | _,[],_,_ => rfl
 | 0,c :: r,h,_ => by simp at h
 | k + 1,c :: r,h,ht => by
  rw [tildeOk,Bool.and_eq_true] at ht
  by_cases hc:c = 47
  ·subst hc;rfl
  ·rw [List.takeWhile_cons_of_pos (by simpa using hc),tildeOk,Bool.and_eq_true]
   refine ⟨?_,tilde_take k r (by simpa using h) ht.2⟩
   by_cases h6:c = 126
   ·rw [if_pos h6] at ht ⊢
    cases r with
    | nil => simp at ht
    | cons d r =>
     have hd:d = 48 ∨ d = 49:=by simpa using ht.1
     rw [List.takeWhile_cons_of_pos (by rcases hd with rfl | rfl <;> decide)]
     simpa using ht.1
   ·rw [if_neg h6]
theorem tilde_drop:∀ (k:Nat) (l:List UInt8),l.length ≤ k → tildeOk l = true → ∀ n,tildeOk (l.drop n) = true
 | _,l,_,ht,0 => by simpa using ht
 | _,[],_,_,n + 1 => by simp [tildeOk]
 | 0,c :: r,h,_,n + 1 => by simp at h
 | k + 1,c :: r,h,ht,n + 1 => by
  rw [tildeOk,Bool.and_eq_true] at ht
  rw [List.drop_succ_cons]
  exact tilde_drop k r (by simpa using h) ht.2 n
def PI (path:ByteArray) (i:Nat) (done:List ByteArray) (cur:List UInt8):Prop:=
 tildeOk path.toList = tildeOk (path.toList.drop i) ∧ done.length ≤ i ∧ cur.length ≤ i ∧ (i = 0 → done = [] ∧ cur = []) ∧
 (tildeOk path.toList = true → 0 < i → partsP path = done ++ ⟨(cur ++ unesc1 ((path.toList.drop i).takeWhile (· != 47))).toArray⟩ :: partsF path.size ((path.toList.drop i).dropWhile (· != 47)))
theorem PI.start (path:ByteArray):PI path 0 [] []:=⟨by rw [List.drop_zero],by simp,by simp,fun _ => ⟨rfl,rfl⟩,fun _ h => by omega⟩
theorem drop_at (path:ByteArray) (i:Nat) (hi:i < path.size) (c:UInt8) (hc:bt path i = c.toNat):path.toList.drop i = c :: path.toList.drop (i + 1):=by
 obtain ⟨u,h1,h2⟩:=drop_cons path i hi
 have:u = c:=by rw [← UInt8.toNat_inj];omega
 rw [h2,this]
theorem partsF_47 (path:ByteArray) (r:List UInt8) (hr:r.length < path.size) (ht:tildeOk r = true):partsF path.size (47 :: r) = ⟨(unesc1 (r.takeWhile (· != 47))).toArray⟩ :: partsF path.size (r.dropWhile (· != 47)):=by
 have hd:(r.dropWhile (· != 47)).length ≤ r.length:=(List.dropWhile_suffix _).length_le
 rw [partsF_fuel path.size (r.length + 1) (47 :: r) (by simp;omega) (by simp),partsF_cons _ _ _ (Nat.le_refl _),unesc_eq _ _ (Nat.le_refl _) (tilde_take _ _ (Nat.le_refl _) ht),partsF_fuel r.length path.size _ hd (by omega)]
theorem PI.slash {path:ByteArray} {i:Nat} {done:List ByteArray} {cur:List UInt8} (h:PI path i done cur) (hi:i < path.size) (h47:bt path i = 47) (h0:0 < i):PI path (i + 1) (done ++ [⟨cur.toArray⟩]) []:=by
 obtain ⟨h1,h2,h3,h4,h5⟩:=h
 have hd:=drop_at path i hi 47 h47
 refine ⟨by rw [h1];exact tilde_ne path i hi (by omega),by simp;omega,by simp,fun h => by omega,fun ht _ => ?_⟩
 have ht2:tildeOk (path.toList.drop (i + 1)) = true:=tilde_drop _ _ (Nat.le_refl _) ht _
 have hl:(path.toList.drop (i + 1)).length < path.size:=by rw [List.length_drop,toList_len];omega
 rw [h5 ht h0,hd,List.takeWhile_cons_of_neg (by decide),List.dropWhile_cons_of_neg (by decide),partsF_47 path _ hl ht2]
 simp [unesc1]
theorem PI.first {path:ByteArray} {done:List ByteArray} {cur:List UInt8} (h:PI path 0 done cur) (hi:0 < path.size) (h47:bt path 0 = 47):PI path 1 [] []:=by
 obtain ⟨h1,h2,h3,h4,h5⟩:=h
 have hd:=drop_at path 0 hi 47 h47
 refine ⟨by rw [h1];exact tilde_ne path 0 hi (by omega),by simp,by simp,fun h => by omega,fun ht _ => ?_⟩
 have ht2:tildeOk (path.toList.drop (0 + 1)) = true:=tilde_drop _ _ (Nat.le_refl _) ht _
 have hl:(path.toList.drop (0 + 1)).length < path.size:=by rw [List.length_drop,toList_len];omega
 unfold partsP
 rw [List.drop_zero] at hd
 conv => lhs;rw [hd]
 rw [partsF_47 path _ hl ht2]
 simp
theorem PI.esc {path:ByteArray} {i:Nat} {done:List ByteArray} {cur:List UInt8} (h:PI path i done cur) (hi:i + 1 < path.size) (h126:bt path i = 126) (d:UInt8) (hd2:d = 48 ∨ d = 49) (hbd:bt path (i + 1) = d.toNat) (h0:0 < i):PI path (i + 1 + 1) done (cur ++ [if d = 49 then 47 else 126]):=by
 obtain ⟨h1,h2,h3,h4,h5⟩:=h
 have e1:=drop_at path i (by omega) 126 h126
 have e2:=drop_at path (i + 1) hi d hbd
 have t1:=tilde_two path i hi h126
 have t2:=tilde_ne path (i + 1) hi (by rcases hd2 with rfl | rfl <;> rw [hbd] <;> decide)
 have hb:(decide (bt path (i + 1) = 48) || decide (bt path (i + 1) = 49)) = true:=by rcases hd2 with rfl | rfl <;> rw [hbd] <;> decide
 refine ⟨by rw [h1,t1,hb,Bool.true_and,t2],by omega,by simp;omega,fun h => by omega,fun ht _ => ?_⟩
 rw [h5 ht h0,e1,e2,List.takeWhile_cons_of_pos (by decide),List.takeWhile_cons_of_pos (by rcases hd2 with rfl | rfl <;> decide),List.dropWhile_cons_of_pos (by decide),List.dropWhile_cons_of_pos (by rcases hd2 with rfl | rfl <;> decide)]
 simp [unesc1]
theorem PI.other {path:ByteArray} {i:Nat} {done:List ByteArray} {cur:List UInt8} (h:PI path i done cur) (hi:i < path.size) (c:UInt8) (hc:bt path i = c.toNat) (n1:c ≠ 47) (n2:c ≠ 126) (h0:0 < i):PI path (i + 1) done (cur ++ [c]):=by
 obtain ⟨h1,h2,h3,h4,h5⟩:=h
 have e1:=drop_at path i hi c hc
 have hne:bt path i ≠ 126:=fun e => n2 (by rw [← UInt8.toNat_inj];show c.toNat = 126;omega)
 refine ⟨by rw [h1];exact tilde_ne path i hi hne,by omega,by simp;omega,fun h => by omega,fun ht _ => ?_⟩
 rw [h5 ht h0,e1,List.takeWhile_cons_of_pos (by simpa using n1),List.dropWhile_cons_of_pos (by simpa using n1),unesc1_ne n2]
 simp
theorem PI.done_ {path:ByteArray} {done:List ByteArray} {cur:List UInt8} (h:PI path path.size done cur) (h0:0 < path.size):tildeOk path.toList = true ∧ partsP path = done ++ [⟨cur.toArray⟩]:=by
 obtain ⟨h1,h2,h3,h4,h5⟩:=h
 have hd:=drop_end path path.size (Nat.le_refl _)
 have ht:tildeOk path.toList = true:=by rw [h1,hd];rfl
 refine ⟨ht,?_⟩
 rw [h5 ht h0,hd]
 have:partsF path.size [] = []:=by cases path.size <;> rfl
 simp [unesc1,this]
theorem own_below {w w':World} {base size n Bp:Nat} {e:TypeId} {v:Value} {xs:List Value} (h:w.ownsRow base e size v n xs) (hb:Below Bp w w') (hlt:∀ g,v.ownBlock = some g → g < Bp):w'.ownsRow base e size v n xs:=by
 refine ⟨h.1,?_⟩
 rcases h.2 with hn | ⟨g,cap,cur,rfl,h1,h2,rest⟩
 ·exact .inl hn
 ·exact .inr ⟨g,cap,cur,rfl,h1,(hb.block g (hlt g rfl)).trans h2,rest⟩
def RPok (path:ByteArray) (w:World) (e:Ending) (w':World):Prop:=∃ A c,e = .returned (.tuple #[.slice A (partsP path).length c,.bool true]) ∧ w'.ownsRow w.heap.size 9 1 (.slice A (partsP path).length c) (partsP path).length ((partsP path).map Value.string) ∧ Below w.heap.size w w'
def RPbad (w:World) (e:Ending) (w':World):Prop:=e = .returned (.tuple #[.slice none 0 0,.bool false]) ∧ Below w.heap.size w w'
theorem rparts_bad (path:ByteArray) (w:World) (hs:path.size ≤ 9223372036854775807) (h:1000 < path.size ∨ (0 < path.size ∧ bt path 0 ≠ 47)):Calls Tryd.prog 58 #[.string path] w (RPbad w):=by
 have hb:=get_bt path
 have hW:=Below.refl w.heap.size w
 have hcase:1000 < path.size ∨ (path.size ≤ 1000 ∧ 0 < path.size ∧ bt path 0 ≠ 47):=by omega
 clear h
 rcases hcase with h | ⟨h,h0,h47⟩
 ·have hl:(1000:Int) < (path.size:Int):=by omega
  go_enter Tryd.func58,Tryd.ntmps58
  go_wp2
  go_ret2
  exact ⟨rfl,hW⟩
 ·have hl:¬ (1000:Int) < (path.size:Int):=by omega
  have f1:=size_full h0
  have f2:path.toList.isEmpty = false:=by cases hh:path.toList with | nil => exact absurd hh f1 | cons _ _ => rfl
  have f3:(bt path 0 != 47) = true:=by rw [bne_iff_ne];exact h47
  go_enter Tryd.func58,Tryd.ntmps58
  go_wp2
  go_ret2
  exact ⟨rfl,hW⟩
def RInv (path:ByteArray) (w:World) (i:Nat) (done:List ByteArray) (cur:List UInt8) (Aw:Option Addr) (cw:Nat) (vp:Value) (Bp:Nat) (wr:World):Prop:=
 PI path i done cur ∧ wr.ownsRow w.heap.size 9 1 (.slice Aw done.length cw) done.length (done.map Value.string) ∧ (∀ g,(Value.slice Aw done.length cw).ownBlock = some g → g < Bp) ∧ OwnU wr Bp vp cur ∧ w.heap.size ≤ Bp ∧ Bp ≤ wr.heap.size ∧ Below w.heap.size w wr
theorem RInv.byte {path:ByteArray} {w:World} {i j:Nat} {done:List ByteArray} {cur:List UInt8} {Aw:Option Addr} {cw:Nat} {vp:Value} {Bp:Nat} {wr:World} (h:RInv path w i done cur Aw cw vp Bp wr) {c:UInt8} (hp:PI path j done (cur ++ [c])) {v':Value} {w':World} {x:Int} (hx:x = (c.toNat:Int)) (ho:OwnB w' Bp v' (nums cur ++ [x])) (hb:Below Bp wr w'):RInv path w j done (cur ++ [c]) Aw cw v' Bp w':=by
 subst hx
 obtain ⟨h1,h2,h3,h4,h5,h6,h7⟩:=h
 refine ⟨hp,own_below h2 hb h3,h3,?_,h5,Nat.le_trans h6 hb.size,h7.trans (hb.mono h5)⟩
 unfold OwnU
 rw [nums_app]
 exact ho
theorem RInv.part {path:ByteArray} {w:World} {i j:Nat} {done:List ByteArray} {cur:List UInt8} {Aw:Option Addr} {cw:Nat} {vp:Value} {Bp:Nat} {wr:World} (h:RInv path w i done cur Aw cw vp Bp wr) {t:ByteArray} (hp:PI path j (done ++ [t]) []) {Av:Option Addr} {cv:Nat} {w':World} (ho:w'.ownsRow w.heap.size 9 1 (.slice Av (done.length + 1) cv) (done.length + 1) (done.map Value.string ++ [.string t])) (hg:wr.grownBy w' (Value.slice Aw done.length cw).ownBlock):RInv path w j (done ++ [t]) [] Av cv (.slice none 0 0) w'.heap.size w':=by
 obtain ⟨h1,h2,h3,h4,h5,h6,h7⟩:=h
 have hb:Below w.heap.size w w':=h7.grown hg h7.size (fun k hk => (own_lt h2 hk).1)
 have ho2:w'.ownsRow w.heap.size 9 1 (.slice Av (done ++ [t]).length cv) (done ++ [t]).length ((done ++ [t]).map Value.string):=by
  rw [List.map_append,show (done ++ [t]).length = done.length + 1 by simp]
  exact ho
 exact ⟨hp,ho2,fun g hg => (own_lt ho2 hg).2,OwnU.nil _ _,hb.size,Nat.le_refl _,hb⟩
theorem u8_at (path:ByteArray) (i:Nat) (hi:i < path.size):∃ c:UInt8,bt path i = (c.toNat:Int):=by
 obtain ⟨u,h1,_⟩:=drop_cons path i hi
 exact ⟨u,h1⟩
theorem rparts_zero (path:ByteArray) (w:World) (hz:path.size = 0):Calls Tryd.prog 58 #[.string path] w (RPok path w):=by
 have f1:=size_empty hz
 have f2:path.toList.isEmpty = true:=by rw [f1];rfl
 have hl:¬ (1000:Int) < (path.size:Int):=by omega
 have HP:Hid (partsP path = []):=by
  show _ = _
  unfold partsP
  rw [f1]
  cases path.size <;> rfl
 have HBW:=Lib.hid (Below.refl w.heap.size w)
 have hz2:(path.size:Int) = 0:=by omega
 go_enter Tryd.func58,Tryd.ntmps58
 go_wp2_with fail
 go_loopw [4,5,6] (fun t4 t5 t6 wr => t4 = .slice none 0 0 ∧ t5 = .slice none 0 0 ∧ t6 = .int .i64 0 ∧ wr = w) (fun _ _ _ _ => 0)
 case atStart => exact ⟨rfl,rfl,rfl,rfl⟩
 case round =>
  obtain ⟨rfl,rfl,rfl,rfl⟩:=hrel
  go_wp2_with fail
  go_ret2
  exact ⟨none,0,by rw [HP.out];rfl,by rw [HP.out];exact World.ownsRow_nil _ _ _ _,HBW.out⟩
set_option maxHeartbeats 4000000 in
theorem rparts_walk (path:ByteArray) (w:World) (hs:path.size ≤ 1000) (h47:bt path 0 = 47) (f4:0 < path.size):Calls Tryd.prog 58 #[.string path] w (fun e w' => (tildeOk path.toList = true ∧ RPok path w e w') ∨ (tildeOk path.toList = false ∧ RPbad w e w')):=by
 have hb:=get_bt path
 have hl:¬ (1000:Int) < (path.size:Int):=by omega
 have HI0:Hid (RInv path w 0 [] [] none 0 (.slice none 0 0) w.heap.size w):=⟨PI.start path,World.ownsRow_nil _ _ _ _,fun g hg => by simp [Value.ownBlock] at hg,OwnU.nil _ _,Nat.le_refl _,Nat.le_refl _,Below.refl _ _⟩
 have H47:=Lib.hid h47
 have f1:=size_full f4
 have f2:path.toList.isEmpty = false:=by cases hh:path.toList with | nil => exact absurd hh f1 | cons _ _ => rfl
 have f3:(bt path 0 != 47) = false:=by rw [h47];rfl
 clear h47
 go_enter Tryd.func58,Tryd.ntmps58
 go_wp2_with fail
 go_loopw [4,5,6] (fun t4 t5 t6 wr => ∃ (i:Nat) (done:List ByteArray) (cur:List UInt8) (Aw:Option Addr) (cw:Nat) (vp:Value) (Bp:Nat),i ≤ path.size ∧ t4 = .slice Aw done.length cw ∧ t5 = vp ∧ t6 = .int .i64 i ∧ Hid (RInv path w i done cur Aw cw vp Bp wr)) (fun _ _ t6 _ => path.size - (intOf t6).toNat)
 case atStart => exact ⟨0,[],[],none,0,_,_,by omega,rfl,rfl,rfl,HI0⟩
 case round =>
  clear HI0
  obtain ⟨i,done,cur,Aw,cw,vp,Bp,hi,rfl,rfl,rfl,hI⟩:=hrel
  obtain ⟨wo,rfl⟩:∃ wo:World,wo = wr:=⟨_,rfl⟩
  obtain ⟨hdl,hcl⟩:done.length ≤ 1000 ∧ cur.length ≤ 1000:=by have h1:=hI.out.1.2.1;have h2:=hI.out.1.2.2.1;omega
  have hnl:(nums cur).length ≤ 1000:=by rw [nums_len];exact hcl
  have hz1:=hI.out.2.2.2.2.1
  have hz2:=hI.out.2.2.2.2.2.1
  have hzw:w.heap.size ≤ wo.heap.size:=by omega
  by_cases hlt:i < path.size
  ·obtain ⟨c,hc⟩:=u8_at path i hlt
   have b0:=bt_nonneg path i
   have b1:=bt_le path i
   have HC:=Lib.hid hc
   clear hc
   by_cases h47:bt path i = 47
   ·have g1:(bt path i == 47) = true:=by rw [h47];rfl
    by_cases hi0:i = 0
    ·have hn0:¬ (0:Int) < (i:Int):=by omega
     have HN:Hid (RInv path w (i + 1) done [] Aw cw (.slice none 0 0) Bp wo):=by
      subst hi0
      obtain ⟨k1,k2,k3,k4,k5,k6,k7⟩:=hI.out
      have hd:=(k1.2.2.2.1 rfl).1
      refine ⟨?_,k2,k3,OwnU.nil _ _,k5,k6,k7⟩
      rw [hd]
      exact k1.first hlt h47
     clear h47 hi0 HC
     go_wp2_with fail
     go_roundw
     case rel => exact ⟨i + 1,done,[],Aw,cw,_,Bp,by omega,rfl,rfl,by go_num,HN⟩
     case measure => simp [intOf];omega
    ·have hp0:(0:Int) < (i:Int):=by omega
     have HP:=Lib.hid (hI.out.1.slash hlt h47 (by omega))
     have kc:=hI.out.2.2.2.1.conv
     clear h47 hi0 HC
     go_wp2_with (at_builtin;refine wpList_pushStrP _ rfl _ _ rfl w.heap.size (.slice Aw done.length cw) done.length (done.map Value.string) (by first | rfl | simp [Act.eval]) hI.out.2.1 ⟨cur.toArray⟩ (by first | rfl | simp [Act.eval]) ?lim ?hB ?_;(case lim => omega);(case hB => omega);intro v' w4 ho4 hg4;obtain ⟨Av,cv,rfl⟩:=own_form ho4;have HN:=Lib.hid (hI.out.part HP.out ho4 hg4);clear ho4 hg4 kc)
     go_roundw
     case rel => exact ⟨i + 1,done ++ [⟨cur.toArray⟩],[],Av,cv,_,w4.heap.size,by omega,by simp,rfl,by go_num,HN⟩
     case measure => simp [intOf];omega
   ·have g1:(bt path i == 47) = false:=by rw [beq_eq_false_iff_ne];exact h47
    have hip:0 < i:=by
     rcases Nat.eq_zero_or_pos i with e | e
     ·subst e;exact absurd H47.out h47
     ·exact e
    by_cases h126:bt path i = 126
    ·have g2:(bt path i == 126) = true:=by rw [h126];rfl
     by_cases hk1:i + 1 < path.size
     ·have hk2:¬ (path.size:Int) ≤ (i:Int) + 1:=by omega
      have t2:=tilde_two path i hk1 h126
      by_cases h48:bt path (i + 1) = 48
      ·have g3:(bt path (i + 1) != 48) = false:=by rw [h48];rfl
       have g4:(bt path (i + 1) == 49) = false:=by rw [h48];rfl
       have HP:Hid (PI path (i + 1 + 1) done (cur ++ [126])):=hI.out.1.esc hk1 h126 48 (.inl rfl) h48 hip
       have HPU:Hid (∀ v' w',OwnB w' Bp v' (nums cur ++ [126]) → Below Bp wo w' → RInv path w (i + 1 + 1) done (cur ++ [126]) Aw cw v' Bp w'):=fun v' w' ho hb => hI.out.byte HP.out rfl ho hb
       clear h47 h126 h48 t2 HC
       go_wp2_with (at_builtin;refine wpList_push _ rfl _ _ rfl Bp _ (nums cur) (by first | rfl | simp [Act.eval]) hI.out.2.2.2.1 126 (by first | rfl | simp [Act.eval]) ?lim ?hB ?_;(case lim => omega);(case hB => omega);intro v' w4 ho4 hb4;have HN:=Lib.hid (HPU.out _ _ ho4 hb4);clear ho4 hb4)
       go_roundw
       case rel => exact ⟨i + 1 + 1,done,cur ++ [126],Aw,cw,_,Bp,by omega,rfl,rfl,by go_num,HN⟩
       case measure => simp [intOf];omega
      ·have g3:(bt path (i + 1) != 48) = true:=by rw [bne_iff_ne];exact h48
       by_cases h49:bt path (i + 1) = 49
       ·have g5:(bt path (i + 1) != 49) = false:=by rw [h49];rfl
        have g4:(bt path (i + 1) == 49) = true:=by rw [h49];rfl
        have HP:Hid (PI path (i + 1 + 1) done (cur ++ [47])):=hI.out.1.esc hk1 h126 49 (.inr rfl) h49 hip
        clear h47 h126 h48 h49 t2 HC
        have HPU:Hid (∀ v' w',OwnB w' Bp v' (nums cur ++ [47]) → Below Bp wo w' → RInv path w (i + 1 + 1) done (cur ++ [47]) Aw cw v' Bp w'):=fun v' w' ho hb => hI.out.byte HP.out rfl ho hb
        go_wp2_with (at_builtin;refine wpList_push _ rfl _ _ rfl Bp _ (nums cur) (by first | rfl | simp [Act.eval]) hI.out.2.2.2.1 47 (by first | rfl | simp [Act.eval]) ?lim ?hB ?_;(case lim => omega);(case hB => omega);intro v' w4 ho4 hb4;have HN:=Lib.hid (HPU.out _ _ ho4 hb4);clear ho4 hb4)
        go_roundw
        case rel => exact ⟨i + 1 + 1,done,cur ++ [47],Aw,cw,_,Bp,by omega,rfl,rfl,by go_num,HN⟩
        case measure => simp [intOf];omega
       ·have g5:(bt path (i + 1) != 49) = true:=by rw [bne_iff_ne];exact h49
        have HX:Hid (tildeOk path.toList = false):=by show _ = _;rw [hI.out.1.1,t2];simp [h48,h49]
        have HBW:=Lib.hid hI.out.2.2.2.2.2.2
        clear h47 h126 h48 h49 t2 HC
        go_wp2_with fail
        go_ret2
        exact .inr ⟨HX.out,rfl,HBW.out⟩
     ·have hk2:(path.size:Int) ≤ (i:Int) + 1:=by omega
      have HX:Hid (tildeOk path.toList = false):=hI.out.1.1.trans (tilde_end path i (by omega) h126)
      have HBW:=Lib.hid hI.out.2.2.2.2.2.2
      clear h47 h126 HC hk1
      go_wp2_with fail
      go_ret2
      exact .inr ⟨HX.out,rfl,HBW.out⟩
    ·have g2:(bt path i == 126) = false:=by rw [beq_eq_false_iff_ne];exact h126
     have HP:Hid (PI path (i + 1) done (cur ++ [c])):=hI.out.1.other hlt c HC.out (fun e => h47 (by rw [HC.out,e];rfl)) (fun e => h126 (by rw [HC.out,e];rfl)) hip
     clear h47 h126
     have HPU:Hid (∀ v' w',OwnB w' Bp v' (nums cur ++ [bt path i]) → Below Bp wo w' → RInv path w (i + 1) done (cur ++ [c]) Aw cw v' Bp w'):=fun v' w' ho hb => hI.out.byte HP.out HC.out ho hb
     go_wp2_with (at_builtin;refine wpList_push _ rfl _ _ rfl Bp _ (nums cur) (by first | rfl | simp [Act.eval]) hI.out.2.2.2.1 (bt path i) (by first | rfl | simp [Act.eval]) ?lim ?hB ?_;(case lim => omega);(case hB => omega);intro v' w4 ho4 hb4;have HN:=Lib.hid (HPU.out _ _ ho4 hb4);clear ho4 hb4)
     go_roundw
     case rel => exact ⟨i + 1,done,cur ++ [c],Aw,cw,_,Bp,by omega,rfl,rfl,by go_num,HN⟩
     case measure => simp [intOf];omega
  ·obtain rfl:i = path.size:=by omega
   have HR:=Lib.hid (hI.out.1.done_ (by omega))
   have kc:=hI.out.2.2.2.1.conv
   go_wp2_with (at_builtin;refine wpList_pushStrP _ rfl _ _ rfl w.heap.size (.slice Aw done.length cw) done.length (done.map Value.string) (by first | rfl | simp [Act.eval]) hI.out.2.1 ⟨cur.toArray⟩ (by first | rfl | simp [Act.eval]) ?lim ?hB ?_;(case lim => omega);(case hB => omega);intro v' w4 ho4 hg4;obtain ⟨Av,cv,rfl⟩:=own_form ho4;have HO4:=Lib.hid ho4;have HBW:Hid (Below w.heap.size w w4):=hI.out.2.2.2.2.2.2.grown hg4 hzw (fun k hk => (own_lt hI.out.2.1 hk).1);clear ho4 hg4 kc)
   go_ret2
   exact .inl ⟨HR.out.1,Av,cv,by rw [HR.out.2];simp,by rw [HR.out.2,List.map_append,show (done ++ [(⟨cur.toArray⟩:ByteArray)]).length = done.length + 1 by simp];exact HO4.out,HBW.out⟩
theorem rparts_any (path:ByteArray) (w:World) (hs:path.size ≤ 9223372036854775807):Calls Tryd.prog 58 #[.string path] w (fun e w' => (formP path = true ∧ RPok path w e w') ∨ (formP path = false ∧ RPbad w e w')):=by
 cases hp:path.toList with
 | nil =>
  have hz:path.size = 0:=by rw [← toList_len,hp];rfl
  exact (rparts_zero path w hz).mono fun e w' h => .inl ⟨formP_nil path hp,h⟩
 | cons c r =>
  have h0:0 < path.size:=by rw [← toList_len,hp];simp
  have hf:=formP_cons path c r hp
  by_cases h47:bt path 0 = 47
  ·by_cases hl:path.size ≤ 1000
   ·refine (rparts_walk path w hl h47 h0).mono ?_
    have e:formP path = tildeOk path.toList:=by rw [hf];simp [h47,hl]
    rintro e2 w' (⟨h,k⟩ | ⟨h,k⟩)
    ·exact .inl ⟨by rw [e,h],k⟩
    ·exact .inr ⟨by rw [e,h],k⟩
   ·exact (rparts_bad path w hs (.inl (by omega))).mono fun e w' h => .inr ⟨by rw [hf];simp [hl],h⟩
  ·exact (rparts_bad path w hs (.inr ⟨h0,h47⟩)).mono fun e w' h => .inr ⟨by rw [hf];simp [h47],h⟩
theorem pointN_some {n:Nd} {path:ByteArray} {m:Nd} (hr:rightD n 0 = true) (hf:formP path = true) (hg:getN (partsP path) n = some m):pointN n path = (some m,0):=by
 unfold pointN
 rw [if_neg (by simp [hr]),if_neg (by simp [hf]),hg]
theorem pointN_none {n:Nd} {path:ByteArray} (hr:rightD n 0 = true) (hf:formP path = true) (hg:getN (partsP path) n = none):pointN n path = (none,7):=by
 unfold pointN
 rw [if_neg (by simp [hr]),if_neg (by simp [hf]),hg]
theorem pointN_form {n:Nd} {path:ByteArray} (hr:rightD n 0 = true) (hf:formP path = false):pointN n path = (none,3):=by
 unfold pointN
 rw [if_neg (by simp [hr]),if_pos hf]
theorem pGet_any (n:Nd) (path:ByteArray) (cs:List Value) (w:World) (B:Nat) (hn:NdIs w B n cs) (hB:B ≤ w.heap.size) (hs:sizeOk n) (hc:n.count ≤ 1000000) (hp:path.size ≤ 9223372036854775807) (hM:MaxOK w) :
  Calls Tryd.prog 40 #[.agg cs.toArray,.string path] w (PointP (pointN n path) w):=by
 have hn1:NdIn w (· < w.heap.size) n cs:=NdIn.mono (fun b hb => by omega) (hn.in_)
 have hl:=hn.len
 obtain ⟨x0,x1,x2,x3,x4,x5,x6,x7,x8,rfl⟩:=hn1.form
 have HCR:Hid (∀ w',Below w.heap.size w w' → Calls Tryd.prog 54 #[.agg (nA x0 x1 x2 x3 x4 x5 x6 x7 x8)] w' (BoolBel (rightD n 0) w')):=fun w' h' =>
  CRight_any n (nL x0 x1 x2 x3 x4 x5 x6 x7 x8) w' B (hn.below (h'.mono hB)) (Nat.le_trans hB h'.size)
 have HFM:Hid (∀ w',Calls Tryd.prog 55 #[.string path] w' (FormEnd (formP path) w')):=fun w' => form_any path w' hp
 cases hr:rightD n 0 with
 | false =>
  rw [hr] at HCR
  exact pGet_right n path x0 x1 x2 x3 x4 x5 x6 x7 x8 w HCR (show _ = _ by unfold pointN;rw [if_pos hr])
 | true =>
  rw [hr] at HCR
  cases hf:formP path with
  | false =>
   rw [hf] at HFM
   exact pGet_form n path x0 x1 x2 x3 x4 x5 x6 x7 x8 w HCR HFM (pointN_form hr hf)
  | true =>
   rw [hf] at HFM
   have hpl:path.size ≤ 1000:=by
    unfold formP at hf
    simp only [Bool.and_eq_true,decide_eq_true_eq] at hf
    exact hf.1.2
   refine pGet_walk n path x0 x1 x2 x3 x4 x5 x6 x7 x8 w HCR HFM hn1 ⟨hs,hc⟩ hpl hM (getN (partsP path) n) rfl ⟨fun h => pointN_none hr hf h,fun m h => pointN_some hr hf h⟩
def GetNum (n:Int) (w:World) (e:Ending) (w':World):Prop:=∃ (c0:Int) (c2:ByteArray) (c3:Option Addr) (c4 c5:Nat) (c6:Option Addr) (c7 c8:Nat),
 e = .returned (.tuple #[.agg (nA c0 n c2 c3 c4 c5 c6 c7 c8),.int .i64 0]) ∧ Below w.heap.size w w'
def GetErr (c:Int) (w:World) (e:Ending) (w':World):Prop:=∃ (c0 c1:Int) (c2:ByteArray) (c3:Option Addr) (c4 c5:Nat) (c6:Option Addr) (c7 c8:Nat),
 e = .returned (.tuple #[.agg (nA c0 c1 c2 c3 c4 c5 c6 c7 c8),.int .i64 c]) ∧ Below w.heap.size w w'
def num4 (n:Int):Nd:=.mk 4 n ⟨#[]⟩ [] []
def RPP (r:Option Nd × Int) (S:Nat → Prop) (w:World) (e:Ending) (w':World):Prop:=∃ (c0 c1:Int) (c2:ByteArray) (c3:Option Addr) (c4 c5:Nat) (c6:Option Addr) (c7 c8:Nat),
 e = .returned (.tuple #[.agg (nA c0 c1 c2 c3 c4 c5 c6 c7 c8),.int .i64 r.2]) ∧ NdIn w' (fun b => S b ∨ Since w w' b) (r.1.getD (nd0 0)) (nL c0 c1 c2 c3 c4 c5 c6 c7 c8) ∧ Below w.heap.size w w'
theorem rpp_fin {r:Option Nd × Int} {S S2:Nat → Prop} {w w2:World} {y:Nat} {a b c d e:Value} {c0 c1:Int} {c2:ByteArray} {c3:Option Addr} {c4 c5:Nat} {c6:Option Addr} {c7 c8:Nat}
  (hyb:w.heap.size ≤ y) (hb:Below w.heap.size w w2) (hy:Blk w2 y 25 #[a,b,c,d,e]) (hn:NdIn w2 S2 (r.1.getD (nd0 0)) (nL c0 c1 c2 c3 c4 c5 c6 c7 c8))
  (hS2:∀ b,S2 b → (S b ∨ Since w w2 b) ∧ b ≠ y) :
  Blk (set5 w2 y (.int .i64 c0) (.int .i64 c1) (.string c2) (.slice c3 c4 c5) (.slice c6 c7 c8)) y 25 (nA c0 c1 c2 c3 c4 c5 c6 c7 c8) ∧
  RPP r S w (.returned (.tuple #[.agg (nA c0 c1 c2 c3 c4 c5 c6 c7 c8),.int .i64 r.2])) (set5 w2 y (.int .i64 c0) (.int .i64 c1) (.string c2) (.slice c3 c4 c5) (.slice c6 c7 c8)):=by
 refine ⟨set5_blk hy,_,_,_,_,_,_,_,_,_,rfl,set5_in hn (fun b hb => (hS2 b hb).2) (fun b hb => ?_),set5_below hb hyb⟩
 rcases (hS2 b hb).1 with h | h
 ·exact .inl h
 ·exact .inr ⟨h.1,by rw [set5_size];exact h.2⟩
theorem rPoint_right (n:Nd) (path:ByteArray) (x0 x1:Int) (x2:ByteArray) (x3:Option Addr) (x4 x5:Nat) (x6:Option Addr) (x7 x8:Nat) (w:World) (B:Nat) (hB:B ≤ w.heap.size)
  (HCR:Hid (∀ w',Below w.heap.size w w' → Calls Tryd.prog 7 #[.agg (nA x0 x1 x2 x3 x4 x5 x6 x7 x8)] w' (BoolBel false w'))) (HR:Hid (pointN n path = (none,1))) :
  Calls Tryd.prog 42 #[.agg (nA x0 x1 x2 x3 x4 x5 x6 x7 x8),.string path] w (RPP (pointN n path) (· < B) w):=by
 have hA:Below w.heap.size w ((w.alloc (.cells (nA x0 x1 x2 x3 x4 x5 x6 x7 x8) 25)).alloc (.cells Zn 25)):=((Below.refl _ _).alloc (Nat.le_refl _) _).alloc (by simp) _
 have hX:Blk ((w.alloc (.cells (nA x0 x1 x2 x3 x4 x5 x6 x7 x8) 25)).alloc (.cells Zn 25)) w.heap.size 25 (nA x0 x1 x2 x3 x4 x5 x6 x7 x8):=(Blk.new w _ _).alloc _
 have hY:Blk ((w.alloc (.cells (nA x0 x1 x2 x3 x4 x5 x6 x7 x8) 25)).alloc (.cells Zn 25)) (w.heap.size + 1) 25 Zn:=by
  have:=Blk.new (w.alloc (.cells (nA x0 x1 x2 x3 x4 x5 x6 x7 x8) 25)) 25 Zn
  simpa using this
 have hZ:w.heap.size + 2 = ((w.alloc (.cells (nA x0 x1 x2 x3 x4 x5 x6 x7 x8) 25)).alloc (.cells Zn 25)).heap.size:=by simp
 have HA:=Lib.hid hA
 have HX:=Lib.hid hX
 have HY:=Lib.hid hY
 clear hA hX hY
 go_enter Tryd.func42,Tryd.ntmps42
 go_upto_region 1 with fail
 generalize (w.alloc (.cells (nA x0 x1 x2 x3 x4 x5 x6 x7 x8) 25)).alloc (.cells Zn 25) = wa at *
 obtain ⟨c0,c1,c2,c3,c4⟩:=HX.out.cells5
 go_wp2_with fail
 refine (HCR.out _ HA.out).mono ?_;rintro e w1 ⟨rfl,hw1⟩
 have HB1:=Lib.hid (HA.out.trans (hw1.mono HA.out.size))
 have HY1:=Lib.hid (HY.out.below hw1 HY.out.lt)
 have HX1:=Lib.hid (HX.out.below hw1 HX.out.lt)
 have hz1:w.heap.size + 2 ≤ w1.heap.size:=by have:=hw1.size;omega
 clear hw1 c0 c1 c2 c3 c4 HA HX HY HCR
 obtain ⟨d0,d1,d2,d3,d4⟩:=HY1.out.cells5
 have f0:=HY1.out.frozen 0
 have f1:=HY1.out.frozen 1
 have f2:=HY1.out.frozen 2
 have f3:=HY1.out.frozen 3
 have f4:=HY1.out.frozen 4
 go_wp2_with fail
 clear d0 d1 d2 d3 d4 f0 f1 f2 f3 f4
 have F:=rpp_fin (r:=(none,1)) (S:=(· < B)) (S2:=(fun _ => False)) (w:=w) (w2:=w1) (y:=w.heap.size + 1) (by omega) HB1.out HY1.out (nd0_in 0 (by unfold I64;omega) _ _) (fun b hb => hb.elim)
 unfold set5 at F
 generalize (((((w1).setCell (qa (w.heap.size + 1) 0) (.int .i64 0)).setCell (qa (w.heap.size + 1) 1) (.int .i64 0)).setCell (qa (w.heap.size + 1) 2) (.string ⟨#[]⟩)).setCell (qa (w.heap.size + 1) 3) (.slice none 0 0)).setCell (qa (w.heap.size + 1) 4) (.slice none 0 0) = WF at *
 obtain ⟨F1,F2⟩:=F
 obtain ⟨q0,q1,q2,q3,q4⟩:=F1.cells5
 refine bodyPost_ret (v:=.tuple #[.agg Zn,.int .i64 1]) (by simp [results,Tryd.results42,go_sem,q0,q1,q2,q3,q4]) rfl ?_
 rw [HR.out];exact F2
theorem rPoint_form (n:Nd) (path:ByteArray) (x0 x1:Int) (x2:ByteArray) (x3:Option Addr) (x4 x5:Nat) (x6:Option Addr) (x7 x8:Nat) (w:World) (B:Nat) (hB:B ≤ w.heap.size)
  (HCR:Hid (∀ w',Below w.heap.size w w' → Calls Tryd.prog 7 #[.agg (nA x0 x1 x2 x3 x4 x5 x6 x7 x8)] w' (BoolBel true w'))) (HFM:Hid (∀ w',Calls Tryd.prog 58 #[.string path] w' (RPbad w'))) (HR:Hid (pointN n path = (none,3))) :
  Calls Tryd.prog 42 #[.agg (nA x0 x1 x2 x3 x4 x5 x6 x7 x8),.string path] w (RPP (pointN n path) (· < B) w):=by
 have hA:Below w.heap.size w ((w.alloc (.cells (nA x0 x1 x2 x3 x4 x5 x6 x7 x8) 25)).alloc (.cells Zn 25)):=((Below.refl _ _).alloc (Nat.le_refl _) _).alloc (by simp) _
 have hX:Blk ((w.alloc (.cells (nA x0 x1 x2 x3 x4 x5 x6 x7 x8) 25)).alloc (.cells Zn 25)) w.heap.size 25 (nA x0 x1 x2 x3 x4 x5 x6 x7 x8):=(Blk.new w _ _).alloc _
 have hY:Blk ((w.alloc (.cells (nA x0 x1 x2 x3 x4 x5 x6 x7 x8) 25)).alloc (.cells Zn 25)) (w.heap.size + 1) 25 Zn:=by
  have:=Blk.new (w.alloc (.cells (nA x0 x1 x2 x3 x4 x5 x6 x7 x8) 25)) 25 Zn
  simpa using this
 have hZ:w.heap.size + 2 = ((w.alloc (.cells (nA x0 x1 x2 x3 x4 x5 x6 x7 x8) 25)).alloc (.cells Zn 25)).heap.size:=by simp
 have HA:=Lib.hid hA
 have HX:=Lib.hid hX
 have HY:=Lib.hid hY
 clear hA hX hY
 go_enter Tryd.func42,Tryd.ntmps42
 go_upto_region 1 with fail
 generalize (w.alloc (.cells (nA x0 x1 x2 x3 x4 x5 x6 x7 x8) 25)).alloc (.cells Zn 25) = wa at *
 obtain ⟨c0,c1,c2,c3,c4⟩:=HX.out.cells5
 go_wp2_with fail
 refine (HCR.out _ HA.out).mono ?_;rintro e w1 ⟨rfl,hw1⟩
 have HB1:=Lib.hid (HA.out.trans (hw1.mono HA.out.size))
 have HY1:=Lib.hid (HY.out.below hw1 HY.out.lt)
 have HX1:=Lib.hid (HX.out.below hw1 HX.out.lt)
 have hz1:w.heap.size + 2 ≤ w1.heap.size:=by have:=hw1.size;omega
 clear hw1 c0 c1 c2 c3 c4 HA HX HY HCR
 go_wp2_with fail
 refine (HFM.out _:Calls _ _ _ _ _).mono ?_;rintro e w2 ⟨rfl,hw2⟩
 have HB2:=Lib.hid (HB1.out.trans (hw2.mono HB1.out.size))
 have HY2:=Lib.hid (HY1.out.below hw2 HY1.out.lt)
 clear hw2 HB1 HY1
 obtain ⟨d0,d1,d2,d3,d4⟩:=HY2.out.cells5
 have f0:=HY2.out.frozen 0
 have f1:=HY2.out.frozen 1
 have f2:=HY2.out.frozen 2
 have f3:=HY2.out.frozen 3
 have f4:=HY2.out.frozen 4
 go_wp2_with fail
 clear d0 d1 d2 d3 d4 f0 f1 f2 f3 f4
 have F:=rpp_fin (r:=(none,3)) (S:=(· < B)) (S2:=(fun _ => False)) (w:=w) (w2:=w2) (y:=w.heap.size + 1) (by omega) HB2.out HY2.out (nd0_in 0 (by unfold I64;omega) _ _) (fun b hb => hb.elim)
 unfold set5 at F
 generalize (((((w2).setCell (qa (w.heap.size + 1) 0) (.int .i64 0)).setCell (qa (w.heap.size + 1) 1) (.int .i64 0)).setCell (qa (w.heap.size + 1) 2) (.string ⟨#[]⟩)).setCell (qa (w.heap.size + 1) 3) (.slice none 0 0)).setCell (qa (w.heap.size + 1) 4) (.slice none 0 0) = WF at *
 obtain ⟨F1,F2⟩:=F
 obtain ⟨q0,q1,q2,q3,q4⟩:=F1.cells5
 refine bodyPost_ret (v:=.tuple #[.agg Zn,.int .i64 3]) (by simp [results,Tryd.results42,go_sem,q0,q1,q2,q3,q4]) rfl ?_
 rw [HR.out];exact F2
set_option maxHeartbeats 1000000 in
theorem rPoint_walk (n:Nd) (path:ByteArray) (x0 x1:Int) (x2:ByteArray) (x3:Option Addr) (x4 x5:Nat) (x6:Option Addr) (x7 x8:Nat) (w:World) (B:Nat) (hB:B ≤ w.heap.size)
  (HCR:Hid (∀ w',Below w.heap.size w w' → Calls Tryd.prog 7 #[.agg (nA x0 x1 x2 x3 x4 x5 x6 x7 x8)] w' (BoolBel true w'))) (HFM:Hid (∀ w',Calls Tryd.prog 58 #[.string path] w' (RPok path w')))
  (HN:Hid (NdIn w (· < B) n (nL x0 x1 x2 x3 x4 x5 x6 x7 x8))) (HSZ:Hid (sizeOk n ∧ n.count ≤ 1000000)) (HPL:Hid (path.size ≤ 1000))
  (R:Option Nd) (HR:Hid (getN (partsP path) n = R)) (HP:Hid ((R = none → pointN n path = (none,7)) ∧ ∀ m,R = some m → pointN n path = (some m,0))) :
  Calls Tryd.prog 42 #[.agg (nA x0 x1 x2 x3 x4 x5 x6 x7 x8),.string path] w (RPP (pointN n path) (· < B) w):=by
 have hA:Below w.heap.size w ((w.alloc (.cells (nA x0 x1 x2 x3 x4 x5 x6 x7 x8) 25)).alloc (.cells Zn 25)):=((Below.refl _ _).alloc (Nat.le_refl _) _).alloc (by simp) _
 have hX:Blk ((w.alloc (.cells (nA x0 x1 x2 x3 x4 x5 x6 x7 x8) 25)).alloc (.cells Zn 25)) w.heap.size 25 (nA x0 x1 x2 x3 x4 x5 x6 x7 x8):=(Blk.new w _ _).alloc _
 have hY:Blk ((w.alloc (.cells (nA x0 x1 x2 x3 x4 x5 x6 x7 x8) 25)).alloc (.cells Zn 25)) (w.heap.size + 1) 25 Zn:=by
  have:=Blk.new (w.alloc (.cells (nA x0 x1 x2 x3 x4 x5 x6 x7 x8) 25)) 25 Zn
  simpa using this
 have hZ:w.heap.size + 2 = ((w.alloc (.cells (nA x0 x1 x2 x3 x4 x5 x6 x7 x8) 25)).alloc (.cells Zn 25)).heap.size:=by simp
 have HA:=Lib.hid hA
 have HX:=Lib.hid hX
 have HY:=Lib.hid hY
 clear hA hX hY
 go_enter Tryd.func42,Tryd.ntmps42
 go_upto_region 1 with fail
 generalize (w.alloc (.cells (nA x0 x1 x2 x3 x4 x5 x6 x7 x8) 25)).alloc (.cells Zn 25) = wa at *
 obtain ⟨c0,c1,c2,c3,c4⟩:=HX.out.cells5
 go_wp2_with fail
 refine (HCR.out _ HA.out).mono ?_;rintro e w1 ⟨rfl,hw1⟩
 have HB1:=Lib.hid (HA.out.trans (hw1.mono HA.out.size))
 have HY1:=Lib.hid (HY.out.below hw1 HY.out.lt)
 have HX1:=Lib.hid (HX.out.below hw1 HX.out.lt)
 have hz1:w.heap.size + 2 ≤ w1.heap.size:=by have:=hw1.size;omega
 clear hw1 c0 c1 c2 c3 c4 HA HX HY HCR
 go_wp2_with fail
 refine (HFM.out _:Calls _ _ _ _ _).mono ?_;rintro e w2 ⟨A,c,rfl,ho,hw2⟩
 have HB2:=Lib.hid (HB1.out.trans (hw2.mono HB1.out.size))
 have HY2:=Lib.hid (HY1.out.below hw2 HY1.out.lt)
 have hx2:=HX1.out.below hw2 HX1.out.lt
 have hz2:w.heap.size + 2 ≤ w2.heap.size:=by have:=hw2.size;omega
 have hcp:=own_cap ho
 have HFO:Hid (Calls Tryd.prog 59 #[.agg (nA x0 x1 x2 x3 x4 x5 x6 x7 x8),.slice A (partsP path).length c] w2 (GetP R (· < B) w2)):=by
  have:=follow_any (partsP path) (fun s hs => by have:=partsP_size path s hs;have:=HPL.out;omega) n (nL x0 x1 x2 x3 x4 x5 x6 x7 x8) w2 (· < B) A c (NdIn.on HN.out (fun b hb => Nat.lt_of_lt_of_le hb hB) HB2.out) (fun b hb => by have hb:b < B:=hb;omega) ⟨B,fun _ => Iff.rfl⟩ (own_readsP ho) hcp.1 hcp.2 HSZ.out.1 HSZ.out.2
  rw [HR.out] at this
  exact this
 obtain ⟨c0,c1,c2,c3,c4⟩:=hx2.cells5
 clear hw2 HB1 HY1 HX1 hx2 ho hcp HFM HR
 go_wp2_with fail
 refine (HFO.out:Calls _ _ _ _ _).mono ?_;rintro e w4 ⟨y0,y1,y2,y3,y4,y5,y6,y7,y8,rfl,hn4,hw4⟩
 have HN4:=Lib.hid hn4
 have hb4:=HB2.out.trans (hw4.mono HB2.out.size)
 have HB5:Hid (Below w.heap.size w (w4.alloc (.cells (nA y0 y1 y2 y3 y4 y5 y6 y7 y8) 25))):=hb4.alloc hb4.size _
 have HY5:Hid (Blk (w4.alloc (.cells (nA y0 y1 y2 y3 y4 y5 y6 y7 y8) 25)) (w.heap.size + 1) 25 Zn):=(HY2.out.below hw4 HY2.out.lt).alloc _
 have hz4:w2.heap.size ≤ w4.heap.size:=hw4.size
 clear hn4 hw4 hb4 c0 c1 c2 c3 c4 HFO HB2 HY2
 obtain ⟨d0,d1,d2,d3,d4⟩:=HY5.out.cells5
 have f0:=HY5.out.frozen 0
 have f1:=HY5.out.frozen 1
 have f2:=HY5.out.frozen 2
 have f3:=HY5.out.frozen 3
 have f4:=HY5.out.frozen 4
 cases R with
 | none =>
  go_wp2_with fail
  clear d0 d1 d2 d3 d4 f0 f1 f2 f3 f4
  have F:=rpp_fin (r:=(none,7)) (S:=(· < B)) (S2:=(fun _ => False)) (w:=w) (w2:=(w4.alloc (.cells (nA y0 y1 y2 y3 y4 y5 y6 y7 y8) 25))) (y:=w.heap.size + 1) (by omega) HB5.out HY5.out (nd0_in 0 (by unfold I64;omega) _ _) (fun b hb => hb.elim)
  unfold set5 at F
  generalize ((((((w4.alloc (.cells (nA y0 y1 y2 y3 y4 y5 y6 y7 y8) 25))).setCell (qa (w.heap.size + 1) 0) (.int .i64 0)).setCell (qa (w.heap.size + 1) 1) (.int .i64 0)).setCell (qa (w.heap.size + 1) 2) (.string ⟨#[]⟩)).setCell (qa (w.heap.size + 1) 3) (.slice none 0 0)).setCell (qa (w.heap.size + 1) 4) (.slice none 0 0) = WF at *
  obtain ⟨F1,F2⟩:=F
  obtain ⟨q0,q1,q2,q3,q4⟩:=F1.cells5
  refine bodyPost_ret (v:=.tuple #[.agg Zn,.int .i64 7]) (by simp [results,Tryd.results42,go_sem,q0,q1,q2,q3,q4]) rfl ?_
  rw [HP.out.1 (by first | trivial | rfl)];exact F2
 | some m =>
  have HN5:Hid (NdIn w4 (fun b => b < B ∨ Since w2 w4 b) m (nL y0 y1 y2 y3 y4 y5 y6 y7 y8)):=HN4.out
  go_wp2_with fail
  clear d0 d1 d2 d3 d4 f0 f1 f2 f3 f4
  have F:=rpp_fin (r:=(some m,0)) (S:=(· < B)) (S2:=(fun b => b < B ∨ Since w2 w4 b)) (w:=w) (w2:=(w4.alloc (.cells (nA y0 y1 y2 y3 y4 y5 y6 y7 y8) 25))) (y:=w.heap.size + 1) (by omega) HB5.out HY5.out (NdIn.keep (fun p hp => World.cell?_alloc_lt _ _ _ (hp.elim (fun h => Nat.lt_of_lt_of_le h (by omega)) (fun h => h.2))) (fun _ h => h) _ _ HN5.out) (fun b hb => by
    rcases hb with hb | hb
    ·exact ⟨.inl hb,by omega⟩
    ·have h1:w2.heap.size ≤ b:=hb.1
     have h2:b < w4.heap.size:=hb.2
     exact ⟨.inr ⟨by omega,by simp;omega⟩,by omega⟩)
  unfold set5 at F
  generalize ((((((w4.alloc (.cells (nA y0 y1 y2 y3 y4 y5 y6 y7 y8) 25))).setCell (qa (w.heap.size + 1) 0) (.int .i64 y0)).setCell (qa (w.heap.size + 1) 1) (.int .i64 y1)).setCell (qa (w.heap.size + 1) 2) (.string y2)).setCell (qa (w.heap.size + 1) 3) (.slice y3 y4 y5)).setCell (qa (w.heap.size + 1) 4) (.slice y6 y7 y8) = WF at *
  obtain ⟨F1,F2⟩:=F
  obtain ⟨q0,q1,q2,q3,q4⟩:=F1.cells5
  refine bodyPost_ret (v:=.tuple #[.agg (nA y0 y1 y2 y3 y4 y5 y6 y7 y8),.int .i64 0]) (by simp [results,Tryd.results42,go_sem,q0,q1,q2,q3,q4]) rfl ?_
  rw [HP.out.2 m rfl];exact F2
theorem rPoint_any (n:Nd) (path:ByteArray) (cs:List Value) (w:World) (B:Nat) (hn:NdIs w B n cs) (hB:B ≤ w.heap.size) (hs:sizeOk n) (hc:n.count ≤ 1000000) (hp:path.size ≤ 9223372036854775807) :
  Calls Tryd.prog 42 #[.agg cs.toArray,.string path] w (RPP (pointN n path) (· < B) w):=by
 have hn1:NdIn w (· < B) n cs:=hn.in_
 obtain ⟨x0,x1,x2,x3,x4,x5,x6,x7,x8,rfl⟩:=hn1.form
 have HCR:Hid (∀ w',Below w.heap.size w w' → Calls Tryd.prog 7 #[.agg (nA x0 x1 x2 x3 x4 x5 x6 x7 x8)] w' (BoolBel (rightD n 0) w')):=fun w' h' =>
  rRight_any n (nL x0 x1 x2 x3 x4 x5 x6 x7 x8) w' B (hn.below (h'.mono hB)) (Nat.le_trans hB h'.size)
 cases hr:rightD n 0 with
 | false =>
  rw [hr] at HCR
  exact rPoint_right n path x0 x1 x2 x3 x4 x5 x6 x7 x8 w B hB HCR (show _ = _ by unfold pointN;rw [if_pos hr])
 | true =>
  rw [hr] at HCR
  cases hf:formP path with
  | false =>
   exact rPoint_form n path x0 x1 x2 x3 x4 x5 x6 x7 x8 w B hB HCR (fun w' => (rparts_any path w' hp).mono fun e w2 h => by
    rcases h with ⟨h,_⟩ | ⟨_,h⟩
    ·rw [hf] at h;cases h
    ·exact h) (pointN_form hr hf)
  | true =>
   have hpl:path.size ≤ 1000:=by
    have hf:=hf
    unfold formP at hf
    simp only [Bool.and_eq_true,decide_eq_true_eq] at hf
    exact hf.1.2
   exact rPoint_walk n path x0 x1 x2 x3 x4 x5 x6 x7 x8 w B hB HCR (fun w' => (rparts_any path w' hp).mono fun e w2 h => by
    rcases h with ⟨_,h⟩ | ⟨h,_⟩
    ·exact h
    ·rw [hf] at h;cases h) hn1 ⟨hs,hc⟩ hpl (getN (partsP path) n) rfl ⟨fun h => pointN_none hr hf h,fun m h => pointN_some hr hf h⟩
end Go.Proofs.YthbjehbpanhdoaaDoor
namespace Go.Proofs.YthbjehbpanhdoaaDoor
open Go.RowKit Go.PlainAid
set_option linter.unusedVariables false
set_option linter.unusedSimpArgs false
theorem ClsIs.at_ {w:World} {B:Nat}:∀ (l:List Cl) (xs:List Value) (i:Nat) (cl:Cl),ClsIs w B l xs → l[i]? = some cl → ∃ cs,NdIs w B cl.args cs ∧ ∀ j,j < 7 → xs[i * 7 + j]? = (.string cl.name :: (cs ++ [.string cl.id]))[j]?
 | [],xs,i,n,h,hi => by simp at hi
 | a :: l,xs,i,cl,h,hi => by
  unfold ClsIs at h
  obtain ⟨cs,ys,rfl,h2,h3⟩:=h
  have hl:=h2.len
  cases i with
  | zero =>
   simp at hi;subst hi
   refine ⟨cs,h2,fun j hj => ?_⟩
   rw [Nat.zero_mul,Nat.zero_add,show (Value.string a.name :: (cs ++ Value.string a.id :: ys)) = (Value.string a.name :: (cs ++ [Value.string a.id])) ++ ys by simp]
   exact List.getElem?_append_left (by simp;omega)
  | succ i =>
   obtain ⟨cs',k1,k2⟩:=ClsIs.at_ l ys i cl h3 (by simpa using hi)
   refine ⟨cs',k1,fun j hj => ?_⟩
   rw [← k2 j hj,show (Value.string a.name :: (cs ++ Value.string a.id :: ys)) = (Value.string a.name :: (cs ++ [Value.string a.id])) ++ ys by simp,List.getElem?_append_right (by simp;omega)]
   congr 1
   simp;omega
theorem Reads.cl {w:World} {B:Nat} {A:Option Addr} {l:List Cl} {xs:List Value} (h:Reads w B 7 A l.length xs) (hs:ClsIs w B l xs) {i:Nat} (hi:i < l.length) :
  ∃ ad cl x0 x1 x2 x3 x4 x5 x6 x7 x8,A = some ad ∧ ad.block < B ∧ l[i]? = some cl ∧ NdIs w B cl.args (nL x0 x1 x2 x3 x4 x5 x6 x7 x8) ∧ w.cell? (ad.add (i * 7)) = some (.string cl.name) ∧ w.cell? (qa ((ad.add (i * 7)).block) ((ad.add (i * 7)).off + 1)) = some (.int .i64 x0) ∧ w.cell? (qa ((ad.add (i * 7)).block) ((ad.add (i * 7)).off + 2)) = some (.int .i64 x1) ∧ w.cell? (qa ((ad.add (i * 7)).block) ((ad.add (i * 7)).off + 3)) = some (.string x2) ∧ w.cell? (qa ((ad.add (i * 7)).block) ((ad.add (i * 7)).off + 4)) = some (.slice x3 x4 x5) ∧ w.cell? (qa ((ad.add (i * 7)).block) ((ad.add (i * 7)).off + 5)) = some (.slice x6 x7 x8) ∧ w.cell? (qa ((ad.add (i * 7)).block) ((ad.add (i * 7)).off + 6)) = some (.string cl.id):=by
 obtain ⟨ad,e,hb,hc⟩:=h.2 (by omega)
 obtain ⟨cs,h1,h2⟩:=ClsIs.at_ l xs i l[i] hs (List.getElem?_eq_getElem hi)
 obtain ⟨A1,ck,A2,c,ys,rfl,_⟩:=h1.open_
 have g:∀ j u,j < 7 → ([.string l[i].name,.int .i64 l[i].args.kind,.int .i64 l[i].args.num,.string l[i].args.text,.slice A1 l[i].args.keys.length ck,.slice A2 l[i].args.kids.length c,.string l[i].id]:List Value)[j]? = some u → w.cell? ((ad.add (i * 7)).add j) = some u:=fun j u hj hu => by
  rw [add_of_add];exact hc _ _ ((h2 j hj).trans hu)
 have g0:=g 0 _ (by omega) rfl
 rw [show (ad.add (i * 7)).add 0 = ad.add (i * 7) by simp [Addr.add]] at g0
 exact ⟨ad,l[i],_,_,_,_,_,_,_,_,_,e,hb,List.getElem?_eq_getElem hi,h1,g0,g 1 _ (by omega) rfl,g 2 _ (by omega) rfl,g 3 _ (by omega) rfl,g 4 _ (by omega) rfl,g 5 _ (by omega) rfl,g 6 _ (by omega) rfl⟩
end Go.Proofs.YthbjehbpanhdoaaDoor
namespace Go.Proofs.YthbjehbpanhdoaaDoor
open Go.RowKit Go.PlainAid
set_option linter.unusedVariables false
set_option linter.unusedSimpArgs false
set_option maxRecDepth 100000
theorem rightLD_cons (n:Nd) (ns:List Nd) (deep:Int):rightLD (n :: ns) deep = (rightD n deep && rightLD ns deep):=by
 have:=rightLD_at (n :: ns) 0 n deep rfl
 rw [List.drop_zero] at this
 rw [this];rfl
def ndEx:Nd:=.mk 7 0 ⟨#[]⟩ [⟨#[97]⟩] [.mk 6 0 ⟨#[]⟩ [] [num4 7]]
def strN (s:ByteArray):Nd:=.mk 5 0 s [] []
def refN (a b c:ByteArray):Nd:=objO [strN rofS,strN a,strN rnmS,strN b,strN rpaS,strN c]
def oneN:Nd:=.mk 7 0 ⟨#[]⟩ [⟨#[97]⟩] [num4 1]
def doneL:List Cl:=[⟨⟨#[109]⟩,oneN,⟨#[99]⟩⟩]
def badN:List Nd:=[num4 1,objO [],refN ⟨#[100]⟩ ⟨#[109]⟩ ⟨#[47,97]⟩,refN ⟨#[99]⟩ ⟨#[110]⟩ ⟨#[47,97]⟩,refN ⟨#[99]⟩ ⟨#[109]⟩ ⟨#[47,98]⟩,refN ⟨#[99]⟩ ⟨#[109]⟩ ⟨#[97]⟩,objO [strN rofS,strN ⟨#[99]⟩,strN rnmS,strN ⟨#[109]⟩]]
def xS:ByteArray:=⟨#[120]⟩
def hxS:ByteArray:=⟨#[35,120]⟩
end Go.Proofs.YthbjehbpanhdoaaDoor
namespace Go.Proofs.YthbjehbpanhdoaaDoor
open Go.RowKit Go.PlainAid
set_option linter.unusedVariables false
set_option linter.unusedSimpArgs false
def SZ (lo hi:Nat) (w:World) (v1 v2:Value) (b:Nat):Prop:=(b < lo ∨ hi ≤ b) ∧ b < w.heap.size ∧ v1.ownBlock ≠ some b ∧ v2.ownBlock ≠ some b
structure RI (lo hi:Nat) (w:World) (ks:List ByteArray) (ns:List Nd) (K:Option Addr) (kc:Nat) (A:Option Addr) (c:Nat) (ys:List Value):Prop where
 keys:w.ownsRow hi 9 1 (.slice K ks.length kc) ks.length (ks.map Value.string)
 own:w.ownsRow hi 25 5 (.slice A ns.length c) ns.length ys
 kids:NdsIn w (SZ lo hi w (.slice K ks.length kc) (.slice A ns.length c)) ns ys
section
variable {lo hi:Nat} {w w':World} {ks:List ByteArray} {ns:List Nd} {K:Option Addr} {kc:Nat} {A:Option Addr} {c:Nat} {ys:List Value}
theorem RI.start (lo hi:Nat) (w:World):RI lo hi w [] [] none 0 none 0 []:=⟨World.ownsRow_nil _ _ _ _,World.ownsRow_nil _ _ _ _,NdsIn.nil⟩
theorem RI.below (h:RI lo hi w ks ns K kc A c ys) (hb:Below w.heap.size w w'):RI lo hi w' ks ns K kc A c ys:=
 ⟨own_old h.keys hb,own_old h.own hb,NdsIn.keep (fun p hp => hb.cell hp.2.1) (fun b hp => ⟨hp.1,Nat.lt_of_lt_of_le hp.2.1 hb.size,hp.2.2⟩) _ _ h.kids⟩
theorem RI.grown (h:RI lo hi w ks ns K kc A c ys) {row:Nat} (hg:w.grownBy w' (some row)) (h1:lo ≤ row) (h2:row < hi):RI lo hi w' ks ns K kc A c ys:=
 ⟨World.ownsRow.kept h.keys hg (.inr (fun e => by have:=(own_lt h.keys e).1;omega)),World.ownsRow.kept h.own hg (.inr (fun e => by have:=(own_lt h.own e).1;omega)),
  NdsIn.keep (fun p hp => World.cell?_of_block (hg.block p.block hp.2.1 (fun e => by injection e with e;have:=hp.1;omega))) (fun b hp => ⟨hp.1,Nat.lt_of_lt_of_le hp.2.1 hg.size,hp.2.2⟩) _ _ h.kids⟩
theorem RI.box (h:RI lo hi w ks ns K kc A c ys) {b:Nat} (o:Nat) (v:Value) (h1:lo ≤ b) (h2:b < hi):RI lo hi (w.setCell (qa b o) v) ks ns K kc A c ys:=
 h.grown (grown_set (g:=b) ⟨rfl,rfl,rfl,Nat.le_refl _,fun _ _ _ => rfl⟩ o v) h1 h2
theorem RI.is (h:RI lo hi w ks ns K kc A c ys) (hks:∀ t ∈ ks,t.size ≤ maxLen):NdIs w w.heap.size (.mk 7 0 ⟨#[]⟩ ks ns) [.int .i64 7,.int .i64 0,.string ⟨#[]⟩,.slice K ks.length kc,.slice A ns.length c]:=by
 unfold NdIs
 refine ⟨K,kc,A,c,ys,rfl,?_,?_,?_,by unfold I64;omega,by unfold I64;omega,by decide,hks,own_len h.keys,own_len h.own⟩
 ·exact (own_RS h.keys).reads (fun b hb => hb.2)
 ·exact (own_RS h.own).reads (fun b hb => hb.2)
 ·exact NdsIn.is (fun b hb => hb.2.1) _ _ h.kids
theorem RI.key (hI:RI lo hi w ks ns K kc A c ys) {t:ByteArray} {K2:Option Addr} {kc2:Nat} (hown:w'.ownsRow hi 9 1 (.slice K2 (ks.length + 1) kc2) (ks.length + 1) (ks.map Value.string ++ [.string t]))
  (p2:w.grownBy w' (Value.slice K ks.length kc).ownBlock) (p3:(Value.slice K2 (ks.length + 1) kc2).ownBlock = (Value.slice K ks.length kc).ownBlock ∨ ∃ g1,(Value.slice K2 (ks.length + 1) kc2).ownBlock = some g1 ∧ w.heap.size ≤ g1) :
  RI lo hi w' (ks ++ [t]) ns K2 kc2 A c ys:=by
 have s3:=p2.size
 refine ⟨by simpa using hown,?_,NdsIn.keep (fun p hp => World.cell?_of_block (p2.block p.block hp.2.1 (fun e => hp.2.2.1 e.symm))) (fun b hp => ⟨hp.1,Nat.lt_of_lt_of_le hp.2.1 s3,?_,hp.2.2.2⟩) _ _ hI.kids⟩
 ·refine own_moved hI.own (fun b e => p2.block b (own_lt hI.own e).2 (fun e2 => own_apart hI.own hI.keys (by decide) e e2.symm)) s3
 ·rw [List.length_append,List.length_singleton]
  rcases p3 with e | ⟨g,e,hg⟩
  ·rw [e];exact hp.2.2.1
  ·rw [e];intro e2;injection e2 with e2;have:=hp.2.1;omega
theorem RI.kid (hI:RI lo hi w ks ns K kc A c ys) {n:Nd} {cs:List Value} {S:Nat → Prop} (hn:NdIn w S n cs) (hS:∀ b,S b → SZ lo hi w (.slice K ks.length kc) (.slice A ns.length c) b) {A2:Option Addr} {c2:Nat}
  (hown:w'.ownsRow hi 25 5 (.slice A2 (ns.length + 1) c2) (ns.length + 1) (ys ++ cs))
  (p2:w.grownBy w' (Value.slice A ns.length c).ownBlock) (p3:(Value.slice A2 (ns.length + 1) c2).ownBlock = (Value.slice A ns.length c).ownBlock ∨ ∃ g1,(Value.slice A2 (ns.length + 1) c2).ownBlock = some g1 ∧ w.heap.size ≤ g1) :
  RI lo hi w' ks (ns ++ [n]) K kc A2 c2 (ys ++ cs):=by
 have s3:=p2.size
 refine ⟨?_,by simpa using hown,NdsIn.keep (S:=SZ lo hi w (.slice K ks.length kc) (.slice A ns.length c)) (fun p hp => World.cell?_of_block (p2.block p.block hp.2.1 (fun e => hp.2.2.2 e.symm))) (fun b hp => ⟨hp.1,Nat.lt_of_lt_of_le hp.2.1 s3,hp.2.2.1,?_⟩) _ _ (NdsIn.app _ _ _ _ hI.kids (NdIn.keep (fun _ _ => rfl) hS _ _ hn))⟩
 ·refine own_moved hI.keys (fun b e => p2.block b (own_lt hI.keys e).2 (fun e2 => own_apart hI.keys hI.own (by decide) e e2.symm)) s3
 ·rw [List.length_append,List.length_singleton]
  rcases p3 with e | ⟨g,e,hg⟩
  ·rw [e];exact hp.2.2.2
  ·rw [e];intro e2;injection e2 with e2;have:=hp.2.1;omega
theorem map_set_str (ks:List ByteArray) (i:Nat) (t:ByteArray):(ks.set i t).map Value.string = (ks.map Value.string).set i (.string t):=by rw [List.map_set]
theorem setCell_grown (w:World) (g o:Nat) (v:Value):w.grownBy (w.setCell (qa g o) v) (some g):=grown_set ⟨rfl,rfl,rfl,Nat.le_refl _,fun _ _ _ => rfl⟩ o v
theorem RI.putKey {g:Nat} (hI:RI lo hi w ks ns (some (qa g 0)) kc A c ys) (i:Nat) (t:ByteArray):RI lo hi (w.setCell (qa g i) (.string t)) (ks.set i t) ns (some (qa g 0)) kc A c ys:=by
 have hg:=setCell_grown w g i (.string t)
 refine ⟨?_,?_,NdsIn.keep (fun p hp => World.cell?_of_block (hg.block p.block hp.2.1 (fun e => hp.2.2.1 e.symm))) (fun b hp => ⟨hp.1,Nat.lt_of_lt_of_le hp.2.1 hg.size,by simpa using hp.2.2.1,hp.2.2.2⟩) _ _ hI.kids⟩
 ·rw [map_set_str,List.length_set];exact (World.ownsRow.stored hI.keys i (.string t)).1
 ·exact own_moved hI.own (fun b e => hg.block b (own_lt hI.own e).2 (fun e2 => own_apart hI.own hI.keys (by decide) e e2.symm)) hg.size
theorem NdsIn.set {S:Nat → Prop} {n:Nd} {v0 v1 v2 v3 v4:Value} (hn:NdIn w S n [v0,v1,v2,v3,v4]):∀ (ns:List Nd) (ys:List Value) (i:Nat),i < ns.length → NdsIn w S ns ys →
  NdsIn w S (ns.set i n) (((((ys.set (i * 5) v0).set (i * 5 + 1) v1).set (i * 5 + 2) v2).set (i * 5 + 3) v3).set (i * 5 + 4) v4)
 | [],ys,i,hi,h => absurd hi (by simp)
 | m :: ns,ys,0,hi,h => by
  unfold NdsIn at h
  obtain ⟨cs,zs,rfl,h1,h2⟩:=h
  obtain ⟨k,mm,t,B1,a,cc,B2,b,d,rfl⟩:=h1.form
  show NdsIn w S (n :: ns) _
  unfold NdsIn
  exact ⟨[v0,v1,v2,v3,v4],zs,by simp,hn,h2⟩
 | m :: ns,ys,i + 1,hi,h => by
  unfold NdsIn at h
  obtain ⟨cs,zs,rfl,h1,h2⟩:=h
  obtain ⟨k,mm,t,B1,a,cc,B2,b,d,rfl⟩:=h1.form
  show NdsIn w S (m :: ns.set i n) _
  unfold NdsIn
  refine ⟨(nL k mm t B1 a cc B2 b d),_,?_,h1,NdsIn.set hn ns zs i (by simpa using hi) h2⟩
  have e:∀ j,(i + 1) * 5 + j = (i * 5 + j) + 1 + 1 + 1 + 1 + 1:=fun j => by omega
  have e0:(i + 1) * 5 = i * 5 + 1 + 1 + 1 + 1 + 1:=by omega
  rw [e 1,e 2,e 3,e 4,e0]
  simp only [List.cons_append,List.nil_append,List.set_cons_succ]
theorem RI.putKid {g:Nat} (hI:RI lo hi w ks ns K kc (some (qa g 0)) c ys) (i:Nat) (hi2:i < ns.length) {n:Nd} {v0 v1 v2 v3 v4:Value} {S:Nat → Prop} (hn:NdIn w S n [v0,v1,v2,v3,v4]) (hS:∀ b,S b → SZ lo hi w (.slice K ks.length kc) (.slice (some (qa g 0)) ns.length c) b) :
  RI lo hi (((((w.setCell (qa g (i * 5)) v0).setCell (qa g (i * 5 + 1)) v1).setCell (qa g (i * 5 + 2)) v2).setCell (qa g (i * 5 + 3)) v3).setCell (qa g (i * 5 + 4)) v4) ks (ns.set i n) K kc (some (qa g 0)) c (((((ys.set (i * 5) v0).set (i * 5 + 1) v1).set (i * 5 + 2) v2).set (i * 5 + 3) v3).set (i * 5 + 4) v4):=by
 have hg:w.grownBy (((((w.setCell (qa g (i * 5)) v0).setCell (qa g (i * 5 + 1)) v1).setCell (qa g (i * 5 + 2)) v2).setCell (qa g (i * 5 + 3)) v3).setCell (qa g (i * 5 + 4)) v4) (some g):=
  grown_set (grown_set (grown_set (grown_set (grown_set ⟨rfl,rfl,rfl,Nat.le_refl _,fun _ _ _ => rfl⟩ _ _) _ _) _ _) _ _) _ _
 refine ⟨?_,?_,NdsIn.keep (S:=SZ lo hi w (.slice K ks.length kc) (.slice (some (qa g 0)) ns.length c)) (fun p hp => World.cell?_of_block (hg.block p.block hp.2.1 (fun e => hp.2.2.2 e.symm))) (fun b hp => ⟨hp.1,Nat.lt_of_lt_of_le hp.2.1 hg.size,hp.2.2.1,by simpa using hp.2.2.2⟩) _ _ (NdsIn.set (NdIn.keep (fun _ _ => rfl) hS _ _ hn) _ _ _ hi2 hI.kids)⟩
 ·exact own_moved hI.keys (fun b e => hg.block b (own_lt hI.keys e).2 (fun e2 => own_apart hI.keys hI.own (by decide) e e2.symm)) hg.size
 ·rw [List.length_set]
  exact (World.ownsRow.stored (World.ownsRow.stored (World.ownsRow.stored (World.ownsRow.stored (World.ownsRow.stored hI.own _ v0).1 _ v1).1 _ v2).1 _ v3).1 _ v4).1
end
theorem clone_own (ks:List ByteArray) (A:Option Addr) (ck B:Nat) (w:World) (hks:Reads w B 1 A ks.length (ks.map Value.string)) (hl:ks.length ≤ 1000000) (hB:B ≤ w.heap.size) :
  Calls Tryd.prog 51 #[.slice A ks.length ck] w fun e w' => ∃ A' c',e = .returned (.slice A' ks.length c') ∧ w'.ownsRow w.heap.size 9 1 (.slice A' ks.length c') ks.length (ks.map Value.string) ∧ Below w.heap.size w w':=by
 cases A with
 | none =>
  have:ks = []:=by
   rcases Nat.eq_zero_or_pos ks.length with h | h
   ·exact List.eq_nil_of_length_eq_zero h
   ·obtain ⟨ad,h,_⟩:=hks.2 h;cases h
  subst this
  refine (Tryd.slices_Clone_string_nil _ ck w).mono ?_
  rintro e w' ⟨rfl,rfl⟩
  exact ⟨none,0,rfl,World.ownsRow_nil _ _ _ _,Below.refl _ _⟩
 | some a =>
  rcases Nat.eq_zero_or_pos ks.length with h | h
  ·have:ks = []:=List.eq_nil_of_length_eq_zero h
   subst this
   refine (Tryd.slices_Clone_string_zero a ck w).mono ?_
   rintro e w' ⟨v',rfl,ho,hne,hb⟩
   obtain ⟨A',c',rfl⟩:=own_form ho
   exact ⟨_,_,rfl,ho,hb⟩
  ·obtain ⟨ad,e,hb,hc⟩:=hks.2 h
   injection e with e
   subst e
   have h0:=hc 0 _ (List.getElem?_eq_getElem (by simpa using h))
   have hs:=spot_none h0
   rw [show a.add 0 = a by simp [Addr.add]] at hs
   have ha:a = (qa a.block a.off):=by cases a;simp at hs;subst hs;rfl
   rw [ha]
   refine (Tryd.slices_Clone_string a.block a.off ks.length ck ks w (Nat.le_refl _) (by omega) (fun j hj => ?_)).mono ?_
   ·have h1:=hc j (.string (ks.getD j ByteArray.empty)) (by rw [List.getElem?_map,List.getElem?_eq_getElem hj];simp [List.getD,hj])
    rw [← h1]
    congr 1
    unfold Addr.add
    split
    ·rename_i h0;subst h0;rw [ha];rfl
    ·rfl
   ·rintro e w' ⟨v',rfl,ho,hne,hb'⟩
    rw [List.take_length] at ho
    obtain ⟨g,cap,hv,hg1,hg2⟩:=ho.form h
    subst hv
    exact ⟨_,_,rfl,ho,hb'⟩
def TopNd (k num:Int) (t:ByteArray) (ks:List ByteArray) (ns:List Nd) (w:World) (e:Ending) (w':World):Prop:=∃ (A:Option Addr) (ck:Nat) (A2:Option Addr) (cc:Nat) (ys:List Value),
 e = .returned (.agg (nA k num t A ks.length ck A2 ns.length cc)) ∧ RI 0 w.heap.size w' ks ns A ck A2 cc ys ∧ Below w.heap.size w w'
def FindTop (k num:Int) (t:ByteArray) (ks:List ByteArray) (ns:List Nd) (w:World) (e:Ending) (w':World):Prop:=∃ (A:Option Addr) (ck:Nat) (A2:Option Addr) (cc:Nat) (ys:List Value),
 e = .returned (.tuple #[.agg (nA k num t A ks.length ck A2 ns.length cc),.bool true]) ∧ RI 0 w.heap.size w' ks ns A ck A2 cc ys ∧ Below w.heap.size w w'
theorem own_mono {w:World} {B B2 s n:Nat} {e:TypeId} {v:Value} {xs:List Value} (h:w.ownsRow B e s v n xs) (hb:B2 ≤ B):w.ownsRow B2 e s v n xs:=
 ⟨h.1,h.2.imp id fun ⟨g,cap,cur,h1,h2,h3⟩ => ⟨g,cap,cur,h1,Nat.le_trans hb h2,h3⟩⟩
theorem RI.lift {lo hi hi2:Nat} {w:World} {ks:List ByteArray} {ns:List Nd} {K:Option Addr} {kc:Nat} {A:Option Addr} {c:Nat} {ys:List Value} (h:RI lo hi w ks ns K kc A c ys) (h2:hi2 ≤ hi):RI lo hi2 w ks ns K kc A c ys:=
 ⟨own_mono h.keys h2,own_mono h.own h2,NdsIn.keep (fun _ _ => rfl) (fun b hb => ⟨hb.1.imp id (Nat.le_trans h2),hb.2⟩) _ _ h.kids⟩
theorem RI.push {hi:Nat} {w w2 w3:World} {ks:List ByteArray} {ns:List Nd} {K:Option Addr} {kc:Nat} {A:Option Addr} {c:Nat} {ys:List Value} (hI:RI 0 hi w ks ns K kc A c ys) (hh:hi ≤ w.heap.size) (hb:Below w.heap.size w w2) {wa:World} (hwa:w.heap.size ≤ wa.heap.size) {n:Nd} {cs:List Value} (hn:NdIn w2 (Since wa w2) n cs) {A2:Option Addr} {c2:Nat}
  (hown:w3.ownsRow hi 25 5 (.slice A2 (ns.length + 1) c2) (ns.length + 1) (ys ++ cs)) (hg:w2.grownBy w3 (Value.slice A ns.length c).ownBlock)
  (p3:(Value.slice A2 (ns.length + 1) c2).ownBlock = (Value.slice A ns.length c).ownBlock ∨ ∃ g1,(Value.slice A2 (ns.length + 1) c2).ownBlock = some g1 ∧ w2.heap.size ≤ g1) :
  RI 0 hi w3 ks (ns ++ [n]) K kc A2 c2 (ys ++ cs):=
 (hI.below hb).kid hn (fun b hb2 => ⟨.inr (by have:=hb2.1;omega),hb2.2,fun e => by have:=(own_lt hI.keys e).2;have:=hb2.1;omega,fun e => by have:=(own_lt hI.own e).2;have:=hb2.1;omega⟩) hown hg p3
set_option maxRecDepth 100000 in
set_option maxHeartbeats 3000000 in
theorem copied_top (k num:Int) (t:ByteArray) (ks:List ByteArray) (ns:List Nd) (A A2:Option Addr) (ck cc:Nat) (xs:List Value) (w:World) (B:Nat)
  (hks:Reads w B 1 A ks.length (ks.map Value.string)) (hxs:Reads w B 5 A2 ns.length xs) (hns:NdsIs w B ns xs) (ht:t.size ≤ maxLen) (hsz:∀ s ∈ ks,s.size ≤ maxLen) (hk1:ks.length ≤ 1000000) (hk2:ns.length ≤ 1000000)
  (hk0:I64 k) (hn0:I64 num) (hB:B ≤ w.heap.size) (HIH:Hid (CopyH B ns)) :
  Calls Tryd.prog 36 #[.agg (nA k num t A ks.length ck A2 ns.length cc)] w (TopNd k num t ks ns w):=by
 have HXS:=Lib.hid hxs
 have HNS:=Lib.hid hns
 have HCL:Hid (∀ w',Below w.heap.size w w' → Calls Tryd.prog 51 #[.slice A ks.length ck] w' fun e w'' => ∃ A' c',e = .returned (.slice A' ks.length c') ∧ w''.ownsRow w'.heap.size 9 1 (.slice A' ks.length c') ks.length (ks.map Value.string) ∧ Below w'.heap.size w' w''):=fun w' hb =>
  clone_own ks A ck B w' (hks.keep fun p hp => hb.cell (by omega)) hk1 (by have:=hb.size;omega)
 have HF:Hid (I64 k ∧ I64 num ∧ t.size ≤ maxLen ∧ (∀ s ∈ ks,s.size ≤ maxLen)):=⟨hk0,hn0,ht,hsz⟩
 have hA:Below w.heap.size w ((w.alloc (.cells (nA k num t A ks.length ck A2 ns.length cc) 25)).alloc (.cells Zn 25)):=((Below.refl _ _).alloc (Nat.le_refl _) _).alloc (by simp) _
 have hX:Blk ((w.alloc (.cells (nA k num t A ks.length ck A2 ns.length cc) 25)).alloc (.cells Zn 25)) w.heap.size 25 (nA k num t A ks.length ck A2 ns.length cc):=(Blk.new w _ _).alloc _
 have hY:Blk ((w.alloc (.cells (nA k num t A ks.length ck A2 ns.length cc) 25)).alloc (.cells Zn 25)) (w.heap.size + 1) 25 Zn:=by
  have:=Blk.new (w.alloc (.cells (nA k num t A ks.length ck A2 ns.length cc) 25)) 25 Zn
  simpa using this
 have HX:=Lib.hid hX
 have HY:=Lib.hid hY
 clear hks hxs hns ht hsz hk0 hn0 hX hY
 go_enter Tryd.func36,Tryd.ntmps36
 go_wp2_with fail
 refine (HCL.out _ hA).mono ?_;rintro e w1 ⟨A',c',rfl,hr1,hw1⟩
 have hB1:=hA.trans (hw1.mono (by simp;omega))
 have hX1:=HX.out.below hw1 (by simp;omega)
 have hY1:=HY.out.below hw1 (by simp)
 obtain ⟨c0,c1,c2,c3,c4⟩:=hX1.cells5
 have f3:w1.frozen? (qa w.heap.size 3) = false:=hX1.frozen 3
 have hs1:w.heap.size + 2 ≤ w1.heap.size:=by have:=hw1.size;simp at this;omega
 have hX2:Hid (Blk (w1.setCell (qa w.heap.size 3) (.slice A' ks.length c')) w.heap.size 25 (nA k num t A' ks.length c' A2 ns.length cc)):=hX1.set_ 3 _
 have hY2:Hid (Blk (w1.setCell (qa w.heap.size 3) (.slice A' ks.length c')) (w.heap.size + 1) 25 Zn):=hY1.far (by simp) _
 have hB2:Hid (Below w.heap.size w (w1.setCell (qa w.heap.size 3) (.slice A' ks.length c'))):=hB1.setCell (p:=(qa w.heap.size 3)) (Nat.le_refl _) _
 have hs2:w.heap.size + 2 ≤ (w1.setCell (qa w.heap.size 3) (.slice A' ks.length c')).heap.size:=by simp;omega
 have HR2:Hid (RI 0 (w.heap.size + 2) (w1.setCell (qa w.heap.size 3) (.slice A' ks.length c')) ks [] A' c' none 0 []):=
  RI.box (lo:=0) ⟨own_mono hr1 (by simp),World.ownsRow_nil _ _ _ _,NdsIn.nil⟩ 3 _ (Nat.zero_le _) (by omega)
 clear hX1 hY1 hr1 hw1 hB1
 have d4:(w1.setCell (qa w.heap.size 3) (.slice A' ks.length c')).cell? (qa w.heap.size 4) = some (.slice A2 ns.length cc):=hX2.out.cell 4
 clear c0 c1 c2
 go_wp2_with fail
 go_loopw [3,13] (fun tv t13 wr => ∃ (i:Nat) (ys:List Value) (Aw:Option Addr) (cw:Nat),i ≤ ns.length ∧ t13 = .int .i64 i ∧ tv = .slice Aw i cw ∧ Hid (RI 0 (w.heap.size + 2) wr ks (ns.take i) A' c' Aw cw ys) ∧
   Hid (Blk wr w.heap.size 25 (nA k num t A' ks.length c' A2 ns.length cc)) ∧ Hid (Blk wr (w.heap.size + 1) 25 Zn) ∧ Hid (Below w.heap.size w wr) ∧ w.heap.size + 2 ≤ wr.heap.size)
  (fun _ t13 _ => ns.length - (intOf t13).toNat)
 case atStart => exact ⟨0,[],none,0,by omega,rfl,rfl,HR2,hX2,hY2,hB2,hs2⟩
 case round =>
  clear HR2 hX2 hY2 hB2 hs2 d4 c3 c4 f3
  obtain ⟨i,ys,Aw,cw,hi,rfl,rfl,hr,hx,hy,hb,hs⟩:=hrel
  have htk:(ns.take i).length = i:=by rw [List.length_take];omega
  have ho:Hid (wr.ownsRow (w.heap.size + 2) 25 5 (.slice Aw i cw) i ys):=by have:=hr.out.own;rw [htk] at this;exact this
  have HTK:=Lib.hid htk
  clear htk
  obtain ⟨wo,rfl⟩:∃ wo:World,wo = wr:=⟨_,rfl⟩
  by_cases hlt:i < ns.length
  ·have hkeep:∀ p:Addr,p.block < B → wo.cell? p = w.cell? p:=fun p hp => hb.out.cell (by omega)
   obtain ⟨ad,n,v0,v1,v2,v3,v4,rfl,hadb,hni,hnd,e0,e1,e2,e3,e4⟩:=(HXS.out.keep hkeep).nd (NdsIs.keep hkeep _ _ HNS.out) hlt
   obtain ⟨x0,x1,x2,x3,x4,x5,x6,x7,x8,rfl,rfl,rfl,rfl,rfl⟩:=hnd.form
   have HNI:=Lib.hid hni
   have HND:=Lib.hid hnd
   have q3:¬ ad.block = wo.heap.size:=by omega
   have q4:¬ (ad.add (i * 5)).block = wo.heap.size:=by rw [block_of_add];omega
   clear hni hnd hkeep
   have hWA:Below wo.heap.size wo (wo.alloc (.cells (nA x0 x1 x2 x3 x4 x5 x6 x7 x8) 25)):=(Below.refl _ _).alloc (Nat.le_refl _) _
   have HWA:=Lib.hid hWA
   go_wp2_with fail
   have HC:=HIH.out i n (nL x0 x1 x2 x3 x4 x5 x6 x7 x8) _ HNI.out (HND.out.below (hWA.mono (by omega))) (by simp;omega)
   refine (HC:Calls _ _ _ _ _).mono ?_;rintro e w2 ⟨c0,c1,c2,c3,c4,c5,c6,c7,c8,rfl,hnew,hw2⟩
   have HNEW:=Lib.hid hnew
   have HB2:Hid (Below wo.heap.size wo w2):=HWA.out.trans (hw2.mono (by simp))
   have HO2:=Lib.hid (own_old ho.out HB2.out)
   have z2:w.heap.size + 2 ≤ w2.heap.size:=by have:=HB2.out.size;omega
   have HS2:Hid (wo.heap.size < w2.heap.size):=by have:=hw2.size;simp at this;show _ < _;omega
   clear HC hnew hw2 hWA e0 e1 e2 e3 e4
   go_wp2_with (at_builtin;refine wpList_pushNd _ rfl _ _ rfl (w.heap.size + 2) _ i ys rfl HO2.out c0 c1 c2 c3 c4 c5 c6 c7 c8 rfl (by omega) z2 ?_;intro v' w3 ho3 hg3 hv3;obtain ⟨Av,cv,rfl⟩:=own_form ho3;have HO3:=Lib.hid ho3;have HG3:=Lib.hid hg3;have HV3:=Lib.hid hv3;clear ho3 hg3 hv3)
   have hown:∀ g,(Value.slice Aw i cw).ownBlock = some g → g < wo.heap.size:=fun g hg => (own_lt ho.out hg).2
   have hown3:∀ g,g < w.heap.size + 2 → some g ≠ (Value.slice Aw i cw).ownBlock:=fun g hg e => by have:=(own_lt ho.out e.symm).1;omega
   have g1:Hid (RI 0 (w.heap.size + 2) w3 ks (ns.take (i + 1)) A' c' Av cv (ys ++ (nL c0 c1 c2 c3 c4 c5 c6 c7 c8))):=by
    show RI _ _ _ _ _ _ _ _ _ _
    rw [take_snoc HNI.out]
    exact RI.push hr.out hs HB2.out (by simp) HNEW.out (by rw [HTK.out];exact HO3.out) (by rw [HTK.out];exact HG3.out) (by rw [HTK.out];exact HV3.out)
   have g3:Hid (Blk w3 w.heap.size 25 #[.int .i64 k,.int .i64 num,.string t,.slice A' ks.length c',.slice (some ad) ns.length cc]):=(hx.out.below HB2.out (by omega)).grown HG3.out (hown3 _ (by omega))
   have g4:Hid (Blk w3 (w.heap.size + 1) 25 Zn):=(hy.out.below HB2.out (by omega)).grown HG3.out (hown3 _ (by omega))
   have g5:Hid (Below w.heap.size w w3):=(hb.out.trans (HB2.out.mono (by omega))).grown HG3.out (by omega) (fun g hg => by have:=(own_lt ho.out hg).1;omega)
   have g6:w.heap.size + 2 ≤ w3.heap.size:=by have:=HG3.out.size;omega
   clear hown hown3
   go_wp2_with fail
   go_roundw
   case rel => exact ⟨i + 1,_,_,_,by omega,by go_num,rfl,g1,g3,g4,g5,g6⟩
   case measure => simp [intOf];omega
  ·have hin:i = ns.length:=by omega
   have HIN:=Lib.hid hin
   clear hin
   have f4:wo.frozen? (qa w.heap.size 4) = false:=hx.out.frozen 4
   obtain ⟨c0,c1,c2,c3,c4⟩:=hx.out.cells5
   obtain ⟨d0,d1,d2,d3,d4⟩:=hy.out.cells5
   have e0:wo.frozen? (qa (w.heap.size + 1) 0) = false:=hy.out.frozen 0
   have e1:wo.frozen? (qa (w.heap.size + 1) 1) = false:=hy.out.frozen 1
   have e2:wo.frozen? (qa (w.heap.size + 1) 2) = false:=hy.out.frozen 2
   have e3:wo.frozen? (qa (w.heap.size + 1) 3) = false:=hy.out.frozen 3
   have e4:wo.frozen? (qa (w.heap.size + 1) 4) = false:=hy.out.frozen 4
   go_wp2_with fail
   have hfin:Hid (Blk ((((((wo.setCell (qa w.heap.size 4) (.slice Aw i cw)).setCell (qa (w.heap.size + 1) 0) (.int .i64 k)).setCell (qa (w.heap.size + 1) 1) (.int .i64 num)).setCell (qa (w.heap.size + 1) 2) (.string t)).setCell (qa (w.heap.size + 1) 3) (.slice A' ks.length c')).setCell (qa (w.heap.size + 1) 4) (.slice Aw i cw)) (w.heap.size + 1) 25 (nA k num t A' ks.length c' Aw i cw)):=((((((hy.out.far (by simp) _).set_ 0 _).set_ 1 _).set_ 2 _).set_ 3 _).set_ 4 _)
   have hbel:Hid (Below w.heap.size w ((((((wo.setCell (qa w.heap.size 4) (.slice Aw i cw)).setCell (qa (w.heap.size + 1) 0) (.int .i64 k)).setCell (qa (w.heap.size + 1) 1) (.int .i64 num)).setCell (qa (w.heap.size + 1) 2) (.string t)).setCell (qa (w.heap.size + 1) 3) (.slice A' ks.length c')).setCell (qa (w.heap.size + 1) 4) (.slice Aw i cw))):=(((((hb.out.setCell (p:=(qa w.heap.size 4)) (Nat.le_refl _) _).setCell (p:=(qa (w.heap.size + 1) 0)) (by simp) _).setCell (p:=(qa (w.heap.size + 1) 1)) (by simp) _).setCell (p:=(qa (w.heap.size + 1) 2)) (by simp) _).setCell (p:=(qa (w.heap.size + 1) 3)) (by simp) _).setCell (p:=(qa (w.heap.size + 1) 4)) (by simp) _
   have hri:Hid (RI 0 (w.heap.size + 2) ((((((wo.setCell (qa w.heap.size 4) (.slice Aw i cw)).setCell (qa (w.heap.size + 1) 0) (.int .i64 k)).setCell (qa (w.heap.size + 1) 1) (.int .i64 num)).setCell (qa (w.heap.size + 1) 2) (.string t)).setCell (qa (w.heap.size + 1) 3) (.slice A' ks.length c')).setCell (qa (w.heap.size + 1) 4) (.slice Aw i cw)) ks (ns.take i) A' c' Aw cw ys):=
    (((((hr.out.box 4 _ (Nat.zero_le _) (show w.heap.size < w.heap.size + 2 by omega)).box 0 _ (Nat.zero_le _) (show w.heap.size + 1 < w.heap.size + 2 by omega)).box 1 _ (Nat.zero_le _) (show w.heap.size + 1 < w.heap.size + 2 by omega)).box 2 _ (Nat.zero_le _) (show w.heap.size + 1 < w.heap.size + 2 by omega)).box 3 _ (Nat.zero_le _) (show w.heap.size + 1 < w.heap.size + 2 by omega)).box 4 _ (Nat.zero_le _) (show w.heap.size + 1 < w.heap.size + 2 by omega)
   have HFIN:=hfin.out
   generalize ((((((wo.setCell (qa w.heap.size 4) (.slice Aw i cw)).setCell (qa (w.heap.size + 1) 0) (.int .i64 k)).setCell (qa (w.heap.size + 1) 1) (.int .i64 num)).setCell (qa (w.heap.size + 1) 2) (.string t)).setCell (qa (w.heap.size + 1) 3) (.slice A' ks.length c')).setCell (qa (w.heap.size + 1) 4) (.slice Aw i cw)) = WF at *
   obtain ⟨q0,q1,q2,q3,q4⟩:=HFIN.cells5
   refine bodyPost_ret (v:=.agg (nA k num t A' ks.length c' Aw i cw)) (by simp [results,Tryd.results36,go_sem,q0,q1,q2,q3,q4]) rfl ?_
   have hin:=HIN.out
   subst hin
   have hri:=hri.out
   rw [List.take_length] at hri
   exact ⟨_,_,_,_,_,rfl,hri.lift (by omega),hbel.out⟩
set_option maxRecDepth 100000 in
set_option maxHeartbeats 3000000 in
theorem cFind_top (num:Int) (t:ByteArray) (ks:List ByteArray) (ns:List Nd) (A A2:Option Addr) (ck cc:Nat) (xs:List Value) (x:ByteArray) (w:World) (B:Nat)
  (hks:Reads w B 1 A ks.length (ks.map Value.string)) (hxs:Reads w B 5 A2 ns.length xs) (hns:NdsIs w B ns xs) (hk1:ks.length ≤ 9223372036854775807) (hk2:ns.length ≤ 9223372036854775807)
  (hB:B ≤ w.heap.size) (i:Nat) (hi:idxK ks x = some i) (mk mn:Int) (mt:ByteArray) (mks:List ByteArray) (mns:List Nd) (hmn:ns[i]? = some (.mk mk mn mt mks mns))
  (HIH:Hid (∀ (cs:List Value) (w':World),NdIs w' B (.mk mk mn mt mks mns) cs → B ≤ w'.heap.size → Calls Tryd.prog 36 #[.agg cs.toArray] w' (TopNd mk mn mt mks mns w'))) :
  Calls Tryd.prog 21 #[.agg (nA 7 num t A ks.length ck A2 ns.length cc),.string x] w (FindTop mk mn mt mks mns w):=by
 have HXS:=Lib.hid hxs
 have HNS:=Lib.hid hns
 have HIX:Hid (∀ w',Below w.heap.size w w' → Calls Tryd.prog 35 #[.slice A ks.length ck,.string x] w' fun e w'' => e = .returned (.int .i64 (idxI ks x)) ∧ w' = w''):=fun w' hb =>
  sIndex_any ks x A ck B w' (hks.keep fun p hp => hb.cell (by omega)) hk1
 have hA:Below w.heap.size w ((w.alloc (.cells (nA 7 num t A ks.length ck A2 ns.length cc) 25)).alloc (.cells Zn 25)):=((Below.refl _ _).alloc (Nat.le_refl _) _).alloc (by simp) _
 clear hks hxs hns
 have e1:idxI ks x = i:=by unfold idxI;rw [hi]
 have hil:=idxK_lt hi
 rw [e1] at HIX
 have hlt:i < ns.length:=(List.getElem?_eq_some_iff.1 hmn).1
 have HMN:=Lib.hid hmn
 clear e1 hi hmn
 obtain ⟨ad,n,v0,v1,v2,v3,v4,rfl,hadb,hni,hnd,e0,e1,e2,e3,e4⟩:=HXS.out.nd HNS.out hlt
 obtain ⟨x0,x1,x2,x3,x4,x5,x6,x7,x8,rfl,rfl,rfl,rfl,rfl⟩:=hnd.form
 have e:n = .mk mk mn mt mks mns:=Option.some.inj (hni.symm.trans HMN.out)
 subst e
 have HC:=Lib.hid (HIH.out (nL x0 x1 x2 x3 x4 x5 x6 x7 x8) _ (hnd.below (hA.mono hB)) (by have:=hA.size;omega))
 have q0:¬ (ad.add (i * 5)).block = w.heap.size:=by rw [block_of_add];omega
 have q1:¬ (ad.add (i * 5)).block = w.heap.size + 1:=by rw [block_of_add];omega
 have q2:(ad.add (i * 5)).block < w.heap.size:=by rw [block_of_add];omega
 clear hni hnd
 go_enter Tryd.func21,Tryd.ntmps21
 go_wp2_with fail
 refine (HIX.out _ hA).mono ?_;rintro e w1 ⟨rfl,hw⟩;obtain rfl:_ = w1:=hw
 go_wp2_with fail
 refine (HC.out:Calls _ _ _ _ _).mono ?_;rintro e w2 ⟨Ak,kc2,Ax,xc2,ys,rfl,hnew,hw2⟩
 have hY:Blk w2 (w.heap.size + 1) 25 Zn:=by
  have h:=Blk.new (w.alloc (.cells #[.int .i64 7,.int .i64 num,.string t,.slice A ks.length ck,.slice (some ad) ns.length cc] 25)) 25 Zn
  have h2:=h.below hw2 (by simp)
  simpa using h2
 have hB2:=hA.trans (hw2.mono (by simp;omega))
 have hz2:w.heap.size + 2 ≤ w2.heap.size:=by have:=hw2.size;simp at this;omega
 obtain ⟨d0,d1,d2,d3,d4⟩:=hY.cells5
 have f0:=hY.frozen 0
 have f1:=hY.frozen 1
 have f2:=hY.frozen 2
 have f3:=hY.frozen 3
 have f4:=hY.frozen 4
 have hfin:Hid (Blk (((((w2.setCell (qa (w.heap.size + 1) 0) (.int .i64 mk)).setCell (qa (w.heap.size + 1) 1) (.int .i64 mn)).setCell (qa (w.heap.size + 1) 2) (.string mt)).setCell (qa (w.heap.size + 1) 3) (.slice Ak mks.length kc2)).setCell (qa (w.heap.size + 1) 4) (.slice Ax mns.length xc2)) (w.heap.size + 1) 25 (nA mk mn mt Ak mks.length kc2 Ax mns.length xc2)):=(((((hY.set_ 0 _).set_ 1 _).set_ 2 _).set_ 3 _).set_ 4 _)
 have hbel:Hid (Below w.heap.size w (((((w2.setCell (qa (w.heap.size + 1) 0) (.int .i64 mk)).setCell (qa (w.heap.size + 1) 1) (.int .i64 mn)).setCell (qa (w.heap.size + 1) 2) (.string mt)).setCell (qa (w.heap.size + 1) 3) (.slice Ak mks.length kc2)).setCell (qa (w.heap.size + 1) 4) (.slice Ax mns.length xc2))):=((((hB2.setCell (p:=(qa (w.heap.size + 1) 0)) (by simp) _).setCell (p:=(qa (w.heap.size + 1) 1)) (by simp) _).setCell (p:=(qa (w.heap.size + 1) 2)) (by simp) _).setCell (p:=(qa (w.heap.size + 1) 3)) (by simp) _).setCell (p:=(qa (w.heap.size + 1) 4)) (by simp) _
 have hnd2:Hid (RI 0 (w.heap.size + 2) (((((w2.setCell (qa (w.heap.size + 1) 0) (.int .i64 mk)).setCell (qa (w.heap.size + 1) 1) (.int .i64 mn)).setCell (qa (w.heap.size + 1) 2) (.string mt)).setCell (qa (w.heap.size + 1) 3) (.slice Ak mks.length kc2)).setCell (qa (w.heap.size + 1) 4) (.slice Ax mns.length xc2)) mks mns Ak kc2 Ax xc2 ys):=
  (((((hnew.lift (hi2:=w.heap.size + 2) (by simp)).box 0 _ (Nat.zero_le _) (show w.heap.size + 1 < w.heap.size + 2 by omega)).box 1 _ (Nat.zero_le _) (show w.heap.size + 1 < w.heap.size + 2 by omega)).box 2 _ (Nat.zero_le _) (show w.heap.size + 1 < w.heap.size + 2 by omega)).box 3 _ (Nat.zero_le _) (show w.heap.size + 1 < w.heap.size + 2 by omega)).box 4 _ (Nat.zero_le _) (show w.heap.size + 1 < w.heap.size + 2 by omega)
 have HFIN:=hfin.out
 clear hnew hw2 hB2 hY
 go_wp2_with fail
 clear hfin d0 d1 d2 d3 d4 f0 f1 f2 f3 f4
 generalize (((((w2.setCell (qa (w.heap.size + 1) 0) (.int .i64 mk)).setCell (qa (w.heap.size + 1) 1) (.int .i64 mn)).setCell (qa (w.heap.size + 1) 2) (.string mt)).setCell (qa (w.heap.size + 1) 3) (.slice Ak mks.length kc2)).setCell (qa (w.heap.size + 1) 4) (.slice Ax mns.length xc2)) = WF at *
 obtain ⟨q0,q1,q2,q3,q4⟩:=HFIN.cells5
 refine bodyPost_ret (v:=.tuple #[.agg (nA mk mn mt Ak mks.length kc2 Ax mns.length xc2),.bool true]) (by simp [results,Tryd.results21,go_sem,q0,q1,q2,q3,q4]) rfl ?_
 exact ⟨_,_,_,_,_,rfl,hnd2.out.lift (by omega),hbel.out⟩
theorem cFind_own (n:Nd) (x:ByteArray) (cs:List Value) (w:World) (B:Nat) (hn:NdIs w B n cs) (hB:B ≤ w.heap.size) (hs:sizeOk n) (mk mn:Int) (mt:ByteArray) (mks:List ByteArray) (mns:List Nd) (hf:findN n x = some (.mk mk mn mt mks mns)) :
  Calls Tryd.prog 21 #[.agg cs.toArray,.string x] w (FindTop mk mn mt mks mns w):=by
 cases n with
 | mk k num t ks ns =>
  unfold NdIs at hn
  obtain ⟨A,ck,A2,cc,xs,rfl,hks,hxs,hns,ik,inn,ht,hkl,hk,hmm⟩:=hn
  unfold sizeOk at hs
  simp only [findN] at hf
  split at hf
  ·rename_i h7
   subst h7
   split at hf
   ·cases hf
   ·rename_i i hi
    refine cFind_top num t ks ns A A2 ck cc xs x w B hks hxs hns hk hmm hB i hi mk mn mt mks mns hf (Lib.hid fun cs w' h2 h3 => ?_)
    have hsm:=sizeOkL_get ns i _ hf hs.2.2.2.2
    unfold sizeOk at hsm
    unfold NdIs at h2
    obtain ⟨A,ck,A2,cc,xs,rfl,hks,hxs,hns,ik,inn,ht,hkl,hk,hmm⟩:=h2
    exact copied_top mk mn mt mks mns A A2 ck cc xs w' B hks hxs hns ht hkl hsm.2.2.2.1.1 hsm.2.2.2.1.2 ik inn h3 (Lib.hid fun i n cs w' h1 h2 h3 => copied_any n.count n (Nat.le_refl _) B cs w' h2 h3 (sizeOkL_get mns i n h1 hsm.2.2.2.2))
  ·cases hf
end Go.Proofs.YthbjehbpanhdoaaDoor
