/- Texts of one seat,one behind the other: Ck2,Ck3,Ck4,Ck5,Ob2,Cq1,Rr2,Rr3,Rr4,Cv1,Cv2,NdOpen,NdOpen2,NdOpen3. No condition. -/
import Derived.Test.YthbjehbpanhdoaaDoorN11
import Derived.Deep.RegionWith
import Derived.Deep.DeepCutAuto
import Derived.Deep.Slices
import Derived.ReadAgain
import Derived.ChangeReads
import Derived.ProofKit
import Derived.OpenShut
namespace Go.Proofs.YthbjehbpanhdoaaDoor
open Go.RowKit Go.PlainAid
set_option linter.unusedVariables false
set_option linter.unusedSimpArgs false
theorem readL_err {l:List UInt8} {c:Int} (h:parseL l = .error c):readL l = .error notJ:=by unfold readL;rw [h]
theorem readL_ok {l:List UInt8} {n:Nd} (h:parseL l = .ok n):readL l = readN (findN n usingS) (findN n callsS):=by unfold readL;rw [h];rfl
theorem NdIs.cells (n:Nd) {w:World} {B:Nat} {c0 c1:Int} {c2:ByteArray} {c3:Option Addr} {c4 c5:Nat} {c6:Option Addr} {c7 c8:Nat} (h:NdIs w B n (nL c0 c1 c2 c3 c4 c5 c6 c7 c8)) :
  c0 = n.kind ∧ c2 = n.text ∧ c7 = n.kids.length ∧ ∃ xs,Reads w B 5 c6 n.kids.length xs ∧ NdsIs w B n.kids xs ∧ n.kids.length ≤ maxLen:=by
 obtain ⟨A,ck,A2,c,xs,h1,_,h3,h4,_,_,_,_,_,h9⟩:=h.open_
 simp only [List.cons.injEq,Value.int.injEq,Value.string.injEq,Value.slice.injEq,and_true,true_and] at h1
 obtain ⟨e1,e2,e3,e4,e5,e6,e7⟩:=h1
 subst e5
 exact ⟨e1,e3,e6,xs,h3,h4,h9⟩
theorem kids15 {w:World} {B:Nat} {n a b c:Nd} {c0 c1:Int} {c2:ByteArray} {c3:Option Addr} {c4 c5:Nat} {c6:Option Addr} {c7 c8:Nat} (h:NdIs w B n (nL c0 c1 c2 c3 c4 c5 c6 c7 c8)) (hk:n.kids = [a,b,c]) :
  ∃ (kb ko:Nat) (a0 a1:Int) (a2:ByteArray) (a3:Option Addr) (a4 a5:Nat) (a6:Option Addr) (a7 a8:Nat),c6 = some (qa kb ko) ∧ c7 = 3 ∧ kb < B ∧ NdIs w B b (nL a0 a1 a2 a3 a4 a5 a6 a7 a8) ∧
   w.cell? (qa kb (ko + 2)) = some (.string a.text) ∧ w.cell? (qa kb (ko + 5)) = some (.int .i64 a0) ∧ w.cell? (qa kb (ko + 6)) = some (.int .i64 a1) ∧ w.cell? (qa kb (ko + 7)) = some (.string a2) ∧ w.cell? (qa kb (ko + 8)) = some (.slice a3 a4 a5) ∧ w.cell? (qa kb (ko + 9)) = some (.slice a6 a7 a8) ∧ w.cell? (qa kb (ko + 12)) = some (.string c.text):=by
 cases n with
 | mk k m t ks ns =>
  have hk2:ns = [a,b,c]:=hk
  subst hk2
  obtain ⟨hl,hq⟩:=kid_cells h
  obtain ⟨kb,ko,e,hb,hcell⟩:=hq (by simp)
  obtain ⟨ca,na,ha⟩:=hcell 0 a rfl
  obtain ⟨cb,nb,hbb⟩:=hcell 1 b rfl
  obtain ⟨cc,nc,hcc⟩:=hcell 2 c rfl
  obtain ⟨A3,k3,B3,l3,x3,eb,_⟩:=nb.open_
  subst eb
  obtain ⟨A1,k1,B1,l1,x1,ea,_⟩:=na.open_
  obtain ⟨A2,k2,B2,l2,x2,ec,_⟩:=nc.open_
  refine ⟨kb,ko,_,_,_,_,_,_,_,_,_,e,hl,hb,nb,ha 2 _ (by rw [ea];rfl),hbb 0 _ rfl,hbb 1 _ rfl,hbb 2 _ rfl,hbb 3 _ rfl,hbb 4 _ rfl,hcc 2 _ (by rw [ec];rfl)⟩
theorem readN_1 {c:Option Nd} {u:Option Nd} (h:u.isSome = false):readN u c = .error notR:=by unfold readN;rw [if_pos h]
theorem readN_2 {c:Option Nd} {u:Option Nd} (h1:u.isSome = true) (h:c.isSome = false):readN u c = .error notR:=by unfold readN;rw [if_neg (by rw [h1];simp),if_pos h]
def readM (U M:Nd):Except ByteArray (List Cl):=if (U.kind != 6) = true then .error notR else if (M.kind != 6) = true then .error notR
 else if U.kids.any oddN = true then .error notR else if M.kids.any noneN = true then .error notR
 else if U.kids.any unkN = true then .error unkC else if 16 < M.kids.length then .error limS
 else .ok (M.kids.map clOf)
theorem readN_3 {c:Option Nd} {u:Option Nd} (h1:u.isSome = true) (h:c.isSome = true):readN u c = readM (u.getD (nd0 0)) (c.getD (nd0 0)):=by unfold readN readM;rw [if_neg (by rw [h1];simp),if_neg (by rw [h];simp)]
def CInv (w4:World) (M:Nd) (i:Nat) (Ao:Option Addr) (co:Nat) (wr:World):Prop:=∃ xs,wr.ownsRow w4.heap.size 31 7 (.slice Ao i co) i xs ∧ ClsIs wr w4.heap.size ((M.kids.take i).map clOf) xs ∧ Below w4.heap.size w4 wr
def KidC (g kb ko y8:Nat) (ta tc:ByteArray) (b0 b1:Int) (b2:ByteArray) (b3:Option Addr) (b4 b5:Nat) (b6:Option Addr) (b7 b8:Nat) (w':World):Prop:=
 w'.cell? (qa g 4) = some (.slice (some (qa kb ko)) 3 y8) ∧ w'.cell? (qa kb (ko + 2)) = some (.string ta) ∧ w'.cell? (qa kb (ko + 5)) = some (.int .i64 b0) ∧ w'.cell? (qa kb (ko + 6)) = some (.int .i64 b1) ∧ w'.cell? (qa kb (ko + 7)) = some (.string b2) ∧ w'.cell? (qa kb (ko + 8)) = some (.slice b3 b4 b5) ∧ w'.cell? (qa kb (ko + 9)) = some (.slice b6 b7 b8) ∧ w'.cell? (qa kb (ko + 12)) = some (.string tc)
theorem KidC.keep {g kb ko y8:Nat} {ta tc:ByteArray} {b0 b1:Int} {b2:ByteArray} {b3:Option Addr} {b4 b5:Nat} {b6:Option Addr} {b7 b8:Nat} {w w':World} {n:Nat} (hk:∀ p:Addr,p.block < n → w'.cell? p = w.cell? p) (h1:kb < n) (h2:g < n) (h:KidC g kb ko y8 ta tc b0 b1 b2 b3 b4 b5 b6 b7 b8 w):KidC g kb ko y8 ta tc b0 b1 b2 b3 b4 b5 b6 b7 b8 w':=by
 obtain ⟨k0,k1,k2,k3,k4,k5,k6,k7⟩:=h
 exact ⟨(hk _ h2).trans k0,(hk _ h1).trans k1,(hk _ h1).trans k2,(hk _ h1).trans k3,(hk _ h1).trans k4,(hk _ h1).trans k5,(hk _ h1).trans k6,(hk _ h1).trans k7⟩
theorem KidC.keep_ {g kb ko y8:Nat} {ta tc:ByteArray} {b0 b1:Int} {b2:ByteArray} {b3:Option Addr} {b4 b5:Nat} {b6:Option Addr} {b7 b8:Nat} {w w':World} (hk:w'.heap[kb]? = w.heap[kb]?) (hg:w'.heap[g]? = w.heap[g]?) (h:KidC g kb ko y8 ta tc b0 b1 b2 b3 b4 b5 b6 b7 b8 w):KidC g kb ko y8 ta tc b0 b1 b2 b3 b4 b5 b6 b7 b8 w':=by
 have h1:∀ j,w'.cell? (qa kb j) = w.cell? (qa kb j):=fun j => World.cell?_of_block hk
 have h2:∀ j,w'.cell? (qa g j) = w.cell? (qa g j):=fun j => World.cell?_of_block hg
 obtain ⟨k0,k1,k2,k3,k4,k5,k6,k7⟩:=h
 exact ⟨(h2 _).trans k0,(h1 _).trans k1,(h1 _).trans k2,(h1 _).trans k3,(h1 _).trans k4,(h1 _).trans k5,(h1 _).trans k6,(h1 _).trans k7⟩
theorem cells_one7 {t1 t2:ByteArray} {c0 c1:Int} {c2:ByteArray} {c3:Option Addr} {c4 c5:Nat} {c6:Option Addr} {c7 c8:Nat}:∀ u ∈ ([.string t1,.int .i64 c0,.int .i64 c1,.string c2,.slice c3 c4 c5,.slice c6 c7 c8,.string t2]:List Value),u.oneCell' = true:=by
 intro u hu
 simp at hu
 rcases hu with rfl | rfl | rfl | rfl | rfl | rfl | rfl <;> rfl
theorem KidC.start {wo:World} {kb ko y8:Nat} {y0 y1:Int} {y2:ByteArray} {y3:Option Addr} {y4 y5:Nat} {ta tc:ByteArray} {b0 b1:Int} {b2:ByteArray} {b3:Option Addr} {b4 b5:Nat} {b6:Option Addr} {b7 b8:Nat} (hkw:kb < wo.heap.size)
  (f0:wo.cell? (qa kb (ko + 2)) = some (.string ta)) (f1:wo.cell? (qa kb (ko + 5)) = some (.int .i64 b0)) (f2:wo.cell? (qa kb (ko + 6)) = some (.int .i64 b1)) (f3:wo.cell? (qa kb (ko + 7)) = some (.string b2)) (f4:wo.cell? (qa kb (ko + 8)) = some (.slice b3 b4 b5)) (f5:wo.cell? (qa kb (ko + 9)) = some (.slice b6 b7 b8)) (f6:wo.cell? (qa kb (ko + 12)) = some (.string tc)) :
  KidC wo.heap.size kb ko y8 ta tc b0 b1 b2 b3 b4 b5 b6 b7 b8 (wo.alloc (.cells #[.int .i64 y0,.int .i64 y1,.string y2,.slice y3 y4 y5,.slice (some (qa kb ko)) 3 y8] 25)):=by
 have hk:∀ p:Addr,p.block < wo.heap.size → (wo.alloc (.cells #[.int .i64 y0,.int .i64 y1,.string y2,.slice y3 y4 y5,.slice (some (qa kb ko)) 3 y8] 25)).cell? p = wo.cell? p:=fun p hp => World.cell?_alloc_lt _ _ _ hp
 exact ⟨(Blk.new wo 25 #[.int .i64 y0,.int .i64 y1,.string y2,.slice y3 y4 y5,.slice (some (qa kb ko)) 3 y8]).cell 4,(hk _ hkw).trans f0,(hk _ hkw).trans f1,(hk _ hkw).trans f2,(hk _ hkw).trans f3,(hk _ hkw).trans f4,(hk _ hkw).trans f5,(hk _ hkw).trans f6⟩

set_option maxRecDepth 100000 in
set_option maxHeartbeats 4000000 in
theorem kRead_bad (s:ByteArray) (A:Option Addr) (c:Nat) (w:World) (ec:Int) (h:BytesAt w A c s) (hr:parseL s.toList = .error ec):Calls Tryd.prog 20 #[.slice A s.size c] w (ReadP (readL s.toList) w):=by
 have HP:=Lib.hid (parse_law s A c w h)
 rw [hr] at HP
 have E:=Lib.hid (readL_err hr)
 have h1:=parse_err hr
 have n0:(ec != 0) = true:=by rw [bne_iff_ne];omega
 clear hr h h1
 generalize readL s.toList = V at *
 go_enter Tryd.func20,Tryd.ntmps20
 go_wp2_with fail
 refine (HP.out:Calls _ _ _ _ _).mono ?_
 rintro e w1 ⟨rfl,hb⟩
 go_wp2_with fail
 refine bodyPost_ret (v:=.tuple #[.slice none 0 0,.string ⟨#[110,111,116,74,83,79,78]⟩]) (by simp [results,Tryd.results20,go_sem]) rfl ?_
 exact ReadP.err E.out (hb.alloc hb.size _)
def KIn (w w4:World) (gu gm:Nat) (U M:Nd) (u0 u1:Int) (u2:ByteArray) (u3:Option Addr) (u4 u5:Nat) (u6:Option Addr) (u8:Nat) (m0 m1:Int) (m2:ByteArray) (m3:Option Addr) (m4 m5:Nat) (m6:Option Addr) (m8:Nat):Prop:=
 Blk w4 gu 25 (nA u0 u1 u2 u3 u4 u5 u6 U.kids.length u8) ∧ Blk w4 gm 25 (nA m0 m1 m2 m3 m4 m5 m6 M.kids.length m8) ∧ Below w.heap.size w w4 ∧
 (∃ xs,Reads w4 w4.heap.size 5 u6 U.kids.length xs ∧ NdsIs w4 w4.heap.size U.kids xs ∧ U.kids.length ≤ maxLen) ∧ (∃ xs,Reads w4 w4.heap.size 5 m6 M.kids.length xs ∧ NdsIs w4 w4.heap.size M.kids xs ∧ M.kids.length ≤ maxLen)
set_option maxRecDepth 100000 in
set_option maxHeartbeats 4000000 in
theorem kRead_ok (s:ByteArray) (A:Option Addr) (c:Nat) (w:World) (n:Nd) (h:BytesAt w A c s) (hr:parseL s.toList = .ok n):Calls Tryd.prog 20 #[.slice A s.size c] w (ReadP (readL s.toList) w):=by
 have HP:=Lib.hid (parse_law s A c w h)
 rw [hr] at HP
 have E:=Lib.hid (readL_ok hr)
 have HSZ:=Lib.hid (parse_size hr)
 clear hr h
 generalize readL s.toList = V at *
 go_enter Tryd.func20,Tryd.ntmps20
 go_wp2_with fail
 refine (HP.out:Calls _ _ _ _ _).mono ?_
 rintro e w1 ⟨x0,x1,x2,x3,x4,x5,x6,x7,x8,rfl,hn,hb⟩
 have HB1:Hid (Below w.heap.size w (w1.alloc (.cells (nA x0 x1 x2 x3 x4 x5 x6 x7 x8) 25))):=hb.alloc hb.size _
 have HBX:Hid (Blk (w1.alloc (.cells (nA x0 x1 x2 x3 x4 x5 x6 x7 x8) 25)) w1.heap.size 25 (nA x0 x1 x2 x3 x4 x5 x6 x7 x8)):=Blk.new _ _ _
 have HN1:Hid (NdIs (w1.alloc (.cells (nA x0 x1 x2 x3 x4 x5 x6 x7 x8) 25)) w1.heap.size n (nL x0 x1 x2 x3 x4 x5 x6 x7 x8)):=hn.below ((Below.refl _ _).alloc (Nat.le_refl _) _)
 have HF1:Hid (Calls Tryd.prog 21 #[.agg (nA x0 x1 x2 x3 x4 x5 x6 x7 x8),.string ⟨#[117,115,105,110,103]⟩] (w1.alloc (.cells (nA x0 x1 x2 x3 x4 x5 x6 x7 x8) 25)) (FindP (findN n usingS) (w1.alloc (.cells (nA x0 x1 x2 x3 x4 x5 x6 x7 x8) 25)))):=
  cFind_any n usingS (nL x0 x1 x2 x3 x4 x5 x6 x7 x8) _ w1.heap.size HN1.out (by simp) HSZ.out
 clear hn hb HP
 go_wp2_with fail
 refine (HF1.out:Calls _ _ _ _ _).mono ?_
 rintro e w2 ⟨u0,u1,u2,u3,u4,u5,u6,u7,u8,rfl,hu,hb2⟩
 have hba:Below w2.heap.size w2 (w2.alloc (.cells (nA u0 u1 u2 u3 u4 u5 u6 u7 u8) 25)):=(Below.refl _ _).alloc (Nat.le_refl _) _
 have hb3:=hb2.trans (hba.mono hb2.size)
 have HB2:Hid (Below w.heap.size w (w2.alloc (.cells (nA u0 u1 u2 u3 u4 u5 u6 u7 u8) 25))):=nextB HB1.out hb3
 have HBX2:Hid (Blk (w2.alloc (.cells (nA u0 u1 u2 u3 u4 u5 u6 u7 u8) 25)) w1.heap.size 25 (nA x0 x1 x2 x3 x4 x5 x6 x7 x8)):=HBX.out.below hb3 HBX.out.lt
 have HBU:Hid (Blk (w2.alloc (.cells (nA u0 u1 u2 u3 u4 u5 u6 u7 u8) 25)) w2.heap.size 25 (nA u0 u1 u2 u3 u4 u5 u6 u7 u8)):=Blk.new _ _ _
 have HN2:Hid (NdIs (w2.alloc (.cells (nA u0 u1 u2 u3 u4 u5 u6 u7 u8) 25)) w1.heap.size n (nL x0 x1 x2 x3 x4 x5 x6 x7 x8)):=HN1.out.below (hb3.mono (by simp))
 have HU2:Hid (NdIs (w2.alloc (.cells (nA u0 u1 u2 u3 u4 u5 u6 u7 u8) 25)) w2.heap.size ((findN n usingS).getD (nd0 0)) (nL u0 u1 u2 u3 u4 u5 u6 u7 u8)):=(NdIn.is (fun b hb => hb.2) _ _ hu).below hba
 have hz12:w1.heap.size < w2.heap.size:=by have:=hb2.size;simp at this;omega
 have HF2:Hid (Calls Tryd.prog 21 #[.agg (nA x0 x1 x2 x3 x4 x5 x6 x7 x8),.string ⟨#[109,101,116,104,111,100,67,97,108,108,115]⟩] (w2.alloc (.cells (nA u0 u1 u2 u3 u4 u5 u6 u7 u8) 25)) (FindP (findN n callsS) (w2.alloc (.cells (nA u0 u1 u2 u3 u4 u5 u6 u7 u8) 25)))):=
  cFind_any n callsS (nL x0 x1 x2 x3 x4 x5 x6 x7 x8) _ w1.heap.size HN2.out (by simp;omega) HSZ.out
 obtain ⟨e0,e1,e2,e3,e4⟩:=HBX2.out.cells5
 clear hu hb2 hba hb3 HF1 HN1 HB1 HBX HN2 HSZ
 go_wp2_with fail
 refine (HF2.out:Calls _ _ _ _ _).mono ?_
 rintro e w3 ⟨m0,m1,m2,m3,m4,m5,m6,m7,m8,rfl,hm,hb2⟩
 have hba:Below w3.heap.size w3 (w3.alloc (.cells (nA m0 m1 m2 m3 m4 m5 m6 m7 m8) 25)):=(Below.refl _ _).alloc (Nat.le_refl _) _
 have hb3:=hb2.trans (hba.mono hb2.size)
 have hB4:=nextB HB2.out hb3
 have hU4:Blk (w3.alloc (.cells (nA m0 m1 m2 m3 m4 m5 m6 m7 m8) 25)) w2.heap.size 25 (nA u0 u1 u2 u3 u4 u5 u6 u7 u8):=HBU.out.below hb3 HBU.out.lt
 have hM4:Blk (w3.alloc (.cells (nA m0 m1 m2 m3 m4 m5 m6 m7 m8) 25)) w3.heap.size 25 (nA m0 m1 m2 m3 m4 m5 m6 m7 m8):=Blk.new _ _ _
 have hNU:NdIs (w3.alloc (.cells (nA m0 m1 m2 m3 m4 m5 m6 m7 m8) 25)) (w3.alloc (.cells (nA m0 m1 m2 m3 m4 m5 m6 m7 m8) 25)).heap.size ((findN n usingS).getD (nd0 0)) (nL u0 u1 u2 u3 u4 u5 u6 u7 u8):=NdIs.more (by have:=hb3.size;simp at this ⊢;omega) _ _ (HU2.out.below (hb3.mono (by simp)))
 have hNM:NdIs (w3.alloc (.cells (nA m0 m1 m2 m3 m4 m5 m6 m7 m8) 25)) (w3.alloc (.cells (nA m0 m1 m2 m3 m4 m5 m6 m7 m8) 25)).heap.size ((findN n callsS).getD (nd0 0)) (nL m0 m1 m2 m3 m4 m5 m6 m7 m8):=NdIs.more (by simp) _ _ ((NdIn.is (fun b hb => hb.2) _ _ hm).below hba)
 obtain ⟨k1, -,k2,ku⟩:=NdIs.cells _ hNU
 obtain ⟨l1, -,l2,km⟩:=NdIs.cells _ hNM
 subst k1 k2 l1 l2
 have KI:Hid (KIn w (w3.alloc (.cells #[.int .i64 ((findN n callsS).getD (nd0 0)).kind,.int .i64 m1,.string m2,.slice m3 m4 m5,.slice m6 ((findN n callsS).getD (nd0 0)).kids.length m8] 25)) w2.heap.size w3.heap.size ((findN n usingS).getD (nd0 0)) ((findN n callsS).getD (nd0 0)) ((findN n usingS).getD (nd0 0)).kind u1 u2 u3 u4 u5 u6 u8 ((findN n callsS).getD (nd0 0)).kind m1 m2 m3 m4 m5 m6 m8):=⟨hU4,hM4,hB4,ku,km⟩
 have hg:w2.heap.size < (w3.alloc (.cells #[.int .i64 ((findN n callsS).getD (nd0 0)).kind,.int .i64 m1,.string m2,.slice m3 m4 m5,.slice m6 ((findN n callsS).getD (nd0 0)).kids.length m8] 25)).heap.size:=hU4.lt
 clear hb2 hba hb3 hU4 hM4 hNU hNM hm ku km hB4 HBX2 HBU HU2 HF2 HB2 e0 e1 e2 e3 e4
 go_upto_region 6 with fail
 generalize w3.alloc (.cells #[.int .i64 ((findN n callsS).getD (nd0 0)).kind,.int .i64 m1,.string m2,.slice m3 m4 m5,.slice m6 ((findN n callsS).getD (nd0 0)).kids.length m8] 25) = w4 at *
 generalize w2.heap.size = gu at *
 generalize w3.heap.size = gm at *
 generalize findN n usingS = fu at *
 generalize findN n callsS = fm at *
 have E1:Hid (fu.isSome = false → V = .error notR):=fun h => E.out.trans (readN_1 h)
 have E2:Hid (fu.isSome = true → fm.isSome = false → V = .error notR):=fun h1 h2 => E.out.trans (readN_2 h1 h2)
 have E3:Hid (fu.isSome = true → fm.isSome = true → V = readM (fu.getD (nd0 0)) (fm.getD (nd0 0))):=fun h1 h2 => E.out.trans (readN_3 h1 h2)
 generalize fu.isSome = ba at *
 generalize fm.isSome = bb at *
 generalize fu.getD (nd0 0) = UU at *
 generalize fm.getD (nd0 0) = MM at *
 clear E
 obtain ⟨hBU,hBM,hB4,hxu,hxm⟩:=KI.out
 have HB4:=Lib.hid hB4
 obtain ⟨yu,hru,hnu,hlu⟩:=hxu
 obtain ⟨ym,hrm,hnm,hlm⟩:=hxm
 obtain ⟨p0,p1,p2,p3,p4⟩:=hBU.cells5
 obtain ⟨q0,q1,q2,q3,q4⟩:=hBM.cells5
 have HLU:=Lib.hid hlu
 have HLM:=Lib.hid hlm
 have HRM:=Lib.hid hrm
 have HNM:=Lib.hid hnm
 have HBM:=Lib.hid hBM
 have HBU:=Lib.hid hBU
 have hlu2:UU.kids.length ≤ 9223372036854775807:=by simp only [maxLen] at hlu;omega
 have hlm2:MM.kids.length ≤ 9223372036854775807:=by simp only [maxLen] at hlm;omega
 have HC1:Hid (∀ w',Below w4.heap.size w4 w' → Calls Tryd.prog 32 #[.slice u6 UU.kids.length u8,.func (.func 29) #[] #[]] w' (BoolBel (UU.kids.any oddN) w')):=fun w' h => sContainsFunc_kRead1 oddN UU.kids u6 u8 yu w' w4.heap.size (hru.keep fun p hp => h.cell hp) (NdsIs.keep (fun p hp => h.cell hp) _ _ hnu) h.size hlu2 (fun n cs w9 h1 h2 => kRead1_any n cs w9 _ h1)
 have HC2:Hid (∀ w',Below w4.heap.size w4 w' → Calls Tryd.prog 32 #[.slice m6 MM.kids.length m8,.func (.func 30) #[] #[]] w' (BoolBel (MM.kids.any noneN) w')):=fun w' h => sContainsFunc_kRead2 noneN MM.kids m6 m8 ym w' w4.heap.size (hrm.keep fun p hp => h.cell hp) (NdsIs.keep (fun p hp => h.cell hp) _ _ hnm) h.size hlm2 (fun n cs w9 h1 h2 => kRead2_any n cs w9 _ h1 h2)
 have HC3:Hid (∀ w',Below w4.heap.size w4 w' → Calls Tryd.prog 32 #[.slice u6 UU.kids.length u8,.func (.func 33) #[] #[]] w' (BoolBel (UU.kids.any unkN) w')):=fun w' h => sContainsFunc_kRead3 unkN UU.kids u6 u8 yu w' w4.heap.size (hru.keep fun p hp => h.cell hp) (NdsIs.keep (fun p hp => h.cell hp) _ _ hnu) h.size hlu2 (fun n cs w9 h1 h2 => kRead3_any n cs w9 _ h1)
 have hgu:gu < w4.heap.size:=hBU.lt
 have hgm:gm < w4.heap.size:=hBM.lt
 clear hBU hBM hB4 hru hnu hlu hrm hnm hlm KI hlu2 hlm2
 have hW:=Below.refl w4.heap.size w4
 cases ba with
 | false =>
  have EE:=Lib.hid (E1.out rfl)
  clear E1 E2 E3 HC1 HC2 HC3
  go_wp2_with fail
  refine bodyPost_ret (v:=.tuple #[.slice none 0 0,.string ⟨#[110,111,116,82,101,113,117,101,115,116]⟩]) (by simp [results,Tryd.results20,go_sem]) rfl ?_
  exact ReadP.err EE.out (HB4.out.trans (hW.mono HB4.out.size))
 | true =>
  clear E1
  cases bb with
  | false =>
   have EE:=Lib.hid (E2.out rfl rfl)
   clear E2 E3 HC1 HC2 HC3
   go_wp2_with fail
   refine bodyPost_ret (v:=.tuple #[.slice none 0 0,.string ⟨#[110,111,116,82,101,113,117,101,115,116]⟩]) (by simp [results,Tryd.results20,go_sem]) rfl ?_
   exact ReadP.err EE.out (HB4.out.trans (hW.mono HB4.out.size))
  | true =>
   have EM:=Lib.hid (E3.out rfl rfl)
   clear E2 E3
   unfold readM at EM
   cases t1:(UU.kind != 6) with
   | true =>
    have EE:Hid (V = .error notR):=by show _ = _;rw [EM.out,if_pos t1]
    clear EM HC1 HC2 HC3
    go_wp2_with fail
    refine bodyPost_ret (v:=.tuple #[.slice none 0 0,.string ⟨#[110,111,116,82,101,113,117,101,115,116]⟩]) (by simp [results,Tryd.results20,go_sem]) rfl ?_
    exact ReadP.err EE.out (HB4.out.trans (hW.mono HB4.out.size))
   | false =>
    have EM2:Hid (V = if (MM.kind != 6) = true then .error notR else if UU.kids.any oddN = true then .error notR else if MM.kids.any noneN = true then .error notR else if UU.kids.any unkN = true then .error unkC else if 16 < MM.kids.length then .error limS else .ok (MM.kids.map clOf)):=by show _ = _;rw [EM.out,if_neg (by rw [t1];simp)]
    clear EM
    cases t2:(MM.kind != 6) with
    | true =>
     have EE:Hid (V = .error notR):=by show _ = _;rw [EM2.out,if_pos t2]
     clear EM2 HC1 HC2 HC3
     go_wp2_with fail
     refine bodyPost_ret (v:=.tuple #[.slice none 0 0,.string ⟨#[110,111,116,82,101,113,117,101,115,116]⟩]) (by simp [results,Tryd.results20,go_sem]) rfl ?_
     exact ReadP.err EE.out (HB4.out.trans (hW.mono HB4.out.size))
    | false =>
     have EM3:Hid (V = if UU.kids.any oddN = true then .error notR else if MM.kids.any noneN = true then .error notR else if UU.kids.any unkN = true then .error unkC else if 16 < MM.kids.length then .error limS else .ok (MM.kids.map clOf)):=by show _ = _;rw [EM2.out,if_neg (by rw [t2];simp)]
     clear EM2
     have HNO:Hid (MM.kids.any noneN = false → ∀ (j:Nat) (x:Nd),MM.kids[j]? = some x → noneN x = false):=fun h j x hx => any_get h hx
     generalize UU.kids.any oddN = z1 at *
     generalize UU.kids.any unkN = z3 at *
     obtain ⟨z2,hz2⟩:∃ z2,z2 = MM.kids.any noneN:=⟨_,rfl⟩
     rw [← hz2] at HC2 EM3 HNO
     clear hz2
     go_wp2_with fail
     refine (HC1.out _ hW).mono ?_;rintro e w5 ⟨rfl,hw5⟩
     replace hW:=nextB hW hw5;clear hw5
     obtain ⟨wk,rfl⟩:∃ wk:World,wk = w5:=⟨_,rfl⟩
     clear p0 p1 p2 p3 p4 q0 q1 q2 q3 q4
     obtain ⟨p0,p1,p2,p3,p4⟩:=(HBU.out.below hW HBU.out.lt).cells5
     obtain ⟨q0,q1,q2,q3,q4⟩:=(HBM.out.below hW HBM.out.lt).cells5
     cases z1 with
     | true =>
      have EE:Hid (V = .error notR):=by show _ = _;rw [EM3.out,if_pos rfl]
      clear EM3 HC1 HC2 HC3 HNO
      go_wp2_with fail
      refine bodyPost_ret (v:=.tuple #[.slice none 0 0,.string ⟨#[110,111,116,82,101,113,117,101,115,116]⟩]) (by simp [results,Tryd.results20,go_sem]) rfl ?_
      exact ReadP.err EE.out (HB4.out.trans (hW.mono HB4.out.size))
     | false =>
      go_wp2_with fail
      refine (HC2.out _ hW).mono ?_;rintro e w5 ⟨rfl,hw5⟩
      replace hW:=nextB hW hw5;clear hw5
      obtain ⟨wk,rfl⟩:∃ wk:World,wk = w5:=⟨_,rfl⟩
      clear p0 p1 p2 p3 p4 q0 q1 q2 q3 q4
      obtain ⟨p0,p1,p2,p3,p4⟩:=(HBU.out.below hW HBU.out.lt).cells5
      obtain ⟨q0,q1,q2,q3,q4⟩:=(HBM.out.below hW HBM.out.lt).cells5
      cases z2 with
      | true =>
       have EE:Hid (V = .error notR):=by show _ = _;rw [EM3.out,if_neg (by simp),if_pos rfl]
       clear EM3 HC1 HC2 HC3 HNO
       go_wp2_with fail
       refine bodyPost_ret (v:=.tuple #[.slice none 0 0,.string ⟨#[110,111,116,82,101,113,117,101,115,116]⟩]) (by simp [results,Tryd.results20,go_sem]) rfl ?_
       exact ReadP.err EE.out (HB4.out.trans (hW.mono HB4.out.size))
      | false =>
       have HNO2:=Lib.hid (HNO.out rfl)
       go_wp2_with fail
       refine (HC3.out _ hW).mono ?_;rintro e w5 ⟨rfl,hw5⟩
       replace hW:=nextB hW hw5;clear hw5
       obtain ⟨wk,rfl⟩:∃ wk:World,wk = w5:=⟨_,rfl⟩
       clear p0 p1 p2 p3 p4 q0 q1 q2 q3 q4
       obtain ⟨p0,p1,p2,p3,p4⟩:=(HBU.out.below hW HBU.out.lt).cells5
       obtain ⟨q0,q1,q2,q3,q4⟩:=(HBM.out.below hW HBM.out.lt).cells5
       cases z3 with
       | true =>
        have EE:Hid (V = .error unkC):=by show _ = _;rw [EM3.out,if_neg (by simp),if_neg (by simp),if_pos rfl]
        clear EM3 HC1 HC2 HC3 HNO
        go_wp2_with fail
        refine bodyPost_ret (v:=.tuple #[.slice none 0 0,.string ⟨#[117,110,107,110,111,119,110,67,97,112,97,98,105,108,105,116,121]⟩]) (by simp [results,Tryd.results20,go_sem]) rfl ?_
        exact ReadP.err EE.out (HB4.out.trans (hW.mono HB4.out.size))
       | false =>
        have EM4:Hid (V = if 16 < MM.kids.length then .error limS else .ok (MM.kids.map clOf)):=by show _ = _;rw [EM3.out,if_neg (by simp),if_neg (by simp),if_neg (by simp)]
        clear EM3 HC1 HC2 HC3 HNO t1 t2
        by_cases h16:16 < MM.kids.length
        ·have EE:Hid (V = .error limS):=by show _ = _;rw [EM4.out,if_pos h16]
         have h16i:decide ((16:Int) < (MM.kids.length:Int)) = true:=decide_eq_true (by omega)
         clear EM4 h16
         go_wp2_with fail
         refine bodyPost_ret (v:=.tuple #[.slice none 0 0,.string ⟨#[108,105,109,105,116]⟩]) (by simp [results,Tryd.results20,go_sem]) rfl ?_
         exact ReadP.err EE.out (HB4.out.trans (hW.mono HB4.out.size))
        have EE:Hid (V = .ok (MM.kids.map clOf)):=by show _ = _;rw [EM4.out,if_neg h16]
        have h16i:decide ((16:Int) < (MM.kids.length:Int)) = false:=decide_eq_false (by omega)
        clear EM4
        have HK16:=Lib.hid h16
        clear p0 p1 p2 p3 p4 HBU h16
        have HI0:Hid (CInv w4 MM 0 none 0 wk):=⟨[],World.ownsRow_nil _ _ _ _,rfl,hW⟩
        clear hW
        go_wp2_with fail
        go_loopw [12,63] (fun t12 t63 wr => ∃ (i:Nat) (Ao:Option Addr) (co:Nat),i ≤ MM.kids.length ∧ t63 = .int .i64 i ∧ t12 = .slice Ao i co ∧ Hid (CInv w4 MM i Ao co wr)) (fun _ t63 _ => MM.kids.length - (intOf t63).toNat)
        case atStart => exact ⟨0,none,0,by omega,rfl,rfl,HI0⟩
        case round =>
         clear HI0 q0 q1 q2 q3 q4
         obtain ⟨i,Ao,co,hi,rfl,rfl,hI⟩:=hrel
         obtain ⟨wo,rfl⟩:∃ wo:World,wo = wr:=⟨_,rfl⟩
         by_cases hlt:i < MM.kids.length
         ·obtain ⟨xs,hown,hcls,hW⟩:=hI.out
          have hsz:=hW.size
          have hkeep:∀ p:Addr,p.block < w4.heap.size → wo.cell? p = w4.cell? p:=fun p hp => hW.cell hp
          obtain ⟨ad,nn,v0,v1,v2,v3,v4,hm6,hadb,hni,hnd,e0,e1,e2,e3,e4⟩:=(HRM.out.keep hkeep).nd (NdsIs.keep hkeep _ _ HNM.out) hlt
          subst hm6
          obtain ⟨y0,y1,y2,y3,y4,y5,y6,y7,y8,rfl,rfl,rfl,rfl,rfl⟩:=hnd.form
          obtain ⟨na,nb,nc,hk3, -, -, -, -⟩:=kid3 (HNO2.out i nn hni)
          obtain ⟨kb,ko,b0,b1,b2,b3,b4,b5,b6,b7,b8,rfl,rfl,hkb,hnb,f0,f1,f2,f3,f4,f5,f6⟩:=kids15 hnd hk3
          have HKB:=Lib.hid hkb
          have HCL:Hid (clOf nn = ⟨na.text,nb,nc.text⟩):=by show _ = _;unfold clOf;rw [hk3]
          have HTK:=Lib.hid (map_take hni)
          have HOW:Hid (wo.ownsRow w4.heap.size 31 7 (.slice Ao i co) i xs):=hown
          have HOWL:Hid (∀ g,(Value.slice Ao i co).ownBlock = some g → w4.heap.size ≤ g ∧ g < wo.heap.size):=fun g hg => own_lt hown hg
          have HCS:=Lib.hid hcls
          have HNB:=Lib.hid hnb
          have HWW:=Lib.hid hW
          have i0:(0:Int) ≤ (i:Int):=by omega
          have i1:(i:Int) < (MM.kids.length:Int):=by omega
          have hi5:i ≤ 16:=by have:=HK16.out;omega
          have hbw:ad.block < wo.heap.size:=by omega
          have hkw:kb < wo.heap.size:=by omega
          have S0:Hid (KidC wo.heap.size kb ko y8 na.text nc.text b0 b1 b2 b3 b4 b5 b6 b7 b8 (wo.alloc (.cells #[.int .i64 y0,.int .i64 y1,.string y2,.slice y3 y4 y5,.slice (some (qa kb ko)) 3 y8] 25))):=KidC.start hkw f0 f1 f2 f3 f4 f5 f6
          have hz:(wo.alloc (.cells #[.int .i64 y0,.int .i64 y1,.string y2,.slice y3 y4 y5,.slice (some (qa kb ko)) 3 y8] 25)).heap.size = wo.heap.size + 1:=by simp
          have HZ:=Lib.hid hz
          have HZ2:Hid (((wo.alloc (.cells #[.int .i64 y0,.int .i64 y1,.string y2,.slice y3 y4 y5,.slice (some (qa kb ko)) 3 y8] 25)).alloc (.cells #[.string na.text,.int .i64 b0,.int .i64 b1,.string b2,.slice b3 b4 b5,.slice b6 b7 b8,.string nc.text] 31)).drew.heap.size = wo.heap.size + 2):=by show ((wo.alloc (.cells #[.int .i64 y0,.int .i64 y1,.string y2,.slice y3 y4 y5,.slice (some (qa kb ko)) 3 y8] 25)).alloc (.cells #[.string na.text,.int .i64 b0,.int .i64 b1,.string b2,.slice b3 b4 b5,.slice b6 b7 b8,.string nc.text] 31)).heap.size = _;rw [World.size_alloc,hz]
          have HS0:Hid (KidC wo.heap.size kb ko y8 na.text nc.text b0 b1 b2 b3 b4 b5 b6 b7 b8 (wo.alloc (.cells #[.int .i64 y0,.int .i64 y1,.string y2,.slice y3 y4 y5,.slice (some (qa kb ko)) 3 y8] 25)).drew):=S0.out
          have HS1:Hid (KidC wo.heap.size kb ko y8 na.text nc.text b0 b1 b2 b3 b4 b5 b6 b7 b8 ((wo.alloc (.cells #[.int .i64 y0,.int .i64 y1,.string y2,.slice y3 y4 y5,.slice (some (qa kb ko)) 3 y8] 25)).alloc (.cells #[.string na.text,.int .i64 b0,.int .i64 b1,.string b2,.slice b3 b4 b5,.slice b6 b7 b8,.string nc.text] 31)).drew):=KidC.keep (fun p hp => World.cell?_alloc_lt _ _ _ hp) (by rw [HZ.out];omega) (by rw [HZ.out];omega) S0.out
          have HS1b:=HS1
          clear hnd hni hk3 hown hcls hnb hW hI hkeep hkb hz
          go_wp2_with fail
          unfold KidC at HS0 HS1
          go_region_held3 (fun w' => w'.cell? (qa wo.heap.size 4) = some (.slice (some (qa kb ko)) 3 y8) ∧ w'.cell? (qa kb (ko + 2)) = some (.string na.text) ∧ w'.cell? (qa kb (ko + 5)) = some (.int .i64 b0) ∧ w'.cell? (qa kb (ko + 6)) = some (.int .i64 b1) ∧ w'.cell? (qa kb (ko + 7)) = some (.string b2) ∧ w'.cell? (qa kb (ko + 8)) = some (.slice b3 b4 b5) ∧ w'.cell? (qa kb (ko + 9)) = some (.slice b6 b7 b8) ∧ w'.cell? (qa kb (ko + 12)) = some (.string nc.text)) (first | with_reducible exact HS0.out | with_reducible exact HS1.out | with_reducible exact HS2.out) (first
           | (refine step_pushCl rfl _ _ rfl w4.heap.size (.slice Ao i co) i xs (by rfl) (show (((wo.alloc (.cells #[.int .i64 y0,.int .i64 y1,.string y2,.slice y3 y4 y5,.slice (some (qa kb ko)) 3 y8] 25)).alloc (.cells #[.string na.text,.int .i64 b0,.int .i64 b1,.string b2,.slice b3 b4 b5,.slice b6 b7 b8,.string nc.text] 31)).drew).ownsRow w4.heap.size 31 7 (.slice Ao i co) i xs from World.ownsRow.alloc (World.ownsRow.alloc HOW.out _) _) (wo.heap.size + 2) (some (qa (wo.heap.size + 1) 0)) 1 1 [.string na.text,.int .i64 b0,.int .i64 b1,.string b2,.slice b3 b4 b5,.slice b6 b7 b8,.string nc.text] (by have:=reads7 (wo.alloc (.cells #[.int .i64 y0,.int .i64 y1,.string y2,.slice y3 y4 y5,.slice (some (qa kb ko)) 3 y8] 25)) (.string na.text) (.int .i64 b0) (.int .i64 b1) (.string b2) (.slice b3 b4 b5) (.slice b6 b7 b8) (.string nc.text);rw [HZ.out] at this;exact this) cells_one7 (by rfl) (by omega) (by rw [HZ2.out];have:=HWW.out.size;omega) ?_;intro v9 w9 p1 p2;obtain ⟨A9,c9,rfl⟩:=own_form p1;have P1:=Lib.hid p1;have P2:=Lib.hid p2;have HS2:=Lib.hid (KidC.keep_ (p2.block kb (by rw [HZ2.out];omega) (fun e => by have:=(HOWL.out _ e.symm).1;have:=HKB.out;omega)) (p2.block wo.heap.size (by rw [HZ2.out];omega) (fun e => by have:=(HOWL.out _ e.symm).2;omega)) HS1b.out);unfold KidC at HS2;clear p1 p2))
          go_wp2_with fail
          go_roundw
          case rel =>
           refine ⟨i + 1,A9,c9,by omega,by go_num,rfl,xs ++ [.string na.text,.int .i64 b0,.int .i64 b1,.string b2,.slice b3 b4 b5,.slice b6 b7 b8,.string nc.text],P1.out,?_,?_⟩
           ·rw [HTK.out,HCL.out]
            have hk9:∀ p:Addr,p.block < w4.heap.size → w9.cell? p = wo.cell? p:=fun p hp => (World.cell?_of_block (P2.out.block p.block (by rw [HZ2.out];have:=HWW.out.size;omega) (fun e => by have:=(HOWL.out _ e.symm).1;omega))).trans ((World.cell?_alloc_lt _ _ _ (by simp;have:=HWW.out.size;omega)).trans (World.cell?_alloc_lt _ _ _ (by have:=HWW.out.size;omega)))
            exact ClsIs.snoc (NdIs.keep hk9 _ _ HNB.out) _ _ (ClsIs.keep hk9 _ _ HCS.out)
           ·refine HWW.out.trans ?_
            have hb0:Below w4.heap.size wo (((wo.alloc (.cells #[.int .i64 y0,.int .i64 y1,.string y2,.slice y3 y4 y5,.slice (some (qa kb ko)) 3 y8] 25)).alloc (.cells #[.string na.text,.int .i64 b0,.int .i64 b1,.string b2,.slice b3 b4 b5,.slice b6 b7 b8,.string nc.text] 31)).drew):=(((Below.refl _ _).alloc HWW.out.size _).alloc (by simp;have:=HWW.out.size;omega) _).drew
            exact hb0.grown P2.out (by rw [HZ2.out];have:=HWW.out.size;omega) (fun g hg => (HOWL.out _ hg).1)
          case measure => simp [intOf];omega
         ·obtain rfl:i = MM.kids.length:=by omega
          obtain ⟨xs,hown,hcls,hW⟩:=hI.out
          have HOW:=Lib.hid hown
          have HWW:=Lib.hid hW
          have HCS:Hid (ClsIs wo wo.heap.size (MM.kids.map clOf) xs):=by
           rw [List.take_length] at hcls
           exact ClsIs.more hW.size _ _ hcls
          have i1:¬ (MM.kids.length:Int) < (MM.kids.length:Int):=by omega
          clear hown hcls hW hI
          go_wp2_with fail
          refine bodyPost_ret (v:=.tuple #[.slice Ao MM.kids.length co,.string ⟨#[]⟩]) (by simp [results,Tryd.results20,go_sem]) rfl ?_
          have e1:(okL V).length = MM.kids.length:=by rw [EE.out];show (MM.kids.map clOf).length = _;rw [List.length_map]
          have e2:errS V = ⟨#[]⟩:=by rw [EE.out];rfl
          have e3:okL V = MM.kids.map clOf:=by rw [EE.out];rfl
          refine ⟨Ao,co,xs,by rw [e1,e2],by rw [e1];exact own_reads HOW.out,by rw [e3];exact HCS.out,HB4.out.trans (HWW.out.mono HB4.out.size)⟩
theorem decL_asc {c:UInt8} (r:List UInt8) (h:c.toNat < 128):decL (c :: r) = some ((c.toNat:Int),1):=by
 have hp:putN (c.toNat:Int) = [(c.toNat:Int)]:=by
  unfold putN
  rw [if_neg (by omega),if_pos (by omega)]
 have hb:putB (c.toNat:Int) = [c]:=by
  rw [putB_of hp]
  simp
 have:=decW_put sizeN (fun c => .inl rfl) (c.toNat:Int) r (by rw [hb];simp)
 rw [hb] at this
 exact this
theorem textT_asc {c:UInt8} (r acc:List UInt8) (h0:32 ≤ c.toNat) (h:c.toNat < 128) (h34:c ≠ 34) (h92:c ≠ 92):textT (c :: r) acc = textT r (acc ++ [c]):=by
 rw [textT_cons,if_neg (by rw [UInt8.lt_iff_toNat_lt];have e:((32:UInt8).toNat) = 32:=rfl;omega),if_neg h34,if_neg h92,decL_asc r h]
 rfl
theorem textT_end (r acc:List UInt8):textT (34 :: r) acc = some (acc,r):=by
 rw [textT_cons,if_neg (by decide),if_pos rfl]
theorem valL_123 (d:Nat) (r:List UInt8) (hd:d < 24):valL d (123 :: r) = if (blanksL r).head? = some 125 then .ok (.mk 7 0 ⟨#[]⟩ [] [],(blanksL r).tail) else objL d (blanksL r) [] []:=by
 rw [valL_obj d _ rfl (by omega)];rfl
theorem valL_91 (d:Nat) (r:List UInt8) (hd:d < 24):valL d (91 :: r) = if (blanksL r).head? = some 93 then .ok (.mk 6 0 ⟨#[]⟩ [] [],(blanksL r).tail) else arrL d (blanksL r) []:=by
 rw [valL_arr d _ rfl (by omega)];rfl
theorem valL_34 (d:Nat) (r:List UInt8):valL d (34 :: r) = match textT r [] with
  | none => .error 3
  | some (t,r) => .ok (.mk 5 0 ⟨t.toArray⟩ [] [],r):=by
 rw [valL_str d _ rfl]
 have e:textL (34 :: r) = textT r []:=by unfold textL;simp
 rw [e]
 cases textT r [] <;> rfl
theorem valL_49 (d:Nat) (r:List UInt8) (h:digH r = false) (h2:pointB r = false):valL d (49 :: r) = .ok (.mk 4 1 ⟨#[]⟩ [] [],r):=by
 rw [valL_num d _ 49 rfl (.inr (by decide))]
 have hn:numL (49 :: r) = some (1,r):=by
  unfold numL
  rw [if_neg (by simp)]
  obtain ⟨e1,e2⟩:=takeW_none h
  have h49:digB 49 = true:=by decide
  unfold numTail
  rw [List.takeWhile_cons,List.dropWhile_cons,h49,if_pos rfl,if_pos rfl,e1,e2,h2]
  simp [valD]
 rw [hn]
theorem textL_34 (r:List UInt8):textL (34 :: r) = textT r []:=by unfold textL;simp
theorem blank_cons (c:UInt8) (r:List UInt8) (h:blankB c = false):blanksL (c :: r) = c :: r:=by unfold blanksL;rw [List.dropWhile_cons,h];rfl
theorem blank_nil:blanksL [] = []:=rfl
end Go.Proofs.YthbjehbpanhdoaaDoor
namespace Go.Proofs.YthbjehbpanhdoaaDoor
open Go.RowKit Go.PlainAid
set_option linter.unusedVariables false
set_option linter.unusedSimpArgs false
set_option maxRecDepth 10000
theorem reqA_p:parseL [123,34,117,115,105,110,103,34,58,91,93,44,34,109,101,116,104,111,100,67,97,108,108,115,34,58,91,93,125] = .ok (.mk 7 0 ⟨#[]⟩ [⟨#[117,115,105,110,103]⟩,⟨#[109,101,116,104,111,100,67,97,108,108,115]⟩] [(.mk 6 0 ⟨#[]⟩ [] []),(.mk 6 0 ⟨#[]⟩ [] [])]):=by simp [parseL,valL_49 0 [] rfl rfl,valL_123,valL_91,valL_34,valL_49,digH,digB,pointB,arrL_eq,objL_eq,blank_cons,blank_nil,blankB,textL_34,textT_asc,textT_end,lit_toList]
theorem reqA_r:readL [123,34,117,115,105,110,103,34,58,91,93,44,34,109,101,116,104,111,100,67,97,108,108,115,34,58,91,93,125] = .ok []:=by
 rw [readL_ok reqA_p]
 simp [readN,findN,idxK,List.findIdx?_cons,usingS,callsS,Nd.kind,Nd.kids,Nd.text,oddN,noneN,unkN,kindsK,eqK,clOf,lit_toList]
theorem req1_p:parseL [123,125] = .ok (.mk 7 0 ⟨#[]⟩ [] []):=by simp [parseL,valL_49 0 [] rfl rfl,valL_123,valL_91,valL_34,valL_49,digH,digB,pointB,arrL_eq,objL_eq,blank_cons,blank_nil,blankB,textL_34,textT_asc,textT_end,lit_toList]
theorem req1_r:readL [123,125] = .error notR:=by
 rw [readL_ok req1_p]
 simp [readN,findN,idxK,List.findIdx?_cons,usingS,callsS,Nd.kind,Nd.kids,Nd.text,oddN,noneN,unkN,kindsK,eqK,clOf,lit_toList]
def reqs:List ByteArray:=[⟨#[91,93]⟩,⟨#[123,125]⟩,⟨#[123,34,117,115,105,110,103,34,58,91,93,125]⟩,⟨#[123,34,109,101,116,104,111,100,67,97,108,108,115,34,58,91,93,125]⟩,⟨#[123,34,117,115,105,110,103,34,58,123,125,44,34,109,101,116,104,111,100,67,97,108,108,115,34,58,91,93,125]⟩,⟨#[123,34,117,115,105,110,103,34,58,91,49,93,44,34,109,101,116,104,111,100,67,97,108,108,115,34,58,91,93,125]⟩,⟨#[123,34,117,115,105,110,103,34,58,91,93,44,34,109,101,116,104,111,100,67,97,108,108,115,34,58,123,125,125]⟩,⟨#[123,34,117,115,105,110,103,34,58,91,93,44,34,109,101,116,104,111,100,67,97,108,108,115,34,58,91,123,125,93,125]⟩,⟨#[123,34,117,115,105,110,103,34,58,91,93,44,34,109,101,116,104,111,100,67,97,108,108,115,34,58,91,91,34,97,34,44,123,125,93,93,125]⟩,⟨#[123,34,117,115,105,110,103,34,58,91,93,44,34,109,101,116,104,111,100,67,97,108,108,115,34,58,91,91,34,97,34,44,91,93,44,34,98,34,93,93,125]⟩,⟨#[123,34,117,115,105,110,103,34,58,91,93,44,34,109,101,116,104,111,100,67,97,108,108,115,34,58,91,91,49,44,123,125,44,34,98,34,93,93,125]⟩,⟨#[49]⟩]
end Go.Proofs.YthbjehbpanhdoaaDoor
namespace Go.Proofs.YthbjehbpanhdoaaDoor
open Go.RowKit Go.PlainAid
set_option linter.unusedVariables false
set_option linter.unusedSimpArgs false
theorem kRead_any (s:ByteArray) (A:Option Addr) (c:Nat) (w:World) (h:BytesAt w A c s):Calls Tryd.prog 20 #[.slice A s.size c] w (ReadP (readL s.toList) w):=by
 cases hr:parseL s.toList with
 | error ec => exact kRead_bad s A c w ec h hr
 | ok n => exact kRead_ok s A c w n h hr
theorem ReadP.bad {s:ByteArray} {r:Except ByteArray (List Cl)} {w:World} {e:Ending} {w':World} (hr:r = .error s) (h:ReadP r w e w'):∃ (A:Option Addr) (c:Nat),e = .returned (.tuple #[.slice A 0 c,.string s]) ∧ Below w.heap.size w w':=by
 subst hr
 obtain ⟨A,c,xs,he,_,_,hb⟩:=h
 exact ⟨A,c,he,hb⟩
theorem ReadP.none_ {r:Except ByteArray (List Cl)} {w:World} {e:Ending} {w':World} (hr:r = .ok []) (h:ReadP r w e w'):∃ (A:Option Addr) (c:Nat),e = .returned (.tuple #[.slice A 0 c,.string ⟨#[]⟩]) ∧ Below w.heap.size w w':=by
 subst hr
 obtain ⟨A,c,xs,he,_,_,hb⟩:=h
 exact ⟨A,c,he,hb⟩
set_option maxRecDepth 100000 in
set_option maxHeartbeats 2000000 in
theorem awake26_any (w:World):Calls Tryd.prog 8 #[] w (BoolBel true w):=by
 have HP:Hid (Calls Tryd.prog 20 #[.slice (some (qa w.heap.size 0)) 29 29] (w.alloc (.cells #[.int .u8 123,.int .u8 34,.int .u8 117,.int .u8 115,.int .u8 105,.int .u8 110,.int .u8 103,.int .u8 34,.int .u8 58,.int .u8 91,.int .u8 93,.int .u8 44,.int .u8 34,.int .u8 109,.int .u8 101,.int .u8 116,.int .u8 104,.int .u8 111,.int .u8 100,.int .u8 67,.int .u8 97,.int .u8 108,.int .u8 108,.int .u8 115,.int .u8 34,.int .u8 58,.int .u8 91,.int .u8 93,.int .u8 125] 5 (29,30))) (fun e w' => ∃ (A:Option Addr) (c:Nat),e = .returned (.tuple #[.slice A 0 c,.string ⟨#[]⟩]) ∧ Below (w.alloc (.cells #[.int .u8 123,.int .u8 34,.int .u8 117,.int .u8 115,.int .u8 105,.int .u8 110,.int .u8 103,.int .u8 34,.int .u8 58,.int .u8 91,.int .u8 93,.int .u8 44,.int .u8 34,.int .u8 109,.int .u8 101,.int .u8 116,.int .u8 104,.int .u8 111,.int .u8 100,.int .u8 67,.int .u8 97,.int .u8 108,.int .u8 108,.int .u8 115,.int .u8 34,.int .u8 58,.int .u8 91,.int .u8 93,.int .u8 125] 5 (29,30))).heap.size (w.alloc (.cells #[.int .u8 123,.int .u8 34,.int .u8 117,.int .u8 115,.int .u8 105,.int .u8 110,.int .u8 103,.int .u8 34,.int .u8 58,.int .u8 91,.int .u8 93,.int .u8 44,.int .u8 34,.int .u8 109,.int .u8 101,.int .u8 116,.int .u8 104,.int .u8 111,.int .u8 100,.int .u8 67,.int .u8 97,.int .u8 108,.int .u8 108,.int .u8 115,.int .u8 34,.int .u8 58,.int .u8 91,.int .u8 93,.int .u8 125] 5 (29,30))) w')):=by
  have hby:BytesAt (w.alloc (.cells #[.int .u8 123,.int .u8 34,.int .u8 117,.int .u8 115,.int .u8 105,.int .u8 110,.int .u8 103,.int .u8 34,.int .u8 58,.int .u8 91,.int .u8 93,.int .u8 44,.int .u8 34,.int .u8 109,.int .u8 101,.int .u8 116,.int .u8 104,.int .u8 111,.int .u8 100,.int .u8 67,.int .u8 97,.int .u8 108,.int .u8 108,.int .u8 115,.int .u8 34,.int .u8 58,.int .u8 91,.int .u8 93,.int .u8 125] 5 (29,30))) (some (qa w.heap.size 0)) 29 ⟨#[123,34,117,115,105,110,103,34,58,91,93,44,34,109,101,116,104,111,100,67,97,108,108,115,34,58,91,93,125]⟩:=by
   refine BytesAt.of_cells (fun _ => by simp) (fun i hi => ?_)
   have hi:i < 29:=hi
   rw [World.cell?_alloc_mark]
   have:i = 0 ∨ i = 1 ∨ i = 2 ∨ i = 3 ∨ i = 4 ∨ i = 5 ∨ i = 6 ∨ i = 7 ∨ i = 8 ∨ i = 9 ∨ i = 10 ∨ i = 11 ∨ i = 12 ∨ i = 13 ∨ i = 14 ∨ i = 15 ∨ i = 16 ∨ i = 17 ∨ i = 18 ∨ i = 19 ∨ i = 20 ∨ i = 21 ∨ i = 22 ∨ i = 23 ∨ i = 24 ∨ i = 25 ∨ i = 26 ∨ i = 27 ∨ i = 28:=by omega
   rcases this with rfl | rfl | rfl | rfl | rfl | rfl | rfl | rfl | rfl | rfl | rfl | rfl | rfl | rfl | rfl | rfl | rfl | rfl | rfl | rfl | rfl | rfl | rfl | rfl | rfl | rfl | rfl | rfl | rfl <;> rfl
  exact (kRead_any ⟨#[123,34,117,115,105,110,103,34,58,91,93,44,34,109,101,116,104,111,100,67,97,108,108,115,34,58,91,93,125]⟩ _ _ _ hby).mono (fun e w' h => ReadP.none_ (by rw [lit_toList];exact reqA_r) h)
 have HP2:Hid (∀ w1:World,Calls Tryd.prog 20 #[.slice (some (qa w1.heap.size 0)) 2 2] (w1.alloc (.cells #[.int .u8 123,.int .u8 125] 5 (2,3))) (fun e w' => ∃ (A:Option Addr) (c:Nat),e = .returned (.tuple #[.slice A 0 c,.string notR]) ∧ Below (w1.alloc (.cells #[.int .u8 123,.int .u8 125] 5 (2,3))).heap.size (w1.alloc (.cells #[.int .u8 123,.int .u8 125] 5 (2,3))) w')):=fun w1 => by
  have hby:BytesAt (w1.alloc (.cells #[.int .u8 123,.int .u8 125] 5 (2,3))) (some (qa w1.heap.size 0)) 2 ⟨#[123,125]⟩:=by
   refine BytesAt.of_cells (fun _ => by simp) (fun i hi => ?_)
   have hi:i < 2:=hi
   rw [World.cell?_alloc_mark]
   have:i = 0 ∨ i = 1:=by omega
   rcases this with rfl | rfl <;> rfl
  exact (kRead_any ⟨#[123,125]⟩ _ _ _ hby).mono (fun e w' h => ReadP.bad (by rw [lit_toList];exact req1_r) h)
 unfold notR at HP2
 have HA:Hid (Below w.heap.size w (w.alloc (.cells #[.int .u8 123,.int .u8 34,.int .u8 117,.int .u8 115,.int .u8 105,.int .u8 110,.int .u8 103,.int .u8 34,.int .u8 58,.int .u8 91,.int .u8 93,.int .u8 44,.int .u8 34,.int .u8 109,.int .u8 101,.int .u8 116,.int .u8 104,.int .u8 111,.int .u8 100,.int .u8 67,.int .u8 97,.int .u8 108,.int .u8 108,.int .u8 115,.int .u8 34,.int .u8 58,.int .u8 91,.int .u8 93,.int .u8 125] 5 (29,30)))):=(Below.refl _ _).alloc (Nat.le_refl _) _
 have kc:=fun (w:World) (C:Array Value) (n c:Nat) => Lib.run_convert_bytes_const (P:=Tryd.prog) w 52 5 C n c Tryd.underlying52 Tryd.underlying5
 go_enter Tryd.func8,Tryd.ntmps8
 go_wp2_with fail
 refine (HP.out:Calls _ _ _ _ _).mono ?_
 rintro e w1 ⟨A1,c1,rfl,hb⟩
 have HB:=Lib.hid (nextB HA.out hb)
 clear hb
 go_wp2_with fail
 refine (HP2.out _:Calls _ _ _ _ _).mono ?_
 rintro e w2 ⟨A2,c2,rfl,hb⟩
 have HB2:=Lib.hid (nextB (HB.out.alloc HB.out.size _) hb)
 clear hb
 go_wp2_with fail
 go_ret
 exact ⟨rfl,HB2.out⟩
def ObjNew (n:Nd) (w:World) (e:Ending) (w':World):Prop:=∃ (c0 c1:Int) (c2:ByteArray) (c3:Option Addr) (c4 c5:Nat) (c6:Option Addr) (c7 c8:Nat),
 e = .returned (.agg (nA c0 c1 c2 c3 c4 c5 c6 c7 c8)) ∧ NdIs w' w'.heap.size n (nL c0 c1 c2 c3 c4 c5 c6 c7 c8) ∧ Below w.heap.size w w' ∧ (∀ ad,c3 = some ad → w.heap.size ≤ ad.block) ∧ (∀ ad,c6 = some ad → w.heap.size ≤ ad.block)
def DoneQ (m:Int) (w:World) (D:Nat):Prop:=∃ xs,Reads w w.heap.size 7 (some (qa D 0)) (doneP m).length xs ∧ ClsIs w w.heap.size (doneP m) xs
theorem lit_of {s:ByteArray} {l:List UInt8} (h:s.toList = l):s = ⟨l.toArray⟩:=by
 rw [ByteArray.toList_eq] at h
 apply ByteArray.ext
 rw [← h]
theorem grownB {W w w':World} {r:Option Nat} (h:Below W.heap.size W w) (hg:w.grownBy w' r) (hr:∀ g,r = some g → W.heap.size ≤ g):Below W.heap.size W w':=h.grown hg h.size hr
def ReOk (n:Nd) (w:World) (e:Ending) (w':World):Prop:=∃ (c0 c1:Int) (c2:ByteArray) (c3:Option Addr) (c4 c5:Nat) (c6:Option Addr) (c7 c8:Nat),
 e = .returned (.tuple #[.agg (nA c0 c1 c2 c3 c4 c5 c6 c7 c8),.string ⟨#[]⟩]) ∧ NdIs w' w'.heap.size n (nL c0 c1 c2 c3 c4 c5 c6 c7 c8) ∧ Below w.heap.size w w'
theorem rows_at {w:World} {B n:Nat} {K:Option Addr} {ks:List ByteArray} (h:Reads w B 1 K n (ks.map Value.string)) (hn:0 < n):∃ b o,K = some (qa b o) ∧ b < B ∧ ∀ (i:Nat) (s:ByteArray),ks[i]? = some s → w.cell? (qa b (o + i)) = some (.string s):=by
 obtain ⟨ad,e,hb,hc⟩:=h.2 hn
 have hl:0 < (ks.map Value.string).length:=by rw [h.1];omega
 have hsp:=spot_none (hc 0 _ (List.getElem?_eq_getElem hl))
 obtain ⟨b,o,sp⟩:=ad
 have hs0:sp = none:=by
  unfold Addr.add at hsp
  split at hsp <;> simp_all
 subst hs0
 refine ⟨b,o,e,hb,fun i s hs => ?_⟩
 have h2:=hc i (.string s) (by rw [List.getElem?_map,hs];rfl)
 rw [show ((qa b o):Addr).add i = (qa b (o + i)) by unfold Addr.add;split <;> simp_all] at h2
 exact h2
structure RJ (w wr:World) (AX:Array Value) (ks:List ByteArray) (ns:List Nd) (K:Option Addr) (kc:Nat) (A:Option Addr) (c:Nat) (ys:List Value):Prop where
 ri:RI w.heap.size (w.heap.size + 3) wr ks ns K kc A c ys
 box:Blk wr w.heap.size 25 AX
 res:Blk wr (w.heap.size + 1) 25 Zn
 node:Blk wr (w.heap.size + 1 + 1) 25 #[.int .i64 7,.int .i64 0,.string ⟨#[]⟩,.slice K ks.length kc,.slice A ns.length c]
 low:Below w.heap.size w wr
 size:w.heap.size + 3 ≤ wr.heap.size
section
variable {w wr w':World} {AX:Array Value} {ks:List ByteArray} {ns:List Nd} {K:Option Addr} {kc:Nat} {A:Option Addr} {c:Nat} {ys:List Value}
theorem RJ.below (h:RJ w wr AX ks ns K kc A c ys) (hb:Below wr.heap.size wr w'):RJ w w' AX ks ns K kc A c ys:=
 ⟨h.ri.below hb,h.box.below hb h.box.lt,h.res.below hb h.res.lt,h.node.below hb h.node.lt,nextB h.low hb,Nat.le_trans h.size hb.size⟩
theorem RJ.start (w:World) (AX:Array Value):RJ w (((w.alloc (.cells AX 25)).alloc (.cells Zn 25)).alloc (.cells #[.int .i64 7,.int .i64 0,.string ⟨#[]⟩,.slice none 0 0,.slice none 0 0] 25)) AX [] [] none 0 none 0 []:=by
 refine ⟨RI.start _ _ _,((Blk.new w _ _).alloc _).alloc _,?_,?_,bel_alloc (bel_alloc (bel_alloc (Below.refl _ _))),by simp⟩
 ·have h:=(Blk.new (w.alloc (.cells AX 25)) 25 Zn).alloc (.cells #[.int .i64 7,.int .i64 0,.string ⟨#[]⟩,.slice none 0 0,.slice none 0 0] 25)
  rw [alloc_sz_] at h;exact h
 ·have h:=Blk.new ((w.alloc (.cells AX 25)).alloc (.cells Zn 25)) 25 #[.int .i64 7,.int .i64 0,.string ⟨#[]⟩,.slice none 0 0,.slice none 0 0]
  rw [alloc_sz_,alloc_sz_] at h;exact h
theorem RJ.keyOwn (h:RJ w wr AX ks ns K kc A c ys) {g:Nat} (e:(Value.slice K ks.length kc).ownBlock = some g):w.heap.size + 3 ≤ g:=(own_lt h.ri.keys e).1
theorem RJ.kidOwn (h:RJ w wr AX ks ns K kc A c ys) {g:Nat} (e:(Value.slice A ns.length c).ownBlock = some g):w.heap.size + 3 ≤ g:=(own_lt h.ri.own e).1
theorem RJ.key (h:RJ w wr AX ks ns K kc A c ys) {t:ByteArray} {K2:Option Addr} {kc2:Nat} (hown:w'.ownsRow (w.heap.size + 3) 9 1 (.slice K2 (ks.length + 1) kc2) (ks.length + 1) (ks.map Value.string ++ [.string t]))
  (p2:wr.grownBy w' (Value.slice K ks.length kc).ownBlock) (p3:(Value.slice K2 (ks.length + 1) kc2).ownBlock = (Value.slice K ks.length kc).ownBlock ∨ ∃ g1,(Value.slice K2 (ks.length + 1) kc2).ownBlock = some g1 ∧ wr.heap.size ≤ g1) :
  RJ w (w'.setCell (qa (w.heap.size + 1 + 1) 3) (.slice K2 (ks.length + 1) kc2)) AX (ks ++ [t]) ns K2 kc2 A c ys:=by
 have hne:∀ b:Nat,b < w.heap.size + 3 → some b ≠ (Value.slice K ks.length kc).ownBlock:=fun b hb e => by have:=h.keyOwn e.symm;omega
 refine ⟨(h.ri.key hown p2 p3).box 3 _ (by omega) (by omega),?_,?_,?_,?_,?_⟩
 ·exact (h.box.grown p2 (hne _ (by omega))).far (p:=(qa (w.heap.size + 1 + 1) 3)) (by show w.heap.size ≠ w.heap.size + 1 + 1;omega) _
 ·exact (h.res.grown p2 (hne _ (by omega))).far (p:=(qa (w.heap.size + 1 + 1) 3)) (by show w.heap.size + 1 ≠ w.heap.size + 1 + 1;omega) _
 ·have:=(h.node.grown p2 (hne _ (by omega))).set_ 3 (.slice K2 (ks.length + 1) kc2)
  simpa using this
 ·exact bel_set (grownB h.low p2 (fun g hg => by have:=h.keyOwn hg;omega)) (by omega)
 ·rw [World.size_setCell];exact Nat.le_trans h.size p2.size
theorem RJ.kid (h:RJ w wr AX ks ns K kc A c ys) {n:Nd} {cs:List Value} {S:Nat → Prop} (hn:NdIn wr S n cs) (hS:∀ b,S b → SZ w.heap.size (w.heap.size + 3) wr (.slice K ks.length kc) (.slice A ns.length c) b) {A2:Option Addr} {c2:Nat}
  (hown:w'.ownsRow (w.heap.size + 3) 25 5 (.slice A2 (ns.length + 1) c2) (ns.length + 1) (ys ++ cs))
  (p2:wr.grownBy w' (Value.slice A ns.length c).ownBlock) (p3:(Value.slice A2 (ns.length + 1) c2).ownBlock = (Value.slice A ns.length c).ownBlock ∨ ∃ g1,(Value.slice A2 (ns.length + 1) c2).ownBlock = some g1 ∧ wr.heap.size ≤ g1) :
  RJ w (w'.setCell (qa (w.heap.size + 1 + 1) 4) (.slice A2 (ns.length + 1) c2)) AX ks (ns ++ [n]) K kc A2 c2 (ys ++ cs):=by
 have hne:∀ b:Nat,b < w.heap.size + 3 → some b ≠ (Value.slice A ns.length c).ownBlock:=fun b hb e => by have:=h.kidOwn e.symm;omega
 refine ⟨(h.ri.kid hn hS hown p2 p3).box 4 _ (by omega) (by omega),?_,?_,?_,?_,?_⟩
 ·exact (h.box.grown p2 (hne _ (by omega))).far (p:=(qa (w.heap.size + 1 + 1) 4)) (by show w.heap.size ≠ w.heap.size + 1 + 1;omega) _
 ·exact (h.res.grown p2 (hne _ (by omega))).far (p:=(qa (w.heap.size + 1 + 1) 4)) (by show w.heap.size + 1 ≠ w.heap.size + 1 + 1;omega) _
 ·have:=(h.node.grown p2 (hne _ (by omega))).set_ 4 (.slice A2 (ns.length + 1) c2)
  simpa using this
 ·exact bel_set (grownB h.low p2 (fun g hg => by have:=h.kidOwn hg;omega)) (by omega)
 ·rw [World.size_setCell];exact Nat.le_trans h.size p2.size
theorem RJ.sz (h:RJ w wr AX ks ns K kc A c ys) {b B:Nat} (hB:B ≤ w.heap.size) {wq:World} (hq:RJ w wq AX ks ns K kc A c ys) (hb:b < B ∨ Since wq wr b):SZ w.heap.size (w.heap.size + 3) wr (.slice K ks.length kc) (.slice A ns.length c) b:=by
 have h1:=h.size
 rcases hb with hb | hb
 ·exact ⟨.inl (by omega),by omega,fun e => by have:=h.keyOwn e;omega,fun e => by have:=h.kidOwn e;omega⟩
 ·have h2:=hb.1
  have h3:=hq.size
  exact ⟨.inr (by omega),hb.2,fun e => by have:=(own_lt hq.ri.keys e).2;omega,fun e => by have:=(own_lt hq.ri.own e).2;omega⟩
theorem RJ.keyIn (h:RJ w wr AX ks ns K kc A c ys) {t:ByteArray} {K2:Option Addr} {kc2:Nat} {wq:World} (hq:RJ w wq AX ks ns K kc A c ys) {B:Nat} (hB:B ≤ w.heap.size)
  (hown:w'.ownsRow (w.heap.size + 3) 9 1 (.slice K2 (ks.length + 1) kc2) (ks.length + 1) (ks.map Value.string ++ [.string t]))
  (p2:wr.grownBy w' (Value.slice K ks.length kc).ownBlock) (p3:(Value.slice K2 (ks.length + 1) kc2).ownBlock = (Value.slice K ks.length kc).ownBlock ∨ ∃ g1,(Value.slice K2 (ks.length + 1) kc2).ownBlock = some g1 ∧ wr.heap.size ≤ g1)
  {x:Nd} {cs:List Value} {v:Value} (hx:NdIn wr (fun b => b < B ∨ Since wq wr b) x cs) :
  NdIn (w'.setCell (qa (w.heap.size + 1 + 1) 3) v) (fun b => b < B ∨ Since wq wr b) x cs ∧ ∀ b,(b < B ∨ Since wq wr b) → SZ w.heap.size (w.heap.size + 3) (w'.setCell (qa (w.heap.size + 1 + 1) 3) v) (.slice K2 (ks.length + 1) kc2) (.slice A ns.length c) b:=by
 have h1:=h.size
 have h2:=hq.size
 have s3:=p2.size
 have hko:∀ b,(b < B ∨ Since wq wr b) → some b ≠ (Value.slice K ks.length kc).ownBlock:=fun b hb e => by
  have e1:=(own_lt hq.ri.keys e.symm)
  rcases hb with hb | hb
  ·omega
  ·have:=hb.1;omega
 have hlt:∀ b,(b < B ∨ Since wq wr b) → b < wr.heap.size ∧ b ≠ w.heap.size + 1 + 1 ∧ (b < w.heap.size ∨ w.heap.size + 3 ≤ b):=fun b hb => by
  rcases hb with hb | hb
  ·exact ⟨by omega,by omega,.inl (by omega)⟩
  ·have k1:=hb.1;have k2:=hb.2;exact ⟨k2,by omega,.inr (by omega)⟩
 refine ⟨NdIn.keep (fun p hp => World.cell?_of_block ((Below.heap_setCell _ _ _ _ (hlt _ hp).2.1).trans (p2.block p.block (hlt _ hp).1 (hko _ hp)))) (fun _ hb => hb) _ _ hx,fun b hb => ⟨(hlt b hb).2.2,?_,?_,?_⟩⟩
 ·rw [World.size_setCell];have:=(hlt b hb).1;omega
 ·rcases p3 with e | ⟨g,e,hg⟩
  ·rw [e];exact fun e2 => hko b hb e2.symm
  ·rw [e];intro e2;injection e2 with e2;have:=(hlt b hb).1;omega
 ·intro e
  have e1:=(own_lt hq.ri.own e)
  rcases hb with hb | hb
  ·omega
  ·have:=hb.1;omega
end
theorem hash_pos {s:ByteArray} (h:hashB s = true):0 < s.size:=by
 rcases Nat.eq_zero_or_pos s.size with h0 | h0
 ·rw [hash_no (.inl h0)] at h;cases h
 ·exact h0
theorem tl_ext {s:ByteArray} (h:hashB s = true):s.extract 1 s.size = tlS s:=by
 have e1:(s.extract 1 s.size).toList = (tlS s).toList:=by
  rw [ext_toList]
  unfold tlS Lib.trimPrefix
  unfold hashB at h
  rw [if_pos h,ByteArray.toList_eq,ByteArray.toList_eq]
  rfl
 exact (lit_of e1).trans (lit_of rfl).symm
set_option maxRecDepth 100000 in
set_option maxHeartbeats 4000000 in
theorem rres_walk (num:Int) (t:ByteArray) (ks:List ByteArray) (ns:List Nd) (K:Option Addr) (kc:Nat) (A:Option Addr) (c:Nat) (w:World) (n:Nat) (hkl:ks.length = n) (hnl:ns.length = n) (hn2:n ≤ 1000000) (D:Option Addr) (ln dc:Nat) (R:Nd → Option Nd) (B:Nat) (ys:List Value)
  (hB:B ≤ w.heap.size) (hKR:Reads w B 1 K n (ks.map Value.string)) (hNR:Reads w B 5 A n ys) (hNS:NdsIs w B ns ys)
  (HFD:Hid (∀ (x:ByteArray) (w':World),Below w.heap.size w w' → Calls Tryd.prog 16 #[.agg (nA 7 num t K n kc A n c),.string x] w' fun e w'' => ∃ (h0 h1:Int) (h2:ByteArray) (h3:Option Addr) (h4 h5:Nat) (h6:Option Addr) (h7 h8:Nat),e = .returned (.tuple #[.agg (nA h0 h1 h2 h3 h4 h5 h6 h7 h8),.bool (idxK ks x).isSome]) ∧ Below w'.heap.size w' w''))
  (HRF:Hid (∀ (i:Nat) (m:Nd) (cs:List Value) (w':World),ns[i]? = some m → NdIs w' B m cs → Below w.heap.size w w' → Calls Tryd.prog 26 #[.agg cs.toArray,.slice D ln dc] w' (ReferP (R m) (· < B) w')))
  (HKS:Hid (∀ s ∈ ks,s.size ≤ 1000000000)) :
  Calls Tryd.prog 10 #[.agg (nA 7 num t K n kc A n c),.slice D ln dc] w (ResP (resAcc R ks ks ns [] []) w):=by
 have HBW:=Lib.hid hB;have HKR:=Lib.hid hKR;have HNR:=Lib.hid hNR;have HNS:=Lib.hid hNS;have HKL:=Lib.hid hkl;have HNL:=Lib.hid hnl
 have I0:=Lib.hid (RJ.start w (nA 7 num t K n kc A n c))
 clear hB hKR hNR hNS hkl hnl
 go_enter Tryd.func10,Tryd.ntmps10
 go_wp2_with fail
 generalize ((w.alloc (.cells (nA 7 num t K n kc A n c) 25)).alloc (.cells Zn 25)).alloc (.cells #[.int .i64 7,.int .i64 0,.string ⟨#[]⟩,.slice none 0 0,.slice none 0 0] 25) = W at *
 go_loopw [7] (fun t7 wr => ∃ (i:Nat) (kq:List ByteArray) (nq:List Nd) (K2:Option Addr) (kc2:Nat) (A2:Option Addr) (c2:Nat) (yq:List Value),i ≤ n ∧ kq.length = i ∧ nq.length = i ∧ t7 = .int .i64 i ∧ Hid (resAcc R ks ks ns [] [] = resAcc R ks (ks.drop i) (ns.drop i) kq nq) ∧ Hid (∀ s ∈ kq,s.size ≤ maxLen) ∧ Hid (RJ w wr (nA 7 num t K n kc A n c) kq nq K2 kc2 A2 c2 yq)) (fun t7 _ => n - (intOf t7).toNat)
 case atStart => exact ⟨0,[],[],none,0,none,0,[],Nat.zero_le _,rfl,rfl,rfl,rfl,(fun s hs => by cases hs),I0⟩
 case round =>
  clear I0
  obtain ⟨i,kq,nq,K2,kc2,A2,c2,yq,hi,hkq,hnq,rfl,hE,hQ,hR⟩:=hrel
  obtain ⟨wo,rfl⟩:∃ wo:World,wo = wr:=⟨_,rfl⟩
  have HKQ:=Lib.hid hkq;have HNQ:=Lib.hid hnq
  clear hkq hnq
  obtain ⟨y0,y1,y2,y3,y4⟩:=hR.out.box.cells5
  by_cases hlt:i < n
  ·obtain ⟨kb,ko,hK,hkb,hks⟩:=rows_at HKR.out (show 0 < n by omega)
   obtain ⟨s,hs⟩:∃ s,ks[i]? = some s:=⟨_,List.getElem?_eq_getElem (by have:=HKL.out;omega)⟩
   have HKP:Hid (∀ (w':World),Below w.heap.size w w' → ∀ p:Addr,p.block < B → w'.cell? p = w.cell? p):=fun w' h p hp => h.cell (Nat.lt_of_lt_of_le hp HBW.out)
   have hcell:wo.cell? (qa kb (ko + i)) = some (.string s):=(HKP.out _ hR.out.low _ hkb).trans (hks i s hs)
   have hNR2:Reads w B 5 A ns.length ys:=by rw [HNL.out];exact HNR.out
   obtain ⟨ad,m,v0,v1,v2,v3,v4,hA,hadb,hm,hnd,e0,e1,e2,e3,e4⟩:=Reads.nd hNR2 HNS.out (show i < ns.length by have:=HNL.out;omega)
   obtain ⟨x0,x1,x2,x3,x4,x5,x6,x7,x8,rfl,rfl,rfl,rfl,rfl⟩:=hnd.form
   subst hK
   subst hA
   have HKD:Hid (ks.drop i = s :: ks.drop (i + 1)):=by
    show ks.drop i = _
    rw [List.drop_eq_getElem_cons (by have:=HKL.out;omega),(List.getElem?_eq_some_iff.1 hs).2]
   have HND:Hid (ns.drop i = m :: ns.drop (i + 1)):=by
    show ns.drop i = _
    rw [List.drop_eq_getElem_cons (by have:=HNL.out;omega),(List.getElem?_eq_some_iff.1 hm).2]
   have HEK:Hid (∀ w',Below w.heap.size w w' → N5 (ad.add (i * 5)) (.int .i64 x0) (.int .i64 x1) (.string x2) (.slice x3 x4 x5) (.slice x6 x7 x8) w'):=fun w' h =>
    have hb5:(ad.add (i * 5)).block < B:=by rw [block_of_add];exact hadb
    ⟨(HKP.out w' h _ (by exact hb5)).trans e0,(HKP.out w' h _ (by exact hb5)).trans e1,(HKP.out w' h _ (by exact hb5)).trans e2,(HKP.out w' h _ (by exact hb5)).trans e3,(HKP.out w' h _ (by exact hb5)).trans e4⟩
   have HNM:Hid (∀ w',Below w.heap.size w w' → NdIs w' B m (nL x0 x1 x2 x3 x4 x5 x6 x7 x8)):=fun w' h => NdIs.keep (HKP.out _ h) _ _ hnd
   have HSM:=Lib.hid (show s ∈ ks from List.mem_of_getElem? hs)
   have HSI:=Lib.hid hs
   have HMI:=Lib.hid hm
   have HAD:Hid (ad.block < w.heap.size):=Nat.lt_of_lt_of_le hadb HBW.out
   have i0:(0:Int) ≤ (i:Int):=by omega
   have i1:(i:Int) < (n:Int):=by omega
   have hss:s.size ≤ 1000000000:=HKS.out s HSM.out
   clear hks hs hNR2 hm hnd e0 e1 e2 e3 e4 HNR HNS HKR HKP hkb hadb
   go_upto_region 8 with fail
   go_cut [43] (fun t43 wx => t43 = .bool (!hashB s) ∧ wx = wo)
   case first =>
    have hb:=get_bt s
    by_cases h0:s = ⟨#[]⟩
    ·have hh:hashB s = false:=hash_no (.inl (by rw [h0];rfl))
     have HH:=Lib.hid hh
     subst h0
     clear hb hss hh
     go_wp2_with fail
     go_meet
     exact ⟨by rw [HH.out];rfl,rfl⟩
    ·have h02:¬ s.toList = []:=fun e => h0 (lit_of e)
     have h03:s.toList.isEmpty = false:=by rw [List.isEmpty_eq_false_iff];exact h02
     have hsz:0 < s.size:=by
      rcases Nat.eq_zero_or_pos s.size with h | h
      ·exfalso;apply h0
       apply ByteArray.ext
       exact Array.eq_empty_of_size_eq_zero h
      ·exact h
     by_cases h35:bt s 0 = 35
     ·have HH:=Lib.hid (hash_yes hsz h35)
      have h35b:(bt s 0 != 35) = false:=by rw [h35];rfl
      go_wp2_with fail
      go_meet
      exact ⟨by rw [HH.out];rfl,rfl⟩
     ·have HH:=Lib.hid (hash_no (s:=s) (.inr h35))
      have h35b:(bt s 0 != 35) = true:=by rw [bne_iff_ne];exact h35
      go_wp2_with fail
      go_meet
      exact ⟨by rw [HH.out];rfl,rfl⟩
   case rest =>
    obtain ⟨rfl,rfl⟩:=hcut
    obtain ⟨wo,rfl⟩:∃ w9:World,w9 = wc:=⟨_,rfl⟩
    cases hh:hashB s with
    | false =>
     have HE2:Hid (resAcc R ks ks ns [] [] = resAcc R ks (ks.drop (i + 1)) (ns.drop (i + 1)) (kq ++ [s]) (nq ++ [m])):=by
      show _ = _
      rw [hE.out,HKD.out,HND.out,resAcc_no hh]
     have HQ2:Hid (∀ u ∈ kq ++ [s],u.size ≤ maxLen):=fun u hu => by
      rw [List.mem_append] at hu
      rcases hu with hu | hu
      ·exact hQ.out u hu
      ·simp at hu;subst hu;simp only [maxLen];omega
     clear hh y0 y1 y2 y3 y4 hcell hE hQ HKD HND
     obtain ⟨p0,p1,p2,p3,p4⟩:=hR.out.node.cells5
     have HKO:=Lib.hid hR.out.ri.keys
     have HSZ:=Lib.hid (show w.heap.size + 3 ≤ wo.heap.size from hR.out.size)
     go_upto_region 10 with (at_builtin;refine wpList_pushStr wo rfl (.tmp 45) (.tmp 47) rfl (w.heap.size + 3) (.slice K2 kq.length kc2) kq.length (kq.map Value.string) (by rfl) HKO.out s (by rfl) (by have:=HKQ.out;omega) HSZ.out ?_;intro v5 w5 q1 q2 q3;obtain ⟨K3,kc3,rfl⟩:=own_form q1;have HR0:=Lib.hid (hR.out.below (bel_alloc (o:=.cells #[.string s] 9) (Below.refl wo.heap.size wo)));have HR1:=Lib.hid (HR0.out.key q1 q2 q3);have n5:=HR0.out.node.grown q2 (fun e => by have:=HR0.out.keyOwn e.symm;omega);have l5c:=n5.cell 3;have l5f:=n5.frozen 3;clear n5 q1 q2 q3)
     clear p0 p1 p2 p3 p4 l5c l5f HKO HSZ HR0 hR
     generalize w5.setCell (qa (w.heap.size + 1 + 1) 3) (.slice K3 (kq.length + 1) kc3) = wJ at *
     have hlow:=HR1.out.low
     obtain ⟨e0,e1,e2,e3,e4⟩:=HEK.out wJ hlow
     have y4:=HR1.out.box.cell 4
     have n4:=HR1.out.node.cell 4
     have HLB:Hid (RJ w (wJ.alloc (.cells (nA x0 x1 x2 x3 x4 x5 x6 x7 x8) 25)).drew #[.int .i64 7,.int .i64 num,.string t,.slice (some (qa kb ko)) n kc,.slice (some ad) n c] (kq ++ [s]) nq K3 kc3 A2 c2 yq):=HR1.out.below (bel_alloc (Below.refl _ _)).drew
     have la4:(wJ.alloc (.cells (nA x0 x1 x2 x3 x4 x5 x6 x7 x8) 25)).cell? (qa (w.heap.size + 1 + 1) 4) = some (.slice A2 nq.length c2):=HLB.out.node.cell 4
     have HNI:Hid (NdIn (wJ.alloc (.cells (nA x0 x1 x2 x3 x4 x5 x6 x7 x8) 25)).drew (· < B) m (nL x0 x1 x2 x3 x4 x5 x6 x7 x8)):=(HNM.out _ HLB.out.low).in_
     have HSS:Hid (∀ b,b < B → SZ w.heap.size (w.heap.size + 3) (wJ.alloc (.cells (nA x0 x1 x2 x3 x4 x5 x6 x7 x8) 25)).drew (.slice K3 (kq ++ [s]).length kc3) (.slice A2 nq.length c2) b):=fun b hb => HLB.out.sz HBW.out HLB.out (.inl hb)
     have HOW:=Lib.hid HLB.out.ri.own
     have HSZ2:=Lib.hid (show w.heap.size + 3 ≤ (wJ.alloc (.cells (nA x0 x1 x2 x3 x4 x5 x6 x7 x8) 25)).drew.heap.size from HLB.out.size)
     have hadw:ad.block < wJ.heap.size:=Nat.lt_of_lt_of_le HAD.out hlow.size
     clear hlow
     go_region_law (first
      | (refine step_pushNd rfl _ _ rfl (w.heap.size + 3) (.slice A2 nq.length c2) nq.length yq (by rfl) HOW.out (wJ.heap.size + 1) (some (qa wJ.heap.size 0)) 1 (nL x0 x1 x2 x3 x4 x5 x6 x7 x8) (by rfl) (node_reads wJ _ rfl) cells_one (by have:=HNQ.out;omega) HSZ2.out ?_;intro v5 w5 q1 q2 q3;obtain ⟨g,cp,rfl,hg1,hg2⟩:=World.ownsRow.form q1 (by omega);have LP:=Lib.hid (HLB.out.kid HNI.out HSS.out q1 q2 q3);have n5:=HLB.out.node.grown q2 (fun e => by have:=HLB.out.kidOwn e.symm;omega);have l5c:=n5.cell 4;have l5f:=n5.frozen 4;clear n5 q1 q2 q3)
      | (go_simp;fail))
     all_goals
      clear n4 y4 la4 e0 e1 e2 e3 e4 HLB HNI HSS HOW HSZ2
      go_wp2_with fail
      go_roundw
      case rel => exact ⟨i + 1,kq ++ [s],nq ++ [m],K3,kc3,_,_,_,by omega,by rw [List.length_append,HKQ.out];rfl,by rw [List.length_append,HNQ.out];rfl,by go_num,HE2,HQ2,LP⟩
      case measure => simp [intOf];omega
    | true =>
     have hsz:0 < s.size:=hash_pos hh
     have hs1:¬ (s.size:Int) < 1:=by omega
     have hss2:s.size ≤ 9223372036854775807:=by omega
     have HTL:=Lib.hid (tl_ext hh)
     have HFX:Hid (∀ w':World,Below w.heap.size w w' → Calls Tryd.prog 16 #[.agg #[.int .i64 7,.int .i64 num,.string t,.slice (some (qa kb ko)) n kc,.slice (some ad) n c],.string (s.extract 1 s.size)] w' fun e w'' => ∃ (h0 h1:Int) (h2:ByteArray) (h3:Option Addr) (h4 h5:Nat) (h6:Option Addr) (h7 h8:Nat),e = .returned (.tuple #[.agg (nA h0 h1 h2 h3 h4 h5 h6 h7 h8),.bool (idxK ks (tlS s)).isSome]) ∧ Below w'.heap.size w' w''):=fun w' h => by
      rw [HTL.out];exact HFD.out _ w' h
     have HLOW:=Lib.hid hR.out.low
     have HB:Hid (Below wo.heap.size wo wo):=Below.refl _ _
     have HN:Hid (N5 (qa w.heap.size 0) (.int .i64 7) (.int .i64 num) (.string t) (.slice (some (qa kb ko)) n kc) (.slice (some ad) n c) wo):=hR.out.box.cells5
     have T0:=HN
     unfold N5 at T0
     have HHH:=Lib.hid hh
     clear hh hcell y0 y1 y2 y3 y4
     go_wp2_with fail
     go_cut [10] (fun t10 wx => t10 = .bool (idxK ks (tlS s)).isSome ∧ Hid (Below wo.heap.size wo wx))
     case first =>
      go_region_held3 (fun w' => w'.cell? (qa w.heap.size 0) = some (.int .i64 7) ∧ w'.cell? (qa w.heap.size 1) = some (.int .i64 num) ∧ w'.cell? (qa w.heap.size 2) = some (.string t) ∧ w'.cell? (qa w.heap.size 3) = some (.slice (some (qa kb ko)) n kc) ∧ w'.cell? (qa w.heap.size 4) = some (.slice (some ad) n c)) (first | with_reducible exact T0.out | exact n5_below HN.out (by (repeat (first | with_reducible exact HB.out | with_reducible refine bel_alloc ?_ | with_reducible refine bel_drew ?_ | with_reducible refine bel_set ?_ HZ.out.lo)))) (first
       | (go_at_call 16;refine (HFX.out _ (nextB HLOW.out (by (repeat (first | with_reducible exact HB.out | with_reducible refine bel_alloc ?_ | with_reducible refine bel_drew ?_ | with_reducible refine bel_set ?_ HZ.out.lo)))):Calls _ _ _ _ _).mono ?_;rintro e w6 ⟨h0,h1,h2,h3,h4,h5,h6,h7,h8,rfl,hw6⟩;(have HB6:=Lib.hid (nextB (show Below wo.heap.size wo _ from by (repeat (first | with_reducible exact HB.out | with_reducible refine bel_alloc ?_ | with_reducible refine bel_drew ?_ | with_reducible refine bel_set ?_ HZ.out.lo))) hw6));(first
       | (have HZ:=Lib.hid (HZ.out.below hw6))
       | (have HZ:=Lib.hid ((ZB.new (W:=wo) (by (repeat (first | with_reducible exact HB.out | with_reducible refine bel_alloc ?_ | with_reducible refine bel_drew ?_ | with_reducible refine bel_set ?_ HZ.out.lo)))).below hw6))
       | (have HZ:=Lib.hid ((ZB.new (W:=wo) (by (repeat (first | with_reducible exact HB.out | with_reducible refine bel_alloc ?_ | with_reducible refine bel_drew ?_ | with_reducible refine bel_set ?_ HZ.out.lo)))).drew.below hw6))
       | skip);clear HB;(have HB:=HB6);clear HB6 hw6;(try (obtain ⟨z0,z1,z2,z3,z4⟩:=HZ.out.2.cells5;have f0:=HZ.out.2.frozen 0;have f1:=HZ.out.2.frozen 1;have f2:=HZ.out.2.frozen 2;have f3:=HZ.out.2.frozen 3;have f4:=HZ.out.2.frozen 4))))
      all_goals
       go_wp2_with fail
       go_meet
       exact ⟨rfl,(by (repeat (first | with_reducible exact HB.out | with_reducible refine bel_alloc ?_ | with_reducible refine bel_drew ?_ | with_reducible refine bel_set ?_ HZ.out.lo)):Below wo.heap.size wo _)⟩
     case rest =>
      obtain ⟨rfl,hB2⟩:=hcut
      have HR3:=Lib.hid (hR.out.below hB2.out)
      clear HFX HLOW HB HN T0 hB2 hR
      obtain ⟨wo,rfl⟩:∃ w9:World,w9 = wc:=⟨_,rfl⟩
     
      cases hf:(idxK ks (tlS s)).isSome with
      | true =>
       have HEQ:Hid (resAcc R ks ks ns [] [] = .error badA):=by
        show _ = _
        rw [hE.out,HKD.out,HND.out]
        exact resAcc_twice HHH.out hf
       obtain ⟨p0,p1,p2,p3,p4⟩:=HR3.out.res.cells5
       have f0:=HR3.out.res.frozen 0
       have f1:=HR3.out.res.frozen 1
       have f2:=HR3.out.res.frozen 2
       have f3:=HR3.out.res.frozen 3
       have f4:=HR3.out.res.frozen 4
       have HF4:Hid (Blk (((((wo.setCell (qa (w.heap.size + 1) 0) (.int .i64 0)).setCell (qa (w.heap.size + 1) 1) (.int .i64 0)).setCell (qa (w.heap.size + 1) 2) (.string ⟨#[]⟩)).setCell (qa (w.heap.size + 1) 3) (.slice none 0 0)).setCell (qa (w.heap.size + 1) 4) (.slice none 0 0)) (w.heap.size + 1) 25 Zn):=set5_blk HR3.out.res
       have HFB:Hid (Below w.heap.size w (((((wo.setCell (qa (w.heap.size + 1) 0) (.int .i64 0)).setCell (qa (w.heap.size + 1) 1) (.int .i64 0)).setCell (qa (w.heap.size + 1) 2) (.string ⟨#[]⟩)).setCell (qa (w.heap.size + 1) 3) (.slice none 0 0)).setCell (qa (w.heap.size + 1) 4) (.slice none 0 0))):=set5_below HR3.out.low (Nat.le_add_right _ _)
       clear hE HKD HND
       go_wp2_with fail
       clear p0 p1 p2 p3 p4 f0 f1 f2 f3 f4
       generalize (((((wo.setCell (qa (w.heap.size + 1) 0) (.int .i64 0)).setCell (qa (w.heap.size + 1) 1) (.int .i64 0)).setCell (qa (w.heap.size + 1) 2) (.string ⟨#[]⟩)).setCell (qa (w.heap.size + 1) 3) (.slice none 0 0)).setCell (qa (w.heap.size + 1) 4) (.slice none 0 0)) = WF at *
       obtain ⟨q0,q1,q2,q3,q4⟩:=HF4.out.cells5
       refine bodyPost_ret (v:=.tuple #[.agg Zn,.string ⟨#[105,110,118,97,108,105,100,65,114,103,117,109,101,110,116,115]⟩]) (by simp [results,Tryd.results10,go_sem,q0,q1,q2,q3,q4]) rfl ?_
       exact ResP.bad (s:=badA) HEQ.out HFB.out
      | false =>
       have HLO:=Lib.hid HR3.out.low
       have HRX:Hid (Calls Tryd.prog 26 #[.agg (nA x0 x1 x2 x3 x4 x5 x6 x7 x8),.slice D ln dc] wo (ReferP (R m) (· < B) wo)):=HRF.out i m _ wo HMI.out (HNM.out wo HLO.out) HLO.out
       obtain ⟨e0,e1,e2,e3,e4⟩:=HEK.out wo HLO.out
       obtain ⟨y0,y1,y2,y3,y4⟩:=HR3.out.box.cells5
       have HFN:=Lib.hid hf
       clear hf HLO
       go_wp2_with fail
       refine (HRX.out:Calls _ _ _ _ _).mono ?_;rintro e w4 ⟨g0,g1,g2,g3,g4,g5,g6,g7,g8,rfl,hg,hb4⟩
       have HG:=Lib.hid hg
       have HR4:=Lib.hid (HR3.out.below (bel_alloc (o:=.cells (nA g0 g1 g2 g3 g4 g5 g6 g7 g8) 25) hb4))
       have HB4:=Lib.hid hb4
       clear hg hb4 HRX e0 e1 e2 e3 e4 y0 y1 y2 y3 y4
       cases hRm:R m with
       | none =>
        rw [show (none:Option Nd).isSome = false from rfl]
        have HEQ:Hid (resAcc R ks ks ns [] [] = .error badR):=by
         show _ = _
         rw [hE.out,HKD.out,HND.out]
         exact resAcc_bad HHH.out HFN.out hRm
        obtain ⟨p0,p1,p2,p3,p4⟩:=HR4.out.res.cells5
        have f0:=HR4.out.res.frozen 0
        have f1:=HR4.out.res.frozen 1
        have f2:=HR4.out.res.frozen 2
        have f3:=HR4.out.res.frozen 3
        have f4:=HR4.out.res.frozen 4
        have HF4:Hid (Blk ((((((w4.alloc (.cells (nA g0 g1 g2 g3 g4 g5 g6 g7 g8) 25)).setCell (qa (w.heap.size + 1) 0) (.int .i64 0)).setCell (qa (w.heap.size + 1) 1) (.int .i64 0)).setCell (qa (w.heap.size + 1) 2) (.string ⟨#[]⟩)).setCell (qa (w.heap.size + 1) 3) (.slice none 0 0)).setCell (qa (w.heap.size + 1) 4) (.slice none 0 0)) (w.heap.size + 1) 25 Zn):=set5_blk HR4.out.res
        have HFB:Hid (Below w.heap.size w ((((((w4.alloc (.cells (nA g0 g1 g2 g3 g4 g5 g6 g7 g8) 25)).setCell (qa (w.heap.size + 1) 0) (.int .i64 0)).setCell (qa (w.heap.size + 1) 1) (.int .i64 0)).setCell (qa (w.heap.size + 1) 2) (.string ⟨#[]⟩)).setCell (qa (w.heap.size + 1) 3) (.slice none 0 0)).setCell (qa (w.heap.size + 1) 4) (.slice none 0 0))):=set5_below HR4.out.low (Nat.le_add_right _ _)
        clear hE HKD HND
        go_wp2_with fail
        clear p0 p1 p2 p3 p4 f0 f1 f2 f3 f4
        generalize ((((((w4.alloc (.cells (nA g0 g1 g2 g3 g4 g5 g6 g7 g8) 25)).setCell (qa (w.heap.size + 1) 0) (.int .i64 0)).setCell (qa (w.heap.size + 1) 1) (.int .i64 0)).setCell (qa (w.heap.size + 1) 2) (.string ⟨#[]⟩)).setCell (qa (w.heap.size + 1) 3) (.slice none 0 0)).setCell (qa (w.heap.size + 1) 4) (.slice none 0 0)) = WF at *
        obtain ⟨q0,q1,q2,q3,q4⟩:=HF4.out.cells5
        refine bodyPost_ret (v:=.tuple #[.agg Zn,.string ⟨#[105,110,118,97,108,105,100,82,101,115,117,108,116,82,101,102,101,114,101,110,99,101]⟩]) (by simp [results,Tryd.results10,go_sem,q0,q1,q2,q3,q4]) rfl ?_
        exact ResP.bad (s:=badR) HEQ.out HFB.out
       | some x =>
        rw [show (some x:Option Nd).isSome = true from rfl]
        have HE2:Hid (resAcc R ks ks ns [] [] = resAcc R ks (ks.drop (i + 1)) (ns.drop (i + 1)) (kq ++ [s.extract 1 s.size]) (nq ++ [x])):=by
         show _ = _
         rw [hE.out,HKD.out,HND.out,resAcc_yes HHH.out HFN.out hRm,HTL.out]
        have hsx:(s.extract 1 s.size).size ≤ 1000000000:=by
         rw [HTL.out];exact Nat.le_trans (tlS_size s) hss
        have HQ2:Hid (∀ u ∈ kq ++ [s.extract 1 s.size],u.size ≤ maxLen):=fun u hu => by
         rw [List.mem_append] at hu
         rcases hu with hu | hu
         ·exact hQ.out u hu
         ·rw [List.mem_singleton] at hu;subst hu;simp only [maxLen];omega
        have HX:Hid (NdIn (w4.alloc (.cells (nA g0 g1 g2 g3 g4 g5 g6 g7 g8) 25)) (fun b => b < B ∨ Since wo (w4.alloc (.cells (nA g0 g1 g2 g3 g4 g5 g6 g7 g8) 25)) b) x (nL g0 g1 g2 g3 g4 g5 g6 g7 g8)):=NdIn.keep (fun p hp => World.cell?_alloc_lt _ _ _ (by
         rcases hp with hp | hp
         ·have:=HBW.out;have h1:=HR3.out.size;have h2:=HB4.out.size;omega
         ·exact hp.2)) (fun b hb => hb.imp id fun h => ⟨h.1,Nat.lt_of_lt_of_le h.2 (bel_alloc (o:=.cells (nA g0 g1 g2 g3 g4 g5 g6 g7 g8) 25) (Below.refl w4.heap.size w4)).size⟩) _ _ (HG.out x hRm)
        have HT:Hid (Blk (w4.alloc (.cells (nA g0 g1 g2 g3 g4 g5 g6 g7 g8) 25)) w4.heap.size 25 (nA g0 g1 g2 g3 g4 g5 g6 g7 g8)):=Blk.new _ _ _
        have HW4:=Lib.hid (show wo.heap.size ≤ w4.heap.size from HB4.out.size)
        clear HG HB4 hE HKD HND hQ hRm HFN HHH
        go_upto_region 17 with fail
        generalize w4.alloc (.cells (nA g0 g1 g2 g3 g4 g5 g6 g7 g8) 25) = wJ at *
        generalize w4.heap.size = T11 at *
        have HRJ:=HR4
        clear HR4
        have n3:=HRJ.out.node.cell 3
        have HLB:Hid (RJ w (wJ.alloc (.cells #[.string (s.extract 1 s.size)] 9)).drew #[.int .i64 7,.int .i64 num,.string t,.slice (some (qa kb ko)) n kc,.slice (some ad) n c] kq nq K2 kc2 A2 c2 yq):=HRJ.out.below (bel_alloc (Below.refl _ _)).drew
        have la3:(wJ.alloc (.cells #[.string (s.extract 1 s.size)] 9)).cell? (qa (w.heap.size + 1 + 1) 3) = some (.slice K2 kq.length kc2):=HLB.out.node.cell 3
        have HLX:Hid (NdIn (wJ.alloc (.cells #[.string (s.extract 1 s.size)] 9)).drew (fun b => b < B ∨ Since wo (wJ.alloc (.cells #[.string (s.extract 1 s.size)] 9)).drew b) x (nL g0 g1 g2 g3 g4 g5 g6 g7 g8)):=NdIn.keep (w':=(wJ.alloc (.cells #[.string (s.extract 1 s.size)] 9)).drew) (fun p hp => World.cell?_alloc_lt wJ _ _ (by
         rcases hp with hp | hp
         ·have:=HBW.out;have h1:=HRJ.out.size;omega
         ·exact hp.2)) (fun b hb => hb.imp id fun h => ⟨h.1,Nat.lt_of_lt_of_le h.2 (bel_alloc (o:=.cells #[.string (s.extract 1 s.size)] 9) (Below.refl wJ.heap.size wJ)).size⟩) _ _ HX.out
        have HLT:Hid (Blk (wJ.alloc (.cells #[.string (s.extract 1 s.size)] 9)).drew T11 25 (nA g0 g1 g2 g3 g4 g5 g6 g7 g8)):=(HT.out.alloc _).drew
        have HOK:=Lib.hid HLB.out.ri.keys
        have HSZ:=Lib.hid (show w.heap.size + 3 ≤ (wJ.alloc (.cells #[.string (s.extract 1 s.size)] 9)).drew.heap.size from HLB.out.size)
        have HTN:Hid (∀ g,(Value.slice K2 kq.length kc2).ownBlock = some g → g ≠ T11):=fun g e => by
         have h1:=(own_lt HR3.out.ri.keys e).2
         have h2:wo.heap.size ≤ T11:=HW4.out
         omega
        have HT2:Hid (T11 ≠ w.heap.size + 1 + 1):=by
         have h2:wo.heap.size ≤ T11:=HW4.out
         have h3:=HR3.out.size
         show T11 ≠ _
         omega
        clear HX HT HW4
        go_cut [] (fun wx => ∃ (K3:Option Addr) (kc3:Nat),Hid (RJ w wx #[.int .i64 7,.int .i64 num,.string t,.slice (some (qa kb ko)) n kc,.slice (some ad) n c] (kq ++ [s.extract 1 s.size]) nq K3 kc3 A2 c2 yq) ∧ Hid (∃ S:Nat → Prop,NdIn wx S x (nL g0 g1 g2 g3 g4 g5 g6 g7 g8) ∧ ∀ b,S b → SZ w.heap.size (w.heap.size + 3) wx (.slice K3 (kq.length + 1) kc3) (.slice A2 nq.length c2) b) ∧ Hid (Blk wx T11 25 (nA g0 g1 g2 g3 g4 g5 g6 g7 g8)))
        case first =>
         go_region_law (first
          | (refine step_pushStr rfl _ _ rfl (w.heap.size + 3) (.slice K2 kq.length kc2) kq.length (kq.map Value.string) (by rfl) HOK.out (wJ.heap.size + 1) (some (qa wJ.heap.size 0)) 1 (s.extract 1 s.size) (by rfl) (str_reads wJ (s.extract 1 s.size)) (by have:=HKQ.out;omega) HSZ.out ?_;intro v5 w5 q1 q2 q3;obtain ⟨g,cp,rfl,hg1,hg2⟩:=World.ownsRow.form q1 (by omega);have LP:=Lib.hid (HLB.out.key q1 q2 q3);have LX:=Lib.hid (HLB.out.keyIn (v:=.slice (some (qa g 0)) (kq.length + 1) cp) HR3.out HBW.out q1 q2 q3 HLX.out);have LT:=Lib.hid ((HLT.out.grown q2 (fun e => HTN.out _ e.symm rfl)).far (p:=(qa (w.heap.size + 1 + 1) 3)) HT2.out (.slice (some (qa g 0)) (kq.length + 1) cp));have n5:=HLB.out.node.grown q2 (fun e => by have:=HLB.out.keyOwn e.symm;omega);have l5c:=n5.cell 3;have l5f:=n5.frozen 3;clear n5 q1 q2 q3)
          | (go_simp;fail))
         all_goals
          go_wp2_with fail
          go_meet
          exact ⟨_,_,LP,⟨_,LX.out.1,LX.out.2⟩,LT⟩
        case rest =>
         obtain ⟨K3,kc3,hR5,hX5,hT5⟩:=hcut
         obtain ⟨wK,rfl⟩:∃ w9:World,w9 = wc:=⟨_,rfl⟩
         obtain ⟨t0,t1,t2,t3,t4⟩:=hT5.out.cells5
         obtain ⟨p0,p1,p2,p3,p4⟩:=hR5.out.node.cells5
         have HOW:=Lib.hid hR5.out.ri.own
         have HSZ5:=Lib.hid (show w.heap.size + 3 ≤ wK.heap.size from hR5.out.size)
         clear n3 la3 HLB HLX HLT HOK HSZ HTN HT2 HRJ HR3
         have HFK:Hid (∀ (v5:Value) (w5:World),w5.ownsRow (w.heap.size + 3) 25 5 v5 (nq.length + 1) (yq ++ (nL g0 g1 g2 g3 g4 g5 g6 g7 g8)) → wK.grownBy w5 (Value.slice A2 nq.length c2).ownBlock → (v5.ownBlock = (Value.slice A2 nq.length c2).ownBlock ∨ ∃ g1,v5.ownBlock = some g1 ∧ wK.heap.size ≤ g1) → ∃ A3 c3,v5 = .slice A3 (nq.length + 1) c3 ∧ RJ w (w5.setCell (qa (w.heap.size + 1 + 1) 4) (.slice A3 (nq.length + 1) c3)) #[.int .i64 7,.int .i64 num,.string t,.slice (some (qa kb ko)) n kc,.slice (some ad) n c] (kq ++ [s.extract 1 s.size]) (nq ++ [x]) K3 kc3 A3 c3 (yq ++ (nL g0 g1 g2 g3 g4 g5 g6 g7 g8))):=fun v5 w5 q1 q2 q3 => by
          obtain ⟨A3,c3,rfl⟩:=own_form q1
          obtain ⟨S,hx1,hx2⟩:=hX5.out
          exact ⟨A3,c3,rfl,hR5.out.kid hx1 (fun b hb => by have h:=hx2 b hb;rw [List.length_append,List.length_singleton];exact h) q1 q2 q3⟩
         go_wp2_with (at_builtin;refine wpList_pushNd wK rfl (.tmp 90) (.tmp 92) rfl (w.heap.size + 3) (.slice A2 nq.length c2) nq.length yq (by rfl) HOW.out g0 g1 g2 g3 g4 g5 g6 g7 g8 (by rfl) (by have:=HNQ.out;omega) HSZ5.out ?_;intro v5 w5 q1 q2 q3;obtain ⟨A3,c3,rfl,hLP⟩:=HFK.out v5 w5 q1 q2 q3;have LP:=Lib.hid hLP;have n5:=hR5.out.node.grown q2 (fun e => by have:=hR5.out.kidOwn e.symm;omega);have l5c:=n5.cell 4;have l5f:=n5.frozen 4;clear n5 q1 q2 q3 hLP)
         go_roundw
         case rel => exact ⟨i + 1,kq ++ [s.extract 1 s.size],nq ++ [x],K3,kc3,_,_,_,by omega,by rw [List.length_append,HKQ.out];rfl,by rw [List.length_append,HNQ.out];rfl,by go_num,HE2,HQ2,LP⟩
         case measure => simp [intOf];omega
  ·obtain rfl:i = n:=by omega
   have i1:¬ (i:Int) < (i:Int):=by omega
   have HEQ:Hid (resAcc R ks ks ns [] [] = .ok (.mk 7 0 ⟨#[]⟩ kq nq)):=by
    show _ = _
    rw [hE.out,resAcc_end _ _ _ _ _ _ (.inl (List.drop_eq_nil_of_le (by rw [HKL.out];exact Nat.le_refl _)))]
   obtain ⟨p0,p1,p2,p3,p4⟩:=hR.out.node.cells5
   obtain ⟨r0,r1,r2,r3,r4⟩:=hR.out.res.cells5
   have f0:=hR.out.res.frozen 0
   have f1:=hR.out.res.frozen 1
   have f2:=hR.out.res.frozen 2
   have f3:=hR.out.res.frozen 3
   have f4:=hR.out.res.frozen 4
   have HF4:Hid (Blk (((((wo.setCell (qa (w.heap.size + 1) 0) (.int .i64 7)).setCell (qa (w.heap.size + 1) 1) (.int .i64 0)).setCell (qa (w.heap.size + 1) 2) (.string ⟨#[]⟩)).setCell (qa (w.heap.size + 1) 3) (.slice K2 kq.length kc2)).setCell (qa (w.heap.size + 1) 4) (.slice A2 nq.length c2)) (w.heap.size + 1) 25 #[.int .i64 7,.int .i64 0,.string ⟨#[]⟩,.slice K2 kq.length kc2,.slice A2 nq.length c2]):=set5_blk hR.out.res
   have HFB:Hid (Below w.heap.size w (((((wo.setCell (qa (w.heap.size + 1) 0) (.int .i64 7)).setCell (qa (w.heap.size + 1) 1) (.int .i64 0)).setCell (qa (w.heap.size + 1) 2) (.string ⟨#[]⟩)).setCell (qa (w.heap.size + 1) 3) (.slice K2 kq.length kc2)).setCell (qa (w.heap.size + 1) 4) (.slice A2 nq.length c2))):=set5_below hR.out.low (Nat.le_add_right _ _)
   have l1:w.heap.size ≤ w.heap.size + 1:=by omega
   have l2:w.heap.size + 1 < w.heap.size + 3:=by omega
   have HIS:Hid (NdIs (((((wo.setCell (qa (w.heap.size + 1) 0) (.int .i64 7)).setCell (qa (w.heap.size + 1) 1) (.int .i64 0)).setCell (qa (w.heap.size + 1) 2) (.string ⟨#[]⟩)).setCell (qa (w.heap.size + 1) 3) (.slice K2 kq.length kc2)).setCell (qa (w.heap.size + 1) 4) (.slice A2 nq.length c2)) (((((wo.setCell (qa (w.heap.size + 1) 0) (.int .i64 7)).setCell (qa (w.heap.size + 1) 1) (.int .i64 0)).setCell (qa (w.heap.size + 1) 2) (.string ⟨#[]⟩)).setCell (qa (w.heap.size + 1) 3) (.slice K2 kq.length kc2)).setCell (qa (w.heap.size + 1) 4) (.slice A2 nq.length c2)).heap.size (.mk 7 0 ⟨#[]⟩ kq nq) [.int .i64 7,.int .i64 0,.string ⟨#[]⟩,.slice K2 kq.length kc2,.slice A2 nq.length c2]):=RI.is (((((hR.out.ri.box 0 _ l1 l2).box 1 _ l1 l2).box 2 _ l1 l2).box 3 _ l1 l2).box 4 _ l1 l2) hQ.out
   clear hE hQ hR l1 l2
   go_wp2_with fail
   clear p0 p1 p2 p3 p4 f0 f1 f2 f3 f4 r0 r1 r2 r3 r4
   generalize (((((wo.setCell (qa (w.heap.size + 1) 0) (.int .i64 7)).setCell (qa (w.heap.size + 1) 1) (.int .i64 0)).setCell (qa (w.heap.size + 1) 2) (.string ⟨#[]⟩)).setCell (qa (w.heap.size + 1) 3) (.slice K2 kq.length kc2)).setCell (qa (w.heap.size + 1) 4) (.slice A2 nq.length c2)) = WF at *
   obtain ⟨q0,q1,q2,q3,q4⟩:=HF4.out.cells5
   refine bodyPost_ret (v:=.tuple #[.agg #[.int .i64 7,.int .i64 0,.string ⟨#[]⟩,.slice K2 kq.length kc2,.slice A2 nq.length c2],.string ⟨#[]⟩]) (by simp [results,Tryd.results10,go_sem,q0,q1,q2,q3,q4]) rfl ?_
   rw [HEQ.out]
   exact ⟨_,_,_,_,_,_,_,_,_,rfl,HIS.out,HFB.out⟩
theorem resAcc_congr {R R':Nd → Option Nd} (all:List ByteArray):∀ (ks:List ByteArray) (ns:List Nd) (aK:List ByteArray) (aN:List Nd),(∀ m ∈ ns,R m = R' m) → resAcc R all ks ns aK aN = resAcc R' all ks ns aK aN
 | [],ns,aK,aN,_ => by rw [resAcc_end _ _ _ _ _ _ (.inl rfl),resAcc_end _ _ _ _ _ _ (.inl rfl)]
 | _ :: _,[],aK,aN,_ => by rw [resAcc_end _ _ _ _ _ _ (.inr rfl),resAcc_end _ _ _ _ _ _ (.inr rfl)]
 | k :: ks,n :: ns,aK,aN,h => by
  have ih:=fun aK aN => resAcc_congr (R:=R) (R':=R') all ks ns aK aN (fun m hm => h m (by simp [hm]))
  unfold resAcc
  rw [h n (by simp)]
  split
  ·split
   ·rfl
   ·split
    ·rfl
    ·exact ih _ _
  ·exact ih _ _
theorem textO_kind {n:Nd} {x:ByteArray} (h:n.kind ≠ 7):textO n x = none:=by
 unfold textO
 have e:findN n x = none:=by
  cases n with
  | mk k num t ks ns =>
   show (if k = 7 then _ else none) = none
   rw [if_neg (show ¬ k = 7 from h)]
 rw [e]
theorem right_len {n:Nd} {deep:Int} (h:rightD n deep = true) (h7:n.kind = 7):n.keys.length = n.kids.length:=by
 cases n with
 | mk k num t ks ns =>
  simp only [Nd.kind] at h7
  subst h7
  rw [rightD_eq] at h
  simp [bareF] at h
  simp_all [Nd.keys,Nd.kids]
theorem right_kids {n:Nd} (h:rightD n 0 = true) (h7:n.kind = 7):rightLD n.kids 1 = true:=by
 cases n with
 | mk k num t ks ns =>
  simp only [Nd.kind] at h7
  subst h7
  rw [rightD_eq] at h
  simp [bareF] at h
  simp_all [Nd.kids]
theorem rightLD_mem {ns:List Nd} {deep:Int} (h:rightLD ns deep = true):∀ m ∈ ns,rightD m deep = true:=by
 induction ns with
 | nil => intro m hm;cases hm
 | cons a ns ih =>
  rw [rightLD_cons,Bool.and_eq_true] at h
  intro m hm
  rw [List.mem_cons] at hm
  rcases hm with rfl | hm
  ·exact h.1
  ·exact ih h.2 m hm
theorem refer_len {m:Nd} {deep:Int} (h:rightD m deep = true) (l:List Cl):referO m.keys.length m l = referO m.kids.length m l:=by
 by_cases h7:m.kind = 7
 ·rw [right_len h h7]
 ·rw [refer_a (textO_kind h7),refer_a (textO_kind h7)]
theorem find_some {ks:List ByteArray} {ns:List Nd} {num:Int} {t x:ByteArray} (h:ks.length = ns.length):(findN (.mk 7 num t ks ns) x).isSome = (idxK ks x).isSome:=by
 show (if (7:Int) = 7 then match idxK ks x with | none => none | some i => ns[i]? else none).isSome = _
 rw [if_pos rfl]
 cases hq:idxK ks x with
 | none => rfl
 | some i =>
  have hi:i < ks.length:=by
   unfold idxK at hq
   exact (List.findIdx?_eq_some_iff_getElem.1 hq).1
  show (ns[i]?).isSome = true
  rw [List.getElem?_eq_getElem (by omega)];rfl
set_option maxRecDepth 100000 in
theorem rres_kind (k num:Int) (t:ByteArray) (K:Option Addr) (kl kc:Nat) (A:Option Addr) (al c:Nat) (w:World) (D:Option Addr) (ln dc:Nat) (h7:k ≠ 7) :
  Calls Tryd.prog 10 #[.agg (nA k num t K kl kc A al c),.slice D ln dc] w fun e w' => e = .returned (.tuple #[.agg Zn,.string badA]) ∧ Below w.heap.size w w':=by
 have n7:(k != 7) = true:=by rw [bne_iff_ne];exact h7
 have HA0:Below w.heap.size w ((w.alloc (.cells (nA k num t K kl kc A al c) 25)).alloc (.cells Zn 25)):=bel_alloc (bel_alloc (Below.refl _ _))
 have HX4:Blk ((w.alloc (.cells (nA k num t K kl kc A al c) 25)).alloc (.cells Zn 25)) (w.heap.size + 1) 25 Zn:=by
  have h:=Blk.new (w.alloc (.cells (nA k num t K kl kc A al c) 25)) 25 Zn
  rw [World.size_alloc] at h;exact h
 have HFB:=Lib.hid HA0
 have HF4:=Lib.hid HX4
 clear HA0 HX4
 unfold badA
 go_enter Tryd.func10,Tryd.ntmps10
 go_wp2_with fail
 obtain ⟨q0,q1,q2,q3,q4⟩:=HF4.out.cells5
 refine bodyPost_ret (v:=.tuple #[.agg Zn,.string ⟨#[105,110,118,97,108,105,100,65,114,103,117,109,101,110,116,115]⟩]) (by simp [results,Tryd.results10,go_sem,q0,q1,q2,q3,q4]) rfl ?_
 exact ⟨rfl,HFB.out⟩
set_option maxRecDepth 100000 in
theorem rResolve_any (n:Nd) (l:List Cl) (A:Option Addr) (cap:Nat) (xs cs:List Value) (w:World) (hn:NdIs w w.heap.size n cs) (hs:sizeOk n) (hr:rightD n 0 = true) (hL:Reads w w.heap.size 7 A l.length xs) (hC:ClsIs w w.heap.size l xs) (hl:l.length ≤ 1000000)
  (hok:∀ d ∈ l,sizeOk d.args ∧ d.args.count ≤ 1000000):Calls Tryd.prog 10 #[.agg cs.toArray,.slice A l.length cap] w (ResP (resN n l) w):=by
 by_cases h7:n.kind = 7
 case neg =>
  obtain ⟨A1,ck,A2,c,ys,rfl, -⟩:=hn.open_
  rw [resN_bad (.inl h7)]
  exact (rres_kind n.kind n.num n.text A1 n.keys.length ck A2 n.kids.length c w A l.length cap h7).mono (fun e w' ⟨he,hb⟩ => by rw [he];exact ResP.bad rfl hb)
 have hll:=right_len hr h7
 rw [resN_ok h7 hll,resAcc_congr (R':=fun m => referO m.keys.length m l) _ _ _ _ _ (fun m hm => (refer_len (rightLD_mem (right_kids hr h7) m hm) l).symm)]
 cases n with
 | mk k num t ks ns =>
  simp only [Nd.kind] at h7
  subst h7
  have hn0:=hn
  unfold NdIs at hn
  obtain ⟨K,kc,A2,c,ys,rfl,hks,hxs,hns,ik,inn,ht,hkl,hk1,hk2⟩:=hn
  have hll:ks.length = ns.length:=hll
  have hs0:=hs
  unfold sizeOk at hs
  obtain ⟨s1,s2,s3,s4,s5⟩:=hs
  have hW:=rres_walk num t ks ns K kc A2 c w ks.length rfl hll.symm s4.1 A l.length cap (fun m => referO m.keys.length m l) w.heap.size ys (Nat.le_refl _) hks (by rw [hll];exact hxs) hns ?_ ?_ s3
  ·rw [hll] at hW ⊢
   exact hW
  ·intro x w' hb
   have hf:=rFind_any (.mk 7 num t ks ns) x _ w' w.heap.size (hn0.below hb) hb.size
   rw [← hll] at hf
   refine hf.mono fun e w'' h => ?_
   obtain ⟨c0,c1,c2,c3,c4,c5,c6,c7,c8,rfl,_,hb2⟩:=h
   exact ⟨c0,c1,c2,c3,c4,c5,c6,c7,c8,congrArg (fun b => Ending.returned (.tuple #[.agg (nA c0 c1 c2 c3 c4 c5 c6 c7 c8),.bool b])) (find_some (num:=num) (t:=t) (x:=x) hll),hb2⟩
  ·intro i m cs w' hi hm hb
   exact rrefer_any m l A cap xs cs w' w.heap.size hm hb.size (kid_ok (n:=.mk 7 num t ks ns) hi hs0).1 (hL.keep fun p hp => hb.cell hp) (ClsIs.keep (fun p hp => hb.cell hp) _ _ hC) hl hok
mutual
theorem cN_weight:∀ (n:Nd) (deep:Int),0 ≤ deep → deep ≤ 41 → weightN n deep < 3000 → (n.count:Int) ≤ weightN n deep
 | .mk k m t ks ns,deep,h0,h1,h => by
  unfold weightN at h ⊢
  split at h
  ·omega
  rename_i hn
  rw [if_neg hn]
  split at h
  ·omega
  rename_i hk
  rw [if_neg hk]
  have:=cL_weight ns (deep + 1) 1 (by omega) (by omega) (by omega) h
  simp only [Nd.count]
  omega
theorem cL_weight:∀ (ns:List Nd) (deep acc:Int),0 ≤ deep → deep ≤ 41 → 0 ≤ acc → weightL ns deep acc < 3000 → (Nd.count.counts ns:Int) ≤ weightL ns deep acc - acc
 | [],deep,acc,_,_,_,h => by unfold weightL;simp [Nd.count.counts]
 | n :: ns,deep,acc,h0,h1,h2,h => by
  unfold weightL at h ⊢
  by_cases ha:acc < 3000
  ·rw [if_pos ha] at h ⊢
   have hw:=weightN_le n deep h0 h1
   have hge:=weightL_ge ns deep (acc + weightN n deep) h0 h1 (by omega)
   have i1:=cN_weight n deep h0 h1 (by omega)
   have i2:=cL_weight ns deep (acc + weightN n deep) h0 h1 (by omega) h
   simp only [Nd.count.counts]
   omega
  ·rw [if_neg ha] at h;omega
end
theorem count_small {n:Nd} (h:greatN n = false):n.count ≤ 1000000:=by
 unfold greatN at h
 have h:=of_decide_eq_false h
 have h1:=cN_weight n 0 (by omega) (by omega) (by omega)
 omega

theorem cells_one7_ {v0 v6:ByteArray} {c0 c1:Int} {c2:ByteArray} {c3:Option Addr} {c4 c5:Nat} {c6:Option Addr} {c7 c8:Nat}:∀ u ∈ ([.string v0,.int .i64 c0,.int .i64 c1,.string c2,.slice c3 c4 c5,.slice c6 c7 c8,.string v6]:List Value),u.oneCell' = true:=by
 intro u hu;simp at hu;rcases hu with rfl | rfl | rfl | rfl | rfl | rfl | rfl <;> rfl
def C7 (a:Addr) (v0 v1 v2 v3 v4 v5 v6:Value) (w:World):Prop:=w.cell? a = some v0 ∧ w.cell? (qa a.block (a.off + 1)) = some v1 ∧ w.cell? (qa a.block (a.off + 2)) = some v2 ∧ w.cell? (qa a.block (a.off + 3)) = some v3 ∧ w.cell? (qa a.block (a.off + 4)) = some v4 ∧ w.cell? (qa a.block (a.off + 5)) = some v5 ∧ w.cell? (qa a.block (a.off + 6)) = some v6
theorem C7.of {a:Addr} {v0 v1 v2 v3 v4 v5 v6:Value} {w w':World} (h:C7 a v0 v1 v2 v3 v4 v5 v6 w) (hk:w'.heap[a.block]? = w.heap[a.block]?):C7 a v0 v1 v2 v3 v4 v5 v6 w':=by
 obtain ⟨h1,h2,h3,h4,h5,h6,h7⟩:=h
 have f:∀ (p:Addr) (v:Value),p.block = a.block → w.cell? p = some v → w'.cell? p = some v:=fun p v e h => (World.cell?_of_block (by rw [e];exact hk)).trans h
 exact ⟨f _ _ rfl h1,f _ _ rfl h2,f _ _ rfl h3,f _ _ rfl h4,f _ _ rfl h5,f _ _ rfl h6,f _ _ rfl h7⟩
theorem take_call {xs:List Value} {i:Nat} {vs:List Value} (hv:vs.length = 7) (h:∀ j,j < 7 → xs[i * 7 + j]? = vs[j]?):xs.take ((i + 1) * 7) = xs.take (i * 7) ++ vs:=by
 apply List.ext_getElem?
 intro k
 rw [List.getElem?_take]
 by_cases h1:k < i * 7
 ·rw [if_pos (by omega),List.getElem?_append_left (by
   rw [List.length_take]
   have h6:=h 6 (by omega)
   rw [List.getElem?_eq_getElem (show 6 < vs.length by omega)] at h6
   have:=(List.getElem?_eq_some_iff.1 h6).1
   omega),List.getElem?_take,if_pos h1]
 ·have hl:(xs.take (i * 7)).length = i * 7:=by
   rw [List.length_take]
   have h6:=h 6 (by omega)
   rw [List.getElem?_eq_getElem (show 6 < vs.length by omega)] at h6
   have:=(List.getElem?_eq_some_iff.1 h6).1
   omega
  rw [List.getElem?_append_right (by omega),hl]
  by_cases h2:k < (i + 1) * 7
  ·rw [if_pos h2]
   have:=h (k - i * 7) (by omega)
   rw [show i * 7 + (k - i * 7) = k by omega] at this
   exact this
  ·rw [if_neg h2,List.getElem?_eq_none (by omega)]
theorem rcallInfo:(Tryd.prog.info? 32).map (fun i => (i.zero,i.size,i.bytes)) = some (some (.agg #[.string ⟨#[]⟩,.int .i64 0,.int .i64 0,.string ⟨#[]⟩,.slice none 0 0,.slice none 0 0,.string ⟨#[]⟩]),7,112):=by kernel_rfl
theorem step_pushRc {w:World} {ops:Array Oper} {o:Oper} {a:Act} {K:Act → World → Prop} {Q:Exit → Act → World → Prop} {E:Prop} (hgd:o.guard = none) (s x:Operand)
  (ho:o.op = .call { callee:=.builtin .append,args:=#[s,x],argTypes:=#[29,29] })
  (B:Nat) (v:Value) (n:Nat) (xs:List Value) (hs:a.eval s = v) (hown:w.ownsRow B 32 7 v n xs) (B2:Nat) (A:Option Addr) (m c:Nat) (ys:List Value) (hr:Reads w B2 7 A m ys) (h1:∀ u ∈ ys,u.oneCell' = true)
  (hx:a.eval x = .slice A m c)
  (hlim:n + m ≤ 1000000000) (hB:B ≤ w.heap.size)
  (h:∀ v' w',w'.ownsRow B 32 7 v' (n + m) (xs ++ ys) → w.grownBy w' v.ownBlock → K (a.put o.dst v') w') :
  if Region.wanted o (yielded ops a.tmps) = true then Oper.wp Tryd.prog o a w K Q else E:=by
 have hw:Region.wanted o (yielded ops a.tmps) = true:=by simp [Region.wanted,hgd]
 rw [if_pos hw]
 obtain ⟨i0,hi0,hz0,hz1,hz2⟩:=info_parts rcallInfo
 obtain ⟨v',w',h1,h2,h3,h4⟩:=run_append_any (P:=Tryd.prog) w B 29 o.type 32 i0 _ 7 112 Tryd.underlying29 hi0 hz0 hz1 hz2 rfl (by omega) v n _ hown B2 _ m c _ hr
  h1 (by simp only [maxLen];omega) (by omega) hB
 unfold Oper.wp execOp
 simp only [ho,resolve,invoke,builtin,Sem.run_bind,Sem.run_pure,Result.andThen_ok,List.map_toArray,List.map_cons,List.map_nil,hs,hx,h1]
 exact h v' w' h2 h3
theorem rreads7 (w:World) (v0 v1 v2 v3 v4 v5 v6:Value):Reads (w.alloc (.cells #[v0,v1,v2,v3,v4,v5,v6] 32)) (w.heap.size + 1) 7 (some (qa w.heap.size 0)) 1 [v0,v1,v2,v3,v4,v5,v6]:=by
 refine ⟨rfl,fun _ => ⟨_,rfl,by simp,fun j u hj => ?_⟩⟩
 have e:((qa w.heap.size 0):Addr).add j = (qa w.heap.size j):=by unfold Addr.add;split <;> simp_all
 rw [e,World.cell?_alloc_mark]
 simpa using hj

set_option maxRecDepth 100000 in
set_option maxHeartbeats 4000000 in
theorem callResolves_main (a:Nd) (ds:List Cl) (xs:List Value) (A:Option Addr) (cap:Nat) (x0 x1:Int) (x2:ByteArray) (x3:Option Addr) (x4 x5:Nat) (x6:Option Addr) (x7 x8:Nat) (w:World)
  (ha:NdIs w w.heap.size a (nL x0 x1 x2 x3 x4 x5 x6 x7 x8)) (hg:greatN a = false) (hr:rightD a 0 = true) (hL:Reads w w.heap.size 7 A ds.length xs) (hC:ClsIs w w.heap.size ds xs) (hl:ds.length ≤ 10) (hM:MaxOK w) :
  Calls Tryd.prog 3 #[.agg (nA x0 x1 x2 x3 x4 x5 x6 x7 x8),.slice A ds.length cap] w fun e w' => e = .returned (.bool true) ∧ Below w.heap.size w w':=by
 have hA0:Below w.heap.size w (w.alloc (.cells (nA x0 x1 x2 x3 x4 x5 x6 x7 x8) 25)):=(Below.refl _ _).alloc (Nat.le_refl _) _
 have hX0:Blk (w.alloc (.cells (nA x0 x1 x2 x3 x4 x5 x6 x7 x8) 25)) w.heap.size 25 (nA x0 x1 x2 x3 x4 x5 x6 x7 x8):=Blk.new _ _ _
 have HGA:Hid (∀ w',Below w.heap.size w w' → Calls Tryd.prog 6 #[.agg (nA x0 x1 x2 x3 x4 x5 x6 x7 x8)] w' (BoolBel false w')):=fun w' h => by
  have:=great_any _ _ w' w.heap.size (ha.below h) h.size
  rw [hg] at this;exact this
 have HRR:Hid (∀ w',Below w.heap.size w w' → Calls Tryd.prog 7 #[.agg (nA x0 x1 x2 x3 x4 x5 x6 x7 x8)] w' (BoolBel true w')):=fun w' h => by
  have:=rRight_any _ _ w' w.heap.size (ha.below h) h.size
  rw [hr] at this;exact this
 have HA:=Lib.hid ha;have HM:=Lib.hid hM;have HR:=Lib.hid hr;have HSZ:=Lib.hid (not_great ha hg).1;have HL:=Lib.hid hL;have HC:=Lib.hid hC
 have hl10:¬ (10:Int) < (ds.length:Int):=by omega
 have G0:Hid (∀ (j:Nat) (d:Cl),j < 0 → ds[j]? = some d → sizeOk d.args ∧ d.args.count ≤ 1000000):=fun j d h => absurd h (by omega)
 clear ha hg hr hL hC hM
 go_enter Tryd.func3,Tryd.ntmps3
 go_wp2_with fail
 refine (HGA.out _ hA0).mono ?_;rintro e w1 ⟨rfl,hw1⟩
 have hB1:=nextB hA0 hw1
 have hX1:=hX0.below hw1 hX0.lt
 obtain ⟨y0,y1,y2,y3,y4⟩:=hX1.cells5
 go_wp2_with fail
 refine (HRR.out _ hB1).mono ?_;rintro e w2 ⟨rfl,hw2⟩
 have HB:=Lib.hid (nextB hB1 hw2)
 have HX:=Lib.hid (hX1.below hw2 hX1.lt)
 have HO0:Hid (w2.ownsRow (w.heap.size + 1) 32 7 (.slice none 0 0) 0 (xs.take (0 * 7))):=World.ownsRow_nil _ _ _ _
 clear y0 y1 y2 y3 y4 hA0 hX0 hX1 hB1 hw1 hw2 HGA HRR
 go_wp2_with fail
 go_loopw [5,6] (fun t5 t6 wr => ∃ (i:Nat) (A2:Option Addr) (c2:Nat),i ≤ ds.length ∧ t5 = .slice A2 i c2 ∧ t6 = .int .i64 i ∧ Hid (∀ (j:Nat) (d:Cl),j < i → ds[j]? = some d → sizeOk d.args ∧ d.args.count ≤ 1000000) ∧ Hid (wr.ownsRow (w.heap.size + 1) 32 7 (.slice A2 i c2) i (xs.take (i * 7))) ∧ Hid (Below w.heap.size w wr) ∧ Hid (Blk wr w.heap.size 25 (nA x0 x1 x2 x3 x4 x5 x6 x7 x8))) (fun _ t6 _ => ds.length - (intOf t6).toNat)
 case atStart => exact ⟨0,none,0,Nat.zero_le _,rfl,rfl,G0,HO0,HB,HX⟩
 case round =>
  clear G0 HO0 HB HX
  obtain ⟨i,A2,cc2,hi,rfl,rfl,hG,hO,hW,hX⟩:=hrel
  obtain ⟨wo,rfl⟩:∃ wo:World,wo = wr:=⟨_,rfl⟩
  by_cases hlt:i < ds.length
  ·have HKP:Hid (∀ p:Addr,p.block < w.heap.size → wo.cell? p = w.cell? p):=fun p hp => hW.out.cell hp
   have hLr:=HL.out.keep HKP.out
   have hCr:=ClsIs.keep HKP.out _ _ HC.out
   obtain ⟨cs7,k1,k2⟩:=ClsIs.at_ ds xs i ds[i] HC.out (List.getElem?_eq_getElem hlt)
   obtain ⟨ad,cl,c0,c1,c2,c3,c4,c5,c6,c7,c8,rfl,hadb,hci,hcn,a0,a1,a2,a3,a4,a5,a6⟩:=Reads.cl hLr hCr hlt
   have HC7:Hid (C7 (ad.add (i * 7)) (.string cl.name) (.int .i64 c0) (.int .i64 c1) (.string c2) (.slice c3 c4 c5) (.slice c6 c7 c8) (.string cl.id) wo):=⟨a0,a1,a2,a3,a4,a5,a6⟩
   have HGR:=Lib.hid (great_any cl.args _ wo w.heap.size hcn hW.out.size)
   have HNG:Hid (greatN cl.args = false → sizeOk cl.args ∧ cl.args.count ≤ 1000000):=fun h => ⟨(not_great hcn h).1,count_small h⟩
   have HCI:=Lib.hid hci
   have HTK:Hid (xs.take ((i + 1) * 7) = xs.take (i * 7) ++ [.string cl.name,.int .i64 c0,.int .i64 c1,.string c2,.slice c3 c4 c5,.slice c6 c7 c8,.string cl.id]):=take_call rfl (fun j hj => by
    obtain ⟨ad2,e2,hb2,hc2⟩:=HL.out.2 (by omega)
    injection e2 with e2;subst e2
    have hq:i * 7 + j < xs.length:=by rw [HL.out.1];omega
    have e1:=hc2 (i * 7 + j) _ (List.getElem?_eq_getElem hq)
    have e3:∀ v,wo.cell? ((ad.add (i * 7)).add j) = some v → xs[i * 7 + j]? = some v:=fun v hv => by
     have h9:=HKP.out (ad.add (i * 7 + j)) (by rw [block_of_add];exact hadb)
     rw [← add_of_add,hv,add_of_add,e1] at h9
     rw [List.getElem?_eq_getElem hq];exact h9.symm
    have hsp:(ad.add (i * 7)).spot = none:=spot_none a0
    have e4:∀ k,(ad.add (i * 7)).add k = (qa ((ad.add (i * 7)).block) ((ad.add (i * 7)).off + k)):=fun k => by
     generalize ad.add (i * 7) = q at hsp
     obtain ⟨b,o,sp⟩:=q
     simp only at hsp
     subst hsp
     unfold Addr.add;split <;> simp_all
    match j,hj with
    | 0,_ => exact e3 _ (by rw [e4];have h:=a0;rw [show ad.add (i * 7) = (qa ((ad.add (i * 7)).block) ((ad.add (i * 7)).off + 0)) from by have:=e4 0;simpa [Addr.add] using this] at h;exact h)
    | 1,_ => exact e3 _ (by rw [e4];exact a1)
    | 2,_ => exact e3 _ (by rw [e4];exact a2)
    | 3,_ => exact e3 _ (by rw [e4];exact a3)
    | 4,_ => exact e3 _ (by rw [e4];exact a4)
    | 5,_ => exact e3 _ (by rw [e4];exact a5)
    | 6,_ => exact e3 _ (by rw [e4];exact a6))
   have HAD:Hid (ad.block < w.heap.size):=hadb
   have i0:(0:Int) ≤ (i:Int):=by omega
   have i1:(i:Int) < (ds.length:Int):=by omega
   clear hLr hCr hci hcn k1 k2
   have hadw:ad.block < wo.heap.size:=Nat.lt_of_lt_of_le HAD.out hW.out.size
   cases hgc:greatN cl.args with
   | true =>
    rw [hgc] at HGR
    have hWW:=hW.out
    clear hW hG hO hX HKP HC7 HNG HTK HCI hgc
    go_wp2_with fail
    refine HGR.out.mono ?_;rintro e w3 ⟨rfl,hw3⟩
    have hW:=nextB hWW hw3
    clear hw3 hWW HGR
    go_wp2_with (go_at_call 8;refine (awake26_any _).mono ?_;rintro e w1 ⟨rfl,hw1⟩;(first | replace hW:=nextB hW hw1 | replace hW:=nextA hW hw1 | replace hW:=nextB hW.drew hw1 | replace hW:=nextAA hW hw1 | replace hW:=nextAD hW hw1);clear hw1)
    go_ret
    exact ⟨rfl,hW⟩
   | false =>
    rw [hgc] at HGR
    have HOKC:=Lib.hid (HNG.out hgc)
    clear hgc HNG HKP
    go_wp2_with fail
    refine HGR.out.mono ?_;rintro e w3 ⟨rfl,hw3⟩
    have hab:(ad.add (i * 7)).block < wo.heap.size:=by rw [block_of_add];exact hadw
    have H7:=Lib.hid (HC7.out.of (w':=w3) (hw3.block _ hab))
    have HW3:=Lib.hid (nextB hW.out hw3)
    have HO3:=Lib.hid (own_old hO.out hw3)
    have HX3:=Lib.hid (hX.out.below hw3 hX.out.lt)
    have HAB:Hid ((ad.add (i * 7)).block < w3.heap.size):=Nat.lt_of_lt_of_le hab hw3.size
    have HABW:Hid ((ad.add (i * 7)).block < w.heap.size):=by show (ad.add (i * 7)).block < _;rw [block_of_add];exact HAD.out
    have HWS:Hid (w.heap.size + 1 ≤ w3.heap.size):=HX3.out.lt
    clear a0 a1 a2 a3 a4 a5 a6 hw3 HGR hW hO hX HC7
    have T7:=H7
    unfold C7 at T7
    obtain ⟨a0,a1,a2,a3,a4,a5,a6⟩:=T7.out
    clear T7
    by_cases hn1:100 < cl.name.size
    ·have hn1':(100:Int) < (cl.name.size:Int):=by omega
     have hW:=HW3.out
     clear HTK HCI HO3 HX3 H7
     go_wp2_with (go_at_call 8;refine (awake26_any _).mono ?_;rintro e w1 ⟨rfl,hw1⟩;(first | replace hW:=nextB hW hw1 | replace hW:=nextA hW hw1 | replace hW:=nextB hW.drew hw1 | replace hW:=nextAA hW hw1 | replace hW:=nextAD hW hw1);clear hw1)
     go_ret
     exact ⟨rfl,hW⟩
    have hn1':¬ (100:Int) < (cl.name.size:Int):=by omega
    by_cases hn2:100 < cl.id.size
    ·have hn2':(100:Int) < (cl.id.size:Int):=by omega
     have hW:=HW3.out
     clear HTK HCI HO3 HX3 H7
     go_wp2_with (go_at_call 8;refine (awake26_any _).mono ?_;rintro e w1 ⟨rfl,hw1⟩;(first | replace hW:=nextB hW hw1 | replace hW:=nextA hW hw1 | replace hW:=nextB hW.drew hw1 | replace hW:=nextAA hW hw1 | replace hW:=nextAD hW hw1);clear hw1)
     go_ret
     exact ⟨rfl,hW⟩
    have hn2':¬ (100:Int) < (cl.id.size:Int):=by omega
    have HG2:Hid (∀ (j:Nat) (d:Cl),j < i + 1 → ds[j]? = some d → sizeOk d.args ∧ d.args.count ≤ 1000000):=fun j d hj hd => by
     by_cases e:j = i
     ·subst e;rw [HCI.out] at hd;injection hd with hd;rw [← hd];exact HOKC.out
     ·exact hG.out j d (by omega) hd
    have hAL:Below w3.heap.size w3 (w3.alloc (.cells #[.string cl.name,.int .i64 c0,.int .i64 c1,.string c2,.slice c3 c4 c5,.slice c6 c7 c8,.string cl.id] 32)):=(Below.refl _ _).alloc (Nat.le_refl _) _
    have S0:Hid (C7 (ad.add (i * 7)) (.string cl.name) (.int .i64 c0) (.int .i64 c1) (.string c2) (.slice c3 c4 c5) (.slice c6 c7 c8) (.string cl.id) w3.drew):=H7.out
    have S1:Hid (C7 (ad.add (i * 7)) (.string cl.name) (.int .i64 c0) (.int .i64 c1) (.string c2) (.slice c3 c4 c5) (.slice c6 c7 c8) (.string cl.id) (w3.alloc (.cells #[.string cl.name,.int .i64 c0,.int .i64 c1,.string c2,.slice c3 c4 c5,.slice c6 c7 c8,.string cl.id] 32)).drew):=H7.out.of (hAL.block _ HAB.out)
    have S1b:=S1
    have HZ2:Hid ((w3.alloc (.cells #[.string cl.name,.int .i64 c0,.int .i64 c1,.string c2,.slice c3 c4 c5,.slice c6 c7 c8,.string cl.id] 32)).drew.heap.size = w3.heap.size + 1):=by show (w3.alloc (.cells #[.string cl.name,.int .i64 c0,.int .i64 c1,.string c2,.slice c3 c4 c5,.slice c6 c7 c8,.string cl.id] 32)).heap.size = _;rw [World.size_alloc]
    have HOWL:Hid (∀ g,(Value.slice A2 i cc2).ownBlock = some g → w.heap.size + 1 ≤ g ∧ g < w3.heap.size):=fun g hg => own_lt HO3.out hg
    have HBA:Hid (Below w.heap.size w (w3.alloc (.cells #[.string cl.name,.int .i64 c0,.int .i64 c1,.string c2,.slice c3 c4 c5,.slice c6 c7 c8,.string cl.id] 32)).drew):=bel_drew (bel_alloc HW3.out)
    have HXA:Hid (Blk (w3.alloc (.cells #[.string cl.name,.int .i64 c0,.int .i64 c1,.string c2,.slice c3 c4 c5,.slice c6 c7 c8,.string cl.id] 32)).drew w.heap.size 25 (nA x0 x1 x2 x3 x4 x5 x6 x7 x8)):=(HX3.out.alloc _).drew
    clear hAL hG HOKC HCI H7
    go_upto_region 9 with fail
    clear a0 a1 a2 a3 a4 a5 a6
    unfold C7 at S0 S1
    go_region_held3 (fun w' => w'.cell? (ad.add (i * 7)) = some (.string cl.name) ∧ w'.cell? (qa ((ad.add (i * 7)).block) ((ad.add (i * 7)).off + 1)) = some (.int .i64 c0) ∧ w'.cell? (qa ((ad.add (i * 7)).block) ((ad.add (i * 7)).off + 2)) = some (.int .i64 c1) ∧ w'.cell? (qa ((ad.add (i * 7)).block) ((ad.add (i * 7)).off + 3)) = some (.string c2) ∧ w'.cell? (qa ((ad.add (i * 7)).block) ((ad.add (i * 7)).off + 4)) = some (.slice c3 c4 c5) ∧ w'.cell? (qa ((ad.add (i * 7)).block) ((ad.add (i * 7)).off + 5)) = some (.slice c6 c7 c8) ∧ w'.cell? (qa ((ad.add (i * 7)).block) ((ad.add (i * 7)).off + 6)) = some (.string cl.id)) (first | with_reducible exact S0.out | with_reducible exact S1.out | with_reducible exact HS2.out) (first
     | (refine step_pushRc rfl _ _ rfl (w.heap.size + 1) (.slice A2 i cc2) i (xs.take (i * 7)) (by rfl) (show ((w3.alloc (.cells #[.string cl.name,.int .i64 c0,.int .i64 c1,.string c2,.slice c3 c4 c5,.slice c6 c7 c8,.string cl.id] 32)).drew).ownsRow (w.heap.size + 1) 32 7 (.slice A2 i cc2) i (xs.take (i * 7)) from World.ownsRow.alloc HO3.out _) (w3.heap.size + 1) (some (qa w3.heap.size 0)) 1 1 [.string cl.name,.int .i64 c0,.int .i64 c1,.string c2,.slice c3 c4 c5,.slice c6 c7 c8,.string cl.id] (by have:=rreads7 w3 (.string cl.name) (.int .i64 c0) (.int .i64 c1) (.string c2) (.slice c3 c4 c5) (.slice c6 c7 c8) (.string cl.id);exact this) cells_one7_ (by rfl) (by omega) (by rw [HZ2.out];have:=HWS.out;have h2:w.heap.size + 1 ≤ w3.heap.size:=this;omega) ?_;intro v9 w9 p1 p2;obtain ⟨A9,c9,rfl⟩:=own_form p1;have P1:=Lib.hid p1;have P2:=Lib.hid p2;have HS2:=Lib.hid (S1b.out.of (w':=w9) (p2.block _ (by rw [HZ2.out];have h2:(ad.add (i * 7)).block < w3.heap.size:=HAB.out;omega) (fun e => by have:=(HOWL.out _ e.symm).1;have h2:(ad.add (i * 7)).block < w.heap.size:=HABW.out;omega)));unfold C7 at HS2;clear p1 p2))
    go_wp2_with fail
    go_roundw
    case rel => exact ⟨i + 1,A9,c9,by omega,rfl,by go_num,HG2,(by rw [HTK.out];exact P1.out),Lib.hid (grownB HBA.out P2.out (fun g hg => by have:=(HOWL.out g hg).1;omega)),Lib.hid (HXA.out.grown P2.out (fun e => by have:=(HOWL.out _ e.symm).1;omega))⟩
    case measure => simp [intOf];omega
  ·obtain rfl:i = ds.length:=by omega
   have i1:¬ (ds.length:Int) < (ds.length:Int):=by omega
   have hok:∀ d ∈ ds,sizeOk d.args ∧ d.args.count ≤ 1000000:=fun d hd => by
    obtain ⟨j,hj⟩:=List.mem_iff_getElem?.1 hd
    exact hG.out j d (List.getElem?_eq_some_iff.1 hj).1 hj
   have HOK:=Lib.hid hok
   obtain ⟨r,hr⟩:∃ r,r = resN a ds:=⟨_,rfl⟩
   have hlm:ds.length ≤ 1000000:=by omega
   have HRK:Hid (Calls Tryd.prog 9 #[.agg (nA x0 x1 x2 x3 x4 x5 x6 x7 x8),.slice A ds.length cap] wo (ResP r wo)):=by
    rw [hr]
    exact kResolve_any a ds A cap xs _ wo w.heap.size (HA.out.below hW.out) hW.out.size HSZ.out ((HL.out.keep fun p hp => hW.out.cell hp).more hW.out.size) (ClsIs.more hW.out.size _ _ (HC.out.below hW.out)) hlm hok (HM.out.below hW.out)
   have HRR:Hid (∀ w',Below wo.heap.size wo w' → Calls Tryd.prog 10 #[.agg (nA x0 x1 x2 x3 x4 x5 x6 x7 x8),.slice A2 ds.length cc2] w' (ResP r w')):=fun w' hb => by
    rw [hr]
    have hb2:=nextB hW.out hb
    have h1:(wo.ownsRow (w.heap.size + 1) 32 7 (.slice A2 ds.length cc2) ds.length xs):=by
     have h:=hO.out
     rw [List.take_of_length_le (by rw [HL.out.1];exact Nat.le_refl _)] at h
     exact h
    exact rResolve_any a ds A2 cc2 xs _ w' (NdIs.more hb2.size _ _ (HA.out.below hb2)) HSZ.out HR.out (own_reads (own_old h1 hb)) (ClsIs.more hb2.size _ _ (HC.out.below hb2)) hlm HOK.out
   clear hr hok hG hlt hi HOK HL HC HM HSZ HR hO hlm
   obtain ⟨y0,y1,y2,y3,y4⟩:=hX.out.cells5
   have HW:=hW
   clear hW
   go_wp2_with fail
   refine (HRK.out:Calls _ _ _ _ _).mono ?_;rintro e w4 ⟨p0,p1,p2,p3,p4,p5,p6,p7,p8,rfl,hn4,hb4⟩
   have HE4:Hid (Below w4.heap.size w4 (w4.alloc (.cells (nA p0 p1 p2 p3 p4 p5 p6 p7 p8) 25))):=bel_alloc (Below.refl _ _)
   have HB4:=Lib.hid (nextB hb4 HE4.out)
   have HN4:=Lib.hid (hn4.step HE4.out)
   have HP4:=Lib.hid (Blk.new w4 25 (nA p0 p1 p2 p3 p4 p5 p6 p7 p8))
   have HX4:=Lib.hid (hX.out.below HB4.out hX.out.lt)
   clear y0 y1 y2 y3 y4 hn4 hb4 HRK HE4
   obtain ⟨y0,y1,y2,y3,y4⟩:=HX4.out.cells5
   go_wp2_with fail
   refine (HRR.out _ HB4.out:Calls _ _ _ _ _).mono ?_;rintro e w5 ⟨q0,q1,q2,q3,q4,q5,q6,q7,q8,rfl,hn5,hb5⟩
   have HE5:Hid (Below w5.heap.size w5 (w5.alloc (.cells (nA q0 q1 q2 q3 q4 q5 q6 q7 q8) 25))):=bel_alloc (Below.refl _ _)
   have HB5:=Lib.hid (nextB hb5 HE5.out)
   have HN5:=Lib.hid (hn5.step HE5.out)
   have HN45:=Lib.hid (HN4.out.step HB5.out)
   have HP5:=Lib.hid (Blk.new w5 25 (nA q0 q1 q2 q3 q4 q5 q6 q7 q8))
   have HP45:=Lib.hid (HP4.out.below HB5.out HP4.out.lt)
   have HSM:Hid (Calls Tryd.prog 11 #[.agg (nA p0 p1 p2 p3 p4 p5 p6 p7 p8),.agg (nA q0 q1 q2 q3 q4 q5 q6 q7 q8)] (w5.alloc (.cells (nA q0 q1 q2 q3 q4 q5 q6 q7 q8) 25)) (BoolBel true (w5.alloc (.cells (nA q0 q1 q2 q3 q4 q5 q6 q7 q8) 25)))):=by
    have h:=rSame_any _ (okR r) (okR r) _ _ _ _ (Nat.le_refl _) HN45.out HN5.out (Nat.le_refl _)
    rw [sameN_refl] at h
    exact h
   have hW:=nextB HW.out (nextB HB4.out HB5.out)
   obtain ⟨p0',p1',p2',p3',p4'⟩:=HP45.out.cells5
   have hEE:((errR r).toList == (errR r).toList) = true:=by simp
   clear y0 y1 y2 y3 y4 hn5 hb5 HRR HE5 HB4 HB5 HN4 HN5 HN45 HP4 HX4 HW hX
   go_wp2_with fail
   refine (HSM.out:Calls _ _ _ _ _).mono ?_;rintro e w6 ⟨rfl,hw1⟩
   replace hW:=nextB hW hw1
   clear hw1 HSM p0' p1' p2' p3' p4' HP5 HP45
   go_wp2_with (go_at_call 8;refine (awake26_any _).mono ?_;rintro e w1 ⟨rfl,hw1⟩;(first | replace hW:=nextB hW hw1 | replace hW:=nextA hW hw1 | replace hW:=nextB hW.drew hw1 | replace hW:=nextAA hW hw1 | replace hW:=nextAD hW hw1);clear hw1)
   go_ret
   exact ⟨rfl,hW⟩
set_option maxRecDepth 100000 in
set_option maxHeartbeats 1000000 in
theorem callResolves_stop (a:Nd) (ds:Nat) (A:Option Addr) (cap:Nat) (w:World) (x0 x1:Int) (x2:ByteArray) (x3:Option Addr) (x4 x5:Nat) (x6:Option Addr) (x7 x8:Nat) (ha:NdIs w w.heap.size a (nL x0 x1 x2 x3 x4 x5 x6 x7 x8)) (h:greatN a = true ∨ 10 < ds ∨ rightD a 0 = false) :
  Calls Tryd.prog 3 #[.agg (nA x0 x1 x2 x3 x4 x5 x6 x7 x8),.slice A ds cap] w fun e w' => e = .returned (.bool true) ∧ Below w.heap.size w w':=by
 have hA0:Below w.heap.size w (w.alloc (.cells (nA x0 x1 x2 x3 x4 x5 x6 x7 x8) 25)):=(Below.refl _ _).alloc (Nat.le_refl _) _
 have hX0:Blk (w.alloc (.cells (nA x0 x1 x2 x3 x4 x5 x6 x7 x8) 25)) w.heap.size 25 (nA x0 x1 x2 x3 x4 x5 x6 x7 x8):=Blk.new _ _ _
 have HGA:Hid (∀ w',Below w.heap.size w w' → Calls Tryd.prog 6 #[.agg (nA x0 x1 x2 x3 x4 x5 x6 x7 x8)] w' (BoolBel (greatN a) w')):=fun w' h => great_any _ _ w' w.heap.size (ha.below h) h.size
 have HRR:Hid (∀ w',Below w.heap.size w w' → Calls Tryd.prog 7 #[.agg (nA x0 x1 x2 x3 x4 x5 x6 x7 x8)] w' (BoolBel (rightD a 0) w')):=fun w' h => rRight_any _ _ w' w.heap.size (ha.below h) h.size
 clear ha
 have hW:=hA0
 cases hg:greatN a with
 | true =>
  rw [hg] at HGA
  clear hg h HRR
  go_enter Tryd.func3,Tryd.ntmps3
  go_wp2_with fail
  refine (HGA.out _ hA0).mono ?_;rintro e w1 ⟨rfl,hw1⟩
  replace hW:=nextB hW hw1
  clear hw1
  go_wp2_with (go_at_call 8;refine (awake26_any _).mono ?_;rintro e w1 ⟨rfl,hw1⟩;(first | replace hW:=nextB hW hw1 | replace hW:=nextA hW hw1 | replace hW:=nextB hW.drew hw1 | replace hW:=nextAA hW hw1 | replace hW:=nextAD hW hw1);clear hw1)
  go_ret
  exact ⟨rfl,hW⟩
 | false =>
  rw [hg] at HGA h
  by_cases h10:10 < ds
  ·have h10':(10:Int) < (ds:Int):=by omega
   clear hg h HRR
   go_enter Tryd.func3,Tryd.ntmps3
   go_wp2_with fail
   refine (HGA.out _ hA0).mono ?_;rintro e w1 ⟨rfl,hw1⟩
   replace hW:=nextB hW hw1
   clear hw1
   go_wp2_with (go_at_call 8;refine (awake26_any _).mono ?_;rintro e w1 ⟨rfl,hw1⟩;(first | replace hW:=nextB hW hw1 | replace hW:=nextA hW hw1 | replace hW:=nextB hW.drew hw1 | replace hW:=nextAA hW hw1 | replace hW:=nextAD hW hw1);clear hw1)
   go_ret
   exact ⟨rfl,hW⟩
  ·have hr:rightD a 0 = false:=by
    rcases h with h | h | h
    ·cases h
    ·exact absurd h h10
    ·exact h
   have h10':¬ (10:Int) < (ds:Int):=by omega
   rw [hr] at HRR
   clear hg h hr
   go_enter Tryd.func3,Tryd.ntmps3
   go_wp2_with fail
   refine (HGA.out _ hA0).mono ?_;rintro e w1 ⟨rfl,hw1⟩
   replace hW:=nextB hW hw1
   have hX1:=hX0.below hw1 hX0.lt
   obtain ⟨y0,y1,y2,y3,y4⟩:=hX1.cells5
   clear hw1
   go_wp2_with fail
   refine (HRR.out _ hW).mono ?_;rintro e w2 ⟨rfl,hw2⟩
   replace hW:=nextB hW hw2
   clear hw2
   go_wp2_with (go_at_call 8;refine (awake26_any _).mono ?_;rintro e w1 ⟨rfl,hw1⟩;(first | replace hW:=nextB hW hw1 | replace hW:=nextA hW hw1 | replace hW:=nextB hW.drew hw1 | replace hW:=nextAA hW hw1 | replace hW:=nextAD hW hw1);clear hw1)
   go_ret
   exact ⟨rfl,hW⟩
theorem callResolves_walk (a:Nd) (cs:List Value) (ds:List Cl) (A:Option Addr) (cap:Nat) (xs:List Value) (w:World) (ha:NdIs w w.heap.size a cs) (hd:Reads w w.heap.size 7 A ds.length xs ∧ ClsIs w w.heap.size ds xs) (hM:MaxOK w) :
  Calls Tryd.prog 3 #[.agg cs.toArray,.slice A ds.length cap] w fun e w' => e = .returned (.bool true) ∧ Below w.heap.size w w':=by
 obtain ⟨x0,x1,x2,x3,x4,x5,x6,x7,x8,rfl⟩:=(ha.in_).form
 by_cases h:greatN a = true ∨ 10 < ds.length ∨ rightD a 0 = false
 ·exact callResolves_stop a ds.length A cap w _ _ _ _ _ _ _ _ _ ha h
 ·have hg:greatN a = false:=by
   cases hq:greatN a with
   | true => exact absurd (.inl hq) h
   | false => rfl
  have hl:ds.length ≤ 10:=by
   rcases Nat.lt_or_ge 10 ds.length with hq | hq
   ·exact absurd (.inr (.inl hq)) h
   ·exact hq
  have hr:rightD a 0 = true:=by
   cases hq:rightD a 0 with
   | false => exact absurd (.inr (.inr hq)) h
   | true => rfl
  exact callResolves_main a ds xs A cap x0 x1 x2 x3 x4 x5 x6 x7 x8 w ha hg hr hd.1 hd.2 hl hM
end Go.Proofs.YthbjehbpanhdoaaDoor
namespace Go.Proofs.YthbjehbpanhdoaaDoor
open Go.RowKit
set_option linter.unusedVariables false
set_option linter.unusedSimpArgs false
theorem list_of {α:Type}:∀ (n:Nat) (p:Nat → α → Prop),(∀ i,i < n → ∃ a,p i a) → ∃ l:List α,l.length = n ∧ ∀ i a,l[i]? = some a → p i a
 | 0,p,h => ⟨[],rfl,fun i a hi => by simp at hi⟩
 | n + 1,p,h => by
  obtain ⟨a,ha⟩:=h 0 (by omega)
  obtain ⟨l,hl,hp⟩:=list_of n (fun i => p (i + 1)) (fun i hi => h (i + 1) (by omega))
  refine ⟨a :: l,by simp [hl],fun i b hi => ?_⟩
  cases i with
  | zero => simp at hi;subst hi;exact ha
  | succ i => exact hp i b (by simpa using hi)
theorem cellsStr:Tryd.prog.cellsOf 9 = 1:=by kernel_rfl
theorem cellsInt:Tryd.prog.cellsOf 3 = 1:=by kernel_rfl
theorem cellsStrs:Tryd.prog.cellsOf 22 = 1:=by kernel_rfl
theorem cellsNodes:Tryd.prog.cellsOf 23 = 1:=by kernel_rfl
theorem cellsNode:Tryd.prog.cellsOf 25 = 5:=by kernel_rfl
theorem flat_reads {w:World} {a:Addr}:∀ (l:List (List Value)) (k:Nat),(∀ (i:Nat) (c:List Value),l[i]? = some c → c.length = 5 ∧ ∀ r,r < 5 → w.cell? (a.add ((k + i) * 5 + r)) = c[r]?) → ∀ (j:Nat) (u:Value),l.flatten[j]? = some u → w.cell? (a.add (k * 5 + j)) = some u
 | [],k,h,j,u,hj => by simp at hj
 | c :: l,k,h,j,u,hj => by
  obtain ⟨h5,hc⟩:=h 0 c rfl
  rw [List.flatten_cons] at hj
  by_cases hlt:j < 5
  ·rw [List.getElem?_append_left (by omega)] at hj
   rw [← hj,← hc j hlt,Nat.add_zero]
  ·rw [List.getElem?_append_right (by omega),h5] at hj
   have:=flat_reads l (k + 1) (fun i c hi => by
    have:=h (i + 1) c (by simpa using hi)
    rw [show k + 1 + i = k + (i + 1) by omega];exact this) (j - 5) u hj
   rw [← this]
   congr 2
   omega
theorem nds_flat {w:World} {B:Nat}:∀ (l:List (Nd × List Value)),(∀ p ∈ l,NdIs w B p.1 p.2) → NdsIs w B (l.map (·.1)) (l.map (·.2)).flatten
 | [],h => by unfold NdsIs;rfl
 | p :: l,h => by
  show NdsIs w B (p.1 :: l.map (·.1)) _
  unfold NdsIs
  exact ⟨p.2,(l.map (·.2)).flatten,rfl,h p (by simp),nds_flat l (fun q hq => h q (by simp [hq]))⟩
theorem len_flat:∀ (l:List (List Value)),(∀ c ∈ l,c.length = 5) → l.flatten.length = l.length * 5
 | [],h => rfl
 | c :: l,h => by
  have:=len_flat l (fun c hc => h c (by simp [hc]))
  rw [List.flatten_cons,List.length_append,this,h c (by simp),List.length_cons];omega
section
variable {H:Type} {enc:TypeId × Value → H} {w:World} {sp:Nat → Bool} {held:Bool}
theorem cell_lt {a:Addr} {v:Value} (h:w.cell? a = some v):a.block < w.heap.size:=by
 rcases Nat.lt_or_ge a.block w.heap.size with h' | h'
 ·exact h'
 ·unfold World.cell? at h
  rw [Array.getElem?_eq_none h'] at h
  simp at h
theorem strs_of_trod {fuel:Nat} {cs:List Value} {x:DataW H × List MemPlace} (h:DataW.trod enc Tryd.prog w 0 sp held fuel 22 cs = some x) :
  ∃ (A:Option Addr) (c:Nat) (ks:List ByteArray),cs = [.slice A ks.length c] ∧ Reads w w.heap.size 1 A ks.length (ks.map Value.string) ∧ (∀ s ∈ ks,s.size ≤ maxLen) ∧ ks.length ≤ maxLen:=by
 rcases Deep.open_slice Tryd.underlying22 h with ⟨rfl,rfl⟩ | ⟨a,len,cap,m,n,D,Pl,rfl,_,hl,hm,hmm,rfl,hi⟩
 ·exact ⟨none,0,[],rfl,Reads.none_,by simp,by simp [maxLen]⟩
 ·have hlm:len ≤ m:=by rw [hmm];split <;> omega
  obtain ⟨ks,hk,hp⟩:=list_of len (fun i (s:ByteArray) => w.cell? (a.add i) = some (.string s) ∧ s.size ≤ maxLen) (fun i hi' => by
   obtain ⟨cs',hc,ht⟩:=hi i (by omega)
   rw [cellsStr,Nat.mul_one] at hc
   obtain ⟨s,rfl,_,hs⟩:=DataW.trod_string Tryd.underlying9 ht
   obtain ⟨_,_,hc⟩:=World.cells?_some hc
   exact ⟨s,by have:=hc 0 (by omega);rw [show (a.add i).add 0 = a.add i by simp [Addr.add]] at this;exact this,hs⟩)
  subst hk
  refine ⟨some a,cap,ks,rfl,⟨by simp,fun hn => ⟨a,rfl,?_,fun j u hj => ?_⟩⟩,fun s hs => ?_,by omega⟩
  ·have:=(hp 0 ks[0] (List.getElem?_eq_getElem hn)).1
   have:=cell_lt this
   rw [block_of_add] at this;exact this
  ·rw [List.getElem?_map] at hj
   cases hk:ks[j]? with
   | none => rw [hk] at hj;simp at hj
   | some s => rw [hk] at hj;simp at hj;subst hj;exact (hp j s hk).1
  ·obtain ⟨j,hj⟩:=List.getElem?_of_mem hs
   exact (hp j s hj).2
theorem wf_I64 {n:Int} (h:(Lit.int .i64 n).wf = true):I64 n:=bounds_i64 h
set_option maxRecDepth 100000 in
theorem nd_of_trod:∀ (k fuel:Nat),fuel ≤ k → ∀ (cs:List Value) (x:DataW H × List MemPlace),DataW.trod enc Tryd.prog w 0 sp held fuel 25 cs = some x → ∃ n,NdIs w w.heap.size n cs:=by
 intro k
 induction k with
 | zero =>
  intro fuel hf cs x h
  obtain rfl:fuel = 0:=by omega
  simp [DataW.trod] at h
 | succ k ih =>
  intro fuel hf cs x h
  obtain ⟨xs,n,rfl,rfl,hl,hxl,hfld⟩:=DataW.trod_struct Tryd.underlying25 h
  rw [cellsNode] at hl
  have h0:DataW.trod enc Tryd.prog w 0 sp held n 3 ((cs.drop 0).take (Tryd.prog.cellsOf 3)) = xs[0]?:=hfld 0 _ rfl
  have h1:DataW.trod enc Tryd.prog w 0 sp held n 3 ((cs.drop 1).take (Tryd.prog.cellsOf 3)) = xs[1]?:=hfld 1 _ rfl
  have h2:DataW.trod enc Tryd.prog w 0 sp held n 9 ((cs.drop 2).take (Tryd.prog.cellsOf 9)) = xs[2]?:=hfld 2 _ rfl
  have h3:DataW.trod enc Tryd.prog w 0 sp held n 22 ((cs.drop 3).take (Tryd.prog.cellsOf 22)) = xs[3]?:=hfld 3 _ rfl
  have h4:DataW.trod enc Tryd.prog w 0 sp held n 23 ((cs.drop 4).take (Tryd.prog.cellsOf 23)) = xs[4]?:=hfld 4 _ rfl
  rw [cellsInt] at h0 h1
  rw [cellsStr] at h2
  rw [cellsStrs] at h3
  rw [cellsNodes] at h4
  clear hfld h
  have hxl:xs.length = 5:=hxl
  match cs,hl with
  | [c0,c1,c2,c3,c4],_ =>
   match xs,hxl with
   | [y0,y1,y2,y3,y4],_ =>
    simp only [List.drop_succ_cons,List.drop_zero,List.take_succ_cons,List.take_zero,List.getElem?_cons_zero,List.getElem?_cons_succ] at h0 h1 h2 h3 h4
    obtain ⟨n0,e0,_,w0⟩:=DataW.trod_int Tryd.underlying3 h0
    obtain ⟨n1,e1,_,w1⟩:=DataW.trod_int Tryd.underlying3 h1
    obtain ⟨t,e2,_,w2⟩:=DataW.trod_string Tryd.underlying9 h2
    obtain ⟨A,ck,ks,e3,r3,s3,l3⟩:=strs_of_trod h3
    obtain rfl:c0 = .int .i64 n0:=by simpa using e0
    obtain rfl:c1 = .int .i64 n1:=by simpa using e1
    obtain rfl:c2 = .string t:=by simpa using e2
    obtain rfl:c3 = .slice A ks.length ck:=by simpa using e3
    rcases DataW.trod_slice Tryd.underlying23 h4 with ⟨e4,_⟩ | ⟨a,len,cap,elems,rest,n',rfl,e4,_,_,hlc,hcm,hel,hget,_,_⟩
    ·obtain rfl:c4 = .slice none 0 0:=by simpa using e4
     refine ⟨.mk n0 n1 t ks [],?_⟩
     unfold NdIs
     exact ⟨A,ck,none,0,[],rfl,r3,Reads.none_,(by unfold NdsIs;rfl),wf_I64 w0,wf_I64 w1,w2,s3,l3,by simp [maxLen]⟩
    ·obtain rfl:c4 = .slice (some a) len cap:=by simpa using e4
     obtain ⟨l,hll,hp⟩:=list_of len (fun i (p:Nd × List Value) => NdIs w w.heap.size p.1 p.2 ∧ p.2.length = 5 ∧ ∀ r,r < 5 → w.cell? (a.add (i * 5 + r)) = p.2[r]?) (fun i hi => by
      have hg:=hget i hi
      rw [List.getElem?_eq_getElem (by omega)] at hg
      obtain ⟨cs',g1,g2⟩:=Option.bind_eq_some_iff.1 hg
      rw [cellsNode] at g1
      obtain ⟨_,g3,g4⟩:=World.cells?_some g1
      obtain ⟨m,hm⟩:=ih n' (by omega) cs' _ g2
      exact ⟨(m,cs'),hm,g3,fun r hr => by have:=g4 r hr;rw [add_of_add] at this;exact this⟩)
     subst hll
     refine ⟨.mk n0 n1 t ks (l.map (·.1)),?_⟩
     unfold NdIs
     have hfr:=flat_reads (w:=w) (a:=a) (l.map (·.2)) 0 (fun i c hc => by
      rw [List.getElem?_map] at hc
      cases hk:l[i]? with
      | none => rw [hk] at hc;simp at hc
      | some p => rw [hk] at hc;simp at hc;subst hc;rw [Nat.zero_add];exact (hp i p hk).2)
     refine ⟨A,ck,some a,cap,(l.map (·.2)).flatten,(by simp),r3,⟨?_,fun hn => ⟨a,rfl,?_,fun j u hj => ?_⟩⟩,?_,wf_I64 w0,wf_I64 w1,w2,s3,l3,(by simp;omega)⟩
     ·rw [len_flat]
      ·simp
      ·intro c hc
       obtain ⟨p,hp',rfl⟩:=List.mem_map.1 hc
       obtain ⟨i,hi⟩:=List.getElem?_of_mem hp'
       exact (hp i p hi).2.1
     ·simp at hn
      have hq:=hp 0 l[0] (List.getElem?_eq_getElem hn)
      have h5:=hq.2.1
      have:=hq.2.2 0 (by omega)
      rw [List.getElem?_eq_getElem (by omega)] at this
      have:=cell_lt this
      rw [block_of_add] at this;exact this
     ·have:=hfr j u hj
      rw [show 0 * 5 + j = j by omega] at this;exact this
     ·refine nds_flat l (fun p hp' => ?_)
      obtain ⟨i,hi⟩:=List.getElem?_of_mem hp'
      exact (hp i p hi).1
end
section
open Go.ChangeShapes Go.WideShapes
variable {H:Type} {enc:TypeId × Value → H} {W W':World}
set_option maxRecDepth 100000 in
theorem open_node {r:Reach} {b0:Nat} {sp:Nat → Bool} {held:Bool} {v:Value} {d:DataW H} {p:List MemPlace} (hv:Value.okWide Tryd.prog W r b0 25 v) (h:DataW.Trod enc Tryd.prog W 0 sp held 25 v d p) :
  ∃ n cs,v = .agg cs.toArray ∧ NdIs W W.heap.size n cs:=by
 obtain ⟨cs,rfl,_⟩:=okWide_struct Tryd.underlying25 hv
 obtain ⟨fuel,hf⟩:=h
 obtain ⟨n,hn⟩:=nd_of_trod fuel fuel (Nat.le_refl _) _ _ hf
 exact ⟨n,cs.toList,by simp,by simpa [Value.cells] using hn⟩
theorem kids:Kids Tryd.prog (· < Tryd.prog.types.size):=kids_rows (by kernel_rfl) (by kernel_rfl)
theorem full:∀ t e,t < Tryd.prog.types.size → Tryd.prog.underlying t = some (.slice e) → 0 < Tryd.prog.cellsOf e:=slices_full_of _ (by kernel_rfl)
theorem all_carry:∀ {ts:List TypeId} {vs:List Value} {ds:List (DataW H)} {ps:List MemPlace} {sp:Nat → Bool},DataW.TrodAll enc Tryd.prog W 0 sp true ts vs ds ps → (∀ p ∈ ps,W.sameAt W' p) → DataW.TrodAll enc Tryd.prog W' 0 sp true ts vs ds ps
 | [],[],[],_,_,h,_ => h
 | _ :: _,_ :: _,_ :: _,_,_,⟨p,q,⟨n,h1⟩,h2,e⟩,hs => ⟨p,q,⟨n,DataW.trod_carry n _ _ _ h1 (fun x hx => hs x (by rw [e];exact List.mem_append_left _ hx))⟩,all_carry h2 (fun x hx => hs x (by rw [e];exact List.mem_append_right _ hx)),e⟩
theorem args_again {ts:List TypeId} {vs:List Value} {ds:List (DataW H)} {ps:List MemPlace} (hT:∀ t ∈ ts,t < Tryd.prog.types.size) (h:DataW.TrodAll enc Tryd.prog W 0 (fun _ => true) true ts vs ds ps) (hlt:∀ p ∈ ps,p.block < W.heap.size)
  (hb:Below W.heap.size W W') (sp:Nat → Bool) (hs:∀ p ∈ ps,sp p.block = true):DataW.TrodAll enc Tryd.prog W' 0 sp true ts vs ds ps:=by
 refine all_carry (DataW.TrodAll.respare kids full hT h hs) (fun p hp => ?_)
 have:=hlt p hp
 cases p with
 | cell b off => exact hb.cell this
 | map b => exact hb.block b this
end
section
variable {H:Type} {enc:TypeId × Value → H} {w:World} {sp:Nat → Bool} {held:Bool}
end
section
open Go.ChangeShapes Go.WideShapes
variable {H:Type} {enc:TypeId × Value → H} {W W':World}
end
theorem cellsCall:Tryd.prog.cellsOf 31 = 7:=by kernel_rfl
theorem flat_reads7 {w:World} {a:Addr}:∀ (l:List (List Value)) (k:Nat),(∀ (i:Nat) (c:List Value),l[i]? = some c → c.length = 7 ∧ ∀ r,r < 7 → w.cell? (a.add ((k + i) * 7 + r)) = c[r]?) → ∀ (j:Nat) (u:Value),l.flatten[j]? = some u → w.cell? (a.add (k * 7 + j)) = some u
 | [],k,h,j,u,hj => by simp at hj
 | c :: l,k,h,j,u,hj => by
  obtain ⟨h5,hc⟩:=h 0 c rfl
  rw [List.flatten_cons] at hj
  by_cases hlt:j < 7
  ·rw [List.getElem?_append_left (by omega)] at hj
   rw [← hj,← hc j hlt,Nat.add_zero]
  ·rw [List.getElem?_append_right (by omega),h5] at hj
   have:=flat_reads7 l (k + 1) (fun i c hi => by
    have:=h (i + 1) c (by simpa using hi)
    rw [show k + 1 + i = k + (i + 1) by omega];exact this) (j - 7) u hj
   rw [← this]
   congr 2
   omega
theorem cls_flat {w:World} {B:Nat}:∀ (l:List (Cl × List Value)),(∀ p ∈ l,∃ v,p.2 = .string p.1.name :: (v ++ [.string p.1.id]) ∧ NdIs w B p.1.args v) → ClsIs w B (l.map (·.1)) (l.map (·.2)).flatten
 | [],h => by unfold ClsIs;rfl
 | p :: l,h => by
  obtain ⟨v,e,hv⟩:=h p (by simp)
  show ClsIs w B (p.1 :: l.map (·.1)) (p.2 ++ (l.map (·.2)).flatten)
  unfold ClsIs
  exact ⟨v,(l.map (·.2)).flatten,by rw [e];simp,hv,cls_flat l (fun q hq => h q (by simp [hq]))⟩
theorem len_flat7:∀ (l:List (List Value)),(∀ c ∈ l,c.length = 7) → l.flatten.length = l.length * 7
 | [],h => rfl
 | c :: l,h => by
  have:=len_flat7 l (fun c hc => h c (by simp [hc]))
  rw [List.flatten_cons,List.length_append,this,h c (by simp),List.length_cons];omega
section
variable {H:Type} {enc:TypeId × Value → H} {w:World} {sp:Nat → Bool} {held:Bool}
set_option maxRecDepth 100000 in
theorem call_of_trod {fuel:Nat} {cs:List Value} {x:DataW H × List MemPlace} (h:DataW.trod enc Tryd.prog w 0 sp held fuel 31 cs = some x):∃ (cl:Cl) (v:List Value),cs = .string cl.name :: (v ++ [.string cl.id]) ∧ NdIs w w.heap.size cl.args v:=by
 obtain ⟨xs,n,rfl,rfl,hl,hxl,hfld⟩:=DataW.trod_struct Tryd.underlying31 h
 rw [cellsCall] at hl
 have h0:DataW.trod enc Tryd.prog w 0 sp held n 9 ((cs.drop 0).take (Tryd.prog.cellsOf 9)) = xs[0]?:=hfld 0 _ rfl
 have h1:DataW.trod enc Tryd.prog w 0 sp held n 25 ((cs.drop 1).take (Tryd.prog.cellsOf 25)) = xs[1]?:=hfld 1 _ rfl
 have h2:DataW.trod enc Tryd.prog w 0 sp held n 9 ((cs.drop 6).take (Tryd.prog.cellsOf 9)) = xs[2]?:=hfld 2 _ rfl
 rw [cellsStr] at h0 h2
 rw [cellsNode] at h1
 clear hfld h
 have hxl:xs.length = 3:=hxl
 match cs,hl with
 | [c0,c1,c2,c3,c4,c5,c6],_ =>
  match xs,hxl with
  | [y0,y1,y2],_ =>
   simp only [List.drop_succ_cons,List.drop_zero,List.take_succ_cons,List.take_zero,List.getElem?_cons_zero,List.getElem?_cons_succ] at h0 h1 h2
   obtain ⟨s,e0,_,_⟩:=DataW.trod_string Tryd.underlying9 h0
   obtain ⟨s2,e2,_,_⟩:=DataW.trod_string Tryd.underlying9 h2
   obtain ⟨m,hm⟩:=nd_of_trod n n (Nat.le_refl _) _ _ h1
   simp at e0 e2
   subst e0;subst e2
   exact ⟨⟨s,m,s2⟩,[c1,c2,c3,c4,c5],rfl,hm⟩
set_option maxRecDepth 100000 in
theorem cls_of_trod {fuel:Nat} {cs:List Value} {x:DataW H × List MemPlace} (h:DataW.trod enc Tryd.prog w 0 sp held fuel 26 cs = some x) :
  ∃ (A:Option Addr) (c:Nat) (ds:List Cl) (xs:List Value),cs = [.slice A ds.length c] ∧ Reads w w.heap.size 7 A ds.length xs ∧ ClsIs w w.heap.size ds xs ∧ ds.length ≤ maxLen:=by
 rcases DataW.trod_slice Tryd.underlying26 h with ⟨rfl,_⟩ | ⟨a,len,cap,elems,rest,n',rfl,rfl,_,_,hlc,hcm,hel,hget,_,_⟩
 ·exact ⟨none,0,[],[],rfl,⟨rfl,fun h => absurd h (by simp)⟩,(by unfold ClsIs;rfl),by simp [maxLen]⟩
 ·obtain ⟨l,hll,hp⟩:=list_of len (fun i (p:Cl × List Value) => (∃ v,p.2 = .string p.1.name :: (v ++ [.string p.1.id]) ∧ NdIs w w.heap.size p.1.args v) ∧ p.2.length = 7 ∧ ∀ r,r < 7 → w.cell? (a.add (i * 7 + r)) = p.2[r]?) (fun i hi => by
   have hg:=hget i hi
   rw [List.getElem?_eq_getElem (by omega)] at hg
   obtain ⟨cs',g1,g2⟩:=Option.bind_eq_some_iff.1 hg
   rw [cellsCall] at g1
   obtain ⟨_,g3,g4⟩:=World.cells?_some g1
   obtain ⟨cl,v,e,hm⟩:=call_of_trod g2
   exact ⟨(cl,cs'),⟨v,e,hm⟩,g3,fun r hr => by have:=g4 r hr;rw [add_of_add] at this;exact this⟩)
  subst hll
  have hfr:=flat_reads7 (w:=w) (a:=a) (l.map (·.2)) 0 (fun i c hc => by
   rw [List.getElem?_map] at hc
   cases hk:l[i]? with
   | none => rw [hk] at hc;simp at hc
   | some p => rw [hk] at hc;simp at hc;subst hc;rw [Nat.zero_add];exact (hp i p hk).2)
  refine ⟨some a,cap,l.map (·.1),(l.map (·.2)).flatten,(by simp),⟨?_,fun hn => ⟨a,rfl,?_,fun j u hj => ?_⟩⟩,?_,by simp;omega⟩
  ·rw [len_flat7]
   ·simp
   ·intro c hc
    obtain ⟨p,hp',rfl⟩:=List.mem_map.1 hc
    obtain ⟨i,hi⟩:=List.getElem?_of_mem hp'
    exact (hp i p hi).2.1
  ·simp at hn
   have hq:=hp 0 l[0] (List.getElem?_eq_getElem hn)
   have h5:=hq.2.1
   have:=hq.2.2 0 (by omega)
   rw [List.getElem?_eq_getElem (by omega)] at this
   have:=cell_lt this
   rw [block_of_add] at this;exact this
  ·have:=hfr j u hj
   rw [show 0 * 7 + j = j by omega] at this;exact this
  ·refine cls_flat l (fun p hp' => ?_)
   obtain ⟨i,hi⟩:=List.getElem?_of_mem hp'
   exact (hp i p hi).1
end
section
open Go.ChangeShapes Go.WideShapes
variable {H:Type} {enc:TypeId × Value → H} {W W':World}
set_option maxRecDepth 100000 in
theorem open_calls {r:Reach} {b0:Nat} {sp:Nat → Bool} {held:Bool} {v:Value} {d:DataW H} {p:List MemPlace} (hv:Value.okWide Tryd.prog W r b0 26 v) (h:DataW.Trod enc Tryd.prog W 0 sp held 26 v d p) :
  ∃ (A:Option Addr) (c:Nat) (ds:List Cl) (xs:List Value),v = .slice A ds.length c ∧ Reads W W.heap.size 7 A ds.length xs ∧ ClsIs W W.heap.size ds xs:=by
 obtain ⟨A,l,c,rfl⟩:=okWide_slice Tryd.underlying26 hv
 obtain ⟨fuel,hf⟩:=h
 obtain ⟨A',c',ds,xs,e,h1,h2,h3⟩:=cls_of_trod hf
 simp [Value.cells] at e
 obtain ⟨rfl,rfl,rfl⟩:=e
 exact ⟨A,c,ds,xs,rfl,h1,h2⟩
end
end Go.Proofs.YthbjehbpanhdoaaDoor
