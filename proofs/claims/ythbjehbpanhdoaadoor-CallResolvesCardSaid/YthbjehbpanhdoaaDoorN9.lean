/- Texts of one seat,one behind the other: Pt9,Fo4,Fo5. No condition. -/
import Derived.Test.YthbjehbpanhdoaaDoorN8
import Derived.Deep.RegionHeld3
import Derived.Deep.DeepCutAuto
namespace Go.Proofs.YthbjehbpanhdoaaDoor
open Go.RowKit Go.PlainAid
set_option linter.unusedVariables false
set_option linter.unusedSimpArgs false
set_option maxRecDepth 100000
theorem partsF_step {q:ByteArray} {c:UInt8} {r:List UInt8} (h:q.toList = c :: r) {q2:ByteArray} (h2:q2.toList = r.dropWhile (· != 47)):partsF q.size q.toList = ⟨(unesc (r.takeWhile (· != 47))).toArray⟩ :: partsF q2.size q2.toList:=by
 have hs:q.size = r.length + 1:=by rw [← toList_len,h];simp
 rw [h,hs,partsF_cons _ _ _ (Nat.le_refl _)]
 congr 1
 have h3:(r.dropWhile (· != 47)).length ≤ r.length:=(List.dropWhile_suffix _).length_le
 rw [h2]
 refine partsF_fuel _ _ _ h3 ?_
 rw [← toList_len q2,h2];exact Nat.le_refl _
theorem partsF_empty {q:ByteArray} (h:q.toList = []):partsF q.size q.toList = []:=by
 rw [h];cases q.size <;> rfl
def sLenP (v:Value):Nat:=match v with | .slice _ n _ => n | _ => 0
def NextP (pb:Nat) (q:ByteArray) (w:World) (e:Ending) (w':World):Prop:=∃ (s q2:ByteArray) (b:Bool),e = .returned (.tuple #[.string s,.bool b]) ∧ partsF q.size q.toList = (if b = true then s :: partsF q2.size q2.toList else []) ∧ Blk w' pb 9 #[.string q2] ∧ q2.size ≤ 1000 ∧ w.grownBy w' (some pb) ∧ MaxOK w'
theorem next_any (pb:Nat) (q:ByteArray) (w:World) (h:Blk w pb 9 #[.string q]) (hs:q.size ≤ 1000) (hM:MaxOK w):Calls Tryd.prog 69 #[.pointer (some (qa pb 0))] w (NextP pb q w):=by
 have hb0:pb ≠ 0:=fun e => by
  subst e
  obtain ⟨m,hm⟩:=hM
  have:=(h.cell 0).symm.trans hm
  simp at this
 cases hq:q.toList with
 | nil =>
  refine (parts1_nil pb q w h hq).mono ?_
  rintro e w' ⟨rfl,rfl⟩
  exact ⟨_,q,false,rfl,by rw [partsF_empty hq];rfl,h,hs,World.grownBy.refl w _,hM⟩
 | cons c r =>
  refine (parts1_cons pb q c r w h hq hs hM).mono ?_
  rintro e w' ⟨rfl,⟨q2,h1,h2,h3⟩,h4⟩
  exact ⟨_,q2,true,rfl,by rw [partsF_step hq h1];rfl,h3,h2,h4,hM.grown h4 hb0⟩
theorem MaxOK.grownR {w w1:World} {row:Option Nat} (h:MaxOK w) (hb:w.grownBy w1 row) (hne:some 0 ≠ row):MaxOK w1:=by
 have hl:=h.lt
 obtain ⟨m,hm⟩:=h
 exact ⟨m,(World.cell?_of_block (hb.block 0 hl hne)).trans hm⟩
theorem partsP_size (path:ByteArray):∀ s ∈ partsP path,s.size ≤ path.size:=fun s hs => by
 have:=partsF_size _ _ s hs
 rw [toList_len] at this;exact this
theorem partsP_len (path:ByteArray):(partsP path).length ≤ path.size:=by
 have:=partsF_len path.size path.toList
 rw [toList_len] at this;exact this
theorem one_node {w:World} {m:Nd} {cs:List Value} (hn:NdIs w w.heap.size m cs) (h5:cs.length = 5) (w2:World) (k1 k2:Nat) (hk1:k1 < w2.heap.size) (hk2:k2 < w2.heap.size) (hb:Below w.heap.size w w2) (h1:Blk w2 k1 9 #[.string ⟨#[]⟩]) (h2:Blk w2 k2 25 cs.toArray) :
  NdIs w2 w2.heap.size (.mk 7 0 ⟨#[]⟩ [⟨#[]⟩] [m]) [.int .i64 7,.int .i64 0,.string ⟨#[]⟩,.slice (some (qa k1 0)) 1 1,.slice (some (qa k2 0)) 1 1]:=by
 unfold NdIs
 have e:∀ g j:Nat,((qa g 0):Addr).add j = (qa g j):=fun g j => by unfold Addr.add;split <;> simp_all
 refine ⟨_,1,_,1,cs,rfl,⟨rfl,fun _ => ⟨_,rfl,hk1,fun j u hu => ?_⟩⟩,⟨by simpa using h5,fun _ => ⟨_,rfl,hk2,fun j u hu => ?_⟩⟩,?_,by unfold I64;omega,by unfold I64;omega,by (show (0:Nat) ≤ maxLen);exact Nat.zero_le _,?_,by simp [maxLen],by simp [maxLen]⟩
 ·rw [e,h1.cell j];simpa using hu
 ·rw [e,h2.cell j];simpa using hu
 ·unfold NdsIs
  exact ⟨cs,[],by simp,NdIs.more hb.size _ _ (hn.below hb),by unfold NdsIs;rfl⟩
 ·intro s hs
  simp at hs;subst hs
  show (0:Nat) ≤ maxLen
  exact Nat.zero_le _
theorem find_one (m:Nd):findN (.mk 7 0 ⟨#[]⟩ [⟨#[]⟩] [m]) ⟨#[]⟩ = some m:=by
 simp [findN,idxK]
theorem pGet_right (n:Nd) (path:ByteArray) (x0 x1:Int) (x2:ByteArray) (x3:Option Addr) (x4 x5:Nat) (x6:Option Addr) (x7 x8:Nat) (w:World)
  (HCR:Hid (∀ w',Below w.heap.size w w' → Calls Tryd.prog 54 #[.agg (nA x0 x1 x2 x3 x4 x5 x6 x7 x8)] w' (BoolBel false w'))) (HR:Hid (pointN n path = (none,1))) :
  Calls Tryd.prog 40 #[.agg (nA x0 x1 x2 x3 x4 x5 x6 x7 x8),.string path] w (PointP (pointN n path) w):=by
 have hA:Below w.heap.size w ((w.alloc (.cells (nA x0 x1 x2 x3 x4 x5 x6 x7 x8) 25)).alloc (.cells Zn 25)):=((Below.refl _ _).alloc (Nat.le_refl _) _).alloc (by simp) _
 have hX:Blk ((w.alloc (.cells (nA x0 x1 x2 x3 x4 x5 x6 x7 x8) 25)).alloc (.cells Zn 25)) w.heap.size 25 (nA x0 x1 x2 x3 x4 x5 x6 x7 x8):=(Blk.new w _ _).alloc _
 have hY:Blk ((w.alloc (.cells (nA x0 x1 x2 x3 x4 x5 x6 x7 x8) 25)).alloc (.cells Zn 25)) (w.heap.size + 1) 25 Zn:=by
  have:=Blk.new (w.alloc (.cells (nA x0 x1 x2 x3 x4 x5 x6 x7 x8) 25)) 25 Zn
  simpa using this
 have hZ:w.heap.size + 2 = ((w.alloc (.cells (nA x0 x1 x2 x3 x4 x5 x6 x7 x8) 25)).alloc (.cells Zn 25)).heap.size:=by simp
 have HA:=Lib.hid hA
 have HX:=Lib.hid hX
 have HY:=Lib.hid hY
 clear hA hX hY
 go_enter Tryd.func40,Tryd.ntmps40
 go_upto_region 1 with fail
 generalize (w.alloc (.cells (nA x0 x1 x2 x3 x4 x5 x6 x7 x8) 25)).alloc (.cells Zn 25) = wa at *
 obtain ⟨c0,c1,c2,c3,c4⟩:=HX.out.cells5
 go_wp2_with fail
 refine (HCR.out _ HA.out).mono ?_;rintro e w1 ⟨rfl,hw1⟩
 have HB1:=Lib.hid (HA.out.trans (hw1.mono HA.out.size))
 have HY1:=Lib.hid (HY.out.below hw1 HY.out.lt)
 clear hw1 c0 c1 c2 c3 c4 HA HX HY HCR
 obtain ⟨d0,d1,d2,d3,d4⟩:=HY1.out.cells5
 have f0:=HY1.out.frozen 0
 have f1:=HY1.out.frozen 1
 have f2:=HY1.out.frozen 2
 have f3:=HY1.out.frozen 3
 have f4:=HY1.out.frozen 4
 go_wp2_with fail
 clear d0 d1 d2 d3 d4 f0 f1 f2 f3 f4
 have F:=point_fin (r:=(none,1)) (S2:=(fun _ => False)) (w:=w) (w2:=w1) (y:=w.heap.size + 1) (by omega) HB1.out HY1.out (nd0_in 0 (by unfold I64;omega) _ _) (fun b hb => hb.elim)
 unfold set5 at F
 generalize (((((w1).setCell (qa (w.heap.size + 1) 0) (.int .i64 0)).setCell (qa (w.heap.size + 1) 1) (.int .i64 0)).setCell (qa (w.heap.size + 1) 2) (.string ⟨#[]⟩)).setCell (qa (w.heap.size + 1) 3) (.slice none 0 0)).setCell (qa (w.heap.size + 1) 4) (.slice none 0 0) = WF at *
 obtain ⟨F1,F2⟩:=F
 obtain ⟨q0,q1,q2,q3,q4⟩:=F1.cells5
 refine bodyPost_ret (v:=.tuple #[.agg Zn,.int .i64 1]) (by simp [results,Tryd.results40,go_sem,q0,q1,q2,q3,q4]) rfl ?_
 rw [HR.out];exact F2
theorem pGet_form (n:Nd) (path:ByteArray) (x0 x1:Int) (x2:ByteArray) (x3:Option Addr) (x4 x5:Nat) (x6:Option Addr) (x7 x8:Nat) (w:World)
  (HCR:Hid (∀ w',Below w.heap.size w w' → Calls Tryd.prog 54 #[.agg (nA x0 x1 x2 x3 x4 x5 x6 x7 x8)] w' (BoolBel true w'))) (HFM:Hid (∀ w',Calls Tryd.prog 55 #[.string path] w' (FormEnd false w'))) (HR:Hid (pointN n path = (none,3))) :
  Calls Tryd.prog 40 #[.agg (nA x0 x1 x2 x3 x4 x5 x6 x7 x8),.string path] w (PointP (pointN n path) w):=by
 have hA:Below w.heap.size w ((w.alloc (.cells (nA x0 x1 x2 x3 x4 x5 x6 x7 x8) 25)).alloc (.cells Zn 25)):=((Below.refl _ _).alloc (Nat.le_refl _) _).alloc (by simp) _
 have hX:Blk ((w.alloc (.cells (nA x0 x1 x2 x3 x4 x5 x6 x7 x8) 25)).alloc (.cells Zn 25)) w.heap.size 25 (nA x0 x1 x2 x3 x4 x5 x6 x7 x8):=(Blk.new w _ _).alloc _
 have hY:Blk ((w.alloc (.cells (nA x0 x1 x2 x3 x4 x5 x6 x7 x8) 25)).alloc (.cells Zn 25)) (w.heap.size + 1) 25 Zn:=by
  have:=Blk.new (w.alloc (.cells (nA x0 x1 x2 x3 x4 x5 x6 x7 x8) 25)) 25 Zn
  simpa using this
 have hZ:w.heap.size + 2 = ((w.alloc (.cells (nA x0 x1 x2 x3 x4 x5 x6 x7 x8) 25)).alloc (.cells Zn 25)).heap.size:=by simp
 have HA:=Lib.hid hA
 have HX:=Lib.hid hX
 have HY:=Lib.hid hY
 clear hA hX hY
 go_enter Tryd.func40,Tryd.ntmps40
 go_upto_region 1 with fail
 generalize (w.alloc (.cells (nA x0 x1 x2 x3 x4 x5 x6 x7 x8) 25)).alloc (.cells Zn 25) = wa at *
 obtain ⟨c0,c1,c2,c3,c4⟩:=HX.out.cells5
 go_wp2_with fail
 refine (HCR.out _ HA.out).mono ?_;rintro e w1 ⟨rfl,hw1⟩
 have HB1:=Lib.hid (HA.out.trans (hw1.mono HA.out.size))
 have HY1:=Lib.hid (HY.out.below hw1 HY.out.lt)
 clear hw1 c0 c1 c2 c3 c4 HA HX HY HCR
 go_wp2_with fail
 refine (HFM.out _:Calls _ _ _ _ _).mono ?_;rintro e w2 ⟨rfl,hw2⟩;obtain rfl:_ = w2:=hw2
 obtain ⟨d0,d1,d2,d3,d4⟩:=HY1.out.cells5
 have f0:=HY1.out.frozen 0
 have f1:=HY1.out.frozen 1
 have f2:=HY1.out.frozen 2
 have f3:=HY1.out.frozen 3
 have f4:=HY1.out.frozen 4
 go_wp2_with fail
 clear d0 d1 d2 d3 d4 f0 f1 f2 f3 f4
 have F:=point_fin (r:=(none,3)) (S2:=(fun _ => False)) (w:=w) (w2:=w1) (y:=w.heap.size + 1) (by omega) HB1.out HY1.out (nd0_in 0 (by unfold I64;omega) _ _) (fun b hb => hb.elim)
 unfold set5 at F
 generalize (((((w1).setCell (qa (w.heap.size + 1) 0) (.int .i64 0)).setCell (qa (w.heap.size + 1) 1) (.int .i64 0)).setCell (qa (w.heap.size + 1) 2) (.string ⟨#[]⟩)).setCell (qa (w.heap.size + 1) 3) (.slice none 0 0)).setCell (qa (w.heap.size + 1) 4) (.slice none 0 0) = WF at *
 obtain ⟨F1,F2⟩:=F
 obtain ⟨q0,q1,q2,q3,q4⟩:=F1.cells5
 refine bodyPost_ret (v:=.tuple #[.agg Zn,.int .i64 3]) (by simp [results,Tryd.results40,go_sem,q0,q1,q2,q3,q4]) rfl ?_
 rw [HR.out];exact F2
set_option maxHeartbeats 2000000 in
theorem pGet_walk (n:Nd) (path:ByteArray) (x0 x1:Int) (x2:ByteArray) (x3:Option Addr) (x4 x5:Nat) (x6:Option Addr) (x7 x8:Nat) (w:World)
  (HCR:Hid (∀ w',Below w.heap.size w w' → Calls Tryd.prog 54 #[.agg (nA x0 x1 x2 x3 x4 x5 x6 x7 x8)] w' (BoolBel true w'))) (HFM:Hid (∀ w',Calls Tryd.prog 55 #[.string path] w' (FormEnd true w')))
  (HN:Hid (NdIn w (· < w.heap.size) n (nL x0 x1 x2 x3 x4 x5 x6 x7 x8))) (HSZ:Hid (sizeOk n ∧ n.count ≤ 1000000)) (HPL:Hid (path.size ≤ 1000)) (HM:Hid (MaxOK w))
  (R:Option Nd) (HR:Hid (getN (partsP path) n = R)) (HP:Hid ((R = none → pointN n path = (none,7)) ∧ ∀ m,R = some m → pointN n path = (some m,0))) :
  Calls Tryd.prog 40 #[.agg (nA x0 x1 x2 x3 x4 x5 x6 x7 x8),.string path] w (PointP (pointN n path) w):=by
 have hmf:∀ (fn:Fn) (first cap:Array Value) (w:World),(Instr.makeFunc fn first cap).run Tryd.prog w = .ok (.func fn first cap) w:=fun _ _ _ _ => rfl
 have hA:Below w.heap.size w ((w.alloc (.cells (nA x0 x1 x2 x3 x4 x5 x6 x7 x8) 25)).alloc (.cells Zn 25)):=((Below.refl _ _).alloc (Nat.le_refl _) _).alloc (by simp) _
 have hX:Blk ((w.alloc (.cells (nA x0 x1 x2 x3 x4 x5 x6 x7 x8) 25)).alloc (.cells Zn 25)) w.heap.size 25 (nA x0 x1 x2 x3 x4 x5 x6 x7 x8):=(Blk.new w _ _).alloc _
 have hY:Blk ((w.alloc (.cells (nA x0 x1 x2 x3 x4 x5 x6 x7 x8) 25)).alloc (.cells Zn 25)) (w.heap.size + 1) 25 Zn:=by
  have:=Blk.new (w.alloc (.cells (nA x0 x1 x2 x3 x4 x5 x6 x7 x8) 25)) 25 Zn
  simpa using this
 have hZ:w.heap.size + 2 = ((w.alloc (.cells (nA x0 x1 x2 x3 x4 x5 x6 x7 x8) 25)).alloc (.cells Zn 25)).heap.size:=by simp
 have HA:=Lib.hid hA
 have HX:=Lib.hid hX
 have HY:=Lib.hid hY
 clear hA hX hY
 go_enter Tryd.func40,Tryd.ntmps40
 go_upto_region 1 with fail
 generalize (w.alloc (.cells (nA x0 x1 x2 x3 x4 x5 x6 x7 x8) 25)).alloc (.cells Zn 25) = wa at *
 obtain ⟨c0,c1,c2,c3,c4⟩:=HX.out.cells5
 go_wp2_with fail
 refine (HCR.out _ HA.out).mono ?_;rintro e w1 ⟨rfl,hw1⟩
 have hB1:=HA.out.trans (hw1.mono HA.out.size)
 have HB1:=Lib.hid hB1
 have HY1:=Lib.hid (HY.out.below hw1 HY.out.lt)
 have HX1:=Lib.hid (HX.out.below hw1 HX.out.lt)
 have hz1:w.heap.size + 2 ≤ w1.heap.size:=by have:=hw1.size;omega
 clear hw1 c0 c1 c2 c3 c4 HA HX HY HCR hB1
 go_wp2_with fail
 refine (HFM.out _:Calls _ _ _ _ _).mono ?_;rintro e w2 ⟨rfl,hw2⟩;obtain rfl:_ = w2:=hw2
 go_wp2_with fail
 refine (parts_any path _).mono ?_;rintro e w2 ⟨rfl,hw2⟩
 obtain rfl:=hw2
 have hbp:Blk (w1.alloc (.cells #[.string path] 9)) w1.heap.size 9 #[.string path]:=Blk.new w1 _ _
 have HM1:=Lib.hid ((HM.out.below HB1.out).below ((Below.refl w1.heap.size w1).alloc (Nat.le_refl _) (.cells #[.string path] 9)))
 have HNX:=Lib.hid (next_any w1.heap.size path _ hbp HPL.out HM1.out)
 clear hbp
 go_wp2_with fail
 refine (HNX.out:Calls _ _ _ _ _).mono ?_;rintro e w3 ⟨s0,q0,b0,rfl,hq0,hblk0,hqz0,hg0,hM0⟩
 have hzA:w1.heap.size + 1 = (w1.alloc (.cells #[.string path] 9)).heap.size:=by simp
 have HB3:Hid (Below w.heap.size w w3):=(HB1.out.alloc HB1.out.size _).grown hg0 (by simp;have:=HB1.out.size;omega) (fun k hk => by injection hk with hk;omega)
 have HX3:Hid (Blk w3 w.heap.size 25 (nA x0 x1 x2 x3 x4 x5 x6 x7 x8)):=(HX1.out.alloc _).grown hg0 (fun e => by injection e with e;omega)
 have HY3:Hid (Blk w3 (w.heap.size + 1) 25 Zn):=(HY1.out.alloc _).grown hg0 (fun e => by injection e with e;omega)
 have HQ0:Hid (Blk w3 w1.heap.size 9 #[.string q0]):=hblk0
 have HM3:=Lib.hid hM0
 have hz3:w1.heap.size < w3.heap.size:=by have:=hg0.size;omega
 have HALL0:Hid (partsP path = [] ++ (if b0 = true then s0 :: partsF q0.size q0.toList else [])):=hq0
 have HLEN:=Lib.hid (partsP_len path)
 clear hq0 hblk0 hg0 hM0 HNX HB1 HX1 HY1 HM1 HFM hzA
 go_wp2_with fail
 go_loopw [6,8,9] (fun t6 t8 t9 wr => ∃ (done:List ByteArray) (Aw:Option Addr) (cw:Nat) (s q:ByteArray) (b:Bool),t6 = .slice Aw done.length cw ∧ t8 = .string s ∧ t9 = .bool b ∧ Hid (partsP path = done ++ (if b = true then s :: partsF q.size q.toList else [])) ∧ Hid (wr.ownsRow (w1.heap.size + 1) 9 1 (.slice Aw done.length cw) done.length (done.map Value.string)) ∧ Hid (Blk wr w1.heap.size 9 #[.string q]) ∧ q.size ≤ 1000 ∧
   Hid (Blk wr w.heap.size 25 (nA x0 x1 x2 x3 x4 x5 x6 x7 x8)) ∧ Hid (Blk wr (w.heap.size + 1) 25 Zn) ∧ Hid (Below w.heap.size w wr) ∧ Hid (MaxOK wr) ∧ w1.heap.size < wr.heap.size)
  (fun t6 _ _ _ => (partsP path).length - sLenP t6)
 case atStart => exact ⟨[],none,0,s0,q0,b0,rfl,rfl,rfl,HALL0,World.ownsRow_nil _ _ _ _,HQ0,hqz0,HX3,HY3,HB3,HM3,hz3⟩
 case round =>
  clear HALL0 HQ0 HX3 HY3 HB3 HM3 hz3 hqz0
  obtain ⟨done,Aw,cw,s,q,b,rfl,rfl,rfl,hall,ho,hq,hqz,hx,hy,hb,hm,hz⟩:=hrel
  obtain ⟨wo,rfl⟩:∃ wo:World,wo = wr:=⟨_,rfl⟩
  cases b with
  | true =>
   have hall2:partsP path = done ++ s :: partsF q.size q.toList:=hall.out
   have hdl:done.length < (partsP path).length:=by rw [hall2];simp
   have hdl2:done.length ≤ 1000:=by have:=HLEN.out;have:=HPL.out;omega
   have HALL:=Lib.hid hall2
   have hown:∀ g,(Value.slice Aw done.length cw).ownBlock = some g → w1.heap.size + 1 ≤ g:=fun g hg => (own_lt ho.out hg).1
   have HOWN:=Lib.hid hown
   clear hall2 hall hown
   go_wp2_with (at_builtin;refine wpList_pushStrP _ rfl _ _ rfl (w1.heap.size + 1) (.slice Aw done.length cw) done.length (done.map Value.string) (by first | rfl | simp [Act.eval]) ho.out s (by first | rfl | simp [Act.eval]) ?lim ?hB ?_;(case lim => omega);(case hB => omega);intro v' w4 ho4 hg4;obtain ⟨Av,cv,rfl⟩:=own_form ho4;have HO4:=Lib.hid ho4;have HG4:=Lib.hid hg4;clear ho4 hg4)
   have hno:∀ g,g ≤ w1.heap.size → some g ≠ (Value.slice Aw done.length cw).ownBlock:=fun g hg e => by have:=HOWN.out g e.symm;omega
   have HQ4:=Lib.hid (hq.out.grown HG4.out (hno _ (by omega)))
   have HX4:=Lib.hid (hx.out.grown HG4.out (hno _ (by omega)))
   have HY4:=Lib.hid (hy.out.grown HG4.out (hno _ (by omega)))
   have HB4:=Lib.hid (hb.out.grown HG4.out hb.out.size (fun k hk => by have:=HOWN.out k hk;omega))
   have HM4:=Lib.hid (hm.out.grownR HG4.out (hno _ (by omega)))
   have hz4:w1.heap.size < w4.heap.size:=by have:=HG4.out.size;omega
   clear hno
   have HNX:=Lib.hid (next_any w1.heap.size q w4 HQ4.out hqz HM4.out)
   go_wp2_with fail
   refine (HNX.out:Calls _ _ _ _ _).mono ?_;rintro e w5 ⟨s2,q2,b2,rfl,hq2,hblk2,hqz2,hg2,hM2⟩
   have hown4:∀ g,(Value.slice Av (done.length + 1) cv).ownBlock = some g → w1.heap.size + 1 ≤ g:=fun g hg => (own_lt HO4.out hg).1
   have HO5:Hid (w5.ownsRow (w1.heap.size + 1) 9 1 (.slice Av (done.length + 1) cv) (done.length + 1) ((done ++ [s]).map Value.string)):=by
    have:=World.ownsRow.kept HO4.out hg2 (.inr (fun e => by have:=hown4 _ e;omega))
    rw [List.map_append]
    exact this
   have HX5:=Lib.hid (HX4.out.grown hg2 (fun e => by injection e with e;omega))
   have HY5:=Lib.hid (HY4.out.grown hg2 (fun e => by injection e with e;omega))
   have HB5:=Lib.hid (HB4.out.grown hg2 HB4.out.size (fun k hk => by injection hk with hk;omega))
   have hz5:w1.heap.size < w5.heap.size:=by have:=hg2.size;omega
   have HM5:=Lib.hid hM2
   have HQ5:=Lib.hid hblk2
   have HALL5:Hid (partsP path = (done ++ [s]) ++ (if b2 = true then s2 :: partsF q2.size q2.toList else [])):=by
    show _ = _
    rw [HALL.out,hq2];simp
   clear HNX hq2 hblk2 hg2 hM2 hown4 ho hq hx hy hb hm HO4 HG4 HQ4 HX4 HY4 HB4 HM4
   go_wp2_with fail
   go_roundw
   case rel => exact ⟨done ++ [s],Av,cv,s2,q2,b2,by simp,rfl,rfl,HALL5,by rw [show (done ++ [s]).length = done.length + 1 by simp];exact HO5,HQ5,hqz2,HX5,HY5,HB5,HM5,hz5⟩
   case measure => simp [sLenP];omega
  | false =>
   have hall2:partsP path = done:=by have:=hall.out;simpa using this
   have hcp:=own_cap ho.out
   have hwz:=hb.out.size
   have HGET:Hid (Calls Tryd.prog 57 #[.agg (nA x0 x1 x2 x3 x4 x5 x6 x7 x8),.slice Aw done.length cw] wo (GetP R (· < w.heap.size) wo)):=by
    have:=pget_any done (fun s hs => by have:=partsP_size path s (by rw [hall2];exact hs);have:=HPL.out;omega) n (nL x0 x1 x2 x3 x4 x5 x6 x7 x8) wo (· < w.heap.size) Aw cw (NdIn.on HN.out (fun b hb => hb) hb.out) (fun b hlt => Nat.lt_of_lt_of_le hlt hwz) (own_readsP ho.out) hcp.1 hcp.2 HSZ.out.1 HSZ.out.2
    rw [← hall2,HR.out] at this
    rw [hall2] at this
    exact this
   obtain ⟨c0,c1,c2,c3,c4⟩:=hx.out.cells5
   have HMM:Hid (∀ m,R = some m → sizeOk m):=fun m hm => (getN_ok _ _ _ (HR.out.trans hm) HSZ.out.1 HSZ.out.2).1
   clear hall ho hcp hall2 HR hq hm
   go_wp2_with fail
   refine (HGET.out:Calls _ _ _ _ _).mono ?_;rintro e w4 ⟨y0,y1,y2,y3,y4,y5,y6,y7,y8,rfl,hn4,hw4⟩
   have HN4:=Lib.hid hn4
   have HB4:=Lib.hid (hb.out.trans (hw4.mono hwz))
   have HY4:=Lib.hid (hy.out.below hw4 hy.out.lt)
   have hz4:wo.heap.size ≤ w4.heap.size:=hw4.size
   clear hn4 hw4 hb hx hy c0 c1 c2 c3 c4 HGET
   have HY5:Hid (Blk (w4.alloc (.cells (nA y0 y1 y2 y3 y4 y5 y6 y7 y8) 25)) (w.heap.size + 1) 25 Zn):=HY4.out.alloc _
   have HB5:Hid (Below w.heap.size w (w4.alloc (.cells (nA y0 y1 y2 y3 y4 y5 y6 y7 y8) 25))):=HB4.out.alloc HB4.out.size _
   cases R with
   | none =>
    obtain ⟨d0,d1,d2,d3,d4⟩:=HY5.out.cells5
    have f0:=HY5.out.frozen 0
    have f1:=HY5.out.frozen 1
    have f2:=HY5.out.frozen 2
    have f3:=HY5.out.frozen 3
    have f4:=HY5.out.frozen 4
    go_wp2_with fail
    clear d0 d1 d2 d3 d4 f0 f1 f2 f3 f4
    have F:=point_fin (r:=(none,7)) (S2:=(fun _ => False)) (w:=w) (w2:=(w4.alloc (.cells (nA y0 y1 y2 y3 y4 y5 y6 y7 y8) 25))) (y:=w.heap.size + 1) (by omega) HB5.out HY5.out (nd0_in 0 (by unfold I64;omega) _ _) (fun b hb => hb.elim)
    unfold set5 at F
    generalize ((((((w4.alloc (.cells (nA y0 y1 y2 y3 y4 y5 y6 y7 y8) 25))).setCell (qa (w.heap.size + 1) 0) (.int .i64 0)).setCell (qa (w.heap.size + 1) 1) (.int .i64 0)).setCell (qa (w.heap.size + 1) 2) (.string ⟨#[]⟩)).setCell (qa (w.heap.size + 1) 3) (.slice none 0 0)).setCell (qa (w.heap.size + 1) 4) (.slice none 0 0) = WF at *
    obtain ⟨F1,F2⟩:=F
    obtain ⟨q0,q1,q2,q3,q4⟩:=F1.cells5
    refine bodyPost_ret (v:=.tuple #[.agg Zn,.int .i64 7]) (by simp [results,Tryd.results40,go_sem,q0,q1,q2,q3,q4]) rfl ?_
    rw [HP.out.1 (by first | trivial | rfl)];exact F2
   | some m =>
    have hn6:NdIs w4 w4.heap.size m (nL y0 y1 y2 y3 y4 y5 y6 y7 y8):=NdIn.is (fun b hb => by
     rcases hb with hb | hb
     ·have:b < w.heap.size:=hb
      omega
     ·exact hb.2) _ _ HN4.out
    have hk1:(w4.alloc (.cells (nA y0 y1 y2 y3 y4 y5 y6 y7 y8) 25)).heap.size = w4.heap.size + 1:=by simp
    have hk2:((w4.alloc (.cells (nA y0 y1 y2 y3 y4 y5 y6 y7 y8) 25)).alloc (.cells #[.string ⟨#[]⟩] 9)).heap.size = w4.heap.size + 2:=by simp
    have hk3:(((w4.alloc (.cells (nA y0 y1 y2 y3 y4 y5 y6 y7 y8) 25)).alloc (.cells #[.string ⟨#[]⟩] 9)).alloc (.cells (nA y0 y1 y2 y3 y4 y5 y6 y7 y8) 25)).heap.size = w4.heap.size + 3:=by simp
    have hw5:Below w4.heap.size w4 (((w4.alloc (.cells (nA y0 y1 y2 y3 y4 y5 y6 y7 y8) 25)).alloc (.cells #[.string ⟨#[]⟩] 9)).alloc (.cells (nA y0 y1 y2 y3 y4 y5 y6 y7 y8) 25)):=(((Below.refl _ _).alloc (Nat.le_refl _) _).alloc (by simp) _).alloc (by simp;omega) _
    have hb1:Blk (((w4.alloc (.cells (nA y0 y1 y2 y3 y4 y5 y6 y7 y8) 25)).alloc (.cells #[.string ⟨#[]⟩] 9)).alloc (.cells (nA y0 y1 y2 y3 y4 y5 y6 y7 y8) 25)) (w4.heap.size + 1) 9 #[.string ⟨#[]⟩]:=by
     have:=(Blk.new (w4.alloc (.cells (nA y0 y1 y2 y3 y4 y5 y6 y7 y8) 25)) 9 #[.string ⟨#[]⟩]).alloc (.cells (nA y0 y1 y2 y3 y4 y5 y6 y7 y8) 25)
     rw [hk1] at this;exact this
    have hb2:Blk (((w4.alloc (.cells (nA y0 y1 y2 y3 y4 y5 y6 y7 y8) 25)).alloc (.cells #[.string ⟨#[]⟩] 9)).alloc (.cells (nA y0 y1 y2 y3 y4 y5 y6 y7 y8) 25)) (w4.heap.size + 2) 25 (nA y0 y1 y2 y3 y4 y5 y6 y7 y8):=by
     have:=Blk.new ((w4.alloc (.cells (nA y0 y1 y2 y3 y4 y5 y6 y7 y8) 25)).alloc (.cells #[.string ⟨#[]⟩] 9)) 25 (nA y0 y1 y2 y3 y4 y5 y6 y7 y8)
     rw [hk2] at this;exact this
    have HCF:Hid (Calls Tryd.prog 21 #[.agg #[.int .i64 7,.int .i64 0,.string ⟨#[]⟩,.slice (some (qa (w4.heap.size + 1) 0)) 1 1,.slice (some (qa (w4.heap.size + 2) 0)) 1 1],.string ⟨#[]⟩] (((w4.alloc (.cells (nA y0 y1 y2 y3 y4 y5 y6 y7 y8) 25)).alloc (.cells #[.string ⟨#[]⟩] 9)).alloc (.cells (nA y0 y1 y2 y3 y4 y5 y6 y7 y8) 25)) (FindP (some m) (((w4.alloc (.cells (nA y0 y1 y2 y3 y4 y5 y6 y7 y8) 25)).alloc (.cells #[.string ⟨#[]⟩] 9)).alloc (.cells (nA y0 y1 y2 y3 y4 y5 y6 y7 y8) 25)))):=by
     have:=cFind_any (.mk 7 0 ⟨#[]⟩ [⟨#[]⟩] [m]) ⟨#[]⟩ _ (((w4.alloc (.cells (nA y0 y1 y2 y3 y4 y5 y6 y7 y8) 25)).alloc (.cells #[.string ⟨#[]⟩] 9)).alloc (.cells (nA y0 y1 y2 y3 y4 y5 y6 y7 y8) 25)) _ (one_node hn6 rfl (((w4.alloc (.cells (nA y0 y1 y2 y3 y4 y5 y6 y7 y8) 25)).alloc (.cells #[.string ⟨#[]⟩] 9)).alloc (.cells (nA y0 y1 y2 y3 y4 y5 y6 y7 y8) 25)) (w4.heap.size + 1) (w4.heap.size + 2) (by omega) (by omega) hw5 hb1 hb2) (Nat.le_refl _) (by
      unfold sizeOk sizeOkL sizeOkL
      exact ⟨by omega,by decide,by intro s hs;simp at hs;subst hs;decide,by simp,HMM.out m rfl,trivial⟩)
     rw [find_one] at this
     exact this
    have HY6:Hid (Blk (((w4.alloc (.cells (nA y0 y1 y2 y3 y4 y5 y6 y7 y8) 25)).alloc (.cells #[.string ⟨#[]⟩] 9)).alloc (.cells (nA y0 y1 y2 y3 y4 y5 y6 y7 y8) 25)) (w.heap.size + 1) 25 Zn):=(HY5.out.alloc _).alloc _
    have HB6:Hid (Below w.heap.size w (((w4.alloc (.cells (nA y0 y1 y2 y3 y4 y5 y6 y7 y8) 25)).alloc (.cells #[.string ⟨#[]⟩] 9)).alloc (.cells (nA y0 y1 y2 y3 y4 y5 y6 y7 y8) 25))):=(HB5.out.alloc HB5.out.size _).alloc (by simp;omega) _
    have HK3:=Lib.hid hk3
    clear hn6 hk1 hk2 hk3 hw5 hb1 hb2 HMM HY5 HB5 HN4 HB4 HY4
    go_wp2_with fail
    refine (HCF.out:Calls _ _ _ _ _).mono ?_;rintro e w6 ⟨v0,v1,v2,v3,v4,v5,v6,v7,v8,rfl,hn6,hw6⟩
    have HN7:Hid (NdIn w6 (Since (((w4.alloc (.cells (nA y0 y1 y2 y3 y4 y5 y6 y7 y8) 25)).alloc (.cells #[.string ⟨#[]⟩] 9)).alloc (.cells (nA y0 y1 y2 y3 y4 y5 y6 y7 y8) 25)) w6) m (nL v0 v1 v2 v3 v4 v5 v6 v7 v8)):=hn6
    have HY7:Hid (Blk (w6.alloc (.cells (nA v0 v1 v2 v3 v4 v5 v6 v7 v8) 25)) (w.heap.size + 1) 25 Zn):=(HY6.out.below hw6 HY6.out.lt).alloc _
    have hb7:=HB6.out.trans (hw6.mono HB6.out.size)
    have HB7:Hid (Below w.heap.size w (w6.alloc (.cells (nA v0 v1 v2 v3 v4 v5 v6 v7 v8) 25))):=hb7.alloc hb7.size _
    have hz6:w4.heap.size + 3 ≤ w6.heap.size:=by have:=hw6.size;have:=HK3.out;omega
    clear hn6 hw6 hb7 HCF HY6 HB6
    obtain ⟨d0,d1,d2,d3,d4⟩:=HY7.out.cells5
    have f0:=HY7.out.frozen 0
    have f1:=HY7.out.frozen 1
    have f2:=HY7.out.frozen 2
    have f3:=HY7.out.frozen 3
    have f4:=HY7.out.frozen 4
    go_wp2_with fail
    clear d0 d1 d2 d3 d4 f0 f1 f2 f3 f4
    have F:=point_fin (r:=(some m,0)) (S2:=(Since (((w4.alloc (.cells (nA y0 y1 y2 y3 y4 y5 y6 y7 y8) 25)).alloc (.cells #[.string ⟨#[]⟩] 9)).alloc (.cells (nA y0 y1 y2 y3 y4 y5 y6 y7 y8) 25)) w6)) (w:=w) (w2:=(w6.alloc (.cells (nA v0 v1 v2 v3 v4 v5 v6 v7 v8) 25))) (y:=w.heap.size + 1) (by omega) HB7.out HY7.out (NdIn.keep (fun p hp => World.cell?_alloc_lt _ _ _ hp.2) (fun _ h => h) _ _ HN7.out) (fun b hb => by
      have h1:(((w4.alloc (.cells (nA y0 y1 y2 y3 y4 y5 y6 y7 y8) 25)).alloc (.cells #[.string ⟨#[]⟩] 9)).alloc (.cells (nA y0 y1 y2 y3 y4 y5 y6 y7 y8) 25)).heap.size ≤ b:=hb.1
      have h2:=hb.2
      have h3:=HK3.out
      exact ⟨⟨by omega,by simp;omega⟩,by omega⟩)
    unfold set5 at F
    generalize ((((((w6.alloc (.cells (nA v0 v1 v2 v3 v4 v5 v6 v7 v8) 25))).setCell (qa (w.heap.size + 1) 0) (.int .i64 v0)).setCell (qa (w.heap.size + 1) 1) (.int .i64 v1)).setCell (qa (w.heap.size + 1) 2) (.string v2)).setCell (qa (w.heap.size + 1) 3) (.slice v3 v4 v5)).setCell (qa (w.heap.size + 1) 4) (.slice v6 v7 v8) = WF at *
    obtain ⟨F1,F2⟩:=F
    obtain ⟨q0,q1,q2,q3,q4⟩:=F1.cells5
    refine bodyPost_ret (v:=.tuple #[.agg (nA v0 v1 v2 v3 v4 v5 v6 v7 v8),.int .i64 0]) (by simp [results,Tryd.results40,go_sem,q0,q1,q2,q3,q4]) rfl ?_
    rw [HP.out.2 m rfl];exact F2
theorem numZ_big (p:ByteArray) (h0:49 ≤ bt p 0):∀ i:Nat,digitsB p (i + 1) = true → (10:Int) ^ i ≤ numZ p (i + 1)
 | 0,_ => by simp only [numZ];omega
 | i + 1,h => by
  have h1:digitsB p (i + 1) = true ∧ 48 ≤ bt p (i + 1):=by
   rw [digitsB,Bool.and_eq_true,Bool.and_eq_true] at h
   exact ⟨h.1,by simpa using h.2.1⟩
  have ih:=numZ_big p h0 i h1.1
  rw [numZ,Int.pow_succ]
  omega
theorem numB_nonneg (p:ByteArray):(numB p).2 = true → 0 ≤ (numB p).1:=by
 unfold numB
 split
 ·intro h;cases h
 ·rename_i h1
  split
  ·intro h;cases h
  ·rename_i hd
   split
   ·intro h;cases h
   ·intro _
    exact (numZ_bound p p.size (by omega) (by simpa using hd)).1
theorem place_num (p:ByteArray) (n:Nat) (hn:n ≤ 1000000):placeF p n = if (numB p).2 = false ∨ (n:Int) ≤ (numB p).1 then -1 else (numB p).1:=by
 unfold placeF
 by_cases h1:p.size = 0 ∨ 10 < p.size ∨ (bt p 0 = 48 ∧ 1 < p.size)
 ·have e:numB p = (0,false):=by unfold numB;rw [if_pos h1]
  rw [e,if_pos (by omega)];simp
 ·by_cases hd:digitsB p p.size = false
  ·have e:numB p = (0,false):=by unfold numB;rw [if_neg h1,if_pos hd]
   rw [e,if_pos hd];simp
  ·have hd':digitsB p p.size = true:=by simpa using hd
   by_cases hb:4294967295 < numZ p p.size
   ·have e:numB p = (0,false):=by unfold numB;rw [if_neg h1,if_neg hd,if_pos hb]
    rw [e]
    by_cases h9:p.size = 0 ∨ 9 < p.size ∨ (bt p 0 = 48 ∧ 1 < p.size)
    ·rw [if_pos h9];simp
    ·rw [if_neg h9,if_neg hd,if_pos (by omega)];simp
   ·have e:numB p = (numZ p p.size,true):=by unfold numB;rw [if_neg h1,if_neg hd,if_neg hb]
    rw [e]
    by_cases h10:9 < p.size
    ·rw [if_pos (.inr (.inl h10))]
     refine (if_pos (.inr ?_)).symm
     have hs:p.size = 9 + 1:=by omega
     have hlead:49 ≤ bt p 0:=by
      have h2:digitsB p (0 + 1) = true:=by
       cases h3:digitsB p (0 + 1) with
       | true => rfl
       | false =>
        have:digitsB p p.size = false:=digits_stop p 0 p.size (by omega) (by simpa [digitsB] using h3)
        rw [this] at hd';cases hd'
      rw [digitsB,Bool.and_eq_true,Bool.and_eq_true] at h2
      have h3:48 ≤ bt p 0:=by simpa using h2.2.1
      omega
     have:=numZ_big p hlead 9 (by rw [← hs];exact hd')
     rw [← hs] at this
     have hp:(10:Int) ^ 9 = 1000000000:=by decide
     show (n:Int) ≤ numZ p p.size
     omega
    ·rw [if_neg (by omega),if_neg hd]
     by_cases hle:(n:Int) ≤ numZ p p.size
     ·rw [if_pos hle,if_pos (.inr hle)]
     ·rw [if_neg hle,if_neg (by simp;omega)]
def FGetOK (l:List ByteArray):Prop:=∀ (n:Nd) (cs:List Value) (w:World) (S:Nat → Prop) (A:Option Addr) (c:Nat),NdIn w S n cs → (∀ b,S b → b < w.heap.size) → (∃ B,∀ b,S b ↔ b < B) → Reads w w.heap.size 1 A l.length (l.map Value.string) → l.length ≤ c → c ≤ maxLen → sizeOk n → n.count ≤ 1000000 → Calls Tryd.prog 59 #[.agg cs.toArray,.slice A l.length c] w (GetP (getN l n) S w)
set_option maxHeartbeats 1000000 in
theorem fget_nil:FGetOK []:=by
 intro n cs w S A c hn hS hSB hr hl hc hs hct
 have HN:=Lib.hid hn
 cases n with
 | mk k num t ks ns =>
 unfold NdIn at hn
 obtain ⟨A1,ck,A2,cc,xs,rfl,hks,hxs,hns,ik,inn,ht,hkl,hkm,hmm⟩:=hn
 have HS:=Lib.hid hS
 have HSB:=Lib.hid hSB
 clear hSB
 clear hS hks hxs hns hkl hr
 show Calls Tryd.prog 59 #[.agg (nA k num t A1 ks.length ck A2 ns.length cc),.slice A 0 c] w _
 have hA:Below w.heap.size w ((w.alloc (.cells (nA k num t A1 ks.length ck A2 ns.length cc) 25)).alloc (.cells Zn 25)):=((Below.refl _ _).alloc (Nat.le_refl _) _).alloc (by simp) _
 have hX:Blk ((w.alloc (.cells (nA k num t A1 ks.length ck A2 ns.length cc) 25)).alloc (.cells Zn 25)) w.heap.size 25 (nA k num t A1 ks.length ck A2 ns.length cc):=(Blk.new w _ _).alloc _
 have hY:Blk ((w.alloc (.cells (nA k num t A1 ks.length ck A2 ns.length cc) 25)).alloc (.cells Zn 25)) (w.heap.size + 1) 25 Zn:=by
  have:=Blk.new (w.alloc (.cells (nA k num t A1 ks.length ck A2 ns.length cc) 25)) 25 Zn
  simpa using this
 have hZ:w.heap.size + 2 = ((w.alloc (.cells (nA k num t A1 ks.length ck A2 ns.length cc) 25)).alloc (.cells Zn 25)).heap.size:=by simp
 have HA:=Lib.hid hA
 have HX:=Lib.hid hX
 have HY:=Lib.hid hY
 clear hA hX hY
 go_enter Tryd.func59,Tryd.ntmps59
 go_upto_region 1 with fail
 generalize (w.alloc (.cells (nA k num t A1 ks.length ck A2 ns.length cc) 25)).alloc (.cells Zn 25) = wa at *
 obtain ⟨c0,c1,c2,c3,c4⟩:=HX.out.cells5
 obtain ⟨d0,d1,d2,d3,d4⟩:=HY.out.cells5
 have f0:=HY.out.frozen 0
 have f1:=HY.out.frozen 1
 have f2:=HY.out.frozen 2
 have f3:=HY.out.frozen 3
 have f4:=HY.out.frozen 4
 go_wp2_with fail
 clear d0 d1 d2 d3 d4 f0 f1 f2 f3 f4
 have F:=get_fin (r:=some (.mk k num t ks ns)) (S:=S) (S2:=S) (w:=w) (w2:=wa) (y:=w.heap.size + 1) (by omega) HA.out HY.out (HN.out.on HS.out HA.out) (fun b hb => ⟨.inl hb,fun e => by have:=HS.out b hb;omega⟩)
 unfold set5 at F
 generalize (((((wa).setCell (qa (w.heap.size + 1) 0) (.int .i64 k)).setCell (qa (w.heap.size + 1) 1) (.int .i64 num)).setCell (qa (w.heap.size + 1) 2) (.string t)).setCell (qa (w.heap.size + 1) 3) (.slice A1 ks.length ck)).setCell (qa (w.heap.size + 1) 4) (.slice A2 ns.length cc) = WF at *
 obtain ⟨F1,F2⟩:=F
 obtain ⟨q0,q1,q2,q3,q4⟩:=F1.cells5
 refine bodyPost_ret (v:=.tuple #[.agg (nA k num t A1 ks.length ck A2 ns.length cc),.bool true]) (by simp [results,Tryd.results59,go_sem,q0,q1,q2,q3,q4]) rfl ?_
 exact F2
def FGetStep (p:ByteArray) (l:List ByteArray) (n:Nd) (len cap:Nat) (TA:Nat → Nat → Option Addr):Prop:=p.size ≤ 9223372036854775807 → ∀ (cs:List Value) (w:World) (S:Nat → Prop) (ab ao:Nat),NdIn w S n cs → (∀ b,S b → b < w.heap.size) → (∃ B,∀ b,S b ↔ b < B) → ab < w.heap.size → w.cell? (qa ab ao) = some (.string p) → Reads w w.heap.size 1 (TA ab ao) l.length (l.map Value.string) → cap ≤ maxLen → sizeOk n → n.count ≤ 1000000 → Calls Tryd.prog 59 #[.agg cs.toArray,.slice (some (qa ab ao)) len cap] w (GetP (getN (p :: l) n) S w)
set_option maxHeartbeats 1000000 in
theorem fget_other (p:ByteArray) (l:List ByteArray) (n:Nd) (c:Nat) (TA:Nat → Nat → Option Addr) (h7:n.kind ≠ 7) (h6:n.kind ≠ 6):FGetStep p l n (l.length + 1) c TA:=by
 intro hpz cs w S ab ao hn hS hSB hab hp hr hc hs hct
 cases n with
 | mk k num t ks ns =>
 unfold NdIn at hn
 obtain ⟨A1,ck,A2,cc,xs,rfl,hks,hxs,hns,ik,inn,ht,hkl,hkm,hmm⟩:=hn
 simp only [Nd.kind] at h7 h6
 have e7:(k == 7) = false:=by rw [beq_eq_false_iff_ne];exact h7
 have e6:(k == 6) = false:=by rw [beq_eq_false_iff_ne];exact h6
 have HR:Hid (getN (p :: l) (.mk k num t ks ns) = none):=by show _ = _;simp [getN,Nd.kind,h7,h6]
 have HS:=Lib.hid hS
 have HSB:=Lib.hid hSB
 clear hSB
 clear hS hks hxs hns hkl hr h7 h6 hp
 show Calls Tryd.prog 59 #[.agg (nA k num t A1 ks.length ck A2 ns.length cc),.slice (some (qa ab ao)) (l.length + 1) c] w _
 have hA:Below w.heap.size w ((w.alloc (.cells (nA k num t A1 ks.length ck A2 ns.length cc) 25)).alloc (.cells Zn 25)):=((Below.refl _ _).alloc (Nat.le_refl _) _).alloc (by simp) _
 have hX:Blk ((w.alloc (.cells (nA k num t A1 ks.length ck A2 ns.length cc) 25)).alloc (.cells Zn 25)) w.heap.size 25 (nA k num t A1 ks.length ck A2 ns.length cc):=(Blk.new w _ _).alloc _
 have hY:Blk ((w.alloc (.cells (nA k num t A1 ks.length ck A2 ns.length cc) 25)).alloc (.cells Zn 25)) (w.heap.size + 1) 25 Zn:=by
  have:=Blk.new (w.alloc (.cells (nA k num t A1 ks.length ck A2 ns.length cc) 25)) 25 Zn
  simpa using this
 have hZ:w.heap.size + 2 = ((w.alloc (.cells (nA k num t A1 ks.length ck A2 ns.length cc) 25)).alloc (.cells Zn 25)).heap.size:=by simp
 have HA:=Lib.hid hA
 have HX:=Lib.hid hX
 have HY:=Lib.hid hY
 clear hA hX hY
 go_enter Tryd.func59,Tryd.ntmps59
 go_upto_region 1 with fail
 generalize (w.alloc (.cells (nA k num t A1 ks.length ck A2 ns.length cc) 25)).alloc (.cells Zn 25) = wa at *
 obtain ⟨c0,c1,c2,c3,c4⟩:=HX.out.cells5
 obtain ⟨d0,d1,d2,d3,d4⟩:=HY.out.cells5
 have f0:=HY.out.frozen 0
 have f1:=HY.out.frozen 1
 have f2:=HY.out.frozen 2
 have f3:=HY.out.frozen 3
 have f4:=HY.out.frozen 4
 go_wp2_with fail
 clear d0 d1 d2 d3 d4 f0 f1 f2 f3 f4
 have F:=get_fin (r:=none) (S:=S) (S2:=(fun _ => False)) (w:=w) (w2:=wa) (y:=w.heap.size + 1) (by omega) HA.out HY.out (nd0_in 0 (by unfold I64;omega) _ _) (fun b hb => hb.elim)
 unfold set5 at F
 generalize (((((wa).setCell (qa (w.heap.size + 1) 0) (.int .i64 0)).setCell (qa (w.heap.size + 1) 1) (.int .i64 0)).setCell (qa (w.heap.size + 1) 2) (.string ⟨#[]⟩)).setCell (qa (w.heap.size + 1) 3) (.slice none 0 0)).setCell (qa (w.heap.size + 1) 4) (.slice none 0 0) = WF at *
 obtain ⟨F1,F2⟩:=F
 obtain ⟨q0,q1,q2,q3,q4⟩:=F1.cells5
 refine bodyPost_ret (v:=.tuple #[.agg Zn,.bool false]) (by simp [results,Tryd.results59,go_sem,q0,q1,q2,q3,q4]) rfl ?_
 rw [HR.out];exact F2
set_option maxHeartbeats 2000000 in
theorem fget_place1 (p:ByteArray) (IH:FGetOK []) (n:Nd) (h6:n.kind = 6) (hp42:p.toList ≠ [42]):FGetStep p [] n 1 1 (fun ab ao => some (qa ab ao)):=by
 intro hpz cs w S ab ao hn hS hSB hab hp hr hc hs hct
 cases n with
 | mk k num t ks ns =>
 have HK:Hid (∀ (i:Nat) (m:Nd),ns[i]? = some m → sizeOk m ∧ m.count ≤ 1000000):=fun i m hi => by
  have:=kid_ok (n:=.mk k num t ks ns) (i:=i) (m:=m) hi hs
  exact ⟨this.1,by omega⟩
 unfold NdIn at hn
 obtain ⟨A1,ck,A2,cc,xs,rfl,hks,hxs,hns,ik,inn,ht,hkl,hkm,hmm⟩:=hn
 simp only [Nd.kind] at h6
 subst h6
 obtain ⟨V,hV⟩:∃ V,V = placeF p ns.length:=⟨_,rfl⟩
 have e42:(p.toList == [42]) = false:=by rw [beq_eq_false_iff_ne];exact hp42
 have HS:=Lib.hid hS
 have HSB:=Lib.hid hSB
 clear hSB
 have HXS:=Lib.hid hxs
 have HNS:=Lib.hid hns
 have HR:=Lib.hid hr
 have HV:=Lib.hid hV
 clear hS hks hxs hns hkl hr hV hp42 hs
 have hp0:=Lib.hid hp
 show Calls Tryd.prog 59 #[.agg (nA 6 num t A1 ks.length ck A2 ns.length cc),.slice (some (qa ab ao)) 1 1] w _
 have hA:Below w.heap.size w ((w.alloc (.cells (nA 6 num t A1 ks.length ck A2 ns.length cc) 25)).alloc (.cells Zn 25)):=((Below.refl _ _).alloc (Nat.le_refl _) _).alloc (by simp) _
 have hX:Blk ((w.alloc (.cells (nA 6 num t A1 ks.length ck A2 ns.length cc) 25)).alloc (.cells Zn 25)) w.heap.size 25 (nA 6 num t A1 ks.length ck A2 ns.length cc):=(Blk.new w _ _).alloc _
 have hY:Blk ((w.alloc (.cells (nA 6 num t A1 ks.length ck A2 ns.length cc) 25)).alloc (.cells Zn 25)) (w.heap.size + 1) 25 Zn:=by
  have:=Blk.new (w.alloc (.cells (nA 6 num t A1 ks.length ck A2 ns.length cc) 25)) 25 Zn
  simpa using this
 have hZ:w.heap.size + 2 = ((w.alloc (.cells (nA 6 num t A1 ks.length ck A2 ns.length cc) 25)).alloc (.cells Zn 25)).heap.size:=by simp
 have HA:=Lib.hid hA
 have HX:=Lib.hid hX
 have HY:=Lib.hid hY
 clear hA hX hY
 go_enter Tryd.func59,Tryd.ntmps59
 go_upto_region 1 with fail
 generalize (w.alloc (.cells (nA 6 num t A1 ks.length ck A2 ns.length cc) 25)).alloc (.cells Zn 25) = wa at *
 have p0:wa.cell? (qa ab ao) = some (.string p):=(HA.out.cell (p:=(qa ab ao)) hab).trans hp0.out
 obtain ⟨c0,c1,c2,c3,c4⟩:=HX.out.cells5
 obtain ⟨d0,d1,d2,d3,d4⟩:=HY.out.cells5
 have f0:=HY.out.frozen 0
 have f1:=HY.out.frozen 1
 have f2:=HY.out.frozen 2
 have f3:=HY.out.frozen 3
 have f4:=HY.out.frozen 4
 clear hp
 have HPL:Hid (∀ w',Calls Tryd.prog 73 #[.string p] w' (TNumEnd (numB p) w')):=fun w' => rnumber_any p w' hpz
 have HPV:Hid (V = if (numB p).2 = false ∨ (ns.length:Int) ≤ (numB p).1 then -1 else (numB p).1):=by
  show _ = _
  rw [HV.out]
  exact place_num p ns.length (by have:=len_counts ns;simp only [Nd.count] at hct;omega)
 have HNN:=Lib.hid (numB_nonneg p)
 clear hpz
 generalize numB p = q at *
 obtain ⟨v1,v2⟩:=q
 go_wp2_with fail
 refine (HPL.out _:Calls _ _ _ _ _).mono ?_;rintro e w5 ⟨rfl,hw5⟩;obtain rfl:_ = w5:=hw5
 have HA2:=HA
 have HX2:=HX
 have HY2:=HY
 have hZ2:=hZ
 clear HA HX HY hZ c0 c1 c2 c3 c4 d0 d1 d2 d3 d4 f0 f1 f2 f3 f4 p0 HPL
 obtain ⟨wd,rfl⟩:∃ wd:World,wd = wa:=⟨_,rfl⟩
 by_cases hv:V < 0
 ·have HG:Hid (getN (p :: []) (.mk 6 num t ks ns) = none):=by
   show _ = _
   rw [HV.out] at hv
   have e42':p.toList ≠ [42]:=by rw [beq_eq_false_iff_ne] at e42;exact e42
   simp [getN,Nd.kind,Nd.kids,e42',hv]
  have hcs:v2 = false ∨ (v2 = true ∧ (ns.length:Int) ≤ v1):=by
   have h:=HPV.out
   cases v2 with
   | false => exact .inl rfl
   | true =>
    refine .inr ⟨rfl,?_⟩
    by_cases hle:(ns.length:Int) ≤ v1
    ·exact hle
    ·rw [if_neg (by simp;omega)] at h
     have h0:=HNN.out rfl
     omega
  clear HPV
  rcases hcs with rfl | ⟨rfl,hge⟩
  all_goals
   obtain ⟨c0,c1,c2,c3,c4⟩:=HX2.out.cells5
   obtain ⟨d0,d1,d2,d3,d4⟩:=HY2.out.cells5
   have f0:=HY2.out.frozen 0
   have f1:=HY2.out.frozen 1
   have f2:=HY2.out.frozen 2
   have f3:=HY2.out.frozen 3
   have f4:=HY2.out.frozen 4
   go_wp2_with fail
   clear d0 d1 d2 d3 d4 f0 f1 f2 f3 f4
   have F:=get_fin (r:=none) (S:=S) (S2:=(fun _ => False)) (w:=w) (w2:=wd) (y:=w.heap.size + 1) (by omega) HA2.out HY2.out (nd0_in 0 (by unfold I64;omega) _ _) (fun b hb => hb.elim)
   unfold set5 at F
   generalize (((((wd).setCell (qa (w.heap.size + 1) 0) (.int .i64 0)).setCell (qa (w.heap.size + 1) 1) (.int .i64 0)).setCell (qa (w.heap.size + 1) 2) (.string ⟨#[]⟩)).setCell (qa (w.heap.size + 1) 3) (.slice none 0 0)).setCell (qa (w.heap.size + 1) 4) (.slice none 0 0) = WF at *
   obtain ⟨F1,F2⟩:=F
   obtain ⟨q0,q1,q2,q3,q4⟩:=F1.cells5
   refine bodyPost_ret (v:=.tuple #[.agg Zn,.bool false]) (by simp [results,Tryd.results59,go_sem,q0,q1,q2,q3,q4]) rfl ?_
   rw [HG.out];exact F2
 ·obtain ⟨i,hi,hVi⟩:∃ i:Nat,i < ns.length ∧ V = i:=by
   rcases placeF_lt p ns.length with h | ⟨i,h1,h2⟩
   ·rw [HV.out] at hv;omega
   ·exact ⟨i,h1,HV.out.trans h2⟩
  have hv12:v2 = true ∧ v1 = (i:Int):=by
   have h:=HPV.out
   by_cases hc:v2 = false ∨ (ns.length:Int) ≤ v1
   ·rw [if_pos hc] at h;omega
   ·rw [if_neg hc] at h
    simp only [not_or] at hc
    exact ⟨by simpa using hc.1,by omega⟩
  obtain ⟨rfl,rfl⟩:=hv12
  clear HPV
  have hkp:∀ q:Addr,S q.block → wd.cell? q = w.cell? q:=fun q hq => HA2.out.cell (HS.out _ hq)
  obtain ⟨b,off,m,rfl,hbS,hmi,x0,x1,x2,x3,x4,x5,x6,x7,x8,hnd,e0,e1,e2,e3,e4⟩:=(HXS.out.keep hkp).nd (NdsIn.keep hkp (fun _ h => h) _ _ HNS.out) hi
  have HG:Hid (getN (p :: []) (.mk 6 num t ks ns) = getN [] m):=by
   show _ = _
   have e42':p.toList ≠ [42]:=by rw [beq_eq_false_iff_ne] at e42;exact e42
   have hp0:=HV.out.symm.trans hVi
   have hnn:¬ (i:Int) < 0:=by omega
   simp [getN,Nd.kind,Nd.kids,e42',hp0,hmi,hnn]
  subst hVi
  have hbl:=HS.out b hbS
  have HM:=Lib.hid (HK.out i m hmi)
  have HB:=Lib.hid hbS
  have HIH:Hid (∀ w',Below w.heap.size w w' → Calls Tryd.prog 59 #[.agg (nA x0 x1 x2 x3 x4 x5 x6 x7 x8),.slice (some (qa ab ao)) 0 0] w' (GetP (getN [] m) S w')):=fun w' h' =>
   IH m (nL x0 x1 x2 x3 x4 x5 x6 x7 x8) w' S _ 0 (NdIn.keep (fun q hq => (h'.cell (HS.out _ hq)).trans (hkp q hq).symm) (fun _ h => h) _ _ hnd) (fun b hb => by have:=HS.out b hb;have:=h'.size;omega) HSB.out ((HR.out.keep fun q hq => h'.cell hq).more h'.size) (Nat.le_refl _) (by unfold maxLen at *;omega) HM.out.1 HM.out.2
  have hi0:(0:Int) ≤ (i:Int):=by omega
  have hi1:(i:Int) < (ns.length:Int):=by omega
  have hl1:(1:Int) ≤ (1:Nat):=by omega
  skip
  have hxy:w.heap.size ≠ w.heap.size + 1:=by omega
  have hby:b ≠ w.heap.size + 1:=by omega
  obtain ⟨c0,c1,c2,c3,c4⟩:=HX2.out.cells5
  clear c0 c1 c2 c3
  obtain ⟨d0,d1,d2,d3,d4⟩:=HY2.out.cells5
  have f0:=HY2.out.frozen 0
  have f1:=HY2.out.frozen 1
  have f2:=HY2.out.frozen 2
  have f3:=HY2.out.frozen 3
  have f4:=HY2.out.frozen 4
  have hgs:GS w w.heap.size 4 b (off + i * 5) (.slice (some (qa b off)) ns.length cc) (.int .i64 x0) (.int .i64 x1) (.string x2) (.slice x3 x4 x5) (.slice x6 x7 x8) wd:=⟨c4,e0,e1,e2,e3,e4,HA2.out⟩
  have HGS:=Lib.hid hgs
  have HS0:Hid (wd.drew.cell? (qa w.heap.size 4) = some (.slice (some (qa b off)) ns.length cc) ∧ wd.drew.cell? (qa b (off + i * 5)) = some (.int .i64 x0) ∧ wd.drew.cell? (qa b (off + i * 5 + 1)) = some (.int .i64 x1) ∧ wd.drew.cell? (qa b (off + i * 5 + 2)) = some (.string x2) ∧ wd.drew.cell? (qa b (off + i * 5 + 3)) = some (.slice x3 x4 x5) ∧ wd.drew.cell? (qa b (off + i * 5 + 4)) = some (.slice x6 x7 x8) ∧ Below w.heap.size w wd.drew):=hgs.drew
  clear hkp hmi hnd hbS IH hv hgs
  go_wp2_with fail
  go_region_held3 (fun w' => w'.cell? (qa w.heap.size 4) = some (.slice (some (qa b off)) ns.length cc) ∧ w'.cell? (qa b (off + i * 5)) = some (.int .i64 x0) ∧ w'.cell? (qa b (off + i * 5 + 1)) = some (.int .i64 x1) ∧ w'.cell? (qa b (off + i * 5 + 2)) = some (.string x2) ∧ w'.cell? (qa b (off + i * 5 + 3)) = some (.slice x3 x4 x5) ∧ w'.cell? (qa b (off + i * 5 + 4)) = some (.slice x6 x7 x8) ∧ Below w.heap.size w w') (first | with_reducible exact HS0.out | with_reducible exact HS5.out | with_reducible exact HSF.out) (first
   | (go_at_call 59;refine (HIH.out _ (by first | assumption | exact HA2.out.drew)).mono ?_;rintro e w5 ⟨y0,y1,y2,y3,y4,y5,y6,y7,y8,rfl,hn5,hb5⟩;have hY5:=HY2.out.drew.below hb5 HY2.out.drew.lt;have HY5:=Lib.hid hY5;have HN5:=Lib.hid hn5;have hz5:wd.heap.size ≤ w5.heap.size:=hb5.size;clear hn5;obtain ⟨d0,d1,d2,d3,d4⟩:=hY5.cells5;have f0:=hY5.frozen 0;have f1:=hY5.frozen 1;have f2:=hY5.frozen 2;have f3:=hY5.frozen 3;have f4:=hY5.frozen 4;have HS5:Hid (w5.cell? (qa w.heap.size 4) = some (.slice (some (qa b off)) ns.length cc) ∧ w5.cell? (qa b (off + i * 5)) = some (.int .i64 x0) ∧ w5.cell? (qa b (off + i * 5 + 1)) = some (.int .i64 x1) ∧ w5.cell? (qa b (off + i * 5 + 2)) = some (.string x2) ∧ w5.cell? (qa b (off + i * 5 + 3)) = some (.slice x3 x4 x5) ∧ w5.cell? (qa b (off + i * 5 + 4)) = some (.slice x6 x7 x8) ∧ Below w.heap.size w w5):=HGS.out.drew.below hb5;have HSF:Hid ((((((w5.setCell (qa (w.heap.size + 1) 0) (.int .i64 y0)).setCell (qa (w.heap.size + 1) 1) (.int .i64 y1)).setCell (qa (w.heap.size + 1) 2) (.string y2)).setCell (qa (w.heap.size + 1) 3) (.slice y3 y4 y5)).setCell (qa (w.heap.size + 1) 4) (.slice y6 y7 y8)).cell? (qa w.heap.size 4) = some (.slice (some (qa b off)) ns.length cc) ∧ (((((w5.setCell (qa (w.heap.size + 1) 0) (.int .i64 y0)).setCell (qa (w.heap.size + 1) 1) (.int .i64 y1)).setCell (qa (w.heap.size + 1) 2) (.string y2)).setCell (qa (w.heap.size + 1) 3) (.slice y3 y4 y5)).setCell (qa (w.heap.size + 1) 4) (.slice y6 y7 y8)).cell? (qa b (off + i * 5)) = some (.int .i64 x0) ∧ (((((w5.setCell (qa (w.heap.size + 1) 0) (.int .i64 y0)).setCell (qa (w.heap.size + 1) 1) (.int .i64 y1)).setCell (qa (w.heap.size + 1) 2) (.string y2)).setCell (qa (w.heap.size + 1) 3) (.slice y3 y4 y5)).setCell (qa (w.heap.size + 1) 4) (.slice y6 y7 y8)).cell? (qa b (off + i * 5 + 1)) = some (.int .i64 x1) ∧ (((((w5.setCell (qa (w.heap.size + 1) 0) (.int .i64 y0)).setCell (qa (w.heap.size + 1) 1) (.int .i64 y1)).setCell (qa (w.heap.size + 1) 2) (.string y2)).setCell (qa (w.heap.size + 1) 3) (.slice y3 y4 y5)).setCell (qa (w.heap.size + 1) 4) (.slice y6 y7 y8)).cell? (qa b (off + i * 5 + 2)) = some (.string x2) ∧ (((((w5.setCell (qa (w.heap.size + 1) 0) (.int .i64 y0)).setCell (qa (w.heap.size + 1) 1) (.int .i64 y1)).setCell (qa (w.heap.size + 1) 2) (.string y2)).setCell (qa (w.heap.size + 1) 3) (.slice y3 y4 y5)).setCell (qa (w.heap.size + 1) 4) (.slice y6 y7 y8)).cell? (qa b (off + i * 5 + 3)) = some (.slice x3 x4 x5) ∧ (((((w5.setCell (qa (w.heap.size + 1) 0) (.int .i64 y0)).setCell (qa (w.heap.size + 1) 1) (.int .i64 y1)).setCell (qa (w.heap.size + 1) 2) (.string y2)).setCell (qa (w.heap.size + 1) 3) (.slice y3 y4 y5)).setCell (qa (w.heap.size + 1) 4) (.slice y6 y7 y8)).cell? (qa b (off + i * 5 + 4)) = some (.slice x6 x7 x8) ∧ Below w.heap.size w (((((w5.setCell (qa (w.heap.size + 1) 0) (.int .i64 y0)).setCell (qa (w.heap.size + 1) 1) (.int .i64 y1)).setCell (qa (w.heap.size + 1) 2) (.string y2)).setCell (qa (w.heap.size + 1) 3) (.slice y3 y4 y5)).setCell (qa (w.heap.size + 1) 4) (.slice y6 y7 y8))):=(HGS.out.drew.below hb5).set5 (by omega) hxy hby))
  go_wp2_with fail
  clear d0 d1 d2 d3 d4 f0 f1 f2 f3 f4
  have F:=get_fin (r:=getN [] m) (S:=S) (S2:=(fun b => S b ∨ Since wd.drew w5 b)) (w:=w) (w2:=w5) (y:=w.heap.size + 1) (by omega) HS5.out.2.2.2.2.2.2 HY5.out HN5.out (fun b hb => by
    rcases hb with hb | hb
    ·exact ⟨.inl hb,fun e => by have:=HS.out b hb;omega⟩
    ·have h1:wd.heap.size ≤ b:=hb.1
     exact ⟨.inr ⟨by omega,hb.2⟩,by omega⟩)
  unfold set5 at F
  generalize (((((w5).setCell (qa (w.heap.size + 1) 0) (.int .i64 y0)).setCell (qa (w.heap.size + 1) 1) (.int .i64 y1)).setCell (qa (w.heap.size + 1) 2) (.string y2)).setCell (qa (w.heap.size + 1) 3) (.slice y3 y4 y5)).setCell (qa (w.heap.size + 1) 4) (.slice y6 y7 y8) = WF at *
  obtain ⟨F1,F2⟩:=F
  obtain ⟨q0,q1,q2,q3,q4⟩:=F1.cells5
  refine bodyPost_ret (v:=.tuple #[.agg (nA y0 y1 y2 y3 y4 y5 y6 y7 y8),.bool (getN [] m).isSome]) (by simp [results,Tryd.results59,go_sem,q0,q1,q2,q3,q4]) rfl ?_
  rw [HG.out];exact F2
set_option maxHeartbeats 2000000 in
theorem fget_place2 (p:ByteArray) (l:List ByteArray) (c:Nat) (hc1:¬ c = 1) (hl:l.length + 1 ≤ c) (IH:FGetOK l) (n:Nd) (h6:n.kind = 6) (hp42:p.toList ≠ [42]):FGetStep p l n (l.length + 1) c (fun ab ao => some (qa ab (ao + 1))):=by
 intro hpz cs w S ab ao hn hS hSB hab hp hr hc hs hct
 cases n with
 | mk k num t ks ns =>
 have HK:Hid (∀ (i:Nat) (m:Nd),ns[i]? = some m → sizeOk m ∧ m.count ≤ 1000000):=fun i m hi => by
  have:=kid_ok (n:=.mk k num t ks ns) (i:=i) (m:=m) hi hs
  exact ⟨this.1,by omega⟩
 unfold NdIn at hn
 obtain ⟨A1,ck,A2,cc,xs,rfl,hks,hxs,hns,ik,inn,ht,hkl,hkm,hmm⟩:=hn
 simp only [Nd.kind] at h6
 subst h6
 obtain ⟨V,hV⟩:∃ V,V = placeF p ns.length:=⟨_,rfl⟩
 have e42:(p.toList == [42]) = false:=by rw [beq_eq_false_iff_ne];exact hp42
 have HS:=Lib.hid hS
 have HSB:=Lib.hid hSB
 clear hSB
 have HXS:=Lib.hid hxs
 have HNS:=Lib.hid hns
 have HR:=Lib.hid hr
 have HV:=Lib.hid hV
 clear hS hks hxs hns hkl hr hV hp42 hs
 have hp0:=Lib.hid hp
 show Calls Tryd.prog 59 #[.agg (nA 6 num t A1 ks.length ck A2 ns.length cc),.slice (some (qa ab ao)) (l.length + 1) c] w _
 have hA:Below w.heap.size w ((w.alloc (.cells (nA 6 num t A1 ks.length ck A2 ns.length cc) 25)).alloc (.cells Zn 25)):=((Below.refl _ _).alloc (Nat.le_refl _) _).alloc (by simp) _
 have hX:Blk ((w.alloc (.cells (nA 6 num t A1 ks.length ck A2 ns.length cc) 25)).alloc (.cells Zn 25)) w.heap.size 25 (nA 6 num t A1 ks.length ck A2 ns.length cc):=(Blk.new w _ _).alloc _
 have hY:Blk ((w.alloc (.cells (nA 6 num t A1 ks.length ck A2 ns.length cc) 25)).alloc (.cells Zn 25)) (w.heap.size + 1) 25 Zn:=by
  have:=Blk.new (w.alloc (.cells (nA 6 num t A1 ks.length ck A2 ns.length cc) 25)) 25 Zn
  simpa using this
 have hZ:w.heap.size + 2 = ((w.alloc (.cells (nA 6 num t A1 ks.length ck A2 ns.length cc) 25)).alloc (.cells Zn 25)).heap.size:=by simp
 have HA:=Lib.hid hA
 have HX:=Lib.hid hX
 have HY:=Lib.hid hY
 clear hA hX hY
 go_enter Tryd.func59,Tryd.ntmps59
 go_upto_region 1 with fail
 generalize (w.alloc (.cells (nA 6 num t A1 ks.length ck A2 ns.length cc) 25)).alloc (.cells Zn 25) = wa at *
 have p0:wa.cell? (qa ab ao) = some (.string p):=(HA.out.cell (p:=(qa ab ao)) hab).trans hp0.out
 obtain ⟨c0,c1,c2,c3,c4⟩:=HX.out.cells5
 obtain ⟨d0,d1,d2,d3,d4⟩:=HY.out.cells5
 have f0:=HY.out.frozen 0
 have f1:=HY.out.frozen 1
 have f2:=HY.out.frozen 2
 have f3:=HY.out.frozen 3
 have f4:=HY.out.frozen 4
 clear hp
 have HPL:Hid (∀ w',Calls Tryd.prog 73 #[.string p] w' (TNumEnd (numB p) w')):=fun w' => rnumber_any p w' hpz
 have HPV:Hid (V = if (numB p).2 = false ∨ (ns.length:Int) ≤ (numB p).1 then -1 else (numB p).1):=by
  show _ = _
  rw [HV.out]
  exact place_num p ns.length (by have:=len_counts ns;simp only [Nd.count] at hct;omega)
 have HNN:=Lib.hid (numB_nonneg p)
 clear hpz
 generalize numB p = q at *
 obtain ⟨v1,v2⟩:=q
 go_wp2_with fail
 refine (HPL.out _:Calls _ _ _ _ _).mono ?_;rintro e w5 ⟨rfl,hw5⟩;obtain rfl:_ = w5:=hw5
 have HA2:=HA
 have HX2:=HX
 have HY2:=HY
 have hZ2:=hZ
 clear HA HX HY hZ c0 c1 c2 c3 c4 d0 d1 d2 d3 d4 f0 f1 f2 f3 f4 p0 HPL
 obtain ⟨wd,rfl⟩:∃ wd:World,wd = wa:=⟨_,rfl⟩
 by_cases hv:V < 0
 ·have HG:Hid (getN (p :: l) (.mk 6 num t ks ns) = none):=by
   show _ = _
   rw [HV.out] at hv
   have e42':p.toList ≠ [42]:=by rw [beq_eq_false_iff_ne] at e42;exact e42
   simp [getN,Nd.kind,Nd.kids,e42',hv]
  have hcs:v2 = false ∨ (v2 = true ∧ (ns.length:Int) ≤ v1):=by
   have h:=HPV.out
   cases v2 with
   | false => exact .inl rfl
   | true =>
    refine .inr ⟨rfl,?_⟩
    by_cases hle:(ns.length:Int) ≤ v1
    ·exact hle
    ·rw [if_neg (by simp;omega)] at h
     have h0:=HNN.out rfl
     omega
  clear HPV
  rcases hcs with rfl | ⟨rfl,hge⟩
  all_goals
   obtain ⟨c0,c1,c2,c3,c4⟩:=HX2.out.cells5
   obtain ⟨d0,d1,d2,d3,d4⟩:=HY2.out.cells5
   have f0:=HY2.out.frozen 0
   have f1:=HY2.out.frozen 1
   have f2:=HY2.out.frozen 2
   have f3:=HY2.out.frozen 3
   have f4:=HY2.out.frozen 4
   go_wp2_with fail
   clear d0 d1 d2 d3 d4 f0 f1 f2 f3 f4
   have F:=get_fin (r:=none) (S:=S) (S2:=(fun _ => False)) (w:=w) (w2:=wd) (y:=w.heap.size + 1) (by omega) HA2.out HY2.out (nd0_in 0 (by unfold I64;omega) _ _) (fun b hb => hb.elim)
   unfold set5 at F
   generalize (((((wd).setCell (qa (w.heap.size + 1) 0) (.int .i64 0)).setCell (qa (w.heap.size + 1) 1) (.int .i64 0)).setCell (qa (w.heap.size + 1) 2) (.string ⟨#[]⟩)).setCell (qa (w.heap.size + 1) 3) (.slice none 0 0)).setCell (qa (w.heap.size + 1) 4) (.slice none 0 0) = WF at *
   obtain ⟨F1,F2⟩:=F
   obtain ⟨q0,q1,q2,q3,q4⟩:=F1.cells5
   refine bodyPost_ret (v:=.tuple #[.agg Zn,.bool false]) (by simp [results,Tryd.results59,go_sem,q0,q1,q2,q3,q4]) rfl ?_
   rw [HG.out];exact F2
 ·obtain ⟨i,hi,hVi⟩:∃ i:Nat,i < ns.length ∧ V = i:=by
   rcases placeF_lt p ns.length with h | ⟨i,h1,h2⟩
   ·rw [HV.out] at hv;omega
   ·exact ⟨i,h1,HV.out.trans h2⟩
  have hv12:v2 = true ∧ v1 = (i:Int):=by
   have h:=HPV.out
   by_cases hc:v2 = false ∨ (ns.length:Int) ≤ v1
   ·rw [if_pos hc] at h;omega
   ·rw [if_neg hc] at h
    simp only [not_or] at hc
    exact ⟨by simpa using hc.1,by omega⟩
  obtain ⟨rfl,rfl⟩:=hv12
  clear HPV
  have hkp:∀ q:Addr,S q.block → wd.cell? q = w.cell? q:=fun q hq => HA2.out.cell (HS.out _ hq)
  obtain ⟨b,off,m,rfl,hbS,hmi,x0,x1,x2,x3,x4,x5,x6,x7,x8,hnd,e0,e1,e2,e3,e4⟩:=(HXS.out.keep hkp).nd (NdsIn.keep hkp (fun _ h => h) _ _ HNS.out) hi
  have HG:Hid (getN (p :: l) (.mk 6 num t ks ns) = getN l m):=by
   show _ = _
   have e42':p.toList ≠ [42]:=by rw [beq_eq_false_iff_ne] at e42;exact e42
   have hp0:=HV.out.symm.trans hVi
   have hnn:¬ (i:Int) < 0:=by omega
   simp [getN,Nd.kind,Nd.kids,e42',hp0,hmi,hnn]
  subst hVi
  have hbl:=HS.out b hbS
  have HM:=Lib.hid (HK.out i m hmi)
  have HB:=Lib.hid hbS
  have HIH:Hid (∀ w',Below w.heap.size w w' → Calls Tryd.prog 59 #[.agg (nA x0 x1 x2 x3 x4 x5 x6 x7 x8),.slice (some (qa ab (ao + 1))) l.length (c - 1)] w' (GetP (getN l m) S w')):=fun w' h' =>
   IH m (nL x0 x1 x2 x3 x4 x5 x6 x7 x8) w' S _ (c - 1) (NdIn.keep (fun q hq => (h'.cell (HS.out _ hq)).trans (hkp q hq).symm) (fun _ h => h) _ _ hnd) (fun b hb => by have:=HS.out b hb;have:=h'.size;omega) HSB.out ((HR.out.keep fun q hq => h'.cell hq).more h'.size) (by omega) (by unfold maxLen at *;omega) HM.out.1 HM.out.2
  have hi0:(0:Int) ≤ (i:Int):=by omega
  have hi1:(i:Int) < (ns.length:Int):=by omega
  have hl1:(1:Int) ≤ ((l.length + 1):Nat):=by omega
  have hx:¬ (l.length:Int) + 1 < 1:=by omega
  have hxy:w.heap.size ≠ w.heap.size + 1:=by omega
  have hby:b ≠ w.heap.size + 1:=by omega
  obtain ⟨c0,c1,c2,c3,c4⟩:=HX2.out.cells5
  clear c0 c1 c2 c3
  obtain ⟨d0,d1,d2,d3,d4⟩:=HY2.out.cells5
  have f0:=HY2.out.frozen 0
  have f1:=HY2.out.frozen 1
  have f2:=HY2.out.frozen 2
  have f3:=HY2.out.frozen 3
  have f4:=HY2.out.frozen 4
  have hgs:GS w w.heap.size 4 b (off + i * 5) (.slice (some (qa b off)) ns.length cc) (.int .i64 x0) (.int .i64 x1) (.string x2) (.slice x3 x4 x5) (.slice x6 x7 x8) wd:=⟨c4,e0,e1,e2,e3,e4,HA2.out⟩
  have HGS:=Lib.hid hgs
  have HS0:Hid (wd.drew.cell? (qa w.heap.size 4) = some (.slice (some (qa b off)) ns.length cc) ∧ wd.drew.cell? (qa b (off + i * 5)) = some (.int .i64 x0) ∧ wd.drew.cell? (qa b (off + i * 5 + 1)) = some (.int .i64 x1) ∧ wd.drew.cell? (qa b (off + i * 5 + 2)) = some (.string x2) ∧ wd.drew.cell? (qa b (off + i * 5 + 3)) = some (.slice x3 x4 x5) ∧ wd.drew.cell? (qa b (off + i * 5 + 4)) = some (.slice x6 x7 x8) ∧ Below w.heap.size w wd.drew):=hgs.drew
  clear hkp hmi hnd hbS IH hv hgs
  go_wp2_with fail
  go_region_held3 (fun w' => w'.cell? (qa w.heap.size 4) = some (.slice (some (qa b off)) ns.length cc) ∧ w'.cell? (qa b (off + i * 5)) = some (.int .i64 x0) ∧ w'.cell? (qa b (off + i * 5 + 1)) = some (.int .i64 x1) ∧ w'.cell? (qa b (off + i * 5 + 2)) = some (.string x2) ∧ w'.cell? (qa b (off + i * 5 + 3)) = some (.slice x3 x4 x5) ∧ w'.cell? (qa b (off + i * 5 + 4)) = some (.slice x6 x7 x8) ∧ Below w.heap.size w w') (first | with_reducible exact HS0.out | with_reducible exact HS5.out | with_reducible exact HSF.out) (first
   | (go_at_call 59;refine (HIH.out _ (by first | assumption | exact HA2.out.drew)).mono ?_;rintro e w5 ⟨y0,y1,y2,y3,y4,y5,y6,y7,y8,rfl,hn5,hb5⟩;have hY5:=HY2.out.drew.below hb5 HY2.out.drew.lt;have HY5:=Lib.hid hY5;have HN5:=Lib.hid hn5;have hz5:wd.heap.size ≤ w5.heap.size:=hb5.size;clear hn5;obtain ⟨d0,d1,d2,d3,d4⟩:=hY5.cells5;have f0:=hY5.frozen 0;have f1:=hY5.frozen 1;have f2:=hY5.frozen 2;have f3:=hY5.frozen 3;have f4:=hY5.frozen 4;have HS5:Hid (w5.cell? (qa w.heap.size 4) = some (.slice (some (qa b off)) ns.length cc) ∧ w5.cell? (qa b (off + i * 5)) = some (.int .i64 x0) ∧ w5.cell? (qa b (off + i * 5 + 1)) = some (.int .i64 x1) ∧ w5.cell? (qa b (off + i * 5 + 2)) = some (.string x2) ∧ w5.cell? (qa b (off + i * 5 + 3)) = some (.slice x3 x4 x5) ∧ w5.cell? (qa b (off + i * 5 + 4)) = some (.slice x6 x7 x8) ∧ Below w.heap.size w w5):=HGS.out.drew.below hb5;have HSF:Hid ((((((w5.setCell (qa (w.heap.size + 1) 0) (.int .i64 y0)).setCell (qa (w.heap.size + 1) 1) (.int .i64 y1)).setCell (qa (w.heap.size + 1) 2) (.string y2)).setCell (qa (w.heap.size + 1) 3) (.slice y3 y4 y5)).setCell (qa (w.heap.size + 1) 4) (.slice y6 y7 y8)).cell? (qa w.heap.size 4) = some (.slice (some (qa b off)) ns.length cc) ∧ (((((w5.setCell (qa (w.heap.size + 1) 0) (.int .i64 y0)).setCell (qa (w.heap.size + 1) 1) (.int .i64 y1)).setCell (qa (w.heap.size + 1) 2) (.string y2)).setCell (qa (w.heap.size + 1) 3) (.slice y3 y4 y5)).setCell (qa (w.heap.size + 1) 4) (.slice y6 y7 y8)).cell? (qa b (off + i * 5)) = some (.int .i64 x0) ∧ (((((w5.setCell (qa (w.heap.size + 1) 0) (.int .i64 y0)).setCell (qa (w.heap.size + 1) 1) (.int .i64 y1)).setCell (qa (w.heap.size + 1) 2) (.string y2)).setCell (qa (w.heap.size + 1) 3) (.slice y3 y4 y5)).setCell (qa (w.heap.size + 1) 4) (.slice y6 y7 y8)).cell? (qa b (off + i * 5 + 1)) = some (.int .i64 x1) ∧ (((((w5.setCell (qa (w.heap.size + 1) 0) (.int .i64 y0)).setCell (qa (w.heap.size + 1) 1) (.int .i64 y1)).setCell (qa (w.heap.size + 1) 2) (.string y2)).setCell (qa (w.heap.size + 1) 3) (.slice y3 y4 y5)).setCell (qa (w.heap.size + 1) 4) (.slice y6 y7 y8)).cell? (qa b (off + i * 5 + 2)) = some (.string x2) ∧ (((((w5.setCell (qa (w.heap.size + 1) 0) (.int .i64 y0)).setCell (qa (w.heap.size + 1) 1) (.int .i64 y1)).setCell (qa (w.heap.size + 1) 2) (.string y2)).setCell (qa (w.heap.size + 1) 3) (.slice y3 y4 y5)).setCell (qa (w.heap.size + 1) 4) (.slice y6 y7 y8)).cell? (qa b (off + i * 5 + 3)) = some (.slice x3 x4 x5) ∧ (((((w5.setCell (qa (w.heap.size + 1) 0) (.int .i64 y0)).setCell (qa (w.heap.size + 1) 1) (.int .i64 y1)).setCell (qa (w.heap.size + 1) 2) (.string y2)).setCell (qa (w.heap.size + 1) 3) (.slice y3 y4 y5)).setCell (qa (w.heap.size + 1) 4) (.slice y6 y7 y8)).cell? (qa b (off + i * 5 + 4)) = some (.slice x6 x7 x8) ∧ Below w.heap.size w (((((w5.setCell (qa (w.heap.size + 1) 0) (.int .i64 y0)).setCell (qa (w.heap.size + 1) 1) (.int .i64 y1)).setCell (qa (w.heap.size + 1) 2) (.string y2)).setCell (qa (w.heap.size + 1) 3) (.slice y3 y4 y5)).setCell (qa (w.heap.size + 1) 4) (.slice y6 y7 y8))):=(HGS.out.drew.below hb5).set5 (by omega) hxy hby))
  go_wp2_with fail
  clear d0 d1 d2 d3 d4 f0 f1 f2 f3 f4
  have F:=get_fin (r:=getN l m) (S:=S) (S2:=(fun b => S b ∨ Since wd.drew w5 b)) (w:=w) (w2:=w5) (y:=w.heap.size + 1) (by omega) HS5.out.2.2.2.2.2.2 HY5.out HN5.out (fun b hb => by
    rcases hb with hb | hb
    ·exact ⟨.inl hb,fun e => by have:=HS.out b hb;omega⟩
    ·have h1:wd.heap.size ≤ b:=hb.1
     exact ⟨.inr ⟨by omega,hb.2⟩,by omega⟩)
  unfold set5 at F
  generalize (((((w5).setCell (qa (w.heap.size + 1) 0) (.int .i64 y0)).setCell (qa (w.heap.size + 1) 1) (.int .i64 y1)).setCell (qa (w.heap.size + 1) 2) (.string y2)).setCell (qa (w.heap.size + 1) 3) (.slice y3 y4 y5)).setCell (qa (w.heap.size + 1) 4) (.slice y6 y7 y8) = WF at *
  obtain ⟨F1,F2⟩:=F
  obtain ⟨q0,q1,q2,q3,q4⟩:=F1.cells5
  refine bodyPost_ret (v:=.tuple #[.agg (nA y0 y1 y2 y3 y4 y5 y6 y7 y8),.bool (getN l m).isSome]) (by simp [results,Tryd.results59,go_sem,q0,q1,q2,q3,q4]) rfl ?_
  rw [HG.out];exact F2
set_option maxHeartbeats 4000000 in
theorem fget_obj1 (p:ByteArray) (IH:FGetOK []) (n:Nd) (h7:n.kind = 7):FGetStep p [] n 1 1 (fun ab ao => some (qa ab ao)):=by
 intro hpz cs w S ab ao hn hS hSB hab hp hr hc hs hct
 have HSB:=Lib.hid hSB
 obtain ⟨B,hSB'⟩:=hSB
 have hBz:B ≤ w.heap.size:=by
  by_cases h:B ≤ w.heap.size
  ·exact h
  ·exact absurd (hS w.heap.size ((hSB' _).2 (by omega))) (by omega)
 have hn0:Hid (NdIs w B n cs):=NdIn.is (fun b hb => (hSB' b).1 hb) _ _ hn
 have HBS:Hid (∀ b,b < B → S b):=fun b hb => (hSB' b).2 hb
 clear hSB'
 have hs0:=Lib.hid hs
 have HKF:Hid (∀ m:Nd,findN n p = some m → sizeOk m ∧ m.count ≤ 1000000):=fun m hm => by
  obtain ⟨i,hi⟩:=findN_kid hm
  have:=kid_ok hi hs
  exact ⟨this.1,by omega⟩
 obtain ⟨F,hF⟩:∃ F,F = findN n p:=⟨_,rfl⟩
 have HG:Hid (∀ r,(∀ m,F = some m → getN [] m = r) → (F = none → r = none) → getN (p :: []) n = r):=fun r h1 h2 => by
  rw [getN,if_pos h7,← hF]
  cases F with
  | none => exact (h2 rfl).symm
  | some m => exact h1 m rfl
 have HF:=Lib.hid hF
 cases n with
 | mk k num t ks ns =>
 unfold NdIn at hn
 obtain ⟨A1,ck,A2,cc,xs,rfl,hks,hxs,hns,ik,inn,ht,hkl,hkm,hmm⟩:=hn
 simp only [Nd.kind] at h7
 subst h7
 have HFC:Hid (∀ w',Below w.heap.size w w' → Calls Tryd.prog 16 #[.agg (nA 7 num t A1 ks.length ck A2 ns.length cc),.string p] w' (RfindP F B w')):=fun w' h' => by
  rw [HF.out]
  exact rFind_any _ p _ w' B (hn0.out.below (h'.mono hBz)) (Nat.le_trans hBz h'.size)
 have HS:=Lib.hid hS
 have HR:=Lib.hid hr
 clear hS hks hxs hns hkl hr hs hF hn0 hs0 inn ht hkm hmm hct ik
 have hp0:=Lib.hid hp
 show Calls Tryd.prog 59 #[.agg (nA 7 num t A1 ks.length ck A2 ns.length cc),.slice (some (qa ab ao)) 1 1] w _
 have hA:Below w.heap.size w ((w.alloc (.cells (nA 7 num t A1 ks.length ck A2 ns.length cc) 25)).alloc (.cells Zn 25)):=((Below.refl _ _).alloc (Nat.le_refl _) _).alloc (by simp) _
 have hX:Blk ((w.alloc (.cells (nA 7 num t A1 ks.length ck A2 ns.length cc) 25)).alloc (.cells Zn 25)) w.heap.size 25 (nA 7 num t A1 ks.length ck A2 ns.length cc):=(Blk.new w _ _).alloc _
 have hY:Blk ((w.alloc (.cells (nA 7 num t A1 ks.length ck A2 ns.length cc) 25)).alloc (.cells Zn 25)) (w.heap.size + 1) 25 Zn:=by
  have:=Blk.new (w.alloc (.cells (nA 7 num t A1 ks.length ck A2 ns.length cc) 25)) 25 Zn
  simpa using this
 have hZ:w.heap.size + 2 = ((w.alloc (.cells (nA 7 num t A1 ks.length ck A2 ns.length cc) 25)).alloc (.cells Zn 25)).heap.size:=by simp
 have HA:=Lib.hid hA
 have HX:=Lib.hid hX
 have HY:=Lib.hid hY
 clear hA hX hY
 go_enter Tryd.func59,Tryd.ntmps59
 go_upto_region 1 with fail
 generalize (w.alloc (.cells (nA 7 num t A1 ks.length ck A2 ns.length cc) 25)).alloc (.cells Zn 25) = wa at *
 have p0:wa.cell? (qa ab ao) = some (.string p):=(HA.out.cell (p:=(qa ab ao)) hab).trans hp0.out
 obtain ⟨c0,c1,c2,c3,c4⟩:=HX.out.cells5
 clear hp
 have hl:w.heap.size < wa.heap.size:=by omega
 have hab2:ab ≠ wa.heap.size:=by omega
 have hxz:w.heap.size ≠ wa.heap.size:=by omega
 have hos:OS w w.heap.size ab ao (.int .i64 7) (.int .i64 num) (.string t) (.slice A1 ks.length ck) (.slice A2 ns.length cc) (.string p) wa:=⟨c0,c1,c2,c3,c4,p0,HA.out⟩
 have HS0:Hid (wa.drew.cell? (qa w.heap.size 0) = some (.int .i64 7) ∧ wa.drew.cell? (qa w.heap.size 1) = some (.int .i64 num) ∧ wa.drew.cell? (qa w.heap.size 2) = some (.string t) ∧ wa.drew.cell? (qa w.heap.size 3) = some (.slice A1 ks.length ck) ∧ wa.drew.cell? (qa w.heap.size 4) = some (.slice A2 ns.length cc) ∧ wa.drew.cell? (qa ab ao) = some (.string p) ∧ Below w.heap.size w wa.drew):=hos.drew
 have HSB0:Hid ((wa.drew.alloc (.cells Zn 25)).cell? (qa w.heap.size 0) = some (.int .i64 7) ∧ (wa.drew.alloc (.cells Zn 25)).cell? (qa w.heap.size 1) = some (.int .i64 num) ∧ (wa.drew.alloc (.cells Zn 25)).cell? (qa w.heap.size 2) = some (.string t) ∧ (wa.drew.alloc (.cells Zn 25)).cell? (qa w.heap.size 3) = some (.slice A1 ks.length ck) ∧ (wa.drew.alloc (.cells Zn 25)).cell? (qa w.heap.size 4) = some (.slice A2 ns.length cc) ∧ (wa.drew.alloc (.cells Zn 25)).cell? (qa ab ao) = some (.string p) ∧ Below w.heap.size w (wa.drew.alloc (.cells Zn 25))):=hos.drew.alloc _
 have HSB1:Hid ((wa.alloc (.cells Zn 25)).drew.cell? (qa w.heap.size 0) = some (.int .i64 7) ∧ (wa.alloc (.cells Zn 25)).drew.cell? (qa w.heap.size 1) = some (.int .i64 num) ∧ (wa.alloc (.cells Zn 25)).drew.cell? (qa w.heap.size 2) = some (.string t) ∧ (wa.alloc (.cells Zn 25)).drew.cell? (qa w.heap.size 3) = some (.slice A1 ks.length ck) ∧ (wa.alloc (.cells Zn 25)).drew.cell? (qa w.heap.size 4) = some (.slice A2 ns.length cc) ∧ (wa.alloc (.cells Zn 25)).drew.cell? (qa ab ao) = some (.string p) ∧ Below w.heap.size w (wa.alloc (.cells Zn 25)).drew):=(hos.alloc _).drew
 have HZB:Hid (Blk (wa.alloc (.cells Zn 25)).drew wa.heap.size 25 Zn):=(Blk.new wa _ _).drew
 clear hos
 go_upto_region 5 with fail
 go_cut [6,7] (fun t6 t7 wx => ∃ (zb:Nat) (y0 y1:Int) (y2:ByteArray) (y3:Option Addr) (y4 y5:Nat) (y6:Option Addr) (y7 y8:Nat),t6 = .pointer (some (qa zb 0)) ∧ t7 = .bool F.isSome ∧ Hid (Blk wx zb 25 (nA y0 y1 y2 y3 y4 y5 y6 y7 y8)) ∧ Hid (NdIn wx S (F.getD (nd0 0)) (nL y0 y1 y2 y3 y4 y5 y6 y7 y8)) ∧ Hid (Blk wx (w.heap.size + 1) 25 Zn) ∧ Hid (Below w.heap.size w wx) ∧ w.heap.size + 2 ≤ zb)
 case first =>
  go_region_held3 (fun w' => w'.cell? (qa w.heap.size 0) = some (.int .i64 7) ∧ w'.cell? (qa w.heap.size 1) = some (.int .i64 num) ∧ w'.cell? (qa w.heap.size 2) = some (.string t) ∧ w'.cell? (qa w.heap.size 3) = some (.slice A1 ks.length ck) ∧ w'.cell? (qa w.heap.size 4) = some (.slice A2 ns.length cc) ∧ w'.cell? (qa ab ao) = some (.string p) ∧ Below w.heap.size w w') (first | with_reducible exact HS0.out | with_reducible exact HSB0.out | with_reducible exact HSB1.out | with_reducible exact HS5.out | with_reducible exact HS5a.out | with_reducible exact HS5b.out) (first
   | (go_at_call 16;(with_reducible refine (HFC.out wa.drew HA.out.drew).mono ?_);rintro e w5 ⟨y0,y1,y2,y3,y4,y5,y6,y7,y8,rfl,hn5,hb5⟩;have HN5:=Lib.hid hn5;have HB5:=Lib.hid hb5;clear hn5 hb5;have HS5:Hid (w5.cell? (qa w.heap.size 0) = some (.int .i64 7) ∧ w5.cell? (qa w.heap.size 1) = some (.int .i64 num) ∧ w5.cell? (qa w.heap.size 2) = some (.string t) ∧ w5.cell? (qa w.heap.size 3) = some (.slice A1 ks.length ck) ∧ w5.cell? (qa w.heap.size 4) = some (.slice A2 ns.length cc) ∧ w5.cell? (qa ab ao) = some (.string p) ∧ Below w.heap.size w w5):=OS.below HS0.out HB5.out;have HS5a:Hid ((w5.alloc (.cells Zn 25)).cell? (qa w.heap.size 0) = some (.int .i64 7) ∧ (w5.alloc (.cells Zn 25)).cell? (qa w.heap.size 1) = some (.int .i64 num) ∧ (w5.alloc (.cells Zn 25)).cell? (qa w.heap.size 2) = some (.string t) ∧ (w5.alloc (.cells Zn 25)).cell? (qa w.heap.size 3) = some (.slice A1 ks.length ck) ∧ (w5.alloc (.cells Zn 25)).cell? (qa w.heap.size 4) = some (.slice A2 ns.length cc) ∧ (w5.alloc (.cells Zn 25)).cell? (qa ab ao) = some (.string p) ∧ Below w.heap.size w (w5.alloc (.cells Zn 25))):=OS.alloc (OS.below HS0.out HB5.out) _;have HS5b:Hid ((w5.alloc (.cells (nA y0 y1 y2 y3 y4 y5 y6 y7 y8) 25)).cell? (qa w.heap.size 0) = some (.int .i64 7) ∧ (w5.alloc (.cells (nA y0 y1 y2 y3 y4 y5 y6 y7 y8) 25)).cell? (qa w.heap.size 1) = some (.int .i64 num) ∧ (w5.alloc (.cells (nA y0 y1 y2 y3 y4 y5 y6 y7 y8) 25)).cell? (qa w.heap.size 2) = some (.string t) ∧ (w5.alloc (.cells (nA y0 y1 y2 y3 y4 y5 y6 y7 y8) 25)).cell? (qa w.heap.size 3) = some (.slice A1 ks.length ck) ∧ (w5.alloc (.cells (nA y0 y1 y2 y3 y4 y5 y6 y7 y8) 25)).cell? (qa w.heap.size 4) = some (.slice A2 ns.length cc) ∧ (w5.alloc (.cells (nA y0 y1 y2 y3 y4 y5 y6 y7 y8) 25)).cell? (qa ab ao) = some (.string p) ∧ Below w.heap.size w (w5.alloc (.cells (nA y0 y1 y2 y3 y4 y5 y6 y7 y8) 25))):=OS.alloc (OS.below HS0.out HB5.out) _)
   | (go_at_call 16;(with_reducible refine (HFC.out (wa.alloc (.cells Zn 25)).drew HSB1.out.2.2.2.2.2.2).mono ?_);rintro e w5 ⟨y0,y1,y2,y3,y4,y5,y6,y7,y8,rfl,hn5,hb5⟩;have HN5:=Lib.hid hn5;have HB5:=Lib.hid hb5;clear hn5 hb5;have HS5:Hid (w5.cell? (qa w.heap.size 0) = some (.int .i64 7) ∧ w5.cell? (qa w.heap.size 1) = some (.int .i64 num) ∧ w5.cell? (qa w.heap.size 2) = some (.string t) ∧ w5.cell? (qa w.heap.size 3) = some (.slice A1 ks.length ck) ∧ w5.cell? (qa w.heap.size 4) = some (.slice A2 ns.length cc) ∧ w5.cell? (qa ab ao) = some (.string p) ∧ Below w.heap.size w w5):=OS.below HSB1.out HB5.out;have HZ5:=Lib.hid (HZB.out.below HB5.out HZB.out.lt);obtain ⟨d0,d1,d2,d3,d4⟩:=HZ5.out.cells5;have f0:=HZ5.out.frozen 0;have f1:=HZ5.out.frozen 1;have f2:=HZ5.out.frozen 2;have f3:=HZ5.out.frozen 3;have f4:=HZ5.out.frozen 4;have HS5b:Hid ((((((w5.setCell (qa wa.heap.size 0) (.int .i64 y0)).setCell (qa wa.heap.size 1) (.int .i64 y1)).setCell (qa wa.heap.size 2) (.string y2)).setCell (qa wa.heap.size 3) (.slice y3 y4 y5)).setCell (qa wa.heap.size 4) (.slice y6 y7 y8)).cell? (qa w.heap.size 0) = some (.int .i64 7) ∧ (((((w5.setCell (qa wa.heap.size 0) (.int .i64 y0)).setCell (qa wa.heap.size 1) (.int .i64 y1)).setCell (qa wa.heap.size 2) (.string y2)).setCell (qa wa.heap.size 3) (.slice y3 y4 y5)).setCell (qa wa.heap.size 4) (.slice y6 y7 y8)).cell? (qa w.heap.size 1) = some (.int .i64 num) ∧ (((((w5.setCell (qa wa.heap.size 0) (.int .i64 y0)).setCell (qa wa.heap.size 1) (.int .i64 y1)).setCell (qa wa.heap.size 2) (.string y2)).setCell (qa wa.heap.size 3) (.slice y3 y4 y5)).setCell (qa wa.heap.size 4) (.slice y6 y7 y8)).cell? (qa w.heap.size 2) = some (.string t) ∧ (((((w5.setCell (qa wa.heap.size 0) (.int .i64 y0)).setCell (qa wa.heap.size 1) (.int .i64 y1)).setCell (qa wa.heap.size 2) (.string y2)).setCell (qa wa.heap.size 3) (.slice y3 y4 y5)).setCell (qa wa.heap.size 4) (.slice y6 y7 y8)).cell? (qa w.heap.size 3) = some (.slice A1 ks.length ck) ∧ (((((w5.setCell (qa wa.heap.size 0) (.int .i64 y0)).setCell (qa wa.heap.size 1) (.int .i64 y1)).setCell (qa wa.heap.size 2) (.string y2)).setCell (qa wa.heap.size 3) (.slice y3 y4 y5)).setCell (qa wa.heap.size 4) (.slice y6 y7 y8)).cell? (qa w.heap.size 4) = some (.slice A2 ns.length cc) ∧ (((((w5.setCell (qa wa.heap.size 0) (.int .i64 y0)).setCell (qa wa.heap.size 1) (.int .i64 y1)).setCell (qa wa.heap.size 2) (.string y2)).setCell (qa wa.heap.size 3) (.slice y3 y4 y5)).setCell (qa wa.heap.size 4) (.slice y6 y7 y8)).cell? (qa ab ao) = some (.string p) ∧ Below w.heap.size w (((((w5.setCell (qa wa.heap.size 0) (.int .i64 y0)).setCell (qa wa.heap.size 1) (.int .i64 y1)).setCell (qa wa.heap.size 2) (.string y2)).setCell (qa wa.heap.size 3) (.slice y3 y4 y5)).setCell (qa wa.heap.size 4) (.slice y6 y7 y8))):=OS.set5 (OS.below HSB1.out HB5.out) (by omega) hxz hab2))
  ·go_wp2_with fail
   go_meet
   have hz5:wa.heap.size ≤ w5.heap.size:=HB5.out.size
   refine ⟨w5.heap.size,y0,y1,y2,y3,y4,y5,y6,y7,y8,rfl,rfl,Blk.new w5 _ _,?_,((HY.out.drew.below HB5.out HY.out.drew.lt).alloc _:Blk _ _ _ _),HS5b.out.2.2.2.2.2.2,by omega⟩
   exact NdIn.keep (fun q hq => World.cell?_alloc_lt _ _ _ (Nat.lt_of_lt_of_le hq (by omega))) (fun b hb => HBS.out b hb) _ _ (NdIs.in_ _ _ HN5.out)
  ·go_wp2_with fail
   go_meet
   have hz5:(wa.alloc (.cells Zn 25)).drew.heap.size ≤ w5.heap.size:=HB5.out.size
   have hz6:(wa.alloc (.cells Zn 25)).drew.heap.size = wa.heap.size + 1:=by show (wa.alloc (.cells Zn 25)).heap.size = _;simp
   refine ⟨wa.heap.size,y0,y1,y2,y3,y4,y5,y6,y7,y8,rfl,rfl,(set5_blk HZ5.out:Blk _ _ _ _),?_,(set5_far ((HY.out.alloc _).drew.below HB5.out (HY.out.alloc _).drew.lt) (by omega):Blk _ _ _ _),HS5b.out.2.2.2.2.2.2,by omega⟩
   exact set5_in (NdIs.in_ _ _ HN5.out) (fun b hb => by have hb:b < B:=hb;omega) (fun b hb => HBS.out b hb)
 case rest =>
  obtain ⟨zb,y0,y1,y2,y3,y4,y5,y6,y7,y8,rfl,rfl,hzb,hn5,hyb,hbb,hz2⟩:=hcut
  obtain ⟨d0,d1,d2,d3,d4⟩:=hyb.out.cells5
  have f0:=hyb.out.frozen 0
  have f1:=hyb.out.frozen 1
  have f2:=hyb.out.frozen 2
  have f3:=hyb.out.frozen 3
  have f4:=hyb.out.frozen 4
  clear HFC HS0 HSB0 HSB1 HZB HX HY HA c0 c1 c2 c3 c4 p0 hl hab2 hxz
  cases F with
  | none =>
   go_wp2_with fail
   clear d0 d1 d2 d3 d4 f0 f1 f2 f3 f4
   have F:=get_fin (r:=none) (S:=S) (S2:=(fun _ => False)) (w:=w) (w2:=wc) (y:=w.heap.size + 1) (by omega) hbb.out hyb.out (nd0_in 0 (by unfold I64;omega) _ _) (fun b hb => hb.elim)
   unfold set5 at F
   generalize (((((wc).setCell (qa (w.heap.size + 1) 0) (.int .i64 0)).setCell (qa (w.heap.size + 1) 1) (.int .i64 0)).setCell (qa (w.heap.size + 1) 2) (.string ⟨#[]⟩)).setCell (qa (w.heap.size + 1) 3) (.slice none 0 0)).setCell (qa (w.heap.size + 1) 4) (.slice none 0 0) = WF at *
   obtain ⟨F1,F2⟩:=F
   obtain ⟨q0,q1,q2,q3,q4⟩:=F1.cells5
   refine bodyPost_ret (v:=.tuple #[.agg Zn,.bool false]) (by simp [results,Tryd.results59,go_sem,q0,q1,q2,q3,q4]) rfl ?_
   rw [HG.out none (fun m h => by cases h) (fun _ => rfl)]
   exact F2
  | some m =>
   have HM:=Lib.hid (HKF.out m HF.out.symm)
   have hn7:NdIn wc S m (nL y0 y1 y2 y3 y4 y5 y6 y7 y8):=hn5.out
   have HN7:Hid (NdIn wc.drew S m (nL y0 y1 y2 y3 y4 y5 y6 y7 y8)):=NdIn.keep (w:=wc) (w':=wc.drew) (fun _ _ => rfl) (fun _ h => h) m _ hn7
   clear hn7
   have HIH:Hid (Calls Tryd.prog 59 #[.agg (nA y0 y1 y2 y3 y4 y5 y6 y7 y8),.slice (some (qa ab ao)) 0 0] wc.drew (GetP (getN [] m) S wc.drew)):=
    IH m (nL y0 y1 y2 y3 y4 y5 y6 y7 y8) wc.drew S _ 0 HN7.out (fun b hb => by have h1:=HS.out b hb;have h2:=hbb.out.size;show b < wc.heap.size;omega) HSB.out ((HR.out.keep fun q hq => hbb.out.cell hq).more hbb.out.size) (Nat.le_refl _) (by unfold maxLen at *;omega) HM.out.1 HM.out.2
   have HG2:Hid (getN (p :: []) (.mk 7 num t ks ns) = getN [] m):=HG.out _ (fun m' h => by injection h with h;rw [h]) (fun h => by cases h)
   have hzc:zb < wc.heap.size:=hzb.out.lt
   have hzy:zb ≠ w.heap.size + 1:=by omega
   obtain ⟨c0,c1,c2,c3,c4⟩:=hzb.out.cells5
   have HS0:Hid (wc.drew.cell? (qa zb 0) = some (.int .i64 y0) ∧ wc.drew.cell? (qa zb 1) = some (.int .i64 y1) ∧ wc.drew.cell? (qa zb 2) = some (.string y2) ∧ wc.drew.cell? (qa zb 3) = some (.slice y3 y4 y5) ∧ wc.drew.cell? (qa zb 4) = some (.slice y6 y7 y8)):=⟨c0,c1,c2,c3,c4⟩
   skip
   have hyc:w.heap.size + 1 < wc.heap.size:=hyb.out.lt
   clear HF HKF HG hn5
   go_wp2_with fail
   go_region_held3 (fun w' => w'.cell? (qa zb 0) = some (.int .i64 y0) ∧ w'.cell? (qa zb 1) = some (.int .i64 y1) ∧ w'.cell? (qa zb 2) = some (.string y2) ∧ w'.cell? (qa zb 3) = some (.slice y3 y4 y5) ∧ w'.cell? (qa zb 4) = some (.slice y6 y7 y8)) (first | with_reducible exact HS0.out | with_reducible exact HS5.out | with_reducible exact HSF.out) (first
    | (go_at_call 59;(with_reducible refine (HIH.out:Calls _ _ _ _ _).mono ?_);rintro e w5 ⟨g0,g1,g2,g3,g4,g5,g6,g7,g8,rfl,hn6,hb6⟩;have HN6:=Lib.hid hn6;have HB6:=Lib.hid hb6;clear hn6 hb6;have HS5:Hid (w5.cell? (qa zb 0) = some (.int .i64 y0) ∧ w5.cell? (qa zb 1) = some (.int .i64 y1) ∧ w5.cell? (qa zb 2) = some (.string y2) ∧ w5.cell? (qa zb 3) = some (.slice y3 y4 y5) ∧ w5.cell? (qa zb 4) = some (.slice y6 y7 y8)):=(hzb.out.drew.below HB6.out hzb.out.drew.lt).cells5;have HSF:Hid ((((((w5.setCell (qa (w.heap.size + 1) 0) (.int .i64 g0)).setCell (qa (w.heap.size + 1) 1) (.int .i64 g1)).setCell (qa (w.heap.size + 1) 2) (.string g2)).setCell (qa (w.heap.size + 1) 3) (.slice g3 g4 g5)).setCell (qa (w.heap.size + 1) 4) (.slice g6 g7 g8)).cell? (qa zb 0) = some (.int .i64 y0) ∧ (((((w5.setCell (qa (w.heap.size + 1) 0) (.int .i64 g0)).setCell (qa (w.heap.size + 1) 1) (.int .i64 g1)).setCell (qa (w.heap.size + 1) 2) (.string g2)).setCell (qa (w.heap.size + 1) 3) (.slice g3 g4 g5)).setCell (qa (w.heap.size + 1) 4) (.slice g6 g7 g8)).cell? (qa zb 1) = some (.int .i64 y1) ∧ (((((w5.setCell (qa (w.heap.size + 1) 0) (.int .i64 g0)).setCell (qa (w.heap.size + 1) 1) (.int .i64 g1)).setCell (qa (w.heap.size + 1) 2) (.string g2)).setCell (qa (w.heap.size + 1) 3) (.slice g3 g4 g5)).setCell (qa (w.heap.size + 1) 4) (.slice g6 g7 g8)).cell? (qa zb 2) = some (.string y2) ∧ (((((w5.setCell (qa (w.heap.size + 1) 0) (.int .i64 g0)).setCell (qa (w.heap.size + 1) 1) (.int .i64 g1)).setCell (qa (w.heap.size + 1) 2) (.string g2)).setCell (qa (w.heap.size + 1) 3) (.slice g3 g4 g5)).setCell (qa (w.heap.size + 1) 4) (.slice g6 g7 g8)).cell? (qa zb 3) = some (.slice y3 y4 y5) ∧ (((((w5.setCell (qa (w.heap.size + 1) 0) (.int .i64 g0)).setCell (qa (w.heap.size + 1) 1) (.int .i64 g1)).setCell (qa (w.heap.size + 1) 2) (.string g2)).setCell (qa (w.heap.size + 1) 3) (.slice g3 g4 g5)).setCell (qa (w.heap.size + 1) 4) (.slice g6 g7 g8)).cell? (qa zb 4) = some (.slice y6 y7 y8)):=(set5_far (hzb.out.drew.below HB6.out hzb.out.drew.lt) hzy).cells5;have HY6:=Lib.hid (hyb.out.drew.below HB6.out hyb.out.drew.lt);obtain ⟨d0,d1,d2,d3,d4⟩:=HY6.out.cells5;have f0:=HY6.out.frozen 0;have f1:=HY6.out.frozen 1;have f2:=HY6.out.frozen 2;have f3:=HY6.out.frozen 3;have f4:=HY6.out.frozen 4))
   have hz6:wc.heap.size ≤ w5.heap.size:=HB6.out.size
   go_wp2_with fail
   clear d0 d1 d2 d3 d4 f0 f1 f2 f3 f4
   have F:=get_fin (r:=getN [] m) (S:=S) (S2:=(fun b => S b ∨ Since wc.drew w5 b)) (w:=w) (w2:=w5) (y:=w.heap.size + 1) (by omega) (hbb.out.drew.trans (HB6.out.mono hbb.out.size)) HY6.out HN6.out (fun b hb => by
     rcases hb with hb | hb
     ·exact ⟨.inl hb,fun e => by have:=HS.out b hb;omega⟩
     ·have h1:wc.heap.size ≤ b:=hb.1
      exact ⟨.inr ⟨by omega,hb.2⟩,by omega⟩)
   unfold set5 at F
   generalize (((((w5).setCell (qa (w.heap.size + 1) 0) (.int .i64 g0)).setCell (qa (w.heap.size + 1) 1) (.int .i64 g1)).setCell (qa (w.heap.size + 1) 2) (.string g2)).setCell (qa (w.heap.size + 1) 3) (.slice g3 g4 g5)).setCell (qa (w.heap.size + 1) 4) (.slice g6 g7 g8) = WF at *
   obtain ⟨F1,F2⟩:=F
   obtain ⟨q0,q1,q2,q3,q4⟩:=F1.cells5
   refine bodyPost_ret (v:=.tuple #[.agg (nA g0 g1 g2 g3 g4 g5 g6 g7 g8),.bool (getN [] m).isSome]) (by simp [results,Tryd.results59,go_sem,q0,q1,q2,q3,q4]) rfl ?_
   rw [HG2.out];exact F2
set_option maxHeartbeats 4000000 in
theorem fget_obj2 (p:ByteArray) (l:List ByteArray) (c:Nat) (hc1:¬ c = 1) (hl:l.length + 1 ≤ c) (IH:FGetOK l) (n:Nd) (h7:n.kind = 7):FGetStep p l n (l.length + 1) c (fun ab ao => some (qa ab (ao + 1))):=by
 intro hpz cs w S ab ao hn hS hSB hab hp hr hc hs hct
 have HSB:=Lib.hid hSB
 obtain ⟨B,hSB'⟩:=hSB
 have hBz:B ≤ w.heap.size:=by
  by_cases h:B ≤ w.heap.size
  ·exact h
  ·exact absurd (hS w.heap.size ((hSB' _).2 (by omega))) (by omega)
 have hn0:Hid (NdIs w B n cs):=NdIn.is (fun b hb => (hSB' b).1 hb) _ _ hn
 have HBS:Hid (∀ b,b < B → S b):=fun b hb => (hSB' b).2 hb
 clear hSB'
 have hs0:=Lib.hid hs
 have HKF:Hid (∀ m:Nd,findN n p = some m → sizeOk m ∧ m.count ≤ 1000000):=fun m hm => by
  obtain ⟨i,hi⟩:=findN_kid hm
  have:=kid_ok hi hs
  exact ⟨this.1,by omega⟩
 obtain ⟨F,hF⟩:∃ F,F = findN n p:=⟨_,rfl⟩
 have HG:Hid (∀ r,(∀ m,F = some m → getN l m = r) → (F = none → r = none) → getN (p :: l) n = r):=fun r h1 h2 => by
  rw [getN,if_pos h7,← hF]
  cases F with
  | none => exact (h2 rfl).symm
  | some m => exact h1 m rfl
 have HF:=Lib.hid hF
 cases n with
 | mk k num t ks ns =>
 unfold NdIn at hn
 obtain ⟨A1,ck,A2,cc,xs,rfl,hks,hxs,hns,ik,inn,ht,hkl,hkm,hmm⟩:=hn
 simp only [Nd.kind] at h7
 subst h7
 have HFC:Hid (∀ w',Below w.heap.size w w' → Calls Tryd.prog 16 #[.agg (nA 7 num t A1 ks.length ck A2 ns.length cc),.string p] w' (RfindP F B w')):=fun w' h' => by
  rw [HF.out]
  exact rFind_any _ p _ w' B (hn0.out.below (h'.mono hBz)) (Nat.le_trans hBz h'.size)
 have HS:=Lib.hid hS
 have HR:=Lib.hid hr
 clear hS hks hxs hns hkl hr hs hF hn0 hs0 inn ht hkm hmm hct ik
 have hp0:=Lib.hid hp
 show Calls Tryd.prog 59 #[.agg (nA 7 num t A1 ks.length ck A2 ns.length cc),.slice (some (qa ab ao)) (l.length + 1) c] w _
 have hA:Below w.heap.size w ((w.alloc (.cells (nA 7 num t A1 ks.length ck A2 ns.length cc) 25)).alloc (.cells Zn 25)):=((Below.refl _ _).alloc (Nat.le_refl _) _).alloc (by simp) _
 have hX:Blk ((w.alloc (.cells (nA 7 num t A1 ks.length ck A2 ns.length cc) 25)).alloc (.cells Zn 25)) w.heap.size 25 (nA 7 num t A1 ks.length ck A2 ns.length cc):=(Blk.new w _ _).alloc _
 have hY:Blk ((w.alloc (.cells (nA 7 num t A1 ks.length ck A2 ns.length cc) 25)).alloc (.cells Zn 25)) (w.heap.size + 1) 25 Zn:=by
  have:=Blk.new (w.alloc (.cells (nA 7 num t A1 ks.length ck A2 ns.length cc) 25)) 25 Zn
  simpa using this
 have hZ:w.heap.size + 2 = ((w.alloc (.cells (nA 7 num t A1 ks.length ck A2 ns.length cc) 25)).alloc (.cells Zn 25)).heap.size:=by simp
 have HA:=Lib.hid hA
 have HX:=Lib.hid hX
 have HY:=Lib.hid hY
 clear hA hX hY
 go_enter Tryd.func59,Tryd.ntmps59
 go_upto_region 1 with fail
 generalize (w.alloc (.cells (nA 7 num t A1 ks.length ck A2 ns.length cc) 25)).alloc (.cells Zn 25) = wa at *
 have p0:wa.cell? (qa ab ao) = some (.string p):=(HA.out.cell (p:=(qa ab ao)) hab).trans hp0.out
 obtain ⟨c0,c1,c2,c3,c4⟩:=HX.out.cells5
 clear hp
 have hl:w.heap.size < wa.heap.size:=by omega
 have hab2:ab ≠ wa.heap.size:=by omega
 have hxz:w.heap.size ≠ wa.heap.size:=by omega
 have hos:OS w w.heap.size ab ao (.int .i64 7) (.int .i64 num) (.string t) (.slice A1 ks.length ck) (.slice A2 ns.length cc) (.string p) wa:=⟨c0,c1,c2,c3,c4,p0,HA.out⟩
 have HS0:Hid (wa.drew.cell? (qa w.heap.size 0) = some (.int .i64 7) ∧ wa.drew.cell? (qa w.heap.size 1) = some (.int .i64 num) ∧ wa.drew.cell? (qa w.heap.size 2) = some (.string t) ∧ wa.drew.cell? (qa w.heap.size 3) = some (.slice A1 ks.length ck) ∧ wa.drew.cell? (qa w.heap.size 4) = some (.slice A2 ns.length cc) ∧ wa.drew.cell? (qa ab ao) = some (.string p) ∧ Below w.heap.size w wa.drew):=hos.drew
 have HSB0:Hid ((wa.drew.alloc (.cells Zn 25)).cell? (qa w.heap.size 0) = some (.int .i64 7) ∧ (wa.drew.alloc (.cells Zn 25)).cell? (qa w.heap.size 1) = some (.int .i64 num) ∧ (wa.drew.alloc (.cells Zn 25)).cell? (qa w.heap.size 2) = some (.string t) ∧ (wa.drew.alloc (.cells Zn 25)).cell? (qa w.heap.size 3) = some (.slice A1 ks.length ck) ∧ (wa.drew.alloc (.cells Zn 25)).cell? (qa w.heap.size 4) = some (.slice A2 ns.length cc) ∧ (wa.drew.alloc (.cells Zn 25)).cell? (qa ab ao) = some (.string p) ∧ Below w.heap.size w (wa.drew.alloc (.cells Zn 25))):=hos.drew.alloc _
 have HSB1:Hid ((wa.alloc (.cells Zn 25)).drew.cell? (qa w.heap.size 0) = some (.int .i64 7) ∧ (wa.alloc (.cells Zn 25)).drew.cell? (qa w.heap.size 1) = some (.int .i64 num) ∧ (wa.alloc (.cells Zn 25)).drew.cell? (qa w.heap.size 2) = some (.string t) ∧ (wa.alloc (.cells Zn 25)).drew.cell? (qa w.heap.size 3) = some (.slice A1 ks.length ck) ∧ (wa.alloc (.cells Zn 25)).drew.cell? (qa w.heap.size 4) = some (.slice A2 ns.length cc) ∧ (wa.alloc (.cells Zn 25)).drew.cell? (qa ab ao) = some (.string p) ∧ Below w.heap.size w (wa.alloc (.cells Zn 25)).drew):=(hos.alloc _).drew
 have HZB:Hid (Blk (wa.alloc (.cells Zn 25)).drew wa.heap.size 25 Zn):=(Blk.new wa _ _).drew
 clear hos
 go_upto_region 5 with fail
 go_cut [6,7] (fun t6 t7 wx => ∃ (zb:Nat) (y0 y1:Int) (y2:ByteArray) (y3:Option Addr) (y4 y5:Nat) (y6:Option Addr) (y7 y8:Nat),t6 = .pointer (some (qa zb 0)) ∧ t7 = .bool F.isSome ∧ Hid (Blk wx zb 25 (nA y0 y1 y2 y3 y4 y5 y6 y7 y8)) ∧ Hid (NdIn wx S (F.getD (nd0 0)) (nL y0 y1 y2 y3 y4 y5 y6 y7 y8)) ∧ Hid (Blk wx (w.heap.size + 1) 25 Zn) ∧ Hid (Below w.heap.size w wx) ∧ w.heap.size + 2 ≤ zb)
 case first =>
  go_region_held3 (fun w' => w'.cell? (qa w.heap.size 0) = some (.int .i64 7) ∧ w'.cell? (qa w.heap.size 1) = some (.int .i64 num) ∧ w'.cell? (qa w.heap.size 2) = some (.string t) ∧ w'.cell? (qa w.heap.size 3) = some (.slice A1 ks.length ck) ∧ w'.cell? (qa w.heap.size 4) = some (.slice A2 ns.length cc) ∧ w'.cell? (qa ab ao) = some (.string p) ∧ Below w.heap.size w w') (first | with_reducible exact HS0.out | with_reducible exact HSB0.out | with_reducible exact HSB1.out | with_reducible exact HS5.out | with_reducible exact HS5a.out | with_reducible exact HS5b.out) (first
   | (go_at_call 16;(with_reducible refine (HFC.out wa.drew HA.out.drew).mono ?_);rintro e w5 ⟨y0,y1,y2,y3,y4,y5,y6,y7,y8,rfl,hn5,hb5⟩;have HN5:=Lib.hid hn5;have HB5:=Lib.hid hb5;clear hn5 hb5;have HS5:Hid (w5.cell? (qa w.heap.size 0) = some (.int .i64 7) ∧ w5.cell? (qa w.heap.size 1) = some (.int .i64 num) ∧ w5.cell? (qa w.heap.size 2) = some (.string t) ∧ w5.cell? (qa w.heap.size 3) = some (.slice A1 ks.length ck) ∧ w5.cell? (qa w.heap.size 4) = some (.slice A2 ns.length cc) ∧ w5.cell? (qa ab ao) = some (.string p) ∧ Below w.heap.size w w5):=OS.below HS0.out HB5.out;have HS5a:Hid ((w5.alloc (.cells Zn 25)).cell? (qa w.heap.size 0) = some (.int .i64 7) ∧ (w5.alloc (.cells Zn 25)).cell? (qa w.heap.size 1) = some (.int .i64 num) ∧ (w5.alloc (.cells Zn 25)).cell? (qa w.heap.size 2) = some (.string t) ∧ (w5.alloc (.cells Zn 25)).cell? (qa w.heap.size 3) = some (.slice A1 ks.length ck) ∧ (w5.alloc (.cells Zn 25)).cell? (qa w.heap.size 4) = some (.slice A2 ns.length cc) ∧ (w5.alloc (.cells Zn 25)).cell? (qa ab ao) = some (.string p) ∧ Below w.heap.size w (w5.alloc (.cells Zn 25))):=OS.alloc (OS.below HS0.out HB5.out) _;have HS5b:Hid ((w5.alloc (.cells (nA y0 y1 y2 y3 y4 y5 y6 y7 y8) 25)).cell? (qa w.heap.size 0) = some (.int .i64 7) ∧ (w5.alloc (.cells (nA y0 y1 y2 y3 y4 y5 y6 y7 y8) 25)).cell? (qa w.heap.size 1) = some (.int .i64 num) ∧ (w5.alloc (.cells (nA y0 y1 y2 y3 y4 y5 y6 y7 y8) 25)).cell? (qa w.heap.size 2) = some (.string t) ∧ (w5.alloc (.cells (nA y0 y1 y2 y3 y4 y5 y6 y7 y8) 25)).cell? (qa w.heap.size 3) = some (.slice A1 ks.length ck) ∧ (w5.alloc (.cells (nA y0 y1 y2 y3 y4 y5 y6 y7 y8) 25)).cell? (qa w.heap.size 4) = some (.slice A2 ns.length cc) ∧ (w5.alloc (.cells (nA y0 y1 y2 y3 y4 y5 y6 y7 y8) 25)).cell? (qa ab ao) = some (.string p) ∧ Below w.heap.size w (w5.alloc (.cells (nA y0 y1 y2 y3 y4 y5 y6 y7 y8) 25))):=OS.alloc (OS.below HS0.out HB5.out) _)
   | (go_at_call 16;(with_reducible refine (HFC.out (wa.alloc (.cells Zn 25)).drew HSB1.out.2.2.2.2.2.2).mono ?_);rintro e w5 ⟨y0,y1,y2,y3,y4,y5,y6,y7,y8,rfl,hn5,hb5⟩;have HN5:=Lib.hid hn5;have HB5:=Lib.hid hb5;clear hn5 hb5;have HS5:Hid (w5.cell? (qa w.heap.size 0) = some (.int .i64 7) ∧ w5.cell? (qa w.heap.size 1) = some (.int .i64 num) ∧ w5.cell? (qa w.heap.size 2) = some (.string t) ∧ w5.cell? (qa w.heap.size 3) = some (.slice A1 ks.length ck) ∧ w5.cell? (qa w.heap.size 4) = some (.slice A2 ns.length cc) ∧ w5.cell? (qa ab ao) = some (.string p) ∧ Below w.heap.size w w5):=OS.below HSB1.out HB5.out;have HZ5:=Lib.hid (HZB.out.below HB5.out HZB.out.lt);obtain ⟨d0,d1,d2,d3,d4⟩:=HZ5.out.cells5;have f0:=HZ5.out.frozen 0;have f1:=HZ5.out.frozen 1;have f2:=HZ5.out.frozen 2;have f3:=HZ5.out.frozen 3;have f4:=HZ5.out.frozen 4;have HS5b:Hid ((((((w5.setCell (qa wa.heap.size 0) (.int .i64 y0)).setCell (qa wa.heap.size 1) (.int .i64 y1)).setCell (qa wa.heap.size 2) (.string y2)).setCell (qa wa.heap.size 3) (.slice y3 y4 y5)).setCell (qa wa.heap.size 4) (.slice y6 y7 y8)).cell? (qa w.heap.size 0) = some (.int .i64 7) ∧ (((((w5.setCell (qa wa.heap.size 0) (.int .i64 y0)).setCell (qa wa.heap.size 1) (.int .i64 y1)).setCell (qa wa.heap.size 2) (.string y2)).setCell (qa wa.heap.size 3) (.slice y3 y4 y5)).setCell (qa wa.heap.size 4) (.slice y6 y7 y8)).cell? (qa w.heap.size 1) = some (.int .i64 num) ∧ (((((w5.setCell (qa wa.heap.size 0) (.int .i64 y0)).setCell (qa wa.heap.size 1) (.int .i64 y1)).setCell (qa wa.heap.size 2) (.string y2)).setCell (qa wa.heap.size 3) (.slice y3 y4 y5)).setCell (qa wa.heap.size 4) (.slice y6 y7 y8)).cell? (qa w.heap.size 2) = some (.string t) ∧ (((((w5.setCell (qa wa.heap.size 0) (.int .i64 y0)).setCell (qa wa.heap.size 1) (.int .i64 y1)).setCell (qa wa.heap.size 2) (.string y2)).setCell (qa wa.heap.size 3) (.slice y3 y4 y5)).setCell (qa wa.heap.size 4) (.slice y6 y7 y8)).cell? (qa w.heap.size 3) = some (.slice A1 ks.length ck) ∧ (((((w5.setCell (qa wa.heap.size 0) (.int .i64 y0)).setCell (qa wa.heap.size 1) (.int .i64 y1)).setCell (qa wa.heap.size 2) (.string y2)).setCell (qa wa.heap.size 3) (.slice y3 y4 y5)).setCell (qa wa.heap.size 4) (.slice y6 y7 y8)).cell? (qa w.heap.size 4) = some (.slice A2 ns.length cc) ∧ (((((w5.setCell (qa wa.heap.size 0) (.int .i64 y0)).setCell (qa wa.heap.size 1) (.int .i64 y1)).setCell (qa wa.heap.size 2) (.string y2)).setCell (qa wa.heap.size 3) (.slice y3 y4 y5)).setCell (qa wa.heap.size 4) (.slice y6 y7 y8)).cell? (qa ab ao) = some (.string p) ∧ Below w.heap.size w (((((w5.setCell (qa wa.heap.size 0) (.int .i64 y0)).setCell (qa wa.heap.size 1) (.int .i64 y1)).setCell (qa wa.heap.size 2) (.string y2)).setCell (qa wa.heap.size 3) (.slice y3 y4 y5)).setCell (qa wa.heap.size 4) (.slice y6 y7 y8))):=OS.set5 (OS.below HSB1.out HB5.out) (by omega) hxz hab2))
  ·go_wp2_with fail
   go_meet
   have hz5:wa.heap.size ≤ w5.heap.size:=HB5.out.size
   refine ⟨w5.heap.size,y0,y1,y2,y3,y4,y5,y6,y7,y8,rfl,rfl,Blk.new w5 _ _,?_,((HY.out.drew.below HB5.out HY.out.drew.lt).alloc _:Blk _ _ _ _),HS5b.out.2.2.2.2.2.2,by omega⟩
   exact NdIn.keep (fun q hq => World.cell?_alloc_lt _ _ _ (Nat.lt_of_lt_of_le hq (by omega))) (fun b hb => HBS.out b hb) _ _ (NdIs.in_ _ _ HN5.out)
  ·go_wp2_with fail
   go_meet
   have hz5:(wa.alloc (.cells Zn 25)).drew.heap.size ≤ w5.heap.size:=HB5.out.size
   have hz6:(wa.alloc (.cells Zn 25)).drew.heap.size = wa.heap.size + 1:=by show (wa.alloc (.cells Zn 25)).heap.size = _;simp
   refine ⟨wa.heap.size,y0,y1,y2,y3,y4,y5,y6,y7,y8,rfl,rfl,(set5_blk HZ5.out:Blk _ _ _ _),?_,(set5_far ((HY.out.alloc _).drew.below HB5.out (HY.out.alloc _).drew.lt) (by omega):Blk _ _ _ _),HS5b.out.2.2.2.2.2.2,by omega⟩
   exact set5_in (NdIs.in_ _ _ HN5.out) (fun b hb => by have hb:b < B:=hb;omega) (fun b hb => HBS.out b hb)
 case rest =>
  obtain ⟨zb,y0,y1,y2,y3,y4,y5,y6,y7,y8,rfl,rfl,hzb,hn5,hyb,hbb,hz2⟩:=hcut
  obtain ⟨d0,d1,d2,d3,d4⟩:=hyb.out.cells5
  have f0:=hyb.out.frozen 0
  have f1:=hyb.out.frozen 1
  have f2:=hyb.out.frozen 2
  have f3:=hyb.out.frozen 3
  have f4:=hyb.out.frozen 4
  clear HFC HS0 HSB0 HSB1 HZB HX HY HA c0 c1 c2 c3 c4 p0 hl hab2 hxz
  cases F with
  | none =>
   go_wp2_with fail
   clear d0 d1 d2 d3 d4 f0 f1 f2 f3 f4
   have F:=get_fin (r:=none) (S:=S) (S2:=(fun _ => False)) (w:=w) (w2:=wc) (y:=w.heap.size + 1) (by omega) hbb.out hyb.out (nd0_in 0 (by unfold I64;omega) _ _) (fun b hb => hb.elim)
   unfold set5 at F
   generalize (((((wc).setCell (qa (w.heap.size + 1) 0) (.int .i64 0)).setCell (qa (w.heap.size + 1) 1) (.int .i64 0)).setCell (qa (w.heap.size + 1) 2) (.string ⟨#[]⟩)).setCell (qa (w.heap.size + 1) 3) (.slice none 0 0)).setCell (qa (w.heap.size + 1) 4) (.slice none 0 0) = WF at *
   obtain ⟨F1,F2⟩:=F
   obtain ⟨q0,q1,q2,q3,q4⟩:=F1.cells5
   refine bodyPost_ret (v:=.tuple #[.agg Zn,.bool false]) (by simp [results,Tryd.results59,go_sem,q0,q1,q2,q3,q4]) rfl ?_
   rw [HG.out none (fun m h => by cases h) (fun _ => rfl)]
   exact F2
  | some m =>
   have HM:=Lib.hid (HKF.out m HF.out.symm)
   have hn7:NdIn wc S m (nL y0 y1 y2 y3 y4 y5 y6 y7 y8):=hn5.out
   have HN7:Hid (NdIn wc.drew S m (nL y0 y1 y2 y3 y4 y5 y6 y7 y8)):=NdIn.keep (w:=wc) (w':=wc.drew) (fun _ _ => rfl) (fun _ h => h) m _ hn7
   clear hn7
   have HIH:Hid (Calls Tryd.prog 59 #[.agg (nA y0 y1 y2 y3 y4 y5 y6 y7 y8),.slice (some (qa ab (ao + 1))) l.length (c - 1)] wc.drew (GetP (getN l m) S wc.drew)):=
    IH m (nL y0 y1 y2 y3 y4 y5 y6 y7 y8) wc.drew S _ (c - 1) HN7.out (fun b hb => by have h1:=HS.out b hb;have h2:=hbb.out.size;show b < wc.heap.size;omega) HSB.out ((HR.out.keep fun q hq => hbb.out.cell hq).more hbb.out.size) (by omega) (by unfold maxLen at *;omega) HM.out.1 HM.out.2
   have HG2:Hid (getN (p :: l) (.mk 7 num t ks ns) = getN l m):=HG.out _ (fun m' h => by injection h with h;rw [h]) (fun h => by cases h)
   have hzc:zb < wc.heap.size:=hzb.out.lt
   have hzy:zb ≠ w.heap.size + 1:=by omega
   obtain ⟨c0,c1,c2,c3,c4⟩:=hzb.out.cells5
   have HS0:Hid (wc.drew.cell? (qa zb 0) = some (.int .i64 y0) ∧ wc.drew.cell? (qa zb 1) = some (.int .i64 y1) ∧ wc.drew.cell? (qa zb 2) = some (.string y2) ∧ wc.drew.cell? (qa zb 3) = some (.slice y3 y4 y5) ∧ wc.drew.cell? (qa zb 4) = some (.slice y6 y7 y8)):=⟨c0,c1,c2,c3,c4⟩
   have hx:¬ (l.length:Int) + 1 < 1:=by omega
   have hyc:w.heap.size + 1 < wc.heap.size:=hyb.out.lt
   clear HF HKF HG hn5
   go_wp2_with fail
   go_region_held3 (fun w' => w'.cell? (qa zb 0) = some (.int .i64 y0) ∧ w'.cell? (qa zb 1) = some (.int .i64 y1) ∧ w'.cell? (qa zb 2) = some (.string y2) ∧ w'.cell? (qa zb 3) = some (.slice y3 y4 y5) ∧ w'.cell? (qa zb 4) = some (.slice y6 y7 y8)) (first | with_reducible exact HS0.out | with_reducible exact HS5.out | with_reducible exact HSF.out) (first
    | (go_at_call 59;(with_reducible refine (HIH.out:Calls _ _ _ _ _).mono ?_);rintro e w5 ⟨g0,g1,g2,g3,g4,g5,g6,g7,g8,rfl,hn6,hb6⟩;have HN6:=Lib.hid hn6;have HB6:=Lib.hid hb6;clear hn6 hb6;have HS5:Hid (w5.cell? (qa zb 0) = some (.int .i64 y0) ∧ w5.cell? (qa zb 1) = some (.int .i64 y1) ∧ w5.cell? (qa zb 2) = some (.string y2) ∧ w5.cell? (qa zb 3) = some (.slice y3 y4 y5) ∧ w5.cell? (qa zb 4) = some (.slice y6 y7 y8)):=(hzb.out.drew.below HB6.out hzb.out.drew.lt).cells5;have HSF:Hid ((((((w5.setCell (qa (w.heap.size + 1) 0) (.int .i64 g0)).setCell (qa (w.heap.size + 1) 1) (.int .i64 g1)).setCell (qa (w.heap.size + 1) 2) (.string g2)).setCell (qa (w.heap.size + 1) 3) (.slice g3 g4 g5)).setCell (qa (w.heap.size + 1) 4) (.slice g6 g7 g8)).cell? (qa zb 0) = some (.int .i64 y0) ∧ (((((w5.setCell (qa (w.heap.size + 1) 0) (.int .i64 g0)).setCell (qa (w.heap.size + 1) 1) (.int .i64 g1)).setCell (qa (w.heap.size + 1) 2) (.string g2)).setCell (qa (w.heap.size + 1) 3) (.slice g3 g4 g5)).setCell (qa (w.heap.size + 1) 4) (.slice g6 g7 g8)).cell? (qa zb 1) = some (.int .i64 y1) ∧ (((((w5.setCell (qa (w.heap.size + 1) 0) (.int .i64 g0)).setCell (qa (w.heap.size + 1) 1) (.int .i64 g1)).setCell (qa (w.heap.size + 1) 2) (.string g2)).setCell (qa (w.heap.size + 1) 3) (.slice g3 g4 g5)).setCell (qa (w.heap.size + 1) 4) (.slice g6 g7 g8)).cell? (qa zb 2) = some (.string y2) ∧ (((((w5.setCell (qa (w.heap.size + 1) 0) (.int .i64 g0)).setCell (qa (w.heap.size + 1) 1) (.int .i64 g1)).setCell (qa (w.heap.size + 1) 2) (.string g2)).setCell (qa (w.heap.size + 1) 3) (.slice g3 g4 g5)).setCell (qa (w.heap.size + 1) 4) (.slice g6 g7 g8)).cell? (qa zb 3) = some (.slice y3 y4 y5) ∧ (((((w5.setCell (qa (w.heap.size + 1) 0) (.int .i64 g0)).setCell (qa (w.heap.size + 1) 1) (.int .i64 g1)).setCell (qa (w.heap.size + 1) 2) (.string g2)).setCell (qa (w.heap.size + 1) 3) (.slice g3 g4 g5)).setCell (qa (w.heap.size + 1) 4) (.slice g6 g7 g8)).cell? (qa zb 4) = some (.slice y6 y7 y8)):=(set5_far (hzb.out.drew.below HB6.out hzb.out.drew.lt) hzy).cells5;have HY6:=Lib.hid (hyb.out.drew.below HB6.out hyb.out.drew.lt);obtain ⟨d0,d1,d2,d3,d4⟩:=HY6.out.cells5;have f0:=HY6.out.frozen 0;have f1:=HY6.out.frozen 1;have f2:=HY6.out.frozen 2;have f3:=HY6.out.frozen 3;have f4:=HY6.out.frozen 4))
   have hz6:wc.heap.size ≤ w5.heap.size:=HB6.out.size
   go_wp2_with fail
   clear d0 d1 d2 d3 d4 f0 f1 f2 f3 f4
   have F:=get_fin (r:=getN l m) (S:=S) (S2:=(fun b => S b ∨ Since wc.drew w5 b)) (w:=w) (w2:=w5) (y:=w.heap.size + 1) (by omega) (hbb.out.drew.trans (HB6.out.mono hbb.out.size)) HY6.out HN6.out (fun b hb => by
     rcases hb with hb | hb
     ·exact ⟨.inl hb,fun e => by have:=HS.out b hb;omega⟩
     ·have h1:wc.heap.size ≤ b:=hb.1
      exact ⟨.inr ⟨by omega,hb.2⟩,by omega⟩)
   unfold set5 at F
   generalize (((((w5).setCell (qa (w.heap.size + 1) 0) (.int .i64 g0)).setCell (qa (w.heap.size + 1) 1) (.int .i64 g1)).setCell (qa (w.heap.size + 1) 2) (.string g2)).setCell (qa (w.heap.size + 1) 3) (.slice g3 g4 g5)).setCell (qa (w.heap.size + 1) 4) (.slice g6 g7 g8) = WF at *
   obtain ⟨F1,F2⟩:=F
   obtain ⟨q0,q1,q2,q3,q4⟩:=F1.cells5
   refine bodyPost_ret (v:=.tuple #[.agg (nA g0 g1 g2 g3 g4 g5 g6 g7 g8),.bool (getN l m).isSome]) (by simp [results,Tryd.results59,go_sem,q0,q1,q2,q3,q4]) rfl ?_
   rw [HG2.out];exact F2
end Go.Proofs.YthbjehbpanhdoaaDoor
