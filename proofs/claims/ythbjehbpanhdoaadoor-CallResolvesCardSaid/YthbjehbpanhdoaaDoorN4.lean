/- Texts of one seat,one behind the other: Pt5,Pt6,Pt7,Pt8,Jval0,Jr1,Jr2. No condition. -/
import Derived.Test.YthbjehbpanhdoaaDoorN3
import Derived.Deep.DeepCutAuto
import Derived.BigQuiet
import Derived.Deep.QuietTactic
namespace Go.Proofs.YthbjehbpanhdoaaDoor
open Go.RowKit Go.PlainAid
set_option linter.unusedVariables false
set_option linter.unusedSimpArgs false
set_option maxRecDepth 100000
set_option maxHeartbeats 4000000 in
theorem get_obj1 (p:ByteArray) (IH:GetOK []) (n:Nd) (h7:n.kind = 7):GetStep p [] n 1 1 (fun ab ao => some (qa ab ao)):=by
 intro hpz cs w S ab ao hn hS hab hp hr hc hs hct
 have hn0:=Lib.hid (NdIn.is hS _ _ hn)
 have hs0:=Lib.hid hs
 have HKF:Hid (∀ m:Nd,findN n p = some m → sizeOk m ∧ m.count ≤ 1000000):=fun m hm => by
  obtain ⟨i,hi⟩:=findN_kid hm
  have:=kid_ok hi hs
  exact ⟨this.1,by omega⟩
 obtain ⟨F,hF⟩:∃ F,F = findN n p:=⟨_,rfl⟩
 have HG:Hid (∀ r,(∀ m,F = some m → getN [] m = r) → (F = none → r = none) → getN (p :: []) n = r):=fun r h1 h2 => by
  rw [getN,if_pos h7,← hF]
  cases F with
  | none => exact (h2 rfl).symm
  | some m => exact h1 m rfl
 have HF:=Lib.hid hF
 cases n with
 | mk k num t ks ns =>
 unfold NdIn at hn
 obtain ⟨A1,ck,A2,cc,xs,rfl,hks,hxs,hns,ik,inn,ht,hkl,hkm,hmm⟩:=hn
 simp only [Nd.kind] at h7
 subst h7
 have HFC:Hid (∀ w',Below w.heap.size w w' → Calls Tryd.prog 21 #[.agg (nA 7 num t A1 ks.length ck A2 ns.length cc),.string p] w' (FindP F w')):=fun w' h' => by
  rw [HF.out]
  exact cFind_any _ p _ w' w.heap.size (hn0.out.below h') h'.size hs0.out
 have HS:=Lib.hid hS
 have HR:=Lib.hid hr
 clear hS hks hxs hns hkl hr hs hF hn0 hs0 inn ht hkm hmm hct ik
 have hp0:=Lib.hid hp
 show Calls Tryd.prog 57 #[.agg (nA 7 num t A1 ks.length ck A2 ns.length cc),.slice (some (qa ab ao)) 1 1] w _
 have hA:Below w.heap.size w ((w.alloc (.cells (nA 7 num t A1 ks.length ck A2 ns.length cc) 25)).alloc (.cells Zn 25)):=((Below.refl _ _).alloc (Nat.le_refl _) _).alloc (by simp) _
 have hX:Blk ((w.alloc (.cells (nA 7 num t A1 ks.length ck A2 ns.length cc) 25)).alloc (.cells Zn 25)) w.heap.size 25 (nA 7 num t A1 ks.length ck A2 ns.length cc):=(Blk.new w _ _).alloc _
 have hY:Blk ((w.alloc (.cells (nA 7 num t A1 ks.length ck A2 ns.length cc) 25)).alloc (.cells Zn 25)) (w.heap.size + 1) 25 Zn:=by
  have:=Blk.new (w.alloc (.cells (nA 7 num t A1 ks.length ck A2 ns.length cc) 25)) 25 Zn
  simpa using this
 have hZ:w.heap.size + 2 = ((w.alloc (.cells (nA 7 num t A1 ks.length ck A2 ns.length cc) 25)).alloc (.cells Zn 25)).heap.size:=by simp
 have HA:=Lib.hid hA
 have HX:=Lib.hid hX
 have HY:=Lib.hid hY
 clear hA hX hY
 go_enter Tryd.func57,Tryd.ntmps57
 go_upto_region 1 with fail
 generalize (w.alloc (.cells (nA 7 num t A1 ks.length ck A2 ns.length cc) 25)).alloc (.cells Zn 25) = wa at *
 have p0:wa.cell? (qa ab ao) = some (.string p):=(HA.out.cell (p:=(qa ab ao)) hab).trans hp0.out
 obtain ⟨c0,c1,c2,c3,c4⟩:=HX.out.cells5
 clear hp
 have hl:w.heap.size < wa.heap.size:=by omega
 have hab2:ab ≠ wa.heap.size:=by omega
 have hxz:w.heap.size ≠ wa.heap.size:=by omega
 have hos:OS w w.heap.size ab ao (.int .i64 7) (.int .i64 num) (.string t) (.slice A1 ks.length ck) (.slice A2 ns.length cc) (.string p) wa:=⟨c0,c1,c2,c3,c4,p0,HA.out⟩
 have HS0:Hid (wa.drew.cell? (qa w.heap.size 0) = some (.int .i64 7) ∧ wa.drew.cell? (qa w.heap.size 1) = some (.int .i64 num) ∧ wa.drew.cell? (qa w.heap.size 2) = some (.string t) ∧ wa.drew.cell? (qa w.heap.size 3) = some (.slice A1 ks.length ck) ∧ wa.drew.cell? (qa w.heap.size 4) = some (.slice A2 ns.length cc) ∧ wa.drew.cell? (qa ab ao) = some (.string p) ∧ Below w.heap.size w wa.drew):=hos.drew
 have HSB0:Hid ((wa.drew.alloc (.cells Zn 25)).cell? (qa w.heap.size 0) = some (.int .i64 7) ∧ (wa.drew.alloc (.cells Zn 25)).cell? (qa w.heap.size 1) = some (.int .i64 num) ∧ (wa.drew.alloc (.cells Zn 25)).cell? (qa w.heap.size 2) = some (.string t) ∧ (wa.drew.alloc (.cells Zn 25)).cell? (qa w.heap.size 3) = some (.slice A1 ks.length ck) ∧ (wa.drew.alloc (.cells Zn 25)).cell? (qa w.heap.size 4) = some (.slice A2 ns.length cc) ∧ (wa.drew.alloc (.cells Zn 25)).cell? (qa ab ao) = some (.string p) ∧ Below w.heap.size w (wa.drew.alloc (.cells Zn 25))):=hos.drew.alloc _
 have HSB1:Hid ((wa.alloc (.cells Zn 25)).drew.cell? (qa w.heap.size 0) = some (.int .i64 7) ∧ (wa.alloc (.cells Zn 25)).drew.cell? (qa w.heap.size 1) = some (.int .i64 num) ∧ (wa.alloc (.cells Zn 25)).drew.cell? (qa w.heap.size 2) = some (.string t) ∧ (wa.alloc (.cells Zn 25)).drew.cell? (qa w.heap.size 3) = some (.slice A1 ks.length ck) ∧ (wa.alloc (.cells Zn 25)).drew.cell? (qa w.heap.size 4) = some (.slice A2 ns.length cc) ∧ (wa.alloc (.cells Zn 25)).drew.cell? (qa ab ao) = some (.string p) ∧ Below w.heap.size w (wa.alloc (.cells Zn 25)).drew):=(hos.alloc _).drew
 have HZB:Hid (Blk (wa.alloc (.cells Zn 25)).drew wa.heap.size 25 Zn):=(Blk.new wa _ _).drew
 clear hos
 go_upto_region 4 with fail
 go_cut [6,7] (fun t6 t7 wx => ∃ (zb:Nat) (y0 y1:Int) (y2:ByteArray) (y3:Option Addr) (y4 y5:Nat) (y6:Option Addr) (y7 y8:Nat),t6 = .pointer (some (qa zb 0)) ∧ t7 = .bool F.isSome ∧ Hid (Blk wx zb 25 (nA y0 y1 y2 y3 y4 y5 y6 y7 y8)) ∧ Hid (NdIn wx (fun b => w.heap.size + 2 ≤ b ∧ b < wx.heap.size ∧ b ≠ zb) (F.getD (nd0 0)) (nL y0 y1 y2 y3 y4 y5 y6 y7 y8)) ∧ Hid (Blk wx (w.heap.size + 1) 25 Zn) ∧ Hid (Below w.heap.size w wx) ∧ w.heap.size + 2 ≤ zb)
 case first =>
  go_region_held3 (fun w' => w'.cell? (qa w.heap.size 0) = some (.int .i64 7) ∧ w'.cell? (qa w.heap.size 1) = some (.int .i64 num) ∧ w'.cell? (qa w.heap.size 2) = some (.string t) ∧ w'.cell? (qa w.heap.size 3) = some (.slice A1 ks.length ck) ∧ w'.cell? (qa w.heap.size 4) = some (.slice A2 ns.length cc) ∧ w'.cell? (qa ab ao) = some (.string p) ∧ Below w.heap.size w w') (first | with_reducible exact HS0.out | with_reducible exact HSB0.out | with_reducible exact HSB1.out | with_reducible exact HS5.out | with_reducible exact HS5a.out | with_reducible exact HS5b.out) (first
   | (go_at_call 21;(with_reducible refine (HFC.out wa.drew HA.out.drew).mono ?_);rintro e w5 ⟨y0,y1,y2,y3,y4,y5,y6,y7,y8,rfl,hn5,hb5⟩;have HN5:=Lib.hid hn5;have HB5:=Lib.hid hb5;clear hn5 hb5;have HS5:Hid (w5.cell? (qa w.heap.size 0) = some (.int .i64 7) ∧ w5.cell? (qa w.heap.size 1) = some (.int .i64 num) ∧ w5.cell? (qa w.heap.size 2) = some (.string t) ∧ w5.cell? (qa w.heap.size 3) = some (.slice A1 ks.length ck) ∧ w5.cell? (qa w.heap.size 4) = some (.slice A2 ns.length cc) ∧ w5.cell? (qa ab ao) = some (.string p) ∧ Below w.heap.size w w5):=OS.below HS0.out HB5.out;have HS5a:Hid ((w5.alloc (.cells Zn 25)).cell? (qa w.heap.size 0) = some (.int .i64 7) ∧ (w5.alloc (.cells Zn 25)).cell? (qa w.heap.size 1) = some (.int .i64 num) ∧ (w5.alloc (.cells Zn 25)).cell? (qa w.heap.size 2) = some (.string t) ∧ (w5.alloc (.cells Zn 25)).cell? (qa w.heap.size 3) = some (.slice A1 ks.length ck) ∧ (w5.alloc (.cells Zn 25)).cell? (qa w.heap.size 4) = some (.slice A2 ns.length cc) ∧ (w5.alloc (.cells Zn 25)).cell? (qa ab ao) = some (.string p) ∧ Below w.heap.size w (w5.alloc (.cells Zn 25))):=OS.alloc (OS.below HS0.out HB5.out) _;have HS5b:Hid ((w5.alloc (.cells (nA y0 y1 y2 y3 y4 y5 y6 y7 y8) 25)).cell? (qa w.heap.size 0) = some (.int .i64 7) ∧ (w5.alloc (.cells (nA y0 y1 y2 y3 y4 y5 y6 y7 y8) 25)).cell? (qa w.heap.size 1) = some (.int .i64 num) ∧ (w5.alloc (.cells (nA y0 y1 y2 y3 y4 y5 y6 y7 y8) 25)).cell? (qa w.heap.size 2) = some (.string t) ∧ (w5.alloc (.cells (nA y0 y1 y2 y3 y4 y5 y6 y7 y8) 25)).cell? (qa w.heap.size 3) = some (.slice A1 ks.length ck) ∧ (w5.alloc (.cells (nA y0 y1 y2 y3 y4 y5 y6 y7 y8) 25)).cell? (qa w.heap.size 4) = some (.slice A2 ns.length cc) ∧ (w5.alloc (.cells (nA y0 y1 y2 y3 y4 y5 y6 y7 y8) 25)).cell? (qa ab ao) = some (.string p) ∧ Below w.heap.size w (w5.alloc (.cells (nA y0 y1 y2 y3 y4 y5 y6 y7 y8) 25))):=OS.alloc (OS.below HS0.out HB5.out) _)
   | (go_at_call 21;(with_reducible refine (HFC.out (wa.alloc (.cells Zn 25)).drew HSB1.out.2.2.2.2.2.2).mono ?_);rintro e w5 ⟨y0,y1,y2,y3,y4,y5,y6,y7,y8,rfl,hn5,hb5⟩;have HN5:=Lib.hid hn5;have HB5:=Lib.hid hb5;clear hn5 hb5;have HS5:Hid (w5.cell? (qa w.heap.size 0) = some (.int .i64 7) ∧ w5.cell? (qa w.heap.size 1) = some (.int .i64 num) ∧ w5.cell? (qa w.heap.size 2) = some (.string t) ∧ w5.cell? (qa w.heap.size 3) = some (.slice A1 ks.length ck) ∧ w5.cell? (qa w.heap.size 4) = some (.slice A2 ns.length cc) ∧ w5.cell? (qa ab ao) = some (.string p) ∧ Below w.heap.size w w5):=OS.below HSB1.out HB5.out;have HZ5:=Lib.hid (HZB.out.below HB5.out HZB.out.lt);obtain ⟨d0,d1,d2,d3,d4⟩:=HZ5.out.cells5;have f0:=HZ5.out.frozen 0;have f1:=HZ5.out.frozen 1;have f2:=HZ5.out.frozen 2;have f3:=HZ5.out.frozen 3;have f4:=HZ5.out.frozen 4;have HS5b:Hid ((((((w5.setCell (qa wa.heap.size 0) (.int .i64 y0)).setCell (qa wa.heap.size 1) (.int .i64 y1)).setCell (qa wa.heap.size 2) (.string y2)).setCell (qa wa.heap.size 3) (.slice y3 y4 y5)).setCell (qa wa.heap.size 4) (.slice y6 y7 y8)).cell? (qa w.heap.size 0) = some (.int .i64 7) ∧ (((((w5.setCell (qa wa.heap.size 0) (.int .i64 y0)).setCell (qa wa.heap.size 1) (.int .i64 y1)).setCell (qa wa.heap.size 2) (.string y2)).setCell (qa wa.heap.size 3) (.slice y3 y4 y5)).setCell (qa wa.heap.size 4) (.slice y6 y7 y8)).cell? (qa w.heap.size 1) = some (.int .i64 num) ∧ (((((w5.setCell (qa wa.heap.size 0) (.int .i64 y0)).setCell (qa wa.heap.size 1) (.int .i64 y1)).setCell (qa wa.heap.size 2) (.string y2)).setCell (qa wa.heap.size 3) (.slice y3 y4 y5)).setCell (qa wa.heap.size 4) (.slice y6 y7 y8)).cell? (qa w.heap.size 2) = some (.string t) ∧ (((((w5.setCell (qa wa.heap.size 0) (.int .i64 y0)).setCell (qa wa.heap.size 1) (.int .i64 y1)).setCell (qa wa.heap.size 2) (.string y2)).setCell (qa wa.heap.size 3) (.slice y3 y4 y5)).setCell (qa wa.heap.size 4) (.slice y6 y7 y8)).cell? (qa w.heap.size 3) = some (.slice A1 ks.length ck) ∧ (((((w5.setCell (qa wa.heap.size 0) (.int .i64 y0)).setCell (qa wa.heap.size 1) (.int .i64 y1)).setCell (qa wa.heap.size 2) (.string y2)).setCell (qa wa.heap.size 3) (.slice y3 y4 y5)).setCell (qa wa.heap.size 4) (.slice y6 y7 y8)).cell? (qa w.heap.size 4) = some (.slice A2 ns.length cc) ∧ (((((w5.setCell (qa wa.heap.size 0) (.int .i64 y0)).setCell (qa wa.heap.size 1) (.int .i64 y1)).setCell (qa wa.heap.size 2) (.string y2)).setCell (qa wa.heap.size 3) (.slice y3 y4 y5)).setCell (qa wa.heap.size 4) (.slice y6 y7 y8)).cell? (qa ab ao) = some (.string p) ∧ Below w.heap.size w (((((w5.setCell (qa wa.heap.size 0) (.int .i64 y0)).setCell (qa wa.heap.size 1) (.int .i64 y1)).setCell (qa wa.heap.size 2) (.string y2)).setCell (qa wa.heap.size 3) (.slice y3 y4 y5)).setCell (qa wa.heap.size 4) (.slice y6 y7 y8))):=OS.set5 (OS.below HSB1.out HB5.out) (by omega) hxz hab2))
  ·go_wp2_with fail
   go_meet
   have hz5:wa.heap.size ≤ w5.heap.size:=HB5.out.size
   refine ⟨w5.heap.size,y0,y1,y2,y3,y4,y5,y6,y7,y8,rfl,rfl,Blk.new w5 _ _,?_,((HY.out.drew.below HB5.out HY.out.drew.lt).alloc _:Blk _ _ _ _),HS5b.out.2.2.2.2.2.2,by omega⟩
   exact NdIn.keep (fun q hq => World.cell?_alloc_lt _ _ _ hq.2) (fun b hb => by
    have h1:wa.heap.size ≤ b:=hb.1
    have h2:b < w5.heap.size:=hb.2
    exact ⟨by omega,by simp;omega,by omega⟩) _ _ HN5.out
  ·go_wp2_with fail
   go_meet
   have hz5:(wa.alloc (.cells Zn 25)).drew.heap.size ≤ w5.heap.size:=HB5.out.size
   have hz6:(wa.alloc (.cells Zn 25)).drew.heap.size = wa.heap.size + 1:=by show (wa.alloc (.cells Zn 25)).heap.size = _;simp
   refine ⟨wa.heap.size,y0,y1,y2,y3,y4,y5,y6,y7,y8,rfl,rfl,(set5_blk HZ5.out:Blk _ _ _ _),?_,(set5_far ((HY.out.alloc _).drew.below HB5.out (HY.out.alloc _).drew.lt) (by omega):Blk _ _ _ _),HS5b.out.2.2.2.2.2.2,by omega⟩
   exact set5_in HN5.out (fun b hb => by
    have h1:(wa.alloc (.cells Zn 25)).drew.heap.size ≤ b:=hb.1
    omega) (fun b hb => by
    have h1:(wa.alloc (.cells Zn 25)).drew.heap.size ≤ b:=hb.1
    have h2:b < w5.heap.size:=hb.2
    exact ⟨by omega,by show b < (set5 w5 wa.heap.size _ _ _ _ _).heap.size;rw [set5_size];exact h2,by omega⟩)
 case rest =>
  obtain ⟨zb,y0,y1,y2,y3,y4,y5,y6,y7,y8,rfl,rfl,hzb,hn5,hyb,hbb,hz2⟩:=hcut
  obtain ⟨d0,d1,d2,d3,d4⟩:=hyb.out.cells5
  have f0:=hyb.out.frozen 0
  have f1:=hyb.out.frozen 1
  have f2:=hyb.out.frozen 2
  have f3:=hyb.out.frozen 3
  have f4:=hyb.out.frozen 4
  clear HFC HS0 HSB0 HSB1 HZB HX HY HA c0 c1 c2 c3 c4 p0 hl hab2 hxz
  cases F with
  | none =>
   go_wp2_with fail
   clear d0 d1 d2 d3 d4 f0 f1 f2 f3 f4
   have F:=get_fin (r:=none) (S:=S) (S2:=(fun _ => False)) (w:=w) (w2:=wc) (y:=w.heap.size + 1) (by omega) hbb.out hyb.out (nd0_in 0 (by unfold I64;omega) _ _) (fun b hb => hb.elim)
   unfold set5 at F
   generalize (((((wc).setCell (qa (w.heap.size + 1) 0) (.int .i64 0)).setCell (qa (w.heap.size + 1) 1) (.int .i64 0)).setCell (qa (w.heap.size + 1) 2) (.string ⟨#[]⟩)).setCell (qa (w.heap.size + 1) 3) (.slice none 0 0)).setCell (qa (w.heap.size + 1) 4) (.slice none 0 0) = WF at *
   obtain ⟨F1,F2⟩:=F
   obtain ⟨q0,q1,q2,q3,q4⟩:=F1.cells5
   refine bodyPost_ret (v:=.tuple #[.agg Zn,.bool false]) (by simp [results,Tryd.results57,go_sem,q0,q1,q2,q3,q4]) rfl ?_
   rw [HG.out none (fun m h => by cases h) (fun _ => rfl)]
   exact F2
  | some m =>
   have HM:=Lib.hid (HKF.out m HF.out.symm)
   have hn7:NdIn wc (fun b => w.heap.size + 2 ≤ b ∧ b < wc.heap.size ∧ b ≠ zb) m (nL y0 y1 y2 y3 y4 y5 y6 y7 y8):=hn5.out
   have HN7:Hid (NdIn wc.drew (fun b => w.heap.size + 2 ≤ b ∧ b < wc.heap.size ∧ b ≠ zb) m (nL y0 y1 y2 y3 y4 y5 y6 y7 y8)):=NdIn.keep (w:=wc) (w':=wc.drew) (fun _ _ => rfl) (fun _ h => h) m _ hn7
   clear hn7
   have HIH:Hid (Calls Tryd.prog 57 #[.agg (nA y0 y1 y2 y3 y4 y5 y6 y7 y8),.slice (some (qa ab ao)) 0 0] wc.drew (GetP (getN [] m) (fun b => w.heap.size + 2 ≤ b ∧ b < wc.heap.size ∧ b ≠ zb) wc.drew)):=
    IH m (nL y0 y1 y2 y3 y4 y5 y6 y7 y8) wc.drew (fun b => w.heap.size + 2 ≤ b ∧ b < wc.heap.size ∧ b ≠ zb) _ 0 HN7.out (fun b hb => hb.2.1) ((HR.out.keep fun q hq => hbb.out.cell hq).more hbb.out.size) (Nat.le_refl _) (by unfold maxLen at *;omega) HM.out.1 HM.out.2
   have HG2:Hid (getN (p :: []) (.mk 7 num t ks ns) = getN [] m):=HG.out _ (fun m' h => by injection h with h;rw [h]) (fun h => by cases h)
   have hzc:zb < wc.heap.size:=hzb.out.lt
   have hzy:zb ≠ w.heap.size + 1:=by omega
   obtain ⟨c0,c1,c2,c3,c4⟩:=hzb.out.cells5
   have HS0:Hid (wc.drew.cell? (qa zb 0) = some (.int .i64 y0) ∧ wc.drew.cell? (qa zb 1) = some (.int .i64 y1) ∧ wc.drew.cell? (qa zb 2) = some (.string y2) ∧ wc.drew.cell? (qa zb 3) = some (.slice y3 y4 y5) ∧ wc.drew.cell? (qa zb 4) = some (.slice y6 y7 y8)):=⟨c0,c1,c2,c3,c4⟩
   skip
   have hyc:w.heap.size + 1 < wc.heap.size:=hyb.out.lt
   clear HF HKF HG hn5
   go_wp2_with fail
   go_region_held3 (fun w' => w'.cell? (qa zb 0) = some (.int .i64 y0) ∧ w'.cell? (qa zb 1) = some (.int .i64 y1) ∧ w'.cell? (qa zb 2) = some (.string y2) ∧ w'.cell? (qa zb 3) = some (.slice y3 y4 y5) ∧ w'.cell? (qa zb 4) = some (.slice y6 y7 y8)) (first | with_reducible exact HS0.out | with_reducible exact HS5.out | with_reducible exact HSF.out) (first
    | (go_at_call 57;(with_reducible refine (HIH.out:Calls _ _ _ _ _).mono ?_);rintro e w5 ⟨g0,g1,g2,g3,g4,g5,g6,g7,g8,rfl,hn6,hb6⟩;have HN6:=Lib.hid hn6;have HB6:=Lib.hid hb6;clear hn6 hb6;have HS5:Hid (w5.cell? (qa zb 0) = some (.int .i64 y0) ∧ w5.cell? (qa zb 1) = some (.int .i64 y1) ∧ w5.cell? (qa zb 2) = some (.string y2) ∧ w5.cell? (qa zb 3) = some (.slice y3 y4 y5) ∧ w5.cell? (qa zb 4) = some (.slice y6 y7 y8)):=(hzb.out.drew.below HB6.out hzb.out.drew.lt).cells5;have HSF:Hid ((((((w5.setCell (qa (w.heap.size + 1) 0) (.int .i64 g0)).setCell (qa (w.heap.size + 1) 1) (.int .i64 g1)).setCell (qa (w.heap.size + 1) 2) (.string g2)).setCell (qa (w.heap.size + 1) 3) (.slice g3 g4 g5)).setCell (qa (w.heap.size + 1) 4) (.slice g6 g7 g8)).cell? (qa zb 0) = some (.int .i64 y0) ∧ (((((w5.setCell (qa (w.heap.size + 1) 0) (.int .i64 g0)).setCell (qa (w.heap.size + 1) 1) (.int .i64 g1)).setCell (qa (w.heap.size + 1) 2) (.string g2)).setCell (qa (w.heap.size + 1) 3) (.slice g3 g4 g5)).setCell (qa (w.heap.size + 1) 4) (.slice g6 g7 g8)).cell? (qa zb 1) = some (.int .i64 y1) ∧ (((((w5.setCell (qa (w.heap.size + 1) 0) (.int .i64 g0)).setCell (qa (w.heap.size + 1) 1) (.int .i64 g1)).setCell (qa (w.heap.size + 1) 2) (.string g2)).setCell (qa (w.heap.size + 1) 3) (.slice g3 g4 g5)).setCell (qa (w.heap.size + 1) 4) (.slice g6 g7 g8)).cell? (qa zb 2) = some (.string y2) ∧ (((((w5.setCell (qa (w.heap.size + 1) 0) (.int .i64 g0)).setCell (qa (w.heap.size + 1) 1) (.int .i64 g1)).setCell (qa (w.heap.size + 1) 2) (.string g2)).setCell (qa (w.heap.size + 1) 3) (.slice g3 g4 g5)).setCell (qa (w.heap.size + 1) 4) (.slice g6 g7 g8)).cell? (qa zb 3) = some (.slice y3 y4 y5) ∧ (((((w5.setCell (qa (w.heap.size + 1) 0) (.int .i64 g0)).setCell (qa (w.heap.size + 1) 1) (.int .i64 g1)).setCell (qa (w.heap.size + 1) 2) (.string g2)).setCell (qa (w.heap.size + 1) 3) (.slice g3 g4 g5)).setCell (qa (w.heap.size + 1) 4) (.slice g6 g7 g8)).cell? (qa zb 4) = some (.slice y6 y7 y8)):=(set5_far (hzb.out.drew.below HB6.out hzb.out.drew.lt) hzy).cells5;have HY6:=Lib.hid (hyb.out.drew.below HB6.out hyb.out.drew.lt);obtain ⟨d0,d1,d2,d3,d4⟩:=HY6.out.cells5;have f0:=HY6.out.frozen 0;have f1:=HY6.out.frozen 1;have f2:=HY6.out.frozen 2;have f3:=HY6.out.frozen 3;have f4:=HY6.out.frozen 4))
   have hz6:wc.heap.size ≤ w5.heap.size:=HB6.out.size
   go_wp2_with fail
   clear d0 d1 d2 d3 d4 f0 f1 f2 f3 f4
   have F:=get_fin (r:=getN [] m) (S:=S) (S2:=(fun b => (w.heap.size + 2 ≤ b ∧ b < wc.heap.size ∧ b ≠ zb) ∨ Since wc.drew w5 b)) (w:=w) (w2:=w5) (y:=w.heap.size + 1) (by omega) (hbb.out.drew.trans (HB6.out.mono hbb.out.size)) HY6.out HN6.out (fun b hb => by
     rcases hb with hb | hb
     ·exact ⟨.inr ⟨by omega,by omega⟩,by omega⟩
     ·have h1:wc.heap.size ≤ b:=hb.1
      exact ⟨.inr ⟨by omega,hb.2⟩,by omega⟩)
   unfold set5 at F
   generalize (((((w5).setCell (qa (w.heap.size + 1) 0) (.int .i64 g0)).setCell (qa (w.heap.size + 1) 1) (.int .i64 g1)).setCell (qa (w.heap.size + 1) 2) (.string g2)).setCell (qa (w.heap.size + 1) 3) (.slice g3 g4 g5)).setCell (qa (w.heap.size + 1) 4) (.slice g6 g7 g8) = WF at *
   obtain ⟨F1,F2⟩:=F
   obtain ⟨q0,q1,q2,q3,q4⟩:=F1.cells5
   refine bodyPost_ret (v:=.tuple #[.agg (nA g0 g1 g2 g3 g4 g5 g6 g7 g8),.bool (getN [] m).isSome]) (by simp [results,Tryd.results57,go_sem,q0,q1,q2,q3,q4]) rfl ?_
   rw [HG2.out];exact F2
set_option maxHeartbeats 4000000 in
theorem get_obj2 (p:ByteArray) (l:List ByteArray) (c:Nat) (hc1:¬ c = 1) (hl:l.length + 1 ≤ c) (IH:GetOK l) (n:Nd) (h7:n.kind = 7):GetStep p l n (l.length + 1) c (fun ab ao => some (qa ab (ao + 1))):=by
 intro hpz cs w S ab ao hn hS hab hp hr hc hs hct
 have hn0:=Lib.hid (NdIn.is hS _ _ hn)
 have hs0:=Lib.hid hs
 have HKF:Hid (∀ m:Nd,findN n p = some m → sizeOk m ∧ m.count ≤ 1000000):=fun m hm => by
  obtain ⟨i,hi⟩:=findN_kid hm
  have:=kid_ok hi hs
  exact ⟨this.1,by omega⟩
 obtain ⟨F,hF⟩:∃ F,F = findN n p:=⟨_,rfl⟩
 have HG:Hid (∀ r,(∀ m,F = some m → getN l m = r) → (F = none → r = none) → getN (p :: l) n = r):=fun r h1 h2 => by
  rw [getN,if_pos h7,← hF]
  cases F with
  | none => exact (h2 rfl).symm
  | some m => exact h1 m rfl
 have HF:=Lib.hid hF
 cases n with
 | mk k num t ks ns =>
 unfold NdIn at hn
 obtain ⟨A1,ck,A2,cc,xs,rfl,hks,hxs,hns,ik,inn,ht,hkl,hkm,hmm⟩:=hn
 simp only [Nd.kind] at h7
 subst h7
 have HFC:Hid (∀ w',Below w.heap.size w w' → Calls Tryd.prog 21 #[.agg (nA 7 num t A1 ks.length ck A2 ns.length cc),.string p] w' (FindP F w')):=fun w' h' => by
  rw [HF.out]
  exact cFind_any _ p _ w' w.heap.size (hn0.out.below h') h'.size hs0.out
 have HS:=Lib.hid hS
 have HR:=Lib.hid hr
 clear hS hks hxs hns hkl hr hs hF hn0 hs0 inn ht hkm hmm hct ik
 have hp0:=Lib.hid hp
 show Calls Tryd.prog 57 #[.agg (nA 7 num t A1 ks.length ck A2 ns.length cc),.slice (some (qa ab ao)) (l.length + 1) c] w _
 have hA:Below w.heap.size w ((w.alloc (.cells (nA 7 num t A1 ks.length ck A2 ns.length cc) 25)).alloc (.cells Zn 25)):=((Below.refl _ _).alloc (Nat.le_refl _) _).alloc (by simp) _
 have hX:Blk ((w.alloc (.cells (nA 7 num t A1 ks.length ck A2 ns.length cc) 25)).alloc (.cells Zn 25)) w.heap.size 25 (nA 7 num t A1 ks.length ck A2 ns.length cc):=(Blk.new w _ _).alloc _
 have hY:Blk ((w.alloc (.cells (nA 7 num t A1 ks.length ck A2 ns.length cc) 25)).alloc (.cells Zn 25)) (w.heap.size + 1) 25 Zn:=by
  have:=Blk.new (w.alloc (.cells (nA 7 num t A1 ks.length ck A2 ns.length cc) 25)) 25 Zn
  simpa using this
 have hZ:w.heap.size + 2 = ((w.alloc (.cells (nA 7 num t A1 ks.length ck A2 ns.length cc) 25)).alloc (.cells Zn 25)).heap.size:=by simp
 have HA:=Lib.hid hA
 have HX:=Lib.hid hX
 have HY:=Lib.hid hY
 clear hA hX hY
 go_enter Tryd.func57,Tryd.ntmps57
 go_upto_region 1 with fail
 generalize (w.alloc (.cells (nA 7 num t A1 ks.length ck A2 ns.length cc) 25)).alloc (.cells Zn 25) = wa at *
 have p0:wa.cell? (qa ab ao) = some (.string p):=(HA.out.cell (p:=(qa ab ao)) hab).trans hp0.out
 obtain ⟨c0,c1,c2,c3,c4⟩:=HX.out.cells5
 clear hp
 have hl:w.heap.size < wa.heap.size:=by omega
 have hab2:ab ≠ wa.heap.size:=by omega
 have hxz:w.heap.size ≠ wa.heap.size:=by omega
 have hos:OS w w.heap.size ab ao (.int .i64 7) (.int .i64 num) (.string t) (.slice A1 ks.length ck) (.slice A2 ns.length cc) (.string p) wa:=⟨c0,c1,c2,c3,c4,p0,HA.out⟩
 have HS0:Hid (wa.drew.cell? (qa w.heap.size 0) = some (.int .i64 7) ∧ wa.drew.cell? (qa w.heap.size 1) = some (.int .i64 num) ∧ wa.drew.cell? (qa w.heap.size 2) = some (.string t) ∧ wa.drew.cell? (qa w.heap.size 3) = some (.slice A1 ks.length ck) ∧ wa.drew.cell? (qa w.heap.size 4) = some (.slice A2 ns.length cc) ∧ wa.drew.cell? (qa ab ao) = some (.string p) ∧ Below w.heap.size w wa.drew):=hos.drew
 have HSB0:Hid ((wa.drew.alloc (.cells Zn 25)).cell? (qa w.heap.size 0) = some (.int .i64 7) ∧ (wa.drew.alloc (.cells Zn 25)).cell? (qa w.heap.size 1) = some (.int .i64 num) ∧ (wa.drew.alloc (.cells Zn 25)).cell? (qa w.heap.size 2) = some (.string t) ∧ (wa.drew.alloc (.cells Zn 25)).cell? (qa w.heap.size 3) = some (.slice A1 ks.length ck) ∧ (wa.drew.alloc (.cells Zn 25)).cell? (qa w.heap.size 4) = some (.slice A2 ns.length cc) ∧ (wa.drew.alloc (.cells Zn 25)).cell? (qa ab ao) = some (.string p) ∧ Below w.heap.size w (wa.drew.alloc (.cells Zn 25))):=hos.drew.alloc _
 have HSB1:Hid ((wa.alloc (.cells Zn 25)).drew.cell? (qa w.heap.size 0) = some (.int .i64 7) ∧ (wa.alloc (.cells Zn 25)).drew.cell? (qa w.heap.size 1) = some (.int .i64 num) ∧ (wa.alloc (.cells Zn 25)).drew.cell? (qa w.heap.size 2) = some (.string t) ∧ (wa.alloc (.cells Zn 25)).drew.cell? (qa w.heap.size 3) = some (.slice A1 ks.length ck) ∧ (wa.alloc (.cells Zn 25)).drew.cell? (qa w.heap.size 4) = some (.slice A2 ns.length cc) ∧ (wa.alloc (.cells Zn 25)).drew.cell? (qa ab ao) = some (.string p) ∧ Below w.heap.size w (wa.alloc (.cells Zn 25)).drew):=(hos.alloc _).drew
 have HZB:Hid (Blk (wa.alloc (.cells Zn 25)).drew wa.heap.size 25 Zn):=(Blk.new wa _ _).drew
 clear hos
 go_upto_region 4 with fail
 go_cut [6,7] (fun t6 t7 wx => ∃ (zb:Nat) (y0 y1:Int) (y2:ByteArray) (y3:Option Addr) (y4 y5:Nat) (y6:Option Addr) (y7 y8:Nat),t6 = .pointer (some (qa zb 0)) ∧ t7 = .bool F.isSome ∧ Hid (Blk wx zb 25 (nA y0 y1 y2 y3 y4 y5 y6 y7 y8)) ∧ Hid (NdIn wx (fun b => w.heap.size + 2 ≤ b ∧ b < wx.heap.size ∧ b ≠ zb) (F.getD (nd0 0)) (nL y0 y1 y2 y3 y4 y5 y6 y7 y8)) ∧ Hid (Blk wx (w.heap.size + 1) 25 Zn) ∧ Hid (Below w.heap.size w wx) ∧ w.heap.size + 2 ≤ zb)
 case first =>
  go_region_held3 (fun w' => w'.cell? (qa w.heap.size 0) = some (.int .i64 7) ∧ w'.cell? (qa w.heap.size 1) = some (.int .i64 num) ∧ w'.cell? (qa w.heap.size 2) = some (.string t) ∧ w'.cell? (qa w.heap.size 3) = some (.slice A1 ks.length ck) ∧ w'.cell? (qa w.heap.size 4) = some (.slice A2 ns.length cc) ∧ w'.cell? (qa ab ao) = some (.string p) ∧ Below w.heap.size w w') (first | with_reducible exact HS0.out | with_reducible exact HSB0.out | with_reducible exact HSB1.out | with_reducible exact HS5.out | with_reducible exact HS5a.out | with_reducible exact HS5b.out) (first
   | (go_at_call 21;(with_reducible refine (HFC.out wa.drew HA.out.drew).mono ?_);rintro e w5 ⟨y0,y1,y2,y3,y4,y5,y6,y7,y8,rfl,hn5,hb5⟩;have HN5:=Lib.hid hn5;have HB5:=Lib.hid hb5;clear hn5 hb5;have HS5:Hid (w5.cell? (qa w.heap.size 0) = some (.int .i64 7) ∧ w5.cell? (qa w.heap.size 1) = some (.int .i64 num) ∧ w5.cell? (qa w.heap.size 2) = some (.string t) ∧ w5.cell? (qa w.heap.size 3) = some (.slice A1 ks.length ck) ∧ w5.cell? (qa w.heap.size 4) = some (.slice A2 ns.length cc) ∧ w5.cell? (qa ab ao) = some (.string p) ∧ Below w.heap.size w w5):=OS.below HS0.out HB5.out;have HS5a:Hid ((w5.alloc (.cells Zn 25)).cell? (qa w.heap.size 0) = some (.int .i64 7) ∧ (w5.alloc (.cells Zn 25)).cell? (qa w.heap.size 1) = some (.int .i64 num) ∧ (w5.alloc (.cells Zn 25)).cell? (qa w.heap.size 2) = some (.string t) ∧ (w5.alloc (.cells Zn 25)).cell? (qa w.heap.size 3) = some (.slice A1 ks.length ck) ∧ (w5.alloc (.cells Zn 25)).cell? (qa w.heap.size 4) = some (.slice A2 ns.length cc) ∧ (w5.alloc (.cells Zn 25)).cell? (qa ab ao) = some (.string p) ∧ Below w.heap.size w (w5.alloc (.cells Zn 25))):=OS.alloc (OS.below HS0.out HB5.out) _;have HS5b:Hid ((w5.alloc (.cells (nA y0 y1 y2 y3 y4 y5 y6 y7 y8) 25)).cell? (qa w.heap.size 0) = some (.int .i64 7) ∧ (w5.alloc (.cells (nA y0 y1 y2 y3 y4 y5 y6 y7 y8) 25)).cell? (qa w.heap.size 1) = some (.int .i64 num) ∧ (w5.alloc (.cells (nA y0 y1 y2 y3 y4 y5 y6 y7 y8) 25)).cell? (qa w.heap.size 2) = some (.string t) ∧ (w5.alloc (.cells (nA y0 y1 y2 y3 y4 y5 y6 y7 y8) 25)).cell? (qa w.heap.size 3) = some (.slice A1 ks.length ck) ∧ (w5.alloc (.cells (nA y0 y1 y2 y3 y4 y5 y6 y7 y8) 25)).cell? (qa w.heap.size 4) = some (.slice A2 ns.length cc) ∧ (w5.alloc (.cells (nA y0 y1 y2 y3 y4 y5 y6 y7 y8) 25)).cell? (qa ab ao) = some (.string p) ∧ Below w.heap.size w (w5.alloc (.cells (nA y0 y1 y2 y3 y4 y5 y6 y7 y8) 25))):=OS.alloc (OS.below HS0.out HB5.out) _)
   | (go_at_call 21;(with_reducible refine (HFC.out (wa.alloc (.cells Zn 25)).drew HSB1.out.2.2.2.2.2.2).mono ?_);rintro e w5 ⟨y0,y1,y2,y3,y4,y5,y6,y7,y8,rfl,hn5,hb5⟩;have HN5:=Lib.hid hn5;have HB5:=Lib.hid hb5;clear hn5 hb5;have HS5:Hid (w5.cell? (qa w.heap.size 0) = some (.int .i64 7) ∧ w5.cell? (qa w.heap.size 1) = some (.int .i64 num) ∧ w5.cell? (qa w.heap.size 2) = some (.string t) ∧ w5.cell? (qa w.heap.size 3) = some (.slice A1 ks.length ck) ∧ w5.cell? (qa w.heap.size 4) = some (.slice A2 ns.length cc) ∧ w5.cell? (qa ab ao) = some (.string p) ∧ Below w.heap.size w w5):=OS.below HSB1.out HB5.out;have HZ5:=Lib.hid (HZB.out.below HB5.out HZB.out.lt);obtain ⟨d0,d1,d2,d3,d4⟩:=HZ5.out.cells5;have f0:=HZ5.out.frozen 0;have f1:=HZ5.out.frozen 1;have f2:=HZ5.out.frozen 2;have f3:=HZ5.out.frozen 3;have f4:=HZ5.out.frozen 4;have HS5b:Hid ((((((w5.setCell (qa wa.heap.size 0) (.int .i64 y0)).setCell (qa wa.heap.size 1) (.int .i64 y1)).setCell (qa wa.heap.size 2) (.string y2)).setCell (qa wa.heap.size 3) (.slice y3 y4 y5)).setCell (qa wa.heap.size 4) (.slice y6 y7 y8)).cell? (qa w.heap.size 0) = some (.int .i64 7) ∧ (((((w5.setCell (qa wa.heap.size 0) (.int .i64 y0)).setCell (qa wa.heap.size 1) (.int .i64 y1)).setCell (qa wa.heap.size 2) (.string y2)).setCell (qa wa.heap.size 3) (.slice y3 y4 y5)).setCell (qa wa.heap.size 4) (.slice y6 y7 y8)).cell? (qa w.heap.size 1) = some (.int .i64 num) ∧ (((((w5.setCell (qa wa.heap.size 0) (.int .i64 y0)).setCell (qa wa.heap.size 1) (.int .i64 y1)).setCell (qa wa.heap.size 2) (.string y2)).setCell (qa wa.heap.size 3) (.slice y3 y4 y5)).setCell (qa wa.heap.size 4) (.slice y6 y7 y8)).cell? (qa w.heap.size 2) = some (.string t) ∧ (((((w5.setCell (qa wa.heap.size 0) (.int .i64 y0)).setCell (qa wa.heap.size 1) (.int .i64 y1)).setCell (qa wa.heap.size 2) (.string y2)).setCell (qa wa.heap.size 3) (.slice y3 y4 y5)).setCell (qa wa.heap.size 4) (.slice y6 y7 y8)).cell? (qa w.heap.size 3) = some (.slice A1 ks.length ck) ∧ (((((w5.setCell (qa wa.heap.size 0) (.int .i64 y0)).setCell (qa wa.heap.size 1) (.int .i64 y1)).setCell (qa wa.heap.size 2) (.string y2)).setCell (qa wa.heap.size 3) (.slice y3 y4 y5)).setCell (qa wa.heap.size 4) (.slice y6 y7 y8)).cell? (qa w.heap.size 4) = some (.slice A2 ns.length cc) ∧ (((((w5.setCell (qa wa.heap.size 0) (.int .i64 y0)).setCell (qa wa.heap.size 1) (.int .i64 y1)).setCell (qa wa.heap.size 2) (.string y2)).setCell (qa wa.heap.size 3) (.slice y3 y4 y5)).setCell (qa wa.heap.size 4) (.slice y6 y7 y8)).cell? (qa ab ao) = some (.string p) ∧ Below w.heap.size w (((((w5.setCell (qa wa.heap.size 0) (.int .i64 y0)).setCell (qa wa.heap.size 1) (.int .i64 y1)).setCell (qa wa.heap.size 2) (.string y2)).setCell (qa wa.heap.size 3) (.slice y3 y4 y5)).setCell (qa wa.heap.size 4) (.slice y6 y7 y8))):=OS.set5 (OS.below HSB1.out HB5.out) (by omega) hxz hab2))
  ·go_wp2_with fail
   go_meet
   have hz5:wa.heap.size ≤ w5.heap.size:=HB5.out.size
   refine ⟨w5.heap.size,y0,y1,y2,y3,y4,y5,y6,y7,y8,rfl,rfl,Blk.new w5 _ _,?_,((HY.out.drew.below HB5.out HY.out.drew.lt).alloc _:Blk _ _ _ _),HS5b.out.2.2.2.2.2.2,by omega⟩
   exact NdIn.keep (fun q hq => World.cell?_alloc_lt _ _ _ hq.2) (fun b hb => by
    have h1:wa.heap.size ≤ b:=hb.1
    have h2:b < w5.heap.size:=hb.2
    exact ⟨by omega,by simp;omega,by omega⟩) _ _ HN5.out
  ·go_wp2_with fail
   go_meet
   have hz5:(wa.alloc (.cells Zn 25)).drew.heap.size ≤ w5.heap.size:=HB5.out.size
   have hz6:(wa.alloc (.cells Zn 25)).drew.heap.size = wa.heap.size + 1:=by show (wa.alloc (.cells Zn 25)).heap.size = _;simp
   refine ⟨wa.heap.size,y0,y1,y2,y3,y4,y5,y6,y7,y8,rfl,rfl,(set5_blk HZ5.out:Blk _ _ _ _),?_,(set5_far ((HY.out.alloc _).drew.below HB5.out (HY.out.alloc _).drew.lt) (by omega):Blk _ _ _ _),HS5b.out.2.2.2.2.2.2,by omega⟩
   exact set5_in HN5.out (fun b hb => by
    have h1:(wa.alloc (.cells Zn 25)).drew.heap.size ≤ b:=hb.1
    omega) (fun b hb => by
    have h1:(wa.alloc (.cells Zn 25)).drew.heap.size ≤ b:=hb.1
    have h2:b < w5.heap.size:=hb.2
    exact ⟨by omega,by show b < (set5 w5 wa.heap.size _ _ _ _ _).heap.size;rw [set5_size];exact h2,by omega⟩)
 case rest =>
  obtain ⟨zb,y0,y1,y2,y3,y4,y5,y6,y7,y8,rfl,rfl,hzb,hn5,hyb,hbb,hz2⟩:=hcut
  obtain ⟨d0,d1,d2,d3,d4⟩:=hyb.out.cells5
  have f0:=hyb.out.frozen 0
  have f1:=hyb.out.frozen 1
  have f2:=hyb.out.frozen 2
  have f3:=hyb.out.frozen 3
  have f4:=hyb.out.frozen 4
  clear HFC HS0 HSB0 HSB1 HZB HX HY HA c0 c1 c2 c3 c4 p0 hl hab2 hxz
  cases F with
  | none =>
   go_wp2_with fail
   clear d0 d1 d2 d3 d4 f0 f1 f2 f3 f4
   have F:=get_fin (r:=none) (S:=S) (S2:=(fun _ => False)) (w:=w) (w2:=wc) (y:=w.heap.size + 1) (by omega) hbb.out hyb.out (nd0_in 0 (by unfold I64;omega) _ _) (fun b hb => hb.elim)
   unfold set5 at F
   generalize (((((wc).setCell (qa (w.heap.size + 1) 0) (.int .i64 0)).setCell (qa (w.heap.size + 1) 1) (.int .i64 0)).setCell (qa (w.heap.size + 1) 2) (.string ⟨#[]⟩)).setCell (qa (w.heap.size + 1) 3) (.slice none 0 0)).setCell (qa (w.heap.size + 1) 4) (.slice none 0 0) = WF at *
   obtain ⟨F1,F2⟩:=F
   obtain ⟨q0,q1,q2,q3,q4⟩:=F1.cells5
   refine bodyPost_ret (v:=.tuple #[.agg Zn,.bool false]) (by simp [results,Tryd.results57,go_sem,q0,q1,q2,q3,q4]) rfl ?_
   rw [HG.out none (fun m h => by cases h) (fun _ => rfl)]
   exact F2
  | some m =>
   have HM:=Lib.hid (HKF.out m HF.out.symm)
   have hn7:NdIn wc (fun b => w.heap.size + 2 ≤ b ∧ b < wc.heap.size ∧ b ≠ zb) m (nL y0 y1 y2 y3 y4 y5 y6 y7 y8):=hn5.out
   have HN7:Hid (NdIn wc.drew (fun b => w.heap.size + 2 ≤ b ∧ b < wc.heap.size ∧ b ≠ zb) m (nL y0 y1 y2 y3 y4 y5 y6 y7 y8)):=NdIn.keep (w:=wc) (w':=wc.drew) (fun _ _ => rfl) (fun _ h => h) m _ hn7
   clear hn7
   have HIH:Hid (Calls Tryd.prog 57 #[.agg (nA y0 y1 y2 y3 y4 y5 y6 y7 y8),.slice (some (qa ab (ao + 1))) l.length (c - 1)] wc.drew (GetP (getN l m) (fun b => w.heap.size + 2 ≤ b ∧ b < wc.heap.size ∧ b ≠ zb) wc.drew)):=
    IH m (nL y0 y1 y2 y3 y4 y5 y6 y7 y8) wc.drew (fun b => w.heap.size + 2 ≤ b ∧ b < wc.heap.size ∧ b ≠ zb) _ (c - 1) HN7.out (fun b hb => hb.2.1) ((HR.out.keep fun q hq => hbb.out.cell hq).more hbb.out.size) (by omega) (by unfold maxLen at *;omega) HM.out.1 HM.out.2
   have HG2:Hid (getN (p :: l) (.mk 7 num t ks ns) = getN l m):=HG.out _ (fun m' h => by injection h with h;rw [h]) (fun h => by cases h)
   have hzc:zb < wc.heap.size:=hzb.out.lt
   have hzy:zb ≠ w.heap.size + 1:=by omega
   obtain ⟨c0,c1,c2,c3,c4⟩:=hzb.out.cells5
   have HS0:Hid (wc.drew.cell? (qa zb 0) = some (.int .i64 y0) ∧ wc.drew.cell? (qa zb 1) = some (.int .i64 y1) ∧ wc.drew.cell? (qa zb 2) = some (.string y2) ∧ wc.drew.cell? (qa zb 3) = some (.slice y3 y4 y5) ∧ wc.drew.cell? (qa zb 4) = some (.slice y6 y7 y8)):=⟨c0,c1,c2,c3,c4⟩
   have hx:¬ (l.length:Int) + 1 < 1:=by omega
   have hyc:w.heap.size + 1 < wc.heap.size:=hyb.out.lt
   clear HF HKF HG hn5
   go_wp2_with fail
   go_region_held3 (fun w' => w'.cell? (qa zb 0) = some (.int .i64 y0) ∧ w'.cell? (qa zb 1) = some (.int .i64 y1) ∧ w'.cell? (qa zb 2) = some (.string y2) ∧ w'.cell? (qa zb 3) = some (.slice y3 y4 y5) ∧ w'.cell? (qa zb 4) = some (.slice y6 y7 y8)) (first | with_reducible exact HS0.out | with_reducible exact HS5.out | with_reducible exact HSF.out) (first
    | (go_at_call 57;(with_reducible refine (HIH.out:Calls _ _ _ _ _).mono ?_);rintro e w5 ⟨g0,g1,g2,g3,g4,g5,g6,g7,g8,rfl,hn6,hb6⟩;have HN6:=Lib.hid hn6;have HB6:=Lib.hid hb6;clear hn6 hb6;have HS5:Hid (w5.cell? (qa zb 0) = some (.int .i64 y0) ∧ w5.cell? (qa zb 1) = some (.int .i64 y1) ∧ w5.cell? (qa zb 2) = some (.string y2) ∧ w5.cell? (qa zb 3) = some (.slice y3 y4 y5) ∧ w5.cell? (qa zb 4) = some (.slice y6 y7 y8)):=(hzb.out.drew.below HB6.out hzb.out.drew.lt).cells5;have HSF:Hid ((((((w5.setCell (qa (w.heap.size + 1) 0) (.int .i64 g0)).setCell (qa (w.heap.size + 1) 1) (.int .i64 g1)).setCell (qa (w.heap.size + 1) 2) (.string g2)).setCell (qa (w.heap.size + 1) 3) (.slice g3 g4 g5)).setCell (qa (w.heap.size + 1) 4) (.slice g6 g7 g8)).cell? (qa zb 0) = some (.int .i64 y0) ∧ (((((w5.setCell (qa (w.heap.size + 1) 0) (.int .i64 g0)).setCell (qa (w.heap.size + 1) 1) (.int .i64 g1)).setCell (qa (w.heap.size + 1) 2) (.string g2)).setCell (qa (w.heap.size + 1) 3) (.slice g3 g4 g5)).setCell (qa (w.heap.size + 1) 4) (.slice g6 g7 g8)).cell? (qa zb 1) = some (.int .i64 y1) ∧ (((((w5.setCell (qa (w.heap.size + 1) 0) (.int .i64 g0)).setCell (qa (w.heap.size + 1) 1) (.int .i64 g1)).setCell (qa (w.heap.size + 1) 2) (.string g2)).setCell (qa (w.heap.size + 1) 3) (.slice g3 g4 g5)).setCell (qa (w.heap.size + 1) 4) (.slice g6 g7 g8)).cell? (qa zb 2) = some (.string y2) ∧ (((((w5.setCell (qa (w.heap.size + 1) 0) (.int .i64 g0)).setCell (qa (w.heap.size + 1) 1) (.int .i64 g1)).setCell (qa (w.heap.size + 1) 2) (.string g2)).setCell (qa (w.heap.size + 1) 3) (.slice g3 g4 g5)).setCell (qa (w.heap.size + 1) 4) (.slice g6 g7 g8)).cell? (qa zb 3) = some (.slice y3 y4 y5) ∧ (((((w5.setCell (qa (w.heap.size + 1) 0) (.int .i64 g0)).setCell (qa (w.heap.size + 1) 1) (.int .i64 g1)).setCell (qa (w.heap.size + 1) 2) (.string g2)).setCell (qa (w.heap.size + 1) 3) (.slice g3 g4 g5)).setCell (qa (w.heap.size + 1) 4) (.slice g6 g7 g8)).cell? (qa zb 4) = some (.slice y6 y7 y8)):=(set5_far (hzb.out.drew.below HB6.out hzb.out.drew.lt) hzy).cells5;have HY6:=Lib.hid (hyb.out.drew.below HB6.out hyb.out.drew.lt);obtain ⟨d0,d1,d2,d3,d4⟩:=HY6.out.cells5;have f0:=HY6.out.frozen 0;have f1:=HY6.out.frozen 1;have f2:=HY6.out.frozen 2;have f3:=HY6.out.frozen 3;have f4:=HY6.out.frozen 4))
   have hz6:wc.heap.size ≤ w5.heap.size:=HB6.out.size
   go_wp2_with fail
   clear d0 d1 d2 d3 d4 f0 f1 f2 f3 f4
   have F:=get_fin (r:=getN l m) (S:=S) (S2:=(fun b => (w.heap.size + 2 ≤ b ∧ b < wc.heap.size ∧ b ≠ zb) ∨ Since wc.drew w5 b)) (w:=w) (w2:=w5) (y:=w.heap.size + 1) (by omega) (hbb.out.drew.trans (HB6.out.mono hbb.out.size)) HY6.out HN6.out (fun b hb => by
     rcases hb with hb | hb
     ·exact ⟨.inr ⟨by omega,by omega⟩,by omega⟩
     ·have h1:wc.heap.size ≤ b:=hb.1
      exact ⟨.inr ⟨by omega,hb.2⟩,by omega⟩)
   unfold set5 at F
   generalize (((((w5).setCell (qa (w.heap.size + 1) 0) (.int .i64 g0)).setCell (qa (w.heap.size + 1) 1) (.int .i64 g1)).setCell (qa (w.heap.size + 1) 2) (.string g2)).setCell (qa (w.heap.size + 1) 3) (.slice g3 g4 g5)).setCell (qa (w.heap.size + 1) 4) (.slice g6 g7 g8) = WF at *
   obtain ⟨F1,F2⟩:=F
   obtain ⟨q0,q1,q2,q3,q4⟩:=F1.cells5
   refine bodyPost_ret (v:=.tuple #[.agg (nA g0 g1 g2 g3 g4 g5 g6 g7 g8),.bool (getN l m).isSome]) (by simp [results,Tryd.results57,go_sem,q0,q1,q2,q3,q4]) rfl ?_
   rw [HG2.out];exact F2
def SInv (w:World) (S:Nat → Prop) (ob:Nat) (acc:List Nd) (Aw:Option Addr) (cw:Nat) (ys:List Value) (wr:World):Prop:=
 wr.ownsRow (ob + 1) 25 5 (.slice Aw acc.length cw) acc.length ys ∧ NdsIn wr (fun b => S b ∨ SK (ob + 1) wr (.slice Aw acc.length cw) b) acc ys ∧ Blk wr ob 25 #[.int .i64 6,.int .i64 0,.string ⟨#[]⟩,.slice none 0 0,.slice Aw acc.length cw] ∧
 Blk wr (w.heap.size + 1) 25 Zn ∧ Below w.heap.size w wr ∧ w.heap.size + 2 ≤ ob ∧ ob < wr.heap.size
theorem SInv.later {w:World} {S:Nat → Prop} {ob:Nat} {acc:List Nd} {Aw:Option Addr} {cw:Nat} {ys:List Value} {wr wc:World} (h:SInv w S ob acc Aw cw ys wr) (hS:∀ b,S b → b < w.heap.size) (hb:Below wr.heap.size wr wc):SInv w S ob acc Aw cw ys wc:=by
 obtain ⟨h1,h2,h3,h4,h5,h6,h7⟩:=h
 refine ⟨own_old h1 hb,?_,h3.below hb h7,h4.below hb h4.lt,h5.trans (hb.mono h5.size),h6,Nat.lt_of_lt_of_le h7 hb.size⟩
 have hz:=h5.size
 refine NdsIn.keep (fun p hp => hb.cell ?_) (fun b hb' => ?_) _ _ h2
 ·rcases hp with hp | hp
  ·have:=hS _ hp;omega
  ·exact hp.2.1
 ·rcases hb' with hb' | hb'
  ·exact .inl hb'
  ·exact .inr ⟨hb'.1,Nat.lt_of_lt_of_le hb'.2.1 hb.size,hb'.2.2⟩
theorem SInv.push {w:World} {S:Nat → Prop} {ob:Nat} {acc:List Nd} {Aw:Option Addr} {cw:Nat} {ys:List Value} {wc w3:World} (h:SInv w S ob acc Aw cw ys wc) (hS:∀ b,S b → b < w.heap.size) (ms:List Nd) (zs:List Value) (hm:NdsIn wc (fun b => S b ∨ SK (ob + 1) wc (.slice Aw acc.length cw) b) ms zs)
  {Av:Option Addr} {cv n:Nat} (hn:n = (acc ++ ms).length) (ho:w3.ownsRow (ob + 1) 25 5 (.slice Av n cv) n (ys ++ zs)) (hg:wc.grownBy w3 (Value.slice Aw acc.length cw).ownBlock)
  (hv:(Value.slice Av n cv).ownBlock = (Value.slice Aw acc.length cw).ownBlock ∨ ∃ g,(Value.slice Av n cv).ownBlock = some g ∧ wc.heap.size ≤ g) :
  SInv w S ob (acc ++ ms) Av cv (ys ++ zs) (w3.setCell (qa ob 4) (.slice Av n cv)):=by
 subst hn
 obtain ⟨h1,h2,h3,h4,h5,h6,h7⟩:=h
 have hz:=h5.size
 have hown:∀ g,(Value.slice Aw acc.length cw).ownBlock = some g → ob + 1 ≤ g ∧ g < wc.heap.size:=fun g hg => own_lt h1 hg
 have hsz:=hg.size
 have hkeep:∀ p:Addr,(S p.block ∨ SK (ob + 1) wc (.slice Aw acc.length cw) p.block) → (w3.setCell (qa ob 4) (.slice Av (acc ++ ms).length cv)).cell? p = wc.cell? p:=fun p hp => by
  have h1:p.block ≠ ob ∧ p.block < wc.heap.size ∧ some p.block ≠ (Value.slice Aw acc.length cw).ownBlock:=by
   rcases hp with hp | hp
   ·have:=hS _ hp
    exact ⟨by omega,by omega,fun e => by have:=hown _ e.symm;omega⟩
   ·exact ⟨by have:=hp.1;omega,hp.2.1,fun e => hp.2.2 e.symm⟩
  rw [World.cell?_setCell_other _ _ _ _ (by intro e;subst e;exact h1.1 rfl)]
  exact World.cell?_of_block (hg.block p.block h1.2.1 h1.2.2)
 have hsub:∀ b,(S b ∨ SK (ob + 1) wc (.slice Aw acc.length cw) b) → (S b ∨ SK (ob + 1) (w3.setCell (qa ob 4) (.slice Av (acc ++ ms).length cv)) (.slice Av (acc ++ ms).length cv) b):=fun b hb => by
  rcases hb with hb | hb
  ·exact .inl hb
  ·refine .inr ⟨hb.1,by have:=hb.2.1;simp;omega,fun e => ?_⟩
   rcases hv with e2 | ⟨g,e2,hge⟩
   ·rw [e2] at e;exact hb.2.2 e
   ·rw [e2] at e;injection e with e;have:=hb.2.1;omega
 have hno:some ob ≠ (Value.slice Aw acc.length cw).ownBlock:=fun e => by have:=(hown _ e.symm).1;omega
 have hny:some (w.heap.size + 1) ≠ (Value.slice Aw acc.length cw).ownBlock:=fun e => by have:=(hown _ e.symm).1;omega
 refine ⟨ownsRow_setCell_below ho (by simp) _,NdsIn.app2 _ _ _ _ (NdsIn.keep hkeep hsub _ _ h2) (NdsIn.keep hkeep hsub _ _ hm),(h3.grown hg hno).set_ 4 _,(h4.grown hg hny).far (by show w.heap.size + 1 ≠ ob;omega) _,(h5.grown hg (by omega) (fun g hg => by have:=(hown g hg).1;omega)).setCell (p:=(qa ob 4)) (by show w.heap.size ≤ ob;omega) _,h6,by simp;omega⟩
theorem SInv.start {w wa:World} (S:Nat → Prop) (hb:Below w.heap.size w wa) (hy:Blk wa (w.heap.size + 1) 25 Zn) (hz:w.heap.size + 2 ≤ wa.heap.size) :
  SInv w S wa.heap.size [] none 0 [] (wa.alloc (.cells #[.int .i64 6,.int .i64 0,.string ⟨#[]⟩,.slice none 0 0,.slice none 0 0] 25)):=
 ⟨World.ownsRow_nil _ _ _ _,NdsIn.nil,Blk.new wa _ _,hy.alloc _,hb.alloc hb.size _,hz,by simp⟩
theorem SInv.node {w:World} {S:Nat → Prop} {ob:Nat} {acc:List Nd} {Aw:Option Addr} {cw:Nat} {ys:List Value} {wr:World} (h:SInv w S ob acc Aw cw ys wr) (hl:acc.length ≤ 1000000) :
  NdIn wr (fun b => S b ∨ (ob + 1 ≤ b ∧ b < wr.heap.size)) (.mk 6 0 ⟨#[]⟩ [] acc) [.int .i64 6,.int .i64 0,.string ⟨#[]⟩,.slice none 0 0,.slice Aw acc.length cw]:=by
 obtain ⟨h1,h2,h3,h4,h5,h6,h7⟩:=h
 unfold NdIn
 refine ⟨none,0,Aw,cw,ys,rfl,RS.none_,⟨h1.1,fun hn0 => ?_⟩,NdsIn.keep (fun _ _ => rfl) (fun b hb => ?_) _ _ h2,by unfold I64;omega,by unfold I64;omega,by (show (0:Nat) ≤ maxLen);exact Nat.zero_le _,by simp,by simp [maxLen],by unfold maxLen;omega⟩
 ·obtain ⟨g,cap,hv,hg1,hg2⟩:=h1.form hn0
  injection hv with hv1 hv2 hv3
  subst hv1
  exact ⟨_,rfl,.inr ⟨hg1,hg2⟩,fun j u hu => h1.cells (g:=g) rfl j u hu⟩
 ·rcases hb with hb | hb
  ·exact .inl hb
  ·exact .inr ⟨hb.1,hb.2.1⟩
set_option maxHeartbeats 4000000 in
theorem get_star1 (p:ByteArray) (IH:GetOK []) (n:Nd) (h6:n.kind = 6) (hp42:p.toList = [42]):GetStep p [] n 1 1 (fun ab ao => some (qa ab ao)):=by
 intro hpz cs w S ab ao hn hS hab hp hr hc hs hct
 skip
 cases n with
 | mk k num t ks ns =>
 have HK:Hid (∀ (i:Nat) (m:Nd),ns[i]? = some m → sizeOk m ∧ m.count ≤ 1000000):=fun i m hi => by
  have:=kid_ok (n:=.mk k num t ks ns) (i:=i) (m:=m) hi hs
  exact ⟨this.1,by omega⟩
 have hcn0:Nd.count.counts ns ≤ 1000000:=by simp only [Nd.count] at hct;omega
 simp only [Nd.kind] at h6
 subst h6
 have HG:Hid (getN (p :: []) (.mk 6 num t ks ns) = match starL (getN []) ns [] with | none => none | some l => some (.mk 6 0 ⟨#[]⟩ [] l)):=by
  show _ = _
  rw [getN,if_neg (by show ¬ (6:Int) = 7;decide),if_pos (by rfl),if_pos hp42]
  simp only [Nd.kids]
  cases starL (getN []) ns [] <;> rfl
 unfold NdIn at hn
 obtain ⟨A1,ck,A2,cc,xs,rfl,hks,hxs,hns,ik,inn,ht,hkl,hkm,hmm⟩:=hn
 have e42:(p.toList == [42]) = true:=by rw [hp42];rfl
 have hnl:ns.length ≤ 1000000:=Nat.le_trans (len_counts ns) hcn0
 have HS:=Lib.hid hS
 have HXS:=Lib.hid hxs
 have HNS:=Lib.hid hns
 have HR:=Lib.hid hr
 have HCN:=Lib.hid hcn0
 clear hS hks hxs hns hkl hr hs hp42 hcn0 hct ik inn ht hkm hmm
 have hp0:=Lib.hid hp
 show Calls Tryd.prog 57 #[.agg (nA 6 num t A1 ks.length ck A2 ns.length cc),.slice (some (qa ab ao)) 1 1] w _
 have hA:Below w.heap.size w ((w.alloc (.cells (nA 6 num t A1 ks.length ck A2 ns.length cc) 25)).alloc (.cells Zn 25)):=((Below.refl _ _).alloc (Nat.le_refl _) _).alloc (by simp) _
 have hX:Blk ((w.alloc (.cells (nA 6 num t A1 ks.length ck A2 ns.length cc) 25)).alloc (.cells Zn 25)) w.heap.size 25 (nA 6 num t A1 ks.length ck A2 ns.length cc):=(Blk.new w _ _).alloc _
 have hY:Blk ((w.alloc (.cells (nA 6 num t A1 ks.length ck A2 ns.length cc) 25)).alloc (.cells Zn 25)) (w.heap.size + 1) 25 Zn:=by
  have:=Blk.new (w.alloc (.cells (nA 6 num t A1 ks.length ck A2 ns.length cc) 25)) 25 Zn
  simpa using this
 have hZ:w.heap.size + 2 = ((w.alloc (.cells (nA 6 num t A1 ks.length ck A2 ns.length cc) 25)).alloc (.cells Zn 25)).heap.size:=by simp
 have HA:=Lib.hid hA
 have HX:=Lib.hid hX
 have HY:=Lib.hid hY
 clear hA hX hY
 go_enter Tryd.func57,Tryd.ntmps57
 go_upto_region 1 with fail
 generalize (w.alloc (.cells (nA 6 num t A1 ks.length ck A2 ns.length cc) 25)).alloc (.cells Zn 25) = wa at *
 have p0:wa.cell? (qa ab ao) = some (.string p):=(HA.out.cell (p:=(qa ab ao)) hab).trans hp0.out
 obtain ⟨c0,c1,c2,c3,c4⟩:=HX.out.cells5
 clear hp
 have HI0:=Lib.hid (SInv.start S HA.out HY.out (by omega))
 have hl:w.heap.size < wa.heap.size:=by omega
 have c4b:(wa.alloc (.cells #[.int .i64 6,.int .i64 0,.string ⟨#[]⟩,.slice none 0 0,.slice none 0 0] 25)).cell? (qa w.heap.size 4) = some (.slice A2 ns.length cc):=(World.cell?_alloc_lt _ _ _ hl).trans c4
 go_wp2_with fail
 clear c0 c1 c2 c3 c4 p0 c4b
 go_loopw [53] (fun t53 wr => ∃ (i:Nat) (acc:List Nd) (ys:List Value) (Aw:Option Addr) (cw:Nat),i ≤ ns.length ∧ t53 = .int .i64 i ∧ Hid (starL (getN []) (ns.drop i) acc = starL (getN []) ns []) ∧ Hid (Nd.count.counts acc + Nd.count.counts (ns.drop i) ≤ 1000000) ∧ Hid (SInv w S wa.heap.size acc Aw cw ys wr))
  (fun t53 _ => ns.length - (intOf t53).toNat)
 case atStart => exact ⟨0,[],[],none,0,by omega,rfl,rfl,by show _ ≤ _;simp only [Nd.count.counts,List.drop_zero];have:=HCN.out;omega,HI0⟩
 case round =>
  obtain ⟨i,acc,ys,Aw,cw,hi,rfl,hst,hcn,hI⟩:=hrel
  obtain ⟨wo,rfl⟩:∃ wo:World,wo = wr:=⟨_,rfl⟩
  have hob:wa.heap.size < wo.heap.size:=hI.out.2.2.2.2.2.2
  by_cases hlt:i < ns.length
  ·have hkp:∀ q:Addr,S q.block → wo.cell? q = w.cell? q:=fun q hq => hI.out.2.2.2.2.1.cell (HS.out _ hq)
   obtain ⟨b,off,m,rfl,hbS,hmi,x0,x1,x2,x3,x4,x5,x6,x7,x8,hnd,e0,e1,e2,e3,e4⟩:=(HXS.out.keep hkp).nd (NdsIn.keep hkp (fun _ h => h) _ _ HNS.out) hlt
   have hbl:=HS.out b hbS
   have hwz:w.heap.size ≤ wo.heap.size:=hI.out.2.2.2.2.1.size
   have HM:=Lib.hid (HK.out i m hmi)
   have hdr:ns.drop i = m :: ns.drop (i + 1):=by
    obtain ⟨h1,h2⟩:=List.getElem?_eq_some_iff.1 hmi
    rw [← h2];exact List.drop_eq_getElem_cons h1
   obtain ⟨R,hR⟩:∃ R,R = getN [] m:=⟨_,rfl⟩
   have HIH:Hid (∀ w',Below wo.heap.size wo w' → Calls Tryd.prog 57 #[.agg (nA x0 x1 x2 x3 x4 x5 x6 x7 x8),.slice (some (qa ab ao)) 0 0] w' (GetP R S w')):=fun w' h' => by
    rw [hR]
    exact IH m (nL x0 x1 x2 x3 x4 x5 x6 x7 x8) w' S _ 0 (NdIn.keep (fun q hq => h'.cell (by have:=HS.out _ hq;omega)) (fun _ h => h) _ _ hnd) (fun b hb => by have:=HS.out b hb;have:=h'.size;omega) ((HR.out.keep fun q hq => ((h'.mono hwz).cell hq).trans (hI.out.2.2.2.2.1.cell hq)).more (Nat.le_trans hwz h'.size)) (Nat.le_refl _) (by unfold maxLen at *;omega) HM.out.1 HM.out.2
   have HST1:Hid (∀ r,R = r → starL (getN []) ns [] = match r with | none => none | some x => starL (getN []) (ns.drop (i + 1)) (starAdd x acc)):=fun r hr => by
    rw [← hst.out,hdr,starL,← hR,hr];cases r <;> rfl
   have HCN1:Hid (∀ x,R = some x → Nd.count.counts (starAdd x acc) + Nd.count.counts (ns.drop (i + 1)) ≤ 1000000 ∧ x.count ≤ 1000000):=fun x hx => by
    have h1:=hcn.out
    rw [hdr] at h1
    simp only [Nd.count.counts] at h1
    have h2:=(getN_ok [] m x (by rw [← hR];exact hx) HM.out.1 HM.out.2).2
    refine ⟨?_,by omega⟩
    cases x with
    | mk k num t ks ms =>
     unfold starAdd
     split
     ·rw [counts_app];simp only [Nd.kids,Nd.count] at h2 ⊢;omega
     ·rw [counts_app];simp only [Nd.count.counts];omega
   have hal:acc.length ≤ 1000000:=by
    have h1:=len_counts acc
    have h2:=hcn.out
    omega
   have HOW:Hid (∀ g,(Value.slice Aw acc.length cw).ownBlock = some g → g < wo.heap.size):=fun g hg => (own_lt hI.out.1 hg).2
   have HBK0:Hid (Blk (wo.alloc (.cells (nA x0 x1 x2 x3 x4 x5 x6 x7 x8) 25)) wo.heap.size 25 (nA x0 x1 x2 x3 x4 x5 x6 x7 x8)):=Blk.new wo _ _
   have HWK:Hid (Below wo.heap.size wo (wo.alloc (.cells (nA x0 x1 x2 x3 x4 x5 x6 x7 x8) 25))):=(Below.refl _ _).alloc (Nat.le_refl _) _
   have HS0:Hid ((wo.alloc (.cells (nA x0 x1 x2 x3 x4 x5 x6 x7 x8) 25)).drew.cell? (qa wo.heap.size 0) = some (.int .i64 x0) ∧ (wo.alloc (.cells (nA x0 x1 x2 x3 x4 x5 x6 x7 x8) 25)).drew.cell? (qa wo.heap.size 1) = some (.int .i64 x1) ∧ (wo.alloc (.cells (nA x0 x1 x2 x3 x4 x5 x6 x7 x8) 25)).drew.cell? (qa wo.heap.size 2) = some (.string x2) ∧ (wo.alloc (.cells (nA x0 x1 x2 x3 x4 x5 x6 x7 x8) 25)).drew.cell? (qa wo.heap.size 3) = some (.slice x3 x4 x5) ∧ (wo.alloc (.cells (nA x0 x1 x2 x3 x4 x5 x6 x7 x8) 25)).drew.cell? (qa wo.heap.size 4) = some (.slice x6 x7 x8)):=HBK0.out.drew.cells5
   have HSB0:Hid (((wo.alloc (.cells (nA x0 x1 x2 x3 x4 x5 x6 x7 x8) 25)).drew.alloc (.cells Zn 25)).cell? (qa wo.heap.size 0) = some (.int .i64 x0) ∧ ((wo.alloc (.cells (nA x0 x1 x2 x3 x4 x5 x6 x7 x8) 25)).drew.alloc (.cells Zn 25)).cell? (qa wo.heap.size 1) = some (.int .i64 x1) ∧ ((wo.alloc (.cells (nA x0 x1 x2 x3 x4 x5 x6 x7 x8) 25)).drew.alloc (.cells Zn 25)).cell? (qa wo.heap.size 2) = some (.string x2) ∧ ((wo.alloc (.cells (nA x0 x1 x2 x3 x4 x5 x6 x7 x8) 25)).drew.alloc (.cells Zn 25)).cell? (qa wo.heap.size 3) = some (.slice x3 x4 x5) ∧ ((wo.alloc (.cells (nA x0 x1 x2 x3 x4 x5 x6 x7 x8) 25)).drew.alloc (.cells Zn 25)).cell? (qa wo.heap.size 4) = some (.slice x6 x7 x8)):=(HBK0.out.drew.alloc _).cells5
   have HSB1:Hid (((wo.alloc (.cells (nA x0 x1 x2 x3 x4 x5 x6 x7 x8) 25)).alloc (.cells Zn 25)).drew.cell? (qa wo.heap.size 0) = some (.int .i64 x0) ∧ ((wo.alloc (.cells (nA x0 x1 x2 x3 x4 x5 x6 x7 x8) 25)).alloc (.cells Zn 25)).drew.cell? (qa wo.heap.size 1) = some (.int .i64 x1) ∧ ((wo.alloc (.cells (nA x0 x1 x2 x3 x4 x5 x6 x7 x8) 25)).alloc (.cells Zn 25)).drew.cell? (qa wo.heap.size 2) = some (.string x2) ∧ ((wo.alloc (.cells (nA x0 x1 x2 x3 x4 x5 x6 x7 x8) 25)).alloc (.cells Zn 25)).drew.cell? (qa wo.heap.size 3) = some (.slice x3 x4 x5) ∧ ((wo.alloc (.cells (nA x0 x1 x2 x3 x4 x5 x6 x7 x8) 25)).alloc (.cells Zn 25)).drew.cell? (qa wo.heap.size 4) = some (.slice x6 x7 x8)):=(HBK0.out.alloc _).drew.cells5
   have HZB:Hid (Blk ((wo.alloc (.cells (nA x0 x1 x2 x3 x4 x5 x6 x7 x8) 25)).alloc (.cells Zn 25)).drew (wo.heap.size + 1) 25 Zn):=by
    have:=Blk.new (wo.alloc (.cells (nA x0 x1 x2 x3 x4 x5 x6 x7 x8) 25)) 25 Zn
    rw [show (wo.alloc (.cells (nA x0 x1 x2 x3 x4 x5 x6 x7 x8) 25)).heap.size = wo.heap.size + 1 by simp] at this
    exact this.drew
   have HBA:Hid (Below wo.heap.size wo (wo.alloc (.cells (nA x0 x1 x2 x3 x4 x5 x6 x7 x8) 25)).drew):=HWK.out.drew
   have HBB:Hid (Below wo.heap.size wo ((wo.alloc (.cells (nA x0 x1 x2 x3 x4 x5 x6 x7 x8) 25)).alloc (.cells Zn 25)).drew):=(HWK.out.alloc (by simp) _).drew
   have hzz:((wo.alloc (.cells (nA x0 x1 x2 x3 x4 x5 x6 x7 x8) 25)).alloc (.cells Zn 25)).drew.heap.size = wo.heap.size + 2:=by show ((wo.alloc (.cells (nA x0 x1 x2 x3 x4 x5 x6 x7 x8) 25)).alloc (.cells Zn 25)).heap.size = _;simp
   have HZZ:=Lib.hid hzz
   have hkz:wo.heap.size ≠ wo.heap.size + 1:=by omega
   have hi0:(0:Int) ≤ (i:Int):=by omega
   have hi1:(i:Int) < (ns.length:Int):=by omega
   have bo:¬ b = wo.heap.size:=by omega
   clear hkp hmi hnd hbS hst hcn hdr hR hzz
   go_upto_region 13 with fail
   go_cut [11,12] (fun t11 t12 wx => ∃ (zb:Nat) (y0 y1:Int) (y2:ByteArray) (y3:Option Addr) (y4 y5:Nat) (y6:Option Addr) (y7 y8:Nat),t11 = .pointer (some (qa zb 0)) ∧ t12 = .bool R.isSome ∧ Hid (Blk wx zb 25 (nA y0 y1 y2 y3 y4 y5 y6 y7 y8)) ∧ Hid (NdIn wx (fun b => S b ∨ (wo.heap.size + 1 ≤ b ∧ b < wx.heap.size ∧ b ≠ zb)) (R.getD (nd0 0)) (nL y0 y1 y2 y3 y4 y5 y6 y7 y8)) ∧ Hid (Below wo.heap.size wo wx) ∧ wo.heap.size + 1 ≤ zb)
   case first =>
    skip
    skip
    go_region_held3 (fun w' => w'.cell? (qa wo.heap.size 0) = some (.int .i64 x0) ∧ w'.cell? (qa wo.heap.size 1) = some (.int .i64 x1) ∧ w'.cell? (qa wo.heap.size 2) = some (.string x2) ∧ w'.cell? (qa wo.heap.size 3) = some (.slice x3 x4 x5) ∧ w'.cell? (qa wo.heap.size 4) = some (.slice x6 x7 x8)) (first | with_reducible exact HS0.out | with_reducible exact HSB0.out | with_reducible exact HSB1.out | with_reducible exact HS5.out | with_reducible exact HS5a.out | with_reducible exact HS5b.out) (first
     | (go_at_call 57;(with_reducible refine (HIH.out (wo.alloc (.cells (nA x0 x1 x2 x3 x4 x5 x6 x7 x8) 25)).drew HBA.out).mono ?_);rintro e w5 ⟨y0,y1,y2,y3,y4,y5,y6,y7,y8,rfl,hn5,hb5⟩;have HN5:=Lib.hid hn5;have HB5:=Lib.hid hb5;clear hn5 hb5;have HS5:Hid (w5.cell? (qa wo.heap.size 0) = some (.int .i64 x0) ∧ w5.cell? (qa wo.heap.size 1) = some (.int .i64 x1) ∧ w5.cell? (qa wo.heap.size 2) = some (.string x2) ∧ w5.cell? (qa wo.heap.size 3) = some (.slice x3 x4 x5) ∧ w5.cell? (qa wo.heap.size 4) = some (.slice x6 x7 x8)):=(HBK0.out.drew.below HB5.out HBK0.out.drew.lt).cells5;have HS5a:Hid ((w5.alloc (.cells Zn 25)).cell? (qa wo.heap.size 0) = some (.int .i64 x0) ∧ (w5.alloc (.cells Zn 25)).cell? (qa wo.heap.size 1) = some (.int .i64 x1) ∧ (w5.alloc (.cells Zn 25)).cell? (qa wo.heap.size 2) = some (.string x2) ∧ (w5.alloc (.cells Zn 25)).cell? (qa wo.heap.size 3) = some (.slice x3 x4 x5) ∧ (w5.alloc (.cells Zn 25)).cell? (qa wo.heap.size 4) = some (.slice x6 x7 x8)):=((HBK0.out.drew.below HB5.out HBK0.out.drew.lt).alloc _).cells5;have HS5b:Hid ((w5.alloc (.cells (nA y0 y1 y2 y3 y4 y5 y6 y7 y8) 25)).cell? (qa wo.heap.size 0) = some (.int .i64 x0) ∧ (w5.alloc (.cells (nA y0 y1 y2 y3 y4 y5 y6 y7 y8) 25)).cell? (qa wo.heap.size 1) = some (.int .i64 x1) ∧ (w5.alloc (.cells (nA y0 y1 y2 y3 y4 y5 y6 y7 y8) 25)).cell? (qa wo.heap.size 2) = some (.string x2) ∧ (w5.alloc (.cells (nA y0 y1 y2 y3 y4 y5 y6 y7 y8) 25)).cell? (qa wo.heap.size 3) = some (.slice x3 x4 x5) ∧ (w5.alloc (.cells (nA y0 y1 y2 y3 y4 y5 y6 y7 y8) 25)).cell? (qa wo.heap.size 4) = some (.slice x6 x7 x8)):=((HBK0.out.drew.below HB5.out HBK0.out.drew.lt).alloc _).cells5)
     | (go_at_call 57;(with_reducible refine (HIH.out ((wo.alloc (.cells (nA x0 x1 x2 x3 x4 x5 x6 x7 x8) 25)).alloc (.cells Zn 25)).drew HBB.out).mono ?_);rintro e w5 ⟨y0,y1,y2,y3,y4,y5,y6,y7,y8,rfl,hn5,hb5⟩;have HN5:=Lib.hid hn5;have HB5:=Lib.hid hb5;clear hn5 hb5;have HK5:=Lib.hid ((HBK0.out.alloc (.cells Zn 25)).drew.below HB5.out (HBK0.out.alloc (.cells Zn 25)).drew.lt);have HS5:Hid (w5.cell? (qa wo.heap.size 0) = some (.int .i64 x0) ∧ w5.cell? (qa wo.heap.size 1) = some (.int .i64 x1) ∧ w5.cell? (qa wo.heap.size 2) = some (.string x2) ∧ w5.cell? (qa wo.heap.size 3) = some (.slice x3 x4 x5) ∧ w5.cell? (qa wo.heap.size 4) = some (.slice x6 x7 x8)):=HK5.out.cells5;have HZ5:=Lib.hid (HZB.out.below HB5.out HZB.out.lt);obtain ⟨d0,d1,d2,d3,d4⟩:=HZ5.out.cells5;have f0:=HZ5.out.frozen 0;have f1:=HZ5.out.frozen 1;have f2:=HZ5.out.frozen 2;have f3:=HZ5.out.frozen 3;have f4:=HZ5.out.frozen 4;have HS5b:Hid ((((((w5.setCell (qa (wo.heap.size + 1) 0) (.int .i64 y0)).setCell (qa (wo.heap.size + 1) 1) (.int .i64 y1)).setCell (qa (wo.heap.size + 1) 2) (.string y2)).setCell (qa (wo.heap.size + 1) 3) (.slice y3 y4 y5)).setCell (qa (wo.heap.size + 1) 4) (.slice y6 y7 y8)).cell? (qa wo.heap.size 0) = some (.int .i64 x0) ∧ (((((w5.setCell (qa (wo.heap.size + 1) 0) (.int .i64 y0)).setCell (qa (wo.heap.size + 1) 1) (.int .i64 y1)).setCell (qa (wo.heap.size + 1) 2) (.string y2)).setCell (qa (wo.heap.size + 1) 3) (.slice y3 y4 y5)).setCell (qa (wo.heap.size + 1) 4) (.slice y6 y7 y8)).cell? (qa wo.heap.size 1) = some (.int .i64 x1) ∧ (((((w5.setCell (qa (wo.heap.size + 1) 0) (.int .i64 y0)).setCell (qa (wo.heap.size + 1) 1) (.int .i64 y1)).setCell (qa (wo.heap.size + 1) 2) (.string y2)).setCell (qa (wo.heap.size + 1) 3) (.slice y3 y4 y5)).setCell (qa (wo.heap.size + 1) 4) (.slice y6 y7 y8)).cell? (qa wo.heap.size 2) = some (.string x2) ∧ (((((w5.setCell (qa (wo.heap.size + 1) 0) (.int .i64 y0)).setCell (qa (wo.heap.size + 1) 1) (.int .i64 y1)).setCell (qa (wo.heap.size + 1) 2) (.string y2)).setCell (qa (wo.heap.size + 1) 3) (.slice y3 y4 y5)).setCell (qa (wo.heap.size + 1) 4) (.slice y6 y7 y8)).cell? (qa wo.heap.size 3) = some (.slice x3 x4 x5) ∧ (((((w5.setCell (qa (wo.heap.size + 1) 0) (.int .i64 y0)).setCell (qa (wo.heap.size + 1) 1) (.int .i64 y1)).setCell (qa (wo.heap.size + 1) 2) (.string y2)).setCell (qa (wo.heap.size + 1) 3) (.slice y3 y4 y5)).setCell (qa (wo.heap.size + 1) 4) (.slice y6 y7 y8)).cell? (qa wo.heap.size 4) = some (.slice x6 x7 x8)):=(set5_far HK5.out hkz).cells5))
    ·go_wp2_with fail
     go_meet
     have hz5:(wo.alloc (.cells (nA x0 x1 x2 x3 x4 x5 x6 x7 x8) 25)).drew.heap.size ≤ w5.heap.size:=HB5.out.size
     have hz6:(wo.alloc (.cells (nA x0 x1 x2 x3 x4 x5 x6 x7 x8) 25)).drew.heap.size = wo.heap.size + 1:=by show (wo.alloc (.cells (nA x0 x1 x2 x3 x4 x5 x6 x7 x8) 25)).heap.size = _;simp
     refine ⟨w5.heap.size,y0,y1,y2,y3,y4,y5,y6,y7,y8,rfl,rfl,Blk.new w5 _ _,?_,((HBA.out.trans (HB5.out.mono (by omega))).alloc (by omega) _:Below _ _ _),by omega⟩
     exact NdIn.keep (fun q hq => World.cell?_alloc_lt _ _ _ (by
      rcases hq with hq | hq
      ·have:=HS.out _ hq;omega
      ·exact hq.2)) (fun b hb => by
      rcases hb with hb | hb
      ·exact .inl hb
      ·have h1:(wo.alloc (.cells (nA x0 x1 x2 x3 x4 x5 x6 x7 x8) 25)).drew.heap.size ≤ b:=hb.1
       have h2:b < w5.heap.size:=hb.2
       exact .inr ⟨by omega,by simp;omega,by omega⟩) _ _ HN5.out
    ·go_wp2_with fail
     go_meet
     have hz5:((wo.alloc (.cells (nA x0 x1 x2 x3 x4 x5 x6 x7 x8) 25)).alloc (.cells Zn 25)).drew.heap.size ≤ w5.heap.size:=HB5.out.size
     have hz6:=HZZ.out
     refine ⟨wo.heap.size + 1,y0,y1,y2,y3,y4,y5,y6,y7,y8,rfl,rfl,(set5_blk HZ5.out:Blk _ _ _ _),?_,(set5_below (HBB.out.trans (HB5.out.mono (by omega))) (by omega):Below _ _ _),by omega⟩
     exact set5_in HN5.out (fun b hb => by
      rcases hb with hb | hb
      ·have:=HS.out _ hb;omega
      ·have h1:((wo.alloc (.cells (nA x0 x1 x2 x3 x4 x5 x6 x7 x8) 25)).alloc (.cells Zn 25)).drew.heap.size ≤ b:=hb.1
       omega) (fun b hb => by
      rcases hb with hb | hb
      ·exact .inl hb
      ·have h1:((wo.alloc (.cells (nA x0 x1 x2 x3 x4 x5 x6 x7 x8) 25)).alloc (.cells Zn 25)).drew.heap.size ≤ b:=hb.1
       have h2:b < w5.heap.size:=hb.2
       exact .inr ⟨by omega,by show b < (set5 w5 _ _ _ _ _ _).heap.size;rw [set5_size];exact h2,by omega⟩)
   case rest =>
    obtain ⟨zb,y0,y1,y2,y3,y4,y5,y6,y7,y8,rfl,rfl,hzb,hn5,hbb,hz2⟩:=hcut
    have HI5:=Lib.hid (hI.out.later HS.out hbb.out)
    clear HIH HS0 HSB0 HSB1 HZB HBA HBB HBK0 HWK HZZ hkz hI HI0
    cases R with
    | none =>
     obtain ⟨d0,d1,d2,d3,d4⟩:=HI5.out.2.2.2.1.cells5
     have f0:=HI5.out.2.2.2.1.frozen 0
     have f1:=HI5.out.2.2.2.1.frozen 1
     have f2:=HI5.out.2.2.2.1.frozen 2
     have f3:=HI5.out.2.2.2.1.frozen 3
     have f4:=HI5.out.2.2.2.1.frozen 4
     go_wp2_with fail
     clear d0 d1 d2 d3 d4 f0 f1 f2 f3 f4
     have F:=get_fin (r:=none) (S:=S) (S2:=(fun _ => False)) (w:=w) (w2:=wc) (y:=w.heap.size + 1) (by omega) HI5.out.2.2.2.2.1 HI5.out.2.2.2.1 (nd0_in 0 (by unfold I64;omega) _ _) (fun b hb => hb.elim)
     unfold set5 at F
     generalize (((((wc).setCell (qa (w.heap.size + 1) 0) (.int .i64 0)).setCell (qa (w.heap.size + 1) 1) (.int .i64 0)).setCell (qa (w.heap.size + 1) 2) (.string ⟨#[]⟩)).setCell (qa (w.heap.size + 1) 3) (.slice none 0 0)).setCell (qa (w.heap.size + 1) 4) (.slice none 0 0) = WF at *
     obtain ⟨F1,F2⟩:=F
     obtain ⟨q0,q1,q2,q3,q4⟩:=F1.cells5
     refine bodyPost_ret (v:=.tuple #[.agg Zn,.bool false]) (by simp [results,Tryd.results57,go_sem,q0,q1,q2,q3,q4]) rfl ?_
     rw [HG.out,HST1.out none rfl]
     exact F2
    | some x =>
     obtain ⟨k2,m2,t2,ks2,ms⟩:=x
     obtain ⟨hcx,hcy⟩:=HCN1.out _ rfl
     have HN7:Hid (NdIn wc (fun b => S b ∨ (wo.heap.size + 1 ≤ b ∧ b < wc.heap.size ∧ b ≠ zb)) (.mk k2 m2 t2 ks2 ms) (nL y0 y1 y2 y3 y4 y5 y6 y7 y8)):=hn5.out
     have hT:∀ b,(S b ∨ (wo.heap.size + 1 ≤ b ∧ b < wc.heap.size ∧ b ≠ zb)) → (S b ∨ SK (wa.heap.size + 1) wc (.slice Aw acc.length cw) b):=fun b hb => by
      rcases hb with hb | hb
      ·exact .inl hb
      ·exact .inr ⟨by omega,hb.2.1,fun e => by have:=HOW.out _ e;omega⟩
     have hTz:∀ b,(S b ∨ SK (wa.heap.size + 1) wc (.slice Aw acc.length cw) b) → b < wc.heap.size:=fun b hb => by
      rcases hb with hb | hb
      ·have:=HS.out _ hb;have:=HI5.out.2.2.2.2.1.size;omega
      ·exact hb.2.1
     have HN8:Hid (NdIn wc (fun b => S b ∨ SK (wa.heap.size + 1) wc (.slice Aw acc.length cw) b) (.mk k2 m2 t2 ks2 ms) (nL y0 y1 y2 y3 y4 y5 y6 y7 y8)):=NdIn.mono hT HN7.out
     have hu:=HN8.out
     unfold NdIn at hu
     obtain ⟨B1,bk,B2,bc,zs,heq,_,hrs,hnds,_,_,_,_,_,_⟩:=hu
     cases heq
     have HRS:Hid (Reads wc wc.heap.size 5 y6 ms.length zs):=hrs.reads hTz
     have HMS:=Lib.hid hnds
     have HFL:=Lib.hid (NdsIn.flat_ok _ _ hnds)
     have hwcz:=HI5.out.2.2.2.2.2.2
     obtain ⟨z0,z1,z2,z3,z4⟩:=hzb.out.cells5
     obtain ⟨o0,o1,o2,o3,o4⟩:=HI5.out.2.2.1.cells5
     clear o0 o1 o2 o3 hT hTz hrs hnds hn5 HN7
     by_cases hk6:y0 = 6
     ·subst hk6
      have hst2:Hid (starL (getN []) (ns.drop (i + 1)) (acc ++ ms) = starL (getN []) ns []):=by
       show _ = _
       have:=HST1.out _ rfl
       simp only [starAdd,Nd.kind,Nd.kids,if_true] at this
       exact this.symm
      have hcn2:Hid (Nd.count.counts (acc ++ ms) + Nd.count.counts (ns.drop (i + 1)) ≤ 1000000):=by
       simp only [starAdd,Nd.kind,Nd.kids,if_true] at hcx
       exact hcx
      have hml:ms.length ≤ 1000000:=by
       have:=len_counts ms
       simp only [Nd.count] at hcy;omega
      clear HST1 HCN1 hcx hcy z1 z2 z3
      go_wp2_with (at_builtin;refine wpList_pushNds _ rfl _ _ rfl (wa.heap.size + 1) (.slice Aw acc.length cw) acc.length ys (by first | rfl | simp [Act.eval]) HI5.out.1 wc.heap.size y6 ms.length y8 zs HRS.out HFL.out (by first | rfl | simp [Act.eval]) ?lim ?hB ?_;(case lim => omega);(case hB => omega);intro v' w3 ho3 hg3 hv3;obtain ⟨Av,cv,rfl⟩:=own_form ho3;have HP:=Lib.hid (SInv.push HI5.out HS.out ms zs HMS.out (by simp) ho3 hg3 hv3);have hb3:=HI5.out.2.2.1.grown hg3 (fun e => by have:=(own_lt HI5.out.1 e.symm).1;omega);obtain ⟨o0,o1,o2,o3,o4⟩:=hb3.cells5;have of4:=hb3.frozen 4;clear o0 o1 o2 o3 ho3 hg3 hv3 hb3)
      go_roundw
      case rel => exact ⟨i + 1,acc ++ ms,ys ++ zs,Av,cv,by omega,by go_num,hst2,hcn2,HP⟩
      case measure => simp [intOf];omega
     ·have e6:(y0 == 6) = false:=by rw [beq_eq_false_iff_ne];exact hk6
      have hst2:Hid (starL (getN []) (ns.drop (i + 1)) (acc ++ [.mk y0 y1 y2 ks2 ms]) = starL (getN []) ns []):=by
       show _ = _
       have:=HST1.out _ rfl
       have hsa:starAdd (.mk y0 y1 y2 ks2 ms) acc = acc ++ [.mk y0 y1 y2 ks2 ms]:=if_neg hk6
       simp only [hsa] at this
       exact this.symm
      have hcn2:Hid (Nd.count.counts (acc ++ [.mk y0 y1 y2 ks2 ms]) + Nd.count.counts (ns.drop (i + 1)) ≤ 1000000):=by
       have hsa:starAdd (.mk y0 y1 y2 ks2 ms) acc = acc ++ [.mk y0 y1 y2 ks2 ms]:=if_neg hk6
       rw [hsa] at hcx
       exact hcx
      have HMS2:Hid (NdsIn wc (fun b => S b ∨ SK (wa.heap.size + 1) wc (.slice Aw acc.length cw) b) [.mk y0 y1 y2 ks2 ms] (nL y0 y1 y2 y3 ks2.length y5 y6 ms.length y8)):=by
       exact NdsIn.app [] [] _ _ NdsIn.nil HN8.out
      clear HST1 HCN1 hcx hcy hk6
      go_wp2_with (at_builtin;refine wpList_pushNd _ rfl _ _ rfl (wa.heap.size + 1) (.slice Aw acc.length cw) acc.length ys (by first | rfl | simp [Act.eval]) HI5.out.1 y0 y1 y2 y3 ks2.length y5 y6 ms.length y8 (by first | rfl | simp [Act.eval]) ?lim ?hB ?_;(case lim => omega);(case hB => omega);intro v' w3 ho3 hg3 hv3;obtain ⟨Av,cv,rfl⟩:=own_form ho3;have HP:=Lib.hid (SInv.push HI5.out HS.out [.mk y0 y1 y2 ks2 ms] (nL y0 y1 y2 y3 ks2.length y5 y6 ms.length y8) HMS2.out (by simp) ho3 hg3 hv3);have hb3:=HI5.out.2.2.1.grown hg3 (fun e => by have:=(own_lt HI5.out.1 e.symm).1;omega);obtain ⟨o0,o1,o2,o3,o4⟩:=hb3.cells5;have of4:=hb3.frozen 4;clear o0 o1 o2 o3 ho3 hg3 hv3 hb3)
      go_roundw
      case rel => exact ⟨i + 1,acc ++ [.mk y0 y1 y2 ks2 ms],ys ++ (nL y0 y1 y2 y3 ks2.length y5 y6 ms.length y8),Av,cv,by omega,by go_num,hst2,hcn2,HP⟩
      case measure => simp [intOf];omega
  ·have hal:acc.length ≤ 1000000:=by
    have h1:=len_counts acc
    have h2:=hcn.out
    omega
   have HSF:Hid (starL (getN []) ns [] = some acc):=by
    show _ = _
    rw [← hst.out,List.drop_eq_nil_of_le (by omega)];rfl
   have hwz:=hI.out.2.2.2.2.2.1
   obtain ⟨o0,o1,o2,o3,o4⟩:=hI.out.2.2.1.cells5
   obtain ⟨d0,d1,d2,d3,d4⟩:=hI.out.2.2.2.1.cells5
   have f0:=hI.out.2.2.2.1.frozen 0
   have f1:=hI.out.2.2.2.1.frozen 1
   have f2:=hI.out.2.2.2.1.frozen 2
   have f3:=hI.out.2.2.2.1.frozen 3
   have f4:=hI.out.2.2.2.1.frozen 4
   clear hst hcn
   go_wp2_with fail
   clear d0 d1 d2 d3 d4 f0 f1 f2 f3 f4
   have F:=get_fin (r:=some (.mk 6 0 ⟨#[]⟩ [] acc)) (S:=S) (S2:=(fun b => S b ∨ (wa.heap.size + 1 ≤ b ∧ b < wo.heap.size))) (w:=w) (w2:=wo) (y:=w.heap.size + 1) (by omega) hI.out.2.2.2.2.1 hI.out.2.2.2.1 (hI.out.node hal) (fun b hb => by
     rcases hb with hb | hb
     ·exact ⟨.inl hb,fun e => by have:=HS.out b hb;omega⟩
     ·exact ⟨.inr ⟨by omega,hb.2⟩,by omega⟩)
   unfold set5 at F
   generalize (((((wo).setCell (qa (w.heap.size + 1) 0) (.int .i64 6)).setCell (qa (w.heap.size + 1) 1) (.int .i64 0)).setCell (qa (w.heap.size + 1) 2) (.string ⟨#[]⟩)).setCell (qa (w.heap.size + 1) 3) (.slice none 0 0)).setCell (qa (w.heap.size + 1) 4) (.slice Aw acc.length cw) = WF at *
   obtain ⟨F1,F2⟩:=F
   obtain ⟨q0,q1,q2,q3,q4⟩:=F1.cells5
   refine bodyPost_ret (v:=.tuple #[.agg #[.int .i64 6,.int .i64 0,.string ⟨#[]⟩,.slice none 0 0,.slice Aw acc.length cw],.bool true]) (by simp [results,Tryd.results57,go_sem,q0,q1,q2,q3,q4]) rfl ?_
   rw [HG.out,HSF.out]
   exact F2
set_option maxHeartbeats 4000000 in
theorem get_star2 (p:ByteArray) (l:List ByteArray) (c:Nat) (hc1:¬ c = 1) (hl:l.length + 1 ≤ c) (IH:GetOK l) (n:Nd) (h6:n.kind = 6) (hp42:p.toList = [42]):GetStep p l n (l.length + 1) c (fun ab ao => some (qa ab (ao + 1))):=by
 intro hpz cs w S ab ao hn hS hab hp hr hc hs hct
 have HC1:=Lib.hid hc1
 cases n with
 | mk k num t ks ns =>
 have HK:Hid (∀ (i:Nat) (m:Nd),ns[i]? = some m → sizeOk m ∧ m.count ≤ 1000000):=fun i m hi => by
  have:=kid_ok (n:=.mk k num t ks ns) (i:=i) (m:=m) hi hs
  exact ⟨this.1,by omega⟩
 have hcn0:Nd.count.counts ns ≤ 1000000:=by simp only [Nd.count] at hct;omega
 simp only [Nd.kind] at h6
 subst h6
 have HG:Hid (getN (p :: l) (.mk 6 num t ks ns) = match starL (getN l) ns [] with | none => none | some l => some (.mk 6 0 ⟨#[]⟩ [] l)):=by
  show _ = _
  rw [getN,if_neg (by show ¬ (6:Int) = 7;decide),if_pos (by rfl),if_pos hp42]
  simp only [Nd.kids]
  cases starL (getN l) ns [] <;> rfl
 unfold NdIn at hn
 obtain ⟨A1,ck,A2,cc,xs,rfl,hks,hxs,hns,ik,inn,ht,hkl,hkm,hmm⟩:=hn
 have e42:(p.toList == [42]) = true:=by rw [hp42];rfl
 have hnl:ns.length ≤ 1000000:=Nat.le_trans (len_counts ns) hcn0
 have HS:=Lib.hid hS
 have HXS:=Lib.hid hxs
 have HNS:=Lib.hid hns
 have HR:=Lib.hid hr
 have HCN:=Lib.hid hcn0
 clear hS hks hxs hns hkl hr hs hp42 hcn0 hct ik inn ht hkm hmm
 have hp0:=Lib.hid hp
 show Calls Tryd.prog 57 #[.agg (nA 6 num t A1 ks.length ck A2 ns.length cc),.slice (some (qa ab ao)) (l.length + 1) c] w _
 have hA:Below w.heap.size w ((w.alloc (.cells (nA 6 num t A1 ks.length ck A2 ns.length cc) 25)).alloc (.cells Zn 25)):=((Below.refl _ _).alloc (Nat.le_refl _) _).alloc (by simp) _
 have hX:Blk ((w.alloc (.cells (nA 6 num t A1 ks.length ck A2 ns.length cc) 25)).alloc (.cells Zn 25)) w.heap.size 25 (nA 6 num t A1 ks.length ck A2 ns.length cc):=(Blk.new w _ _).alloc _
 have hY:Blk ((w.alloc (.cells (nA 6 num t A1 ks.length ck A2 ns.length cc) 25)).alloc (.cells Zn 25)) (w.heap.size + 1) 25 Zn:=by
  have:=Blk.new (w.alloc (.cells (nA 6 num t A1 ks.length ck A2 ns.length cc) 25)) 25 Zn
  simpa using this
 have hZ:w.heap.size + 2 = ((w.alloc (.cells (nA 6 num t A1 ks.length ck A2 ns.length cc) 25)).alloc (.cells Zn 25)).heap.size:=by simp
 have HA:=Lib.hid hA
 have HX:=Lib.hid hX
 have HY:=Lib.hid hY
 clear hA hX hY
 go_enter Tryd.func57,Tryd.ntmps57
 go_upto_region 1 with fail
 generalize (w.alloc (.cells (nA 6 num t A1 ks.length ck A2 ns.length cc) 25)).alloc (.cells Zn 25) = wa at *
 have p0:wa.cell? (qa ab ao) = some (.string p):=(HA.out.cell (p:=(qa ab ao)) hab).trans hp0.out
 obtain ⟨c0,c1,c2,c3,c4⟩:=HX.out.cells5
 clear hp
 have HI0:=Lib.hid (SInv.start S HA.out HY.out (by omega))
 have hl:w.heap.size < wa.heap.size:=by omega
 have c4b:(wa.alloc (.cells #[.int .i64 6,.int .i64 0,.string ⟨#[]⟩,.slice none 0 0,.slice none 0 0] 25)).cell? (qa w.heap.size 4) = some (.slice A2 ns.length cc):=(World.cell?_alloc_lt _ _ _ hl).trans c4
 go_wp2_with fail
 clear c0 c1 c2 c3 c4 p0 c4b
 go_loopw [53] (fun t53 wr => ∃ (i:Nat) (acc:List Nd) (ys:List Value) (Aw:Option Addr) (cw:Nat),i ≤ ns.length ∧ t53 = .int .i64 i ∧ Hid (starL (getN l) (ns.drop i) acc = starL (getN l) ns []) ∧ Hid (Nd.count.counts acc + Nd.count.counts (ns.drop i) ≤ 1000000) ∧ Hid (SInv w S wa.heap.size acc Aw cw ys wr))
  (fun t53 _ => ns.length - (intOf t53).toNat)
 case atStart => exact ⟨0,[],[],none,0,by omega,rfl,rfl,by show _ ≤ _;simp only [Nd.count.counts,List.drop_zero];have:=HCN.out;omega,HI0⟩
 case round =>
  obtain ⟨i,acc,ys,Aw,cw,hi,rfl,hst,hcn,hI⟩:=hrel
  obtain ⟨wo,rfl⟩:∃ wo:World,wo = wr:=⟨_,rfl⟩
  have hob:wa.heap.size < wo.heap.size:=hI.out.2.2.2.2.2.2
  by_cases hlt:i < ns.length
  ·have hkp:∀ q:Addr,S q.block → wo.cell? q = w.cell? q:=fun q hq => hI.out.2.2.2.2.1.cell (HS.out _ hq)
   obtain ⟨b,off,m,rfl,hbS,hmi,x0,x1,x2,x3,x4,x5,x6,x7,x8,hnd,e0,e1,e2,e3,e4⟩:=(HXS.out.keep hkp).nd (NdsIn.keep hkp (fun _ h => h) _ _ HNS.out) hlt
   have hbl:=HS.out b hbS
   have hwz:w.heap.size ≤ wo.heap.size:=hI.out.2.2.2.2.1.size
   have HM:=Lib.hid (HK.out i m hmi)
   have hdr:ns.drop i = m :: ns.drop (i + 1):=by
    obtain ⟨h1,h2⟩:=List.getElem?_eq_some_iff.1 hmi
    rw [← h2];exact List.drop_eq_getElem_cons h1
   obtain ⟨R,hR⟩:∃ R,R = getN l m:=⟨_,rfl⟩
   have HIH:Hid (∀ w',Below wo.heap.size wo w' → Calls Tryd.prog 57 #[.agg (nA x0 x1 x2 x3 x4 x5 x6 x7 x8),.slice (some (qa ab (ao + 1))) l.length (c - 1)] w' (GetP R S w')):=fun w' h' => by
    rw [hR]
    exact IH m (nL x0 x1 x2 x3 x4 x5 x6 x7 x8) w' S _ (c - 1) (NdIn.keep (fun q hq => h'.cell (by have:=HS.out _ hq;omega)) (fun _ h => h) _ _ hnd) (fun b hb => by have:=HS.out b hb;have:=h'.size;omega) ((HR.out.keep fun q hq => ((h'.mono hwz).cell hq).trans (hI.out.2.2.2.2.1.cell hq)).more (Nat.le_trans hwz h'.size)) (by omega) (by unfold maxLen at *;omega) HM.out.1 HM.out.2
   have HST1:Hid (∀ r,R = r → starL (getN l) ns [] = match r with | none => none | some x => starL (getN l) (ns.drop (i + 1)) (starAdd x acc)):=fun r hr => by
    rw [← hst.out,hdr,starL,← hR,hr];cases r <;> rfl
   have HCN1:Hid (∀ x,R = some x → Nd.count.counts (starAdd x acc) + Nd.count.counts (ns.drop (i + 1)) ≤ 1000000 ∧ x.count ≤ 1000000):=fun x hx => by
    have h1:=hcn.out
    rw [hdr] at h1
    simp only [Nd.count.counts] at h1
    have h2:=(getN_ok l m x (by rw [← hR];exact hx) HM.out.1 HM.out.2).2
    refine ⟨?_,by omega⟩
    cases x with
    | mk k num t ks ms =>
     unfold starAdd
     split
     ·rw [counts_app];simp only [Nd.kids,Nd.count] at h2 ⊢;omega
     ·rw [counts_app];simp only [Nd.count.counts];omega
   have hal:acc.length ≤ 1000000:=by
    have h1:=len_counts acc
    have h2:=hcn.out
    omega
   have HOW:Hid (∀ g,(Value.slice Aw acc.length cw).ownBlock = some g → g < wo.heap.size):=fun g hg => (own_lt hI.out.1 hg).2
   have HBK0:Hid (Blk (wo.alloc (.cells (nA x0 x1 x2 x3 x4 x5 x6 x7 x8) 25)) wo.heap.size 25 (nA x0 x1 x2 x3 x4 x5 x6 x7 x8)):=Blk.new wo _ _
   have HWK:Hid (Below wo.heap.size wo (wo.alloc (.cells (nA x0 x1 x2 x3 x4 x5 x6 x7 x8) 25))):=(Below.refl _ _).alloc (Nat.le_refl _) _
   have HS0:Hid ((wo.alloc (.cells (nA x0 x1 x2 x3 x4 x5 x6 x7 x8) 25)).drew.cell? (qa wo.heap.size 0) = some (.int .i64 x0) ∧ (wo.alloc (.cells (nA x0 x1 x2 x3 x4 x5 x6 x7 x8) 25)).drew.cell? (qa wo.heap.size 1) = some (.int .i64 x1) ∧ (wo.alloc (.cells (nA x0 x1 x2 x3 x4 x5 x6 x7 x8) 25)).drew.cell? (qa wo.heap.size 2) = some (.string x2) ∧ (wo.alloc (.cells (nA x0 x1 x2 x3 x4 x5 x6 x7 x8) 25)).drew.cell? (qa wo.heap.size 3) = some (.slice x3 x4 x5) ∧ (wo.alloc (.cells (nA x0 x1 x2 x3 x4 x5 x6 x7 x8) 25)).drew.cell? (qa wo.heap.size 4) = some (.slice x6 x7 x8)):=HBK0.out.drew.cells5
   have HSB0:Hid (((wo.alloc (.cells (nA x0 x1 x2 x3 x4 x5 x6 x7 x8) 25)).drew.alloc (.cells Zn 25)).cell? (qa wo.heap.size 0) = some (.int .i64 x0) ∧ ((wo.alloc (.cells (nA x0 x1 x2 x3 x4 x5 x6 x7 x8) 25)).drew.alloc (.cells Zn 25)).cell? (qa wo.heap.size 1) = some (.int .i64 x1) ∧ ((wo.alloc (.cells (nA x0 x1 x2 x3 x4 x5 x6 x7 x8) 25)).drew.alloc (.cells Zn 25)).cell? (qa wo.heap.size 2) = some (.string x2) ∧ ((wo.alloc (.cells (nA x0 x1 x2 x3 x4 x5 x6 x7 x8) 25)).drew.alloc (.cells Zn 25)).cell? (qa wo.heap.size 3) = some (.slice x3 x4 x5) ∧ ((wo.alloc (.cells (nA x0 x1 x2 x3 x4 x5 x6 x7 x8) 25)).drew.alloc (.cells Zn 25)).cell? (qa wo.heap.size 4) = some (.slice x6 x7 x8)):=(HBK0.out.drew.alloc _).cells5
   have HSB1:Hid (((wo.alloc (.cells (nA x0 x1 x2 x3 x4 x5 x6 x7 x8) 25)).alloc (.cells Zn 25)).drew.cell? (qa wo.heap.size 0) = some (.int .i64 x0) ∧ ((wo.alloc (.cells (nA x0 x1 x2 x3 x4 x5 x6 x7 x8) 25)).alloc (.cells Zn 25)).drew.cell? (qa wo.heap.size 1) = some (.int .i64 x1) ∧ ((wo.alloc (.cells (nA x0 x1 x2 x3 x4 x5 x6 x7 x8) 25)).alloc (.cells Zn 25)).drew.cell? (qa wo.heap.size 2) = some (.string x2) ∧ ((wo.alloc (.cells (nA x0 x1 x2 x3 x4 x5 x6 x7 x8) 25)).alloc (.cells Zn 25)).drew.cell? (qa wo.heap.size 3) = some (.slice x3 x4 x5) ∧ ((wo.alloc (.cells (nA x0 x1 x2 x3 x4 x5 x6 x7 x8) 25)).alloc (.cells Zn 25)).drew.cell? (qa wo.heap.size 4) = some (.slice x6 x7 x8)):=(HBK0.out.alloc _).drew.cells5
   have HZB:Hid (Blk ((wo.alloc (.cells (nA x0 x1 x2 x3 x4 x5 x6 x7 x8) 25)).alloc (.cells Zn 25)).drew (wo.heap.size + 1) 25 Zn):=by
    have:=Blk.new (wo.alloc (.cells (nA x0 x1 x2 x3 x4 x5 x6 x7 x8) 25)) 25 Zn
    rw [show (wo.alloc (.cells (nA x0 x1 x2 x3 x4 x5 x6 x7 x8) 25)).heap.size = wo.heap.size + 1 by simp] at this
    exact this.drew
   have HBA:Hid (Below wo.heap.size wo (wo.alloc (.cells (nA x0 x1 x2 x3 x4 x5 x6 x7 x8) 25)).drew):=HWK.out.drew
   have HBB:Hid (Below wo.heap.size wo ((wo.alloc (.cells (nA x0 x1 x2 x3 x4 x5 x6 x7 x8) 25)).alloc (.cells Zn 25)).drew):=(HWK.out.alloc (by simp) _).drew
   have hzz:((wo.alloc (.cells (nA x0 x1 x2 x3 x4 x5 x6 x7 x8) 25)).alloc (.cells Zn 25)).drew.heap.size = wo.heap.size + 2:=by show ((wo.alloc (.cells (nA x0 x1 x2 x3 x4 x5 x6 x7 x8) 25)).alloc (.cells Zn 25)).heap.size = _;simp
   have HZZ:=Lib.hid hzz
   have hkz:wo.heap.size ≠ wo.heap.size + 1:=by omega
   have hi0:(0:Int) ≤ (i:Int):=by omega
   have hi1:(i:Int) < (ns.length:Int):=by omega
   have bo:¬ b = wo.heap.size:=by omega
   clear hkp hmi hnd hbS hst hcn hdr hR hzz
   go_upto_region 13 with fail
   go_cut [11,12] (fun t11 t12 wx => ∃ (zb:Nat) (y0 y1:Int) (y2:ByteArray) (y3:Option Addr) (y4 y5:Nat) (y6:Option Addr) (y7 y8:Nat),t11 = .pointer (some (qa zb 0)) ∧ t12 = .bool R.isSome ∧ Hid (Blk wx zb 25 (nA y0 y1 y2 y3 y4 y5 y6 y7 y8)) ∧ Hid (NdIn wx (fun b => S b ∨ (wo.heap.size + 1 ≤ b ∧ b < wx.heap.size ∧ b ≠ zb)) (R.getD (nd0 0)) (nL y0 y1 y2 y3 y4 y5 y6 y7 y8)) ∧ Hid (Below wo.heap.size wo wx) ∧ wo.heap.size + 1 ≤ zb)
   case first =>
    have hx:¬ (l.length:Int) + 1 < 1:=by omega
    have hc9:=HC1.out
    have ht9:∀ w9:World,(Instr.slice 22 (.slice (some (qa ab ao)) (l.length + 1) c) (some (.int .i64 1)) none none).run Tryd.prog w9 = .ok (.slice (some (qa ab (ao + 1))) l.length (c - 1)) w9:=fun w9 => by go_simp
    go_region_held3 (fun w' => w'.cell? (qa wo.heap.size 0) = some (.int .i64 x0) ∧ w'.cell? (qa wo.heap.size 1) = some (.int .i64 x1) ∧ w'.cell? (qa wo.heap.size 2) = some (.string x2) ∧ w'.cell? (qa wo.heap.size 3) = some (.slice x3 x4 x5) ∧ w'.cell? (qa wo.heap.size 4) = some (.slice x6 x7 x8)) (first | with_reducible exact HS0.out | with_reducible exact HSB0.out | with_reducible exact HSB1.out | with_reducible exact HS5.out | with_reducible exact HS5a.out | with_reducible exact HS5b.out) (first
     | (go_at_call 57;(with_reducible refine (HIH.out (wo.alloc (.cells (nA x0 x1 x2 x3 x4 x5 x6 x7 x8) 25)).drew HBA.out).mono ?_);rintro e w5 ⟨y0,y1,y2,y3,y4,y5,y6,y7,y8,rfl,hn5,hb5⟩;have HN5:=Lib.hid hn5;have HB5:=Lib.hid hb5;clear hn5 hb5;have HS5:Hid (w5.cell? (qa wo.heap.size 0) = some (.int .i64 x0) ∧ w5.cell? (qa wo.heap.size 1) = some (.int .i64 x1) ∧ w5.cell? (qa wo.heap.size 2) = some (.string x2) ∧ w5.cell? (qa wo.heap.size 3) = some (.slice x3 x4 x5) ∧ w5.cell? (qa wo.heap.size 4) = some (.slice x6 x7 x8)):=(HBK0.out.drew.below HB5.out HBK0.out.drew.lt).cells5;have HS5a:Hid ((w5.alloc (.cells Zn 25)).cell? (qa wo.heap.size 0) = some (.int .i64 x0) ∧ (w5.alloc (.cells Zn 25)).cell? (qa wo.heap.size 1) = some (.int .i64 x1) ∧ (w5.alloc (.cells Zn 25)).cell? (qa wo.heap.size 2) = some (.string x2) ∧ (w5.alloc (.cells Zn 25)).cell? (qa wo.heap.size 3) = some (.slice x3 x4 x5) ∧ (w5.alloc (.cells Zn 25)).cell? (qa wo.heap.size 4) = some (.slice x6 x7 x8)):=((HBK0.out.drew.below HB5.out HBK0.out.drew.lt).alloc _).cells5;have HS5b:Hid ((w5.alloc (.cells (nA y0 y1 y2 y3 y4 y5 y6 y7 y8) 25)).cell? (qa wo.heap.size 0) = some (.int .i64 x0) ∧ (w5.alloc (.cells (nA y0 y1 y2 y3 y4 y5 y6 y7 y8) 25)).cell? (qa wo.heap.size 1) = some (.int .i64 x1) ∧ (w5.alloc (.cells (nA y0 y1 y2 y3 y4 y5 y6 y7 y8) 25)).cell? (qa wo.heap.size 2) = some (.string x2) ∧ (w5.alloc (.cells (nA y0 y1 y2 y3 y4 y5 y6 y7 y8) 25)).cell? (qa wo.heap.size 3) = some (.slice x3 x4 x5) ∧ (w5.alloc (.cells (nA y0 y1 y2 y3 y4 y5 y6 y7 y8) 25)).cell? (qa wo.heap.size 4) = some (.slice x6 x7 x8)):=((HBK0.out.drew.below HB5.out HBK0.out.drew.lt).alloc _).cells5)
     | (go_at_call 57;(with_reducible refine (HIH.out ((wo.alloc (.cells (nA x0 x1 x2 x3 x4 x5 x6 x7 x8) 25)).alloc (.cells Zn 25)).drew HBB.out).mono ?_);rintro e w5 ⟨y0,y1,y2,y3,y4,y5,y6,y7,y8,rfl,hn5,hb5⟩;have HN5:=Lib.hid hn5;have HB5:=Lib.hid hb5;clear hn5 hb5;have HK5:=Lib.hid ((HBK0.out.alloc (.cells Zn 25)).drew.below HB5.out (HBK0.out.alloc (.cells Zn 25)).drew.lt);have HS5:Hid (w5.cell? (qa wo.heap.size 0) = some (.int .i64 x0) ∧ w5.cell? (qa wo.heap.size 1) = some (.int .i64 x1) ∧ w5.cell? (qa wo.heap.size 2) = some (.string x2) ∧ w5.cell? (qa wo.heap.size 3) = some (.slice x3 x4 x5) ∧ w5.cell? (qa wo.heap.size 4) = some (.slice x6 x7 x8)):=HK5.out.cells5;have HZ5:=Lib.hid (HZB.out.below HB5.out HZB.out.lt);obtain ⟨d0,d1,d2,d3,d4⟩:=HZ5.out.cells5;have f0:=HZ5.out.frozen 0;have f1:=HZ5.out.frozen 1;have f2:=HZ5.out.frozen 2;have f3:=HZ5.out.frozen 3;have f4:=HZ5.out.frozen 4;have HS5b:Hid ((((((w5.setCell (qa (wo.heap.size + 1) 0) (.int .i64 y0)).setCell (qa (wo.heap.size + 1) 1) (.int .i64 y1)).setCell (qa (wo.heap.size + 1) 2) (.string y2)).setCell (qa (wo.heap.size + 1) 3) (.slice y3 y4 y5)).setCell (qa (wo.heap.size + 1) 4) (.slice y6 y7 y8)).cell? (qa wo.heap.size 0) = some (.int .i64 x0) ∧ (((((w5.setCell (qa (wo.heap.size + 1) 0) (.int .i64 y0)).setCell (qa (wo.heap.size + 1) 1) (.int .i64 y1)).setCell (qa (wo.heap.size + 1) 2) (.string y2)).setCell (qa (wo.heap.size + 1) 3) (.slice y3 y4 y5)).setCell (qa (wo.heap.size + 1) 4) (.slice y6 y7 y8)).cell? (qa wo.heap.size 1) = some (.int .i64 x1) ∧ (((((w5.setCell (qa (wo.heap.size + 1) 0) (.int .i64 y0)).setCell (qa (wo.heap.size + 1) 1) (.int .i64 y1)).setCell (qa (wo.heap.size + 1) 2) (.string y2)).setCell (qa (wo.heap.size + 1) 3) (.slice y3 y4 y5)).setCell (qa (wo.heap.size + 1) 4) (.slice y6 y7 y8)).cell? (qa wo.heap.size 2) = some (.string x2) ∧ (((((w5.setCell (qa (wo.heap.size + 1) 0) (.int .i64 y0)).setCell (qa (wo.heap.size + 1) 1) (.int .i64 y1)).setCell (qa (wo.heap.size + 1) 2) (.string y2)).setCell (qa (wo.heap.size + 1) 3) (.slice y3 y4 y5)).setCell (qa (wo.heap.size + 1) 4) (.slice y6 y7 y8)).cell? (qa wo.heap.size 3) = some (.slice x3 x4 x5) ∧ (((((w5.setCell (qa (wo.heap.size + 1) 0) (.int .i64 y0)).setCell (qa (wo.heap.size + 1) 1) (.int .i64 y1)).setCell (qa (wo.heap.size + 1) 2) (.string y2)).setCell (qa (wo.heap.size + 1) 3) (.slice y3 y4 y5)).setCell (qa (wo.heap.size + 1) 4) (.slice y6 y7 y8)).cell? (qa wo.heap.size 4) = some (.slice x6 x7 x8)):=(set5_far HK5.out hkz).cells5))
    ·go_wp2_with fail
     go_meet
     have hz5:(wo.alloc (.cells (nA x0 x1 x2 x3 x4 x5 x6 x7 x8) 25)).drew.heap.size ≤ w5.heap.size:=HB5.out.size
     have hz6:(wo.alloc (.cells (nA x0 x1 x2 x3 x4 x5 x6 x7 x8) 25)).drew.heap.size = wo.heap.size + 1:=by show (wo.alloc (.cells (nA x0 x1 x2 x3 x4 x5 x6 x7 x8) 25)).heap.size = _;simp
     refine ⟨w5.heap.size,y0,y1,y2,y3,y4,y5,y6,y7,y8,rfl,rfl,Blk.new w5 _ _,?_,((HBA.out.trans (HB5.out.mono (by omega))).alloc (by omega) _:Below _ _ _),by omega⟩
     exact NdIn.keep (fun q hq => World.cell?_alloc_lt _ _ _ (by
      rcases hq with hq | hq
      ·have:=HS.out _ hq;omega
      ·exact hq.2)) (fun b hb => by
      rcases hb with hb | hb
      ·exact .inl hb
      ·have h1:(wo.alloc (.cells (nA x0 x1 x2 x3 x4 x5 x6 x7 x8) 25)).drew.heap.size ≤ b:=hb.1
       have h2:b < w5.heap.size:=hb.2
       exact .inr ⟨by omega,by simp;omega,by omega⟩) _ _ HN5.out
    ·go_wp2_with fail
     go_meet
     have hz5:((wo.alloc (.cells (nA x0 x1 x2 x3 x4 x5 x6 x7 x8) 25)).alloc (.cells Zn 25)).drew.heap.size ≤ w5.heap.size:=HB5.out.size
     have hz6:=HZZ.out
     refine ⟨wo.heap.size + 1,y0,y1,y2,y3,y4,y5,y6,y7,y8,rfl,rfl,(set5_blk HZ5.out:Blk _ _ _ _),?_,(set5_below (HBB.out.trans (HB5.out.mono (by omega))) (by omega):Below _ _ _),by omega⟩
     exact set5_in HN5.out (fun b hb => by
      rcases hb with hb | hb
      ·have:=HS.out _ hb;omega
      ·have h1:((wo.alloc (.cells (nA x0 x1 x2 x3 x4 x5 x6 x7 x8) 25)).alloc (.cells Zn 25)).drew.heap.size ≤ b:=hb.1
       omega) (fun b hb => by
      rcases hb with hb | hb
      ·exact .inl hb
      ·have h1:((wo.alloc (.cells (nA x0 x1 x2 x3 x4 x5 x6 x7 x8) 25)).alloc (.cells Zn 25)).drew.heap.size ≤ b:=hb.1
       have h2:b < w5.heap.size:=hb.2
       exact .inr ⟨by omega,by show b < (set5 w5 _ _ _ _ _ _).heap.size;rw [set5_size];exact h2,by omega⟩)
   case rest =>
    obtain ⟨zb,y0,y1,y2,y3,y4,y5,y6,y7,y8,rfl,rfl,hzb,hn5,hbb,hz2⟩:=hcut
    have HI5:=Lib.hid (hI.out.later HS.out hbb.out)
    clear HIH HS0 HSB0 HSB1 HZB HBA HBB HBK0 HWK HZZ hkz hI HI0
    cases R with
    | none =>
     obtain ⟨d0,d1,d2,d3,d4⟩:=HI5.out.2.2.2.1.cells5
     have f0:=HI5.out.2.2.2.1.frozen 0
     have f1:=HI5.out.2.2.2.1.frozen 1
     have f2:=HI5.out.2.2.2.1.frozen 2
     have f3:=HI5.out.2.2.2.1.frozen 3
     have f4:=HI5.out.2.2.2.1.frozen 4
     go_wp2_with fail
     clear d0 d1 d2 d3 d4 f0 f1 f2 f3 f4
     have F:=get_fin (r:=none) (S:=S) (S2:=(fun _ => False)) (w:=w) (w2:=wc) (y:=w.heap.size + 1) (by omega) HI5.out.2.2.2.2.1 HI5.out.2.2.2.1 (nd0_in 0 (by unfold I64;omega) _ _) (fun b hb => hb.elim)
     unfold set5 at F
     generalize (((((wc).setCell (qa (w.heap.size + 1) 0) (.int .i64 0)).setCell (qa (w.heap.size + 1) 1) (.int .i64 0)).setCell (qa (w.heap.size + 1) 2) (.string ⟨#[]⟩)).setCell (qa (w.heap.size + 1) 3) (.slice none 0 0)).setCell (qa (w.heap.size + 1) 4) (.slice none 0 0) = WF at *
     obtain ⟨F1,F2⟩:=F
     obtain ⟨q0,q1,q2,q3,q4⟩:=F1.cells5
     refine bodyPost_ret (v:=.tuple #[.agg Zn,.bool false]) (by simp [results,Tryd.results57,go_sem,q0,q1,q2,q3,q4]) rfl ?_
     rw [HG.out,HST1.out none rfl]
     exact F2
    | some x =>
     obtain ⟨k2,m2,t2,ks2,ms⟩:=x
     obtain ⟨hcx,hcy⟩:=HCN1.out _ rfl
     have HN7:Hid (NdIn wc (fun b => S b ∨ (wo.heap.size + 1 ≤ b ∧ b < wc.heap.size ∧ b ≠ zb)) (.mk k2 m2 t2 ks2 ms) (nL y0 y1 y2 y3 y4 y5 y6 y7 y8)):=hn5.out
     have hT:∀ b,(S b ∨ (wo.heap.size + 1 ≤ b ∧ b < wc.heap.size ∧ b ≠ zb)) → (S b ∨ SK (wa.heap.size + 1) wc (.slice Aw acc.length cw) b):=fun b hb => by
      rcases hb with hb | hb
      ·exact .inl hb
      ·exact .inr ⟨by omega,hb.2.1,fun e => by have:=HOW.out _ e;omega⟩
     have hTz:∀ b,(S b ∨ SK (wa.heap.size + 1) wc (.slice Aw acc.length cw) b) → b < wc.heap.size:=fun b hb => by
      rcases hb with hb | hb
      ·have:=HS.out _ hb;have:=HI5.out.2.2.2.2.1.size;omega
      ·exact hb.2.1
     have HN8:Hid (NdIn wc (fun b => S b ∨ SK (wa.heap.size + 1) wc (.slice Aw acc.length cw) b) (.mk k2 m2 t2 ks2 ms) (nL y0 y1 y2 y3 y4 y5 y6 y7 y8)):=NdIn.mono hT HN7.out
     have hu:=HN8.out
     unfold NdIn at hu
     obtain ⟨B1,bk,B2,bc,zs,heq,_,hrs,hnds,_,_,_,_,_,_⟩:=hu
     cases heq
     have HRS:Hid (Reads wc wc.heap.size 5 y6 ms.length zs):=hrs.reads hTz
     have HMS:=Lib.hid hnds
     have HFL:=Lib.hid (NdsIn.flat_ok _ _ hnds)
     have hwcz:=HI5.out.2.2.2.2.2.2
     obtain ⟨z0,z1,z2,z3,z4⟩:=hzb.out.cells5
     obtain ⟨o0,o1,o2,o3,o4⟩:=HI5.out.2.2.1.cells5
     clear o0 o1 o2 o3 hT hTz hrs hnds hn5 HN7
     by_cases hk6:y0 = 6
     ·subst hk6
      have hst2:Hid (starL (getN l) (ns.drop (i + 1)) (acc ++ ms) = starL (getN l) ns []):=by
       show _ = _
       have:=HST1.out _ rfl
       simp only [starAdd,Nd.kind,Nd.kids,if_true] at this
       exact this.symm
      have hcn2:Hid (Nd.count.counts (acc ++ ms) + Nd.count.counts (ns.drop (i + 1)) ≤ 1000000):=by
       simp only [starAdd,Nd.kind,Nd.kids,if_true] at hcx
       exact hcx
      have hml:ms.length ≤ 1000000:=by
       have:=len_counts ms
       simp only [Nd.count] at hcy;omega
      clear HST1 HCN1 hcx hcy z1 z2 z3
      go_wp2_with (at_builtin;refine wpList_pushNds _ rfl _ _ rfl (wa.heap.size + 1) (.slice Aw acc.length cw) acc.length ys (by first | rfl | simp [Act.eval]) HI5.out.1 wc.heap.size y6 ms.length y8 zs HRS.out HFL.out (by first | rfl | simp [Act.eval]) ?lim ?hB ?_;(case lim => omega);(case hB => omega);intro v' w3 ho3 hg3 hv3;obtain ⟨Av,cv,rfl⟩:=own_form ho3;have HP:=Lib.hid (SInv.push HI5.out HS.out ms zs HMS.out (by simp) ho3 hg3 hv3);have hb3:=HI5.out.2.2.1.grown hg3 (fun e => by have:=(own_lt HI5.out.1 e.symm).1;omega);obtain ⟨o0,o1,o2,o3,o4⟩:=hb3.cells5;have of4:=hb3.frozen 4;clear o0 o1 o2 o3 ho3 hg3 hv3 hb3)
      go_roundw
      case rel => exact ⟨i + 1,acc ++ ms,ys ++ zs,Av,cv,by omega,by go_num,hst2,hcn2,HP⟩
      case measure => simp [intOf];omega
     ·have e6:(y0 == 6) = false:=by rw [beq_eq_false_iff_ne];exact hk6
      have hst2:Hid (starL (getN l) (ns.drop (i + 1)) (acc ++ [.mk y0 y1 y2 ks2 ms]) = starL (getN l) ns []):=by
       show _ = _
       have:=HST1.out _ rfl
       have hsa:starAdd (.mk y0 y1 y2 ks2 ms) acc = acc ++ [.mk y0 y1 y2 ks2 ms]:=if_neg hk6
       simp only [hsa] at this
       exact this.symm
      have hcn2:Hid (Nd.count.counts (acc ++ [.mk y0 y1 y2 ks2 ms]) + Nd.count.counts (ns.drop (i + 1)) ≤ 1000000):=by
       have hsa:starAdd (.mk y0 y1 y2 ks2 ms) acc = acc ++ [.mk y0 y1 y2 ks2 ms]:=if_neg hk6
       rw [hsa] at hcx
       exact hcx
      have HMS2:Hid (NdsIn wc (fun b => S b ∨ SK (wa.heap.size + 1) wc (.slice Aw acc.length cw) b) [.mk y0 y1 y2 ks2 ms] (nL y0 y1 y2 y3 ks2.length y5 y6 ms.length y8)):=by
       exact NdsIn.app [] [] _ _ NdsIn.nil HN8.out
      clear HST1 HCN1 hcx hcy hk6
      go_wp2_with (at_builtin;refine wpList_pushNd _ rfl _ _ rfl (wa.heap.size + 1) (.slice Aw acc.length cw) acc.length ys (by first | rfl | simp [Act.eval]) HI5.out.1 y0 y1 y2 y3 ks2.length y5 y6 ms.length y8 (by first | rfl | simp [Act.eval]) ?lim ?hB ?_;(case lim => omega);(case hB => omega);intro v' w3 ho3 hg3 hv3;obtain ⟨Av,cv,rfl⟩:=own_form ho3;have HP:=Lib.hid (SInv.push HI5.out HS.out [.mk y0 y1 y2 ks2 ms] (nL y0 y1 y2 y3 ks2.length y5 y6 ms.length y8) HMS2.out (by simp) ho3 hg3 hv3);have hb3:=HI5.out.2.2.1.grown hg3 (fun e => by have:=(own_lt HI5.out.1 e.symm).1;omega);obtain ⟨o0,o1,o2,o3,o4⟩:=hb3.cells5;have of4:=hb3.frozen 4;clear o0 o1 o2 o3 ho3 hg3 hv3 hb3)
      go_roundw
      case rel => exact ⟨i + 1,acc ++ [.mk y0 y1 y2 ks2 ms],ys ++ (nL y0 y1 y2 y3 ks2.length y5 y6 ms.length y8),Av,cv,by omega,by go_num,hst2,hcn2,HP⟩
      case measure => simp [intOf];omega
  ·have hal:acc.length ≤ 1000000:=by
    have h1:=len_counts acc
    have h2:=hcn.out
    omega
   have HSF:Hid (starL (getN l) ns [] = some acc):=by
    show _ = _
    rw [← hst.out,List.drop_eq_nil_of_le (by omega)];rfl
   have hwz:=hI.out.2.2.2.2.2.1
   obtain ⟨o0,o1,o2,o3,o4⟩:=hI.out.2.2.1.cells5
   obtain ⟨d0,d1,d2,d3,d4⟩:=hI.out.2.2.2.1.cells5
   have f0:=hI.out.2.2.2.1.frozen 0
   have f1:=hI.out.2.2.2.1.frozen 1
   have f2:=hI.out.2.2.2.1.frozen 2
   have f3:=hI.out.2.2.2.1.frozen 3
   have f4:=hI.out.2.2.2.1.frozen 4
   clear hst hcn
   go_wp2_with fail
   clear d0 d1 d2 d3 d4 f0 f1 f2 f3 f4
   have F:=get_fin (r:=some (.mk 6 0 ⟨#[]⟩ [] acc)) (S:=S) (S2:=(fun b => S b ∨ (wa.heap.size + 1 ≤ b ∧ b < wo.heap.size))) (w:=w) (w2:=wo) (y:=w.heap.size + 1) (by omega) hI.out.2.2.2.2.1 hI.out.2.2.2.1 (hI.out.node hal) (fun b hb => by
     rcases hb with hb | hb
     ·exact ⟨.inl hb,fun e => by have:=HS.out b hb;omega⟩
     ·exact ⟨.inr ⟨by omega,hb.2⟩,by omega⟩)
   unfold set5 at F
   generalize (((((wo).setCell (qa (w.heap.size + 1) 0) (.int .i64 6)).setCell (qa (w.heap.size + 1) 1) (.int .i64 0)).setCell (qa (w.heap.size + 1) 2) (.string ⟨#[]⟩)).setCell (qa (w.heap.size + 1) 3) (.slice none 0 0)).setCell (qa (w.heap.size + 1) 4) (.slice Aw acc.length cw) = WF at *
   obtain ⟨F1,F2⟩:=F
   obtain ⟨q0,q1,q2,q3,q4⟩:=F1.cells5
   refine bodyPost_ret (v:=.tuple #[.agg #[.int .i64 6,.int .i64 0,.string ⟨#[]⟩,.slice none 0 0,.slice Aw acc.length cw],.bool true]) (by simp [results,Tryd.results57,go_sem,q0,q1,q2,q3,q4]) rfl ?_
   rw [HG.out,HSF.out]
   exact F2
theorem pget_any:∀ (l:List ByteArray),(∀ s ∈ l,s.size ≤ 1000000) → GetOK l
 | [],_ => get_nil
 | p :: l,hz => by
  have IH:=pget_any l (fun s hs => hz s (by simp [hs]))
  intro n cs w S A c hn hS hr hl hc hs hct
  have hpz:p.size ≤ 9223372036854775807:=by have:=hz p (by simp);omega
  obtain ⟨ad,rfl,hab,hcell⟩:=hr.2 (by simp)
  have hp0:=hcell 0 (.string p) rfl
  have hsp:=spot_none hp0
  obtain ⟨ab,ao,sp⟩:=ad
  have hsn:sp = none:=by
   unfold Addr.add at hsp
   split at hsp <;> simp_all
  subst hsn
  rw [show ((qa ab ao):Addr).add 0 = (qa ab ao) by simp [Addr.add]] at hp0
  by_cases hc1:c = 1
  ·have hl0:l = []:=by
    cases l with
    | nil => rfl
    | cons a l => simp at hl;omega
   subst hl0 hc1
   have ht:Reads w w.heap.size 1 ((fun ab ao => some ((qa ab ao):Addr)) ab ao) ([]:List ByteArray).length (([]:List ByteArray).map Value.string):=⟨rfl,fun h => absurd h (by simp)⟩
   by_cases h7:n.kind = 7
   ·exact get_obj1 p IH n h7 hpz cs w S ab ao hn hS hab hp0 ht hc hs hct
   ·by_cases h6:n.kind = 6
    ·by_cases h42:p.toList = [42]
     ·exact get_star1 p IH n h6 h42 hpz cs w S ab ao hn hS hab hp0 ht hc hs hct
     ·exact get_place1 p IH n h6 h42 hpz cs w S ab ao hn hS hab hp0 ht hc hs hct
    ·exact get_other p [] n 1 (fun ab ao => some (qa ab ao)) h7 h6 hpz cs w S ab ao hn hS hab hp0 ht hc hs hct
  ·have hl2:l.length + 1 ≤ c:=by simpa using hl
   have ht:Reads w w.heap.size 1 ((fun ab ao => some ((qa ab (ao + 1)):Addr)) ab ao) l.length (l.map Value.string):=⟨by simp,fun h => ⟨_,rfl,hab,fun j u hu => by
    have:=hcell (j + 1) u (by simpa using hu)
    rw [show ((qa ab ao):Addr).add (j + 1) = (qa ab (ao + (j + 1))) by unfold Addr.add;split <;> simp_all] at this
    rw [show ((qa ab (ao + 1)):Addr).add j = (qa ab (ao + (j + 1))) by unfold Addr.add;split <;> simp_all <;> omega]
    exact this⟩⟩
   by_cases h7:n.kind = 7
   ·exact get_obj2 p l c hc1 hl2 IH n h7 hpz cs w S ab ao hn hS hab hp0 ht hc hs hct
   ·by_cases h6:n.kind = 6
    ·by_cases h42:p.toList = [42]
     ·exact get_star2 p l c hc1 hl2 IH n h6 h42 hpz cs w S ab ao hn hS hab hp0 ht hc hs hct
     ·exact get_place2 p l c hc1 hl2 IH n h6 h42 hpz cs w S ab ao hn hS hab hp0 ht hc hs hct
    ·exact get_other p l n c (fun ab ao => some (qa ab (ao + 1))) h7 h6 hpz cs w S ab ao hn hS hab hp0 ht hc hs hct
theorem strInfoP:(Tryd.prog.info? 9).map (fun i => (i.zero,i.size,i.bytes)) = some (some (.string ⟨#[]⟩),1,16):=by kernel_rfl
theorem wpList_pushStrP (w:World) {ops:Array Oper} {rest:List Oper} {o:Oper} {a:Act} {Q:Exit → Act → World → Prop} (hgd:o.guard = none) (s x:Operand)
  (ho:o.op = .call { callee:=.builtin .append,args:=#[s,x],argTypes:=#[22,22] })
  (B:Nat) (v:Value) (n:Nat) (xs:List Value) (hs:a.eval s = v) (hown:w.ownsRow B 9 1 v n xs) (t:ByteArray)
  (hx:a.eval x = .slice (some (qa w.heap.size 0)) 1 1)
  (hlim:n + 1 ≤ 1000000000000) (hB:B ≤ w.heap.size)
  (h:∀ v' w',w'.ownsRow B 9 1 v' (n + 1) (xs ++ [.string t]) → w.grownBy w' v.ownBlock → wpList Tryd.prog ops Q rest (a.put o.dst v') w') :
  wpList Tryd.prog ops Q (o :: rest) a (w.alloc (.cells #[.string t] 9)):=by
 obtain ⟨i0,hi0,hz0,hz1,hz2⟩:=info_parts strInfoP
 have hr:Reads (w.alloc (.cells #[.string t] 9)) (w.heap.size + 1) 1 (some (qa w.heap.size 0)) 1 [.string t]:=by
  refine ⟨rfl,fun _ => ⟨_,rfl,by simp,fun j u hj => ?_⟩⟩
  have e:((qa w.heap.size 0):Addr).add j = (qa w.heap.size j):=by unfold Addr.add;split <;> simp_all
  rw [e,World.cell?_alloc_mark]
  simpa using hj
 refine wpList_plain hgd fun K hK => ?_
 obtain ⟨v',w',h1,h2,h3,h4⟩:=run_append_any (P:=Tryd.prog) _ B 22 o.type 9 i0 _ 1 16 Tryd.underlying22 hi0 hz0 hz1 hz2 rfl (by omega) v n _ (World.ownsRow.alloc hown _) (w.heap.size + 1) _ 1 1 _ hr
  (fun u hu => by simp at hu;rcases hu with rfl;rfl) (by simp only [maxLen];omega) (by omega) (by simp;omega)
 unfold Oper.wp execOp
 simp only [ho,resolve,invoke,builtin,Sem.run_bind,Sem.run_pure,Result.andThen_ok,List.map_toArray,List.map_cons,List.map_nil,hs,hx,h1]
 exact hK _ _ (h v' w' h2 ((World.grownBy_alloc w _ _).trans h3))
theorem own_readsP {w:World} {B s n c:Nat} {e:TypeId} {A:Option Addr} {xs:List Value} (h:w.ownsRow B e s (.slice A n c) n xs):Reads w w.heap.size s A n xs:=by
 refine ⟨h.1,fun hn => ?_⟩
 obtain ⟨g,cap,hv,_,hlt⟩:=World.ownsRow.form h hn
 injection hv with e1 _ _
 subst e1
 exact ⟨_,rfl,hlt,fun j u hj => World.ownsRow.cells h rfl j u hj⟩
theorem own_cap {w:World} {B s n c:Nat} {e:TypeId} {A:Option Addr} {xs:List Value} (h:w.ownsRow B e s (.slice A n c) n xs):n ≤ c ∧ c ≤ maxLen:=by
 rcases h.2 with ⟨hv,hx⟩ | ⟨g,cap,cur,hv,_,_,h1,h2,_⟩
 ·injection hv with e1 e2 e3;subst e3;exact ⟨by omega,by simp [maxLen]⟩
 ·injection hv with e1 e2 e3;subst e3;exact ⟨h1,h2⟩
theorem parts_any (path:ByteArray) (w:World):Calls Tryd.prog 56 #[.string path] w fun e w' => e = .returned (.func (.func 69) #[] #[.pointer (some (qa w.heap.size 0))]) ∧ w' = w.alloc (.cells #[.string path] 9):=by
 have hmf:∀ (fn:Fn) (first cap:Array Value) (w:World),(Instr.makeFunc fn first cap).run Tryd.prog w = .ok (.func fn first cap) w:=fun _ _ _ _ => rfl
 go_enter Tryd.func56,Tryd.ntmps56
 go_wp2_with fail
 go_ret
 exact ⟨rfl,rfl⟩
noncomputable def pointN (n:Nd) (path:ByteArray):Option Nd × Int:=
 if rightD n 0 = false then (none,1) else if formP path = false then (none,3) else match getN (partsP path) n with
 | none => (none,7)
 | some m => (some m,0)
def PointP (r:Option Nd × Int) (w:World) (e:Ending) (w':World):Prop:=∃ (c0 c1:Int) (c2:ByteArray) (c3:Option Addr) (c4 c5:Nat) (c6:Option Addr) (c7 c8:Nat),
 e = .returned (.tuple #[.agg (nA c0 c1 c2 c3 c4 c5 c6 c7 c8),.int .i64 r.2]) ∧ NdIn w' (Since w w') (r.1.getD (nd0 0)) (nL c0 c1 c2 c3 c4 c5 c6 c7 c8) ∧ Below w.heap.size w w'
theorem point_fin {r:Option Nd × Int} {S2:Nat → Prop} {w w2:World} {y:Nat} {a b c d e:Value} {c0 c1:Int} {c2:ByteArray} {c3:Option Addr} {c4 c5:Nat} {c6:Option Addr} {c7 c8:Nat}
  (hyb:w.heap.size ≤ y) (hb:Below w.heap.size w w2) (hy:Blk w2 y 25 #[a,b,c,d,e]) (hn:NdIn w2 S2 (r.1.getD (nd0 0)) (nL c0 c1 c2 c3 c4 c5 c6 c7 c8))
  (hS2:∀ b,S2 b → Since w w2 b ∧ b ≠ y) :
  Blk (set5 w2 y (.int .i64 c0) (.int .i64 c1) (.string c2) (.slice c3 c4 c5) (.slice c6 c7 c8)) y 25 (nA c0 c1 c2 c3 c4 c5 c6 c7 c8) ∧
  PointP r w (.returned (.tuple #[.agg (nA c0 c1 c2 c3 c4 c5 c6 c7 c8),.int .i64 r.2])) (set5 w2 y (.int .i64 c0) (.int .i64 c1) (.string c2) (.slice c3 c4 c5) (.slice c6 c7 c8)):=
 ⟨set5_blk hy,_,_,_,_,_,_,_,_,_,rfl,set5_in hn (fun b hb => (hS2 b hb).2) (fun b hb => ⟨(hS2 b hb).1.1,by rw [set5_size];exact (hS2 b hb).1.2⟩),set5_below hb hyb⟩
end Go.Proofs.YthbjehbpanhdoaaDoor
namespace Go.Proofs.YthbjehbpanhdoaaDoor
open Go.RowKit Go.PlainAid
set_option linter.unusedVariables false
set_option linter.unusedSimpArgs false
theorem tail_le (l:List UInt8):l.tail.length ≤ l.length:=by simp
theorem tail_lt {l:List UInt8} {c:UInt8} (h:l.head? = some c):l.tail.length < l.length:=by
 cases l with
 | nil => cases h
 | cons a l => simp
def Rest (r l:List UInt8):Prop:=r <:+ l ∧ r.length < l.length
theorem Rest.of_tail {l:List UInt8} {c:UInt8} (h:l.head? = some c):Rest l.tail l:=⟨List.tail_suffix l,tail_lt h⟩
theorem Rest.blanks {r l:List UInt8} (h:Rest r (blanksL l)):Rest r l:=⟨h.1.trans (blanksL_suf l),Nat.lt_of_lt_of_le h.2 (blanksL_le l)⟩
theorem Rest.trans {a b c:List UInt8} (h:Rest a b) (k:b <:+ c):Rest a c:=⟨h.1.trans k,Nat.lt_of_lt_of_le h.2 k.length_le⟩
theorem drop_rest {l:List UInt8} {n:Nat} {t:List UInt8} (h:l.take n = t) (ht:t.length = n) (hn:0 < n):Rest (l.drop n) l:=by
 refine ⟨List.drop_suffix _ _,?_⟩
 have:=congrArg List.length h
 rw [List.length_take,ht] at this
 rw [List.length_drop];omega
set_option maxHeartbeats 1000000 in
theorem val_le:∀ (N:Nat),(∀ deep l n r,2 * l.length ≤ N → valL deep l = .ok (n,r) → Rest r l) ∧ (∀ deep l ns n r,2 * l.length + 1 ≤ N → arrL deep l ns = .ok (n,r) → Rest r l) ∧ (∀ deep l ks ns n r,2 * l.length + 1 ≤ N → objL deep l ks ns = .ok (n,r) → Rest r l):=by
 intro N
 induction N using Nat.strongRecOn with
 | _ N ih =>
  refine ⟨?_,?_,?_⟩
  ·intro deep l n r hN h
   rw [valL] at h
   split at h
   ·cases h
   split at h
   ·rename_i h1
    split at h
    ·rename_i h2
     cases h
     exact ((Rest.of_tail h2).blanks).trans (List.tail_suffix l)
    ·split at h
     ·rename_i h3
      have h0:0 < l.length:=by cases l with | nil => cases h1 | cons a l => simp
      exact ((ih (2 * (blanksL l.tail).length + 1) (by omega)).2.1 deep _ _ n r (by omega) h).blanks.trans (List.tail_suffix l)
     ·cases h
   split at h
   ·rename_i h1
    split at h
    ·rename_i h2
     cases h
     exact ((Rest.of_tail h2).blanks).trans (List.tail_suffix l)
    ·split at h
     ·rename_i h3
      exact ((ih (2 * (blanksL l.tail).length + 1) (by omega)).2.2 deep _ _ _ n r (by omega) h).blanks.trans (List.tail_suffix l)
     ·cases h
   split at h
   ·split at h
    ·cases h
    ·rename_i t r2 ht
     cases h
     exact textL_le ht
   split at h
   ·rename_i h1;cases h;exact drop_rest h1 rfl (by omega)
   split at h
   ·rename_i h1;cases h;exact drop_rest h1 rfl (by omega)
   split at h
   ·rename_i h1;cases h;exact drop_rest h1 rfl (by omega)
   split at h
   ·cases h
   ·rename_i m r2 ht
    cases h
    exact numL_le ht
  ·intro deep l ns n r hN h
   rw [arrL] at h
   split at h
   ·cases h
   ·rename_i m r2 hv
    have hb:=blanksL_le l
    have h1:=((ih (2 * (blanksL l).length) (by omega)).1 (deep + 1) _ m r2 (by omega) hv).blanks
    split at h
    ·rename_i h2
     cases h
     exact (Rest.of_tail h2).blanks.trans h1.1
    ·split at h
     ·split at h
      ·rename_i h3 h4
       exact ((ih (2 * (blanksL r2).tail.length + 1) (by omega)).2.1 deep _ _ n r (by omega) h).trans (((List.tail_suffix _).trans (blanksL_suf r2)).trans h1.1)
      ·cases h
     ·cases h
  ·intro deep l ks ns n r hN h
   rw [objL] at h
   split at h
   ·cases h
   ·rename_i k r1 ht
    have h1:=(show Rest r1 (blanksL l) from textL_le ht).blanks
    split at h
    ·cases h
    split at h
    ·rename_i h58
     split at h
     ·rename_i hg
      split at h
      ·cases h
      ·rename_i m r2 hv
       have h2:=(ih (2 * (blanksL (blanksL r1).tail).length) (by omega)).1 (deep + 1) _ m r2 (by omega) hv
       have h3:Rest r2 l:=h2.blanks.trans (((List.tail_suffix _).trans (blanksL_suf r1)).trans h1.1)
       split at h
       ·rename_i h4
        cases h
        exact (Rest.of_tail h4).blanks.trans h3.1
       ·split at h
        ·split at h
         ·rename_i h5 h6
          exact ((ih (2 * (blanksL r2).tail.length + 1) (by omega)).2.2 deep _ _ _ n r (by omega) h).trans (((List.tail_suffix _).trans (blanksL_suf r2)).trans h3.1)
         ·cases h
        ·cases h
     ·cases h
    ·cases h
theorem valL_le {deep:Nat} {l:List UInt8} {n:Nd} {r:List UInt8} (h:valL deep l = .ok (n,r)):Rest r l:=(val_le _).1 deep l n r (Nat.le_refl _) h
theorem arrL_eq (deep:Nat) (l:List UInt8) (ns:List Nd):arrL deep l ns = match valL (deep + 1) (blanksL l) with
  | .error e => .error e
  | .ok (n,r) => if (blanksL r).head? = some 93 then .ok (.mk 6 0 ⟨#[]⟩ [] (ns ++ [n]),(blanksL r).tail)
   else if (blanksL r).head? = some 44 then arrL deep (blanksL r).tail (ns ++ [n]) else .error 3:=by
 conv => lhs;rw [arrL]
 cases hv:valL (deep + 1) (blanksL l) with
 | error e => rfl
 | ok p =>
  obtain ⟨n,r⟩:=p
  have h:=(valL_le hv).blanks
  have h2:=blanksL_le r
  have h3:=tail_le (blanksL r)
  simp only
  rw [if_pos (show (blanksL r).tail.length < l.length by have:=h.2;omega)]
theorem objL_eq (deep:Nat) (l:List UInt8) (ks:List ByteArray) (ns:List Nd):objL deep l ks ns = match textL (blanksL l) with
  | none => .error 3
  | some (k,r) => if ks.any (fun s => s.toList == k) = true then .error 5
   else if (blanksL r).head? = some 58 then
    (match valL (deep + 1) (blanksL (blanksL r).tail) with
    | .error e => .error e
    | .ok (n,r2) => if (blanksL r2).head? = some 125 then .ok (.mk 7 0 ⟨#[]⟩ (ks ++ [⟨k.toArray⟩]) (ns ++ [n]),(blanksL r2).tail)
     else if (blanksL r2).head? = some 44 then objL deep (blanksL r2).tail (ks ++ [⟨k.toArray⟩]) (ns ++ [n]) else .error 3)
   else .error 3:=by
 conv => lhs;rw [objL]
 cases ht:textL (blanksL l) with
 | none => rfl
 | some p =>
  obtain ⟨k,r⟩:=p
  have h:=(show Rest r (blanksL l) from textL_le ht).blanks
  have h2:=blanksL_le r
  have h3:=tail_le (blanksL r)
  have h4:=blanksL_le (blanksL r).tail
  simp only
  rw [if_pos (show (blanksL (blanksL r).tail).length < l.length by have:=h.2;omega)]
  split
  ·rfl
  split
  ·cases hv:valL (deep + 1) (blanksL (blanksL r).tail) with
   | error e => rfl
   | ok p =>
    obtain ⟨n,r2⟩:=p
    have h5:=(valL_le hv).blanks
    have h6:=blanksL_le r2
    have h7:=tail_le (blanksL r2)
    simp only
    rw [if_pos (show (blanksL r2).tail.length < l.length by have:=h.2;have:=h5.2;omega)]
  ·rfl
theorem valL_arr (deep:Nat) (l:List UInt8) (h:l.head? = some 91) (hd:¬ 24 ≤ deep):valL deep l = if (blanksL l.tail).head? = some 93 then .ok (.mk 6 0 ⟨#[]⟩ [] [],(blanksL l.tail).tail) else arrL deep (blanksL l.tail) []:=by
 rw [valL,if_neg (by omega),if_pos h]
 have:=blanksL_le l.tail
 have:=tail_lt h
 rw [if_pos (show (blanksL l.tail).length < l.length by omega)]
theorem valL_obj (deep:Nat) (l:List UInt8) (h:l.head? = some 123) (hd:¬ 24 ≤ deep):valL deep l = if (blanksL l.tail).head? = some 125 then .ok (.mk 7 0 ⟨#[]⟩ [] [],(blanksL l.tail).tail) else objL deep (blanksL l.tail) [] []:=by
 rw [valL,if_neg (by omega),if_neg (by rw [h];simp),if_pos h]
 have:=blanksL_le l.tail
 have:=tail_lt h
 rw [if_pos (show (blanksL l.tail).length < l.length by omega)]
theorem blanksL_cons (u:UInt8) (l:List UInt8):blanksL (u :: l) = if blankB u = true then blanksL l else u :: l:=by
 unfold blanksL
 rw [List.dropWhile_cons]
theorem blankB_eq (u:UInt8) (z:Int) (h:z = u.toNat):blankB u = (z == 32 || z == 9 || z == 10 || z == 13):=by
 have e:∀ (c:UInt8) (n:Int),(c.toNat:Int) = n → (u == c) = (z == n):=fun c n hn => by
  rw [Bool.eq_iff_iff,beq_iff_eq,beq_iff_eq,h,← hn]
  constructor
  ·intro e;rw [e]
  ·intro e;exact UInt8.toNat_inj.1 (by omega)
 unfold blankB
 rw [e 32 32 rfl,e 9 9 rfl,e 10 10 rfl,e 13 13 rfl]
set_option maxRecDepth 100000 in
set_option maxHeartbeats 2000000 in
theorem blanks_any (rb:Nat) (s:ByteArray) (k:Nat) (w:World) (h:RdSt w rb s k) (hk:k ≤ s.size) (hs:s.size ≤ 1000000) :
  Calls Tryd.prog 45 #[.pointer (some (qa rb 0))] w fun e w' => e = .returned (.tuple #[]) ∧ RdTo rb s (blanksL (s.toList.drop k)) w w':=by
 obtain ⟨V,hV⟩:∃ V,V = blanksL (s.toList.drop k):=⟨_,rfl⟩
 rw [← hV]
 have HV:Hid (V = blanksL (s.toList.drop k)):=hV
 have H0:Hid (RdSt w rb s k):=h
 have hb:=get_bt s
 clear h hV
 go_enter Tryd.func45,Tryd.ntmps45
 go_wp2_with fail
 go_loopg [] (s.size - k) (fun g wr => ∃ k:Nat,k ≤ s.size ∧ s.size - k ≤ g ∧ Hid (V = blanksL (s.toList.drop k)) ∧ Hid (RdSt wr rb s k) ∧ Hid (w.grownBy wr (some rb)))
 case atStart => exact ⟨k,hk,Nat.le_refl _,HV,H0,grown_refl _ _⟩
 case round =>
  clear HV H0 hk
  obtain ⟨k,hk,hg,hv,h0,hw⟩:=hrel
  obtain ⟨wo,rfl⟩:∃ wo:World,wo = wr:=⟨_,rfl⟩
  obtain ⟨c0,c1,c2⟩:=h0.out.cells3
  have f1:=h0.out.frozen 1
  by_cases hlt:k < s.size
  ·obtain ⟨u,hu,hd⟩:=drop_cons s k hlt
   have HD:=Lib.hid hd
   have hbl:=blankB_eq u (bt s k) hu
   have i0:(0:Int) ≤ (k:Int):=by omega
   have i1:(k:Int) < (s.size:Int):=by omega
   have HU:=Lib.hid hu
   clear hd hu
   by_cases q32:bt s k = 32
   ·have HE:Hid (V = blanksL (s.toList.drop (k + 1))):=by show _ = _;rw [hv.out,HD.out,blanksL_cons,if_pos (by rw [hbl,q32];rfl)]
    clear hbl
    go_wp2
    go_quiet (fail)
    go_wp2
    go_quiet (fail)
    go_wp2
    go_roundg (gk - 1)
    case measure => omega
    case rel => exact ⟨k + 1,by omega,by omega,HE,(by have:=(h0.out).set_ 1 (.int .i64 ((k + 1:Nat):Int));exact this),grown_set (by first | exact grown_drewN (grown_drewN hw.out _) _ | exact grown_drewN hw.out _) 1 _⟩
   have n32:(bt s k == 32) = false:=by rw [beq_eq_false_iff_ne];exact q32
   by_cases q9:bt s k = 9
   ·have HE:Hid (V = blanksL (s.toList.drop (k + 1))):=by show _ = _;rw [hv.out,HD.out,blanksL_cons,if_pos (by rw [hbl,q9];rfl)]
    clear hbl
    go_wp2
    go_quiet (fail)
    go_wp2
    go_quiet (fail)
    go_wp2
    go_roundg (gk - 1)
    case measure => omega
    case rel => exact ⟨k + 1,by omega,by omega,HE,(by have:=(h0.out).set_ 1 (.int .i64 ((k + 1:Nat):Int));exact this),grown_set (by first | exact grown_drewN (grown_drewN hw.out _) _ | exact grown_drewN hw.out _) 1 _⟩
   have n9:(bt s k == 9) = false:=by rw [beq_eq_false_iff_ne];exact q9
   by_cases q10:bt s k = 10
   ·have HE:Hid (V = blanksL (s.toList.drop (k + 1))):=by show _ = _;rw [hv.out,HD.out,blanksL_cons,if_pos (by rw [hbl,q10];rfl)]
    clear hbl
    go_wp2
    go_quiet (fail)
    go_wp2
    go_quiet (fail)
    go_wp2
    go_roundg (gk - 1)
    case measure => omega
    case rel => exact ⟨k + 1,by omega,by omega,HE,(by have:=(h0.out).set_ 1 (.int .i64 ((k + 1:Nat):Int));exact this),grown_set (by first | exact grown_drewN (grown_drewN hw.out _) _ | exact grown_drewN hw.out _) 1 _⟩
   have n10:(bt s k == 10) = false:=by rw [beq_eq_false_iff_ne];exact q10
   by_cases q13:bt s k = 13
   ·have HE:Hid (V = blanksL (s.toList.drop (k + 1))):=by show _ = _;rw [hv.out,HD.out,blanksL_cons,if_pos (by rw [hbl,q13];rfl)]
    clear hbl
    go_wp2
    go_quiet (fail)
    go_wp2
    go_quiet (fail)
    go_wp2
    go_roundg (gk - 1)
    case measure => omega
    case rel => exact ⟨k + 1,by omega,by omega,HE,(by have:=(h0.out).set_ 1 (.int .i64 ((k + 1:Nat):Int));exact this),grown_set (by first | exact grown_drewN (grown_drewN hw.out _) _ | exact grown_drewN hw.out _) 1 _⟩
   have n13:(bt s k == 13) = false:=by rw [beq_eq_false_iff_ne];exact q13
   have HE:Hid (V = s.toList.drop k):=by show _ = _;rw [hv.out,HD.out,blanksL_cons,if_neg (by rw [hbl,n32,n9,n10,n13];simp)]
   clear hbl
   go_wp2
   go_quiet (fail)
   go_wp2
   go_quiet (fail)
   go_wp2
   refine bodyPost_ret (results_none rfl _ _ _) rfl ?_
   exact ⟨rfl,k,hk,HE.out.symm,h0.out,by first | exact grown_drewN (grown_drewN hw.out _) _ | exact grown_drewN hw.out _⟩
  ·have i1:¬ (k:Int) < (s.size:Int):=by omega
   have HE:Hid (V = s.toList.drop k):=by show _ = _;rw [hv.out,drop_end s k (by omega)];rfl
   go_wp2
   go_quiet (fail)
   go_wp2
   go_end0
   exact ⟨rfl,k,hk,HE.out.symm,h0.out,grown_drewN hw.out _⟩
theorem extract_take (s:ByteArray) (k n:Nat):(s.extract k (k + n)).toList = (s.toList.drop k).take n:=extract_toList s k n
set_option maxRecDepth 100000 in
set_option maxHeartbeats 2000000 in
theorem may_yes (rb:Nat) (s t:ByteArray) (k:Nat) (w:World) (h:RdSt w rb s k) (hk:k ≤ s.size) (hs:s.size ≤ 1000000) (hy:(s.toList.drop k).take t.size = t.toList) :
  Calls Tryd.prog 61 #[.pointer (some (qa rb 0)),.string t] w fun e w' => e = .returned (.bool true) ∧ RdTo rb s ((s.toList.drop k).drop t.size) w w':=by
 have H0:Hid (RdSt w rb s k):=h
 have hkt:k + t.size ≤ s.size:=by
  have:=congrArg List.length hy
  rw [toList_len,List.length_take,List.length_drop,toList_len] at this
  omega
 have heq:(s.extract k (k + t.size)).toList = t.toList:=by rw [extract_take];exact hy
 obtain ⟨c0,c1,c2⟩:=h.cells3
 have f1:=h.frozen 1
 have d0:¬ ((s.size:Int) - (k:Int) < (t.size:Int)):=by omega
 have d1:decide ((s.size:Int) - (k:Int) < (t.size:Int)) = false:=decide_eq_false d0
 have e1:((s.extract k (k + t.size)).toList == t.toList) = true:=by rw [beq_iff_eq];exact heq
 have e2:((s.extract k (k + t.size)).toList != t.toList) = false:=by rw [bne_eq_false_iff_eq];exact heq
 have i0:(0:Int) ≤ (k:Int):=by omega
 have i1:(k:Int) + (t.size:Int) ≤ (s.size:Int):=by omega
 have w1:IntKind.i64.wrap ((s.size:Int) - (k:Int)) = (s.size:Int) - (k:Int):=IntWalk.i64_in _ (by omega)
 have w2:IntKind.i64.wrap ((k:Int) + (t.size:Int)) = (k:Int) + (t.size:Int):=IntWalk.i64_in _ (by omega)
 have w3:((k:Int) + (t.size:Int)).toNat = k + t.size:=by omega
 clear h hy heq
 go_enter Tryd.func61,Tryd.ntmps61
 go_wp2
 go_quiet (fail)
 clear w1 w2 w3
 go_wp2
 go_ret
 refine ⟨rfl,k + t.size,hkt,by rw [List.drop_drop],?_,grown_set (grown_drewN (grown_refl _ _) _) 1 _⟩
 have:=(H0.out).set_ 1 (.int .i64 ((k + t.size:Nat):Int))
 rw [show ((k + t.size:Nat):Int) = (k:Int) + (t.size:Int) by omega] at this
 unfold RdSt
 rw [show ((k + t.size:Nat):Int) = (k:Int) + (t.size:Int) by omega]
 exact this
set_option maxRecDepth 100000 in
set_option maxHeartbeats 2000000 in
theorem may_no (rb:Nat) (s t:ByteArray) (k:Nat) (w:World) (h:RdSt w rb s k) (hk:k ≤ s.size) (hs:s.size ≤ 1000000) (hts:t.size ≤ 1000000) (hn:(s.toList.drop k).take t.size ≠ t.toList) :
  Calls Tryd.prog 61 #[.pointer (some (qa rb 0)),.string t] w fun e w' => e = .returned (.bool false) ∧ RdSt w' rb s k ∧ w.grownBy w' (some rb):=by
 have H0:Hid (RdSt w rb s k):=h
 obtain ⟨c0,c1,c2⟩:=h.cells3
 have i0:(0:Int) ≤ (k:Int):=by omega
 have w1:IntKind.i64.wrap ((s.size:Int) - (k:Int)) = (s.size:Int) - (k:Int):=IntWalk.i64_in _ (by omega)
 by_cases hkt:k + t.size ≤ s.size
 ·have heq:(s.extract k (k + t.size)).toList ≠ t.toList:=by rw [extract_take];exact hn
  have d0:¬ ((s.size:Int) - (k:Int) < (t.size:Int)):=by omega
  have d1:decide ((s.size:Int) - (k:Int) < (t.size:Int)) = false:=decide_eq_false d0
  have e1:((s.extract k (k + t.size)).toList == t.toList) = false:=by rw [beq_eq_false_iff_ne];exact heq
  have e2:((s.extract k (k + t.size)).toList != t.toList) = true:=by rw [bne_iff_ne];exact heq
  have i1:(k:Int) + (t.size:Int) ≤ (s.size:Int):=by omega
  have w2:IntKind.i64.wrap ((k:Int) + (t.size:Int)) = (k:Int) + (t.size:Int):=IntWalk.i64_in _ (by omega)
  have w3:((k:Int) + (t.size:Int)).toNat = k + t.size:=by omega
  clear h hn heq
  go_enter Tryd.func61,Tryd.ntmps61
  go_wp2
  go_quiet (fail)
  clear w1 w2 w3
  go_wp2
  go_ret
  exact ⟨rfl,H0.out,grown_drewN (grown_refl _ _) _⟩
 ·have d0:(s.size:Int) - (k:Int) < (t.size:Int):=by omega
  have d1:decide ((s.size:Int) - (k:Int) < (t.size:Int)) = true:=decide_eq_true d0
  clear h hn
  go_enter Tryd.func61,Tryd.ntmps61
  go_wp2
  go_quiet (fail)
  clear w1
  go_wp2
  go_ret
  exact ⟨rfl,H0.out,grown_drewN (grown_refl _ _) _⟩
theorem must_yes (rb:Nat) (s t:ByteArray) (k:Nat) (w:World) (h:RdSt w rb s k) (hk:k ≤ s.size) (hs:s.size ≤ 1000000) (hy:(s.toList.drop k).take t.size = t.toList) :
  Calls Tryd.prog 66 #[.pointer (some (qa rb 0)),.string t] w fun e w' => e = .returned (.tuple #[]) ∧ RdTo rb s ((s.toList.drop k).drop t.size) w w':=by
 have HM:=Lib.hid (may_yes rb s t k w h hk hs hy)
 clear h hy
 go_enter Tryd.func66,Tryd.ntmps66
 go_wp2_with fail
 refine HM.out.mono ?_;rintro e w1 ⟨rfl,h1⟩
 have H1:=Lib.hid h1
 clear h1
 go_wp2_with fail
 go_end0
 exact ⟨rfl,H1.out⟩
theorem must_no (rb:Nat) (s t:ByteArray) (k:Nat) (w:World) (h:RdSt w rb s k) (hk:k ≤ s.size) (hs:s.size ≤ 1000000) (hts:t.size ≤ 1000000) (hn:(s.toList.drop k).take t.size ≠ t.toList) :
  Calls Tryd.prog 66 #[.pointer (some (qa rb 0)),.string t] w (Failed rb s 3 w):=by
 have HM:=Lib.hid (may_no rb s t k w h hk hs hts hn)
 clear h hn
 go_enter Tryd.func66,Tryd.ntmps66
 go_wp2_with fail
 refine HM.out.mono ?_;rintro e w1 ⟨rfl,h1,g1⟩
 have H1:=Lib.hid h1
 have G1:=Lib.hid g1
 clear h1 g1
 go_wp2_with fail
 refine (fail_any rb s k 3 _ H1.out).mono ?_;rintro e w2 ⟨rfl,h2,g2⟩
 have H2:=Lib.hid h2
 have G2:=Lib.hid g2
 clear h2 g2
 go_wp2_with fail
 exact ⟨rfl,rfl,H2.out,G1.out.trans G2.out⟩
def digH (l:List UInt8):Bool:=match l with
 | [] => false
 | u :: _ => digB u
set_option maxRecDepth 100000 in
set_option maxHeartbeats 2000000 in
theorem digit_any (rb:Nat) (s:ByteArray) (k:Nat) (w:World) (h:RdSt w rb s k) (hk:k ≤ s.size) (hs:s.size ≤ 1000000) :
  Calls Tryd.prog 76 #[.pointer (some (qa rb 0))] w fun e w' => e = .returned (.bool (digH (s.toList.drop k))) ∧ RdSt w' rb s k ∧ w.grownBy w' (some rb):=by
 have H0:Hid (RdSt w rb s k):=h
 obtain ⟨c0,c1,c2⟩:=h.cells3
 have i0:(0:Int) ≤ (k:Int):=by omega
 have hb:=get_bt s
 clear h
 by_cases hlt:k < s.size
 ·obtain ⟨u,hu,hd⟩:=drop_cons s k hlt
  have i1:(k:Int) < (s.size:Int):=by omega
  have d1:decide ((k:Int) < (s.size:Int)) = true:=decide_eq_true i1
  have b0:=bt_nonneg s k
  have b1:=bt_le s k
  rw [hd]
  by_cases q0:48 ≤ bt s k
  ·have dq0:decide (48 ≤ bt s k) = true:=decide_eq_true q0
   by_cases q1:bt s k ≤ 57
   ·have dq1:decide (bt s k ≤ 57) = true:=decide_eq_true q1
    have HE:Hid (digH (u :: s.toList.drop (k + 1)) = true):=by show _ = _;unfold digH digB;exact decide_eq_true (by omega)
    generalize digH (u :: s.toList.drop (k + 1)) = V at *
    clear hu hd
    go_enter Tryd.func76,Tryd.ntmps76
    go_wp2
    go_quiet (fail)
    go_wp2
    go_ret
    exact ⟨by rw [HE.out];rfl,H0.out,grown_drewN (grown_refl _ _) _⟩
   ·have dq1:decide (bt s k ≤ 57) = false:=decide_eq_false q1
    have HE:Hid (digH (u :: s.toList.drop (k + 1)) = false):=by show _ = _;unfold digH digB;exact decide_eq_false (by omega)
    generalize digH (u :: s.toList.drop (k + 1)) = V at *
    clear hu hd
    go_enter Tryd.func76,Tryd.ntmps76
    go_wp2
    go_quiet (fail)
    go_wp2
    go_ret
    exact ⟨by rw [HE.out];rfl,H0.out,grown_drewN (grown_refl _ _) _⟩
  ·have dq0:decide (48 ≤ bt s k) = false:=decide_eq_false q0
   have HE:Hid (digH (u :: s.toList.drop (k + 1)) = false):=by show _ = _;unfold digH digB;exact decide_eq_false (by omega)
   generalize digH (u :: s.toList.drop (k + 1)) = V at *
   clear hu hd
   go_enter Tryd.func76,Tryd.ntmps76
   go_wp2
   go_quiet (fail)
   go_wp2
   go_ret
   exact ⟨by rw [HE.out];rfl,H0.out,grown_drewN (grown_refl _ _) _⟩
 ·have i1:¬ (k:Int) < (s.size:Int):=by omega
  have d1:decide ((k:Int) < (s.size:Int)) = false:=decide_eq_false i1
  have HE:Hid (digH (s.toList.drop k) = false):=by show _ = _;rw [drop_end s k (by omega)];rfl
  generalize digH (s.toList.drop k) = V at *
  go_enter Tryd.func76,Tryd.ntmps76
  go_wp2
  go_quiet (fail)
  go_wp2
  go_ret
  exact ⟨by rw [HE.out];rfl,H0.out,grown_drewN (grown_refl _ _) _⟩
end Go.Proofs.YthbjehbpanhdoaaDoor
