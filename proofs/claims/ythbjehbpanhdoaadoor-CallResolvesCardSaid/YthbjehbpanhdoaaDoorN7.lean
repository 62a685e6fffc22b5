/- Texts of one seat,one behind the other: Jval2,Jmany0,Jmany1,Jval5,Jmany2. No condition. -/
import Derived.Test.YthbjehbpanhdoaaDoorN6
namespace Go.Proofs.YthbjehbpanhdoaaDoor
open Go.RowKit Go.PlainAid
set_option linter.unusedVariables false
set_option linter.unusedSimpArgs false
def kidL (deep:Nat) (l:List UInt8) (ks:List ByteArray):Except Int (List UInt8 × Nd × List UInt8):=
 match textL l with
 | none => .error 3
 | some (k,r) => if ks.any (fun s => s.toList == k) = true then .error 5
  else if (blanksL r).head? = some 58 then
   (match valL (deep + 1) (blanksL (blanksL r).tail) with
   | .error e => .error e
   | .ok (n,r2) => .ok (k,n,r2))
  else .error 3
def PartO (w0:World) (nb rB dB rb h:Nat) (deep:Nat) (ks:List ByteArray) (ns:List Nd) (s:ByteArray) (r:Except Int (List UInt8 × Nd × List UInt8)) (e:Ending) (w':World):Prop:=
 match r with
 | .error c => Failed rb s c w0 e w'
 | .ok (t,n,l) => e = .returned (.tuple #[]) ∧ OIs w0 nb rB dB rb h deep (ks ++ [⟨t.toArray⟩]) (ns ++ [n]) w' ∧ ∃ k',k' ≤ s.size ∧ s.toList.drop k' = l ∧ RdSt w' rb s k'
theorem any_idx (ks:List ByteArray) (x:ByteArray):decide (0 ≤ idxI ks x) = ks.any (fun s => s.toList == x.toList):=by
 unfold idxI
 cases h:idxK ks x with
 | none =>
  unfold idxK at h
  rw [List.findIdx?_eq_none_iff] at h
  have:ks.any (fun s => s.toList == x.toList) = false:=by
   rw [List.any_eq_false]
   intro s hs
   have:=h s hs
   simp at this ⊢
   exact fun e => this e.symm
  rw [this]
  simp
 | some i =>
  unfold idxK at h
  rw [List.findIdx?_eq_some_iff_getElem] at h
  obtain ⟨hi,h1,_⟩:=h
  have:ks.any (fun s => s.toList == x.toList) = true:=by
   rw [List.any_eq_true]
   exact ⟨ks[i],List.getElem_mem _,by simp at h1 ⊢;exact h1.symm⟩
  rw [this]
  simp
theorem strInfo:(Tryd.prog.info? 9).map (fun i => (i.zero,i.size,i.bytes)) = some (some (.string ⟨#[]⟩),1,16):=by kernel_rfl
theorem wpList_pushStr (w:World) {ops:Array Oper} {rest:List Oper} {o:Oper} {a:Act} {Q:Exit → Act → World → Prop} (hgd:o.guard = none) (s x:Operand)
  (ho:o.op = .call { callee:=.builtin .append,args:=#[s,x],argTypes:=#[22,22] })
  (B:Nat) (v:Value) (n:Nat) (xs:List Value) (hs:a.eval s = v) (hown:w.ownsRow B 9 1 v n xs) (t:ByteArray)
  (hx:a.eval x = .slice (some (qa w.heap.size 0)) 1 1)
  (hlim:n + 1 ≤ 1000000000000) (hB:B ≤ w.heap.size)
  (h:∀ v' w',w'.ownsRow B 9 1 v' (n + 1) (xs ++ [.string t]) → (w.alloc (.cells #[.string t] 9)).grownBy w' v.ownBlock → (v'.ownBlock = v.ownBlock ∨ ∃ g,v'.ownBlock = some g ∧ (w.alloc (.cells #[.string t] 9)).heap.size ≤ g) → wpList Tryd.prog ops Q rest (a.put o.dst v') w') :
  wpList Tryd.prog ops Q (o :: rest) a (w.alloc (.cells #[.string t] 9)):=by
 obtain ⟨i0,hi0,hz0,hz1,hz2⟩:=info_parts strInfo
 have hr:Reads (w.alloc (.cells #[.string t] 9)) (w.heap.size + 1) 1 (some (qa w.heap.size 0)) 1 [.string t]:=by
  refine ⟨rfl,fun _ => ⟨_,rfl,by simp,fun j u hj => ?_⟩⟩
  have e:((qa w.heap.size 0):Addr).add j = (qa w.heap.size j):=by unfold Addr.add;split <;> simp_all
  rw [e,World.cell?_alloc_mark]
  simpa using hj
 refine wpList_plain hgd fun K hK => ?_
 obtain ⟨v',w',h1,h2,h3,h4⟩:=run_append_any (P:=Tryd.prog) _ B 22 o.type 9 i0 _ 1 16 Tryd.underlying22 hi0 hz0 hz1 hz2 rfl (by omega) v n _ (World.ownsRow.alloc hown _) (w.heap.size + 1) _ 1 1 _ hr
  (fun u hu => by simp at hu;rcases hu with rfl;rfl) (by simp only [maxLen];omega) (by omega) (by simp;omega)
 unfold Oper.wp execOp
 simp only [ho,resolve,invoke,builtin,Sem.run_bind,Sem.run_pure,Result.andThen_ok,List.map_toArray,List.map_cons,List.map_nil,hs,hx,h1]
 refine hK _ _ (h v' w' h2 h3 ?_)
 rcases h4 with h4 | h4
 ·exact .inl h4
 ·exact .inr ⟨_,h4,Nat.le_refl _⟩
theorem own_reads {w:World} {B s n c:Nat} {e:TypeId} {A:Option Addr} {xs:List Value} (h:w.ownsRow B e s (.slice A n c) n xs):Reads w w.heap.size s A n xs:=by
 refine ⟨h.1,fun hn => ?_⟩
 obtain ⟨g,cap,hv,_,hlt⟩:=World.ownsRow.form h hn
 injection hv with e1 _ _
 subst e1
 exact ⟨_,rfl,hlt,fun j u hj => World.ownsRow.cells h rfl j u hj⟩
set_option maxRecDepth 100000 in
set_option maxHeartbeats 4000000 in
theorem value2_any (w0:World) (nb rB dB rb hB:Nat) (deep:Nat) (ks:List ByteArray) (ns:List Nd) (s:ByteArray) (k:Nat) (w:World) (K:Option Addr) (kc:Nat) (A:Option Addr) (c:Nat) (ys:List Value) (hI:OInv w0 nb rB dB rb hB deep ks ns w K kc A c ys) (hst:RdSt w rb s k) (hk:k ≤ s.size) (hs:s.size ≤ 1000000) (hd:deep ≤ 24) (hn:ns.length ≤ 1000000) (hkn:ks.length ≤ 1000000)
  (h0:w0.heap.size ≤ nb) (h1:rb < hB) (h2:nb < hB) (h3:rB < hB) (h4:dB < hB) (n1:nb ≠ rb) (n2:rB ≠ rb) (n3:dB ≠ rb) (n4:nb ≠ rB) (n5:nb ≠ dB)
  (HV:Hid (∀ k' w',k ≤ k' → k' ≤ s.size → RdSt w' rb s k' → ValC rb s (deep + 1) k' w')) :
  Calls Tryd.prog 64 #[.pointer (some (qa rB 0)),.pointer (some (qa nb 0)),.pointer (some (qa dB 0))] w (PartO w0 nb rB dB rb hB deep ks ns s (kidL deep (s.toList.drop k) ks)):=by
 have HI:=Lib.hid hI
 have HST:=Lib.hid hst
 obtain ⟨a0,a1,a2,a3,a4⟩:=hI.node.cells5
 have r0:w.cell? (qa rB 0) = some (.pointer (some (qa rb 0))):=hI.rbox.cell 0
 have d0:w.cell? (qa dB 0) = some (.int .i64 deep):=hI.dbox.cell 0
 have hsz:=hI.size
 have HT:=Lib.hid (text_any rb s k w hst hk hs)
 clear hI hst
 unfold kidL
 cases ht:textL (s.toList.drop k) with
 | none =>
  rw [ht] at HT
  clear ht
  go_enter Tryd.func64,Tryd.ntmps64
  go_wp2_with (first | (go_at_call 65;refine HT.out.mono ?_;rintro e w1 ⟨rfl,g1,g2⟩))
  --@two begins
  exact ⟨rfl,rfl,g1,HI.out.grow.trans g2⟩
 | some p =>
  obtain ⟨t,r⟩:=p
  have HR:Hid (Rest r (s.toList.drop k)):=textL_le ht
  rw [ht] at HT
  by_cases hc:ks.any (fun s => s.toList == t) = true
  ·simp only [hc,if_true]
   have HCB:Hid (decide (0 ≤ idxI ks ⟨t.toArray⟩) = true):=(any_idx ks ⟨t.toArray⟩).trans (by simpa using hc)
   clear hc ht
   go_enter Tryd.func64,Tryd.ntmps64
   go_wp2_with fail
   refine HT.out.mono ?_
   rintro e w1 ⟨rfl,k1,g1,g2,g3,g4⟩
   have I1:Hid (OInv w0 nb rB dB rb hB deep ks ns w1 K kc A c ys):=OInv.next HI.out g4 h1 n1 n2 n3
   have R1:Hid (RdSt w1 rb s k1):=g3
   have L1:Hid (s.toList.drop k1 = r):=g2
   have c31:w1.cell? (qa nb 3) = some (.slice K ks.length kc):=I1.out.node.cell 3
   have c41:w1.cell? (qa nb 4) = some (.slice A ns.length c):=I1.out.node.cell 4
   have cr1:w1.cell? (qa rB 0) = some (.pointer (some (qa rb 0))):=I1.out.rbox.cell 0
   have cd1:w1.cell? (qa dB 0) = some (.int .i64 deep):=I1.out.dbox.cell 0
   clear g2 g3 g4
   go_wp2_with fail
   refine (contains_any ks ⟨t.toArray⟩ K kc w1.heap.size w1 (own_reads I1.out.keys) (by omega)).mono ?_
   rintro e w1' ⟨rfl,rfl⟩
   rw [HCB.out]
   go_wp2_with fail
   refine (fail_any rb s k1 5 w1 R1.out).mono ?_
   rintro e w2 ⟨rfl,g1,g2⟩
   go_wp2_with fail
   exact ⟨rfl,rfl,g1,I1.out.grow.trans g2⟩
  simp only [hc,if_false]
  have HCB:Hid (decide (0 ≤ idxI ks ⟨t.toArray⟩) = false):=(any_idx ks ⟨t.toArray⟩).trans (by simpa using hc)
  clear hc ht
  by_cases h58:(blanksL r).head? = some 58
  case neg =>
   simp only [h58,if_false]
   have HNO:Hid ((blanksL r).take (⟨#[58]⟩:ByteArray).size ≠ (⟨#[58]⟩:ByteArray).toList):=Lib.hid (by
    rw [show (⟨#[58]⟩:ByteArray).toList = [58] by kernel_rfl]
    show ¬ (List.take 1 _ = [58])
    cases hq:blanksL r with
    | nil => simp
    | cons a b => rw [hq] at h58;simpa using h58)
   clear h58
   go_enter Tryd.func64,Tryd.ntmps64
   go_wp2_with fail
   refine HT.out.mono ?_
   rintro e w1 ⟨rfl,k1,g1,g2,g3,g4⟩
   have I1:Hid (OInv w0 nb rB dB rb hB deep ks ns w1 K kc A c ys):=OInv.next HI.out g4 h1 n1 n2 n3
   have R1:Hid (RdSt w1 rb s k1):=g3
   have L1:Hid (s.toList.drop k1 = r):=g2
   have c31:w1.cell? (qa nb 3) = some (.slice K ks.length kc):=I1.out.node.cell 3
   have c41:w1.cell? (qa nb 4) = some (.slice A ns.length c):=I1.out.node.cell 4
   have cr1:w1.cell? (qa rB 0) = some (.pointer (some (qa rb 0))):=I1.out.rbox.cell 0
   have cd1:w1.cell? (qa dB 0) = some (.int .i64 deep):=I1.out.dbox.cell 0
   clear g2 g3 g4
   go_wp2_with fail
   refine (contains_any ks ⟨t.toArray⟩ K kc w1.heap.size w1 (own_reads I1.out.keys) (by omega)).mono ?_
   rintro e w1' ⟨rfl,rfl⟩
   rw [HCB.out]
   go_wp2_with fail
   refine (blanks_any rb s k1 w1 R1.out g1 hs).mono ?_
   rw [L1.out]
   rintro e w2 ⟨rfl,k2,g6,g2,g3,g4⟩
   have I2:Hid (OInv w0 nb rB dB rb hB deep ks ns w2 K kc A c ys):=OInv.next I1.out g4 h1 n1 n2 n3
   have R2:Hid (RdSt w2 rb s k2):=g3
   have L2:Hid (s.toList.drop k2 = blanksL r):=g2
   have c32:w2.cell? (qa nb 3) = some (.slice K ks.length kc):=I2.out.node.cell 3
   have c42:w2.cell? (qa nb 4) = some (.slice A ns.length c):=I2.out.node.cell 4
   have cr2:w2.cell? (qa rB 0) = some (.pointer (some (qa rb 0))):=I2.out.rbox.cell 0
   have cd2:w2.cell? (qa dB 0) = some (.int .i64 deep):=I2.out.dbox.cell 0
   clear g2 g3 g4
   go_wp2_with fail
   refine (must_no rb s _ k2 w2 R2.out g6 hs (by decide) (by rw [L2.out];exact HNO.out)).mono ?_
   rintro e w3 ⟨rfl,g1,g2⟩
   go_wp2_with fail
   exact ⟨rfl,rfl,g1,I2.out.grow.trans g2⟩
  have HYES:Hid ((blanksL r).take (⟨#[58]⟩:ByteArray).size = (⟨#[58]⟩:ByteArray).toList):=Lib.hid (by
   rw [show (⟨#[58]⟩:ByteArray).toList = [58] by kernel_rfl]
   show List.take 1 _ = [58]
   cases hq:blanksL r with
   | nil => rw [hq] at h58;cases h58
   | cons a b => rw [hq] at h58;simpa using h58)
  simp only [h58,if_true]
  clear h58
  cases hv0:valL (deep + 1) (blanksL (blanksL r).tail) with
  | error e0 =>
   have hv:=Lib.hid hv0
   clear hv0
   go_enter Tryd.func64,Tryd.ntmps64
   go_wp2_with fail
   refine HT.out.mono ?_
   rintro e w1 ⟨rfl,k1,g1,g2,g3,g4⟩
   have I1:Hid (OInv w0 nb rB dB rb hB deep ks ns w1 K kc A c ys):=OInv.next HI.out g4 h1 n1 n2 n3
   have R1:Hid (RdSt w1 rb s k1):=g3
   have L1:Hid (s.toList.drop k1 = r):=g2
   have c31:w1.cell? (qa nb 3) = some (.slice K ks.length kc):=I1.out.node.cell 3
   have c41:w1.cell? (qa nb 4) = some (.slice A ns.length c):=I1.out.node.cell 4
   have cr1:w1.cell? (qa rB 0) = some (.pointer (some (qa rb 0))):=I1.out.rbox.cell 0
   have cd1:w1.cell? (qa dB 0) = some (.int .i64 deep):=I1.out.dbox.cell 0
   clear g2 g3 g4
   go_wp2_with fail
   refine (contains_any ks ⟨t.toArray⟩ K kc w1.heap.size w1 (own_reads I1.out.keys) (by omega)).mono ?_
   rintro e w1' ⟨rfl,rfl⟩
   rw [HCB.out]
   go_wp2_with fail
   refine (blanks_any rb s k1 w1 R1.out g1 hs).mono ?_
   rw [L1.out]
   rintro e w2 ⟨rfl,k2,g6,g2,g3,g4⟩
   have I2:Hid (OInv w0 nb rB dB rb hB deep ks ns w2 K kc A c ys):=OInv.next I1.out g4 h1 n1 n2 n3
   have R2:Hid (RdSt w2 rb s k2):=g3
   have L2:Hid (s.toList.drop k2 = blanksL r):=g2
   have c32:w2.cell? (qa nb 3) = some (.slice K ks.length kc):=I2.out.node.cell 3
   have c42:w2.cell? (qa nb 4) = some (.slice A ns.length c):=I2.out.node.cell 4
   have cr2:w2.cell? (qa rB 0) = some (.pointer (some (qa rb 0))):=I2.out.rbox.cell 0
   have cd2:w2.cell? (qa dB 0) = some (.int .i64 deep):=I2.out.dbox.cell 0
   clear g2 g3 g4
   go_wp2_with fail
   refine (must_yes rb s _ k2 w2 R2.out g6 hs (by rw [L2.out];exact HYES.out)).mono ?_
   rw [L2.out]
   rintro e w3 ⟨rfl,k3,g7,g2,g3,g4⟩
   have I3:Hid (OInv w0 nb rB dB rb hB deep ks ns w3 K kc A c ys):=OInv.next I2.out g4 h1 n1 n2 n3
   have R3:Hid (RdSt w3 rb s k3):=g3
   have L3:Hid (s.toList.drop k3 = (blanksL r).drop 1):=g2
   have c33:w3.cell? (qa nb 3) = some (.slice K ks.length kc):=I3.out.node.cell 3
   have c43:w3.cell? (qa nb 4) = some (.slice A ns.length c):=I3.out.node.cell 4
   have cr3:w3.cell? (qa rB 0) = some (.pointer (some (qa rb 0))):=I3.out.rbox.cell 0
   have cd3:w3.cell? (qa dB 0) = some (.int .i64 deep):=I3.out.dbox.cell 0
   clear g2 g3 g4
   go_wp2_with fail
   refine (blanks_any rb s k3 w3 R3.out g7 hs).mono ?_
   rw [L3.out]
   rintro e w4 ⟨rfl,k4,g8,g2,g3,g4⟩
   have I4:Hid (OInv w0 nb rB dB rb hB deep ks ns w4 K kc A c ys):=OInv.next I3.out g4 h1 n1 n2 n3
   have R4:Hid (RdSt w4 rb s k4):=g3
   have L4:Hid (s.toList.drop k4 = blanksL ((blanksL r).drop 1)):=g2
   have c34:w4.cell? (qa nb 3) = some (.slice K ks.length kc):=I4.out.node.cell 3
   have c44:w4.cell? (qa nb 4) = some (.slice A ns.length c):=I4.out.node.cell 4
   have cr4:w4.cell? (qa rB 0) = some (.pointer (some (qa rb 0))):=I4.out.rbox.cell 0
   have cd4:w4.cell? (qa dB 0) = some (.int .i64 deep):=I4.out.dbox.cell 0
   clear g2 g3 g4
   have fz:=I4.out.node.frozen 3
   have y9:w4.frozen? (qa nb 3) = false:=fz
   go_wp2_with (at_builtin;refine wpList_pushStr _ rfl _ _ rfl hB _ ks.length _ rfl I4.out.keys ⟨t.toArray⟩ (by first | rfl | simp [Act.eval]) (by omega) I4.out.size ?_;intro v5 w5 p1 p2 p3;obtain ⟨g,cp,rfl,hg1,hg2⟩:=World.ownsRow.form p1 (by omega);have P1:=Lib.hid p1;have P2:=Lib.hid p2;have P3:=Lib.hid p3;have KB:∀ g,(Value.slice K ks.length kc).ownBlock = some g → hB ≤ g ∧ g < w4.heap.size:=fun g hg => own_lt I4.out.keys hg;have q1:Hid (Blk w5 nb 25 #[.int .i64 7,.int .i64 0,.string ⟨#[]⟩,.slice K ks.length kc,.slice A ns.length c]):=(I4.out.node.alloc _).grown p2 (fun e => by have:=(KB nb e.symm).1;omega);have y1:w5.cell? (qa nb 3) = some (.slice K ks.length kc):=q1.out.cell 3;have y2:w5.frozen? (qa nb 3) = false:=q1.out.frozen 3;have y3:w5.cell? (qa rB 0) = some (.pointer (some (qa rb 0))):=((I4.out.rbox.alloc _).grown p2 (fun e => by have:=(KB rB e.symm).1;omega)).cell 0;have I6:Hid (OInv w0 nb rB dB rb hB deep (ks ++ [⟨t.toArray⟩]) ns (w5.setCell (qa nb 3) (.slice (some (qa g 0)) (ks.length + 1) cp)) (some (qa g 0)) cp A c ys ∧ ∀ b,b < hB → b ≠ nb → (w5.setCell (qa nb 3) (.slice (some (qa g 0)) (ks.length + 1) cp)).heap[b]? = w4.heap[b]?):=OInv.key I4.out (grown_alloc (grown_refl _ _) _) p1 hg1 p2 p3 h0 h1 h2 h3 h4 n1 n4 n5;clear p1 p2 p3 KB)
   obtain ⟨K2,kc2,I7⟩:∃ K2 kc2,Hid (OInv w0 nb rB dB rb hB deep (ks ++ [(⟨t.toArray⟩:ByteArray)]) ns (w5.setCell (qa nb 3) (.slice (some (qa g 0)) (ks.length + 1) cp)) K2 kc2 A c ys):=⟨some (qa g 0),cp,Lib.hid I6.out.1⟩
   have R7:Hid (RdSt (w5.setCell (qa nb 3) (.slice (some (qa g 0)) (ks.length + 1) cp)) rb s k4):=(I6.out.2 rb h1 n1.symm).trans R4.out
   clear I6 q1 y1 y2 P1 P2 P3
   generalize w5.setCell (qa nb 3) (.slice (some (qa g 0)) (ks.length + 1) cp) = w6 at I7 R7 ⊢
   have c46:w6.cell? (qa nb 4) = some (.slice A ns.length c):=I7.out.node.cell 4
   have cr6:w6.cell? (qa rB 0) = some (.pointer (some (qa rb 0))):=I7.out.rbox.cell 0
   have cd6:w6.cell? (qa dB 0) = some (.int .i64 deep):=I7.out.dbox.cell 0
   have hsz6:=I7.out.size
   have hk4:k ≤ k4:=by
    have e1:=congrArg List.length L4.out
    have e2:=blanksL_le ((blanksL r).drop 1)
    have e3:=blanksL_le r
    have e4:=HR.out.2
    simp only [List.length_drop,tl_len'] at e1 e2 e4
    omega
   have x1:IntKind.i64.wrap ((deep:Int) + 1) = (deep:Int) + 1:=IntWalk.i64_in _ (by omega)
   have e7:s.toList.drop k4 = blanksL (blanksL r).tail:=by rw [L4.out,List.drop_one]
   have HV7:Hid (∀ w',RdSt w' rb s k4 → Calls Tryd.prog 46 #[.pointer (some (qa rb 0)),.int .i64 ((deep:Int) + 1)] w' (ValEnd rb s (valL (deep + 1) (blanksL (blanksL r).tail)) w')):=fun w' hw' => by
    have:=HV.out k4 w' hk4 g8 hw'
    unfold ValC at this
    rw [e7] at this
    exact this
   clear e7
   rw [hv.out] at HV7
   clear hv
   have HF:Hid (∀ w',RdSt w' rb s k4 → Calls Tryd.prog 46 #[.pointer (some (qa rb 0)),.int .i64 ((deep:Int) + 1)] w' (Failed rb s e0 w')):=HV7
   have hS0:(fun w':World => w'.cell? (qa rB 0) = some (.pointer (some (qa rb 0))) ∧ w'.cell? (qa dB 0) = some (.int .i64 deep) ∧ w'.cell? (qa nb 4) = some (.slice A ns.length c)) w6.drew:=⟨cr6,cd6,c46⟩
   refine wp_region_held_drew (S:=fun w':World => w'.cell? (qa rB 0) = some (.pointer (some (qa rb 0))) ∧ w'.cell? (qa dB 0) = some (.int .i64 deep) ∧ w'.cell? (qa nb 4) = some (.slice A ns.length c)) (by kernel_rfl) hS0 (fun hH => ?_)
   refine wpAnyH_take (i:=0) (v:=.pointer (some (qa nb 4))) rfl (by kernel_rfl) (by kernel_rfl) (by kernel_rfl) (fun _ _ _ hB => hB) (Or.inl ⟨by rfl,fun w9 hS9 => ?_⟩) hH ?_
   ·obtain ⟨s0,s1,s2⟩:=hS9
    go_simp
   try simp only [Act.put,List.setIfInBounds_toArray,List.set_cons_zero,List.set_cons_succ]
   refine wpAnyH_take (i:=1) (v:=.slice A ns.length c) rfl (by kernel_rfl) (by kernel_rfl) (by kernel_rfl) (fun _ _ _ hB => hB) (Or.inl ⟨by rfl,fun w9 hS9 => ?_⟩) hH ?_
   ·obtain ⟨s0,s1,s2⟩:=hS9
    go_simp
   try simp only [Act.put,List.setIfInBounds_toArray,List.set_cons_zero,List.set_cons_succ]
   refine wpAnyH_take (i:=2) (v:=.pointer (some (qa rb 0))) rfl (by kernel_rfl) (by kernel_rfl) (by kernel_rfl) (fun _ _ _ hB => hB) (Or.inl ⟨by rfl,fun w9 hS9 => ?_⟩) hH ?_
   ·obtain ⟨s0,s1,s2⟩:=hS9
    go_simp
   try simp only [Act.put,List.setIfInBounds_toArray,List.set_cons_zero,List.set_cons_succ]
   refine wpAnyH_take (i:=3) (v:=.int .i64 deep) rfl (by kernel_rfl) (by kernel_rfl) (by kernel_rfl) (fun _ _ _ hB => hB) (Or.inl ⟨by rfl,fun w9 hS9 => ?_⟩) hH ?_
   ·obtain ⟨s0,s1,s2⟩:=hS9
    go_simp
   try simp only [Act.put,List.setIfInBounds_toArray,List.set_cons_zero,List.set_cons_succ]
   refine wpAnyH_take (i:=4) (v:=.int .i64 ((deep:Int) + 1)) rfl (by kernel_rfl) (by kernel_rfl) (by kernel_rfl) (fun _ _ _ hB => hB) (Or.inl ⟨by rfl,fun w9 hS9 => ?_⟩) hH ?_
   ·obtain ⟨s0,s1,s2⟩:=hS9
    go_simp
   try simp only [Act.put,List.setIfInBounds_toArray,List.set_cons_zero,List.set_cons_succ]
   refine wpAnyH_take (i:=6) (v:=.int .i64 ns.length) rfl (by kernel_rfl) (by kernel_rfl) (by kernel_rfl) (fun _ _ _ hB => hB) (Or.inl ⟨by rfl,fun w9 hS9 => ?_⟩) hH ?_
   ·obtain ⟨s0,s1,s2⟩:=hS9
    go_simp
   try simp only [Act.put,List.setIfInBounds_toArray,List.set_cons_zero,List.set_cons_succ]
   refine wpAnyH_ready (rs:=[5,7]) (by kernel_rfl) (by simp) ?_
   refine AllReadyH.cons (o:=_) rfl (fun K hK => ?_) ?_
   ·clear hH
    go_simp
    go_at_call 46
    refine (HF.out _ R7.out.drew).mono ?_
    rintro e w1 ⟨rfl,g1,g2⟩
    go_wp2_with fail
    exact ⟨rfl,rfl,g1,I7.out.grow.trans ((grown_drew (grown_refl _ _)).trans g2)⟩
   refine AllReadyH.cons (o:=_) rfl (fun K hK => ?_) AllReadyH.nil
   go_simp
   refine hK.out _ _ ⟨(I7.out.rbox.drew.alloc _).cell 0,(I7.out.dbox.drew.alloc _).cell 0,(I7.out.node.drew.alloc _).cell 4⟩ (fun hH2 => ?_)
   clear hK K hH
   try simp only [Act.put,List.setIfInBounds_toArray,List.set_cons_zero,List.set_cons_succ]
   refine wpAnyH_ready (rs:=[5]) (by kernel_rfl) (by simp) ?_
   refine AllReadyH.cons (o:=_) rfl (fun K hK => ?_) AllReadyH.nil
   clear hH2
   go_simp
   go_at_call 46
   refine (HF.out _ (R7.out.drew.alloc _)).mono ?_
   rintro e w1 ⟨rfl,g1,g2⟩
   go_wp2_with fail
   exact ⟨rfl,rfl,g1,I7.out.grow.trans ((grown_alloc (grown_drew (grown_refl _ _)) _).trans g2)⟩
  | ok p =>
   obtain ⟨n,l⟩:=p
   have hv:=Lib.hid hv0
   clear hv0
   go_enter Tryd.func64,Tryd.ntmps64
   go_wp2_with fail
   refine HT.out.mono ?_
   rintro e w1 ⟨rfl,k1,g1,g2,g3,g4⟩
   have I1:Hid (OInv w0 nb rB dB rb hB deep ks ns w1 K kc A c ys):=OInv.next HI.out g4 h1 n1 n2 n3
   have R1:Hid (RdSt w1 rb s k1):=g3
   have L1:Hid (s.toList.drop k1 = r):=g2
   have c31:w1.cell? (qa nb 3) = some (.slice K ks.length kc):=I1.out.node.cell 3
   have c41:w1.cell? (qa nb 4) = some (.slice A ns.length c):=I1.out.node.cell 4
   have cr1:w1.cell? (qa rB 0) = some (.pointer (some (qa rb 0))):=I1.out.rbox.cell 0
   have cd1:w1.cell? (qa dB 0) = some (.int .i64 deep):=I1.out.dbox.cell 0
   clear g2 g3 g4
   go_wp2_with fail
   refine (contains_any ks ⟨t.toArray⟩ K kc w1.heap.size w1 (own_reads I1.out.keys) (by omega)).mono ?_
   rintro e w1' ⟨rfl,rfl⟩
   rw [HCB.out]
   go_wp2_with fail
   refine (blanks_any rb s k1 w1 R1.out g1 hs).mono ?_
   rw [L1.out]
   rintro e w2 ⟨rfl,k2,g6,g2,g3,g4⟩
   have I2:Hid (OInv w0 nb rB dB rb hB deep ks ns w2 K kc A c ys):=OInv.next I1.out g4 h1 n1 n2 n3
   have R2:Hid (RdSt w2 rb s k2):=g3
   have L2:Hid (s.toList.drop k2 = blanksL r):=g2
   have c32:w2.cell? (qa nb 3) = some (.slice K ks.length kc):=I2.out.node.cell 3
   have c42:w2.cell? (qa nb 4) = some (.slice A ns.length c):=I2.out.node.cell 4
   have cr2:w2.cell? (qa rB 0) = some (.pointer (some (qa rb 0))):=I2.out.rbox.cell 0
   have cd2:w2.cell? (qa dB 0) = some (.int .i64 deep):=I2.out.dbox.cell 0
   clear g2 g3 g4
   go_wp2_with fail
   refine (must_yes rb s _ k2 w2 R2.out g6 hs (by rw [L2.out];exact HYES.out)).mono ?_
   rw [L2.out]
   rintro e w3 ⟨rfl,k3,g7,g2,g3,g4⟩
   have I3:Hid (OInv w0 nb rB dB rb hB deep ks ns w3 K kc A c ys):=OInv.next I2.out g4 h1 n1 n2 n3
   have R3:Hid (RdSt w3 rb s k3):=g3
   have L3:Hid (s.toList.drop k3 = (blanksL r).drop 1):=g2
   have c33:w3.cell? (qa nb 3) = some (.slice K ks.length kc):=I3.out.node.cell 3
   have c43:w3.cell? (qa nb 4) = some (.slice A ns.length c):=I3.out.node.cell 4
   have cr3:w3.cell? (qa rB 0) = some (.pointer (some (qa rb 0))):=I3.out.rbox.cell 0
   have cd3:w3.cell? (qa dB 0) = some (.int .i64 deep):=I3.out.dbox.cell 0
   clear g2 g3 g4
   go_wp2_with fail
   refine (blanks_any rb s k3 w3 R3.out g7 hs).mono ?_
   rw [L3.out]
   rintro e w4 ⟨rfl,k4,g8,g2,g3,g4⟩
   have I4:Hid (OInv w0 nb rB dB rb hB deep ks ns w4 K kc A c ys):=OInv.next I3.out g4 h1 n1 n2 n3
   have R4:Hid (RdSt w4 rb s k4):=g3
   have L4:Hid (s.toList.drop k4 = blanksL ((blanksL r).drop 1)):=g2
   have c34:w4.cell? (qa nb 3) = some (.slice K ks.length kc):=I4.out.node.cell 3
   have c44:w4.cell? (qa nb 4) = some (.slice A ns.length c):=I4.out.node.cell 4
   have cr4:w4.cell? (qa rB 0) = some (.pointer (some (qa rb 0))):=I4.out.rbox.cell 0
   have cd4:w4.cell? (qa dB 0) = some (.int .i64 deep):=I4.out.dbox.cell 0
   clear g2 g3 g4
   have fz:=I4.out.node.frozen 3
   have y9:w4.frozen? (qa nb 3) = false:=fz
   go_wp2_with (at_builtin;refine wpList_pushStr _ rfl _ _ rfl hB _ ks.length _ rfl I4.out.keys ⟨t.toArray⟩ (by first | rfl | simp [Act.eval]) (by omega) I4.out.size ?_;intro v5 w5 p1 p2 p3;obtain ⟨g,cp,rfl,hg1,hg2⟩:=World.ownsRow.form p1 (by omega);have P1:=Lib.hid p1;have P2:=Lib.hid p2;have P3:=Lib.hid p3;have KB:∀ g,(Value.slice K ks.length kc).ownBlock = some g → hB ≤ g ∧ g < w4.heap.size:=fun g hg => own_lt I4.out.keys hg;have q1:Hid (Blk w5 nb 25 #[.int .i64 7,.int .i64 0,.string ⟨#[]⟩,.slice K ks.length kc,.slice A ns.length c]):=(I4.out.node.alloc _).grown p2 (fun e => by have:=(KB nb e.symm).1;omega);have y1:w5.cell? (qa nb 3) = some (.slice K ks.length kc):=q1.out.cell 3;have y2:w5.frozen? (qa nb 3) = false:=q1.out.frozen 3;have y3:w5.cell? (qa rB 0) = some (.pointer (some (qa rb 0))):=((I4.out.rbox.alloc _).grown p2 (fun e => by have:=(KB rB e.symm).1;omega)).cell 0;have I6:Hid (OInv w0 nb rB dB rb hB deep (ks ++ [⟨t.toArray⟩]) ns (w5.setCell (qa nb 3) (.slice (some (qa g 0)) (ks.length + 1) cp)) (some (qa g 0)) cp A c ys ∧ ∀ b,b < hB → b ≠ nb → (w5.setCell (qa nb 3) (.slice (some (qa g 0)) (ks.length + 1) cp)).heap[b]? = w4.heap[b]?):=OInv.key I4.out (grown_alloc (grown_refl _ _) _) p1 hg1 p2 p3 h0 h1 h2 h3 h4 n1 n4 n5;clear p1 p2 p3 KB)
   obtain ⟨K2,kc2,I7⟩:∃ K2 kc2,Hid (OInv w0 nb rB dB rb hB deep (ks ++ [(⟨t.toArray⟩:ByteArray)]) ns (w5.setCell (qa nb 3) (.slice (some (qa g 0)) (ks.length + 1) cp)) K2 kc2 A c ys):=⟨some (qa g 0),cp,Lib.hid I6.out.1⟩
   have R7:Hid (RdSt (w5.setCell (qa nb 3) (.slice (some (qa g 0)) (ks.length + 1) cp)) rb s k4):=(I6.out.2 rb h1 n1.symm).trans R4.out
   clear I6 q1 y1 y2 P1 P2 P3
   generalize w5.setCell (qa nb 3) (.slice (some (qa g 0)) (ks.length + 1) cp) = w6 at I7 R7 ⊢
   have c46:w6.cell? (qa nb 4) = some (.slice A ns.length c):=I7.out.node.cell 4
   have cr6:w6.cell? (qa rB 0) = some (.pointer (some (qa rb 0))):=I7.out.rbox.cell 0
   have cd6:w6.cell? (qa dB 0) = some (.int .i64 deep):=I7.out.dbox.cell 0
   have hsz6:=I7.out.size
   have hk4:k ≤ k4:=by
    have e1:=congrArg List.length L4.out
    have e2:=blanksL_le ((blanksL r).drop 1)
    have e3:=blanksL_le r
    have e4:=HR.out.2
    simp only [List.length_drop,tl_len'] at e1 e2 e4
    omega
   have x1:IntKind.i64.wrap ((deep:Int) + 1) = (deep:Int) + 1:=IntWalk.i64_in _ (by omega)
   have e7:s.toList.drop k4 = blanksL (blanksL r).tail:=by rw [L4.out,List.drop_one]
   have HV7:Hid (∀ w',RdSt w' rb s k4 → Calls Tryd.prog 46 #[.pointer (some (qa rb 0)),.int .i64 ((deep:Int) + 1)] w' (ValEnd rb s (valL (deep + 1) (blanksL (blanksL r).tail)) w')):=fun w' hw' => by
    have:=HV.out k4 w' hk4 g8 hw'
    unfold ValC at this
    rw [e7] at this
    exact this
   clear e7
   rw [hv.out] at HV7
   clear hv
   have HF:Hid (∀ w',RdSt w' rb s k4 → Calls Tryd.prog 46 #[.pointer (some (qa rb 0)),.int .i64 ((deep:Int) + 1)] w' (ValEnd rb s (.ok (n,l)) w')):=HV7
   have HO:Hid (∀ g,(Value.slice A ns.length c).ownBlock = some g → hB ≤ g ∧ g < w6.heap.size):=Lib.hid (fun g hg => own_lt I7.out.own hg)
   have HOK:Hid (∀ g,(Value.slice K2 (ks ++ [(⟨t.toArray⟩:ByteArray)]).length kc2).ownBlock = some g → hB ≤ g ∧ g < w6.heap.size):=Lib.hid (fun g hg => own_lt I7.out.keys hg)
   have hl5:ys.length = ns.length * 5:=I7.out.kids.len
   refine wp_region_held_drew (S:=fun w':World => w'.cell? (qa rB 0) = some (.pointer (some (qa rb 0))) ∧ w'.cell? (qa dB 0) = some (.int .i64 deep)) (by kernel_rfl) ⟨cr6,cd6⟩ (fun hH => ?_)
   refine wpAnyH_take (i:=0) (v:=.pointer (some (qa nb 4))) rfl (by kernel_rfl) (by kernel_rfl) (by kernel_rfl) (fun _ _ _ hB => hB) (Or.inl ⟨by rfl,fun w9 hS9 => ?_⟩) hH ?_
   ·obtain ⟨s0,s1⟩:=hS9
    go_simp
   try simp only [Act.put,List.setIfInBounds_toArray,List.set_cons_zero,List.set_cons_succ]
   refine wpAnyH_take (i:=2) (v:=.pointer (some (qa rb 0))) rfl (by kernel_rfl) (by kernel_rfl) (by kernel_rfl) (fun _ _ _ hB => hB) (Or.inl ⟨by rfl,fun w9 hS9 => ?_⟩) hH ?_
   ·obtain ⟨s0,s1⟩:=hS9
    go_simp
   try simp only [Act.put,List.setIfInBounds_toArray,List.set_cons_zero,List.set_cons_succ]
   refine wpAnyH_take (i:=3) (v:=.int .i64 deep) rfl (by kernel_rfl) (by kernel_rfl) (by kernel_rfl) (fun _ _ _ hB => hB) (Or.inl ⟨by rfl,fun w9 hS9 => ?_⟩) hH ?_
   ·obtain ⟨s0,s1⟩:=hS9
    go_simp
   try simp only [Act.put,List.setIfInBounds_toArray,List.set_cons_zero,List.set_cons_succ]
   refine wpAnyH_take (i:=4) (v:=.int .i64 ((deep:Int) + 1)) rfl (by kernel_rfl) (by kernel_rfl) (by kernel_rfl) (fun _ _ _ hB => hB) (Or.inl ⟨by rfl,fun w9 hS9 => ?_⟩) hH ?_
   ·obtain ⟨s0,s1⟩:=hS9
    go_simp
   try simp only [Act.put,List.setIfInBounds_toArray,List.set_cons_zero,List.set_cons_succ]
   refine wpAnyH_ready (rs:=[1,5,7]) (by kernel_rfl) (by simp) ?_
   refine AllReadyH.cons (o:=_) rfl (fun K hK => ?_) ?_
   ·
    go_simp
    refine hK.out _ _ hH (fun hH9 => ?_)
    clear hK K hH
    have hH:=hH9
    clear hH9
    try simp only [Act.put,List.setIfInBounds_toArray,List.set_cons_zero,List.set_cons_succ]
    refine wpAnyH_take (i:=6) (v:=.int .i64 ns.length) rfl (by kernel_rfl) (by kernel_rfl) (by kernel_rfl) (fun _ _ _ hB => hB) (Or.inl ⟨by rfl,fun w9 hS9 => ?_⟩) hH ?_
    ·obtain ⟨s0,s1⟩:=hS9
     go_simp
    try simp only [Act.put,List.setIfInBounds_toArray,List.set_cons_zero,List.set_cons_succ]
    refine wpAnyH_ready (rs:=[5,7]) (by kernel_rfl) (by simp) ?_
    refine AllReadyH.cons (o:=_) rfl (fun K hK => ?_) ?_
    ·
     go_simp
     go_at_call 46
     refine (HF.out _ (R7.out.drew)).mono ?_
     rintro e w1 ⟨c0,c1,c2,c3,c4,c5,c6,c7,c8,rfl,g1,k9,g2,g3,g4,g5⟩
     have G1:Hid (Got w6.heap.size w1 n (nL c0 c1 c2 c3 c4 c5 c6 c7 c8)):=NdIn.keep (fun _ _ => rfl) (fun b hb => ⟨by have:=hb.1;simp at this;omega,hb.2⟩) _ _ g1
     have I1:Hid (OInv w0 nb rB dB rb hB deep (ks ++ [(⟨t.toArray⟩:ByteArray)]) ns w1 K2 kc2 A c ys):=OInv.next I7.out (grown_drew (grown_refl _ _) |>.trans g5) h1 n1 n2 n3
     have R1:Hid (RdSt w1 rb s k9):=g4
     have Q1:Hid (k9 ≤ s.size ∧ s.toList.drop k9 = l):=⟨g2,g3⟩
     have S1:w6.heap.size ≤ w1.heap.size:=by have:=g5.size;simp at this;omega
     have a6:w1.cell? (qa nb 4) = some (.slice A ns.length c):=I1.out.node.cell 4
     clear g1 g2 g3 g4 g5
     go_wp2_with fail
     refine hK.out _ _ ⟨I1.out.rbox.cell 0,I1.out.dbox.cell 0⟩ (fun hH9 => ?_)
     clear hK K hH
     have hH:=hH9
     clear hH9
     try simp only [Act.put,List.setIfInBounds_toArray,List.set_cons_zero,List.set_cons_succ]
     refine wpAnyH_ready (rs:=[7]) (by kernel_rfl) (by simp) ?_
     refine AllReadyH.cons (o:=_) rfl (fun K hK => ?_) AllReadyH.nil
     go_simp
     refine hK.out _ _ ⟨(I1.out.rbox.alloc _).cell 0,(I1.out.dbox.alloc _).cell 0⟩ (fun hH9 => ?_)
     clear hK K hH
     have hH:=hH9
     clear hH9
     try simp only [Act.put,List.setIfInBounds_toArray,List.set_cons_zero,List.set_cons_succ]
     have a5:(w1.alloc (Obj.cells Zn 25)).cell? (qa nb 4) = some (.slice A ns.length c):=(I1.out.node.alloc _).cell 4
     have I2:Hid (OInv w0 nb rB dB rb hB deep (ks ++ [(⟨t.toArray⟩:ByteArray)]) ns (w1.alloc (Obj.cells Zn 25)) K2 kc2 A c ys):=OInv.next I1.out (grown_alloc (grown_refl _ _) _) h1 n1 n2 n3
     have G2:Hid (Got w6.heap.size (w1.alloc (Obj.cells Zn 25)) n (nL c0 c1 c2 c3 c4 c5 c6 c7 c8)):=G1.out.alloc _
     have R2:Hid (RdSt (w1.alloc (Obj.cells Zn 25)) rb s k9):=R1.out.alloc _
     have Z2:Hid (Reads (w1.alloc (Obj.cells Zn 25)) (w1.heap.size + 1) 5 (some (qa w1.heap.size 0)) 1 zero5):=zero_reads (Blk.new _ _ _)
     refine wpAnyH_ready (rs:=[8]) (by kernel_rfl) (by simp) ?_
     refine AllReadyH.cons (o:=_) rfl (fun K hK => ?_) AllReadyH.nil
     refine step_pushNd rfl _ _ rfl hB (.slice A ns.length c) ns.length ys (by first | rfl | simp [Act.eval]) I2.out.own (w1.heap.size + 1) (some (qa w1.heap.size 0)) 1 zero5 (by first | rfl | simp [Act.eval]) Z2.out (by intro u hu;simp [zero5] at hu;rcases hu with rfl | rfl | rfl | rfl <;> rfl) (by omega) I2.out.size (fun v' w3 p1 p2 p3 => ?_)
     obtain ⟨g9,cp9,rfl,hg19,hg29⟩:=World.ownsRow.form p1 (by omega)
     have P1:Hid (w3.ownsRow hB 25 5 (.slice (some (qa g9 0)) (ns.length + 1) cp9) (ns.length + 1) (ys ++ [.int .i64 0,.int .i64 0,.string ⟨#[]⟩,.slice none 0 0,.slice none 0 0])):=p1
     have P2:=Lib.hid p2
     have P3:=Lib.hid p3
     have q1:Hid (Blk w3 nb 25 #[.int .i64 7,.int .i64 0,.string ⟨#[]⟩,.slice K2 (ks ++ [(⟨t.toArray⟩:ByteArray)]).length kc2,.slice A ns.length c]):=I2.out.node.grown p2 (fun e => by have:=(HO.out nb e.symm).1;omega)
     have q2:Hid (Blk w3 rB 75 #[.pointer (some (qa rb 0))]):=I2.out.rbox.grown p2 (fun e => by have:=(HO.out rB e.symm).1;omega)
     have q3:Hid (Blk w3 dB 3 #[.int .i64 deep]):=I2.out.dbox.grown p2 (fun e => by have:=(HO.out dB e.symm).1;omega)
     have z0:w3.cell? (qa g9 (ns.length * 5)) = some (.int .i64 0):=(World.ownsRow.cellAt P1.out _ (by omega)).trans (by rw [← hl5];simp [zero5])
     have z1:w3.cell? (qa g9 (ns.length * 5 + 1)) = some (.int .i64 0):=(World.ownsRow.cellAt P1.out _ (by omega)).trans (by rw [← hl5];simp [zero5])
     have z2:w3.cell? (qa g9 (ns.length * 5 + 2)) = some (.string ⟨#[]⟩):=(World.ownsRow.cellAt P1.out _ (by omega)).trans (by rw [← hl5];simp [zero5])
     have z3:w3.cell? (qa g9 (ns.length * 5 + 3)) = some (.slice none 0 0):=(World.ownsRow.cellAt P1.out _ (by omega)).trans (by rw [← hl5];simp [zero5])
     have z4:w3.cell? (qa g9 (ns.length * 5 + 4)) = some (.slice none 0 0):=(World.ownsRow.cellAt P1.out _ (by omega)).trans (by rw [← hl5];simp [zero5])
     have f0:=World.ownsRow.frozenAt P1.out (ns.length * 5)
     have f1:=World.ownsRow.frozenAt P1.out (ns.length * 5 + 1)
     have f2:=World.ownsRow.frozenAt P1.out (ns.length * 5 + 2)
     have f3:=World.ownsRow.frozenAt P1.out (ns.length * 5 + 3)
     have f4:=World.ownsRow.frozenAt P1.out (ns.length * 5 + 4)
     have y0:w3.cell? (qa nb 4) = some (.slice A ns.length c):=q1.out.cell 4
     have y1:=q1.out.frozen 4
     clear p1 p2 p3
     refine hK.out _ _ ⟨q2.out.cell 0,q3.out.cell 0⟩ (fun hH9 => ?_)
     clear hK K hH
     have hH:=hH9
     clear hH9
     try simp only [Act.put,List.setIfInBounds_toArray,List.set_cons_zero,List.set_cons_succ]
     refine wpAnyH_take (i:=9) (v:=.pointer (some (qa g9 (ns.length * 5)))) rfl (by kernel_rfl) (by kernel_rfl) (by kernel_rfl) (fun _ _ _ hB => hB) (Or.inl ⟨by rfl,fun w9 hS9 => ?_⟩) hH ?_
     ·obtain ⟨s0,s1⟩:=hS9
      go_simp
      intro hq
      exact absurd hq (by omega)
     try simp only [Act.put,List.setIfInBounds_toArray,List.set_cons_zero,List.set_cons_succ]
     refine wpAnyH_take (i:=11) (v:=.pointer (some (qa nb 4))) rfl (by kernel_rfl) (by kernel_rfl) (by kernel_rfl) (fun _ _ _ hB => hB) (Or.inl ⟨by rfl,fun w9 hS9 => ?_⟩) hH ?_
     ·obtain ⟨s0,s1⟩:=hS9
      go_simp
     try simp only [Act.put,List.setIfInBounds_toArray,List.set_cons_zero,List.set_cons_succ]
     refine wpAnyH_ready (rs:=[10,12]) (by kernel_rfl) (by simp) ?_
     refine AllReadyH.cons (o:=_) rfl (fun K hK => ?_) ?_
     ·go_simp
      have o4:=own_last (v0:=.int .i64 c0) (v1:=.int .i64 c1) (v2:=.string c2) (v3:=.slice c3 c4 c5) (v4:=.slice c6 c7 c8) P1.out hl5
      have q4:=q1.out.grown o4.2 (by simp;omega)
      have q5:=q2.out.grown o4.2 (by simp;omega)
      have q6:=q3.out.grown o4.2 (by simp;omega)
      refine hK.out _ _ ⟨q5.cell 0,q6.cell 0⟩ (fun hH9 => ?_)
      clear hK K hH
      have hH:=hH9
      clear hH9
      generalize (((((w3.setCell (qa g9 (ns.length * 5)) (.int .i64 c0)).setCell (qa g9 (ns.length * 5 + 1)) (.int .i64 c1)).setCell (qa g9 (ns.length * 5 + 2)) (.string c2)).setCell (qa g9 (ns.length * 5 + 3)) (.slice c3 c4 c5)).setCell (qa g9 (ns.length * 5 + 4)) (.slice c6 c7 c8)) = w4 at o4 q4 q5 q6 hH ⊢
      try simp only [Act.put,List.setIfInBounds_toArray,List.set_cons_zero,List.set_cons_succ]
      have y2:w4.cell? (qa nb 4) = some (.slice A ns.length c):=q4.cell 4
      have y3:=q4.frozen 4
      have O4:=Lib.hid o4
      have Q4:=Lib.hid q4
      have Q5:=Lib.hid q5
      have Q6:=Lib.hid q6
      clear o4 q4 q5 q6
      refine wpAnyH_ready (rs:=[12]) (by kernel_rfl) (by simp) ?_
      refine AllReadyH.cons (o:=_) rfl (fun K hK => ?_) AllReadyH.nil
      go_simp
      refine hK.out _ _ ⟨(Q5.out.far (by simp;omega) _).cell 0,(Q6.out.far (by simp;omega) _).cell 0⟩ (fun hH9 => ?_)
      clear hK K hH hH9
      refine wpAnyH_done (by kernel_rfl) ?_ _
      go_wp2_with fail
      have E5:=OInv.push I2.out (fun g hg => (HO.out g hg).2) (fun g hg => (HOK.out g hg).2) hsz6 G2.out P2.out P3.out O4.out.2 (grown_set (grown_refl w4 (some nb)) 4 (.slice (some (qa g9 0)) (ns.length + 1) cp9)) (.inl rfl) (.inr rfl) hg19 (ownsRow_setCell_below O4.out.1 h2 _) (Q4.out.set_ 4 _) h0 h1 h2 h3 h4 n1 n4 n5
      exact ⟨rfl,.tuple #[],results_none rfl _ _ _,rfl,⟨_,_,_,_,_,E5.1⟩,k9,Q1.out.1,Q1.out.2,(E5.2 rb h1 n1.symm).trans R2.out⟩
     refine AllReadyH.cons (o:=_) rfl (fun K hK => ?_) AllReadyH.nil
     go_simp
     have o4:=ownsRow_setCell_below P1.out (a:=(qa nb 4)) h2 (.slice (some (qa g9 0)) (ns.length + 1) cp9)
     have q4:=q1.out.set_ 4 (.slice (some (qa g9 0)) (ns.length + 1) cp9)
     have q5:=q2.out.far (p:=(qa nb 4)) (by simp;omega) (.slice (some (qa g9 0)) (ns.length + 1) cp9)
     have q6:=q3.out.far (p:=(qa nb 4)) (by simp;omega) (.slice (some (qa g9 0)) (ns.length + 1) cp9)
     have o5:=grown_set (grown_refl w3 (some nb)) 4 (.slice (some (qa g9 0)) (ns.length + 1) cp9)
     refine hK.out _ _ ⟨q5.cell 0,q6.cell 0⟩ (fun hH9 => ?_)
     clear hK K hH
     have hH:=hH9
     clear hH9
     generalize w3.setCell (qa nb 4) (.slice (some (qa g9 0)) (ns.length + 1) cp9) = w4 at o4 o5 q4 q5 q6 hH ⊢
     try simp only [Act.put,List.setIfInBounds_toArray,List.set_cons_zero,List.set_cons_succ]
     have O4:=Lib.hid o4
     have O5:=Lib.hid o5
     have Q4:=Lib.hid q4
     have Q5:=Lib.hid q5
     have Q6:=Lib.hid q6
     clear o4 o5 q4 q5 q6 z0 z1 z2 z3 z4 f0 f1 f2 f3 f4
     have z0:w4.cell? (qa g9 (ns.length * 5)) = some (.int .i64 0):=(World.ownsRow.cellAt O4.out _ (by omega)).trans (by rw [← hl5];simp [zero5])
     have z1:w4.cell? (qa g9 (ns.length * 5 + 1)) = some (.int .i64 0):=(World.ownsRow.cellAt O4.out _ (by omega)).trans (by rw [← hl5];simp [zero5])
     have z2:w4.cell? (qa g9 (ns.length * 5 + 2)) = some (.string ⟨#[]⟩):=(World.ownsRow.cellAt O4.out _ (by omega)).trans (by rw [← hl5];simp [zero5])
     have z3:w4.cell? (qa g9 (ns.length * 5 + 3)) = some (.slice none 0 0):=(World.ownsRow.cellAt O4.out _ (by omega)).trans (by rw [← hl5];simp [zero5])
     have z4:w4.cell? (qa g9 (ns.length * 5 + 4)) = some (.slice none 0 0):=(World.ownsRow.cellAt O4.out _ (by omega)).trans (by rw [← hl5];simp [zero5])
     have f0:=World.ownsRow.frozenAt O4.out (ns.length * 5)
     have f1:=World.ownsRow.frozenAt O4.out (ns.length * 5 + 1)
     have f2:=World.ownsRow.frozenAt O4.out (ns.length * 5 + 2)
     have f3:=World.ownsRow.frozenAt O4.out (ns.length * 5 + 3)
     have f4:=World.ownsRow.frozenAt O4.out (ns.length * 5 + 4)
     refine wpAnyH_ready (rs:=[10]) (by kernel_rfl) (by simp) ?_
     refine AllReadyH.cons (o:=_) rfl (fun K hK => ?_) AllReadyH.nil
     go_simp
     have o6:=own_last (v0:=.int .i64 c0) (v1:=.int .i64 c1) (v2:=.string c2) (v3:=.slice c3 c4 c5) (v4:=.slice c6 c7 c8) O4.out hl5
     refine hK.out _ _ ⟨(Q5.out.grown o6.2 (by simp;omega)).cell 0,(Q6.out.grown o6.2 (by simp;omega)).cell 0⟩ (fun hH9 => ?_)
     clear hK K hH hH9
     refine wpAnyH_done (by kernel_rfl) ?_ _
     have E5:=Lib.hid (OInv.push I2.out (fun g hg => (HO.out g hg).2) (fun g hg => (HOK.out g hg).2) hsz6 G2.out P2.out P3.out O5.out o6.2 (.inr rfl) (.inl rfl) hg19 o6.1 (Q4.out.grown o6.2 (by simp;omega)) h0 h1 h2 h3 h4 n1 n4 n5)
     clear o6
     go_wp2_with fail
     exact ⟨rfl,.tuple #[],results_none rfl _ _ _,rfl,⟨_,_,_,_,_,E5.out.1⟩,k9,Q1.out.1,Q1.out.2,(E5.out.2 rb h1 n1.symm).trans R2.out⟩
    refine AllReadyH.cons (o:=_) rfl (fun K hK => ?_) AllReadyH.nil
    go_simp
    refine hK.out _ _ ⟨(I7.out.rbox.drew.alloc _).cell 0,(I7.out.dbox.drew.alloc _).cell 0⟩ (fun hH9 => ?_)
    clear hK K hH
    have hH:=hH9
    clear hH9
    try simp only [Act.put,List.setIfInBounds_toArray,List.set_cons_zero,List.set_cons_succ]
    have a5:(w6.alloc (Obj.cells Zn 25)).cell? (qa nb 4) = some (.slice A ns.length c):=(I7.out.node.drew.alloc _).cell 4
    refine wpAnyH_ready (rs:=[5]) (by kernel_rfl) (by simp) ?_
    refine AllReadyH.cons (o:=_) rfl (fun K hK => ?_) AllReadyH.nil
    go_simp
    go_at_call 46
    refine (HF.out _ (R7.out.drew.alloc _)).mono ?_
    rintro e w1 ⟨c0,c1,c2,c3,c4,c5,c6,c7,c8,rfl,g1,k9,g2,g3,g4,g5⟩
    have G1:Hid (Got w6.heap.size w1 n (nL c0 c1 c2 c3 c4 c5 c6 c7 c8)):=NdIn.keep (fun _ _ => rfl) (fun b hb => ⟨by have:=hb.1;simp at this;omega,hb.2⟩) _ _ g1
    have I1:Hid (OInv w0 nb rB dB rb hB deep (ks ++ [(⟨t.toArray⟩:ByteArray)]) ns w1 K2 kc2 A c ys):=OInv.next I7.out (grown_alloc (grown_drew (grown_refl _ _)) _ |>.trans g5) h1 n1 n2 n3
    have R1:Hid (RdSt w1 rb s k9):=g4
    have Q1:Hid (k9 ≤ s.size ∧ s.toList.drop k9 = l):=⟨g2,g3⟩
    have S1:w6.heap.size ≤ w1.heap.size:=by have:=g5.size;simp at this;omega
    have a6:w1.cell? (qa nb 4) = some (.slice A ns.length c):=I1.out.node.cell 4
    have Z1:Hid (Blk w1 w6.heap.size 25 zero5.toArray):=Blk.grown (Blk.new w6.drew 25 zero5.toArray) g5 (by have:=R7.out.lt;simp;omega)
    clear g1 g2 g3 g4 g5
    go_wp2_with fail
    refine hK.out _ _ ⟨I1.out.rbox.cell 0,I1.out.dbox.cell 0⟩ (fun hH9 => ?_)
    clear hK K hH
    have hH:=hH9
    clear hH9
    try simp only [Act.put,List.setIfInBounds_toArray,List.set_cons_zero,List.set_cons_succ]
    have I2:=I1
    have G2:=G1
    have R2:=R1
    have Z2:Hid (Reads w1 (w6.heap.size + 1) 5 (some (qa w6.heap.size 0)) 1 zero5):=zero_reads Z1.out
    refine wpAnyH_ready (rs:=[8]) (by kernel_rfl) (by simp) ?_
    refine AllReadyH.cons (o:=_) rfl (fun K hK => ?_) AllReadyH.nil
    refine step_pushNd rfl _ _ rfl hB (.slice A ns.length c) ns.length ys (by first | rfl | simp [Act.eval]) I2.out.own (w6.heap.size + 1) (some (qa w6.heap.size 0)) 1 zero5 (by first | rfl | simp [Act.eval]) Z2.out (by intro u hu;simp [zero5] at hu;rcases hu with rfl | rfl | rfl | rfl <;> rfl) (by omega) I2.out.size (fun v' w3 p1 p2 p3 => ?_)
    obtain ⟨g9,cp9,rfl,hg19,hg29⟩:=World.ownsRow.form p1 (by omega)
    have P1:Hid (w3.ownsRow hB 25 5 (.slice (some (qa g9 0)) (ns.length + 1) cp9) (ns.length + 1) (ys ++ [.int .i64 0,.int .i64 0,.string ⟨#[]⟩,.slice none 0 0,.slice none 0 0])):=p1
    have P2:=Lib.hid p2
    have P3:=Lib.hid p3
    have q1:Hid (Blk w3 nb 25 #[.int .i64 7,.int .i64 0,.string ⟨#[]⟩,.slice K2 (ks ++ [(⟨t.toArray⟩:ByteArray)]).length kc2,.slice A ns.length c]):=I2.out.node.grown p2 (fun e => by have:=(HO.out nb e.symm).1;omega)
    have q2:Hid (Blk w3 rB 75 #[.pointer (some (qa rb 0))]):=I2.out.rbox.grown p2 (fun e => by have:=(HO.out rB e.symm).1;omega)
    have q3:Hid (Blk w3 dB 3 #[.int .i64 deep]):=I2.out.dbox.grown p2 (fun e => by have:=(HO.out dB e.symm).1;omega)
    have z0:w3.cell? (qa g9 (ns.length * 5)) = some (.int .i64 0):=(World.ownsRow.cellAt P1.out _ (by omega)).trans (by rw [← hl5];simp [zero5])
    have z1:w3.cell? (qa g9 (ns.length * 5 + 1)) = some (.int .i64 0):=(World.ownsRow.cellAt P1.out _ (by omega)).trans (by rw [← hl5];simp [zero5])
    have z2:w3.cell? (qa g9 (ns.length * 5 + 2)) = some (.string ⟨#[]⟩):=(World.ownsRow.cellAt P1.out _ (by omega)).trans (by rw [← hl5];simp [zero5])
    have z3:w3.cell? (qa g9 (ns.length * 5 + 3)) = some (.slice none 0 0):=(World.ownsRow.cellAt P1.out _ (by omega)).trans (by rw [← hl5];simp [zero5])
    have z4:w3.cell? (qa g9 (ns.length * 5 + 4)) = some (.slice none 0 0):=(World.ownsRow.cellAt P1.out _ (by omega)).trans (by rw [← hl5];simp [zero5])
    have f0:=World.ownsRow.frozenAt P1.out (ns.length * 5)
    have f1:=World.ownsRow.frozenAt P1.out (ns.length * 5 + 1)
    have f2:=World.ownsRow.frozenAt P1.out (ns.length * 5 + 2)
    have f3:=World.ownsRow.frozenAt P1.out (ns.length * 5 + 3)
    have f4:=World.ownsRow.frozenAt P1.out (ns.length * 5 + 4)
    have y0:w3.cell? (qa nb 4) = some (.slice A ns.length c):=q1.out.cell 4
    have y1:=q1.out.frozen 4
    clear p1 p2 p3
    refine hK.out _ _ ⟨q2.out.cell 0,q3.out.cell 0⟩ (fun hH9 => ?_)
    clear hK K hH
    have hH:=hH9
    clear hH9
    try simp only [Act.put,List.setIfInBounds_toArray,List.set_cons_zero,List.set_cons_succ]
    refine wpAnyH_take (i:=9) (v:=.pointer (some (qa g9 (ns.length * 5)))) rfl (by kernel_rfl) (by kernel_rfl) (by kernel_rfl) (fun _ _ _ hB => hB) (Or.inl ⟨by rfl,fun w9 hS9 => ?_⟩) hH ?_
    ·obtain ⟨s0,s1⟩:=hS9
     go_simp
     intro hq
     exact absurd hq (by omega)
    try simp only [Act.put,List.setIfInBounds_toArray,List.set_cons_zero,List.set_cons_succ]
    refine wpAnyH_take (i:=11) (v:=.pointer (some (qa nb 4))) rfl (by kernel_rfl) (by kernel_rfl) (by kernel_rfl) (fun _ _ _ hB => hB) (Or.inl ⟨by rfl,fun w9 hS9 => ?_⟩) hH ?_
    ·obtain ⟨s0,s1⟩:=hS9
     go_simp
    try simp only [Act.put,List.setIfInBounds_toArray,List.set_cons_zero,List.set_cons_succ]
    refine wpAnyH_ready (rs:=[10,12]) (by kernel_rfl) (by simp) ?_
    refine AllReadyH.cons (o:=_) rfl (fun K hK => ?_) ?_
    ·go_simp
     have o4:=own_last (v0:=.int .i64 c0) (v1:=.int .i64 c1) (v2:=.string c2) (v3:=.slice c3 c4 c5) (v4:=.slice c6 c7 c8) P1.out hl5
     have q4:=q1.out.grown o4.2 (by simp;omega)
     have q5:=q2.out.grown o4.2 (by simp;omega)
     have q6:=q3.out.grown o4.2 (by simp;omega)
     refine hK.out _ _ ⟨q5.cell 0,q6.cell 0⟩ (fun hH9 => ?_)
     clear hK K hH
     have hH:=hH9
     clear hH9
     generalize (((((w3.setCell (qa g9 (ns.length * 5)) (.int .i64 c0)).setCell (qa g9 (ns.length * 5 + 1)) (.int .i64 c1)).setCell (qa g9 (ns.length * 5 + 2)) (.string c2)).setCell (qa g9 (ns.length * 5 + 3)) (.slice c3 c4 c5)).setCell (qa g9 (ns.length * 5 + 4)) (.slice c6 c7 c8)) = w4 at o4 q4 q5 q6 hH ⊢
     try simp only [Act.put,List.setIfInBounds_toArray,List.set_cons_zero,List.set_cons_succ]
     have y2:w4.cell? (qa nb 4) = some (.slice A ns.length c):=q4.cell 4
     have y3:=q4.frozen 4
     have O4:=Lib.hid o4
     have Q4:=Lib.hid q4
     have Q5:=Lib.hid q5
     have Q6:=Lib.hid q6
     clear o4 q4 q5 q6
     refine wpAnyH_ready (rs:=[12]) (by kernel_rfl) (by simp) ?_
     refine AllReadyH.cons (o:=_) rfl (fun K hK => ?_) AllReadyH.nil
     go_simp
     refine hK.out _ _ ⟨(Q5.out.far (by simp;omega) _).cell 0,(Q6.out.far (by simp;omega) _).cell 0⟩ (fun hH9 => ?_)
     clear hK K hH hH9
     refine wpAnyH_done (by kernel_rfl) ?_ _
     go_wp2_with fail
     have E5:=OInv.push I2.out (fun g hg => (HO.out g hg).2) (fun g hg => (HOK.out g hg).2) hsz6 G2.out P2.out P3.out O4.out.2 (grown_set (grown_refl w4 (some nb)) 4 (.slice (some (qa g9 0)) (ns.length + 1) cp9)) (.inl rfl) (.inr rfl) hg19 (ownsRow_setCell_below O4.out.1 h2 _) (Q4.out.set_ 4 _) h0 h1 h2 h3 h4 n1 n4 n5
     exact ⟨rfl,.tuple #[],results_none rfl _ _ _,rfl,⟨_,_,_,_,_,E5.1⟩,k9,Q1.out.1,Q1.out.2,(E5.2 rb h1 n1.symm).trans R2.out⟩
    refine AllReadyH.cons (o:=_) rfl (fun K hK => ?_) AllReadyH.nil
    go_simp
    have o4:=ownsRow_setCell_below P1.out (a:=(qa nb 4)) h2 (.slice (some (qa g9 0)) (ns.length + 1) cp9)
    have q4:=q1.out.set_ 4 (.slice (some (qa g9 0)) (ns.length + 1) cp9)
    have q5:=q2.out.far (p:=(qa nb 4)) (by simp;omega) (.slice (some (qa g9 0)) (ns.length + 1) cp9)
    have q6:=q3.out.far (p:=(qa nb 4)) (by simp;omega) (.slice (some (qa g9 0)) (ns.length + 1) cp9)
    have o5:=grown_set (grown_refl w3 (some nb)) 4 (.slice (some (qa g9 0)) (ns.length + 1) cp9)
    refine hK.out _ _ ⟨q5.cell 0,q6.cell 0⟩ (fun hH9 => ?_)
    clear hK K hH
    have hH:=hH9
    clear hH9
    generalize w3.setCell (qa nb 4) (.slice (some (qa g9 0)) (ns.length + 1) cp9) = w4 at o4 o5 q4 q5 q6 hH ⊢
    try simp only [Act.put,List.setIfInBounds_toArray,List.set_cons_zero,List.set_cons_succ]
    have O4:=Lib.hid o4
    have O5:=Lib.hid o5
    have Q4:=Lib.hid q4
    have Q5:=Lib.hid q5
    have Q6:=Lib.hid q6
    clear o4 o5 q4 q5 q6 z0 z1 z2 z3 z4 f0 f1 f2 f3 f4
    have z0:w4.cell? (qa g9 (ns.length * 5)) = some (.int .i64 0):=(World.ownsRow.cellAt O4.out _ (by omega)).trans (by rw [← hl5];simp [zero5])
    have z1:w4.cell? (qa g9 (ns.length * 5 + 1)) = some (.int .i64 0):=(World.ownsRow.cellAt O4.out _ (by omega)).trans (by rw [← hl5];simp [zero5])
    have z2:w4.cell? (qa g9 (ns.length * 5 + 2)) = some (.string ⟨#[]⟩):=(World.ownsRow.cellAt O4.out _ (by omega)).trans (by rw [← hl5];simp [zero5])
    have z3:w4.cell? (qa g9 (ns.length * 5 + 3)) = some (.slice none 0 0):=(World.ownsRow.cellAt O4.out _ (by omega)).trans (by rw [← hl5];simp [zero5])
    have z4:w4.cell? (qa g9 (ns.length * 5 + 4)) = some (.slice none 0 0):=(World.ownsRow.cellAt O4.out _ (by omega)).trans (by rw [← hl5];simp [zero5])
    have f0:=World.ownsRow.frozenAt O4.out (ns.length * 5)
    have f1:=World.ownsRow.frozenAt O4.out (ns.length * 5 + 1)
    have f2:=World.ownsRow.frozenAt O4.out (ns.length * 5 + 2)
    have f3:=World.ownsRow.frozenAt O4.out (ns.length * 5 + 3)
    have f4:=World.ownsRow.frozenAt O4.out (ns.length * 5 + 4)
    refine wpAnyH_ready (rs:=[10]) (by kernel_rfl) (by simp) ?_
    refine AllReadyH.cons (o:=_) rfl (fun K hK => ?_) AllReadyH.nil
    go_simp
    have o6:=own_last (v0:=.int .i64 c0) (v1:=.int .i64 c1) (v2:=.string c2) (v3:=.slice c3 c4 c5) (v4:=.slice c6 c7 c8) O4.out hl5
    refine hK.out _ _ ⟨(Q5.out.grown o6.2 (by simp;omega)).cell 0,(Q6.out.grown o6.2 (by simp;omega)).cell 0⟩ (fun hH9 => ?_)
    clear hK K hH hH9
    refine wpAnyH_done (by kernel_rfl) ?_ _
    have E5:=Lib.hid (OInv.push I2.out (fun g hg => (HO.out g hg).2) (fun g hg => (HOK.out g hg).2) hsz6 G2.out P2.out P3.out O5.out o6.2 (.inr rfl) (.inl rfl) hg19 o6.1 (Q4.out.grown o6.2 (by simp;omega)) h0 h1 h2 h3 h4 n1 n4 n5)
    clear o6
    go_wp2_with fail
    exact ⟨rfl,.tuple #[],results_none rfl _ _ _,rfl,⟨_,_,_,_,_,E5.out.1⟩,k9,Q1.out.1,Q1.out.2,(E5.out.2 rb h1 n1.symm).trans R2.out⟩
   refine AllReadyH.cons (o:=_) rfl (fun K hK => ?_) ?_
   ·
    go_simp
    go_at_call 46
    refine (HF.out _ (R7.out.drew)).mono ?_
    rintro e w1 ⟨c0,c1,c2,c3,c4,c5,c6,c7,c8,rfl,g1,k9,g2,g3,g4,g5⟩
    have G1:Hid (Got w6.heap.size w1 n (nL c0 c1 c2 c3 c4 c5 c6 c7 c8)):=NdIn.keep (fun _ _ => rfl) (fun b hb => ⟨by have:=hb.1;simp at this;omega,hb.2⟩) _ _ g1
    have I1:Hid (OInv w0 nb rB dB rb hB deep (ks ++ [(⟨t.toArray⟩:ByteArray)]) ns w1 K2 kc2 A c ys):=OInv.next I7.out (grown_drew (grown_refl _ _) |>.trans g5) h1 n1 n2 n3
    have R1:Hid (RdSt w1 rb s k9):=g4
    have Q1:Hid (k9 ≤ s.size ∧ s.toList.drop k9 = l):=⟨g2,g3⟩
    have S1:w6.heap.size ≤ w1.heap.size:=by have:=g5.size;simp at this;omega
    have a6:w1.cell? (qa nb 4) = some (.slice A ns.length c):=I1.out.node.cell 4
    clear g1 g2 g3 g4 g5
    go_wp2_with fail
    refine hK.out _ _ ⟨I1.out.rbox.cell 0,I1.out.dbox.cell 0⟩ (fun hH9 => ?_)
    clear hK K hH
    have hH:=hH9
    clear hH9
    try simp only [Act.put,List.setIfInBounds_toArray,List.set_cons_zero,List.set_cons_succ]
    refine wpAnyH_ready (rs:=[1,7]) (by kernel_rfl) (by simp) ?_
    refine AllReadyH.cons (o:=_) rfl (fun K hK => ?_) ?_
    ·
     go_simp
     refine hK.out _ _ hH (fun hH9 => ?_)
     clear hK K hH
     have hH:=hH9
     clear hH9
     try simp only [Act.put,List.setIfInBounds_toArray,List.set_cons_zero,List.set_cons_succ]
     refine wpAnyH_take (i:=6) (v:=.int .i64 ns.length) rfl (by kernel_rfl) (by kernel_rfl) (by kernel_rfl) (fun _ _ _ hB => hB) (Or.inl ⟨by rfl,fun w9 hS9 => ?_⟩) hH ?_
     ·obtain ⟨s0,s1⟩:=hS9
      go_simp
     try simp only [Act.put,List.setIfInBounds_toArray,List.set_cons_zero,List.set_cons_succ]
     refine wpAnyH_ready (rs:=[7]) (by kernel_rfl) (by simp) ?_
     refine AllReadyH.cons (o:=_) rfl (fun K hK => ?_) AllReadyH.nil
     go_simp
     refine hK.out _ _ ⟨(I1.out.rbox.alloc _).cell 0,(I1.out.dbox.alloc _).cell 0⟩ (fun hH9 => ?_)
     clear hK K hH
     have hH:=hH9
     clear hH9
     try simp only [Act.put,List.setIfInBounds_toArray,List.set_cons_zero,List.set_cons_succ]
     have a5:(w1.alloc (Obj.cells Zn 25)).cell? (qa nb 4) = some (.slice A ns.length c):=(I1.out.node.alloc _).cell 4
     have I2:Hid (OInv w0 nb rB dB rb hB deep (ks ++ [(⟨t.toArray⟩:ByteArray)]) ns (w1.alloc (Obj.cells Zn 25)) K2 kc2 A c ys):=OInv.next I1.out (grown_alloc (grown_refl _ _) _) h1 n1 n2 n3
     have G2:Hid (Got w6.heap.size (w1.alloc (Obj.cells Zn 25)) n (nL c0 c1 c2 c3 c4 c5 c6 c7 c8)):=G1.out.alloc _
     have R2:Hid (RdSt (w1.alloc (Obj.cells Zn 25)) rb s k9):=R1.out.alloc _
     have Z2:Hid (Reads (w1.alloc (Obj.cells Zn 25)) (w1.heap.size + 1) 5 (some (qa w1.heap.size 0)) 1 zero5):=zero_reads (Blk.new _ _ _)
     refine wpAnyH_ready (rs:=[8]) (by kernel_rfl) (by simp) ?_
     refine AllReadyH.cons (o:=_) rfl (fun K hK => ?_) AllReadyH.nil
     refine step_pushNd rfl _ _ rfl hB (.slice A ns.length c) ns.length ys (by first | rfl | simp [Act.eval]) I2.out.own (w1.heap.size + 1) (some (qa w1.heap.size 0)) 1 zero5 (by first | rfl | simp [Act.eval]) Z2.out (by intro u hu;simp [zero5] at hu;rcases hu with rfl | rfl | rfl | rfl <;> rfl) (by omega) I2.out.size (fun v' w3 p1 p2 p3 => ?_)
     obtain ⟨g9,cp9,rfl,hg19,hg29⟩:=World.ownsRow.form p1 (by omega)
     have P1:Hid (w3.ownsRow hB 25 5 (.slice (some (qa g9 0)) (ns.length + 1) cp9) (ns.length + 1) (ys ++ [.int .i64 0,.int .i64 0,.string ⟨#[]⟩,.slice none 0 0,.slice none 0 0])):=p1
     have P2:=Lib.hid p2
     have P3:=Lib.hid p3
     have q1:Hid (Blk w3 nb 25 #[.int .i64 7,.int .i64 0,.string ⟨#[]⟩,.slice K2 (ks ++ [(⟨t.toArray⟩:ByteArray)]).length kc2,.slice A ns.length c]):=I2.out.node.grown p2 (fun e => by have:=(HO.out nb e.symm).1;omega)
     have q2:Hid (Blk w3 rB 75 #[.pointer (some (qa rb 0))]):=I2.out.rbox.grown p2 (fun e => by have:=(HO.out rB e.symm).1;omega)
     have q3:Hid (Blk w3 dB 3 #[.int .i64 deep]):=I2.out.dbox.grown p2 (fun e => by have:=(HO.out dB e.symm).1;omega)
     have z0:w3.cell? (qa g9 (ns.length * 5)) = some (.int .i64 0):=(World.ownsRow.cellAt P1.out _ (by omega)).trans (by rw [← hl5];simp [zero5])
     have z1:w3.cell? (qa g9 (ns.length * 5 + 1)) = some (.int .i64 0):=(World.ownsRow.cellAt P1.out _ (by omega)).trans (by rw [← hl5];simp [zero5])
     have z2:w3.cell? (qa g9 (ns.length * 5 + 2)) = some (.string ⟨#[]⟩):=(World.ownsRow.cellAt P1.out _ (by omega)).trans (by rw [← hl5];simp [zero5])
     have z3:w3.cell? (qa g9 (ns.length * 5 + 3)) = some (.slice none 0 0):=(World.ownsRow.cellAt P1.out _ (by omega)).trans (by rw [← hl5];simp [zero5])
     have z4:w3.cell? (qa g9 (ns.length * 5 + 4)) = some (.slice none 0 0):=(World.ownsRow.cellAt P1.out _ (by omega)).trans (by rw [← hl5];simp [zero5])
     have f0:=World.ownsRow.frozenAt P1.out (ns.length * 5)
     have f1:=World.ownsRow.frozenAt P1.out (ns.length * 5 + 1)
     have f2:=World.ownsRow.frozenAt P1.out (ns.length * 5 + 2)
     have f3:=World.ownsRow.frozenAt P1.out (ns.length * 5 + 3)
     have f4:=World.ownsRow.frozenAt P1.out (ns.length * 5 + 4)
     have y0:w3.cell? (qa nb 4) = some (.slice A ns.length c):=q1.out.cell 4
     have y1:=q1.out.frozen 4
     clear p1 p2 p3
     refine hK.out _ _ ⟨q2.out.cell 0,q3.out.cell 0⟩ (fun hH9 => ?_)
     clear hK K hH
     have hH:=hH9
     clear hH9
     try simp only [Act.put,List.setIfInBounds_toArray,List.set_cons_zero,List.set_cons_succ]
     refine wpAnyH_take (i:=9) (v:=.pointer (some (qa g9 (ns.length * 5)))) rfl (by kernel_rfl) (by kernel_rfl) (by kernel_rfl) (fun _ _ _ hB => hB) (Or.inl ⟨by rfl,fun w9 hS9 => ?_⟩) hH ?_
     ·obtain ⟨s0,s1⟩:=hS9
      go_simp
      intro hq
      exact absurd hq (by omega)
     try simp only [Act.put,List.setIfInBounds_toArray,List.set_cons_zero,List.set_cons_succ]
     refine wpAnyH_take (i:=11) (v:=.pointer (some (qa nb 4))) rfl (by kernel_rfl) (by kernel_rfl) (by kernel_rfl) (fun _ _ _ hB => hB) (Or.inl ⟨by rfl,fun w9 hS9 => ?_⟩) hH ?_
     ·obtain ⟨s0,s1⟩:=hS9
      go_simp
     try simp only [Act.put,List.setIfInBounds_toArray,List.set_cons_zero,List.set_cons_succ]
     refine wpAnyH_ready (rs:=[10,12]) (by kernel_rfl) (by simp) ?_
     refine AllReadyH.cons (o:=_) rfl (fun K hK => ?_) ?_
     ·go_simp
      have o4:=own_last (v0:=.int .i64 c0) (v1:=.int .i64 c1) (v2:=.string c2) (v3:=.slice c3 c4 c5) (v4:=.slice c6 c7 c8) P1.out hl5
      have q4:=q1.out.grown o4.2 (by simp;omega)
      have q5:=q2.out.grown o4.2 (by simp;omega)
      have q6:=q3.out.grown o4.2 (by simp;omega)
      refine hK.out _ _ ⟨q5.cell 0,q6.cell 0⟩ (fun hH9 => ?_)
      clear hK K hH
      have hH:=hH9
      clear hH9
      generalize (((((w3.setCell (qa g9 (ns.length * 5)) (.int .i64 c0)).setCell (qa g9 (ns.length * 5 + 1)) (.int .i64 c1)).setCell (qa g9 (ns.length * 5 + 2)) (.string c2)).setCell (qa g9 (ns.length * 5 + 3)) (.slice c3 c4 c5)).setCell (qa g9 (ns.length * 5 + 4)) (.slice c6 c7 c8)) = w4 at o4 q4 q5 q6 hH ⊢
      try simp only [Act.put,List.setIfInBounds_toArray,List.set_cons_zero,List.set_cons_succ]
      have y2:w4.cell? (qa nb 4) = some (.slice A ns.length c):=q4.cell 4
      have y3:=q4.frozen 4
      have O4:=Lib.hid o4
      have Q4:=Lib.hid q4
      have Q5:=Lib.hid q5
      have Q6:=Lib.hid q6
      clear o4 q4 q5 q6
      refine wpAnyH_ready (rs:=[12]) (by kernel_rfl) (by simp) ?_
      refine AllReadyH.cons (o:=_) rfl (fun K hK => ?_) AllReadyH.nil
      go_simp
      refine hK.out _ _ ⟨(Q5.out.far (by simp;omega) _).cell 0,(Q6.out.far (by simp;omega) _).cell 0⟩ (fun hH9 => ?_)
      clear hK K hH hH9
      refine wpAnyH_done (by kernel_rfl) ?_ _
      go_wp2_with fail
      have E5:=OInv.push I2.out (fun g hg => (HO.out g hg).2) (fun g hg => (HOK.out g hg).2) hsz6 G2.out P2.out P3.out O4.out.2 (grown_set (grown_refl w4 (some nb)) 4 (.slice (some (qa g9 0)) (ns.length + 1) cp9)) (.inl rfl) (.inr rfl) hg19 (ownsRow_setCell_below O4.out.1 h2 _) (Q4.out.set_ 4 _) h0 h1 h2 h3 h4 n1 n4 n5
      exact ⟨rfl,.tuple #[],results_none rfl _ _ _,rfl,⟨_,_,_,_,_,E5.1⟩,k9,Q1.out.1,Q1.out.2,(E5.2 rb h1 n1.symm).trans R2.out⟩
     refine AllReadyH.cons (o:=_) rfl (fun K hK => ?_) AllReadyH.nil
     go_simp
     have o4:=ownsRow_setCell_below P1.out (a:=(qa nb 4)) h2 (.slice (some (qa g9 0)) (ns.length + 1) cp9)
     have q4:=q1.out.set_ 4 (.slice (some (qa g9 0)) (ns.length + 1) cp9)
     have q5:=q2.out.far (p:=(qa nb 4)) (by simp;omega) (.slice (some (qa g9 0)) (ns.length + 1) cp9)
     have q6:=q3.out.far (p:=(qa nb 4)) (by simp;omega) (.slice (some (qa g9 0)) (ns.length + 1) cp9)
     have o5:=grown_set (grown_refl w3 (some nb)) 4 (.slice (some (qa g9 0)) (ns.length + 1) cp9)
     refine hK.out _ _ ⟨q5.cell 0,q6.cell 0⟩ (fun hH9 => ?_)
     clear hK K hH
     have hH:=hH9
     clear hH9
     generalize w3.setCell (qa nb 4) (.slice (some (qa g9 0)) (ns.length + 1) cp9) = w4 at o4 o5 q4 q5 q6 hH ⊢
     try simp only [Act.put,List.setIfInBounds_toArray,List.set_cons_zero,List.set_cons_succ]
     have O4:=Lib.hid o4
     have O5:=Lib.hid o5
     have Q4:=Lib.hid q4
     have Q5:=Lib.hid q5
     have Q6:=Lib.hid q6
     clear o4 o5 q4 q5 q6 z0 z1 z2 z3 z4 f0 f1 f2 f3 f4
     have z0:w4.cell? (qa g9 (ns.length * 5)) = some (.int .i64 0):=(World.ownsRow.cellAt O4.out _ (by omega)).trans (by rw [← hl5];simp [zero5])
     have z1:w4.cell? (qa g9 (ns.length * 5 + 1)) = some (.int .i64 0):=(World.ownsRow.cellAt O4.out _ (by omega)).trans (by rw [← hl5];simp [zero5])
     have z2:w4.cell? (qa g9 (ns.length * 5 + 2)) = some (.string ⟨#[]⟩):=(World.ownsRow.cellAt O4.out _ (by omega)).trans (by rw [← hl5];simp [zero5])
     have z3:w4.cell? (qa g9 (ns.length * 5 + 3)) = some (.slice none 0 0):=(World.ownsRow.cellAt O4.out _ (by omega)).trans (by rw [← hl5];simp [zero5])
     have z4:w4.cell? (qa g9 (ns.length * 5 + 4)) = some (.slice none 0 0):=(World.ownsRow.cellAt O4.out _ (by omega)).trans (by rw [← hl5];simp [zero5])
     have f0:=World.ownsRow.frozenAt O4.out (ns.length * 5)
     have f1:=World.ownsRow.frozenAt O4.out (ns.length * 5 + 1)
     have f2:=World.ownsRow.frozenAt O4.out (ns.length * 5 + 2)
     have f3:=World.ownsRow.frozenAt O4.out (ns.length * 5 + 3)
     have f4:=World.ownsRow.frozenAt O4.out (ns.length * 5 + 4)
     refine wpAnyH_ready (rs:=[10]) (by kernel_rfl) (by simp) ?_
     refine AllReadyH.cons (o:=_) rfl (fun K hK => ?_) AllReadyH.nil
     go_simp
     have o6:=own_last (v0:=.int .i64 c0) (v1:=.int .i64 c1) (v2:=.string c2) (v3:=.slice c3 c4 c5) (v4:=.slice c6 c7 c8) O4.out hl5
     refine hK.out _ _ ⟨(Q5.out.grown o6.2 (by simp;omega)).cell 0,(Q6.out.grown o6.2 (by simp;omega)).cell 0⟩ (fun hH9 => ?_)
     clear hK K hH hH9
     refine wpAnyH_done (by kernel_rfl) ?_ _
     have E5:=Lib.hid (OInv.push I2.out (fun g hg => (HO.out g hg).2) (fun g hg => (HOK.out g hg).2) hsz6 G2.out P2.out P3.out O5.out o6.2 (.inr rfl) (.inl rfl) hg19 o6.1 (Q4.out.grown o6.2 (by simp;omega)) h0 h1 h2 h3 h4 n1 n4 n5)
     clear o6
     go_wp2_with fail
     exact ⟨rfl,.tuple #[],results_none rfl _ _ _,rfl,⟨_,_,_,_,_,E5.out.1⟩,k9,Q1.out.1,Q1.out.2,(E5.out.2 rb h1 n1.symm).trans R2.out⟩
    refine AllReadyH.cons (o:=_) rfl (fun K hK => ?_) AllReadyH.nil
    go_simp
    refine hK.out _ _ ⟨(I1.out.rbox.alloc _).cell 0,(I1.out.dbox.alloc _).cell 0⟩ (fun hH9 => ?_)
    clear hK K hH
    have hH:=hH9
    clear hH9
    try simp only [Act.put,List.setIfInBounds_toArray,List.set_cons_zero,List.set_cons_succ]
    have a5:(w1.alloc (Obj.cells Zn 25)).cell? (qa nb 4) = some (.slice A ns.length c):=(I1.out.node.alloc _).cell 4
    refine wpAnyH_ready (rs:=[1]) (by kernel_rfl) (by simp) ?_
    refine AllReadyH.cons (o:=_) rfl (fun K hK => ?_) AllReadyH.nil
    go_simp
    refine hK.out _ _ hH (fun hH9 => ?_)
    clear hK K hH
    have hH:=hH9
    clear hH9
    try simp only [Act.put,List.setIfInBounds_toArray,List.set_cons_zero,List.set_cons_succ]
    refine wpAnyH_take (i:=6) (v:=.int .i64 ns.length) rfl (by kernel_rfl) (by kernel_rfl) (by kernel_rfl) (fun _ _ _ hB => hB) (Or.inl ⟨by rfl,fun w9 hS9 => ?_⟩) hH ?_
    ·obtain ⟨s0,s1⟩:=hS9
     go_simp
    try simp only [Act.put,List.setIfInBounds_toArray,List.set_cons_zero,List.set_cons_succ]
    have I2:Hid (OInv w0 nb rB dB rb hB deep (ks ++ [(⟨t.toArray⟩:ByteArray)]) ns (w1.alloc (Obj.cells Zn 25)) K2 kc2 A c ys):=OInv.next I1.out (grown_alloc (grown_refl _ _) _) h1 n1 n2 n3
    have G2:Hid (Got w6.heap.size (w1.alloc (Obj.cells Zn 25)) n (nL c0 c1 c2 c3 c4 c5 c6 c7 c8)):=G1.out.alloc _
    have R2:Hid (RdSt (w1.alloc (Obj.cells Zn 25)) rb s k9):=R1.out.alloc _
    have Z2:Hid (Reads (w1.alloc (Obj.cells Zn 25)) (w1.heap.size + 1) 5 (some (qa w1.heap.size 0)) 1 zero5):=zero_reads (Blk.new _ _ _)
    refine wpAnyH_ready (rs:=[8]) (by kernel_rfl) (by simp) ?_
    refine AllReadyH.cons (o:=_) rfl (fun K hK => ?_) AllReadyH.nil
    refine step_pushNd rfl _ _ rfl hB (.slice A ns.length c) ns.length ys (by first | rfl | simp [Act.eval]) I2.out.own (w1.heap.size + 1) (some (qa w1.heap.size 0)) 1 zero5 (by first | rfl | simp [Act.eval]) Z2.out (by intro u hu;simp [zero5] at hu;rcases hu with rfl | rfl | rfl | rfl <;> rfl) (by omega) I2.out.size (fun v' w3 p1 p2 p3 => ?_)
    obtain ⟨g9,cp9,rfl,hg19,hg29⟩:=World.ownsRow.form p1 (by omega)
    have P1:Hid (w3.ownsRow hB 25 5 (.slice (some (qa g9 0)) (ns.length + 1) cp9) (ns.length + 1) (ys ++ [.int .i64 0,.int .i64 0,.string ⟨#[]⟩,.slice none 0 0,.slice none 0 0])):=p1
    have P2:=Lib.hid p2
    have P3:=Lib.hid p3
    have q1:Hid (Blk w3 nb 25 #[.int .i64 7,.int .i64 0,.string ⟨#[]⟩,.slice K2 (ks ++ [(⟨t.toArray⟩:ByteArray)]).length kc2,.slice A ns.length c]):=I2.out.node.grown p2 (fun e => by have:=(HO.out nb e.symm).1;omega)
    have q2:Hid (Blk w3 rB 75 #[.pointer (some (qa rb 0))]):=I2.out.rbox.grown p2 (fun e => by have:=(HO.out rB e.symm).1;omega)
    have q3:Hid (Blk w3 dB 3 #[.int .i64 deep]):=I2.out.dbox.grown p2 (fun e => by have:=(HO.out dB e.symm).1;omega)
    have z0:w3.cell? (qa g9 (ns.length * 5)) = some (.int .i64 0):=(World.ownsRow.cellAt P1.out _ (by omega)).trans (by rw [← hl5];simp [zero5])
    have z1:w3.cell? (qa g9 (ns.length * 5 + 1)) = some (.int .i64 0):=(World.ownsRow.cellAt P1.out _ (by omega)).trans (by rw [← hl5];simp [zero5])
    have z2:w3.cell? (qa g9 (ns.length * 5 + 2)) = some (.string ⟨#[]⟩):=(World.ownsRow.cellAt P1.out _ (by omega)).trans (by rw [← hl5];simp [zero5])
    have z3:w3.cell? (qa g9 (ns.length * 5 + 3)) = some (.slice none 0 0):=(World.ownsRow.cellAt P1.out _ (by omega)).trans (by rw [← hl5];simp [zero5])
    have z4:w3.cell? (qa g9 (ns.length * 5 + 4)) = some (.slice none 0 0):=(World.ownsRow.cellAt P1.out _ (by omega)).trans (by rw [← hl5];simp [zero5])
    have f0:=World.ownsRow.frozenAt P1.out (ns.length * 5)
    have f1:=World.ownsRow.frozenAt P1.out (ns.length * 5 + 1)
    have f2:=World.ownsRow.frozenAt P1.out (ns.length * 5 + 2)
    have f3:=World.ownsRow.frozenAt P1.out (ns.length * 5 + 3)
    have f4:=World.ownsRow.frozenAt P1.out (ns.length * 5 + 4)
    have y0:w3.cell? (qa nb 4) = some (.slice A ns.length c):=q1.out.cell 4
    have y1:=q1.out.frozen 4
    clear p1 p2 p3
    refine hK.out _ _ ⟨q2.out.cell 0,q3.out.cell 0⟩ (fun hH9 => ?_)
    clear hK K hH
    have hH:=hH9
    clear hH9
    try simp only [Act.put,List.setIfInBounds_toArray,List.set_cons_zero,List.set_cons_succ]
    refine wpAnyH_take (i:=9) (v:=.pointer (some (qa g9 (ns.length * 5)))) rfl (by kernel_rfl) (by kernel_rfl) (by kernel_rfl) (fun _ _ _ hB => hB) (Or.inl ⟨by rfl,fun w9 hS9 => ?_⟩) hH ?_
    ·obtain ⟨s0,s1⟩:=hS9
     go_simp
     intro hq
     exact absurd hq (by omega)
    try simp only [Act.put,List.setIfInBounds_toArray,List.set_cons_zero,List.set_cons_succ]
    refine wpAnyH_take (i:=11) (v:=.pointer (some (qa nb 4))) rfl (by kernel_rfl) (by kernel_rfl) (by kernel_rfl) (fun _ _ _ hB => hB) (Or.inl ⟨by rfl,fun w9 hS9 => ?_⟩) hH ?_
    ·obtain ⟨s0,s1⟩:=hS9
     go_simp
    try simp only [Act.put,List.setIfInBounds_toArray,List.set_cons_zero,List.set_cons_succ]
    refine wpAnyH_ready (rs:=[10,12]) (by kernel_rfl) (by simp) ?_
    refine AllReadyH.cons (o:=_) rfl (fun K hK => ?_) ?_
    ·go_simp
     have o4:=own_last (v0:=.int .i64 c0) (v1:=.int .i64 c1) (v2:=.string c2) (v3:=.slice c3 c4 c5) (v4:=.slice c6 c7 c8) P1.out hl5
     have q4:=q1.out.grown o4.2 (by simp;omega)
     have q5:=q2.out.grown o4.2 (by simp;omega)
     have q6:=q3.out.grown o4.2 (by simp;omega)
     refine hK.out _ _ ⟨q5.cell 0,q6.cell 0⟩ (fun hH9 => ?_)
     clear hK K hH
     have hH:=hH9
     clear hH9
     generalize (((((w3.setCell (qa g9 (ns.length * 5)) (.int .i64 c0)).setCell (qa g9 (ns.length * 5 + 1)) (.int .i64 c1)).setCell (qa g9 (ns.length * 5 + 2)) (.string c2)).setCell (qa g9 (ns.length * 5 + 3)) (.slice c3 c4 c5)).setCell (qa g9 (ns.length * 5 + 4)) (.slice c6 c7 c8)) = w4 at o4 q4 q5 q6 hH ⊢
     try simp only [Act.put,List.setIfInBounds_toArray,List.set_cons_zero,List.set_cons_succ]
     have y2:w4.cell? (qa nb 4) = some (.slice A ns.length c):=q4.cell 4
     have y3:=q4.frozen 4
     have O4:=Lib.hid o4
     have Q4:=Lib.hid q4
     have Q5:=Lib.hid q5
     have Q6:=Lib.hid q6
     clear o4 q4 q5 q6
     refine wpAnyH_ready (rs:=[12]) (by kernel_rfl) (by simp) ?_
     refine AllReadyH.cons (o:=_) rfl (fun K hK => ?_) AllReadyH.nil
     go_simp
     refine hK.out _ _ ⟨(Q5.out.far (by simp;omega) _).cell 0,(Q6.out.far (by simp;omega) _).cell 0⟩ (fun hH9 => ?_)
     clear hK K hH hH9
     refine wpAnyH_done (by kernel_rfl) ?_ _
     go_wp2_with fail
     have E5:=OInv.push I2.out (fun g hg => (HO.out g hg).2) (fun g hg => (HOK.out g hg).2) hsz6 G2.out P2.out P3.out O4.out.2 (grown_set (grown_refl w4 (some nb)) 4 (.slice (some (qa g9 0)) (ns.length + 1) cp9)) (.inl rfl) (.inr rfl) hg19 (ownsRow_setCell_below O4.out.1 h2 _) (Q4.out.set_ 4 _) h0 h1 h2 h3 h4 n1 n4 n5
     exact ⟨rfl,.tuple #[],results_none rfl _ _ _,rfl,⟨_,_,_,_,_,E5.1⟩,k9,Q1.out.1,Q1.out.2,(E5.2 rb h1 n1.symm).trans R2.out⟩
    refine AllReadyH.cons (o:=_) rfl (fun K hK => ?_) AllReadyH.nil
    go_simp
    have o4:=ownsRow_setCell_below P1.out (a:=(qa nb 4)) h2 (.slice (some (qa g9 0)) (ns.length + 1) cp9)
    have q4:=q1.out.set_ 4 (.slice (some (qa g9 0)) (ns.length + 1) cp9)
    have q5:=q2.out.far (p:=(qa nb 4)) (by simp;omega) (.slice (some (qa g9 0)) (ns.length + 1) cp9)
    have q6:=q3.out.far (p:=(qa nb 4)) (by simp;omega) (.slice (some (qa g9 0)) (ns.length + 1) cp9)
    have o5:=grown_set (grown_refl w3 (some nb)) 4 (.slice (some (qa g9 0)) (ns.length + 1) cp9)
    refine hK.out _ _ ⟨q5.cell 0,q6.cell 0⟩ (fun hH9 => ?_)
    clear hK K hH
    have hH:=hH9
    clear hH9
    generalize w3.setCell (qa nb 4) (.slice (some (qa g9 0)) (ns.length + 1) cp9) = w4 at o4 o5 q4 q5 q6 hH ⊢
    try simp only [Act.put,List.setIfInBounds_toArray,List.set_cons_zero,List.set_cons_succ]
    have O4:=Lib.hid o4
    have O5:=Lib.hid o5
    have Q4:=Lib.hid q4
    have Q5:=Lib.hid q5
    have Q6:=Lib.hid q6
    clear o4 o5 q4 q5 q6 z0 z1 z2 z3 z4 f0 f1 f2 f3 f4
    have z0:w4.cell? (qa g9 (ns.length * 5)) = some (.int .i64 0):=(World.ownsRow.cellAt O4.out _ (by omega)).trans (by rw [← hl5];simp [zero5])
    have z1:w4.cell? (qa g9 (ns.length * 5 + 1)) = some (.int .i64 0):=(World.ownsRow.cellAt O4.out _ (by omega)).trans (by rw [← hl5];simp [zero5])
    have z2:w4.cell? (qa g9 (ns.length * 5 + 2)) = some (.string ⟨#[]⟩):=(World.ownsRow.cellAt O4.out _ (by omega)).trans (by rw [← hl5];simp [zero5])
    have z3:w4.cell? (qa g9 (ns.length * 5 + 3)) = some (.slice none 0 0):=(World.ownsRow.cellAt O4.out _ (by omega)).trans (by rw [← hl5];simp [zero5])
    have z4:w4.cell? (qa g9 (ns.length * 5 + 4)) = some (.slice none 0 0):=(World.ownsRow.cellAt O4.out _ (by omega)).trans (by rw [← hl5];simp [zero5])
    have f0:=World.ownsRow.frozenAt O4.out (ns.length * 5)
    have f1:=World.ownsRow.frozenAt O4.out (ns.length * 5 + 1)
    have f2:=World.ownsRow.frozenAt O4.out (ns.length * 5 + 2)
    have f3:=World.ownsRow.frozenAt O4.out (ns.length * 5 + 3)
    have f4:=World.ownsRow.frozenAt O4.out (ns.length * 5 + 4)
    refine wpAnyH_ready (rs:=[10]) (by kernel_rfl) (by simp) ?_
    refine AllReadyH.cons (o:=_) rfl (fun K hK => ?_) AllReadyH.nil
    go_simp
    have o6:=own_last (v0:=.int .i64 c0) (v1:=.int .i64 c1) (v2:=.string c2) (v3:=.slice c3 c4 c5) (v4:=.slice c6 c7 c8) O4.out hl5
    refine hK.out _ _ ⟨(Q5.out.grown o6.2 (by simp;omega)).cell 0,(Q6.out.grown o6.2 (by simp;omega)).cell 0⟩ (fun hH9 => ?_)
    clear hK K hH hH9
    refine wpAnyH_done (by kernel_rfl) ?_ _
    have E5:=Lib.hid (OInv.push I2.out (fun g hg => (HO.out g hg).2) (fun g hg => (HOK.out g hg).2) hsz6 G2.out P2.out P3.out O5.out o6.2 (.inr rfl) (.inl rfl) hg19 o6.1 (Q4.out.grown o6.2 (by simp;omega)) h0 h1 h2 h3 h4 n1 n4 n5)
    clear o6
    go_wp2_with fail
    exact ⟨rfl,.tuple #[],results_none rfl _ _ _,rfl,⟨_,_,_,_,_,E5.out.1⟩,k9,Q1.out.1,Q1.out.2,(E5.out.2 rb h1 n1.symm).trans R2.out⟩
   refine AllReadyH.cons (o:=_) rfl (fun K hK => ?_) AllReadyH.nil
   go_simp
   refine hK.out _ _ ⟨(I7.out.rbox.drew.alloc _).cell 0,(I7.out.dbox.drew.alloc _).cell 0⟩ (fun hH9 => ?_)
   clear hK K hH
   have hH:=hH9
   clear hH9
   try simp only [Act.put,List.setIfInBounds_toArray,List.set_cons_zero,List.set_cons_succ]
   have a5:(w6.alloc (Obj.cells Zn 25)).cell? (qa nb 4) = some (.slice A ns.length c):=(I7.out.node.drew.alloc _).cell 4
   refine wpAnyH_ready (rs:=[1,5]) (by kernel_rfl) (by simp) ?_
   refine AllReadyH.cons (o:=_) rfl (fun K hK => ?_) ?_
   ·
    go_simp
    refine hK.out _ _ hH (fun hH9 => ?_)
    clear hK K hH
    have hH:=hH9
    clear hH9
    try simp only [Act.put,List.setIfInBounds_toArray,List.set_cons_zero,List.set_cons_succ]
    refine wpAnyH_take (i:=6) (v:=.int .i64 ns.length) rfl (by kernel_rfl) (by kernel_rfl) (by kernel_rfl) (fun _ _ _ hB => hB) (Or.inl ⟨by rfl,fun w9 hS9 => ?_⟩) hH ?_
    ·obtain ⟨s0,s1⟩:=hS9
     go_simp
    try simp only [Act.put,List.setIfInBounds_toArray,List.set_cons_zero,List.set_cons_succ]
    refine wpAnyH_ready (rs:=[5]) (by kernel_rfl) (by simp) ?_
    refine AllReadyH.cons (o:=_) rfl (fun K hK => ?_) AllReadyH.nil
    go_simp
    go_at_call 46
    refine (HF.out _ (R7.out.drew.alloc _)).mono ?_
    rintro e w1 ⟨c0,c1,c2,c3,c4,c5,c6,c7,c8,rfl,g1,k9,g2,g3,g4,g5⟩
    have G1:Hid (Got w6.heap.size w1 n (nL c0 c1 c2 c3 c4 c5 c6 c7 c8)):=NdIn.keep (fun _ _ => rfl) (fun b hb => ⟨by have:=hb.1;simp at this;omega,hb.2⟩) _ _ g1
    have I1:Hid (OInv w0 nb rB dB rb hB deep (ks ++ [(⟨t.toArray⟩:ByteArray)]) ns w1 K2 kc2 A c ys):=OInv.next I7.out (grown_alloc (grown_drew (grown_refl _ _)) _ |>.trans g5) h1 n1 n2 n3
    have R1:Hid (RdSt w1 rb s k9):=g4
    have Q1:Hid (k9 ≤ s.size ∧ s.toList.drop k9 = l):=⟨g2,g3⟩
    have S1:w6.heap.size ≤ w1.heap.size:=by have:=g5.size;simp at this;omega
    have a6:w1.cell? (qa nb 4) = some (.slice A ns.length c):=I1.out.node.cell 4
    have Z1:Hid (Blk w1 w6.heap.size 25 zero5.toArray):=Blk.grown (Blk.new w6.drew 25 zero5.toArray) g5 (by have:=R7.out.lt;simp;omega)
    clear g1 g2 g3 g4 g5
    go_wp2_with fail
    refine hK.out _ _ ⟨I1.out.rbox.cell 0,I1.out.dbox.cell 0⟩ (fun hH9 => ?_)
    clear hK K hH
    have hH:=hH9
    clear hH9
    try simp only [Act.put,List.setIfInBounds_toArray,List.set_cons_zero,List.set_cons_succ]
    have I2:=I1
    have G2:=G1
    have R2:=R1
    have Z2:Hid (Reads w1 (w6.heap.size + 1) 5 (some (qa w6.heap.size 0)) 1 zero5):=zero_reads Z1.out
    refine wpAnyH_ready (rs:=[8]) (by kernel_rfl) (by simp) ?_
    refine AllReadyH.cons (o:=_) rfl (fun K hK => ?_) AllReadyH.nil
    refine step_pushNd rfl _ _ rfl hB (.slice A ns.length c) ns.length ys (by first | rfl | simp [Act.eval]) I2.out.own (w6.heap.size + 1) (some (qa w6.heap.size 0)) 1 zero5 (by first | rfl | simp [Act.eval]) Z2.out (by intro u hu;simp [zero5] at hu;rcases hu with rfl | rfl | rfl | rfl <;> rfl) (by omega) I2.out.size (fun v' w3 p1 p2 p3 => ?_)
    obtain ⟨g9,cp9,rfl,hg19,hg29⟩:=World.ownsRow.form p1 (by omega)
    have P1:Hid (w3.ownsRow hB 25 5 (.slice (some (qa g9 0)) (ns.length + 1) cp9) (ns.length + 1) (ys ++ [.int .i64 0,.int .i64 0,.string ⟨#[]⟩,.slice none 0 0,.slice none 0 0])):=p1
    have P2:=Lib.hid p2
    have P3:=Lib.hid p3
    have q1:Hid (Blk w3 nb 25 #[.int .i64 7,.int .i64 0,.string ⟨#[]⟩,.slice K2 (ks ++ [(⟨t.toArray⟩:ByteArray)]).length kc2,.slice A ns.length c]):=I2.out.node.grown p2 (fun e => by have:=(HO.out nb e.symm).1;omega)
    have q2:Hid (Blk w3 rB 75 #[.pointer (some (qa rb 0))]):=I2.out.rbox.grown p2 (fun e => by have:=(HO.out rB e.symm).1;omega)
    have q3:Hid (Blk w3 dB 3 #[.int .i64 deep]):=I2.out.dbox.grown p2 (fun e => by have:=(HO.out dB e.symm).1;omega)
    have z0:w3.cell? (qa g9 (ns.length * 5)) = some (.int .i64 0):=(World.ownsRow.cellAt P1.out _ (by omega)).trans (by rw [← hl5];simp [zero5])
    have z1:w3.cell? (qa g9 (ns.length * 5 + 1)) = some (.int .i64 0):=(World.ownsRow.cellAt P1.out _ (by omega)).trans (by rw [← hl5];simp [zero5])
    have z2:w3.cell? (qa g9 (ns.length * 5 + 2)) = some (.string ⟨#[]⟩):=(World.ownsRow.cellAt P1.out _ (by omega)).trans (by rw [← hl5];simp [zero5])
    have z3:w3.cell? (qa g9 (ns.length * 5 + 3)) = some (.slice none 0 0):=(World.ownsRow.cellAt P1.out _ (by omega)).trans (by rw [← hl5];simp [zero5])
    have z4:w3.cell? (qa g9 (ns.length * 5 + 4)) = some (.slice none 0 0):=(World.ownsRow.cellAt P1.out _ (by omega)).trans (by rw [← hl5];simp [zero5])
    have f0:=World.ownsRow.frozenAt P1.out (ns.length * 5)
    have f1:=World.ownsRow.frozenAt P1.out (ns.length * 5 + 1)
    have f2:=World.ownsRow.frozenAt P1.out (ns.length * 5 + 2)
    have f3:=World.ownsRow.frozenAt P1.out (ns.length * 5 + 3)
    have f4:=World.ownsRow.frozenAt P1.out (ns.length * 5 + 4)
    have y0:w3.cell? (qa nb 4) = some (.slice A ns.length c):=q1.out.cell 4
    have y1:=q1.out.frozen 4
    clear p1 p2 p3
    refine hK.out _ _ ⟨q2.out.cell 0,q3.out.cell 0⟩ (fun hH9 => ?_)
    clear hK K hH
    have hH:=hH9
    clear hH9
    try simp only [Act.put,List.setIfInBounds_toArray,List.set_cons_zero,List.set_cons_succ]
    refine wpAnyH_take (i:=9) (v:=.pointer (some (qa g9 (ns.length * 5)))) rfl (by kernel_rfl) (by kernel_rfl) (by kernel_rfl) (fun _ _ _ hB => hB) (Or.inl ⟨by rfl,fun w9 hS9 => ?_⟩) hH ?_
    ·obtain ⟨s0,s1⟩:=hS9
     go_simp
     intro hq
     exact absurd hq (by omega)
    try simp only [Act.put,List.setIfInBounds_toArray,List.set_cons_zero,List.set_cons_succ]
    refine wpAnyH_take (i:=11) (v:=.pointer (some (qa nb 4))) rfl (by kernel_rfl) (by kernel_rfl) (by kernel_rfl) (fun _ _ _ hB => hB) (Or.inl ⟨by rfl,fun w9 hS9 => ?_⟩) hH ?_
    ·obtain ⟨s0,s1⟩:=hS9
     go_simp
    try simp only [Act.put,List.setIfInBounds_toArray,List.set_cons_zero,List.set_cons_succ]
    refine wpAnyH_ready (rs:=[10,12]) (by kernel_rfl) (by simp) ?_
    refine AllReadyH.cons (o:=_) rfl (fun K hK => ?_) ?_
    ·go_simp
     have o4:=own_last (v0:=.int .i64 c0) (v1:=.int .i64 c1) (v2:=.string c2) (v3:=.slice c3 c4 c5) (v4:=.slice c6 c7 c8) P1.out hl5
     have q4:=q1.out.grown o4.2 (by simp;omega)
     have q5:=q2.out.grown o4.2 (by simp;omega)
     have q6:=q3.out.grown o4.2 (by simp;omega)
     refine hK.out _ _ ⟨q5.cell 0,q6.cell 0⟩ (fun hH9 => ?_)
     clear hK K hH
     have hH:=hH9
     clear hH9
     generalize (((((w3.setCell (qa g9 (ns.length * 5)) (.int .i64 c0)).setCell (qa g9 (ns.length * 5 + 1)) (.int .i64 c1)).setCell (qa g9 (ns.length * 5 + 2)) (.string c2)).setCell (qa g9 (ns.length * 5 + 3)) (.slice c3 c4 c5)).setCell (qa g9 (ns.length * 5 + 4)) (.slice c6 c7 c8)) = w4 at o4 q4 q5 q6 hH ⊢
     try simp only [Act.put,List.setIfInBounds_toArray,List.set_cons_zero,List.set_cons_succ]
     have y2:w4.cell? (qa nb 4) = some (.slice A ns.length c):=q4.cell 4
     have y3:=q4.frozen 4
     have O4:=Lib.hid o4
     have Q4:=Lib.hid q4
     have Q5:=Lib.hid q5
     have Q6:=Lib.hid q6
     clear o4 q4 q5 q6
     refine wpAnyH_ready (rs:=[12]) (by kernel_rfl) (by simp) ?_
     refine AllReadyH.cons (o:=_) rfl (fun K hK => ?_) AllReadyH.nil
     go_simp
     refine hK.out _ _ ⟨(Q5.out.far (by simp;omega) _).cell 0,(Q6.out.far (by simp;omega) _).cell 0⟩ (fun hH9 => ?_)
     clear hK K hH hH9
     refine wpAnyH_done (by kernel_rfl) ?_ _
     go_wp2_with fail
     have E5:=OInv.push I2.out (fun g hg => (HO.out g hg).2) (fun g hg => (HOK.out g hg).2) hsz6 G2.out P2.out P3.out O4.out.2 (grown_set (grown_refl w4 (some nb)) 4 (.slice (some (qa g9 0)) (ns.length + 1) cp9)) (.inl rfl) (.inr rfl) hg19 (ownsRow_setCell_below O4.out.1 h2 _) (Q4.out.set_ 4 _) h0 h1 h2 h3 h4 n1 n4 n5
     exact ⟨rfl,.tuple #[],results_none rfl _ _ _,rfl,⟨_,_,_,_,_,E5.1⟩,k9,Q1.out.1,Q1.out.2,(E5.2 rb h1 n1.symm).trans R2.out⟩
    refine AllReadyH.cons (o:=_) rfl (fun K hK => ?_) AllReadyH.nil
    go_simp
    have o4:=ownsRow_setCell_below P1.out (a:=(qa nb 4)) h2 (.slice (some (qa g9 0)) (ns.length + 1) cp9)
    have q4:=q1.out.set_ 4 (.slice (some (qa g9 0)) (ns.length + 1) cp9)
    have q5:=q2.out.far (p:=(qa nb 4)) (by simp;omega) (.slice (some (qa g9 0)) (ns.length + 1) cp9)
    have q6:=q3.out.far (p:=(qa nb 4)) (by simp;omega) (.slice (some (qa g9 0)) (ns.length + 1) cp9)
    have o5:=grown_set (grown_refl w3 (some nb)) 4 (.slice (some (qa g9 0)) (ns.length + 1) cp9)
    refine hK.out _ _ ⟨q5.cell 0,q6.cell 0⟩ (fun hH9 => ?_)
    clear hK K hH
    have hH:=hH9
    clear hH9
    generalize w3.setCell (qa nb 4) (.slice (some (qa g9 0)) (ns.length + 1) cp9) = w4 at o4 o5 q4 q5 q6 hH ⊢
    try simp only [Act.put,List.setIfInBounds_toArray,List.set_cons_zero,List.set_cons_succ]
    have O4:=Lib.hid o4
    have O5:=Lib.hid o5
    have Q4:=Lib.hid q4
    have Q5:=Lib.hid q5
    have Q6:=Lib.hid q6
    clear o4 o5 q4 q5 q6 z0 z1 z2 z3 z4 f0 f1 f2 f3 f4
    have z0:w4.cell? (qa g9 (ns.length * 5)) = some (.int .i64 0):=(World.ownsRow.cellAt O4.out _ (by omega)).trans (by rw [← hl5];simp [zero5])
    have z1:w4.cell? (qa g9 (ns.length * 5 + 1)) = some (.int .i64 0):=(World.ownsRow.cellAt O4.out _ (by omega)).trans (by rw [← hl5];simp [zero5])
    have z2:w4.cell? (qa g9 (ns.length * 5 + 2)) = some (.string ⟨#[]⟩):=(World.ownsRow.cellAt O4.out _ (by omega)).trans (by rw [← hl5];simp [zero5])
    have z3:w4.cell? (qa g9 (ns.length * 5 + 3)) = some (.slice none 0 0):=(World.ownsRow.cellAt O4.out _ (by omega)).trans (by rw [← hl5];simp [zero5])
    have z4:w4.cell? (qa g9 (ns.length * 5 + 4)) = some (.slice none 0 0):=(World.ownsRow.cellAt O4.out _ (by omega)).trans (by rw [← hl5];simp [zero5])
    have f0:=World.ownsRow.frozenAt O4.out (ns.length * 5)
    have f1:=World.ownsRow.frozenAt O4.out (ns.length * 5 + 1)
    have f2:=World.ownsRow.frozenAt O4.out (ns.length * 5 + 2)
    have f3:=World.ownsRow.frozenAt O4.out (ns.length * 5 + 3)
    have f4:=World.ownsRow.frozenAt O4.out (ns.length * 5 + 4)
    refine wpAnyH_ready (rs:=[10]) (by kernel_rfl) (by simp) ?_
    refine AllReadyH.cons (o:=_) rfl (fun K hK => ?_) AllReadyH.nil
    go_simp
    have o6:=own_last (v0:=.int .i64 c0) (v1:=.int .i64 c1) (v2:=.string c2) (v3:=.slice c3 c4 c5) (v4:=.slice c6 c7 c8) O4.out hl5
    refine hK.out _ _ ⟨(Q5.out.grown o6.2 (by simp;omega)).cell 0,(Q6.out.grown o6.2 (by simp;omega)).cell 0⟩ (fun hH9 => ?_)
    clear hK K hH hH9
    refine wpAnyH_done (by kernel_rfl) ?_ _
    have E5:=Lib.hid (OInv.push I2.out (fun g hg => (HO.out g hg).2) (fun g hg => (HOK.out g hg).2) hsz6 G2.out P2.out P3.out O5.out o6.2 (.inr rfl) (.inl rfl) hg19 o6.1 (Q4.out.grown o6.2 (by simp;omega)) h0 h1 h2 h3 h4 n1 n4 n5)
    clear o6
    go_wp2_with fail
    exact ⟨rfl,.tuple #[],results_none rfl _ _ _,rfl,⟨_,_,_,_,_,E5.out.1⟩,k9,Q1.out.1,Q1.out.2,(E5.out.2 rb h1 n1.symm).trans R2.out⟩
   refine AllReadyH.cons (o:=_) rfl (fun K hK => ?_) AllReadyH.nil
   go_simp
   go_at_call 46
   refine (HF.out _ (R7.out.drew.alloc _)).mono ?_
   rintro e w1 ⟨c0,c1,c2,c3,c4,c5,c6,c7,c8,rfl,g1,k9,g2,g3,g4,g5⟩
   have G1:Hid (Got w6.heap.size w1 n (nL c0 c1 c2 c3 c4 c5 c6 c7 c8)):=NdIn.keep (fun _ _ => rfl) (fun b hb => ⟨by have:=hb.1;simp at this;omega,hb.2⟩) _ _ g1
   have I1:Hid (OInv w0 nb rB dB rb hB deep (ks ++ [(⟨t.toArray⟩:ByteArray)]) ns w1 K2 kc2 A c ys):=OInv.next I7.out (grown_alloc (grown_drew (grown_refl _ _)) _ |>.trans g5) h1 n1 n2 n3
   have R1:Hid (RdSt w1 rb s k9):=g4
   have Q1:Hid (k9 ≤ s.size ∧ s.toList.drop k9 = l):=⟨g2,g3⟩
   have S1:w6.heap.size ≤ w1.heap.size:=by have:=g5.size;simp at this;omega
   have a6:w1.cell? (qa nb 4) = some (.slice A ns.length c):=I1.out.node.cell 4
   have Z1:Hid (Blk w1 w6.heap.size 25 zero5.toArray):=Blk.grown (Blk.new w6.drew 25 zero5.toArray) g5 (by have:=R7.out.lt;simp;omega)
   clear g1 g2 g3 g4 g5
   go_wp2_with fail
   refine hK.out _ _ ⟨I1.out.rbox.cell 0,I1.out.dbox.cell 0⟩ (fun hH9 => ?_)
   clear hK K hH
   have hH:=hH9
   clear hH9
   try simp only [Act.put,List.setIfInBounds_toArray,List.set_cons_zero,List.set_cons_succ]
   refine wpAnyH_ready (rs:=[1]) (by kernel_rfl) (by simp) ?_
   refine AllReadyH.cons (o:=_) rfl (fun K hK => ?_) AllReadyH.nil
   go_simp
   refine hK.out _ _ hH (fun hH9 => ?_)
   clear hK K hH
   have hH:=hH9
   clear hH9
   try simp only [Act.put,List.setIfInBounds_toArray,List.set_cons_zero,List.set_cons_succ]
   refine wpAnyH_take (i:=6) (v:=.int .i64 ns.length) rfl (by kernel_rfl) (by kernel_rfl) (by kernel_rfl) (fun _ _ _ hB => hB) (Or.inl ⟨by rfl,fun w9 hS9 => ?_⟩) hH ?_
   ·obtain ⟨s0,s1⟩:=hS9
    go_simp
   try simp only [Act.put,List.setIfInBounds_toArray,List.set_cons_zero,List.set_cons_succ]
   have I2:=I1
   have G2:=G1
   have R2:=R1
   have Z2:Hid (Reads w1 (w6.heap.size + 1) 5 (some (qa w6.heap.size 0)) 1 zero5):=zero_reads Z1.out
   refine wpAnyH_ready (rs:=[8]) (by kernel_rfl) (by simp) ?_
   refine AllReadyH.cons (o:=_) rfl (fun K hK => ?_) AllReadyH.nil
   refine step_pushNd rfl _ _ rfl hB (.slice A ns.length c) ns.length ys (by first | rfl | simp [Act.eval]) I2.out.own (w6.heap.size + 1) (some (qa w6.heap.size 0)) 1 zero5 (by first | rfl | simp [Act.eval]) Z2.out (by intro u hu;simp [zero5] at hu;rcases hu with rfl | rfl | rfl | rfl <;> rfl) (by omega) I2.out.size (fun v' w3 p1 p2 p3 => ?_)
   obtain ⟨g9,cp9,rfl,hg19,hg29⟩:=World.ownsRow.form p1 (by omega)
   have P1:Hid (w3.ownsRow hB 25 5 (.slice (some (qa g9 0)) (ns.length + 1) cp9) (ns.length + 1) (ys ++ [.int .i64 0,.int .i64 0,.string ⟨#[]⟩,.slice none 0 0,.slice none 0 0])):=p1
   have P2:=Lib.hid p2
   have P3:=Lib.hid p3
   have q1:Hid (Blk w3 nb 25 #[.int .i64 7,.int .i64 0,.string ⟨#[]⟩,.slice K2 (ks ++ [(⟨t.toArray⟩:ByteArray)]).length kc2,.slice A ns.length c]):=I2.out.node.grown p2 (fun e => by have:=(HO.out nb e.symm).1;omega)
   have q2:Hid (Blk w3 rB 75 #[.pointer (some (qa rb 0))]):=I2.out.rbox.grown p2 (fun e => by have:=(HO.out rB e.symm).1;omega)
   have q3:Hid (Blk w3 dB 3 #[.int .i64 deep]):=I2.out.dbox.grown p2 (fun e => by have:=(HO.out dB e.symm).1;omega)
   have z0:w3.cell? (qa g9 (ns.length * 5)) = some (.int .i64 0):=(World.ownsRow.cellAt P1.out _ (by omega)).trans (by rw [← hl5];simp [zero5])
   have z1:w3.cell? (qa g9 (ns.length * 5 + 1)) = some (.int .i64 0):=(World.ownsRow.cellAt P1.out _ (by omega)).trans (by rw [← hl5];simp [zero5])
   have z2:w3.cell? (qa g9 (ns.length * 5 + 2)) = some (.string ⟨#[]⟩):=(World.ownsRow.cellAt P1.out _ (by omega)).trans (by rw [← hl5];simp [zero5])
   have z3:w3.cell? (qa g9 (ns.length * 5 + 3)) = some (.slice none 0 0):=(World.ownsRow.cellAt P1.out _ (by omega)).trans (by rw [← hl5];simp [zero5])
   have z4:w3.cell? (qa g9 (ns.length * 5 + 4)) = some (.slice none 0 0):=(World.ownsRow.cellAt P1.out _ (by omega)).trans (by rw [← hl5];simp [zero5])
   have f0:=World.ownsRow.frozenAt P1.out (ns.length * 5)
   have f1:=World.ownsRow.frozenAt P1.out (ns.length * 5 + 1)
   have f2:=World.ownsRow.frozenAt P1.out (ns.length * 5 + 2)
   have f3:=World.ownsRow.frozenAt P1.out (ns.length * 5 + 3)
   have f4:=World.ownsRow.frozenAt P1.out (ns.length * 5 + 4)
   have y0:w3.cell? (qa nb 4) = some (.slice A ns.length c):=q1.out.cell 4
   have y1:=q1.out.frozen 4
   clear p1 p2 p3
   refine hK.out _ _ ⟨q2.out.cell 0,q3.out.cell 0⟩ (fun hH9 => ?_)
   clear hK K hH
   have hH:=hH9
   clear hH9
   try simp only [Act.put,List.setIfInBounds_toArray,List.set_cons_zero,List.set_cons_succ]
   refine wpAnyH_take (i:=9) (v:=.pointer (some (qa g9 (ns.length * 5)))) rfl (by kernel_rfl) (by kernel_rfl) (by kernel_rfl) (fun _ _ _ hB => hB) (Or.inl ⟨by rfl,fun w9 hS9 => ?_⟩) hH ?_
   ·obtain ⟨s0,s1⟩:=hS9
    go_simp
    intro hq
    exact absurd hq (by omega)
   try simp only [Act.put,List.setIfInBounds_toArray,List.set_cons_zero,List.set_cons_succ]
   refine wpAnyH_take (i:=11) (v:=.pointer (some (qa nb 4))) rfl (by kernel_rfl) (by kernel_rfl) (by kernel_rfl) (fun _ _ _ hB => hB) (Or.inl ⟨by rfl,fun w9 hS9 => ?_⟩) hH ?_
   ·obtain ⟨s0,s1⟩:=hS9
    go_simp
   try simp only [Act.put,List.setIfInBounds_toArray,List.set_cons_zero,List.set_cons_succ]
   refine wpAnyH_ready (rs:=[10,12]) (by kernel_rfl) (by simp) ?_
   refine AllReadyH.cons (o:=_) rfl (fun K hK => ?_) ?_
   ·go_simp
    have o4:=own_last (v0:=.int .i64 c0) (v1:=.int .i64 c1) (v2:=.string c2) (v3:=.slice c3 c4 c5) (v4:=.slice c6 c7 c8) P1.out hl5
    have q4:=q1.out.grown o4.2 (by simp;omega)
    have q5:=q2.out.grown o4.2 (by simp;omega)
    have q6:=q3.out.grown o4.2 (by simp;omega)
    refine hK.out _ _ ⟨q5.cell 0,q6.cell 0⟩ (fun hH9 => ?_)
    clear hK K hH
    have hH:=hH9
    clear hH9
    generalize (((((w3.setCell (qa g9 (ns.length * 5)) (.int .i64 c0)).setCell (qa g9 (ns.length * 5 + 1)) (.int .i64 c1)).setCell (qa g9 (ns.length * 5 + 2)) (.string c2)).setCell (qa g9 (ns.length * 5 + 3)) (.slice c3 c4 c5)).setCell (qa g9 (ns.length * 5 + 4)) (.slice c6 c7 c8)) = w4 at o4 q4 q5 q6 hH ⊢
    try simp only [Act.put,List.setIfInBounds_toArray,List.set_cons_zero,List.set_cons_succ]
    have y2:w4.cell? (qa nb 4) = some (.slice A ns.length c):=q4.cell 4
    have y3:=q4.frozen 4
    have O4:=Lib.hid o4
    have Q4:=Lib.hid q4
    have Q5:=Lib.hid q5
    have Q6:=Lib.hid q6
    clear o4 q4 q5 q6
    refine wpAnyH_ready (rs:=[12]) (by kernel_rfl) (by simp) ?_
    refine AllReadyH.cons (o:=_) rfl (fun K hK => ?_) AllReadyH.nil
    go_simp
    refine hK.out _ _ ⟨(Q5.out.far (by simp;omega) _).cell 0,(Q6.out.far (by simp;omega) _).cell 0⟩ (fun hH9 => ?_)
    clear hK K hH hH9
    refine wpAnyH_done (by kernel_rfl) ?_ _
    go_wp2_with fail
    have E5:=OInv.push I2.out (fun g hg => (HO.out g hg).2) (fun g hg => (HOK.out g hg).2) hsz6 G2.out P2.out P3.out O4.out.2 (grown_set (grown_refl w4 (some nb)) 4 (.slice (some (qa g9 0)) (ns.length + 1) cp9)) (.inl rfl) (.inr rfl) hg19 (ownsRow_setCell_below O4.out.1 h2 _) (Q4.out.set_ 4 _) h0 h1 h2 h3 h4 n1 n4 n5
    exact ⟨rfl,.tuple #[],results_none rfl _ _ _,rfl,⟨_,_,_,_,_,E5.1⟩,k9,Q1.out.1,Q1.out.2,(E5.2 rb h1 n1.symm).trans R2.out⟩
   refine AllReadyH.cons (o:=_) rfl (fun K hK => ?_) AllReadyH.nil
   go_simp
   have o4:=ownsRow_setCell_below P1.out (a:=(qa nb 4)) h2 (.slice (some (qa g9 0)) (ns.length + 1) cp9)
   have q4:=q1.out.set_ 4 (.slice (some (qa g9 0)) (ns.length + 1) cp9)
   have q5:=q2.out.far (p:=(qa nb 4)) (by simp;omega) (.slice (some (qa g9 0)) (ns.length + 1) cp9)
   have q6:=q3.out.far (p:=(qa nb 4)) (by simp;omega) (.slice (some (qa g9 0)) (ns.length + 1) cp9)
   have o5:=grown_set (grown_refl w3 (some nb)) 4 (.slice (some (qa g9 0)) (ns.length + 1) cp9)
   refine hK.out _ _ ⟨q5.cell 0,q6.cell 0⟩ (fun hH9 => ?_)
   clear hK K hH
   have hH:=hH9
   clear hH9
   generalize w3.setCell (qa nb 4) (.slice (some (qa g9 0)) (ns.length + 1) cp9) = w4 at o4 o5 q4 q5 q6 hH ⊢
   try simp only [Act.put,List.setIfInBounds_toArray,List.set_cons_zero,List.set_cons_succ]
   have O4:=Lib.hid o4
   have O5:=Lib.hid o5
   have Q4:=Lib.hid q4
   have Q5:=Lib.hid q5
   have Q6:=Lib.hid q6
   clear o4 o5 q4 q5 q6 z0 z1 z2 z3 z4 f0 f1 f2 f3 f4
   have z0:w4.cell? (qa g9 (ns.length * 5)) = some (.int .i64 0):=(World.ownsRow.cellAt O4.out _ (by omega)).trans (by rw [← hl5];simp [zero5])
   have z1:w4.cell? (qa g9 (ns.length * 5 + 1)) = some (.int .i64 0):=(World.ownsRow.cellAt O4.out _ (by omega)).trans (by rw [← hl5];simp [zero5])
   have z2:w4.cell? (qa g9 (ns.length * 5 + 2)) = some (.string ⟨#[]⟩):=(World.ownsRow.cellAt O4.out _ (by omega)).trans (by rw [← hl5];simp [zero5])
   have z3:w4.cell? (qa g9 (ns.length * 5 + 3)) = some (.slice none 0 0):=(World.ownsRow.cellAt O4.out _ (by omega)).trans (by rw [← hl5];simp [zero5])
   have z4:w4.cell? (qa g9 (ns.length * 5 + 4)) = some (.slice none 0 0):=(World.ownsRow.cellAt O4.out _ (by omega)).trans (by rw [← hl5];simp [zero5])
   have f0:=World.ownsRow.frozenAt O4.out (ns.length * 5)
   have f1:=World.ownsRow.frozenAt O4.out (ns.length * 5 + 1)
   have f2:=World.ownsRow.frozenAt O4.out (ns.length * 5 + 2)
   have f3:=World.ownsRow.frozenAt O4.out (ns.length * 5 + 3)
   have f4:=World.ownsRow.frozenAt O4.out (ns.length * 5 + 4)
   refine wpAnyH_ready (rs:=[10]) (by kernel_rfl) (by simp) ?_
   refine AllReadyH.cons (o:=_) rfl (fun K hK => ?_) AllReadyH.nil
   go_simp
   have o6:=own_last (v0:=.int .i64 c0) (v1:=.int .i64 c1) (v2:=.string c2) (v3:=.slice c3 c4 c5) (v4:=.slice c6 c7 c8) O4.out hl5
   refine hK.out _ _ ⟨(Q5.out.grown o6.2 (by simp;omega)).cell 0,(Q6.out.grown o6.2 (by simp;omega)).cell 0⟩ (fun hH9 => ?_)
   clear hK K hH hH9
   refine wpAnyH_done (by kernel_rfl) ?_ _
   have E5:=Lib.hid (OInv.push I2.out (fun g hg => (HO.out g hg).2) (fun g hg => (HOK.out g hg).2) hsz6 G2.out P2.out P3.out O5.out o6.2 (.inr rfl) (.inl rfl) hg19 o6.1 (Q4.out.grown o6.2 (by simp;omega)) h0 h1 h2 h3 h4 n1 n4 n5)
   clear o6
   go_wp2_with fail
   exact ⟨rfl,.tuple #[],results_none rfl _ _ _,rfl,⟨_,_,_,_,_,E5.out.1⟩,k9,Q1.out.1,Q1.out.2,(E5.out.2 rb h1 n1.symm).trans R2.out⟩
  --@two ends
def ManyEnd {σ:Type} (rb:Nat) (s:ByteArray) (w0:World) (I:σ → World → Prop) (fin:σ → Nd) (r:Except Int (Nd × List UInt8)) (e:Ending) (w':World):Prop:=
 match r with
 | .error c => Failed rb s c w0 e w'
 | .ok (n,l) => e = .returned (.tuple #[]) ∧ (∃ st,n = fin st ∧ I st w') ∧ ∃ k',k' ≤ s.size ∧ s.toList.drop k' = l ∧ RdSt w' rb s k'
def PartE {σ:Type} (rb:Nat) (s:ByteArray) (w0:World) (I:σ → World → Prop) (r:Except Int (σ × List UInt8)) (e:Ending) (w':World):Prop:=
 match r with
 | .error c => Failed rb s c w0 e w'
 | .ok (st,l) => e = .returned (.tuple #[]) ∧ I st w' ∧ ∃ k',k' ≤ s.size ∧ s.toList.drop k' = l ∧ RdSt w' rb s k'
def ManyEq {σ:Type} (P:σ → List UInt8 → Except Int (σ × List UInt8)) (fin:σ → Nd) (c:UInt8) (F:σ → List UInt8 → Except Int (Nd × List UInt8)):Prop:=
 ∀ st l,F st l = match P st (blanksL l) with
  | .error e => .error e
  | .ok (st',r) => if (blanksL r).head? = some c then .ok (fin st',(blanksL r).tail) else if (blanksL r).head? = some 44 then F st' (blanksL r).tail else .error 3
theorem take_one {n:Nat} {c:UInt8} {l:List UInt8} (hn:n = 1) (h:l.head? = some c):l.take n = [c]:=by
 subst hn
 cases l with
 | nil => cases h
 | cons a b => simp at h;simp [h]
theorem take_not {n:Nat} {c:UInt8} {l:List UInt8} (hn:n = 1) (h:¬ l.head? = some c):l.take n ≠ [c]:=by
 subst hn
 cases l with
 | nil => simp
 | cons a b => simpa using h
theorem le_of_drop {s:ByteArray} {a b:Nat} (ha:a ≤ s.size) (hb:b ≤ s.size) (h:(s.toList.drop a).length ≤ (s.toList.drop b).length):b ≤ a:=by
 simp only [List.length_drop,tl_len'] at h
 omega
set_option maxRecDepth 100000 in
set_option maxHeartbeats 4000000 in
theorem many1_any {σ:Type} (P:σ → List UInt8 → Except Int (σ × List UInt8)) (fin:σ → Nd) (c:UInt8) (F:σ → List UInt8 → Except Int (Nd × List UInt8)) (I:σ → World → Prop) (N:σ → Nat) (rb:Nat) (s:ByteArray) (k0:Nat) (w0:World) (x1 x2 x3:Addr) (t:ByteArray) (ht:t.toList = [c])
  (hF:Hid (ManyEq P fin c F)) (hP:∀ st l st' r,P st l = .ok (st',r) → Rest r l) (hN:∀ st l st' r,P st l = .ok (st',r) → N st' ≤ N st + 1) (hI:∀ st w w',I st w → w.grownBy w' (some rb) → I st w') (hI0:∀ st w,I st w → w0.grownBy w (some rb))
  (hC:∀ st k w,I st w → RdSt w rb s k → k0 ≤ k → k ≤ s.size → N st ≤ k → Calls Tryd.prog 63 #[.pointer (some x1),.pointer (some x2),.pointer (some x3)] w (PartE rb s w0 I (P st (s.toList.drop k))))
  (st0:σ) (k:Nat) (w:World) (h0:I st0 w) (hst:RdSt w rb s k) (hk0:k0 ≤ k) (hn0:N st0 ≤ k) (hk:k ≤ s.size) (hs:s.size ≤ 1000000) :
  Calls Tryd.prog 62 #[.pointer (some (qa rb 0)),.string t,.func (.func 63) #[] #[.pointer (some x1),.pointer (some x2),.pointer (some x3)]] w (ManyEnd rb s w0 I fin (if (blanksL (s.toList.drop k)).head? = some c then .ok (fin st0,(blanksL (s.toList.drop k)).tail) else F st0 (blanksL (s.toList.drop k)))):=by
 have hts:t.size = 1:=by have:=tl_len' t;rw [ht] at this;simpa using this.symm
 have HP:=Lib.hid hP
 have HN:=Lib.hid hN
 have HI:=Lib.hid hI
 have HI0:=Lib.hid hI0
 have HC:=Lib.hid hC
 have H0:=Lib.hid h0
 have HST:=Lib.hid hst
 clear hP hN hI hI0 hC h0 hst
 by_cases hc:(blanksL (s.toList.drop k)).head? = some c
 ·simp only [hc,if_true]
  go_enter Tryd.func62,Tryd.ntmps62
  go_wp2_with fail
  refine (blanks_any rb s k w HST.out hk hs).mono ?_
  rintro e w1 ⟨rfl,k1,g1,g2,g3,g4⟩
  have G1:Hid (w.grownBy w1 (some rb)):=g4
  have R1:Hid (RdSt w1 rb s k1):=g3
  have L1:Hid (s.toList.drop k1 = blanksL (s.toList.drop k)):=g2
  clear g2 g3 g4
  go_wp2_with fail
  refine (may_yes rb s t k1 w1 R1.out g1 hs (by rw [L1.out,ht];exact take_one hts hc)).mono ?_
  rintro e w2 ⟨rfl,k2,g1,g2,g3,g4⟩
  go_wp2_with fail
  go_end0
  refine ⟨rfl,⟨st0,rfl,HI.out _ _ _ (HI.out _ _ _ H0.out G1.out) g4⟩,k2,g1,?_,g3⟩
  rw [g2,L1.out,hts,List.drop_one]
 rw [if_neg hc]
 obtain ⟨V,hV⟩:∃ V,V = F st0 (blanksL (s.toList.drop k)):=⟨_,rfl⟩
 rw [← hV]
 have HV:=Lib.hid hV
 have HNC:=Lib.hid hc
 have HT1:=Lib.hid ht
 clear hV hc ht
 go_enter Tryd.func62,Tryd.ntmps62
 go_wp2_with fail
 refine (blanks_any rb s k w HST.out hk hs).mono ?_
 rintro e w1 ⟨rfl,k1,g1,g2,g3,g4⟩
 have hkk:k ≤ k1:=le_of_drop g1 hk (by rw [g2];exact blanksL_le _)
 have I1:Hid (I st0 w1):=HI.out _ _ _ H0.out g4
 have R1:Hid (RdSt w1 rb s k1):=g3
 have L1:Hid (s.toList.drop k1 = blanksL (s.toList.drop k)):=g2
 clear g2 g3 g4
 go_wp2_with fail
 refine (may_no rb s t k1 w1 R1.out g1 hs (by omega) (by rw [L1.out,HT1.out];exact take_not hts HNC.out)).mono ?_
 rintro e w2 ⟨rfl,g3,g4⟩
 have I2:Hid (I st0 w2):=HI.out _ _ _ I1.out g4
 have R2:Hid (RdSt w2 rb s k1):=g3
 have V2:Hid (V = F st0 (s.toList.drop k1)):=Lib.hid (by rw [HV.out,L1.out])
 have hk1:k0 ≤ k1:=by omega
 clear g3 g4 I1 R1 L1 HV HNC HST H0
 go_wp2_with fail
 go_loopg [] (s.size - k1) (fun g wr => ∃ (st:σ) (j:Nat),k0 ≤ j ∧ j ≤ s.size ∧ s.size - j ≤ g ∧ N st ≤ j ∧ Hid (V = F st (s.toList.drop j)) ∧ Hid (RdSt wr rb s j) ∧ Hid (I st wr))
 case atStart => exact ⟨st0,k1,hk1,g1,Nat.le_refl _,by omega,V2,R2,I2⟩
 case round =>
  clear I2 R2 V2
  obtain ⟨st,j,hj0,hj,hg,hnj,hv,hr,hi⟩:=hrel
  obtain ⟨wo,rfl⟩:∃ wo:World,wo = wr:=⟨_,rfl⟩
  obtain ⟨L,hL⟩:∃ L,L = blanksL (s.toList.drop j):=⟨_,rfl⟩
  have hLl:L.length ≤ s.size - j:=by rw [hL];have:=blanksL_le (s.toList.drop j);simpa [tl_len'] using this
  have HL:=Lib.hid hL
  have HE:Hid (V = match P st L with
   | .error e => .error e
   | .ok (st',r) => if (blanksL r).head? = some c then .ok (fin st',(blanksL r).tail) else if (blanksL r).head? = some 44 then F st' (blanksL r).tail else .error 3):=Lib.hid (by rw [hv.out,hF.out st (s.toList.drop j),← hL] <;> (rcases P st L with _ | ⟨_,_⟩ <;> rfl))
  clear hL hv
  have HC1:Hid (∀ w' k',I st w' → RdSt w' rb s k' → k0 ≤ k' → k' ≤ s.size → N st ≤ k' → s.toList.drop k' = L → Calls Tryd.prog 63 #[.pointer (some x1),.pointer (some x2),.pointer (some x3)] w' (PartE rb s w0 I (P st L))):=fun w' k' a1 a2 a3 a4 a6 a5 => by
   have:=HC.out st k' w' a1 a2 a3 a4 a6
   rw [a5] at this
   exact this
  cases hp:P st L with
  | error e0 =>
   rw [hp] at HC1
   have HX:Hid (V = .error e0):=Lib.hid (by rw [HE.out,hp])
   clear HE hp
   go_wp2_with fail
   refine (blanks_any rb s j wo hr.out hj hs).mono ?_
   rintro e w3 ⟨rfl,k3,g1,g2,g3,g4⟩
   have hjk:j ≤ k3:=le_of_drop g1 hj (by rw [g2];exact blanksL_le _)
   have I3:Hid (I st w3):=HI.out _ _ _ hi.out g4
   have R3:Hid (RdSt w3 rb s k3):=g3
   have L3:Hid (s.toList.drop k3 = L):=Lib.hid (by rw [g2,HL.out])
   clear g2 g3 g4
   go_wp2_with fail
   refine (HC1.out w3 k3 I3.out R3.out (by omega) g1 (by omega) L3.out).mono ?_
   rintro e w4 ⟨rfl,g2,g3⟩
   go_wp2_with fail
   rw [HX.out]
   exact ⟨rfl,rfl,g2,g3⟩
  | ok p =>
   obtain ⟨st2,r⟩:=p
   rw [hp] at HC1
   have hrl:r.length < L.length:=(HP.out _ _ _ _ hp).2
   have hn2:N st2 ≤ N st + 1:=HN.out _ _ _ _ hp
   have HX:Hid (V = if (blanksL r).head? = some c then .ok (fin st2,(blanksL r).tail) else if (blanksL r).head? = some 44 then F st2 (blanksL r).tail else .error 3):=Lib.hid (by rw [HE.out,hp])
   clear HE hp
   have hbr:=blanksL_le r
   by_cases hq:(blanksL r).head? = some c
   ·have HY:Hid (V = .ok (fin st2,(blanksL r).tail)):=Lib.hid (by rw [HX.out,if_pos hq])
    have HQ:=Lib.hid hq
    clear HX hq
    go_wp2_with fail
    refine (blanks_any rb s j wo hr.out hj hs).mono ?_
    rintro e w3 ⟨rfl,k3,g1,g2,g3,g4⟩
    have hjk:j ≤ k3:=le_of_drop g1 hj (by rw [g2];exact blanksL_le _)
    have I3:Hid (I st w3):=HI.out _ _ _ hi.out g4
    have R3:Hid (RdSt w3 rb s k3):=g3
    have L3:Hid (s.toList.drop k3 = L):=Lib.hid (by rw [g2,HL.out])
    clear g2 g3 g4
    go_wp2_with fail
    refine (HC1.out w3 k3 I3.out R3.out (by omega) g1 (by omega) L3.out).mono ?_
    rintro e w4 ⟨rfl,g2,k4,g3,g4,g5⟩
    have I4:Hid (I st2 w4):=g2
    have R4:Hid (RdSt w4 rb s k4):=g5
    have L4:Hid (s.toList.drop k4 = r):=g4
    have h4:k4 ≤ s.size:=g3
    clear g2 g3 g4 g5
    go_wp2_with fail
    refine (blanks_any rb s k4 w4 R4.out h4 hs).mono ?_
    rintro e w5 ⟨rfl,k5,h5,g2,g3,g4⟩
    have I5:Hid (I st2 w5):=HI.out _ _ _ I4.out g4
    have R5:Hid (RdSt w5 rb s k5):=g3
    have L5:Hid (s.toList.drop k5 = blanksL r):=Lib.hid (by rw [g2,L4.out])
    clear g2 g3 g4
    go_wp2_with fail
    refine (may_yes rb s t k5 w5 R5.out h5 hs (by rw [L5.out,HT1.out];exact take_one hts HQ.out)).mono ?_
    rintro e w6 ⟨rfl,k6,g1,g2,g3,g4⟩
    go_wp2_with fail
    rw [HY.out]
    go_end0
    refine ⟨rfl,⟨st2,rfl,HI.out _ _ _ I5.out g4⟩,k6,g1,?_,g3⟩
    rw [g2,L5.out,hts,List.drop_one]
   have HQ:=Lib.hid hq
   by_cases hm:(blanksL r).head? = some 44
   ·have HY:Hid (V = F st2 (blanksL r).tail):=Lib.hid (by rw [HX.out,if_neg hq,if_pos hm])
    have HM:=Lib.hid hm
    clear HX hq hm
    go_wp2_with fail
    refine (blanks_any rb s j wo hr.out hj hs).mono ?_
    rintro e w3 ⟨rfl,k3,g1,g2,g3,g4⟩
    have hjk:j ≤ k3:=le_of_drop g1 hj (by rw [g2];exact blanksL_le _)
    have I3:Hid (I st w3):=HI.out _ _ _ hi.out g4
    have R3:Hid (RdSt w3 rb s k3):=g3
    have L3:Hid (s.toList.drop k3 = L):=Lib.hid (by rw [g2,HL.out])
    clear g2 g3 g4
    go_wp2_with fail
    refine (HC1.out w3 k3 I3.out R3.out (by omega) g1 (by omega) L3.out).mono ?_
    rintro e w4 ⟨rfl,g2,k4,g3,g4,g5⟩
    have I4:Hid (I st2 w4):=g2
    have R4:Hid (RdSt w4 rb s k4):=g5
    have L4:Hid (s.toList.drop k4 = r):=g4
    have h4:k4 ≤ s.size:=g3
    clear g2 g3 g4 g5
    go_wp2_with fail
    refine (blanks_any rb s k4 w4 R4.out h4 hs).mono ?_
    rintro e w5 ⟨rfl,k5,h5,g2,g3,g4⟩
    have I5:Hid (I st2 w5):=HI.out _ _ _ I4.out g4
    have R5:Hid (RdSt w5 rb s k5):=g3
    have L5:Hid (s.toList.drop k5 = blanksL r):=Lib.hid (by rw [g2,L4.out])
    clear g2 g3 g4
    go_wp2_with fail
    refine (may_no rb s t k5 w5 R5.out h5 hs (by omega) (by rw [L5.out,HT1.out];exact take_not hts HQ.out)).mono ?_
    rintro e w6 ⟨rfl,g3,g4⟩
    have I6:Hid (I st2 w6):=HI.out _ _ _ I5.out g4
    have R6:Hid (RdSt w6 rb s k5):=g3
    clear g3 g4
    go_wp2_with fail
    refine (must_yes rb s ⟨#[44]⟩ k5 w6 R6.out h5 hs (by rw [L5.out,one_lit];exact take_one rfl HM.out)).mono ?_
    rintro e w7 ⟨rfl,k7,g1,g2,g3,g4⟩
    have I7:Hid (I st2 w7):=HI.out _ _ _ I6.out g4
    have R7:Hid (RdSt w7 rb s k7):=g3
    have L7:s.toList.drop k7 = (blanksL r).tail:=by rw [g2,L5.out];exact List.drop_one
    have V7:Hid (V = F st2 (s.toList.drop k7)):=Lib.hid (by rw [HY.out,L7])
    have hlt:s.size - k7 < s.size - j:=by
     have e1:=congrArg List.length L7
     have e2:=tail_le (blanksL r)
     simp only [List.length_drop,tl_len'] at e1
     omega
    clear g2 g3 g4 L7
    go_wp2_with fail
    go_roundg (gk - 1)
    case measure => omega
    case rel => exact ⟨st2,k7,by omega,g1,by omega,by omega,V7,R7,I7⟩
   have HY:Hid (V = .error 3):=Lib.hid (by rw [HX.out,if_neg hq,if_neg hm])
   have HM:=Lib.hid hm
   clear HX hq hm
   go_wp2_with fail
   refine (blanks_any rb s j wo hr.out hj hs).mono ?_
   rintro e w3 ⟨rfl,k3,g1,g2,g3,g4⟩
   have hjk:j ≤ k3:=le_of_drop g1 hj (by rw [g2];exact blanksL_le _)
   have I3:Hid (I st w3):=HI.out _ _ _ hi.out g4
   have R3:Hid (RdSt w3 rb s k3):=g3
   have L3:Hid (s.toList.drop k3 = L):=Lib.hid (by rw [g2,HL.out])
   clear g2 g3 g4
   go_wp2_with fail
   refine (HC1.out w3 k3 I3.out R3.out (by omega) g1 (by omega) L3.out).mono ?_
   rintro e w4 ⟨rfl,g2,k4,g3,g4,g5⟩
   have I4:Hid (I st2 w4):=g2
   have R4:Hid (RdSt w4 rb s k4):=g5
   have L4:Hid (s.toList.drop k4 = r):=g4
   have h4:k4 ≤ s.size:=g3
   clear g2 g3 g4 g5
   go_wp2_with fail
   refine (blanks_any rb s k4 w4 R4.out h4 hs).mono ?_
   rintro e w5 ⟨rfl,k5,h5,g2,g3,g4⟩
   have I5:Hid (I st2 w5):=HI.out _ _ _ I4.out g4
   have R5:Hid (RdSt w5 rb s k5):=g3
   have L5:Hid (s.toList.drop k5 = blanksL r):=Lib.hid (by rw [g2,L4.out])
   clear g2 g3 g4
   go_wp2_with fail
   refine (may_no rb s t k5 w5 R5.out h5 hs (by omega) (by rw [L5.out,HT1.out];exact take_not hts HQ.out)).mono ?_
   rintro e w6 ⟨rfl,g3,g4⟩
   have I6:Hid (I st2 w6):=HI.out _ _ _ I5.out g4
   have R6:Hid (RdSt w6 rb s k5):=g3
   clear g3 g4
   go_wp2_with fail
   refine (must_no rb s ⟨#[44]⟩ k5 w6 R6.out h5 hs (by decide) (by rw [L5.out,one_lit];exact take_not rfl HM.out)).mono ?_
   rintro e w7 ⟨rfl,g2,g3⟩
   go_wp2_with fail
   rw [HY.out]
   exact ⟨rfl,rfl,g2,(HI0.out _ _ I6.out).trans g3⟩
def arrP (deep:Nat) (ns:List Nd) (l:List UInt8):Except Int (List Nd × List UInt8):=
 match valL (deep + 1) l with
 | .error e => .error e
 | .ok (n,r) => .ok (ns ++ [n],r)
theorem arr_many (deep:Nat):ManyEq (arrP deep) (fun ns => .mk 6 0 ⟨#[]⟩ [] ns) 93 (fun ns l => arrL deep l ns):=by
 intro ns l
 show arrL deep l ns = _
 rw [arrL_eq]
 unfold arrP
 cases valL (deep + 1) (blanksL l) with
 | error e => rfl
 | ok p => rfl
theorem arr_rest (deep:Nat) (ns:List Nd) (l:List UInt8) (ms:List Nd) (r:List UInt8) (h:arrP deep ns l = .ok (ms,r)):Rest r l ∧ ms.length ≤ ns.length + 1:=by
 unfold arrP at h
 cases hv:valL (deep + 1) l with
 | error e => rw [hv] at h;cases h
 | ok p =>
  obtain ⟨n,r'⟩:=p
  rw [hv] at h
  simp only [Except.ok.injEq,Prod.mk.injEq] at h
  obtain ⟨rfl,rfl⟩:=h
  exact ⟨valL_le hv,by simp⟩
theorem own_RS {w:World} {B s n c:Nat} {e:TypeId} {A:Option Addr} {xs:List Value} (h:w.ownsRow B e s (.slice A n c) n xs):RS w (fun b => B ≤ b ∧ b < w.heap.size) s A n xs:=by
 refine ⟨h.1,fun hn => ?_⟩
 obtain ⟨g,cap,hv,hle,hlt⟩:=World.ownsRow.form h hn
 injection hv with e1 _ _
 subst e1
 exact ⟨_,rfl,⟨hle,hlt⟩,fun j u hj => World.ownsRow.cells h rfl j u hj⟩
theorem own_len {w:World} {B s n:Nat} {e:TypeId} {v:Value} {xs:List Value} (h:w.ownsRow B e s v n xs):n ≤ maxLen:=by
 rcases h.2 with ⟨_,hn⟩ | ⟨g,cap,cur,hv,_,_,hle,hcap,_⟩
 ·rw [hn];exact Nat.zero_le _
 ·exact Nat.le_trans hle hcap
theorem arr_node {w0 w1 w7 WF:World} {nb rB dB rb h:Nat} {deep:Int} {ns:List Nd} {A:Option Addr} {c:Nat} {ys:List Value} (hI:AInv w1 nb rB dB rb h deep ns w7 A c ys) (hh:w0.heap.size + 3 ≤ h) (hot:∀ g,g ≠ w0.heap.size + 1 + 1 → WF.heap[g]? = w7.heap[g]?) (hsz:WF.heap.size = w7.heap.size) :
  NdIn WF (Since w0 WF) (.mk 6 0 ⟨#[]⟩ [] ns) [.int .i64 6,.int .i64 0,.string ⟨#[]⟩,.slice none 0 0,.slice A ns.length c]:=by
 unfold NdIn
 refine ⟨none,0,A,c,ys,rfl,RS.none_,?_,?_,by unfold I64;omega,by unfold I64;omega,by decide,by simp,by simp,own_len hI.own⟩
 ·refine ((own_RS hI.own).keep (fun p hp => World.cell?_of_block (hot p.block (by have:=hp.1;omega)))).mono (fun b hb => ⟨by have:=hb.1;omega,by rw [hsz];exact hb.2⟩)
 ·exact NdsIn.keep (fun p hp => World.cell?_of_block (hot p.block (by have:=hp.1;omega))) (fun b hb => ⟨by have:=hb.1;omega,by rw [hsz];exact hb.2.1⟩) _ _ hI.kids
theorem arr_start {w w2:World} {rb:Nat} {deep:Int} (h:VInv w rb deep w2):AIs w2 w2.heap.size w.heap.size (w.heap.size + 1) rb (w2.heap.size + 1) deep [] (w2.alloc (.cells #[.int .i64 6,.int .i64 0,.string ⟨#[]⟩,.slice none 0 0,.slice none 0 0] 25)):=
 ⟨none,0,[],Blk.new _ _ _,World.ownsRow_nil _ _ _ _,NdsIn.nil,h.rbox.alloc _,h.dbox.alloc _,grown_alloc (grown_refl _ _) _,by simp⟩
set_option maxRecDepth 100000 in
set_option maxHeartbeats 4000000 in
theorem value_arr (rb:Nat) (s:ByteArray) (deep k:Nat) (w:World) (h:RdSt w rb s k) (hk:k ≤ s.size) (hs:s.size ≤ 1000000) (hlt:k < s.size) (hdp:deep < 24) (q:bt s k = 91) (HV:Hid (∀ k' w',k < k' → k' ≤ s.size → RdSt w' rb s k' → ValC rb s (deep + 1) k' w')) (r:Except Int (Nd × List UInt8)) (hy:(s.toList.drop k).take 1 = [91])
  (hr:r = if (blanksL ((s.toList.drop k).drop 1)).head? = some 93 then .ok (.mk 6 0 ⟨#[]⟩ [] [],(blanksL ((s.toList.drop k).drop 1)).tail) else arrL deep (blanksL ((s.toList.drop k).drop 1)) []) :
  Calls Tryd.prog 46 #[.pointer (some (qa rb 0)),.int .i64 deep] w (ValEnd rb s r w):=by
 have HR:=Lib.hid hr
 have HY:=Lib.hid hy
 clear hr hy
 have hdI:¬ (24:Int) ≤ (deep:Int):=by omega
 have ne1:((k:Int) == (s.size:Int)) = false:=by rw [beq_eq_false_iff_ne];omega
 have i1:(k:Int) < (s.size:Int):=by omega
 have b0:=bt_nonneg s k
 have b1:=bt_le s k
 have hb:=get_bt s
 have V0:=Lib.hid (VInv.start w rb deep h.lt)
 have R0:Hid (RdSt (((w.alloc (.cells #[.pointer (some (qa rb 0))] 75)).alloc (.cells #[.int .i64 deep] 3)).alloc (.cells Zn 25)) rb s k):=((h.alloc _).alloc _).alloc _
 have hrb:rb < w.heap.size:=h.lt
 have i0:(0:Int) ≤ (k:Int):=by omega
 clear h
 go_enter Tryd.func46,Tryd.ntmps46
 go_wp2_with fail
 generalize (((w.alloc (.cells #[.pointer (some (qa rb 0))] 75)).alloc (.cells #[.int .i64 deep] 3)).alloc (.cells Zn 25)) = W at *
 have r0:W.cell? (qa w.heap.size 0) = some (.pointer (some (qa rb 0))):=V0.out.rbox.cell 0
 have d0:W.cell? (qa (w.heap.size + 1) 0) = some (.int .i64 deep):=V0.out.dbox.cell 0
 obtain ⟨c0,c1,c2⟩:=R0.out.cells3
 go_quiet (fail)
 go_wp2_with fail
 go_quiet (fail)
 go_wp2_with fail
 clear r0 d0 c0 c1 c2
 have V1:Hid (∀ n,VInv w rb deep (W.drewN n)):=fun n => V0.out.drewN n
 have R1:Hid (∀ n,RdSt (W.drewN n) rb s k):=fun n => R0.out
 refine (may_yes rb s ⟨#[91]⟩ k _ (R1.out _) hk hs (by rw [lit_toList [91]];exact HY.out)).mono ?_;rintro e w2 ⟨rfl,k2,hk2,e2,h9,g9⟩
 have V2:Hid (VInv w rb deep w2):=(V1.out _).next g9
 have R2:=Lib.hid h9
 have E2:=Lib.hid e2
 clear h9 g9 e2
 have r2:w2.cell? (qa w.heap.size 0) = some (.pointer (some (qa rb 0))):=V2.out.rbox.cell 0
 have d2:w2.cell? (qa (w.heap.size + 1) 0) = some (.int .i64 deep):=V2.out.dbox.cell 0
 have hmf:∀ (fn:Fn) (first cap:Array Value) (w:World),(Instr.makeFunc fn first cap).run Tryd.prog w = .ok (.func fn first cap) w:=fun _ _ _ _ => rfl
 have hk2k:k < k2:=by
  have e:=congrArg List.length E2.out
  simp only [List.length_drop,tl_len'] at e
  have e1:(⟨#[91]⟩:ByteArray).size = 1:=rfl
  omega
 have z2:=V2.out.size
 have HM:Hid (Calls Tryd.prog 62 #[.pointer (some (qa rb 0)),.string ⟨#[93]⟩,.func (.func 63) #[] #[.pointer (some (qa w2.heap.size 0)),.pointer (some (qa w.heap.size 0)),.pointer (some (qa (w.heap.size + 1) 0))]] (w2.alloc (.cells #[.int .i64 6,.int .i64 0,.string ⟨#[]⟩,.slice none 0 0,.slice none 0 0] 25)) (ManyEnd rb s w2 (AIs w2 w2.heap.size w.heap.size (w.heap.size + 1) rb (w2.heap.size + 1) deep) (fun ns => .mk 6 0 ⟨#[]⟩ [] ns) r)):=by
  have:=many1_any (arrP deep) (fun ns => .mk 6 0 ⟨#[]⟩ [] ns) 93 (fun ns l => arrL deep l ns) (AIs w2 w2.heap.size w.heap.size (w.heap.size + 1) rb (w2.heap.size + 1) deep) List.length rb s k2 w2 (qa w2.heap.size 0) (qa w.heap.size 0) (qa (w.heap.size + 1) 0) ⟨#[93]⟩ (lit_toList [93])
   (arr_many deep) (fun ns l ms r h => (arr_rest deep ns l ms r h).1) (fun ns l ms r h => (arr_rest deep ns l ms r h).2)
   (fun ns w9 w9' ⟨A,c,ys,hI⟩ g => ⟨A,c,ys,hI.next g (by omega) (by omega) (by omega) (by omega)⟩) (fun ns w9 ⟨A,c,ys,hI⟩ => hI.grow)
   (fun ns k9 w9 ⟨A,c,ys,hI⟩ hr9 hk9 hk9s hn9 => by
    refine (value1_any w2 w2.heap.size w.heap.size (w.heap.size + 1) rb (w2.heap.size + 1) deep ns s k9 w9 A c ys hI hr9 hk9s hs (by omega) (by omega) (by omega) (by omega) (by omega) (by omega) (by omega) (by omega) (by omega) (by omega) (by omega) (by omega) (Lib.hid fun w' hw' => HV.out k9 w' (by omega) hk9s hw')).mono ?_
    intro e w' hp
    unfold PartE arrP
    unfold PartEnd at hp
    cases hv:valL (deep + 1) (s.toList.drop k9) with
    | error c => rw [hv] at hp;exact hp
    | ok p => obtain ⟨n,l⟩:=p;rw [hv] at hp;exact hp)
   [] k2 _ (arr_start V2.out) (R2.out.alloc _) (Nat.le_refl _) (Nat.zero_le _) hk2 hs
  rw [E2.out] at this
  show Calls _ _ _ _ _
  rw [HR.out]
  exact this
 have ra:(w2.alloc (.cells #[.int .i64 6,.int .i64 0,.string ⟨#[]⟩,.slice none 0 0,.slice none 0 0] 25)).cell? (qa w.heap.size 0) = some (.pointer (some (qa rb 0))):=(V2.out.rbox.alloc _).cell 0
 clear HR
 cases r with
 | error c9 =>
  go_wp2_with fail
  refine HM.out.mono ?_;rintro e w9 ⟨rfl,h9,g9⟩
  have H9:=Lib.hid h9
  have G9:=Lib.hid g9
  clear h9 g9
  go_wp2_with fail
  exact ⟨rfl,ValEnd.bad rfl ⟨rfl,H9.out,G9.out⟩ V2.out.grow⟩
 | ok p =>
  obtain ⟨n,l⟩:=p
  go_wp2_with fail
  refine HM.out.mono ?_;rintro e w7 ⟨rfl,⟨ns,hn,A,c,ys,hI⟩,k7,hk7,e7,h9⟩
  subst hn
  have HI:=Lib.hid hI
  have V7:Hid (VInv w rb deep w7):=V2.out.next hI.grow
  have R7:=Lib.hid h9
  have E7:=Lib.hid e7
  obtain ⟨a0,a1,a2,a3,a4⟩:=hI.node.cells5
  clear h9 e7 hI r2 d2 ra
  have f0:=V7.out.frozen 0
  have f1:=V7.out.frozen 1
  have f2:=V7.out.frozen 2
  have f3:=V7.out.frozen 3
  have f4:=V7.out.frozen 4
  obtain ⟨z0,z1,z2,z3,z4⟩:=V7.out.res.cells5
  obtain ⟨hfin,hgr,hsz,hot⟩:=V7.out.laid (.int .i64 6) (.int .i64 0) (.string ⟨#[]⟩) (.slice none 0 0) (.slice A ns.length c)
  have HFIN:=Lib.hid hfin
  have HGR:=Lib.hid hgr
  have HSZ:=Lib.hid hsz
  have HOT:=Lib.hid hot
  clear hfin hgr hsz hot
  go_wp2_with fail
  clear a0 a1 a2 a3 a4
  clear f0 f1 f2 f3 f4 z0 z1 z2 z3 z4
  generalize (((((w7.setCell (qa (w.heap.size + 1 + 1) 0) (.int .i64 6)).setCell (qa (w.heap.size + 1 + 1) 1) (.int .i64 0)).setCell (qa (w.heap.size + 1 + 1) 2) (.string ⟨#[]⟩)).setCell (qa (w.heap.size + 1 + 1) 3) (.slice none 0 0)).setCell (qa (w.heap.size + 1 + 1) 4) (.slice A ns.length c)) = WF at *
  obtain ⟨q0,q1,q2,q3,q4⟩:=HFIN.out.cells5
  refine bodyPost_ret (v:=.agg #[.int .i64 6,.int .i64 0,.string ⟨#[]⟩,.slice none 0 0,.slice A ns.length c]) (by simp [results,Tryd.results46,go_sem,q0,q1,q2,q3,q4]) rfl ?_
  exact ValEnd.good _ _ _ _ _ _ _ _ _ rfl rfl (arr_node HI.out (by have:=V2.out.size;omega) HOT.out HSZ.out) ⟨k7,hk7,E7.out,(HOT.out rb (by omega)).trans R7.out,HGR.out⟩
set_option maxRecDepth 100000 in
set_option maxHeartbeats 4000000 in
theorem many2_any {σ:Type} (P:σ → List UInt8 → Except Int (σ × List UInt8)) (fin:σ → Nd) (c:UInt8) (F:σ → List UInt8 → Except Int (Nd × List UInt8)) (I:σ → World → Prop) (N:σ → Nat) (rb:Nat) (s:ByteArray) (k0:Nat) (w0:World) (x1 x2 x3:Addr) (t:ByteArray) (ht:t.toList = [c])
  (hF:Hid (ManyEq P fin c F)) (hP:∀ st l st' r,P st l = .ok (st',r) → Rest r l) (hN:∀ st l st' r,P st l = .ok (st',r) → N st' ≤ N st + 1) (hI:∀ st w w',I st w → w.grownBy w' (some rb) → I st w') (hI0:∀ st w,I st w → w0.grownBy w (some rb))
  (hC:∀ st k w,I st w → RdSt w rb s k → k0 ≤ k → k ≤ s.size → N st ≤ k → Calls Tryd.prog 64 #[.pointer (some x1),.pointer (some x2),.pointer (some x3)] w (PartE rb s w0 I (P st (s.toList.drop k))))
  (st0:σ) (k:Nat) (w:World) (h0:I st0 w) (hst:RdSt w rb s k) (hk0:k0 ≤ k) (hn0:N st0 ≤ k) (hk:k ≤ s.size) (hs:s.size ≤ 1000000) :
  Calls Tryd.prog 62 #[.pointer (some (qa rb 0)),.string t,.func (.func 64) #[] #[.pointer (some x1),.pointer (some x2),.pointer (some x3)]] w (ManyEnd rb s w0 I fin (if (blanksL (s.toList.drop k)).head? = some c then .ok (fin st0,(blanksL (s.toList.drop k)).tail) else F st0 (blanksL (s.toList.drop k)))):=by
 have hts:t.size = 1:=by have:=tl_len' t;rw [ht] at this;simpa using this.symm
 have HP:=Lib.hid hP
 have HN:=Lib.hid hN
 have HI:=Lib.hid hI
 have HI0:=Lib.hid hI0
 have HC:=Lib.hid hC
 have H0:=Lib.hid h0
 have HST:=Lib.hid hst
 clear hP hN hI hI0 hC h0 hst
 by_cases hc:(blanksL (s.toList.drop k)).head? = some c
 ·simp only [hc,if_true]
  go_enter Tryd.func62,Tryd.ntmps62
  go_wp2_with fail
  refine (blanks_any rb s k w HST.out hk hs).mono ?_
  rintro e w1 ⟨rfl,k1,g1,g2,g3,g4⟩
  have G1:Hid (w.grownBy w1 (some rb)):=g4
  have R1:Hid (RdSt w1 rb s k1):=g3
  have L1:Hid (s.toList.drop k1 = blanksL (s.toList.drop k)):=g2
  clear g2 g3 g4
  go_wp2_with fail
  refine (may_yes rb s t k1 w1 R1.out g1 hs (by rw [L1.out,ht];exact take_one hts hc)).mono ?_
  rintro e w2 ⟨rfl,k2,g1,g2,g3,g4⟩
  go_wp2_with fail
  go_end0
  refine ⟨rfl,⟨st0,rfl,HI.out _ _ _ (HI.out _ _ _ H0.out G1.out) g4⟩,k2,g1,?_,g3⟩
  rw [g2,L1.out,hts,List.drop_one]
 rw [if_neg hc]
 obtain ⟨V,hV⟩:∃ V,V = F st0 (blanksL (s.toList.drop k)):=⟨_,rfl⟩
 rw [← hV]
 have HV:=Lib.hid hV
 have HNC:=Lib.hid hc
 have HT1:=Lib.hid ht
 clear hV hc ht
 go_enter Tryd.func62,Tryd.ntmps62
 go_wp2_with fail
 refine (blanks_any rb s k w HST.out hk hs).mono ?_
 rintro e w1 ⟨rfl,k1,g1,g2,g3,g4⟩
 have hkk:k ≤ k1:=le_of_drop g1 hk (by rw [g2];exact blanksL_le _)
 have I1:Hid (I st0 w1):=HI.out _ _ _ H0.out g4
 have R1:Hid (RdSt w1 rb s k1):=g3
 have L1:Hid (s.toList.drop k1 = blanksL (s.toList.drop k)):=g2
 clear g2 g3 g4
 go_wp2_with fail
 refine (may_no rb s t k1 w1 R1.out g1 hs (by omega) (by rw [L1.out,HT1.out];exact take_not hts HNC.out)).mono ?_
 rintro e w2 ⟨rfl,g3,g4⟩
 have I2:Hid (I st0 w2):=HI.out _ _ _ I1.out g4
 have R2:Hid (RdSt w2 rb s k1):=g3
 have V2:Hid (V = F st0 (s.toList.drop k1)):=Lib.hid (by rw [HV.out,L1.out])
 have hk1:k0 ≤ k1:=by omega
 clear g3 g4 I1 R1 L1 HV HNC HST H0
 go_wp2_with fail
 go_loopg [] (s.size - k1) (fun g wr => ∃ (st:σ) (j:Nat),k0 ≤ j ∧ j ≤ s.size ∧ s.size - j ≤ g ∧ N st ≤ j ∧ Hid (V = F st (s.toList.drop j)) ∧ Hid (RdSt wr rb s j) ∧ Hid (I st wr))
 case atStart => exact ⟨st0,k1,hk1,g1,Nat.le_refl _,by omega,V2,R2,I2⟩
 case round =>
  clear I2 R2 V2
  obtain ⟨st,j,hj0,hj,hg,hnj,hv,hr,hi⟩:=hrel
  obtain ⟨wo,rfl⟩:∃ wo:World,wo = wr:=⟨_,rfl⟩
  obtain ⟨L,hL⟩:∃ L,L = blanksL (s.toList.drop j):=⟨_,rfl⟩
  have hLl:L.length ≤ s.size - j:=by rw [hL];have:=blanksL_le (s.toList.drop j);simpa [tl_len'] using this
  have HL:=Lib.hid hL
  have HE:Hid (V = match P st L with
   | .error e => .error e
   | .ok (st',r) => if (blanksL r).head? = some c then .ok (fin st',(blanksL r).tail) else if (blanksL r).head? = some 44 then F st' (blanksL r).tail else .error 3):=Lib.hid (by rw [hv.out,hF.out st (s.toList.drop j),← hL] <;> (rcases P st L with _ | ⟨_,_⟩ <;> rfl))
  clear hL hv
  have HC1:Hid (∀ w' k',I st w' → RdSt w' rb s k' → k0 ≤ k' → k' ≤ s.size → N st ≤ k' → s.toList.drop k' = L → Calls Tryd.prog 64 #[.pointer (some x1),.pointer (some x2),.pointer (some x3)] w' (PartE rb s w0 I (P st L))):=fun w' k' a1 a2 a3 a4 a6 a5 => by
   have:=HC.out st k' w' a1 a2 a3 a4 a6
   rw [a5] at this
   exact this
  cases hp:P st L with
  | error e0 =>
   rw [hp] at HC1
   have HX:Hid (V = .error e0):=Lib.hid (by rw [HE.out,hp])
   clear HE hp
   go_wp2_with fail
   refine (blanks_any rb s j wo hr.out hj hs).mono ?_
   rintro e w3 ⟨rfl,k3,g1,g2,g3,g4⟩
   have hjk:j ≤ k3:=le_of_drop g1 hj (by rw [g2];exact blanksL_le _)
   have I3:Hid (I st w3):=HI.out _ _ _ hi.out g4
   have R3:Hid (RdSt w3 rb s k3):=g3
   have L3:Hid (s.toList.drop k3 = L):=Lib.hid (by rw [g2,HL.out])
   clear g2 g3 g4
   go_wp2_with fail
   refine (HC1.out w3 k3 I3.out R3.out (by omega) g1 (by omega) L3.out).mono ?_
   rintro e w4 ⟨rfl,g2,g3⟩
   go_wp2_with fail
   rw [HX.out]
   exact ⟨rfl,rfl,g2,g3⟩
  | ok p =>
   obtain ⟨st2,r⟩:=p
   rw [hp] at HC1
   have hrl:r.length < L.length:=(HP.out _ _ _ _ hp).2
   have hn2:N st2 ≤ N st + 1:=HN.out _ _ _ _ hp
   have HX:Hid (V = if (blanksL r).head? = some c then .ok (fin st2,(blanksL r).tail) else if (blanksL r).head? = some 44 then F st2 (blanksL r).tail else .error 3):=Lib.hid (by rw [HE.out,hp])
   clear HE hp
   have hbr:=blanksL_le r
   by_cases hq:(blanksL r).head? = some c
   ·have HY:Hid (V = .ok (fin st2,(blanksL r).tail)):=Lib.hid (by rw [HX.out,if_pos hq])
    have HQ:=Lib.hid hq
    clear HX hq
    go_wp2_with fail
    refine (blanks_any rb s j wo hr.out hj hs).mono ?_
    rintro e w3 ⟨rfl,k3,g1,g2,g3,g4⟩
    have hjk:j ≤ k3:=le_of_drop g1 hj (by rw [g2];exact blanksL_le _)
    have I3:Hid (I st w3):=HI.out _ _ _ hi.out g4
    have R3:Hid (RdSt w3 rb s k3):=g3
    have L3:Hid (s.toList.drop k3 = L):=Lib.hid (by rw [g2,HL.out])
    clear g2 g3 g4
    go_wp2_with fail
    refine (HC1.out w3 k3 I3.out R3.out (by omega) g1 (by omega) L3.out).mono ?_
    rintro e w4 ⟨rfl,g2,k4,g3,g4,g5⟩
    have I4:Hid (I st2 w4):=g2
    have R4:Hid (RdSt w4 rb s k4):=g5
    have L4:Hid (s.toList.drop k4 = r):=g4
    have h4:k4 ≤ s.size:=g3
    clear g2 g3 g4 g5
    go_wp2_with fail
    refine (blanks_any rb s k4 w4 R4.out h4 hs).mono ?_
    rintro e w5 ⟨rfl,k5,h5,g2,g3,g4⟩
    have I5:Hid (I st2 w5):=HI.out _ _ _ I4.out g4
    have R5:Hid (RdSt w5 rb s k5):=g3
    have L5:Hid (s.toList.drop k5 = blanksL r):=Lib.hid (by rw [g2,L4.out])
    clear g2 g3 g4
    go_wp2_with fail
    refine (may_yes rb s t k5 w5 R5.out h5 hs (by rw [L5.out,HT1.out];exact take_one hts HQ.out)).mono ?_
    rintro e w6 ⟨rfl,k6,g1,g2,g3,g4⟩
    go_wp2_with fail
    rw [HY.out]
    go_end0
    refine ⟨rfl,⟨st2,rfl,HI.out _ _ _ I5.out g4⟩,k6,g1,?_,g3⟩
    rw [g2,L5.out,hts,List.drop_one]
   have HQ:=Lib.hid hq
   by_cases hm:(blanksL r).head? = some 44
   ·have HY:Hid (V = F st2 (blanksL r).tail):=Lib.hid (by rw [HX.out,if_neg hq,if_pos hm])
    have HM:=Lib.hid hm
    clear HX hq hm
    go_wp2_with fail
    refine (blanks_any rb s j wo hr.out hj hs).mono ?_
    rintro e w3 ⟨rfl,k3,g1,g2,g3,g4⟩
    have hjk:j ≤ k3:=le_of_drop g1 hj (by rw [g2];exact blanksL_le _)
    have I3:Hid (I st w3):=HI.out _ _ _ hi.out g4
    have R3:Hid (RdSt w3 rb s k3):=g3
    have L3:Hid (s.toList.drop k3 = L):=Lib.hid (by rw [g2,HL.out])
    clear g2 g3 g4
    go_wp2_with fail
    refine (HC1.out w3 k3 I3.out R3.out (by omega) g1 (by omega) L3.out).mono ?_
    rintro e w4 ⟨rfl,g2,k4,g3,g4,g5⟩
    have I4:Hid (I st2 w4):=g2
    have R4:Hid (RdSt w4 rb s k4):=g5
    have L4:Hid (s.toList.drop k4 = r):=g4
    have h4:k4 ≤ s.size:=g3
    clear g2 g3 g4 g5
    go_wp2_with fail
    refine (blanks_any rb s k4 w4 R4.out h4 hs).mono ?_
    rintro e w5 ⟨rfl,k5,h5,g2,g3,g4⟩
    have I5:Hid (I st2 w5):=HI.out _ _ _ I4.out g4
    have R5:Hid (RdSt w5 rb s k5):=g3
    have L5:Hid (s.toList.drop k5 = blanksL r):=Lib.hid (by rw [g2,L4.out])
    clear g2 g3 g4
    go_wp2_with fail
    refine (may_no rb s t k5 w5 R5.out h5 hs (by omega) (by rw [L5.out,HT1.out];exact take_not hts HQ.out)).mono ?_
    rintro e w6 ⟨rfl,g3,g4⟩
    have I6:Hid (I st2 w6):=HI.out _ _ _ I5.out g4
    have R6:Hid (RdSt w6 rb s k5):=g3
    clear g3 g4
    go_wp2_with fail
    refine (must_yes rb s ⟨#[44]⟩ k5 w6 R6.out h5 hs (by rw [L5.out,one_lit];exact take_one rfl HM.out)).mono ?_
    rintro e w7 ⟨rfl,k7,g1,g2,g3,g4⟩
    have I7:Hid (I st2 w7):=HI.out _ _ _ I6.out g4
    have R7:Hid (RdSt w7 rb s k7):=g3
    have L7:s.toList.drop k7 = (blanksL r).tail:=by rw [g2,L5.out];exact List.drop_one
    have V7:Hid (V = F st2 (s.toList.drop k7)):=Lib.hid (by rw [HY.out,L7])
    have hlt:s.size - k7 < s.size - j:=by
     have e1:=congrArg List.length L7
     have e2:=tail_le (blanksL r)
     simp only [List.length_drop,tl_len'] at e1
     omega
    clear g2 g3 g4 L7
    go_wp2_with fail
    go_roundg (gk - 1)
    case measure => omega
    case rel => exact ⟨st2,k7,by omega,g1,by omega,by omega,V7,R7,I7⟩
   have HY:Hid (V = .error 3):=Lib.hid (by rw [HX.out,if_neg hq,if_neg hm])
   have HM:=Lib.hid hm
   clear HX hq hm
   go_wp2_with fail
   refine (blanks_any rb s j wo hr.out hj hs).mono ?_
   rintro e w3 ⟨rfl,k3,g1,g2,g3,g4⟩
   have hjk:j ≤ k3:=le_of_drop g1 hj (by rw [g2];exact blanksL_le _)
   have I3:Hid (I st w3):=HI.out _ _ _ hi.out g4
   have R3:Hid (RdSt w3 rb s k3):=g3
   have L3:Hid (s.toList.drop k3 = L):=Lib.hid (by rw [g2,HL.out])
   clear g2 g3 g4
   go_wp2_with fail
   refine (HC1.out w3 k3 I3.out R3.out (by omega) g1 (by omega) L3.out).mono ?_
   rintro e w4 ⟨rfl,g2,k4,g3,g4,g5⟩
   have I4:Hid (I st2 w4):=g2
   have R4:Hid (RdSt w4 rb s k4):=g5
   have L4:Hid (s.toList.drop k4 = r):=g4
   have h4:k4 ≤ s.size:=g3
   clear g2 g3 g4 g5
   go_wp2_with fail
   refine (blanks_any rb s k4 w4 R4.out h4 hs).mono ?_
   rintro e w5 ⟨rfl,k5,h5,g2,g3,g4⟩
   have I5:Hid (I st2 w5):=HI.out _ _ _ I4.out g4
   have R5:Hid (RdSt w5 rb s k5):=g3
   have L5:Hid (s.toList.drop k5 = blanksL r):=Lib.hid (by rw [g2,L4.out])
   clear g2 g3 g4
   go_wp2_with fail
   refine (may_no rb s t k5 w5 R5.out h5 hs (by omega) (by rw [L5.out,HT1.out];exact take_not hts HQ.out)).mono ?_
   rintro e w6 ⟨rfl,g3,g4⟩
   have I6:Hid (I st2 w6):=HI.out _ _ _ I5.out g4
   have R6:Hid (RdSt w6 rb s k5):=g3
   clear g3 g4
   go_wp2_with fail
   refine (must_no rb s ⟨#[44]⟩ k5 w6 R6.out h5 hs (by decide) (by rw [L5.out,one_lit];exact take_not rfl HM.out)).mono ?_
   rintro e w7 ⟨rfl,g2,g3⟩
   go_wp2_with fail
   rw [HY.out]
   exact ⟨rfl,rfl,g2,(HI0.out _ _ I6.out).trans g3⟩
end Go.Proofs.YthbjehbpanhdoaaDoor
