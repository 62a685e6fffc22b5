/- Texts of one seat,one behind the other: Jval6,Rp5,Jval7,Jpar0,Jpar1,Pj5,Pj6,Pj7,Rput,Rprint,Jlaw0,Perr,Rp6,Rp7,Rp8,Ck0,Ob0,Ob1,Tx,Ck0b,Ck0c,Ck1,Rs0. No condition. -/
import Derived.Test.YthbjehbpanhdoaaDoorN7
import Derived.Defers
import Derived.Recover
import Derived.Laws.Pointers
import Derived.OpenShut
import Derived.Lib.SlBytesConst
import Derived.Lib.SmallJoins
import Derived.Deep.DeepCutAuto
namespace Go.Proofs.YthbjehbpanhdoaaDoor
open Go.RowKit Go.PlainAid
set_option linter.unusedVariables false
set_option linter.unusedSimpArgs false
def objP (deep:Nat) (st:List ByteArray × List Nd) (l:List UInt8):Except Int ((List ByteArray × List Nd) × List UInt8):=
 match kidL deep l st.1 with
 | .error e => .error e
 | .ok (t,n,r) => .ok ((st.1 ++ [⟨t.toArray⟩],st.2 ++ [n]),r)
def objN (st:List ByteArray × List Nd):Nat:=max st.1.length st.2.length
theorem obj_many (deep:Nat):ManyEq (objP deep) (fun st:List ByteArray × List Nd => .mk 7 0 ⟨#[]⟩ st.1 st.2) 125 (fun (st:List ByteArray × List Nd) l => objL deep l st.1 st.2):=by
 intro st l
 show objL deep l st.1 st.2 = _
 rw [objL_eq]
 unfold objP kidL
 cases textL (blanksL l) with
 | none => rfl
 | some p =>
  obtain ⟨k,r⟩:=p
  simp only
  split
  ·rfl
  split
  ·cases valL (deep + 1) (blanksL (blanksL r).tail) with
   | error e => rfl
   | ok p => rfl
  ·rfl
theorem kid_rest {deep:Nat} {l:List UInt8} {ks:List ByteArray} {t:List UInt8} {n:Nd} {r:List UInt8} (h:kidL deep l ks = .ok (t,n,r)):Rest r l:=by
 unfold kidL at h
 cases ht:textL l with
 | none => rw [ht] at h;cases h
 | some p =>
  obtain ⟨k,r0⟩:=p
  rw [ht] at h
  simp only at h
  split at h
  ·cases h
  split at h
  ·rename_i h58
   cases hv:valL (deep + 1) (blanksL (blanksL r0).tail) with
   | error e => rw [hv] at h;cases h
   | ok p =>
    obtain ⟨x,r1⟩:=p
    rw [hv] at h
    simp only [Except.ok.injEq,Prod.mk.injEq] at h
    obtain ⟨rfl,rfl,rfl⟩:=h
    have h1:Rest r0 l:=textL_le ht
    have h2:=(valL_le hv).blanks
    exact h2.trans (((List.tail_suffix _).trans (blanksL_suf r0)).trans h1.1)
  ·cases h
theorem obj_rest (deep:Nat) (st:List ByteArray × List Nd) (l:List UInt8) (ms:List ByteArray × List Nd) (r:List UInt8) (h:objP deep st l = .ok (ms,r)):Rest r l ∧ objN ms ≤ objN st + 1:=by
 unfold objP at h
 cases hv:kidL deep l st.1 with
 | error e => rw [hv] at h;cases h
 | ok p =>
  obtain ⟨t,n,r'⟩:=p
  rw [hv] at h
  simp only [Except.ok.injEq,Prod.mk.injEq] at h
  obtain ⟨rfl,rfl⟩:=h
  refine ⟨kid_rest hv,?_⟩
  unfold objN
  simp only [List.length_append,List.length_cons,List.length_nil]
  omega
theorem key_le:∀ (ms:List Nd) (kk:List ByteArray),kk.length = ms.length → ∀ k ∈ kk,k.size ≤ (putL true kk ms true).length
 | [],[],_,k,hk => by simp at hk
 | [],_ :: _,h,_,_ => by simp at h
 | n :: ms,[],h,_,_ => by simp at h
 | n :: ms,a :: kk,h,k,hk => by
  rw [putL_len,if_pos rfl,List.headD_cons,List.tail_cons]
  rcases List.mem_cons.1 hk with rfl | hk
  ·have:=quote_ge k.toList
   rw [tl_len'] at this
   omega
  ·have:=key_le ms kk (by simpa using h) k hk
   have hne:ms ≠ []:=by
    rintro rfl
    have:kk = []:=List.eq_nil_of_length_eq_zero (by simpa using h)
    subst this;simp at hk
   rw [if_neg hne]
   omega
theorem obj_keys {deep:Nat} {l:List UInt8} {ks:List ByteArray} {ns:List Nd} {r:List UInt8} (hd:deep < 24) (h:objL deep l [] [] = .ok (.mk 7 0 ⟨#[]⟩ ks ns,r)):∀ k ∈ ks,k.size ≤ l.length:=by
 obtain ⟨kk,ms,_,h2,h3,_,_,_,h4⟩:=(val_ok _).2.2 deep l [] [] _ r (Nat.le_refl _) hd h
 simp only [List.nil_append,Nd.mk.injEq,true_and] at h3
 obtain ⟨rfl,rfl⟩:=h3
 intro k hk
 have:=key_le ns ks h2 k hk
 omega
theorem obj_node {w0 w1 w7 WF:World} {nb rB dB rb h:Nat} {deep:Int} {ks:List ByteArray} {ns:List Nd} {K:Option Addr} {kc:Nat} {A:Option Addr} {c:Nat} {ys:List Value} (hI:OInv w1 nb rB dB rb h deep ks ns w7 K kc A c ys) (hks:∀ k ∈ ks,k.size ≤ 1000000000) (hh:w0.heap.size + 3 ≤ h) (hot:∀ g,g ≠ w0.heap.size + 1 + 1 → WF.heap[g]? = w7.heap[g]?) (hsz:WF.heap.size = w7.heap.size) :
  NdIn WF (Since w0 WF) (.mk 7 0 ⟨#[]⟩ ks ns) [.int .i64 7,.int .i64 0,.string ⟨#[]⟩,.slice K ks.length kc,.slice A ns.length c]:=by
 unfold NdIn
 refine ⟨K,kc,A,c,ys,rfl,?_,?_,?_,by unfold I64;omega,by unfold I64;omega,by decide,fun k hk => by have:=hks k hk;simp only [maxLen];omega,own_len hI.keys,own_len hI.own⟩
 ·refine ((own_RS hI.keys).keep (fun p hp => World.cell?_of_block (hot p.block (by have:=hp.1;omega)))).mono (fun b hb => ⟨by have:=hb.1;omega,by rw [hsz];exact hb.2⟩)
 ·refine ((own_RS hI.own).keep (fun p hp => World.cell?_of_block (hot p.block (by have:=hp.1;omega)))).mono (fun b hb => ⟨by have:=hb.1;omega,by rw [hsz];exact hb.2⟩)
 ·exact NdsIn.keep (fun p hp => World.cell?_of_block (hot p.block (by have:=hp.1.1;omega))) (fun b hb => ⟨by have:=hb.1.1;omega,by rw [hsz];exact hb.1.2.1⟩) _ _ hI.kids
theorem obj_start {w w2:World} {rb:Nat} {deep:Int} (h:VInv w rb deep w2):OIs w2 w2.heap.size w.heap.size (w.heap.size + 1) rb (w2.heap.size + 1) deep [] [] (w2.alloc (.cells #[.int .i64 7,.int .i64 0,.string ⟨#[]⟩,.slice none 0 0,.slice none 0 0] 25)):=
 ⟨none,0,none,0,[],Blk.new _ _ _,World.ownsRow_nil _ _ _ _,World.ownsRow_nil _ _ _ _,NdsIn.nil,h.rbox.alloc _,h.dbox.alloc _,grown_alloc (grown_refl _ _) _,by simp⟩
set_option maxRecDepth 100000 in
set_option maxHeartbeats 4000000 in
theorem value_obj (rb:Nat) (s:ByteArray) (deep k:Nat) (w:World) (h:RdSt w rb s k) (hk:k ≤ s.size) (hs:s.size ≤ 1000000) (hlt:k < s.size) (hdp:deep < 24) (q:bt s k = 123) (u:UInt8) (rest:List UInt8) (hd:s.toList.drop k = u :: rest) (hu:bt s k = u.toNat) (HV:Hid (∀ k' w',k < k' → k' ≤ s.size → RdSt w' rb s k' → ValC rb s (deep + 1) k' w')) (r:Except Int (Nd × List UInt8)) (hy:(s.toList.drop k).take 1 = [123])
  (hr:r = if (blanksL ((s.toList.drop k).drop 1)).head? = some 125 then .ok (.mk 7 0 ⟨#[]⟩ [] [],(blanksL ((s.toList.drop k).drop 1)).tail) else objL deep (blanksL ((s.toList.drop k).drop 1)) [] []) :
  Calls Tryd.prog 46 #[.pointer (some (qa rb 0)),.int .i64 deep] w (ValEnd rb s r w):=by
 have HR:=Lib.hid hr
 have HY:=Lib.hid hy
 have une:∀ c:UInt8,¬ bt s k = c.toNat → u ≠ c:=fun c h e => h (by rw [hu,e])
 have q91:¬ bt s k = 91:=by omega
 have HU91:=Lib.hid (une 91 q91)
 have HD:=Lib.hid hd
 clear hr hy hd hu une
 have n91:(bt s k == 91) = false:=by rw [beq_eq_false_iff_ne];exact q91
 have hdI:¬ (24:Int) ≤ (deep:Int):=by omega
 have ne1:((k:Int) == (s.size:Int)) = false:=by rw [beq_eq_false_iff_ne];omega
 have i1:(k:Int) < (s.size:Int):=by omega
 have b0:=bt_nonneg s k
 have b1:=bt_le s k
 have hb:=get_bt s
 have V0:=Lib.hid (VInv.start w rb deep h.lt)
 have R0:Hid (RdSt (((w.alloc (.cells #[.pointer (some (qa rb 0))] 75)).alloc (.cells #[.int .i64 deep] 3)).alloc (.cells Zn 25)) rb s k):=((h.alloc _).alloc _).alloc _
 have hrb:rb < w.heap.size:=h.lt
 have i0:(0:Int) ≤ (k:Int):=by omega
 clear h
 go_enter Tryd.func46,Tryd.ntmps46
 go_wp2_with fail
 generalize (((w.alloc (.cells #[.pointer (some (qa rb 0))] 75)).alloc (.cells #[.int .i64 deep] 3)).alloc (.cells Zn 25)) = W at *
 have r0:W.cell? (qa w.heap.size 0) = some (.pointer (some (qa rb 0))):=V0.out.rbox.cell 0
 have d0:W.cell? (qa (w.heap.size + 1) 0) = some (.int .i64 deep):=V0.out.dbox.cell 0
 obtain ⟨c0,c1,c2⟩:=R0.out.cells3
 go_quiet (fail)
 go_wp2_with fail
 go_quiet (fail)
 go_wp2_with fail
 clear r0 d0 c0 c1 c2
 have V1:Hid (∀ n,VInv w rb deep (W.drewN n)):=fun n => V0.out.drewN n
 have R1:Hid (∀ n,RdSt (W.drewN n) rb s k):=fun n => R0.out
 refine (may_no rb s ⟨#[91]⟩ k _ (R1.out _) hk hs (by decide) (by rw [lit_toList [91]];exact fst_ne HD.out HU91.out)).mono ?_;rintro e w2 ⟨rfl,h9,g9⟩
 have V2:Hid (VInv w rb deep w2):=(V1.out _).next g9
 have R2:=Lib.hid h9
 clear h9 g9
 have r2:w2.cell? (qa w.heap.size 0) = some (.pointer (some (qa rb 0))):=V2.out.rbox.cell 0
 have d2:w2.cell? (qa (w.heap.size + 1) 0) = some (.int .i64 deep):=V2.out.dbox.cell 0
 go_wp2_with fail
 refine (may_yes rb s ⟨#[123]⟩ k _ R2.out hk hs (by rw [lit_toList [123]];exact HY.out)).mono ?_;rintro e w3 ⟨rfl,k3,hk3,e3,h9,g9⟩
 have V3:Hid (VInv w rb deep w3):=V2.out.next g9
 have R3:=Lib.hid h9
 have E3:=Lib.hid e3
 clear h9 g9 e3
 clear r2 d2
 have r3:w3.cell? (qa w.heap.size 0) = some (.pointer (some (qa rb 0))):=V3.out.rbox.cell 0
 have d3:w3.cell? (qa (w.heap.size + 1) 0) = some (.int .i64 deep):=V3.out.dbox.cell 0
 have hmf:∀ (fn:Fn) (first cap:Array Value) (w:World),(Instr.makeFunc fn first cap).run Tryd.prog w = .ok (.func fn first cap) w:=fun _ _ _ _ => rfl
 have hk2k:k < k3:=by
  have e:=congrArg List.length E3.out
  simp only [List.length_drop,tl_len'] at e
  have e1:(⟨#[123]⟩:ByteArray).size = 1:=rfl
  omega
 have z2:=V3.out.size
 have HKS0:Hid (∀ ks ns l,r = .ok (.mk 7 0 ⟨#[]⟩ ks ns,l) → ∀ q ∈ ks,q.size ≤ 1000000000):=Lib.hid (by
  intro ks ns l e q hq
  rw [HR.out] at e
  split at e
  ·simp only [Except.ok.injEq,Prod.mk.injEq,Nd.mk.injEq,true_and] at e
   rw [← e.1.1] at hq
   cases hq
  ·have h1:=obj_keys hdp e q hq
   have h2:=blanksL_le ((s.toList.drop k).drop 1)
   simp only [List.length_drop,tl_len'] at h2
   omega)
 have HM:Hid (Calls Tryd.prog 62 #[.pointer (some (qa rb 0)),.string ⟨#[125]⟩,.func (.func 64) #[] #[.pointer (some (qa w.heap.size 0)),.pointer (some (qa w3.heap.size 0)),.pointer (some (qa (w.heap.size + 1) 0))]] (w3.alloc (.cells #[.int .i64 7,.int .i64 0,.string ⟨#[]⟩,.slice none 0 0,.slice none 0 0] 25)) (ManyEnd rb s w3 (fun st:List ByteArray × List Nd => OIs w3 w3.heap.size w.heap.size (w.heap.size + 1) rb (w3.heap.size + 1) deep st.1 st.2) (fun st:List ByteArray × List Nd => .mk 7 0 ⟨#[]⟩ st.1 st.2) r)):=by
  have:=many2_any (objP deep) (fun st:List ByteArray × List Nd => .mk 7 0 ⟨#[]⟩ st.1 st.2) 125 (fun (st:List ByteArray × List Nd) l => objL deep l st.1 st.2) (fun st:List ByteArray × List Nd => OIs w3 w3.heap.size w.heap.size (w.heap.size + 1) rb (w3.heap.size + 1) deep st.1 st.2) objN rb s k3 w3 (qa w.heap.size 0) (qa w3.heap.size 0) (qa (w.heap.size + 1) 0) ⟨#[125]⟩ (lit_toList [125])
   (obj_many deep) (fun ns l ms r h => (obj_rest deep ns l ms r h).1) (fun ns l ms r h => (obj_rest deep ns l ms r h).2)
   (fun st w9 w9' ⟨K,kc,A,c,ys,hI⟩ g => ⟨K,kc,A,c,ys,hI.next g (by omega) (by omega) (by omega) (by omega)⟩) (fun st w9 ⟨K,kc,A,c,ys,hI⟩ => hI.grow)
   (fun st k9 w9 ⟨K,kc,A,c,ys,hI⟩ hr9 hk9 hk9s hn9 => by
    have hn9':max st.1.length st.2.length ≤ k9:=hn9
    refine (value2_any w3 w3.heap.size w.heap.size (w.heap.size + 1) rb (w3.heap.size + 1) deep st.1 st.2 s k9 w9 K kc A c ys hI hr9 hk9s hs (by omega) (by omega) (by omega) (by omega) (by omega) (by omega) (by omega) (by omega) (by omega) (by omega) (by omega) (by omega) (by omega) (Lib.hid fun k' w' hkk hk's hw' => HV.out k' w' (by omega) hk's hw')).mono ?_
    intro e w' hp
    unfold PartE objP
    unfold PartO at hp
    cases hv:kidL deep (s.toList.drop k9) st.1 with
    | error c => rw [hv] at hp;exact hp
    | ok p => obtain ⟨t,n,l⟩:=p;rw [hv] at hp;exact hp)
   ([],[]) k3 _ (obj_start V3.out) (R3.out.alloc _) (Nat.le_refl _) (Nat.zero_le _) hk3 hs
  rw [E3.out] at this
  show Calls _ _ _ _ _
  rw [HR.out]
  exact this
 have ra:(w3.alloc (.cells #[.int .i64 7,.int .i64 0,.string ⟨#[]⟩,.slice none 0 0,.slice none 0 0] 25)).cell? (qa w.heap.size 0) = some (.pointer (some (qa rb 0))):=(V3.out.rbox.alloc _).cell 0
 clear HR
 cases r with
 | error c9 =>
  go_wp2_with fail
  refine HM.out.mono ?_;rintro e w9 ⟨rfl,h9,g9⟩
  have H9:=Lib.hid h9
  have G9:=Lib.hid g9
  clear h9 g9
  go_wp2_with fail
  exact ⟨rfl,ValEnd.bad rfl ⟨rfl,H9.out,G9.out⟩ V3.out.grow⟩
 | ok p =>
  obtain ⟨n,l⟩:=p
  go_wp2_with fail
  refine HM.out.mono ?_;rintro e w7 ⟨rfl,⟨⟨ks,ns⟩,hn,K,kc,A,c,ys,hI⟩,k7,hk7,e7,h9⟩
  subst hn
  have HKS:=Lib.hid (HKS0.out ks ns l rfl)
  have HI:=Lib.hid hI
  have V7:Hid (VInv w rb deep w7):=V3.out.next hI.grow
  have R7:=Lib.hid h9
  have E7:=Lib.hid e7
  obtain ⟨a0,a1,a2,a3,a4⟩:=hI.node.cells5
  clear h9 e7 hI r3 d3 ra
  have f0:=V7.out.frozen 0
  have f1:=V7.out.frozen 1
  have f2:=V7.out.frozen 2
  have f3:=V7.out.frozen 3
  have f4:=V7.out.frozen 4
  obtain ⟨z0,z1,z2,z3,z4⟩:=V7.out.res.cells5
  obtain ⟨hfin,hgr,hsz,hot⟩:=V7.out.laid (.int .i64 7) (.int .i64 0) (.string ⟨#[]⟩) (.slice K ks.length kc) (.slice A ns.length c)
  have HFIN:=Lib.hid hfin
  have HGR:=Lib.hid hgr
  have HSZ:=Lib.hid hsz
  have HOT:=Lib.hid hot
  clear hfin hgr hsz hot
  go_wp2_with fail
  clear a0 a1 a2 a3 a4
  clear f0 f1 f2 f3 f4 z0 z1 z2 z3 z4
  generalize (((((w7.setCell (qa (w.heap.size + 1 + 1) 0) (.int .i64 7)).setCell (qa (w.heap.size + 1 + 1) 1) (.int .i64 0)).setCell (qa (w.heap.size + 1 + 1) 2) (.string ⟨#[]⟩)).setCell (qa (w.heap.size + 1 + 1) 3) (.slice K ks.length kc)).setCell (qa (w.heap.size + 1 + 1) 4) (.slice A ns.length c)) = WF at *
  obtain ⟨q0,q1,q2,q3,q4⟩:=HFIN.out.cells5
  refine bodyPost_ret (v:=.agg #[.int .i64 7,.int .i64 0,.string ⟨#[]⟩,.slice K ks.length kc,.slice A ns.length c]) (by simp [results,Tryd.results46,go_sem,q0,q1,q2,q3,q4]) rfl ?_
  exact ValEnd.good _ _ _ _ _ _ _ _ _ rfl rfl (obj_node HI.out HKS.out (by have:=V3.out.size;omega) HOT.out HSZ.out) ⟨k7,hk7,E7.out,(HOT.out rb (by omega)).trans R7.out,HGR.out⟩
structure LInv (w0:World) (rb:Nat) (kd:Int) (ks:List ByteArray) (ns:List Nd) (w:World) (K:Option Addr) (kc:Nat) (A:Option Addr) (c:Nat) (ys:List Value):Prop where
 node:Blk w (w0.heap.size + 1) 25 #[.int .i64 kd,.int .i64 0,.string ⟨#[]⟩,.slice K ks.length kc,.slice A ns.length c]
 keys:w.ownsRow (w0.heap.size + 2) 9 1 (.slice K ks.length kc) ks.length (ks.map Value.string)
 own:w.ownsRow (w0.heap.size + 2) 25 5 (.slice A ns.length c) ns.length ys
 kids:NdsIn w (fun b => SK (w0.heap.size + 2) w (.slice A ns.length c) b ∧ (Value.slice K ks.length kc).ownBlock ≠ some b) ns ys
 res:Blk w w0.heap.size 25 Zn
 grow:w0.grownBy w (some rb)
 size:w0.heap.size + 2 ≤ w.heap.size
def EInv (w0:World) (rb:Nat) (kd:Int) (w:World):Prop:=(∃ (K:Option Addr) (a kc:Nat) (A:Option Addr) (b c:Nat),Blk w (w0.heap.size + 1) 25 #[.int .i64 kd,.int .i64 0,.string ⟨#[]⟩,.slice K a kc,.slice A b c]) ∧
 Blk w w0.heap.size 25 Zn ∧ w0.grownBy w (some rb)
theorem set_far {w3:World} {nb i:Nat} {v:Value} {b:Nat} (h:b ≠ nb):(w3.setCell (qa nb i) v).heap[b]? = w3.heap[b]?:=Below.heap_setCell _ _ _ _ h
theorem valL_nil (deep:Nat):valL deep [] = .error 3:=by
 have hn:numL [] = none:=by
  unfold numL numTail
  rw [if_neg (by simp),if_pos (.inl rfl)]
 rw [valL_else _ _ (by simp) (by simp) (by simp),if_neg (by simp),if_neg (by simp),if_neg (by simp),hn]
theorem value_any (rb:Nat) (s:ByteArray) (hs:s.size ≤ 1000000):∀ (m k deep:Nat) (w:World),s.size - k < m → deep ≤ 24 → k ≤ s.size → RdSt w rb s k → ValC rb s deep k w:=by
 intro m
 induction m with
 | zero => intro k deep w hm;omega
 | succ m ih =>
  intro k deep w hm hd24 hk h
  by_cases hlt:k < s.size
  case neg => exact value_end rb s deep k w h hk hs hlt _ (by rw [drop_end s k (by omega)];exact valL_nil deep)
  obtain ⟨u,hu,hd⟩:=drop_cons s k hlt
  have hne:∀ c:UInt8,¬ bt s k = c.toNat → (s.toList.drop k).head? ≠ some c:=fun c h e => by
   rw [hd] at e
   simp at e
   exact h (by rw [hu,e])
  have heq:∀ c:UInt8,bt s k = c.toNat → (s.toList.drop k).head? = some c:=fun c h => by
   rw [hd]
   have:u = c:=UInt8.toNat_inj.1 (by omega)
   rw [this];rfl
  have IH:∀ (deep:Nat),deep < 24 → Hid (∀ k' w',k < k' → k' ≤ s.size → RdSt w' rb s k' → ValC rb s (deep + 1) k' w'):=fun deep hd k' w' h1 h2 h3 => ih k' (deep + 1) w' (by omega) (by omega) h2 h3
  by_cases q91:bt s k = 91
  ·have hh:=heq 91 q91
   by_cases hdp:24 ≤ deep
   ·exact value_deep_arr rb s deep k w h hk hs hlt hdp hd24 q91 _ (valL_deep deep _ (.inl hh) hdp)
   ·exact value_arr rb s deep k w h hk hs hlt (by omega) q91 (IH deep (by omega)) _ (take_one rfl hh) (by rw [valL_arr deep _ hh hdp,List.drop_one])
  by_cases q123:bt s k = 123
  ·have hh:=heq 123 q123
   by_cases hdp:24 ≤ deep
   ·exact value_deep_obj rb s deep k w h hk hs hlt hdp hd24 q123 _ (valL_deep deep _ (.inr hh) hdp)
   ·exact value_obj rb s deep k w h hk hs hlt (by omega) q123 u _ hd hu (IH deep (by omega)) _ (take_one rfl hh) (by rw [valL_obj deep _ hh hdp,List.drop_one])
  by_cases q34:bt s k = 34
  ·exact value_str rb s deep k w h hk hs hlt q34 u _ hd hu _ (valL_str deep _ (heq 34 q34))
  have hr:=valL_else deep _ (hne 91 q91) (hne 123 q123) (hne 34 q34)
  by_cases t1:(s.toList.drop k).take 4 = [110,117,108,108]
  ·exact value_null rb s deep k w h hk hs hlt q91 q123 q34 u _ hd hu t1 _ (by rw [hr,if_pos t1])
  rw [if_neg t1] at hr
  by_cases t2:(s.toList.drop k).take 5 = [102,97,108,115,101]
  ·exact value_false rb s deep k w h hk hs hlt q91 q123 q34 u _ hd hu t1 t2 _ (by rw [hr,if_pos t2])
  rw [if_neg t2] at hr
  by_cases t3:(s.toList.drop k).take 4 = [116,114,117,101]
  ·exact value_true rb s deep k w h hk hs hlt q91 q123 q34 u _ hd hu t1 t2 t3 _ (by rw [hr,if_pos t3])
  rw [if_neg t3] at hr
  exact value_num rb s deep k w h hk hs hlt q91 q123 q34 u _ hd hu t1 t2 t3 _ hr
theorem catch_idle (p q r:Addr) (w:World) :
  CallsD Tryd.prog 44 #[.pointer (some p),.pointer (some q),.pointer (some r)] .returning w fun e u' w' => e = .returned (.tuple #[]) ∧ u' = .returning ∧ w' = w:=by
 refine callsD_of_wpS Tryd.func44 rfl fun c₀ cs hu => ?_
 apply wpS_seq
 apply wpS_region
 simp [wpOpsS,go_sem,recoverD,hu,Tryd.ntmps44,Exit.thenS]
 refine wpS_cond (t:=false) (by simp [Act.eval,Array.replicate]) ?_
 simp only [Bool.false_eq_true,if_false]
 refine wpS_of_wp (wp_skip ?_)
 cases c₀
 simp_all [bodyPostS,results,Tryd.results44]
set_option maxRecDepth 100000 in
set_option maxHeartbeats 2000000 in
theorem catch_bad (pb rb g h:Nat) (c:Int) (u:TypeId) (pv:Value) (older:List PanicEntry) (s:Value) (k:Value) (v0 v1 v2 v3 v4 x:Value) (w:World)
  (hp:Blk w pb 75 #[.pointer (some ⟨rb,0,none⟩)]) (hr:Blk w rb 77 #[s,k,.int .i64 c]) (hg:Blk w g 25 #[v0,v1,v2,v3,v4]) (hh:Blk w h 59 #[x]) :
  CallsD Tryd.prog 44 #[.pointer (some ⟨pb,0,none⟩),.pointer (some ⟨g,0,none⟩),.pointer (some ⟨h,0,none⟩)] (.panicking ({ v:=.iface u pv,recovered:=false } :: older)) w fun e u' w' =>
   e = .returned (.tuple #[]) ∧ u' = .panicking ({ v:=.iface u pv,recovered:=true } :: older) ∧ w' = (((((w.setCell ⟨g,0,none⟩ (.int .i64 0)).setCell ⟨g,1,none⟩ (.int .i64 0)).setCell ⟨g,2,none⟩ (.string ⟨#[]⟩)).setCell ⟨g,3,none⟩ (.slice none 0 0)).setCell ⟨g,4,none⟩ (.slice none 0 0)).setCell ⟨h,0,none⟩ (.int .i64 c):=by
 have p0:w.cell? ⟨pb,0,none⟩ = some (.pointer (some ⟨rb,0,none⟩)):=hp.cell 0
 have r2:w.cell? ⟨rb,2,none⟩ = some (.int .i64 c):=hr.cell 2
 obtain ⟨g0,g1,g2,g3,g4⟩:=hg.cells5
 have f0:=hg.frozen 0
 have f1:=hg.frozen 1
 have f2:=hg.frozen 2
 have f3:=hg.frozen 3
 have f4:=hg.frozen 4
 have hne:h ≠ g:=(hh.ne_ hg (by decide))
 have h0:w.cell? ⟨h,0,none⟩ = some x:=hh.cell 0
 have e0:=hh.frozen 0
 refine callsD_of_wpS Tryd.func44 rfl fun c₀ cs hu => ?_
 apply wpS_seq
 apply wpS_region
 simp [wpOpsS,go_sem,recoverD,hu,Tryd.ntmps44,Exit.thenS]
 refine wpS_cond (t:=true) (by simp [Act.eval,Array.replicate]) ?_
 simp only [if_true]
 refine wpS_of_wp ?_
 go_wp2
 simp [bodyPostS,results,Tryd.results44]
def ParseEnd (r:Except Int Nd) (w:World) (e:Ending) (w':World):Prop:=
 match r with
 | .error c => e = .returned (.tuple #[.agg Zn,.int .i64 c]) ∧ Below w.heap.size w w'
 | .ok n => ∃ (c0 c1:Int) (c2:ByteArray) (c3:Option Addr) (c4 c5:Nat) (c6:Option Addr) (c7 c8:Nat),
   e = .returned (.tuple #[.agg (nA c0 c1 c2 c3 c4 c5 c6 c7 c8),.int .i64 0]) ∧ NdIn w' (Since w w') n (nL c0 c1 c2 c3 c4 c5 c6 c7 c8) ∧ Below w.heap.size w w'
structure PInv (w0:World) (vs:Array Value) (w:World):Prop where
 res:Blk w w0.heap.size 25 vs
 err:Blk w (w0.heap.size + 1) 59 #[.int .i64 0]
 ptr:Blk w (w0.heap.size + 1 + 1 + 1) 75 #[.pointer (some (qa (w0.heap.size + 1 + 1) 0))]
 low:Below w0.heap.size w0 w
 size:w0.heap.size + 4 ≤ w.heap.size
theorem PInv.start (w:World) (s:ByteArray):PInv w Zn ((((w.alloc (.cells Zn 25)).alloc (.cells #[.int .i64 0] 59)).alloc (.cells #[.string s,.int .i64 0,.int .i64 0] 77)).alloc (.cells #[.pointer (some (qa (w.heap.size + 1 + 1) 0))] 75)) ∧
  RdSt ((((w.alloc (.cells Zn 25)).alloc (.cells #[.int .i64 0] 59)).alloc (.cells #[.string s,.int .i64 0,.int .i64 0] 77)).alloc (.cells #[.pointer (some (qa (w.heap.size + 1 + 1) 0))] 75)) (w.heap.size + 1 + 1) s 0:=by
 have e1:=Blk.new w 25 Zn
 generalize hw1:w.alloc (.cells Zn 25) = w1 at *
 have s1:w1.heap.size = w.heap.size + 1:=by rw [← hw1];simp
 have l1:Below w.heap.size w w1:=by rw [← hw1];exact (Below.refl _ _).alloc (Nat.le_refl _) _
 have e2:=Blk.new w1 59 #[.int .i64 0]
 have e1':=e1.alloc (.cells #[.int .i64 0] 59)
 have l2:=l1.alloc l1.size (.cells #[.int .i64 0] 59)
 generalize hw2:w1.alloc (.cells #[.int .i64 0] 59) = w2 at *
 have s2:w2.heap.size = w.heap.size + 1 + 1:=by rw [← hw2];simp [s1]
 have e3:=Blk.new w2 77 #[.string s,.int .i64 0,.int .i64 0]
 have e2':=e2.alloc (.cells #[.string s,.int .i64 0,.int .i64 0] 77)
 have e1'':=e1'.alloc (.cells #[.string s,.int .i64 0,.int .i64 0] 77)
 have l3:=l2.alloc l2.size (.cells #[.string s,.int .i64 0,.int .i64 0] 77)
 generalize hw3:w2.alloc (.cells #[.string s,.int .i64 0,.int .i64 0] 77) = w3 at *
 have s3:w3.heap.size = w.heap.size + 1 + 1 + 1:=by rw [← hw3];simp [s2]
 have e4:=Blk.new w3 75 #[.pointer (some (qa (w.heap.size + 1 + 1) 0))]
 have e3':=e3.alloc (.cells #[.pointer (some (qa (w.heap.size + 1 + 1) 0))] 75)
 have e2'':=e2'.alloc (.cells #[.pointer (some (qa (w.heap.size + 1 + 1) 0))] 75)
 have e1''':=e1''.alloc (.cells #[.pointer (some (qa (w.heap.size + 1 + 1) 0))] 75)
 have l4:=l3.alloc l3.size (.cells #[.pointer (some (qa (w.heap.size + 1 + 1) 0))] 75)
 rw [s3] at e4
 rw [s2] at e3'
 rw [s1] at e2''
 exact ⟨⟨e1''',e2'',e4,l4,by simp [s3]⟩,e3'⟩
theorem PInv.next {w0 w w':World} {vs:Array Value} (h:PInv w0 vs w) (g:w.grownBy w' (some (w0.heap.size + 1 + 1))):PInv w0 vs w':=by
 refine ⟨h.res.grown g (by intro e;injection e with e;omega),h.err.grown g (by intro e;injection e with e;omega),h.ptr.grown g (by intro e;injection e with e;omega),?_,Nat.le_trans h.size g.size⟩
 exact h.low.trans ⟨g.os,g.tape,g.output,by have:=h.size;have:=g.size;omega,fun i hi => g.block i (by have:=h.size;omega) (by intro e;injection e with e;omega)⟩
theorem PInv.drewN {w0 w:World} {vs:Array Value} (h:PInv w0 vs w) (n:Nat):PInv w0 vs (w.drewN n):=h.next (grown_drewN (grown_refl _ _) n)
theorem PInv.laid {w0 w:World} {v0 v1 v2 v3 v4:Value} (h:PInv w0 #[v0,v1,v2,v3,v4] w) (a b c d e:Value) :
  PInv w0 #[a,b,c,d,e] (((((w.setCell (qa w0.heap.size 0) a).setCell (qa w0.heap.size 1) b).setCell (qa w0.heap.size 2) c).setCell (qa w0.heap.size 3) d).setCell (qa w0.heap.size 4) e) ∧
  (((((w.setCell (qa w0.heap.size 0) a).setCell (qa w0.heap.size 1) b).setCell (qa w0.heap.size 2) c).setCell (qa w0.heap.size 3) d).setCell (qa w0.heap.size 4) e).heap.size = w.heap.size ∧
  ∀ g,g ≠ w0.heap.size → (((((w.setCell (qa w0.heap.size 0) a).setCell (qa w0.heap.size 1) b).setCell (qa w0.heap.size 2) c).setCell (qa w0.heap.size 3) d).setCell (qa w0.heap.size 4) e).heap[g]? = w.heap[g]?:=by
 have hot:∀ g,g ≠ w0.heap.size → (((((w.setCell (qa w0.heap.size 0) a).setCell (qa w0.heap.size 1) b).setCell (qa w0.heap.size 2) c).setCell (qa w0.heap.size 3) d).setCell (qa w0.heap.size 4) e).heap[g]? = w.heap[g]?:=fun g hg => by
  rw [Below.heap_setCell _ _ _ _ hg,Below.heap_setCell _ _ _ _ hg,Below.heap_setCell _ _ _ _ hg,Below.heap_setCell _ _ _ _ hg,Below.heap_setCell _ _ _ _ hg]
 have hb:Blk (((((w.setCell (qa w0.heap.size 0) a).setCell (qa w0.heap.size 1) b).setCell (qa w0.heap.size 2) c).setCell (qa w0.heap.size 3) d).setCell (qa w0.heap.size 4) e) w0.heap.size 25 #[a,b,c,d,e]:=(((((h.res.set_ 0 a).set_ 1 b).set_ 2 c).set_ 3 d).set_ 4 e)
 have hs:(((((w.setCell (qa w0.heap.size 0) a).setCell (qa w0.heap.size 1) b).setCell (qa w0.heap.size 2) c).setCell (qa w0.heap.size 3) d).setCell (qa w0.heap.size 4) e).heap.size = w.heap.size:=by simp
 have hg:=grown_new (grown_new (grown_new (grown_new (grown_new (grown_refl w (some 0)) (g:=w.heap.size) (Nat.le_refl _) 0 a) (g:=w.heap.size) (Nat.le_refl _) 1 b) (g:=w.heap.size) (Nat.le_refl _) 2 c) (g:=w.heap.size) (Nat.le_refl _) 3 d) (g:=w.heap.size) (Nat.le_refl _) 4 e
 have hos:(((((w.setCell (qa w0.heap.size 0) a).setCell (qa w0.heap.size 1) b).setCell (qa w0.heap.size 2) c).setCell (qa w0.heap.size 3) d).setCell (qa w0.heap.size 4) e).os = w.os:=(grown_set (grown_set (grown_set (grown_set (grown_set (grown_refl w (some w0.heap.size)) 0 a) 1 b) 2 c) 3 d) 4 e).os
 have htp:(((((w.setCell (qa w0.heap.size 0) a).setCell (qa w0.heap.size 1) b).setCell (qa w0.heap.size 2) c).setCell (qa w0.heap.size 3) d).setCell (qa w0.heap.size 4) e).tape = w.tape:=(grown_set (grown_set (grown_set (grown_set (grown_set (grown_refl w (some w0.heap.size)) 0 a) 1 b) 2 c) 3 d) 4 e).tape
 have hop:(((((w.setCell (qa w0.heap.size 0) a).setCell (qa w0.heap.size 1) b).setCell (qa w0.heap.size 2) c).setCell (qa w0.heap.size 3) d).setCell (qa w0.heap.size 4) e).output = w.output:=(grown_set (grown_set (grown_set (grown_set (grown_set (grown_refl w (some w0.heap.size)) 0 a) 1 b) 2 c) 3 d) 4 e).output
 generalize (((((w.setCell (qa w0.heap.size 0) a).setCell (qa w0.heap.size 1) b).setCell (qa w0.heap.size 2) c).setCell (qa w0.heap.size 3) d).setCell (qa w0.heap.size 4) e) = W at *
 have hz:=h.size
 refine ⟨⟨hb,(hot _ (by omega)).trans h.err,(hot _ (by omega)).trans h.ptr,?_,by omega⟩,hs,hot⟩
 exact ⟨hos.trans h.low.os,htp.trans h.low.tape,hop.trans h.low.output,by omega,fun i hi => (hot i (by omega)).trans (h.low.block i hi)⟩
theorem PInv.set_err {w0 w:World} {vs:Array Value} (h:PInv w0 vs w) (x:Value) :
  Blk (w.setCell (qa (w0.heap.size + 1) 0) x) w0.heap.size 25 vs ∧ Blk (w.setCell (qa (w0.heap.size + 1) 0) x) (w0.heap.size + 1) 59 #[x] ∧ Below w0.heap.size w0 (w.setCell (qa (w0.heap.size + 1) 0) x) ∧ (w.setCell (qa (w0.heap.size + 1) 0) x).heap.size = w.heap.size ∧
  ∀ g,g ≠ w0.heap.size + 1 → (w.setCell (qa (w0.heap.size + 1) 0) x).heap[g]? = w.heap[g]?:=by
 have hg:=grown_set (grown_refl w (some (w0.heap.size + 1))) 0 x
 have hot:∀ g,g ≠ w0.heap.size + 1 → (w.setCell (qa (w0.heap.size + 1) 0) x).heap[g]? = w.heap[g]?:=fun g hg => Below.heap_setCell _ _ _ _ hg
 have hs:(w.setCell (qa (w0.heap.size + 1) 0) x).heap.size = w.heap.size:=by simp
 have hz:=h.size
 refine ⟨(hot _ (by omega)).trans h.res,h.err.set_ 0 x,?_,hs,hot⟩
 exact ⟨hg.os.trans h.low.os,hg.tape.trans h.low.tape,hg.output.trans h.low.output,by omega,fun i hi => (hot i (by omega)).trans (h.low.block i hi)⟩
theorem Blk.cells1 {w:World} {g:Nat} {t:TypeId} {a:Value} (h:Blk w g t #[a]):w.cell? (qa g 0) = some a:=h.cell 0
theorem parse_low {s:ByteArray} {k r:List UInt8} {n:Nd} (hl:s.size ≤ 65536):parseL s.toList = match valL 0 (blanksL s.toList) with
  | .error e => .error e
  | .ok (n,r) => if blanksL r = [] then .ok n else .error 3:=by
 unfold parseL
 rw [if_neg (by rw [tl_len'];omega)]
 rcases valL 0 (blanksL s.toList) with _ | ⟨_,_⟩ <;> rfl
set_option maxRecDepth 100000 in
set_option maxHeartbeats 8000000 in
theorem Parse_any (s:ByteArray) (A:Option Addr) (c:Nat) (w:World)
  (HC:∀ w',Below w.heap.size w w' → (convert 52 9 (.slice A s.size c)).run Tryd.prog w' = .ok (.string s) w') :
  Calls Tryd.prog 28 #[.slice A s.size c] w (ParseEnd (parseL s.toList) w):=by
 have hmf:∀ (fn:Fn) (first cap:Array Value) (w:World),(Instr.makeFunc fn first cap).run Tryd.prog w = .ok (.func fn first cap) w:=fun _ _ _ _ => rfl
 by_cases hl:s.size ≤ 65536
 case neg =>
  have hp:parseL s.toList = .error 2:=by unfold parseL;rw [if_pos (by rw [tl_len'];omega)]
  rw [hp]
  have hnl:(65536:Int) < (s.size:Int):=by omega
  have HW:=Lib.hid (((Below.refl w.heap.size w).alloc (Nat.le_refl _) (.cells Zn 25)).alloc (by simp) (.cells #[.int .i64 2] 59))
  have b1:=(Blk.new w 25 Zn).alloc (.cells #[.int .i64 2] 59)
  have b2:=Blk.new (w.alloc (.cells Zn 25)) 59 #[.int .i64 2]
  rw [show (w.alloc (.cells Zn 25)).heap.size = w.heap.size + 1 by simp] at b2
  have B1:=Lib.hid b1
  have B2:=Lib.hid b2
  clear HC hp hl b1 b2
  go_enter_defers Tryd.func28,Tryd.ntmps28
  go_wp2
  generalize (w.alloc (.cells Zn 25)).alloc (.cells #[.int .i64 2] 59) = WF at *
  obtain ⟨q0,q1,q2,q3,q4⟩:=B1.out.cells5
  have x0:=B2.out.cells1
  simp [bodyPostD,Leaves,settle,results,Tryd.results28,go_sem,q0,q1,q2,q3,q4,x0]
  exact ⟨rfl,HW.out⟩
 have hcv:=HC _ (((Below.refl w.heap.size w).alloc (Nat.le_refl _) (.cells Zn 25)).alloc (by simp) (.cells #[.int .i64 0] 59))
 have hnl:¬ (65536:Int) < (s.size:Int):=by omega
 obtain ⟨p0,q0⟩:=PInv.start w s
 have P0:=Lib.hid p0
 have R0:=Lib.hid q0
 have HL:=Lib.hid hl
 have HPL:=Lib.hid (parse_low (k:=[]) (r:=[]) (n:=nd0 0) hl)
 generalize parseL s.toList = V at *
 clear HC p0 q0
 go_enter_defers Tryd.func28,Tryd.ntmps28
 go_wp2_with fail
 generalize ((((w.alloc (.cells Zn 25)).alloc (.cells #[.int .i64 0] 59)).alloc (.cells #[.string s,.int .i64 0,.int .i64 0] 77)).alloc (.cells #[.pointer (some (qa (w.heap.size + 1 + 1) 0))] 75)) = W at *
 clear hcv
 refine (blanks_any _ s 0 W R0.out (Nat.zero_le _) (by have:=HL.out;omega)).mono ?_
 rintro e w1 ⟨rfl,k1,hk1,e1,h1,g1⟩
 have P1:=Lib.hid (P0.out.next g1)
 have R1:=Lib.hid h1
 have E1:Hid (s.toList.drop k1 = blanksL s.toList):=e1
 have hp1:=P1.out.ptr.cells1
 clear h1 g1 e1
 have HV:Hid (Calls Tryd.prog 46 #[.pointer (some (qa (w.heap.size + 1 + 1) 0)),.int .i64 0] w1 (ValEnd (w.heap.size + 1 + 1) s (valL 0 (blanksL s.toList)) w1)):=by
  have:=value_any (w.heap.size + 1 + 1) s (by have:=HL.out;omega) (s.size + 1) k1 0 w1 (by omega) (by omega) hk1 R1.out
  unfold ValC at this
  rw [E1.out] at this
  exact this
 cases hv:valL 0 (blanksL s.toList) with
 | error c9 =>
  have HE:Hid (V = .error c9):=Lib.hid (by rw [HPL.out,hv])
  rw [hv] at HV
  clear hv HPL
  go_wp2_with fail
  refine HV.out.mono ?_;rintro e w9 ⟨rfl,⟨k9,h9⟩,g9⟩
  have P9:=Lib.hid (P1.out.next g9)
  have H9:=Lib.hid h9
  clear h9 g9 hp1
  go_wp2_with fail
  refine leaves_cons (f:=44) (args:=#[.pointer (some (qa (w.heap.size + 1 + 1 + 1) 0)),.pointer (some (qa w.heap.size 0)),.pointer (some (qa (w.heap.size + 1) 0))]) (by simp) (by simp [go_sem]) ?_
  refine (catch_bad _ _ _ _ c9 _ _ [] _ _ _ _ _ _ _ _ w9 P9.out.ptr H9.out P9.out.res P9.out.err).mono ?_
  rintro e u' w'' ⟨rfl,rfl,hw⟩
  obtain ⟨pl,_,_⟩:=P9.out.laid (.int .i64 0) (.int .i64 0) (.string ⟨#[]⟩) (.slice none 0 0) (.slice none 0 0)
  obtain ⟨b1,b2,b3,_,_⟩:=pl.set_err (.int .i64 c9)
  rw [← hw] at b1 b2 b3
  clear hw pl
  obtain ⟨q0,q1,q2,q3,q4⟩:=b1.cells5
  have x0:=b2.cells1
  simp [Leaves,settle,results,Tryd.results28,go_sem,q0,q1,q2,q3,q4,x0]
  rw [HE.out]
  exact ⟨rfl,b3⟩
 | ok p =>
  obtain ⟨n,r⟩:=p
  have HE:Hid (V = if blanksL r = [] then .ok n else .error 3):=Lib.hid (by rw [HPL.out,hv])
  rw [hv] at HV
  clear hv HPL
  go_wp2_with fail
  refine HV.out.mono ?_
  rintro e w2 ⟨c0,c1,c2,c3,c4,c5,c6,c7,c8,rfl,hn,k2,hk2,e2,h2,g2⟩
  have P2:=Lib.hid (P1.out.next g2)
  have R2:=Lib.hid h2
  have E2:Hid (s.toList.drop k2 = r):=e2
  have HN:=Lib.hid hn
  have Z1:=Lib.hid P1.out.size
  clear hn h2 g2 e2 hp1
  have hp2:(((((w2.setCell (qa w.heap.size 0) (.int .i64 c0)).setCell (qa w.heap.size 1) (.int .i64 c1)).setCell (qa w.heap.size 2) (.string c2)).setCell (qa w.heap.size 3) (.slice c3 c4 c5)).setCell (qa w.heap.size 4) (.slice c6 c7 c8)).cell? (qa (w.heap.size + 1 + 1 + 1) 0) = some (.pointer (some (qa (w.heap.size + 1 + 1) 0))):=(P2.out.laid _ _ _ _ _).1.ptr.cells1
  obtain ⟨p3,s3,o3⟩:=P2.out.laid (.int .i64 c0) (.int .i64 c1) (.string c2) (.slice c3 c4 c5) (.slice c6 c7 c8)
  have P3:=Lib.hid p3
  have S3:=Lib.hid s3
  have O3:=Lib.hid o3
  obtain ⟨z0,z1,z2,z3,z4⟩:=P2.out.res.cells5
  have f0:=P2.out.res.frozen 0
  have f1:=P2.out.res.frozen 1
  have f2:=P2.out.res.frozen 2
  have f3:=P2.out.res.frozen 3
  have f4:=P2.out.res.frozen 4
  clear p3 s3 o3
  go_wp2_with fail
  clear z0 z1 z2 z3 z4 f0 f1 f2 f3 f4
  generalize (((((w2.setCell (qa w.heap.size 0) (.int .i64 c0)).setCell (qa w.heap.size 1) (.int .i64 c1)).setCell (qa w.heap.size 2) (.string c2)).setCell (qa w.heap.size 3) (.slice c3 c4 c5)).setCell (qa w.heap.size 4) (.slice c6 c7 c8)) = w3 at *
  have R3:Hid (RdSt w3 (w.heap.size + 1 + 1) s k2):=(O3.out _ (by omega)).trans R2.out
  refine (blanks_any _ s k2 w3 R3.out hk2 (by have:=HL.out;omega)).mono ?_
  rintro e w4 ⟨rfl,k4,hk4,e4,h4,g4⟩
  rw [E2.out] at e4
  have P4:=Lib.hid (P3.out.next g4)
  have R4:=Lib.hid h4
  have E4:=Lib.hid e4
  have HN4:Hid (NdIn w4 (fun b => w1.heap.size ≤ b ∧ b < w4.heap.size) n (nL c0 c1 c2 c3 c4 c5 c6 c7 c8)):=by
   have hz:=Z1.out
   have hs3:=S3.out
   have hs4:=g4.size
   refine NdIn.keep (fun p hp => World.cell?_of_block ?_) (fun b hb => ⟨hb.1,by have:=hb.2;omega⟩) _ _ HN.out
   have hp1:=hp.1
   have hp2:=hp.2
   exact (g4.block p.block (by omega) (by intro e;injection e with e;omega)).trans (O3.out p.block (by omega))
  have G4:=Lib.hid g4
  have hp4:=P4.out.ptr.cells1
  obtain ⟨y0,y1,y2⟩:=R4.out.cells3
  clear h4 g4 e4 hp2
  by_cases hr:blanksL r = []
  ·have HX:Hid (V = .ok n):=Lib.hid (by rw [HE.out,if_pos hr])
   have k4s:¬ (k4:Int) < (s.size:Int):=by
    have e:=congrArg List.length E4.out
    rw [hr,List.length_drop,tl_len'] at e
    simp at e;omega
   clear hr
   go_wp2_with fail
   go_quiet (fail)
   clear y0 y1 y2 hp4
   have P5:Hid (∀ m,PInv w (nA c0 c1 c2 c3 c4 c5 c6 c7 c8) (w4.drewN m)):=fun m => P4.out.drewN m
   obtain ⟨z0,z1,z2,z3,z4⟩:=P4.out.res.cells5
   have f0:=P4.out.res.frozen 0
   have f1:=P4.out.res.frozen 1
   have f2:=P4.out.res.frozen 2
   have f3:=P4.out.res.frozen 3
   have f4:=P4.out.res.frozen 4
   have x0:=P4.out.err.cells1
   have fe:=P4.out.err.frozen 0
   have k4n:¬ k4 < s.size:=by omega
   go_wp2_with fail
   clear z0 z1 z2 z3 z4 f0 f1 f2 f3 f4 x0 fe
   refine leaves_cons (f:=44) (args:=#[.pointer (some (qa (w.heap.size + 1 + 1 + 1) 0)),.pointer (some (qa w.heap.size 0)),.pointer (some (qa (w.heap.size + 1) 0))]) (by simp) (by simp [go_sem]) ?_
   refine (catch_idle _ _ _ _).mono ?_
   rintro e u' w'' ⟨rfl,rfl,hw⟩
   obtain ⟨pl,s5,o5⟩:=(P5.out _).laid (.int .i64 c0) (.int .i64 c1) (.string c2) (.slice c3 c4 c5) (.slice c6 c7 c8)
   obtain ⟨b1,b2,b3,s6,o6⟩:=pl.set_err (.int .i64 0)
   rw [← hw] at b1 b2 b3 s6 o6
   have hnd:NdIn w'' (Since w w'') n (nL c0 c1 c2 c3 c4 c5 c6 c7 c8):=by
    have hz:=Z1.out
    refine NdIn.keep (fun p hp => World.cell?_of_block ?_) (fun b hb => ⟨by have:=hb.1;omega,by rw [s6,s5];exact hb.2⟩) _ _ HN4.out
    have hp1:=hp.1
    exact (o6 p.block (by omega)).trans (o5 p.block (by omega))
   clear hw pl s5 o5 s6 o6
   obtain ⟨q0,q1,q2,q3,q4⟩:=b1.cells5
   have x0:=b2.cells1
   simp [Leaves,settle,results,Tryd.results28,go_sem,q0,q1,q2,q3,q4,x0]
   rw [HX.out]
   exact ⟨c0,c1,c2,c3,c4,c5,c6,c7,c8,rfl,hnd,b3⟩
  ·have HX:Hid (V = .error 3):=Lib.hid (by rw [HE.out,if_neg hr])
   have k4s:(k4:Int) < (s.size:Int):=by
    have e:=congrArg List.length E4.out
    rw [List.length_drop,tl_len'] at e
    have:=List.length_pos_iff.2 hr
    omega
   have k4n:k4 < s.size:=by omega
   clear hr
   go_wp2_with fail
   go_quiet (fail)
   clear y0 y1 y2
   have P5:Hid (∀ m,PInv w (nA c0 c1 c2 c3 c4 c5 c6 c7 c8) (w4.drewN m)):=fun m => P4.out.drewN m
   have R5:Hid (∀ m,RdSt (w4.drewN m) (w.heap.size + 1 + 1) s k4):=fun m => R4.out
   go_wp2_with fail
   refine (fail_any _ s k4 3 _ (R5.out _)).mono ?_;rintro e w9 ⟨rfl,⟨k9,h9⟩,g9⟩
   have P9:=Lib.hid ((P5.out _).next g9)
   have H9:=Lib.hid h9
   clear h9 g9 hp4
   go_wp2_with fail
   refine leaves_cons (f:=44) (args:=#[.pointer (some (qa (w.heap.size + 1 + 1 + 1) 0)),.pointer (some (qa w.heap.size 0)),.pointer (some (qa (w.heap.size + 1) 0))]) (by simp) (by simp [go_sem]) ?_
   refine (catch_bad _ _ _ _ 3 _ _ [] _ _ _ _ _ _ _ _ w9 P9.out.ptr H9.out P9.out.res P9.out.err).mono ?_
   rintro e u' w'' ⟨rfl,rfl,hw⟩
   obtain ⟨pl,_,_⟩:=P9.out.laid (.int .i64 0) (.int .i64 0) (.string ⟨#[]⟩) (.slice none 0 0) (.slice none 0 0)
   obtain ⟨b1,b2,b3,_,_⟩:=pl.set_err (.int .i64 3)
   rw [← hw] at b1 b2 b3
   clear hw pl
   obtain ⟨q0,q1,q2,q3,q4⟩:=b1.cells5
   have x0:=b2.cells1
   simp [Leaves,settle,results,Tryd.results28,go_sem,q0,q1,q2,q3,q4,x0]
   rw [HX.out]
   exact ⟨rfl,b3⟩
def ext {α:Type} (z:List UInt8) (p:α × List UInt8):α × List UInt8:=(p.1,p.2 ++ z)
def Bz (z:List UInt8):Prop:=∀ c ∈ z,blankB c = true
def kindN:Nd → Int
 | .mk k _ _ _ _ => k
def tailOk (n:Nd) (r z:List UInt8):Prop:=r ≠ [] ∨ kindN n ≠ 4 ∨ numEnd z
theorem putU_pos (n:Nd):1 ≤ (putU n).length:=by
 obtain ⟨c,t,h,_⟩:=putU_head n []
 rw [List.append_nil] at h
 rw [h];simp
theorem key_len:∀ (ms:List Nd) (kk:List ByteArray),kk.length = ms.length → ∀ k ∈ kk,k.size ≤ (putL true kk ms true).length
 | [],[],_,k,hk => by simp at hk
 | [],_ :: _,h,_,_ => by simp at h
 | n :: ms,[],h,_,_ => by simp at h
 | n :: ms,a :: kk,h,k,hk => by
  rw [putL_len,if_pos rfl,List.headD_cons,List.tail_cons]
  rcases List.mem_cons.1 hk with rfl | hk
  ·have:=quote_ge k.toList
   rw [tl_len'] at this
   omega
  ·have:=key_len ms kk (by simpa using h) k hk
   have hne:ms ≠ []:=by
    rintro rfl
    have:kk = []:=List.eq_nil_of_length_eq_zero (by simpa using h)
    subst this;simp at hk
   rw [if_neg hne]
   omega
mutual
theorem gN_put:∀ (n:Nd) (deep:Int),rightD n deep = true → gN n + 10 ≤ 60 * (putU n).length ∧ ((putU n).length ≤ 1000000000 → goodN n)
 | .mk k num t ks ns,deep,hr => by
  unfold rightD rightN bareF at hr
  simp only [Bool.and_eq_true,Bool.or_eq_true,beq_iff_eq,decide_eq_true_eq] at hr
  obtain ⟨⟨⟨⟨b1,b2⟩,b3⟩,b4⟩,hr⟩:=hr
  have hp:=putU_pos (.mk k num t ks ns)
  have nokid:¬ (k = 6 ∨ k = 7) → ks = [] ∧ ns = []:=fun h => ⟨List.eq_nil_of_length_eq_zero (by rcases b3 with h' | h';omega;exact h'),List.eq_nil_of_length_eq_zero (by rcases b4 with (h' | h') | h';omega;omega;exact h')⟩
  have ht:k ≠ 5 → t = ⟨#[]⟩:=fun h => by rcases b2 with h' | h';exact absurd h' h;exact h'
  have hnum : -9223372036854775808 ≤ num ∧ num ≤ 9223372036854775807:=by
   rcases hr with ((((rfl | rfl) | rfl) | ⟨rfl,h1,h2⟩) | ⟨rfl,hv⟩) | ⟨⟨⟨h67,hdp⟩,hk⟩,hkid⟩ <;> omega
  by_cases h67:k = 6 ∨ k = 7
  ·have hkid:rightL 9007199254740991 24 ns (deep + 1) = true ∧ (k = 6 ∨ ks.length = ns.length ∧ keysB ks = true):=by
    rcases hr with ((((rfl | rfl) | rfl) | ⟨rfl,_⟩) | ⟨rfl,_⟩) | ⟨⟨⟨_,_⟩,hk⟩,hkid⟩
    ·omega
    ·omega
    ·omega
    ·omega
    ·omega
    ·exact ⟨hkid,hk⟩
   have e2:=ht (by omega)
   subst e2
   have hks:k = 6 → ks = []:=fun h => List.eq_nil_of_length_eq_zero (by rcases b3 with h' | h';omega;exact h')
   obtain ⟨g1,g2⟩:=gL_put (k == 7) ks ns (deep + 1) hkid.1 (by
    intro h
    have:k = 7:=by simpa using h
    rcases hkid.2 with h' | h'
    ·omega
    ·exact h'.1) (by
    intro h
    have:k ≠ 7:=by simpa using h
    exact hks (by omega))
   have hput:(putU (.mk k num ⟨#[]⟩ ks ns)).length = 2 + (putL (k == 7) ks ns true).length:=by
    unfold putU
    rw [if_neg (by omega),if_neg (by omega),if_neg (by omega),if_neg (by omega),if_neg (by omega)]
    split <;> (simp;omega)
   rw [hput]
   unfold gN goodN
   refine ⟨?_,fun hl => ⟨hnum,fun h => ?_,by decide,?_,g2 (by omega)⟩⟩
   ·have:(⟨#[]⟩:ByteArray).size = 0:=rfl
    omega
   ·rcases hkid.2 with h' | h'
    ·omega
    ·exact h'.1
   ·intro s hs
    by_cases h6:k = 6
    ·rw [hks h6] at hs;cases hs
    ·have h7:k = 7:=by omega
     have hb:(k == 7) = true:=by simp [h7]
     rw [hb] at hput hl
     have hlen:ks.length = ns.length:=by
      rcases hkid.2 with h' | h'
      ·omega
      ·exact h'.1
     obtain ⟨i,hi⟩:=List.getElem?_of_mem hs
     have:=key_len ns ks hlen s hs
     omega
  ·obtain ⟨rfl,rfl⟩:=nokid h67
   unfold gN goodN gL goodL
   by_cases h5:k = 5
   ·subst h5
    have hput:(putU (.mk 5 num t [] [])).length = (quoteU t.toList).length:=by
     unfold putU
     rw [if_neg (by omega),if_neg (by omega),if_neg (by omega),if_neg (by omega),if_pos rfl]
    have hq:=quote_ge t.toList
    rw [tl_len'] at hq
    rw [hput]
    exact ⟨by omega,fun hl => ⟨hnum,by omega,by omega,by simp,trivial⟩⟩
   ·have e2:=ht h5
    subst e2
    have:(⟨#[]⟩:ByteArray).size = 0:=rfl
    exact ⟨by omega,fun hl => ⟨hnum,by omega,by omega,by simp,trivial⟩⟩
theorem gL_put:∀ (obj:Bool) (ks:List ByteArray) (ns:List Nd) (deep:Int),rightL 9007199254740991 24 ns deep = true → (obj = true → ks.length = ns.length) → (obj = false → ks = []) →
  gL ks ns ≤ 60 * (putL obj ks ns true).length ∧ ((putL obj ks ns true).length ≤ 1000000000 → goodL ns)
 | obj,ks,[],deep,hr,h1,h2 => by unfold gL goodL;exact ⟨by omega,fun _ => trivial⟩
 | obj,ks,n :: ns,deep,hr,h1,h2 => by
  unfold rightL at hr
  rw [Bool.and_eq_true] at hr
  obtain ⟨g1,g2⟩:=gN_put n deep hr.1
  obtain ⟨g3,g4⟩:=gL_put obj ks.tail ns deep hr.2 (fun h => by have:=h1 h;simp at this ⊢;omega) (fun h => by rw [h2 h];rfl)
  have hl:=putL_len obj ks n ns
  have hns:ns = [] → (putL obj ks.tail ns true).length = 0:=fun h => by rw [h];unfold putL;rfl
  have hle:(putL obj ks.tail ns true).length ≤ (if ns = [] then 0 else 1 + (putL obj ks.tail ns true).length):=by
   split
   ·rename_i h;rw [hns h];exact Nat.le_refl _
   ·omega
  unfold gL goodL
  cases obj with
  | true =>
   have hq:=quote_ge (ks.headD ⟨#[]⟩).toList
   rw [tl_len'] at hq
   rw [if_pos rfl] at hl
   exact ⟨by omega,fun h => ⟨g2 (by omega),g4 (by omega)⟩⟩
  | false =>
   rw [h2 rfl] at hl ⊢
   rw [if_neg (by simp)] at hl
   have:([].headD (⟨#[]⟩:ByteArray)).size = 0:=rfl
   rw [h2 rfl] at g3 g4 hle
   exact ⟨by simp only [List.tail_nil] at *;omega,fun h => ⟨g2 (by omega),g4 (by simp only [List.tail_nil] at *;omega)⟩⟩
end
def BytesAt (w:World) (A:Option Addr) (c:Nat) (s:ByteArray):Prop:=∀ w',Below w.heap.size w w' → (convert 52 9 (.slice A s.size c)).run Tryd.prog w' = .ok (.string s) w'
theorem bt_all (s:ByteArray):strOfNums ((List.range s.size).map (bt s)) = s:=by
 apply ba_ext'
 rw [nums_toList,List.map_map]
 apply List.ext_getElem?
 intro i
 rw [List.getElem?_map]
 by_cases hi:i < s.size
 ·rw [List.getElem?_range hi]
  have h:=get_bt s i hi
  rw [ByteArray.toList_eq]
  have hl:i < s.data.toList.length:=by simpa using hi
  rw [List.getElem?_eq_getElem hl]
  simp only [Option.map_some,Function.comp,Option.some.injEq]
  rw [← h]
  simp
  rfl
 ·rw [List.getElem?_eq_none (by simpa using hi),List.getElem?_eq_none (by rw [toList_len];omega)]
  rfl
theorem BytesAt.of_cells {w:World} {b off c:Nat} {s:ByteArray} (hb:0 < s.size → b < w.heap.size) (h:∀ i,i < s.size → w.cell? (qa b (off + i)) = some (.int .u8 (bt s i))):BytesAt w (some (qa b off)) c s:=by
 intro w' hw
 have:=run_convert_bytes_arg w' 52 5 Tryd.underlying52 Tryd.underlying5 b off s.size c ((List.range s.size).map (bt s)) (by simp) (fun i hi => by
  rw [hw.cell (by show b < _;exact hb (by omega)),h i hi]
  simp [List.getD,hi]) 9 Tryd.underlying9
 rw [bt_all] at this
 exact this
def PEnd (r:Except Int Nd) (w:World) (e:Ending) (w':World):Prop:=
 match r with
 | .error c => e = .returned (.tuple #[.agg Zn,.int .i64 c]) ∧ Below w.heap.size w w'
 | .ok n => ∃ (c0 c1:Int) (c2:ByteArray) (c3:Option Addr) (c4 c5:Nat) (c6:Option Addr) (c7 c8:Nat),
   e = .returned (.tuple #[.agg (nA c0 c1 c2 c3 c4 c5 c6 c7 c8),.int .i64 0]) ∧ NdIs w' w'.heap.size n (nL c0 c1 c2 c3 c4 c5 c6 c7 c8) ∧ Below w.heap.size w w'
theorem parse_law (s:ByteArray) (A:Option Addr) (c:Nat) (w:World) (h:BytesAt w A c s):Calls Tryd.prog 28 #[.slice A s.size c] w (PEnd (parseL s.toList) w):=by
 refine (Parse_any s A c w h).mono ?_
 intro e w' hp
 cases hr:parseL s.toList with
 | error c => rw [hr] at hp;exact hp
 | ok n =>
  rw [hr] at hp
  obtain ⟨c0,c1,c2,c3,c4,c5,c6,c7,c8,he,hn,hb⟩:=hp
  exact ⟨c0,c1,c2,c3,c4,c5,c6,c7,c8,he,NdIn.is (fun b hb => hb.2) _ _ hn,hb⟩
theorem kid_cells {w:World} {B:Nat} {k m:Int} {t:ByteArray} {ks:List ByteArray} {ns:List Nd} {v0 v1 v2 v3:Value} {A:Option Addr} {l c:Nat} (h:NdIs w B (.mk k m t ks ns) [v0,v1,v2,v3,.slice A l c]):l = ns.length ∧ (0 < ns.length → ∃ b off,A = some (qa b off) ∧ b < B ∧ ∀ (i:Nat) (n:Nd),ns[i]? = some n → ∃ cs,NdIs w B n cs ∧ ∀ j u,cs[j]? = some u → w.cell? (qa b (off + (i * 5 + j))) = some u):=by
 unfold NdIs at h
 obtain ⟨A1,ck,A2,c2,xs,h1,h2,h3,h4,h5⟩:=h
 simp only [List.cons.injEq,Value.slice.injEq,and_true] at h1
 obtain ⟨_,_,_,_,rfl,rfl,rfl⟩:=h1
 refine ⟨rfl,fun hn => ?_⟩
 obtain ⟨ad,rfl,hb,hc⟩:=h3.2 hn
 have hx:0 < xs.length:=by rw [h3.1];omega
 have hsp:=spot_none (hc 0 xs[0] (List.getElem?_eq_getElem hx))
 obtain ⟨b,off,sp⟩:=ad
 have hs:sp = none:=by
  unfold Addr.add at hsp
  split at hsp <;> simp_all
 subst hs
 refine ⟨b,off,rfl,hb,fun i n hi => ?_⟩
 obtain ⟨cs,k1,k2⟩:=NdsIs.at_ ns xs i n h4 hi
 refine ⟨cs,k1,fun j u hu => ?_⟩
 have hj:j < 5:=by
  have:=(List.getElem?_eq_some_iff.1 hu).1
  rw [k1.len] at this;exact this
 have:=hc (i * 5 + j) u (by rw [k2 j hj];exact hu)
 have e:((qa b off):Addr).add (i * 5 + j) = (qa b (off + (i * 5 + j))):=by unfold Addr.add;split <;> simp_all
 rw [e] at this
 exact this
theorem val_err:∀ (N:Nat),
  (∀ deep l e,2 * l.length ≤ N → valL deep l = .error e → 3 ≤ e ∧ e ≤ 5) ∧
  (∀ deep l ns e,2 * l.length + 1 ≤ N → arrL deep l ns = .error e → 3 ≤ e ∧ e ≤ 5) ∧
  (∀ deep l ks ns e,2 * l.length + 1 ≤ N → objL deep l ks ns = .error e → 3 ≤ e ∧ e ≤ 5):=by
 intro N
 induction N using Nat.strongRecOn with
 | _ N ih =>
  refine ⟨?_,?_,?_⟩
  ·intro deep l e hN h
   by_cases h91:l.head? = some 91
   ·by_cases h24:24 ≤ deep
    ·rw [valL_deep deep l (.inl h91) h24] at h;cases h;omega
    rw [valL_arr deep l h91 h24] at h
    have ht:=tail_lt h91
    have hb:=blanksL_le l.tail
    split at h
    ·cases h
    ·exact (ih (2 * (blanksL l.tail).length + 1) (by omega)).2.1 deep _ _ e (Nat.le_refl _) h
   by_cases h123:l.head? = some 123
   ·by_cases h24:24 ≤ deep
    ·rw [valL_deep deep l (.inr h123) h24] at h;cases h;omega
    rw [valL_obj deep l h123 h24] at h
    have ht:=tail_lt h123
    have hb:=blanksL_le l.tail
    split at h
    ·cases h
    ·exact (ih (2 * (blanksL l.tail).length + 1) (by omega)).2.2 deep _ _ _ e (Nat.le_refl _) h
   by_cases h34:l.head? = some 34
   ·rw [valL_str deep l h34] at h
    cases ht:textL l with
    | none => rw [ht] at h;cases h;omega
    | some p => rw [ht] at h;cases h
   rw [valL_else deep l h91 h123 h34] at h
   split at h
   ·cases h
   split at h
   ·cases h
   split at h
   ·cases h
   cases ht:numL l with
   | none => rw [ht] at h;cases h;omega
   | some p => rw [ht] at h;cases h
  ·intro deep l ns e hN h
   have hb:=blanksL_le l
   rw [arrL_eq] at h
   cases hv:valL (deep + 1) (blanksL l) with
   | error e' =>
    rw [hv] at h
    cases h
    exact (ih (2 * (blanksL l).length) (by omega)).1 _ _ _ (Nat.le_refl _) hv
   | ok p =>
    obtain ⟨x,r1⟩:=p
    have hr1:=(valL_le hv).2
    rw [hv] at h
    simp only at h
    have hb1:=blanksL_le r1
    split at h
    ·cases h
    split at h
    ·rename_i h44
     have ht:=tail_lt h44
     exact (ih (2 * (blanksL r1).tail.length + 1) (by omega)).2.1 deep _ _ e (Nat.le_refl _) h
    ·cases h;omega
  ·intro deep l ks ns e hN h
   have hb:=blanksL_le l
   rw [objL_eq] at h
   cases ht:textL (blanksL l) with
   | none => rw [ht] at h;cases h;omega
   | some p =>
    obtain ⟨k,r0⟩:=p
    rw [ht] at h
    simp only at h
    have hr0:=(textL_le ht).2
    have hb0:=blanksL_le r0
    split at h
    ·cases h;omega
    split at h
    ·rename_i h58
     have h58:=tail_lt h58
     have hb2:=blanksL_le (blanksL r0).tail
     cases hv:valL (deep + 1) (blanksL (blanksL r0).tail) with
     | error e' =>
      rw [hv] at h
      cases h
      exact (ih (2 * (blanksL (blanksL r0).tail).length) (by omega)).1 _ _ _ (Nat.le_refl _) hv
     | ok p =>
      obtain ⟨x,r1⟩:=p
      rw [hv] at h
      simp only at h
      have hr1:=(valL_le hv).2
      have hb1:=blanksL_le r1
      split at h
      ·cases h
      split at h
      ·rename_i h44
       have ht:=tail_lt h44
       exact (ih (2 * (blanksL r1).tail.length + 1) (by omega)).2.2 deep _ _ _ e (Nat.le_refl _) h
      ·cases h;omega
    ·cases h;omega
theorem parse_err {l:List UInt8} {e:Int} (h:parseL l = .error e):2 ≤ e ∧ e ≤ 5:=by
 unfold parseL at h
 split at h
 ·cases h;omega
 ·cases hv:valL 0 (blanksL l) with
  | error c =>
   rw [hv] at h
   cases h
   have:=(val_err _).1 0 _ _ (Nat.le_refl _) hv
   omega
  | ok p =>
   obtain ⟨n,r⟩:=p
   rw [hv] at h
   simp only at h
   split at h
   ·cases h
   ·cases h;omega
theorem sameK_refl (ks:List ByteArray):sameK ks ks = true:=by
 induction ks with
 | nil => unfold sameK;rfl
 | cons k ks ih => unfold sameK;simp [ih]
mutual
theorem sameN_refl:∀ n:Nd,sameN n n = true
 | .mk k m t ks ns => by
  unfold sameN
  simp [sameK_refl,sameL_refl ns]
theorem sameL_refl:∀ ns:List Nd,sameL ns ns = true
 | [] => by unfold sameL;rfl
 | n :: ns => by
  unfold sameL
  simp [sameN_refl n,sameL_refl ns]
end
def listA (d:Nat) (l:List UInt8):Except Int (Nd × List UInt8):=
 if 24 ≤ d then .error 4 else if (blanksL l).head? = some 93 then .ok (.mk 6 0 ⟨#[]⟩ [] [],(blanksL l).tail) else arrL d (blanksL l) []
def listO (d:Nat) (l:List UInt8):Except Int (Nd × List UInt8):=
 if 24 ≤ d then .error 4 else if (blanksL l).head? = some 125 then .ok (.mk 7 0 ⟨#[]⟩ [] [],(blanksL l).tail) else objL d (blanksL l) [] []
def ArrI (w0:World) (rb:Nat) (s:ByteArray) (d k0:Nat) (V:Except Int (Nd × List UInt8)) (j:Nat) (er:Int) (g:Nat) (wr:World):Prop:=
 (er = 0 ∧ k0 ≤ j ∧ s.size - j + 1 ≤ g ∧ ∃ ns A c ys,V = arrL d (s.toList.drop j) ns ∧ ns.length ≤ j ∧ LInv w0 rb 6 [] ns wr none 0 A c ys) ∨ (er ≠ 0 ∧ V = .error er ∧ EInv w0 rb 6 wr)
def ObjI (w0:World) (rb:Nat) (s:ByteArray) (d k0:Nat) (V:Except Int (Nd × List UInt8)) (j:Nat) (er:Int) (g:Nat) (wr:World):Prop:=
 (er = 0 ∧ k0 ≤ j ∧ s.size - j + 1 ≤ g ∧ ∃ ks ns K kc A c ys,V = objL d (s.toList.drop j) ks ns ∧ ns.length ≤ j ∧ ks.length ≤ j ∧ (∀ t ∈ ks,t.size ≤ maxLen) ∧ LInv w0 rb 7 ks ns wr K kc A c ys) ∨ (er ≠ 0 ∧ V = .error er ∧ EInv w0 rb 7 wr)
theorem cells_one {c0 c1:Int} {c2:ByteArray} {c3:Option Addr} {c4 c5:Nat} {c6:Option Addr} {c7 c8:Nat}:∀ u ∈ ((nL c0 c1 c2 c3 c4 c5 c6 c7 c8):List Value),u.oneCell' = true:=by
 intro u hu
 simp at hu
 rcases hu with rfl | rfl | rfl | rfl | rfl <;> rfl
def KeyI (s:ByteArray) (d:Nat) (V:Except Int (Nd × List UInt8)) (ks:List ByteArray) (ns:List Nd) (t:ByteArray) (k4:Nat) (er:Int) (i:Nat):Prop:=
 (er = 0 ∧ (∀ j x,j < i → ks[j]? = some x → (x.toList == t.toList) = false) ∧ V = if ks.any (fun x => x.toList == t.toList) = true then .error 5
   else if (blanksL (s.toList.drop k4)).head? = some 58 then
    (match valL (d + 1) (blanksL (blanksL (s.toList.drop k4)).tail) with
    | .error e => .error e
    | .ok (n,r2) => if (blanksL r2).head? = some 125 then .ok (.mk 7 0 ⟨#[]⟩ (ks ++ [t]) (ns ++ [n]),(blanksL r2).tail)
     else if (blanksL r2).head? = some 44 then objL d (blanksL r2).tail (ks ++ [t]) (ns ++ [n]) else .error 3)
   else .error 3) ∨ (er ≠ 0 ∧ V = .error er)
def KeyJ (s:ByteArray) (d:Nat) (V:Except Int (Nd × List UInt8)) (ks:List ByteArray) (ns:List Nd) (k4:Nat) (er:Int):Prop:=
 (er = 0 ∧ V = if (blanksL (s.toList.drop k4)).head? = some 58 then
    (match valL (d + 1) (blanksL (blanksL (s.toList.drop k4)).tail) with
    | .error e => .error e
    | .ok (n,r2) => if (blanksL r2).head? = some 125 then .ok (.mk 7 0 ⟨#[]⟩ ks (ns ++ [n]),(blanksL r2).tail)
     else if (blanksL r2).head? = some 44 then objL d (blanksL r2).tail ks (ns ++ [n]) else .error 3)
   else .error 3) ∨ (er ≠ 0 ∧ V = .error er)
def Nd.num:Nd → Int
 | .mk _ n _ _ _ => n
def Nd.text:Nd → ByteArray
 | .mk _ _ t _ _ => t
def Nd.keys:Nd → List ByteArray
 | .mk _ _ _ ks _ => ks
theorem NdIs.open_ {w:World} {B:Nat} {n:Nd} {cs:List Value} (h:NdIs w B n cs):∃ (A:Option Addr) (ck:Nat) (A2:Option Addr) (c:Nat) (xs:List Value),cs = (nL n.kind n.num n.text A n.keys.length ck A2 n.kids.length c) ∧
   Reads w B 1 A n.keys.length (n.keys.map Value.string) ∧ Reads w B 5 A2 n.kids.length xs ∧ NdsIs w B n.kids xs ∧
   I64 n.kind ∧ I64 n.num ∧ n.text.size ≤ maxLen ∧ (∀ s ∈ n.keys,s.size ≤ maxLen) ∧ n.keys.length ≤ maxLen ∧ n.kids.length ≤ maxLen:=by
 cases n
 unfold NdIs at h
 exact h
def knownS (s:ByteArray):Bool:=s.toList == [117,114,110,58,105,101,116,102,58,112,97,114,97,109,115,58,106,109,97,112,58,99,111,114,101] || s.toList == [117,114,110,58,105,101,116,102,58,112,97,114,97,109,115,58,106,109,97,112,58,109,97,105,108]
def FnN (f:Nat) (vs:Array Value) (b:Bool) (w:World):Prop:=Calls Tryd.prog f #[.agg vs] w (BoolBel b w)
def FnNI (f:Nat) (vs:Array Value) (k:Int) (b:Bool) (w:World):Prop:=Calls Tryd.prog f #[.agg vs,.int .i64 k] w (BoolBel b w)
set_option maxRecDepth 100000 in
theorem kRead1_any (n:Nd) (cs:List Value) (w:World) (B:Nat) (hn:NdIs w B n cs):FnN 29 cs.toArray (n.kind != 5) w:=by
 obtain ⟨A,ck,A2,cc,xs,rfl,_⟩:=hn.open_
 have hW:=Below.refl w.heap.size w
 generalize n.kind = k at *
 show Calls Tryd.prog 29 #[.agg #[_,_,_,_,_]] w (BoolBel _ w)
 go_enter Tryd.func29,Tryd.ntmps29
 go_wp2_with fail
 go_ret
 exact ⟨rfl,hW.alloc (Nat.le_refl _) _⟩
set_option maxRecDepth 100000 in
theorem kkinds1_any (n:Nd) (cs:List Value) (w:World) (B:Nat) (hn:NdIs w B n cs) (j:Int):FnNI 49 cs.toArray j (n.kind == j) w:=by
 obtain ⟨A,ck,A2,cc,xs,rfl,_⟩:=hn.open_
 have hW:=Below.refl w.heap.size w
 generalize n.kind = k at *
 show Calls Tryd.prog 49 #[.agg #[_,_,_,_,_],_] w (BoolBel _ w)
 go_enter Tryd.func49,Tryd.ntmps49
 go_wp2_with fail
 go_ret
 exact ⟨rfl,hW.alloc (Nat.le_refl _) _⟩
set_option maxRecDepth 100000 in
theorem kknown_any (s:ByteArray) (w:World):Calls Tryd.prog 34 #[.string s] w fun e w' => e = .returned (.bool (knownS s)) ∧ w = w':=by
 unfold knownS
 cases h1:(s.toList == [117,114,110,58,105,101,116,102,58,112,97,114,97,109,115,58,106,109,97,112,58,99,111,114,101]) with
 | true =>
  go_enter Tryd.func34,Tryd.ntmps34
  go_wp2_with fail
  go_ret
  exact ⟨rfl,rfl⟩
 | false =>
  go_enter Tryd.func34,Tryd.ntmps34
  go_wp2_with fail
  go_ret
  exact ⟨rfl,rfl⟩
set_option maxRecDepth 100000 in
theorem kRead3_any (n:Nd) (cs:List Value) (w:World) (B:Nat) (hn:NdIs w B n cs):FnN 33 cs.toArray (!knownS n.text) w:=by
 obtain ⟨A,ck,A2,cc,xs,rfl,_⟩:=hn.open_
 have hW:=Below.refl w.heap.size w
 generalize n.text = t at *
 show Calls Tryd.prog 33 #[.agg #[_,_,_,_,_]] w (BoolBel _ w)
 go_enter Tryd.func33,Tryd.ntmps33
 go_wp2_with fail
 refine (kknown_any t _).mono ?_;rintro e w1 ⟨rfl,hw⟩;obtain rfl:_ = w1:=hw
 go_wp2_with fail
 go_ret
 exact ⟨rfl,hW.alloc (Nat.le_refl _) _⟩
def eqK:List Nd → List Int → Bool
 | [],[] => true
 | n :: ns,k :: ks => (n.kind == k) && eqK ns ks
 | _,_ => false
theorem eqK_len:∀ (ns:List Nd) (ks:List Int),ns.length ≠ ks.length → eqK ns ks = false
 | [],[],h => absurd rfl h
 | [],k :: ks,h => rfl
 | n :: ns,[],h => rfl
 | n :: ns,k :: ks,h => by unfold eqK;rw [eqK_len ns ks (by simpa using h),Bool.and_false]
theorem eqK_at (ns:List Nd) (ks:List Int) (i:Nat) (n:Nd) (k:Int) (h:ns[i]? = some n) (h2:ks[i]? = some k):eqK (ns.drop i) (ks.drop i) = ((n.kind == k) && eqK (ns.drop (i + 1)) (ks.drop (i + 1))):=by
 rw [List.drop_eq_getElem_cons (List.getElem?_eq_some_iff.1 h).1,(List.getElem?_eq_some_iff.1 h).2,List.drop_eq_getElem_cons (List.getElem?_eq_some_iff.1 h2).1,(List.getElem?_eq_some_iff.1 h2).2]
 rfl
theorem Reads.intAt {w:World} {B:Nat} {A:Option Addr} {ks:List Int} (h:Reads w B 1 A ks.length (ks.map (Value.int .i64))) {i:Nat} (hi:i < ks.length):∃ ad k,A = some ad ∧ ad.block < B ∧ ks[i]? = some k ∧ w.cell? (ad.add i) = some (.int .i64 k):=by
 obtain ⟨ad,u,e,hb,hu,hc⟩:=h.at_ hi
 rw [List.getElem?_map,List.getElem?_eq_getElem hi] at hu
 injection hu with hu
 exact ⟨ad,ks[i],e,hb,List.getElem?_eq_getElem hi,by rw [hu];exact hc⟩
set_option maxRecDepth 100000 in
set_option maxHeartbeats 1000000 in
theorem sEqI_any (ns:List Nd) (ks:List Int) (A A':Option Addr) (ck ck':Nat) (xs:List Value) (w:World) (B:Nat) (hks:Reads w B 5 A ns.length xs) (hks':Reads w B 1 A' ks.length (ks.map (Value.int .i64))) (hns:NdsIs w B ns xs) (hB:B ≤ w.heap.size) (hk:ns.length ≤ 9223372036854775807) (hk':ks.length ≤ 9223372036854775807) :
  Calls Tryd.prog 48 #[.slice A ns.length ck,.slice A' ks.length ck',.func (.func 49) #[] #[]] w (BoolBel (eqK ns ks) w):=by
 obtain ⟨V,hV⟩:∃ V,V = eqK ns ks:=⟨_,rfl⟩
 rw [← hV]
 have hW:=Below.refl w.heap.size w
 by_cases e4:ns.length = ks.length
 case neg =>
  have HE:Hid (V = false):=by show _ = _;rw [hV,eqK_len _ _ e4]
  have n4:((ns.length:Int) != (ks.length:Int)) = true:=by rw [bne_iff_ne];omega
  clear hV e4 hks hks' hns
  go_enter Tryd.func48,Tryd.ntmps48
  go_wp2_with fail
  go_ret
  exact ⟨by rw [HE.out];rfl,hW⟩
 have n4:((ns.length:Int) != (ks.length:Int)) = false:=by rw [bne_eq_false_iff_eq];omega
 have l4:=Lib.hid e4
 have HV2:Hid (V = eqK (ns.drop 0) (ks.drop 0)):=hV
 clear hV e4
 have HXS:=Lib.hid hks
 have HXS':=Lib.hid hks'
 have HNS:=Lib.hid hns
 clear hks hks' hns
 go_enter Tryd.func48,Tryd.ntmps48
 go_wp2_with fail
 go_loopw [17] (fun t5 wr => ∃ (i:Nat),i ≤ ns.length ∧ t5 = .int .i64 i ∧ Hid (V = eqK (ns.drop i) (ks.drop i)) ∧ Below w.heap.size w wr) (fun t5 _ => ns.length - (intOf t5).toNat)
 case atStart => exact ⟨0,by omega,rfl,HV2,hW⟩
 case round =>
  clear hW
  obtain ⟨i,hi,rfl,hv,hW⟩:=hrel
  obtain ⟨wo,rfl⟩:∃ wo:World,wo = wr:=⟨_,rfl⟩
  have hsz:=hW.size
  by_cases hlt:i < ns.length
  ·have hlt':i < ks.length:=by rw [← l4.out];exact hlt
   have hkeep:∀ p:Addr,p.block < B → wo.cell? p = w.cell? p:=fun p hp => hW.cell (by omega)
   obtain ⟨ad,n,v0,v1,v2,v3,v4,rfl,hadb,hni,hnd,e0,e1,e2,e3,e4⟩:=(HXS.out.keep hkeep).nd (NdsIs.keep hkeep _ _ HNS.out) hlt
   obtain ⟨ad',k,rfl,hadb',hki,f0⟩:=(HXS'.out.keep hkeep).intAt hlt'
   obtain ⟨x0,x1,x2,x3,x4,x5,x6,x7,x8,rfl,rfl,rfl,rfl,rfl⟩:=hnd.form
   have HST:=Lib.hid (eqK_at ns ks i n k hni hki)
   have HW2:Hid (∀ w',Below wo.heap.size wo w' → FnNI 49 (nA x0 x1 x2 x3 x4 x5 x6 x7 x8) k (n.kind == k) w'):=fun w' hb =>
    kkinds1_any n (nL x0 x1 x2 x3 x4 x5 x6 x7 x8) w' B (hnd.below (hb.mono (by omega))) k
   have hW0:=Below.refl wo.heap.size wo
   have q1:(ad.add (i * 5)).block < wo.heap.size:=by rw [block_of_add];omega
   have q2:(ad'.add i).block < wo.heap.size:=by rw [block_of_add];omega
   have q3:¬ (ad'.add i).block = wo.heap.size:=by omega
   clear hni hnd hkeep hki
   generalize (n.kind == k) = b at *
   go_wp2_with fail
   refine (HW2.out _ (hW0.alloc (Nat.le_refl _) _)).mono ?_;rintro e w1 ⟨rfl,hw1⟩
   replace hw1:=nextA hW0 hw1
   clear e0 e1 e2 e3 e4 f0
   cases b with
   | false =>
    have HE:Hid (V = false):=by show _ = _;rw [hv.out,HST.out];rfl
    go_wp2_with fail
    go_ret
    exact ⟨by rw [HE.out];rfl,hW.trans (hw1.mono (by omega))⟩
   | true =>
    have HE:Hid (V = eqK (ns.drop (i + 1)) (ks.drop (i + 1))):=by show _ = _;rw [hv.out,HST.out,Bool.true_and]
    go_wp2_with fail
    go_roundw
    case rel => exact ⟨i + 1,by omega,by go_num,HE,hW.trans (hw1.mono (by omega))⟩
    case measure => simp [intOf];omega
  ·have HE:Hid (V = true):=by
    have h4:=l4.out
    show _ = _
    rw [hv.out,List.drop_eq_nil_of_le (by omega),List.drop_eq_nil_of_le (by omega)]
    rfl
   go_wp2_with fail
   go_ret
   exact ⟨by rw [HE.out];rfl,hW⟩
def kindsK (n:Nd) (l:List Int):Bool:=n.kind == 6 && eqK n.kids l
set_option maxRecDepth 100000 in
set_option maxHeartbeats 1000000 in
theorem kkinds_any (n:Nd) (cs:List Value) (ks:List Int) (A':Option Addr) (ck':Nat) (w:World) (B:Nat) (hn:NdIs w B n cs) (hks':Reads w B 1 A' ks.length (ks.map (Value.int .i64))) (hB:B ≤ w.heap.size) (hk':ks.length ≤ 9223372036854775807) :
  Calls Tryd.prog 31 #[.agg cs.toArray,.slice A' ks.length ck'] w (BoolBel (kindsK n ks) w):=by
 obtain ⟨A,ck,A2,cc,xs,rfl,_,h2,h3,_,_,_,_,_,h4⟩:=hn.open_
 have hW:=Below.refl w.heap.size w
 have HE:Hid (∀ w',Below w.heap.size w w' → Calls Tryd.prog 48 #[.slice A2 n.kids.length cc,.slice A' ks.length ck',.func (.func 49) #[] #[]] w' (BoolBel (eqK n.kids ks) w')):=fun w' hb =>
  sEqI_any n.kids ks A2 A' cc ck' xs w' B (h2.keep fun p hp => hb.cell (by omega)) (hks'.keep fun p hp => hb.cell (by omega)) (NdsIs.keep (fun p hp => hb.cell (by omega)) _ _ h3) (by have:=hb.size;omega) h4 hk'
 show Calls Tryd.prog 31 #[.agg #[_,_,_,_,_],_] w (BoolBel _ w)
 obtain ⟨V,hV⟩:∃ V,V = kindsK n ks:=⟨_,rfl⟩
 rw [← hV]
 have HV:=Lib.hid hV
 clear h2 h3 hks' hV
 generalize hq:eqK n.kids ks = q at *
 have HQ:=Lib.hid hq
 clear hq
 by_cases h6:n.kind = 6
 ·have e6:(n.kind == 6) = true:=by rw [beq_iff_eq];exact h6
  have E:Hid (V = q):=by show _ = _;rw [HV.out];unfold kindsK;rw [e6,HQ.out];rfl
  clear h6
  go_enter Tryd.func31,Tryd.ntmps31
  go_wp2_with fail
  refine (HE.out _ (hW.alloc (Nat.le_refl _) _)).mono ?_;rintro e w1 ⟨rfl,hw1⟩
  replace hw1:=nextA hW hw1
  go_wp2_with fail
  go_ret
  exact ⟨by rw [E.out];rfl,hw1⟩
 ·have e6:(n.kind == 6) = false:=by rw [beq_eq_false_iff_ne];exact h6
  have E:Hid (V = false):=by show _ = _;rw [HV.out];unfold kindsK;rw [e6];rfl
  clear h6
  go_enter Tryd.func31,Tryd.ntmps31
  go_wp2_with fail
  go_ret
  exact ⟨by rw [E.out];rfl,hW.alloc (Nat.le_refl _) _⟩
def keysO:List Nd → List ByteArray
 | a :: _ :: r => a.text :: keysO r
 | _ => []
def kidsO:List Nd → List Nd
 | _ :: b :: r => b :: kidsO r
 | _ => []
def objO (ns:List Nd):Nd:=.mk 7 0 ⟨#[]⟩ (keysO ns) (kidsO ns)
theorem keysO_at {ns:List Nd} {j:Nat} {a b:Nd} (h:ns[j]? = some a) (h2:ns[j + 1]? = some b):keysO (ns.drop j) = a.text :: keysO (ns.drop (j + 2)) ∧ kidsO (ns.drop j) = b :: kidsO (ns.drop (j + 2)):=by
 rw [List.drop_eq_getElem_cons (List.getElem?_eq_some_iff.1 h).1,(List.getElem?_eq_some_iff.1 h).2,List.drop_eq_getElem_cons (List.getElem?_eq_some_iff.1 h2).1,(List.getElem?_eq_some_iff.1 h2).2]
 exact ⟨rfl,rfl⟩
theorem keysO_end {ns:List Nd} {j:Nat} (h:ns.length ≤ j + 1):keysO (ns.drop j) = [] ∧ kidsO (ns.drop j) = []:=by
 have:(ns.drop j).length ≤ 1:=by rw [List.length_drop];omega
 match hq:ns.drop j with
 | [] => exact ⟨rfl,rfl⟩
 | [a] => exact ⟨rfl,rfl⟩
 | a :: b :: r => rw [hq] at this;simp at this
theorem keysO_text {ns:List Nd} (h:∀ n ∈ ns,n.text.size ≤ maxLen):∀ t ∈ keysO ns,t.size ≤ maxLen:=by
 match ns with
 | [] => intro t ht;cases ht
 | [a] => intro t ht;cases ht
 | a :: b :: r =>
  intro t ht
  rw [show keysO (a :: b :: r) = a.text :: keysO r from rfl,List.mem_cons] at ht
  rcases ht with rfl | ht
  ·exact h a (by simp)
  ·exact keysO_text (fun n hn => h n (by simp [hn])) t ht
theorem NdsIs.snoc {w:World} {B:Nat} {n:Nd} {cs:List Value} (hn:NdIs w B n cs):∀ (ns:List Nd) (xs:List Value),NdsIs w B ns xs → NdsIs w B (ns ++ [n]) (xs ++ cs)
 | [],xs,h => by
  unfold NdsIs at h
  subst h
  show NdsIs w B (n :: []) _
  unfold NdsIs
  exact ⟨cs,[],by simp,hn,by unfold NdsIs;rfl⟩
 | m :: ns,xs,h => by
  unfold NdsIs at h
  obtain ⟨ds,ys,rfl,h2,h3⟩:=h
  show NdsIs w B (m :: (ns ++ [n])) _
  unfold NdsIs
  exact ⟨ds,ys ++ cs,by simp,h2,NdsIs.snoc hn ns ys h3⟩
theorem step_pushStr {ops:Array Oper} {o:Oper} {a:Act} {w:World} {K:Act → World → Prop} {Q:Exit → Act → World → Prop} {E:Prop}
  (hg:o.guard = none) (s x:Operand) (hop:o.op = Op.call { callee:=Callee.builtin Builtin.append,args:=#[s,x],argTypes:=#[22,22] })
  (B:Nat) (v:Value) (n:Nat) (xs:List Value) (hs:a.eval s = v) (hown:w.ownsRow B 9 1 v n xs) (R:Nat) (A:Option Addr) (c:Nat) (t:ByteArray) (hx:a.eval x = .slice A 1 c) (hr:Reads w R 1 A 1 [.string t])
  (hlim:n + 1 ≤ 1000000000000) (hB:B ≤ w.heap.size)
  (hK:∀ v' w',w'.ownsRow B 9 1 v' (n + 1) (xs ++ [.string t]) → w.grownBy w' v.ownBlock → (v'.ownBlock = v.ownBlock ∨ ∃ g,v'.ownBlock = some g ∧ w.heap.size ≤ g) → K (a.put o.dst v') w') :
  if Region.wanted o (yielded ops a.tmps) = true then Oper.wp Tryd.prog o a w K Q else E:=by
 have hw:Region.wanted o (yielded ops a.tmps) = true:=by simp [Region.wanted,hg]
 rw [if_pos hw]
 obtain ⟨i0,hi0,hz0,hz1,hz2⟩:=info_parts strInfo
 obtain ⟨v',w',h1',h2,h3,h4⟩:=run_append_any (P:=Tryd.prog) w B 22 o.type 9 i0 _ 1 16 Tryd.underlying22 hi0 hz0 hz1 hz2 rfl (by omega) v n _ hown R A 1 c _ hr (fun u hu => by simp at hu;rcases hu with rfl;rfl) (by simp only [maxLen];omega) (by omega) hB
 unfold Oper.wp execOp
 simp only [hop,resolve,invoke,builtin,Sem.run_bind,Sem.run_pure,Result.andThen_ok,List.map_toArray,List.map_cons,List.map_nil,hs,hx,h1']
 refine hK _ _ h2 h3 ?_
 rcases h4 with h4 | h4
 ·exact .inl h4
 ·exact .inr ⟨_,h4,Nat.le_refl _⟩
theorem str_reads (w:World) (t:ByteArray):Reads (w.alloc (.cells #[.string t] 9)).drew (w.heap.size + 1) 1 (some (qa w.heap.size 0)) 1 [.string t]:=by
 refine ⟨rfl,fun _ => ⟨_,rfl,by simp,fun j u hj => ?_⟩⟩
 have e:((qa w.heap.size 0):Addr).add j = (qa w.heap.size j):=by unfold Addr.add;split <;> simp_all
 rw [e]
 show (w.alloc (.cells #[.string t] 9)).cell? _ = _
 rw [World.cell?_alloc_mark]
 simpa using hj
theorem node_reads (w:World) (l:List Value) (hl:l.length = 1 * 5):Reads (w.alloc (.cells l.toArray 25)).drew (w.heap.size + 1) 5 (some (qa w.heap.size 0)) 1 l:=by
 refine ⟨hl,fun _ => ⟨_,rfl,by simp,fun j u hj => ?_⟩⟩
 have e:((qa w.heap.size 0):Addr).add j = (qa w.heap.size j):=by unfold Addr.add;split <;> simp_all
 rw [e]
 show (w.alloc (.cells l.toArray 25)).cell? _ = _
 rw [World.cell?_alloc_mark]
 simpa using hj
theorem grown_lo {w0 w':World} {rb n:Nat} (hg:w0.grownBy w' (some rb)) (hr:n ≤ rb) (hn:n ≤ w0.heap.size):Below n w0 w':=⟨hg.os,hg.tape,hg.output,hg.size,fun i hi => hg.block i (by omega) (fun e => by injection e with e;omega)⟩
theorem NdIs.cells_ {n:Nd} {w:World} {B:Nat} {c0 c1:Int} {c2:ByteArray} {c3:Option Addr} {c4 c5:Nat} {c6:Option Addr} {c7 c8:Nat} (h:NdIs w B n (nL c0 c1 c2 c3 c4 c5 c6 c7 c8)):c0 = n.kind ∧ c2 = n.text ∧ c1 = n.num:=by
 obtain ⟨A,ck,A2,c,xs,h1,_⟩:=h.open_
 simp only [List.cons.injEq,Value.int.injEq,Value.string.injEq,Value.slice.injEq,and_true,true_and] at h1
 obtain ⟨e1,e2,e3,e4,e5,e6,e7⟩:=h1
 exact ⟨e1,e3,e2⟩
structure OI (w0 w:World) (ks:List ByteArray) (ns:List Nd) (K:Option Addr) (kc:Nat) (A:Option Addr) (c:Nat) (ys:List Value):Prop where
 node:Blk w (w0.heap.size + 1) 25 #[.int .i64 7,.int .i64 0,.string ⟨#[]⟩,.slice K ks.length kc,.slice A ns.length c]
 res:Blk w w0.heap.size 25 Zn
 keys:w.ownsRow (w0.heap.size + 2) 9 1 (.slice K ks.length kc) ks.length (ks.map Value.string)
 own:w.ownsRow (w0.heap.size + 2) 25 5 (.slice A ns.length c) ns.length ys
 kids:NdsIs w w0.heap.size ns ys
 low:Below w0.heap.size w0 w
 size:w0.heap.size + 2 ≤ w.heap.size
theorem OI.start (w:World):OI w ((w.alloc (.cells Zn 25)).alloc (.cells #[.int .i64 7,.int .i64 0,.string ⟨#[]⟩,.slice none 0 0,.slice none 0 0] 25)) [] [] none 0 none 0 []:=by
 refine ⟨?_,(Blk.new w _ _).alloc _,World.ownsRow_nil _ _ _ _,World.ownsRow_nil _ _ _ _,(by unfold NdsIs;rfl),((Below.refl _ _).alloc (Nat.le_refl _) _).alloc (by simp) _,by simp⟩
 have:=Blk.new (w.alloc (.cells Zn 25)) 25 #[.int .i64 7,.int .i64 0,.string ⟨#[]⟩,.slice none 0 0,.slice none 0 0]
 simpa using this
theorem OI.below {w0 w w':World} {ks:List ByteArray} {ns:List Nd} {K:Option Addr} {kc:Nat} {A:Option Addr} {c:Nat} {ys:List Value} (h:OI w0 w ks ns K kc A c ys) (hb:Below w.heap.size w w'):OI w0 w' ks ns K kc A c ys:=
 ⟨h.node.below hb h.node.lt,h.res.below hb h.res.lt,own_old h.keys hb,own_old h.own hb,NdsIs.keep (fun p hp => hb.cell (by have:=h.low.size;omega)) _ _ h.kids,nextB h.low hb,Nat.le_trans h.size hb.size⟩
theorem OI.key {w0 w2 w3:World} {ks:List ByteArray} {ns:List Nd} {K:Option Addr} {kc:Nat} {A:Option Addr} {c:Nat} {ys:List Value} (hI:OI w0 w2 ks ns K kc A c ys)
  {t:ByteArray} {g c3:Nat} (hown:w3.ownsRow (w0.heap.size + 2) 9 1 (.slice (some (qa g 0)) (ks.length + 1) c3) (ks.length + 1) (ks.map Value.string ++ [.string t]))
  (p2:w2.grownBy w3 (Value.slice K ks.length kc).ownBlock) (p3:(Value.slice (some (qa g 0)) (ks.length + 1) c3).ownBlock = (Value.slice K ks.length kc).ownBlock ∨ ∃ g1,(Value.slice (some (qa g 0)) (ks.length + 1) c3).ownBlock = some g1 ∧ w2.heap.size ≤ g1) :
  OI w0 (w3.setCell (qa (w0.heap.size + 1) 3) (.slice (some (qa g 0)) (ks.length + 1) c3)) (ks ++ [t]) ns (some (qa g 0)) c3 A c ys:=by
 have ho:∀ g,(Value.slice A ns.length c).ownBlock = some g → w0.heap.size + 2 ≤ g ∧ g < w2.heap.size:=fun g hg => own_lt hI.own hg
 have hk:∀ g,(Value.slice K ks.length kc).ownBlock = some g → w0.heap.size + 2 ≤ g ∧ g < w2.heap.size:=fun g hg => own_lt hI.keys hg
 have s2:=hI.size
 have s3:=p2.size
 have hn3:=hI.node.grown p2 (fun e => by have:=(hk (w0.heap.size + 1) e.symm).1;omega)
 have hr3:=hI.res.grown p2 (fun e => by have:=(hk w0.heap.size e.symm).1;omega)
 have hl3:Below w0.heap.size w0 w3:=hI.low.grown p2 (by have:=hI.low.size;omega) (fun g hg => by have:=(hk g hg).1;omega)
 have hl4:Below w0.heap.size w0 (w3.setCell (qa (w0.heap.size + 1) 3) (.slice (some (qa g 0)) (ks.length + 1) c3)):=grown_lo (grown_set ((show w0.grownBy w3 (some (w0.heap.size + 1)) from ⟨hl3.os,hl3.tape,hl3.output,hl3.size,fun i hi _ => hl3.block i hi⟩)) 3 _) (by omega) (Nat.le_refl _)
 refine ⟨?_,(set_far (by omega)).trans hr3,?_,?_,NdsIs.keep (fun p hp => World.cell?_of_block ((set_far (by omega)).trans (p2.block p.block (by omega) (fun e => by have:=(hk _ e.symm).1;omega)))) _ _ hI.kids,hl4,by simp;omega⟩
 ·have:=hn3.set_ 3 (.slice (some (qa g 0)) (ks.length + 1) c3)
  simpa using this
 ·have:=ownsRow_setCell_below hown (a:=(qa (w0.heap.size + 1) 3)) (show w0.heap.size + 1 < w0.heap.size + 2 by omega) (.slice (some (qa g 0)) (ks.length + 1) c3)
  simpa using this
 ·exact own_moved hI.own (fun b e => (set_far (by have:=(ho b e).1;omega)).trans (p2.block b (ho b e).2 (fun e2 => own_apart hI.own hI.keys (by decide) e e2.symm))) (by simp;omega)
theorem OI.kid {w0 w2 w3:World} {ks:List ByteArray} {ns:List Nd} {K:Option Addr} {kc:Nat} {A:Option Addr} {c:Nat} {ys:List Value} (hI:OI w0 w2 ks ns K kc A c ys)
  {n:Nd} {cs:List Value} (hn:NdIs w2 w0.heap.size n cs) {g c3:Nat} (hown:w3.ownsRow (w0.heap.size + 2) 25 5 (.slice (some (qa g 0)) (ns.length + 1) c3) (ns.length + 1) (ys ++ cs))
  (p2:w2.grownBy w3 (Value.slice A ns.length c).ownBlock) :
  OI w0 (w3.setCell (qa (w0.heap.size + 1) 4) (.slice (some (qa g 0)) (ns.length + 1) c3)) ks (ns ++ [n]) K kc (some (qa g 0)) c3 (ys ++ cs):=by
 have ho:∀ g,(Value.slice A ns.length c).ownBlock = some g → w0.heap.size + 2 ≤ g ∧ g < w2.heap.size:=fun g hg => own_lt hI.own hg
 have hk:∀ g,(Value.slice K ks.length kc).ownBlock = some g → w0.heap.size + 2 ≤ g ∧ g < w2.heap.size:=fun g hg => own_lt hI.keys hg
 have s2:=hI.size
 have s3:=p2.size
 have hn3:=hI.node.grown p2 (fun e => by have:=(ho (w0.heap.size + 1) e.symm).1;omega)
 have hr3:=hI.res.grown p2 (fun e => by have:=(ho w0.heap.size e.symm).1;omega)
 have hl3:Below w0.heap.size w0 w3:=hI.low.grown p2 (by have:=hI.low.size;omega) (fun g hg => by have:=(ho g hg).1;omega)
 have hl4:Below w0.heap.size w0 (w3.setCell (qa (w0.heap.size + 1) 4) (.slice (some (qa g 0)) (ns.length + 1) c3)):=grown_lo (grown_set ((show w0.grownBy w3 (some (w0.heap.size + 1)) from ⟨hl3.os,hl3.tape,hl3.output,hl3.size,fun i hi _ => hl3.block i hi⟩)) 4 _) (by omega) (Nat.le_refl _)
 have hkp:∀ p:Addr,p.block < w0.heap.size → (w3.setCell (qa (w0.heap.size + 1) 4) (.slice (some (qa g 0)) (ns.length + 1) c3)).cell? p = w2.cell? p:=fun p hp => World.cell?_of_block ((set_far (by omega)).trans (p2.block p.block (by omega) (fun e => by have:=(ho _ e.symm).1;omega)))
 refine ⟨?_,(set_far (by omega)).trans hr3,?_,?_,NdsIs.snoc (NdIs.keep hkp _ _ hn) _ _ (NdsIs.keep hkp _ _ hI.kids),hl4,by simp;omega⟩
 ·have:=hn3.set_ 4 (.slice (some (qa g 0)) (ns.length + 1) c3)
  simpa using this
 ·exact own_moved hI.keys (fun b e => (set_far (by have:=(hk b e).1;omega)).trans (p2.block b (hk b e).2 (fun e2 => own_apart hI.keys hI.own (by decide) e e2.symm))) (by simp;omega)
 ·have:=ownsRow_setCell_below hown (a:=(qa (w0.heap.size + 1) 4)) (show w0.heap.size + 1 < w0.heap.size + 2 by omega) (.slice (some (qa g 0)) (ns.length + 1) c3)
  simpa using this
theorem OI.is {w0 w WF:World} {ks:List ByteArray} {ns:List Nd} {K:Option Addr} {kc:Nat} {A:Option Addr} {c:Nat} {ys:List Value} (hI:OI w0 w ks ns K kc A c ys) (hks:∀ t ∈ ks,t.size ≤ maxLen) (hot:∀ g,g ≠ w0.heap.size → WF.heap[g]? = w.heap[g]?) (hsz:WF.heap.size = w.heap.size) :
  NdIs WF WF.heap.size (.mk 7 0 ⟨#[]⟩ ks ns) [.int .i64 7,.int .i64 0,.string ⟨#[]⟩,.slice K ks.length kc,.slice A ns.length c]:=by
 unfold NdIs
 have h1:=hI.low.size
 refine ⟨K,kc,A,c,ys,rfl,?_,?_,?_,by unfold I64;omega,by unfold I64;omega,by decide,hks,own_len hI.keys,own_len hI.own⟩
 ·exact ((own_RS hI.keys).keep (fun p hp => World.cell?_of_block (hot p.block (by have:=hp.1;omega)))).reads (fun b hb => by rw [hsz];exact hb.2)
 ·exact ((own_RS hI.own).keep (fun p hp => World.cell?_of_block (hot p.block (by have:=hp.1;omega)))).reads (fun b hb => by rw [hsz];exact hb.2)
 ·exact NdsIs.more (by rw [hsz];exact h1) _ _ (NdsIs.keep (fun p hp => World.cell?_of_block (hot p.block (by omega))) _ _ hI.kids)
def ObjP (n:Nd) (w:World) (e:Ending) (w':World):Prop:=∃ (c0 c1:Int) (c2:ByteArray) (c3:Option Addr) (c4 c5:Nat) (c6:Option Addr) (c7 c8:Nat),
 e = .returned (.agg (nA c0 c1 c2 c3 c4 c5 c6 c7 c8)) ∧ NdIs w' w'.heap.size n (nL c0 c1 c2 c3 c4 c5 c6 c7 c8) ∧ Below w.heap.size w w'
set_option maxRecDepth 100000 in
set_option maxHeartbeats 4000000 in
theorem kObj_any (ns:List Nd) (A:Option Addr) (cc:Nat) (xs:List Value) (w:World) (hxs:Reads w w.heap.size 5 A ns.length xs) (hns:NdsIs w w.heap.size ns xs) (hlen:ns.length ≤ 1000000) :
  Calls Tryd.prog 22 #[.slice A ns.length cc] w (ObjP (objO ns) w):=by
 have HXS:=Lib.hid hxs
 have HNS:=Lib.hid hns
 have HTX:Hid (∀ n ∈ ns,n.text.size ≤ maxLen):=fun n hn => by
  obtain ⟨i,hi⟩:=List.mem_iff_getElem?.1 hn
  obtain ⟨cs,h1,_⟩:=NdsIs.at_ ns xs i n hns hi
  obtain ⟨_,_,_,_,_,_,_,_,_,_,_,h2,_⟩:=h1.open_
  exact h2
 have I0:=Lib.hid (OI.start w)
 clear hxs hns
 go_enter Tryd.func22,Tryd.ntmps22
 go_wp2_with fail
 generalize (w.alloc (.cells Zn 25)).alloc (.cells #[.int .i64 7,.int .i64 0,.string ⟨#[]⟩,.slice none 0 0,.slice none 0 0] 25) = W at *
 go_loopw [4] (fun t4 wr => ∃ (j:Nat) (ks:List ByteArray) (ms:List Nd) (K:Option Addr) (kc:Nat) (A2:Option Addr) (c2:Nat) (ys:List Value),j ≤ ns.length + 1 ∧ ks.length ≤ j ∧ ms.length ≤ j ∧ t4 = .int .i64 j ∧ Hid (keysO ns = ks ++ keysO (ns.drop j) ∧ kidsO ns = ms ++ kidsO (ns.drop j)) ∧ Hid (OI w wr ks ms K kc A2 c2 ys)) (fun t4 _ => ns.length + 1 - (intOf t4).toNat)
 case atStart => exact ⟨0,[],[],none,0,none,0,[],by omega,by simp,by simp,rfl,⟨rfl,rfl⟩,I0⟩
 case round =>
  clear I0
  obtain ⟨j,ks,ms,K,kc,A2,c2,ys,hj,hkl,hml,rfl,hO,hI⟩:=hrel
  obtain ⟨wo,rfl⟩:∃ wo:World,wo = wr:=⟨_,rfl⟩
  have x1:IntKind.i64.wrap ((j:Int) + 1) = (j:Int) + 1:=IntWalk.i64_in _ (by omega)
  have x2:IntKind.i64.wrap ((j:Int) + 2) = (j:Int) + 2:=IntWalk.i64_in _ (by omega)
  by_cases hlt:j + 1 < ns.length
  ·have hsz:=hI.out.low.size
   have hkeep:∀ p:Addr,p.block < w.heap.size → wo.cell? p = w.cell? p:=fun p hp => hI.out.low.cell hp
   obtain ⟨ad,na,v0,v1,v2,v3,v4,rfl,hadb,hna,hnda,e0,e1,e2,e3,e4⟩:=(HXS.out.keep hkeep).nd (NdsIs.keep hkeep _ _ HNS.out) (show j < ns.length by omega)
   obtain ⟨ad2,nb,y0',y1',y2',y3',y4',had2,hadb2,hnb,hndb,g0,g1,g2,g3,g4⟩:=(HXS.out.keep hkeep).nd (NdsIs.keep hkeep _ _ HNS.out) hlt
   injection had2 with had2
   subst had2
   obtain ⟨z0,z1,z2,z3,z4,z5,z6,z7,z8,rfl,rfl,rfl,rfl,rfl⟩:=hnda.form
   obtain ⟨y0,y1,y2,y3,y4,y5,y6,y7,y8,rfl,rfl,rfl,rfl,rfl⟩:=hndb.form
   obtain ⟨-,ht, -⟩:=NdIs.cells_ hnda
   subst ht
   obtain ⟨hk1,hk2⟩:=keysO_at hna hnb
   have HO2:Hid (keysO ns = (ks ++ [na.text]) ++ keysO (ns.drop (j + 2)) ∧ kidsO ns = (ms ++ [nb]) ++ kidsO (ns.drop (j + 2))):=by
    obtain ⟨h1,h2⟩:=hO.out
    exact ⟨by rw [h1,hk1,List.append_assoc];rfl,by rw [h2,hk2,List.append_assoc];rfl⟩
   have HNB:=Lib.hid hndb
   have i0:(0:Int) ≤ (j:Int):=by omega
   have i1:(j:Int) < (ns.length:Int):=by omega
   have i2:(0:Int) ≤ (j:Int) + 1:=by omega
   have i3:(j:Int) + 1 < (ns.length:Int):=by omega
   have i4:((j:Int) + 1).toNat = j + 1:=by omega
   have hbw:ad.block < wo.heap.size:=by omega
   have hadw:ad.block < w.heap.size:=hadb
   have hk6:ks.length ≤ 1000001:=by omega
   have hm6:ms.length ≤ 1000001:=by omega
   have nc3:=hI.out.node.cell 3
   have LA:Hid (OI w (wo.alloc (.cells #[.string na.text] 9)).drew ks ms K kc A2 c2 ys):=hI.out.below ((Below.refl _ _).alloc (Nat.le_refl _) _).drew
   have la3:(wo.alloc (.cells #[.string na.text] 9)).cell? (qa (w.heap.size + 1) 3) = some (.slice K ks.length kc):=LA.out.node.cell 3
   have la5:(wo.alloc (.cells #[.string na.text] 9)).cell? (qa ((ad.add (j * 5)).block) ((ad.add (j * 5)).off + 2)) = some (.string na.text):=(World.cell?_alloc_lt _ _ _ (by rw [show ((qa ((ad.add (j * 5)).block) ((ad.add (j * 5)).off + 2)):Addr).block = ad.block from block_of_add _ _];exact hbw)).trans e2
   have HLW:=Lib.hid hkeep
   clear hna hnb hnda hndb hk1 hk2 hkeep hO
   go_wp2_with fail
   go_cut [] (fun wx => ∃ (K3:Option Addr) (kc3:Nat),Hid (OI w wx (ks ++ [na.text]) ms K3 kc3 A2 c2 ys))
   case first =>
    go_region_law (first
     | (refine step_pushStr rfl _ _ rfl (w.heap.size + 2) (.slice K ks.length kc) ks.length (ks.map Value.string) (by rfl) LA.out.keys (wo.heap.size + 1) (some (qa wo.heap.size 0)) 1 na.text (by rfl) (str_reads wo na.text) (by omega) LA.out.size ?_;intro v5 w5 p1 p2 p3;obtain ⟨g,cp,rfl,hg1,hg2⟩:=World.ownsRow.form p1 (by omega);have LP:=Lib.hid (LA.out.key p1 p2 p3);have n5:=LA.out.node.grown p2 (fun e => by have:=(own_lt LA.out.keys e.symm).1;omega);have l5c:=n5.cell 3;have l5f:=n5.frozen 3;clear n5 p1 p2 p3)
     | (go_simp;fail))
    all_goals
     go_wp2_with fail
     go_meet
     exact ⟨_,_,LP⟩
   case rest =>
    obtain ⟨K3,kc3,hI3⟩:=hcut
    obtain ⟨wo,rfl⟩:∃ wo:World,wo = wc:=⟨_,rfl⟩
    obtain ⟨ks',hks'⟩:∃ ks',ks' = ks ++ [na.text]:=⟨_,rfl⟩
    rw [← hks'] at hI3 HO2
    have hkl':ks'.length = ks.length + 1:=by rw [hks',List.length_append];simp
    have HKL:=Lib.hid hkl'
    clear hks' hkl' nc3 LA la3 la5 e0 e1 e2 e3 e4
    have hsz:=hI3.out.low.size
    have hlow:∀ p:Addr,p.block < w.heap.size → wo.cell? p = w.cell? p:=fun p hp => hI3.out.low.cell hp
    have HNB3:Hid (NdIs wo w.heap.size nb (nL y0 y1 y2 y3 y4 y5 y6 y7 y8)):=NdIs.keep (fun p hp => (hlow p hp).trans (HLW.out p hp).symm) _ _ HNB.out
    have e0:=(hlow (ad.add ((j + 1) * 5)) (by rw [block_of_add];exact hadw)).trans ((HLW.out _ (by rw [block_of_add];exact hadw)).symm.trans g0)
    have e1:=(hlow (qa ((ad.add ((j + 1) * 5)).block) ((ad.add ((j + 1) * 5)).off + 1)) (by show (ad.add _).block < _;rw [block_of_add];exact hadw)).trans ((HLW.out _ (by show (ad.add _).block < _;rw [block_of_add];exact hadw)).symm.trans g1)
    have e2:=(hlow (qa ((ad.add ((j + 1) * 5)).block) ((ad.add ((j + 1) * 5)).off + 2)) (by show (ad.add _).block < _;rw [block_of_add];exact hadw)).trans ((HLW.out _ (by show (ad.add _).block < _;rw [block_of_add];exact hadw)).symm.trans g2)
    have e3:=(hlow (qa ((ad.add ((j + 1) * 5)).block) ((ad.add ((j + 1) * 5)).off + 3)) (by show (ad.add _).block < _;rw [block_of_add];exact hadw)).trans ((HLW.out _ (by show (ad.add _).block < _;rw [block_of_add];exact hadw)).symm.trans g3)
    have e4:=(hlow (qa ((ad.add ((j + 1) * 5)).block) ((ad.add ((j + 1) * 5)).off + 4)) (by show (ad.add _).block < _;rw [block_of_add];exact hadw)).trans ((HLW.out _ (by show (ad.add _).block < _;rw [block_of_add];exact hadw)).symm.trans g4)
    have hbw2:ad.block < wo.heap.size:=by omega
    have nc4:=hI3.out.node.cell 4
    have LB:Hid (OI w (wo.alloc (.cells (nA y0 y1 y2 y3 y4 y5 y6 y7 y8) 25)).drew ks' ms K3 kc3 A2 c2 ys):=hI3.out.below ((Below.refl _ _).alloc (Nat.le_refl _) _).drew
    have HNB4:Hid (NdIs (wo.alloc (.cells (nA y0 y1 y2 y3 y4 y5 y6 y7 y8) 25)).drew w.heap.size nb (nL y0 y1 y2 y3 y4 y5 y6 y7 y8)):=HNB3.out.below (((Below.refl _ _).alloc hsz _).drew)
    have la4:(wo.alloc (.cells (nA y0 y1 y2 y3 y4 y5 y6 y7 y8) 25)).cell? (qa (w.heap.size + 1) 4) = some (.slice A2 ms.length c2):=LB.out.node.cell 4
    clear g0 g1 g2 g3 g4 hlow HNB HNB3 HLW
    go_wp2_with fail
    go_region_law (first
     | (refine step_pushNd rfl _ _ rfl (w.heap.size + 2) (.slice A2 ms.length c2) ms.length ys (by rfl) LB.out.own (wo.heap.size + 1) (some (qa wo.heap.size 0)) 1 (nL y0 y1 y2 y3 y4 y5 y6 y7 y8) (by rfl) (node_reads wo _ rfl) cells_one (by omega) LB.out.size ?_;intro v5 w5 p1 p2 p3;obtain ⟨g,cp,rfl,hg1,hg2⟩:=World.ownsRow.form p1 (by omega);have LP:=Lib.hid (LB.out.kid HNB4.out p1 p2);have n5:=LB.out.node.grown p2 (fun e => by have:=(own_lt LB.out.own e.symm).1;omega);have l5c:=n5.cell 4;have l5f:=n5.frozen 4;clear n5 p1 p2 p3)
     | (go_simp;fail))
    all_goals
     have HIN:=LP
     clear nc4 LB HNB4 la4 e0 e1 e2 e3 e4
     go_wp2_with fail
     go_roundw
     case rel => exact ⟨j + 2,ks',ms ++ [nb],K3,kc3,_,_,_,by omega,by have:=HKL.out;omega,by rw [List.length_append];simp;omega,by go_num,HO2,HIN⟩
     case measure => simp [intOf];omega
  ·have HE:Hid (keysO ns = ks ∧ kidsO ns = ms):=by
    obtain ⟨h1,h2⟩:=hO.out
    have h3:=keysO_end (ns:=ns) (j:=j) (by omega)
    rw [h3.1,List.append_nil] at h1
    rw [h3.2,List.append_nil] at h2
    exact ⟨h1,h2⟩
   have i3:¬ (j:Int) + 1 < (ns.length:Int):=by omega
   obtain ⟨e1,e2⟩:=HE.out
   have HE2:Hid (objO ns = .mk 7 0 ⟨#[]⟩ ks ms):=by show _ = _;unfold objO;rw [e1,e2]
   have HKS:Hid (∀ t ∈ ks,t.size ≤ maxLen):=by rw [← e1];exact keysO_text HTX.out
   have HI:=hI
   have HGR:Hid (w.grownBy wo (some w.heap.size)):=⟨hI.out.low.os,hI.out.low.tape,hI.out.low.output,hI.out.low.size,fun i hi _ => hI.out.low.block i hi⟩
   obtain ⟨n0,n1,n2,n3,n4⟩:=hI.out.node.cells5
   obtain ⟨z0,z1,z2,z3,z4⟩:=hI.out.res.cells5
   have f0:=hI.out.res.frozen 0
   have f1:=hI.out.res.frozen 1
   have f2:=hI.out.res.frozen 2
   have f3:=hI.out.res.frozen 3
   have f4:=hI.out.res.frozen 4
   obtain ⟨hfin,hgr,hsz,hot⟩:=laid5 hI.out.res HGR.out (Nat.le_refl _) (.int .i64 7) (.int .i64 0) (.string ⟨#[]⟩) (.slice K ks.length kc) (.slice A2 ms.length c2)
   have HFIN:=Lib.hid hfin;have HGF:=Lib.hid hgr;have HSZ:=Lib.hid hsz;have HOT:=Lib.hid hot
   clear hfin hgr hsz hot e1 e2 hO HE
   go_wp2_with fail
   clear f0 f1 f2 f3 f4 z0 z1 z2 z3 z4 n0 n1 n2 n3 n4
   generalize (((((wo.setCell (qa w.heap.size 0) (.int .i64 7)).setCell (qa w.heap.size 1) (.int .i64 0)).setCell (qa w.heap.size 2) (.string ⟨#[]⟩)).setCell (qa w.heap.size 3) (.slice K ks.length kc)).setCell (qa w.heap.size 4) (.slice A2 ms.length c2)) = WF at *
   obtain ⟨q0,q1,q2,q3,q4⟩:=HFIN.out.cells5
   refine bodyPost_ret (v:=.agg #[.int .i64 7,.int .i64 0,.string ⟨#[]⟩,.slice K ks.length kc,.slice A2 ms.length c2]) (by simp [results,Tryd.results22,go_sem,q0,q1,q2,q3,q4]) rfl ?_
   refine ⟨_,_,_,_,_,_,_,_,_,rfl,?_,grown_lo HGF.out (Nat.le_refl _) (Nat.le_refl _)⟩
   rw [HE2.out]
   exact HI.out.is HKS.out (fun b hb => HOT.out b hb) HSZ.out
def textO (n:Nd) (x:ByteArray):Option ByteArray:=match findN n x with
 | none => none
 | some k => if k.kind = 5 then some k.text else none
def TextP (r:Option ByteArray) (w:World) (e:Ending) (w':World):Prop:=e = .returned (.tuple #[.string (r.getD ⟨#[]⟩),.bool r.isSome]) ∧ Below w.heap.size w w'
theorem TextP.no {r:Option ByteArray} {w:World} {e:Ending} {w':World} (hr:r = none) (h:e = .returned (.tuple #[.string ⟨#[]⟩,.bool false]) ∧ Below w.heap.size w w'):TextP r w e w':=by subst hr;exact h
theorem TextP.yes {r:Option ByteArray} {s:ByteArray} {w:World} {e:Ending} {w':World} (hr:r = some s) (h:e = .returned (.tuple #[.string s,.bool true]) ∧ Below w.heap.size w w'):TextP r w e w':=by subst hr;exact h

set_option maxRecDepth 100000 in
set_option maxHeartbeats 1000000 in
theorem kText_any (n:Nd) (x:ByteArray) (cs:List Value) (w:World) (B:Nat) (hn:NdIs w B n cs) (hB:B ≤ w.heap.size) (hs:sizeOk n):Calls Tryd.prog 38 #[.agg cs.toArray,.string x] w (TextP (textO n x) w):=by
 obtain ⟨x0,x1,x2,x3,x4,x5,x6,x7,x8,rfl⟩:=(NdIs.in_ _ _ hn).form
 have hB2:B ≤ (w.alloc (.cells (nA x0 x1 x2 x3 x4 x5 x6 x7 x8) 25)).heap.size:=by simp;omega
 have hal:Below w.heap.size w (w.alloc (.cells (nA x0 x1 x2 x3 x4 x5 x6 x7 x8) 25)):=(Below.refl _ _).alloc (Nat.le_refl _) _
 have HX:=hn.below (hal.mono hB)
 have HF:=Lib.hid (cFind_any n x _ _ B HX hB2 hs)
 have HAL:=Lib.hid hal
 have HT:Hid (findN n x = none → textO n x = none):=fun h => by unfold textO;rw [h]
 have HT2:Hid (∀ k,findN n x = some k → textO n x = if k.kind = 5 then some k.text else none):=fun k h => by unfold textO;rw [h]
 generalize textO n x = V at *
 clear hal HX hn hB2
 show Calls Tryd.prog 38 #[.agg #[_,_,_,_,_],_] w _
 go_enter Tryd.func38,Tryd.ntmps38
 go_wp2_with fail
 refine HF.out.mono ?_
 rintro e w1 ⟨u0,u1,u2,u3,u4,u5,u6,u7,u8,rfl,hu,hb⟩
 have HB:=Lib.hid (nextB HAL.out hb)
 have hu2:∃ B',NdIs w1 B' ((findN n x).getD (nd0 0)) (nL u0 u1 u2 u3 u4 u5 u6 u7 u8):=⟨_,NdIn.is (fun b hb => hb.2) _ _ hu⟩
 obtain ⟨B',hu3⟩:=hu2
 obtain ⟨k1,k2, -⟩:=NdIs.cells_ hu3
 clear hu hb hu3 HF HAL
 cases hq:findN n x with
 | none =>
  have E:=Lib.hid (HT.out hq)
  rw [hq] at k1 k2
  clear HT HT2 hq k1 k2
  go_wp2_with fail
  refine bodyPost_ret (v:=.tuple #[.string ⟨#[]⟩,.bool false]) (by simp [results,Tryd.results38,go_sem]) rfl ?_
  exact TextP.no E.out ⟨rfl,HB.out.alloc HB.out.size _⟩
 | some k =>
  have E:=Lib.hid (HT2.out k hq)
  rw [hq] at k1 k2
  replace k1:u0 = k.kind:=k1
  replace k2:u2 = k.text:=k2
  subst k1 k2
  clear HT HT2 hq
  by_cases h5:k.kind = 5
  ·have E1:Hid (V = some k.text):=by show _ = _;rw [E.out,if_pos h5]
   have h5b:(k.kind != 5) = false:=by rw [bne_eq_false_iff_eq];exact h5
   clear E h5
   go_wp2_with fail
   refine bodyPost_ret (v:=.tuple #[.string k.text,.bool true]) (by simp [results,Tryd.results38,go_sem]) rfl ?_
   exact TextP.yes E1.out ⟨rfl,HB.out.alloc HB.out.size _⟩
  ·have E1:Hid (V = none):=by show _ = _;rw [E.out,if_neg h5]
   have h5b:(k.kind != 5) = true:=bne_iff_ne.2 h5
   clear E h5
   go_wp2_with fail
   refine bodyPost_ret (v:=.tuple #[.string ⟨#[]⟩,.bool false]) (by simp [results,Tryd.results38,go_sem]) rfl ?_
   exact TextP.no E1.out ⟨rfl,HB.out.alloc HB.out.size _⟩
set_option maxRecDepth 100000 in
set_option maxHeartbeats 1000000 in
theorem rText_any (n:Nd) (x:ByteArray) (cs:List Value) (w:World) (B:Nat) (hn:NdIs w B n cs) (hB:B ≤ w.heap.size):Calls Tryd.prog 41 #[.agg cs.toArray,.string x] w (TextP (textO n x) w):=by
 obtain ⟨x0,x1,x2,x3,x4,x5,x6,x7,x8,rfl⟩:=(NdIs.in_ _ _ hn).form
 have hB2:B ≤ (w.alloc (.cells (nA x0 x1 x2 x3 x4 x5 x6 x7 x8) 25)).heap.size:=by simp;omega
 have hal:Below w.heap.size w (w.alloc (.cells (nA x0 x1 x2 x3 x4 x5 x6 x7 x8) 25)):=(Below.refl _ _).alloc (Nat.le_refl _) _
 have HX:=hn.below (hal.mono hB)
 have HF:=Lib.hid (rFind_any n x _ _ B HX hB2)
 have HAL:=Lib.hid hal
 have HT:Hid (findN n x = none → textO n x = none):=fun h => by unfold textO;rw [h]
 have HT2:Hid (∀ k,findN n x = some k → textO n x = if k.kind = 5 then some k.text else none):=fun k h => by unfold textO;rw [h]
 generalize textO n x = V at *
 clear hal HX hn hB2
 show Calls Tryd.prog 41 #[.agg #[_,_,_,_,_],_] w _
 go_enter Tryd.func41,Tryd.ntmps41
 go_wp2_with fail
 refine HF.out.mono ?_
 rintro e w1 ⟨u0,u1,u2,u3,u4,u5,u6,u7,u8,rfl,hu,hb⟩
 have HB:=Lib.hid (nextB HAL.out hb)
 have hu2:∃ B',NdIs w1 B' ((findN n x).getD (nd0 0)) (nL u0 u1 u2 u3 u4 u5 u6 u7 u8):=⟨_,hu⟩
 obtain ⟨B',hu3⟩:=hu2
 obtain ⟨k1,k2, -⟩:=NdIs.cells_ hu3
 clear hu hb hu3 HF HAL
 cases hq:findN n x with
 | none =>
  have E:=Lib.hid (HT.out hq)
  rw [hq] at k1 k2
  clear HT HT2 hq k1 k2
  go_wp2_with fail
  refine bodyPost_ret (v:=.tuple #[.string ⟨#[]⟩,.bool false]) (by simp [results,Tryd.results41,go_sem]) rfl ?_
  exact TextP.no E.out ⟨rfl,HB.out.alloc HB.out.size _⟩
 | some k =>
  have E:=Lib.hid (HT2.out k hq)
  rw [hq] at k1 k2
  replace k1:u0 = k.kind:=k1
  replace k2:u2 = k.text:=k2
  subst k1 k2
  clear HT HT2 hq
  by_cases h5:k.kind = 5
  ·have E1:Hid (V = some k.text):=by show _ = _;rw [E.out,if_pos h5]
   have h5b:(k.kind != 5) = false:=by rw [bne_eq_false_iff_eq];exact h5
   clear E h5
   go_wp2_with fail
   refine bodyPost_ret (v:=.tuple #[.string k.text,.bool true]) (by simp [results,Tryd.results41,go_sem]) rfl ?_
   exact TextP.yes E1.out ⟨rfl,HB.out.alloc HB.out.size _⟩
  ·have E1:Hid (V = none):=by show _ = _;rw [E.out,if_neg h5]
   have h5b:(k.kind != 5) = true:=bne_iff_ne.2 h5
   clear E h5
   go_wp2_with fail
   refine bodyPost_ret (v:=.tuple #[.string ⟨#[]⟩,.bool false]) (by simp [results,Tryd.results41,go_sem]) rfl ?_
   exact TextP.no E1.out ⟨rfl,HB.out.alloc HB.out.size _⟩
theorem ints_reads (w:World) (g:Nat) (ks:List Int) (h:Blk w g 3 (ks.map (Value.int .i64)).toArray):Reads w (g + 1) 1 (some (qa g 0)) ks.length (ks.map (Value.int .i64)):=by
 refine ⟨by simp,fun _ => ⟨_,rfl,by simp,fun j u hj => ?_⟩⟩
 have e:((qa g 0):Addr).add j = (qa g j):=by unfold Addr.add;split <;> simp_all
 rw [e,h.cell]
 simpa using hj
set_option maxRecDepth 100000 in
set_option maxHeartbeats 400000 in
theorem kRead2_any (n:Nd) (cs:List Value) (w:World) (B:Nat) (hn:NdIs w B n cs) (hB:B ≤ w.heap.size):FnN 30 cs.toArray (!kindsK n [5,7,5]) w:=by
 have hn2:=hn
 obtain ⟨A,ck,A2,cc,xs,rfl,_⟩:=hn.open_
 have hW:=Below.refl w.heap.size w
 have hb1:=hW.alloc (Nat.le_refl _) (.cells (nA n.kind n.num n.text A n.keys.length ck A2 n.kids.length cc) 25)
 have hb2:=hb1.alloc hb1.size (.cells #[.int .i64 5,.int .i64 7,.int .i64 5] 3)
 have HK:Hid (Calls Tryd.prog 31 #[.agg (nA n.kind n.num n.text A n.keys.length ck A2 n.kids.length cc),.slice (some (qa (w.heap.size + 1) 0)) 3 3] ((w.alloc (.cells (nA n.kind n.num n.text A n.keys.length ck A2 n.kids.length cc) 25)).alloc (.cells #[.int .i64 5,.int .i64 7,.int .i64 5] 3)) (BoolBel (kindsK n [5,7,5]) ((w.alloc (.cells (nA n.kind n.num n.text A n.keys.length ck A2 n.kids.length cc) 25)).alloc (.cells #[.int .i64 5,.int .i64 7,.int .i64 5] 3)))):=by
  have hbk:Blk ((w.alloc (.cells (nA n.kind n.num n.text A n.keys.length ck A2 n.kids.length cc) 25)).alloc (.cells #[.int .i64 5,.int .i64 7,.int .i64 5] 3)) (w.heap.size + 1) 3 (([5,7,5]:List Int).map (Value.int .i64)).toArray:=by
   have:=Blk.new (w.alloc (.cells (nA n.kind n.num n.text A n.keys.length ck A2 n.kids.length cc) 25)) 3 #[.int .i64 5,.int .i64 7,.int .i64 5]
   rw [show (w.alloc (.cells (nA n.kind n.num n.text A n.keys.length ck A2 n.kids.length cc) 25)).heap.size = w.heap.size + 1 by simp] at this
   exact this
  have HN:NdIs ((w.alloc (.cells (nA n.kind n.num n.text A n.keys.length ck A2 n.kids.length cc) 25)).alloc (.cells #[.int .i64 5,.int .i64 7,.int .i64 5] 3)) (w.heap.size + 1 + 1) n (nL n.kind n.num n.text A n.keys.length ck A2 n.kids.length cc):=NdIs.more (by omega) _ _ (hn2.below (hb2.mono hB))
  exact kkinds_any n _ [5,7,5] (some (qa (w.heap.size + 1) 0)) 3 _ (w.heap.size + 1 + 1) HN (ints_reads _ _ [5,7,5] hbk) (by simp) (by simp)
 have HB2:=Lib.hid hb2
 show Calls Tryd.prog 30 #[.agg #[_,_,_,_,_]] w (BoolBel _ w)
 clear hn hn2 hb1 hb2
 generalize kindsK n [5,7,5] = b at *
 go_enter Tryd.func30,Tryd.ntmps30
 go_wp2_with fail
 refine HK.out.mono ?_;rintro e w1 ⟨rfl,hw1⟩
 have HW1:=Lib.hid (nextB HB2.out hw1)
 clear hw1
 go_wp2_with fail
 go_ret
 exact ⟨rfl,HW1.out⟩
theorem any_at (ns:List Nd) (p:Nd → Bool) (i:Nat) (n:Nd) (h:ns[i]? = some n):(ns.drop i).any p = (p n || (ns.drop (i + 1)).any p):=by
 rw [List.drop_eq_getElem_cons (List.getElem?_eq_some_iff.1 h).1,(List.getElem?_eq_some_iff.1 h).2,List.any_cons]
set_option maxRecDepth 100000 in
set_option maxHeartbeats 1000000 in
theorem sIndexFunc_kRead1 (p:Nd → Bool) (ns:List Nd) (A:Option Addr) (cc:Nat) (xs:List Value) (w:World) (B:Nat) (hxs:Reads w B 5 A ns.length xs) (hns:NdsIs w B ns xs) (hB:B ≤ w.heap.size) (hk:ns.length ≤ 9223372036854775807)
  (HIH:Hid (∀ (n:Nd) (cs:List Value) (w':World),NdIs w' B n cs → B ≤ w'.heap.size → FnN 29 cs.toArray (p n) w')) :
  Calls Tryd.prog 50 #[.slice A ns.length cc,.func (.func 29) #[] #[]] w (IdxPost (!ns.any p) w):=by
 have hW:=Below.refl w.heap.size w
 obtain ⟨V,hV⟩:∃ V,V = ns.any p:=⟨_,rfl⟩
 rw [← hV]
 have HV:Hid (V = (ns.drop 0).any p):=hV
 have HXS:=Lib.hid hxs
 have HNS:=Lib.hid hns
 clear hxs hns hV
 go_enter Tryd.func50,Tryd.ntmps50
 go_wp2_with fail
 go_loopw [8] (fun t wr => ∃ (i:Nat),i ≤ ns.length ∧ t = .int .i64 i ∧ Hid (V = (ns.drop i).any p) ∧ Below w.heap.size w wr) (fun t _ => ns.length - (intOf t).toNat)
 case atStart => exact ⟨0,by omega,rfl,HV,hW⟩
 case round =>
  clear hW
  obtain ⟨i,hi,rfl,hv,hW⟩:=hrel
  obtain ⟨wo,rfl⟩:∃ wo:World,wo = wr:=⟨_,rfl⟩
  have hsz:=hW.size
  by_cases hlt:i < ns.length
  ·have hkeep:∀ p:Addr,p.block < B → wo.cell? p = w.cell? p:=fun p hp => hW.cell (by omega)
   obtain ⟨ad,n,v0,v1,v2,v3,v4,rfl,hadb,hni,hnd,e0,e1,e2,e3,e4⟩:=(HXS.out.keep hkeep).nd (NdsIs.keep hkeep _ _ HNS.out) hlt
   have HSTEP:=Lib.hid (any_at ns p i n hni)
   have HO:Hid (∀ w',Below wo.heap.size wo w' → FnN 29 #[v0,v1,v2,v3,v4] (p n) w'):=fun w' hb =>
    HIH.out n [v0,v1,v2,v3,v4] w' (hnd.below (hb.mono (by omega))) (by have:=hb.size;omega)
   clear hni hnd hkeep
   generalize p n = b at *
   go_wp2_with fail
   refine (HO.out _ (Below.refl _ _)).mono ?_;rintro e w1 ⟨rfl,hw1⟩
   cases b with
   | true =>
    have HE:Hid (V = true):=by show _ = _;rw [hv.out,HSTEP.out];rfl
    go_wp2_with fail
    go_ret
    exact ⟨_,rfl,by rw [HE.out];simp,hW.trans (hw1.mono hsz)⟩
   | false =>
    have HE:Hid (V = (ns.drop (i + 1)).any p):=by show _ = _;rw [hv.out,HSTEP.out];rfl
    go_wp2_with fail
    go_roundw
    case rel => exact ⟨i + 1,by omega,by go_num,HE,hW.trans (hw1.mono hsz)⟩
    case measure => simp [intOf];omega
  ·have HE:Hid (V = false):=by
    show _ = _
    rw [hv.out,List.drop_eq_nil_of_le (by omega)];rfl
   go_wp2_with fail
   go_ret
   exact ⟨_,rfl,by rw [HE.out];rfl,hW⟩
set_option maxRecDepth 100000 in
set_option maxHeartbeats 1000000 in
theorem sContainsFunc_kRead1 (p:Nd → Bool) (ns:List Nd) (A:Option Addr) (cc:Nat) (xs:List Value) (w:World) (B:Nat) (hxs:Reads w B 5 A ns.length xs) (hns:NdsIs w B ns xs) (hB:B ≤ w.heap.size) (hk:ns.length ≤ 9223372036854775807)
  (HIH:Hid (∀ (n:Nd) (cs:List Value) (w':World),NdIs w' B n cs → B ≤ w'.heap.size → FnN 29 cs.toArray (p n) w')) :
  Calls Tryd.prog 32 #[.slice A ns.length cc,.func (.func 29) #[] #[]] w (BoolBel (ns.any p) w):=by
 have HC:=Lib.hid (sIndexFunc_kRead1 p ns A cc xs w B hxs hns hB hk HIH)
 clear hxs hns HIH
 generalize ns.any p = V at *
 go_enter Tryd.func32,Tryd.ntmps32
 go_wp2_with fail
 refine HC.out.mono ?_;rintro e w1 ⟨v,rfl,hv,hw1⟩
 go_wp2_with fail
 go_ret
 exact ⟨by first | (rw [← Bool.not_not (b:=V),← hv];rfl) | (rw [hv];simp) | (simp [hv]),hw1⟩
set_option maxRecDepth 100000 in
set_option maxHeartbeats 1000000 in
theorem sIndexFunc_kRead2 (p:Nd → Bool) (ns:List Nd) (A:Option Addr) (cc:Nat) (xs:List Value) (w:World) (B:Nat) (hxs:Reads w B 5 A ns.length xs) (hns:NdsIs w B ns xs) (hB:B ≤ w.heap.size) (hk:ns.length ≤ 9223372036854775807)
  (HIH:Hid (∀ (n:Nd) (cs:List Value) (w':World),NdIs w' B n cs → B ≤ w'.heap.size → FnN 30 cs.toArray (p n) w')) :
  Calls Tryd.prog 50 #[.slice A ns.length cc,.func (.func 30) #[] #[]] w (IdxPost (!ns.any p) w):=by
 have hW:=Below.refl w.heap.size w
 obtain ⟨V,hV⟩:∃ V,V = ns.any p:=⟨_,rfl⟩
 rw [← hV]
 have HV:Hid (V = (ns.drop 0).any p):=hV
 have HXS:=Lib.hid hxs
 have HNS:=Lib.hid hns
 clear hxs hns hV
 go_enter Tryd.func50,Tryd.ntmps50
 go_wp2_with fail
 go_loopw [8] (fun t wr => ∃ (i:Nat),i ≤ ns.length ∧ t = .int .i64 i ∧ Hid (V = (ns.drop i).any p) ∧ Below w.heap.size w wr) (fun t _ => ns.length - (intOf t).toNat)
 case atStart => exact ⟨0,by omega,rfl,HV,hW⟩
 case round =>
  clear hW
  obtain ⟨i,hi,rfl,hv,hW⟩:=hrel
  obtain ⟨wo,rfl⟩:∃ wo:World,wo = wr:=⟨_,rfl⟩
  have hsz:=hW.size
  by_cases hlt:i < ns.length
  ·have hkeep:∀ p:Addr,p.block < B → wo.cell? p = w.cell? p:=fun p hp => hW.cell (by omega)
   obtain ⟨ad,n,v0,v1,v2,v3,v4,rfl,hadb,hni,hnd,e0,e1,e2,e3,e4⟩:=(HXS.out.keep hkeep).nd (NdsIs.keep hkeep _ _ HNS.out) hlt
   have HSTEP:=Lib.hid (any_at ns p i n hni)
   have HO:Hid (∀ w',Below wo.heap.size wo w' → FnN 30 #[v0,v1,v2,v3,v4] (p n) w'):=fun w' hb =>
    HIH.out n [v0,v1,v2,v3,v4] w' (hnd.below (hb.mono (by omega))) (by have:=hb.size;omega)
   clear hni hnd hkeep
   generalize p n = b at *
   go_wp2_with fail
   refine (HO.out _ (Below.refl _ _)).mono ?_;rintro e w1 ⟨rfl,hw1⟩
   cases b with
   | true =>
    have HE:Hid (V = true):=by show _ = _;rw [hv.out,HSTEP.out];rfl
    go_wp2_with fail
    go_ret
    exact ⟨_,rfl,by rw [HE.out];simp,hW.trans (hw1.mono hsz)⟩
   | false =>
    have HE:Hid (V = (ns.drop (i + 1)).any p):=by show _ = _;rw [hv.out,HSTEP.out];rfl
    go_wp2_with fail
    go_roundw
    case rel => exact ⟨i + 1,by omega,by go_num,HE,hW.trans (hw1.mono hsz)⟩
    case measure => simp [intOf];omega
  ·have HE:Hid (V = false):=by
    show _ = _
    rw [hv.out,List.drop_eq_nil_of_le (by omega)];rfl
   go_wp2_with fail
   go_ret
   exact ⟨_,rfl,by rw [HE.out];rfl,hW⟩
set_option maxRecDepth 100000 in
set_option maxHeartbeats 1000000 in
theorem sContainsFunc_kRead2 (p:Nd → Bool) (ns:List Nd) (A:Option Addr) (cc:Nat) (xs:List Value) (w:World) (B:Nat) (hxs:Reads w B 5 A ns.length xs) (hns:NdsIs w B ns xs) (hB:B ≤ w.heap.size) (hk:ns.length ≤ 9223372036854775807)
  (HIH:Hid (∀ (n:Nd) (cs:List Value) (w':World),NdIs w' B n cs → B ≤ w'.heap.size → FnN 30 cs.toArray (p n) w')) :
  Calls Tryd.prog 32 #[.slice A ns.length cc,.func (.func 30) #[] #[]] w (BoolBel (ns.any p) w):=by
 have HC:=Lib.hid (sIndexFunc_kRead2 p ns A cc xs w B hxs hns hB hk HIH)
 clear hxs hns HIH
 generalize ns.any p = V at *
 go_enter Tryd.func32,Tryd.ntmps32
 go_wp2_with fail
 refine HC.out.mono ?_;rintro e w1 ⟨v,rfl,hv,hw1⟩
 go_wp2_with fail
 go_ret
 exact ⟨by first | (rw [← Bool.not_not (b:=V),← hv];rfl) | (rw [hv];simp) | (simp [hv]),hw1⟩
set_option maxRecDepth 100000 in
set_option maxHeartbeats 1000000 in
theorem sIndexFunc_kRead3 (p:Nd → Bool) (ns:List Nd) (A:Option Addr) (cc:Nat) (xs:List Value) (w:World) (B:Nat) (hxs:Reads w B 5 A ns.length xs) (hns:NdsIs w B ns xs) (hB:B ≤ w.heap.size) (hk:ns.length ≤ 9223372036854775807)
  (HIH:Hid (∀ (n:Nd) (cs:List Value) (w':World),NdIs w' B n cs → B ≤ w'.heap.size → FnN 33 cs.toArray (p n) w')) :
  Calls Tryd.prog 50 #[.slice A ns.length cc,.func (.func 33) #[] #[]] w (IdxPost (!ns.any p) w):=by
 have hW:=Below.refl w.heap.size w
 obtain ⟨V,hV⟩:∃ V,V = ns.any p:=⟨_,rfl⟩
 rw [← hV]
 have HV:Hid (V = (ns.drop 0).any p):=hV
 have HXS:=Lib.hid hxs
 have HNS:=Lib.hid hns
 clear hxs hns hV
 go_enter Tryd.func50,Tryd.ntmps50
 go_wp2_with fail
 go_loopw [8] (fun t wr => ∃ (i:Nat),i ≤ ns.length ∧ t = .int .i64 i ∧ Hid (V = (ns.drop i).any p) ∧ Below w.heap.size w wr) (fun t _ => ns.length - (intOf t).toNat)
 case atStart => exact ⟨0,by omega,rfl,HV,hW⟩
 case round =>
  clear hW
  obtain ⟨i,hi,rfl,hv,hW⟩:=hrel
  obtain ⟨wo,rfl⟩:∃ wo:World,wo = wr:=⟨_,rfl⟩
  have hsz:=hW.size
  by_cases hlt:i < ns.length
  ·have hkeep:∀ p:Addr,p.block < B → wo.cell? p = w.cell? p:=fun p hp => hW.cell (by omega)
   obtain ⟨ad,n,v0,v1,v2,v3,v4,rfl,hadb,hni,hnd,e0,e1,e2,e3,e4⟩:=(HXS.out.keep hkeep).nd (NdsIs.keep hkeep _ _ HNS.out) hlt
   have HSTEP:=Lib.hid (any_at ns p i n hni)
   have HO:Hid (∀ w',Below wo.heap.size wo w' → FnN 33 #[v0,v1,v2,v3,v4] (p n) w'):=fun w' hb =>
    HIH.out n [v0,v1,v2,v3,v4] w' (hnd.below (hb.mono (by omega))) (by have:=hb.size;omega)
   clear hni hnd hkeep
   generalize p n = b at *
   go_wp2_with fail
   refine (HO.out _ (Below.refl _ _)).mono ?_;rintro e w1 ⟨rfl,hw1⟩
   cases b with
   | true =>
    have HE:Hid (V = true):=by show _ = _;rw [hv.out,HSTEP.out];rfl
    go_wp2_with fail
    go_ret
    exact ⟨_,rfl,by rw [HE.out];simp,hW.trans (hw1.mono hsz)⟩
   | false =>
    have HE:Hid (V = (ns.drop (i + 1)).any p):=by show _ = _;rw [hv.out,HSTEP.out];rfl
    go_wp2_with fail
    go_roundw
    case rel => exact ⟨i + 1,by omega,by go_num,HE,hW.trans (hw1.mono hsz)⟩
    case measure => simp [intOf];omega
  ·have HE:Hid (V = false):=by
    show _ = _
    rw [hv.out,List.drop_eq_nil_of_le (by omega)];rfl
   go_wp2_with fail
   go_ret
   exact ⟨_,rfl,by rw [HE.out];rfl,hW⟩
set_option maxRecDepth 100000 in
set_option maxHeartbeats 1000000 in
theorem sContainsFunc_kRead3 (p:Nd → Bool) (ns:List Nd) (A:Option Addr) (cc:Nat) (xs:List Value) (w:World) (B:Nat) (hxs:Reads w B 5 A ns.length xs) (hns:NdsIs w B ns xs) (hB:B ≤ w.heap.size) (hk:ns.length ≤ 9223372036854775807)
  (HIH:Hid (∀ (n:Nd) (cs:List Value) (w':World),NdIs w' B n cs → B ≤ w'.heap.size → FnN 33 cs.toArray (p n) w')) :
  Calls Tryd.prog 32 #[.slice A ns.length cc,.func (.func 33) #[] #[]] w (BoolBel (ns.any p) w):=by
 have HC:=Lib.hid (sIndexFunc_kRead3 p ns A cc xs w B hxs hns hB hk HIH)
 clear hxs hns HIH
 generalize ns.any p = V at *
 go_enter Tryd.func32,Tryd.ntmps32
 go_wp2_with fail
 refine HC.out.mono ?_;rintro e w1 ⟨v,rfl,hv,hw1⟩
 go_wp2_with fail
 go_ret
 exact ⟨by first | (rw [← Bool.not_not (b:=V),← hv];rfl) | (rw [hv];simp) | (simp [hv]),hw1⟩
theorem gL_len:∀ (ns:List Nd) (ks:List ByteArray),ns.length * 50 ≤ gL ks ns
 | [],ks => by simp [gL]
 | n :: ns,ks => by
  have:=gL_len ns ks.tail
  have h4:40 ≤ gN n:=by cases n;unfold gN;omega
  unfold gL
  rw [List.length_cons]
  omega
mutual
theorem size_good:∀ (n:Nd) (deep:Int),goodN n → rightD n deep = true → gN n ≤ 10000000 → sizeOk n
 | .mk k num t ks ns,deep,hg,hr,hs => by
  unfold goodN at hg
  obtain ⟨h1,hk7,h2,h3,h4⟩:=hg
  rw [rightD_eq,Bool.and_eq_true] at hr
  obtain ⟨hb,hr⟩:=hr
  unfold gN at hs
  have hl:=gL_len ns ks
  unfold bareF at hb
  simp only [Bool.and_eq_true,Bool.or_eq_true,beq_iff_eq] at hb
  have hks:ks.length ≤ 1000000:=by
   rcases hb.1.2 with h | h
   ·have:=hk7 h;omega
   ·omega
  unfold sizeOk
  refine ⟨h1,h2,h3,⟨hks,by omega⟩,?_⟩
  by_cases h67:k = 6 ∨ k = 7
  ·refine sizeL_good ns ks (deep + 1) h4 ?_ (by omega)
   simp only [Bool.or_eq_true,Bool.and_eq_true,beq_iff_eq,decide_eq_true_eq] at hr
   rcases h67 with rfl | rfl
   ·simp at hr;exact hr.2
   ·simp at hr;exact hr.2
  ·have:ns = []:=by
    rcases hb.2 with h | h
    ·exact absurd h h67
    ·exact List.eq_nil_of_length_eq_zero h
   subst this
   unfold sizeOkL;trivial
theorem sizeL_good:∀ (ns:List Nd) (ks:List ByteArray) (deep:Int),goodL ns → rightLD ns deep = true → gL ks ns ≤ 10000000 → sizeOkL ns
 | [],ks,deep,h,hr,hs => by unfold sizeOkL;trivial
 | n :: ns,ks,deep,h,hr,hs => by
  unfold goodL at h
  unfold gL at hs
  unfold sizeOkL
  have h0:=rightLD_at (n :: ns) 0 n deep rfl
  rw [List.drop_zero,hr] at h0
  have h0:=(Bool.and_eq_true _ _).mp h0.symm
  exact ⟨size_good n deep h.1 h0.1 (by omega),sizeL_good ns ks.tail deep h.2 (by simpa using h0.2) (by omega)⟩
end
theorem parse_size {l:List UInt8} {n:Nd} (h:parseL l = .ok n):sizeOk n:=by
 obtain ⟨h1,h2,h3,_⟩:=parse_back h
 obtain ⟨g1,g2⟩:=gN_put n 0 h1
 exact size_good n 0 (g2 (by omega)) h1 (by omega)
structure Cl where
 name:ByteArray
 args:Nd
 id:ByteArray
def usingS:ByteArray:=⟨#[117,115,105,110,103]⟩
def callsS:ByteArray:=⟨#[109,101,116,104,111,100,67,97,108,108,115]⟩
def notJ:ByteArray:=⟨#[110,111,116,74,83,79,78]⟩
def notR:ByteArray:=⟨#[110,111,116,82,101,113,117,101,115,116]⟩
def unkC:ByteArray:=⟨#[117,110,107,110,111,119,110,67,97,112,97,98,105,108,105,116,121]⟩
def limS:ByteArray:=⟨#[108,105,109,105,116]⟩
def oddN (n:Nd):Bool:=n.kind != 5
def noneN (n:Nd):Bool:=!kindsK n [5,7,5]
def unkN (n:Nd):Bool:=!knownS n.text
def clOf (n:Nd):Cl:=match n.kids with
 | [a,b,c] => ⟨a.text,b,c.text⟩
 | _ => ⟨⟨#[]⟩,nd0 0,⟨#[]⟩⟩
def readN (u c:Option Nd):Except ByteArray (List Cl):=
 if u.isSome = false then .error notR else if c.isSome = false then .error notR
 else if ((u.getD (nd0 0)).kind != 6) = true then .error notR else if ((c.getD (nd0 0)).kind != 6) = true then .error notR
 else if (u.getD (nd0 0)).kids.any oddN = true then .error notR else if (c.getD (nd0 0)).kids.any noneN = true then .error notR
 else if (u.getD (nd0 0)).kids.any unkN = true then .error unkC else if 16 < (c.getD (nd0 0)).kids.length then .error limS
 else .ok ((c.getD (nd0 0)).kids.map clOf)
def readK (n:Nd):Except ByteArray (List Cl):=readN (findN n usingS) (findN n callsS)
def readL (l:List UInt8):Except ByteArray (List Cl):=match parseL l with
 | .error _ => .error notJ
 | .ok n => readK n
def okL (r:Except ByteArray (List Cl)):List Cl:=match r with
 | .error _ => []
 | .ok l => l
def errS (r:Except ByteArray (List Cl)):ByteArray:=match r with
 | .error e => e
 | .ok _ => ⟨#[]⟩
def ClsIs (w:World) (B:Nat):List Cl → List Value → Prop
 | [],xs => xs = []
 | c :: l,xs => ∃ v ys,xs = .string c.name :: (v ++ .string c.id :: ys) ∧ NdIs w B c.args v ∧ ClsIs w B l ys
theorem ClsIs.keep {w w':World} {B:Nat} (hk:∀ p:Addr,p.block < B → w'.cell? p = w.cell? p):∀ (l:List Cl) (xs:List Value),ClsIs w B l xs → ClsIs w' B l xs
 | [],xs,h => h
 | c :: l,xs,h => by
  unfold ClsIs at h ⊢
  obtain ⟨v,ys,rfl,h2,h3⟩:=h
  exact ⟨v,ys,rfl,NdIs.keep hk _ _ h2,ClsIs.keep hk l ys h3⟩
theorem ClsIs.below {w w':World} {B:Nat} {l:List Cl} {xs:List Value} (h:ClsIs w B l xs) (hb:Below B w w'):ClsIs w' B l xs:=ClsIs.keep (fun p hp => hb.cell hp) l xs h
theorem ClsIs.more {w:World} {B B':Nat} (hB:B ≤ B'):∀ (l:List Cl) (xs:List Value),ClsIs w B l xs → ClsIs w B' l xs
 | [],xs,h => h
 | c :: l,xs,h => by
  unfold ClsIs at h ⊢
  obtain ⟨v,ys,rfl,h2,h3⟩:=h
  exact ⟨v,ys,rfl,NdIs.more hB _ _ h2,ClsIs.more hB l ys h3⟩
theorem ClsIs.snoc {w:World} {B:Nat} {a b:ByteArray} {n:Nd} {v:List Value} (hn:NdIs w B n v):∀ (l:List Cl) (xs:List Value),ClsIs w B l xs → ClsIs w B (l ++ [⟨a,n,b⟩]) (xs ++ .string a :: (v ++ [.string b]))
 | [],xs,h => by
  unfold ClsIs at h
  subst h
  exact ⟨v,[],rfl,hn,rfl⟩
 | c :: l,xs,h => by
  unfold ClsIs at h
  obtain ⟨u,ys,rfl,h2,h3⟩:=h
  refine ⟨u,ys ++ .string a :: (v ++ [.string b]),by simp,h2,ClsIs.snoc hn l ys h3⟩
def ReadP (r:Except ByteArray (List Cl)) (w:World) (e:Ending) (w':World):Prop:=∃ (A:Option Addr) (c:Nat) (xs:List Value),
 e = .returned (.tuple #[.slice A (okL r).length c,.string (errS r)]) ∧ Reads w' w'.heap.size 7 A (okL r).length xs ∧ ClsIs w' w'.heap.size (okL r) xs ∧ Below w.heap.size w w'
theorem ReadP.err {r:Except ByteArray (List Cl)} {w w':World} {s:ByteArray} (h:r = .error s) (hb:Below w.heap.size w w'):ReadP r w (.returned (.tuple #[.slice none 0 0,.string s])) w':=by
 subst h
 exact ⟨none,0,[],rfl,Reads.none_,rfl,hb⟩
theorem kid3 {n:Nd} (h:noneN n = false):∃ a b c,n.kids = [a,b,c] ∧ n.kind = 6 ∧ a.kind = 5 ∧ b.kind = 7 ∧ c.kind = 5:=by
 unfold noneN kindsK at h
 rw [Bool.not_eq_false',Bool.and_eq_true,beq_iff_eq] at h
 obtain ⟨h6,h⟩:=h
 match hk:n.kids with
 | [] => rw [hk] at h;cases h
 | [a] => rw [hk] at h;simp [eqK] at h
 | [a,b] => rw [hk] at h;simp [eqK] at h
 | [a,b,c] =>
  rw [hk] at h
  simp only [eqK,Bool.and_eq_true,beq_iff_eq] at h
  exact ⟨a,b,c,rfl,h6,h.1,h.2.1,h.2.2.1⟩
 | a :: b :: c :: d :: l => rw [hk] at h;simp [eqK] at h
theorem any_get {ns:List Nd} {p:Nd → Bool} (h:ns.any p = false) {i:Nat} {n:Nd} (hi:ns[i]? = some n):p n = false:=by
 rw [List.any_eq_false] at h
 have:=h n (List.mem_of_getElem? hi)
 simpa using this
theorem map_take {ns:List Nd} {i:Nat} {n:Nd} (h:ns[i]? = some n):(ns.take (i + 1)).map clOf = (ns.take i).map clOf ++ [clOf n]:=by
 obtain ⟨hl,he⟩:=List.getElem?_eq_some_iff.1 h
 rw [List.take_add_one,h]
 simp
theorem callInfo:(Tryd.prog.info? 31).map (fun i => (i.zero,i.size,i.bytes)) = some (some (.agg #[.string ⟨#[]⟩,.int .i64 0,.int .i64 0,.string ⟨#[]⟩,.slice none 0 0,.slice none 0 0,.string ⟨#[]⟩]),7,112):=by kernel_rfl
theorem step_pushCl {w:World} {ops:Array Oper} {o:Oper} {a:Act} {K:Act → World → Prop} {Q:Exit → Act → World → Prop} {E:Prop} (hgd:o.guard = none) (s x:Operand)
  (ho:o.op = .call { callee:=.builtin .append,args:=#[s,x],argTypes:=#[26,26] })
  (B:Nat) (v:Value) (n:Nat) (xs:List Value) (hs:a.eval s = v) (hown:w.ownsRow B 31 7 v n xs) (B2:Nat) (A:Option Addr) (m c:Nat) (ys:List Value) (hr:Reads w B2 7 A m ys) (h1:∀ u ∈ ys,u.oneCell' = true)
  (hx:a.eval x = .slice A m c)
  (hlim:n + m ≤ 1000000000) (hB:B ≤ w.heap.size)
  (h:∀ v' w',w'.ownsRow B 31 7 v' (n + m) (xs ++ ys) → w.grownBy w' v.ownBlock → K (a.put o.dst v') w') :
  if Region.wanted o (yielded ops a.tmps) = true then Oper.wp Tryd.prog o a w K Q else E:=by
 have hw:Region.wanted o (yielded ops a.tmps) = true:=by simp [Region.wanted,hgd]
 rw [if_pos hw]
 obtain ⟨i0,hi0,hz0,hz1,hz2⟩:=info_parts callInfo
 obtain ⟨v',w',h1,h2,h3,h4⟩:=run_append_any (P:=Tryd.prog) w B 26 o.type 31 i0 _ 7 112 Tryd.underlying26 hi0 hz0 hz1 hz2 rfl (by omega) v n _ hown B2 _ m c _ hr
  h1 (by simp only [maxLen];omega) (by omega) hB
 unfold Oper.wp execOp
 simp only [ho,resolve,invoke,builtin,Sem.run_bind,Sem.run_pure,Result.andThen_ok,List.map_toArray,List.map_cons,List.map_nil,hs,hx,h1]
 exact h v' w' h2 h3
theorem reads7 (w:World) (v0 v1 v2 v3 v4 v5 v6:Value):Reads (w.alloc (.cells #[v0,v1,v2,v3,v4,v5,v6] 31)) (w.heap.size + 1) 7 (some (qa w.heap.size 0)) 1 [v0,v1,v2,v3,v4,v5,v6]:=by
 refine ⟨rfl,fun _ => ⟨_,rfl,by simp,fun j u hj => ?_⟩⟩
 have e:((qa w.heap.size 0):Addr).add j = (qa w.heap.size j):=by unfold Addr.add;split <;> simp_all
 rw [e,World.cell?_alloc_mark]
 simpa using hj
def rofS:ByteArray:=⟨#[114,101,115,117,108,116,79,102]⟩
def rnmS:ByteArray:=⟨#[110,97,109,101]⟩
def rpaS:ByteArray:=⟨#[112,97,116,104]⟩
def badA:ByteArray:=⟨#[105,110,118,97,108,105,100,65,114,103,117,109,101,110,116,115]⟩
def badR:ByteArray:=⟨#[105,110,118,97,108,105,100,82,101,115,117,108,116,82,101,102,101,114,101,110,99,101]⟩
def hitB (id nm:ByteArray) (d:Cl):Bool:=d.id.toList == id.toList && d.name.toList == nm.toList
noncomputable def backO (id nm path:ByteArray) (l:List Cl):Option Nd:=match l.reverse.find? (hitB id nm) with
 | none => none
 | some d => (pointN d.args path).1
noncomputable def referO (m:Nat) (n:Nd) (l:List Cl):Option Nd:=match textO n rofS,textO n rnmS,textO n rpaS with
 | some id,some nm,some p => if m = 3 then backO id nm p l else none
 | _,_,_ => none
def hashB (k:ByteArray):Bool:=Lib.hasPrefix k.data.toList [35]
def tlS (k:ByteArray):ByteArray:=⟨(Lib.trimPrefix k.data.toList [35]).toArray⟩
def resAcc (R:Nd → Option Nd) (all:List ByteArray):List ByteArray → List Nd → List ByteArray → List Nd → Except ByteArray Nd
 | k :: ks,n :: ns,aK,aN => if hashB k = true then (if (idxK all (tlS k)).isSome = true then .error badA else match R n with
   | none => .error badR
   | some x => resAcc R all ks ns (aK ++ [tlS k]) (aN ++ [x])) else resAcc R all ks ns (aK ++ [k]) (aN ++ [n])
 | _,_,aK,aN => .ok (.mk 7 0 ⟨#[]⟩ aK aN)
noncomputable def resN (n:Nd) (l:List Cl):Except ByteArray Nd:=if n.kind ≠ 7 ∨ n.keys.length ≠ n.kids.length then .error badA else resAcc (fun m => referO m.kids.length m l) n.keys n.keys n.kids [] []
def okR (r:Except ByteArray Nd):Nd:=match r with
 | .error _ => nd0 0
 | .ok n => n
def errR (r:Except ByteArray Nd):ByteArray:=match r with
 | .error e => e
 | .ok _ => ⟨#[]⟩
def ReferP (r:Option Nd) (S:Nat → Prop) (w:World) (e:Ending) (w':World):Prop:=∃ (c0 c1:Int) (c2:ByteArray) (c3:Option Addr) (c4 c5:Nat) (c6:Option Addr) (c7 c8:Nat),
 e = .returned (.tuple #[.agg (nA c0 c1 c2 c3 c4 c5 c6 c7 c8),.bool r.isSome]) ∧ (∀ m,r = some m → NdIn w' (fun b => S b ∨ Since w w' b) m (nL c0 c1 c2 c3 c4 c5 c6 c7 c8)) ∧ Below w.heap.size w w'
def ResP (r:Except ByteArray Nd) (w:World) (e:Ending) (w':World):Prop:=∃ (c0 c1:Int) (c2:ByteArray) (c3:Option Addr) (c4 c5:Nat) (c6:Option Addr) (c7 c8:Nat),
 e = .returned (.tuple #[.agg (nA c0 c1 c2 c3 c4 c5 c6 c7 c8),.string (errR r)]) ∧ NdIs w' w'.heap.size (okR r) (nL c0 c1 c2 c3 c4 c5 c6 c7 c8) ∧ Below w.heap.size w w'
theorem find_back {p:Cl → Bool} {l:List Cl} {i:Nat} {d:Cl} (hi:l[i]? = some d) (hp:p d = true) (h:∀ (j:Nat) (c:Cl),i < j → l[j]? = some c → p c = false):l.reverse.find? p = some d:=by
 have hlt:=(List.getElem?_eq_some_iff.1 hi).1
 have e:l = l.take i ++ d :: l.drop (i + 1):=by
  conv => lhs;rw [← List.take_append_drop i l,List.drop_eq_getElem_cons hlt]
  rw [(List.getElem?_eq_some_iff.1 hi).2]
 rw [e,List.reverse_append,List.reverse_cons,List.append_assoc,List.find?_append]
 have hn:(l.drop (i + 1)).reverse.find? p = none:=by
  rw [List.find?_eq_none]
  intro c hc
  rw [List.mem_reverse] at hc
  obtain ⟨j,hj⟩:=List.mem_iff_getElem?.1 hc
  rw [List.getElem?_drop] at hj
  rw [h _ c (by omega) hj];simp
 rw [hn,Option.none_or,List.singleton_append,List.find?_cons,hp]
theorem find_back_none {p:Cl → Bool} {l:List Cl} (h:∀ (j:Nat) (c:Cl),l[j]? = some c → p c = false):l.reverse.find? p = none:=by
 rw [List.find?_eq_none]
 intro c hc
 rw [List.mem_reverse] at hc
 obtain ⟨j,hj⟩:=List.mem_iff_getElem?.1 hc
 rw [h j c hj];simp
theorem back_some {id nm path:ByteArray} {l:List Cl} {i:Nat} {d:Cl} (hi:l[i]? = some d) (hp:hitB id nm d = true) (h:∀ (j:Nat) (c:Cl),i < j → l[j]? = some c → hitB id nm c = false):backO id nm path l = (pointN d.args path).1:=by
 unfold backO;rw [find_back hi hp h]
theorem back_none {id nm path:ByteArray} {l:List Cl} (h:∀ (j:Nat) (c:Cl),l[j]? = some c → hitB id nm c = false):backO id nm path l = none:=by
 unfold backO;rw [find_back_none h]
theorem refer_3 {m:Nat} {n:Nd} {l:List Cl} {id nm p:ByteArray} (h1:textO n rofS = some id) (h2:textO n rnmS = some nm) (h3:textO n rpaS = some p) (h:m = 3):referO m n l = backO id nm p l:=by
 unfold referO;rw [h1,h2,h3];simp only;rw [if_pos h]
theorem refer_m {m:Nat} {n:Nd} {l:List Cl} (h:¬ m = 3):referO m n l = none:=by
 unfold referO
 split
 ·rw [if_neg h]
 ·rfl
theorem refer_a {m:Nat} {n:Nd} {l:List Cl} (h:textO n rofS = none):referO m n l = none:=by unfold referO;rw [h]
theorem refer_b {m:Nat} {n:Nd} {l:List Cl} (h:textO n rnmS = none):referO m n l = none:=by
 unfold referO
 split
 ·rename_i h1 h2 h3;rw [h] at h2;cases h2
 ·rfl
theorem refer_c {m:Nat} {n:Nd} {l:List Cl} (h:textO n rpaS = none):referO m n l = none:=by
 unfold referO
 split
 ·rename_i h1 h2 h3;rw [h] at h3;cases h3
 ·rfl
theorem pointN_iff (n:Nd) (p:ByteArray):(pointN n p).1.isSome = ((pointN n p).2 == 0):=by
 unfold pointN
 split
 ·rfl
 ·split
  ·rfl
  ·cases getN (partsP p) n <;> rfl
theorem resAcc_end (R:Nd → Option Nd) (all ks:List ByteArray) (ns:List Nd) (aK:List ByteArray) (aN:List Nd) (h:ks = [] ∨ ns = []):resAcc R all ks ns aK aN = .ok (.mk 7 0 ⟨#[]⟩ aK aN):=by
 cases ks with
 | nil => unfold resAcc;rfl
 | cons k ks =>
  cases ns with
  | nil => unfold resAcc;rfl
  | cons n ns => rcases h with h | h <;> cases h
theorem resAcc_no {R:Nd → Option Nd} {all ks:List ByteArray} {ns:List Nd} {aK:List ByteArray} {aN:List Nd} {k:ByteArray} {n:Nd} (h:hashB k = false):resAcc R all (k :: ks) (n :: ns) aK aN = resAcc R all ks ns (aK ++ [k]) (aN ++ [n]):=by
 rw [resAcc,if_neg (by rw [h];simp)]
theorem resAcc_twice {R:Nd → Option Nd} {all ks:List ByteArray} {ns:List Nd} {aK:List ByteArray} {aN:List Nd} {k:ByteArray} {n:Nd} (h:hashB k = true) (h2:(idxK all (tlS k)).isSome = true):resAcc R all (k :: ks) (n :: ns) aK aN = .error badA:=by
 rw [resAcc,if_pos h,if_pos h2]
theorem resAcc_bad {R:Nd → Option Nd} {all ks:List ByteArray} {ns:List Nd} {aK:List ByteArray} {aN:List Nd} {k:ByteArray} {n:Nd} (h:hashB k = true) (h2:(idxK all (tlS k)).isSome = false) (h3:R n = none):resAcc R all (k :: ks) (n :: ns) aK aN = .error badR:=by
 rw [resAcc,if_pos h,if_neg (by rw [h2];simp),h3]
theorem resAcc_yes {R:Nd → Option Nd} {all ks:List ByteArray} {ns:List Nd} {aK:List ByteArray} {aN:List Nd} {k:ByteArray} {n x:Nd} (h:hashB k = true) (h2:(idxK all (tlS k)).isSome = false) (h3:R n = some x):resAcc R all (k :: ks) (n :: ns) aK aN = resAcc R all ks ns (aK ++ [tlS k]) (aN ++ [x]):=by
 rw [resAcc,if_pos h,if_neg (by rw [h2];simp),h3]
theorem tlS_size (k:ByteArray):(tlS k).size ≤ k.size:=by
 unfold tlS Lib.trimPrefix
 split
 ·show (List.toArray _).size ≤ _
  rw [List.size_toArray,List.length_drop]
  show _ ≤ k.data.size
  rw [Array.length_toList];omega
 ·show (List.toArray _).size ≤ _
  rw [List.size_toArray,Array.length_toList];exact Nat.le_refl _
theorem idxI_some (ks:List ByteArray) (x:ByteArray):decide (0 ≤ idxI ks x) = (idxK ks x).isSome:=by
 unfold idxI
 cases idxK ks x with
 | none => rfl
 | some i => simp
end Go.Proofs.YthbjehbpanhdoaaDoor
