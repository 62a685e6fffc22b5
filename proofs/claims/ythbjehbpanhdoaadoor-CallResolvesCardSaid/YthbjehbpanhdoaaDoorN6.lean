/- Texts of one seat,one behind the other: Jval3,Jval4,Jval1,Jman1,Jcont. No condition. -/
import Derived.Test.YthbjehbpanhdoaaDoorN5
namespace Go.Proofs.YthbjehbpanhdoaaDoor
open Go.RowKit Go.PlainAid
set_option linter.unusedVariables false
set_option linter.unusedSimpArgs false
structure VInv (w0:World) (rb:Nat) (deep:Int) (w:World):Prop where
 rbox:Blk w w0.heap.size 75 #[.pointer (some (qa rb 0))]
 dbox:Blk w (w0.heap.size + 1) 3 #[.int .i64 deep]
 res:Blk w (w0.heap.size + 1 + 1) 25 Zn
 grow:w0.grownBy w (some rb)
 size:w0.heap.size + 3 ≤ w.heap.size
 lt:rb < w0.heap.size
theorem VInv.start (w:World) (rb:Nat) (deep:Int) (h:rb < w.heap.size):VInv w rb deep (((w.alloc (.cells #[.pointer (some (qa rb 0))] 75)).alloc (.cells #[.int .i64 deep] 3)).alloc (.cells Zn 25)):=by
 refine ⟨((Blk.new w _ _).alloc _).alloc _,?_,?_,grown_alloc (grown_alloc (grown_alloc (grown_refl _ _) _) _) _,by simp,h⟩
 ·have:=(Blk.new (w.alloc (.cells #[.pointer (some (qa rb 0))] 75)) 3 #[.int .i64 deep]).alloc (.cells Zn 25)
  simpa using this
 ·have:=Blk.new ((w.alloc (.cells #[.pointer (some (qa rb 0))] 75)).alloc (.cells #[.int .i64 deep] 3)) 25 Zn
  simpa using this
theorem VInv.next {w0:World} {rb:Nat} {deep:Int} {w w':World} (h:VInv w0 rb deep w) (g:w.grownBy w' (some rb)):VInv w0 rb deep w':=by
 have hl:=h.lt
 exact ⟨h.rbox.grown g (by intro e;injection e with e;omega),h.dbox.grown g (by intro e;injection e with e;omega),h.res.grown g (by intro e;injection e with e;omega),h.grow.trans g,Nat.le_trans h.size g.size,hl⟩
theorem VInv.drewN {w0:World} {rb:Nat} {deep:Int} {w:World} (h:VInv w0 rb deep w) (n:Nat):VInv w0 rb deep (w.drewN n):=h.next (grown_drewN (grown_refl _ _) n)
theorem VInv.laid {w0:World} {rb:Nat} {deep:Int} {w:World} (h:VInv w0 rb deep w) (a b c d e:Value) :
  Blk (((((w.setCell (qa (w0.heap.size + 1 + 1) 0) a).setCell (qa (w0.heap.size + 1 + 1) 1) b).setCell (qa (w0.heap.size + 1 + 1) 2) c).setCell (qa (w0.heap.size + 1 + 1) 3) d).setCell (qa (w0.heap.size + 1 + 1) 4) e) (w0.heap.size + 1 + 1) 25 #[a,b,c,d,e] ∧
  w0.grownBy (((((w.setCell (qa (w0.heap.size + 1 + 1) 0) a).setCell (qa (w0.heap.size + 1 + 1) 1) b).setCell (qa (w0.heap.size + 1 + 1) 2) c).setCell (qa (w0.heap.size + 1 + 1) 3) d).setCell (qa (w0.heap.size + 1 + 1) 4) e) (some rb) ∧
  (((((w.setCell (qa (w0.heap.size + 1 + 1) 0) a).setCell (qa (w0.heap.size + 1 + 1) 1) b).setCell (qa (w0.heap.size + 1 + 1) 2) c).setCell (qa (w0.heap.size + 1 + 1) 3) d).setCell (qa (w0.heap.size + 1 + 1) 4) e).heap.size = w.heap.size ∧
  ∀ g,g ≠ w0.heap.size + 1 + 1 → (((((w.setCell (qa (w0.heap.size + 1 + 1) 0) a).setCell (qa (w0.heap.size + 1 + 1) 1) b).setCell (qa (w0.heap.size + 1 + 1) 2) c).setCell (qa (w0.heap.size + 1 + 1) 3) d).setCell (qa (w0.heap.size + 1 + 1) 4) e).heap[g]? = w.heap[g]?:=by
 refine ⟨(((((h.res.set_ 0 a).set_ 1 b).set_ 2 c).set_ 3 d).set_ 4 e),grown_new (grown_new (grown_new (grown_new (grown_new h.grow (by omega) 0 _) (by omega) 1 _) (by omega) 2 _) (by omega) 3 _) (by omega) 4 _,by simp,fun g hg => ?_⟩
 rw [Below.heap_setCell _ _ _ _ hg,Below.heap_setCell _ _ _ _ hg,Below.heap_setCell _ _ _ _ hg,Below.heap_setCell _ _ _ _ hg,Below.heap_setCell _ _ _ _ hg]
theorem VInv.frozen {w0:World} {rb:Nat} {deep:Int} {w:World} (h:VInv w0 rb deep w) (i:Nat):w.frozen? (qa (w0.heap.size + 1 + 1) i) = false:=h.res.frozen i
theorem nd_plain {w:World} {S:Nat → Prop} (k n:Int) (t:ByteArray) (hk:I64 k) (hn:I64 n) (ht:t.size ≤ 1000000000):NdIn w S (.mk k n t [] []) (nL k n t none 0 0 none 0 0):=by
 unfold NdIn
 exact ⟨none,0,none,0,[],rfl,RS.none_,RS.none_,NdsIn.nil,hk,hn,by simp only [maxLen];omega,by simp,by simp,by simp⟩
theorem esc_one (c:UInt8):1 ≤ (escU c).length:=by
 unfold escU
 repeat' split
 all_goals simp
theorem flat_ge (t:List UInt8):t.length ≤ (t.flatMap escU).length:=by
 induction t with
 | nil => simp
 | cons c t ih =>
  have:=esc_one c
  simp only [List.flatMap_cons,List.length_append,List.length_cons];omega
theorem quote_ge (t:List UInt8):t.length + 2 ≤ (quoteU t).length:=by
 have:=flat_ge t
 unfold quoteU
 simp only [List.length_append,List.length_cons,List.length_nil];omega
theorem ValEnd.bad {rb:Nat} {s:ByteArray} {c:Int} {r:Except Int (Nd × List UInt8)} {w w1:World} {e:Ending} {w':World} (hr:r = .error c) (h:Failed rb s c w1 e w') (g:w.grownBy w1 (some rb)):ValEnd rb s r w e w':=by
 subst hr;exact h.from g
theorem ValEnd.good {rb:Nat} {s:ByteArray} {r:Except Int (Nd × List UInt8)} {n:Nd} {l:List UInt8} {w:World} {e:Ending} {w':World} (c0 c1:Int) (c2:ByteArray) (c3:Option Addr) (c4 c5:Nat) (c6:Option Addr) (c7 c8:Nat) (hr:r = .ok (n,l))
  (he:e = .returned (.agg (nA c0 c1 c2 c3 c4 c5 c6 c7 c8))) (hn:NdIn w' (Since w w') n (nL c0 c1 c2 c3 c4 c5 c6 c7 c8)) (ht:RdTo rb s l w w'):ValEnd rb s r w e w':=by
 subst hr;exact ⟨c0,c1,c2,c3,c4,c5,c6,c7,c8,he,hn,ht⟩
theorem fst_ne {s:ByteArray} {k n:Nat} {u c:UInt8} {t r:List UInt8} (hd:s.toList.drop k = u :: r) (h:u ≠ c):(s.toList.drop k).take n ≠ c :: t:=by
 intro e
 have:=take_head e
 rw [hd] at this
 simp at this
 exact h this
theorem lit_toList (l:List UInt8):(⟨l.toArray⟩:ByteArray).toList = l:=by rw [ByteArray.toList_eq]
set_option maxRecDepth 100000 in
set_option maxHeartbeats 4000000 in
theorem value_end (rb:Nat) (s:ByteArray) (deep k:Nat) (w:World) (h:RdSt w rb s k) (hk:k ≤ s.size) (hs:s.size ≤ 1000000) (hlt:¬ k < s.size) (r:Except Int (Nd × List UInt8)) (hr:r = .error 3) :
  Calls Tryd.prog 46 #[.pointer (some (qa rb 0)),.int .i64 deep] w (ValEnd rb s r w):=by
 have HE:=Lib.hid hr
 clear hr
 have ne1:((k:Int) == (s.size:Int)) = true:=by rw [beq_iff_eq];omega
 have hb:=get_bt s
 have V0:=Lib.hid (VInv.start w rb deep h.lt)
 have R0:Hid (RdSt (((w.alloc (.cells #[.pointer (some (qa rb 0))] 75)).alloc (.cells #[.int .i64 deep] 3)).alloc (.cells Zn 25)) rb s k):=((h.alloc _).alloc _).alloc _
 have hrb:rb < w.heap.size:=h.lt
 have i0:(0:Int) ≤ (k:Int):=by omega
 clear h
 go_enter Tryd.func46,Tryd.ntmps46
 go_wp2_with fail
 generalize (((w.alloc (.cells #[.pointer (some (qa rb 0))] 75)).alloc (.cells #[.int .i64 deep] 3)).alloc (.cells Zn 25)) = W at *
 have r0:W.cell? (qa w.heap.size 0) = some (.pointer (some (qa rb 0))):=V0.out.rbox.cell 0
 have d0:W.cell? (qa (w.heap.size + 1) 0) = some (.int .i64 deep):=V0.out.dbox.cell 0
 obtain ⟨c0,c1,c2⟩:=R0.out.cells3
 go_quiet (fail)
 go_wp2_with fail
 clear r0 d0 c0 c1 c2
 have V1:Hid (∀ n,VInv w rb deep (W.drewN n)):=fun n => V0.out.drewN n
 have R1:Hid (∀ n,RdSt (W.drewN n) rb s k):=fun n => R0.out
 refine (fail_any rb s k 3 _ (R1.out _)).mono ?_;rintro e w9 ⟨rfl,h9,g9⟩
 have H9:=Lib.hid h9
 have G9:=Lib.hid g9
 clear h9 g9
 go_wp2_with fail
 exact ⟨rfl,ValEnd.bad HE.out ⟨rfl,H9.out,G9.out⟩ (V1.out _).grow⟩
set_option maxRecDepth 100000 in
set_option maxHeartbeats 4000000 in
theorem value_deep_arr (rb:Nat) (s:ByteArray) (deep k:Nat) (w:World) (h:RdSt w rb s k) (hk:k ≤ s.size) (hs:s.size ≤ 1000000) (hlt:k < s.size) (hdp:24 ≤ deep) (hd9:deep ≤ 24) (q:bt s k = 91) (r:Except Int (Nd × List UInt8)) (hr:r = .error 4) :
  Calls Tryd.prog 46 #[.pointer (some (qa rb 0)),.int .i64 deep] w (ValEnd rb s r w):=by
 have HE:=Lib.hid hr
 clear hr
 have hdI:(24:Int) ≤ (deep:Int):=by omega
 have ne1:((k:Int) == (s.size:Int)) = false:=by rw [beq_eq_false_iff_ne];omega
 have i1:(k:Int) < (s.size:Int):=by omega
 have b0:=bt_nonneg s k
 have b1:=bt_le s k
 have hb:=get_bt s
 have V0:=Lib.hid (VInv.start w rb deep h.lt)
 have R0:Hid (RdSt (((w.alloc (.cells #[.pointer (some (qa rb 0))] 75)).alloc (.cells #[.int .i64 deep] 3)).alloc (.cells Zn 25)) rb s k):=((h.alloc _).alloc _).alloc _
 have hrb:rb < w.heap.size:=h.lt
 have i0:(0:Int) ≤ (k:Int):=by omega
 clear h
 go_enter Tryd.func46,Tryd.ntmps46
 go_wp2_with fail
 generalize (((w.alloc (.cells #[.pointer (some (qa rb 0))] 75)).alloc (.cells #[.int .i64 deep] 3)).alloc (.cells Zn 25)) = W at *
 have r0:W.cell? (qa w.heap.size 0) = some (.pointer (some (qa rb 0))):=V0.out.rbox.cell 0
 have d0:W.cell? (qa (w.heap.size + 1) 0) = some (.int .i64 deep):=V0.out.dbox.cell 0
 obtain ⟨c0,c1,c2⟩:=R0.out.cells3
 go_quiet (fail)
 go_wp2_with fail
 go_quiet (fail)
 go_wp2_with fail
 clear r0 d0 c0 c1 c2
 have V1:Hid (∀ n,VInv w rb deep (W.drewN n)):=fun n => V0.out.drewN n
 have R1:Hid (∀ n,RdSt (W.drewN n) rb s k):=fun n => R0.out
 refine (fail_any rb s k 4 _ (R1.out _)).mono ?_;rintro e w9 ⟨rfl,h9,g9⟩
 have H9:=Lib.hid h9
 have G9:=Lib.hid g9
 clear h9 g9
 go_wp2_with fail
 exact ⟨rfl,ValEnd.bad HE.out ⟨rfl,H9.out,G9.out⟩ (V1.out _).grow⟩
set_option maxRecDepth 100000 in
set_option maxHeartbeats 4000000 in
theorem value_deep_obj (rb:Nat) (s:ByteArray) (deep k:Nat) (w:World) (h:RdSt w rb s k) (hk:k ≤ s.size) (hs:s.size ≤ 1000000) (hlt:k < s.size) (hdp:24 ≤ deep) (hd9:deep ≤ 24) (q:bt s k = 123) (r:Except Int (Nd × List UInt8)) (hr:r = .error 4) :
  Calls Tryd.prog 46 #[.pointer (some (qa rb 0)),.int .i64 deep] w (ValEnd rb s r w):=by
 have HE:=Lib.hid hr
 clear hr
 have hdI:(24:Int) ≤ (deep:Int):=by omega
 have ne1:((k:Int) == (s.size:Int)) = false:=by rw [beq_eq_false_iff_ne];omega
 have i1:(k:Int) < (s.size:Int):=by omega
 have b0:=bt_nonneg s k
 have b1:=bt_le s k
 have hb:=get_bt s
 have V0:=Lib.hid (VInv.start w rb deep h.lt)
 have R0:Hid (RdSt (((w.alloc (.cells #[.pointer (some (qa rb 0))] 75)).alloc (.cells #[.int .i64 deep] 3)).alloc (.cells Zn 25)) rb s k):=((h.alloc _).alloc _).alloc _
 have hrb:rb < w.heap.size:=h.lt
 have i0:(0:Int) ≤ (k:Int):=by omega
 clear h
 go_enter Tryd.func46,Tryd.ntmps46
 go_wp2_with fail
 generalize (((w.alloc (.cells #[.pointer (some (qa rb 0))] 75)).alloc (.cells #[.int .i64 deep] 3)).alloc (.cells Zn 25)) = W at *
 have r0:W.cell? (qa w.heap.size 0) = some (.pointer (some (qa rb 0))):=V0.out.rbox.cell 0
 have d0:W.cell? (qa (w.heap.size + 1) 0) = some (.int .i64 deep):=V0.out.dbox.cell 0
 obtain ⟨c0,c1,c2⟩:=R0.out.cells3
 go_quiet (fail)
 go_wp2_with fail
 go_quiet (fail)
 go_wp2_with fail
 clear r0 d0 c0 c1 c2
 have V1:Hid (∀ n,VInv w rb deep (W.drewN n)):=fun n => V0.out.drewN n
 have R1:Hid (∀ n,RdSt (W.drewN n) rb s k):=fun n => R0.out
 refine (fail_any rb s k 4 _ (R1.out _)).mono ?_;rintro e w9 ⟨rfl,h9,g9⟩
 have H9:=Lib.hid h9
 have G9:=Lib.hid g9
 clear h9 g9
 go_wp2_with fail
 exact ⟨rfl,ValEnd.bad HE.out ⟨rfl,H9.out,G9.out⟩ (V1.out _).grow⟩
set_option maxRecDepth 100000 in
set_option maxHeartbeats 4000000 in
theorem value_str (rb:Nat) (s:ByteArray) (deep k:Nat) (w:World) (h:RdSt w rb s k) (hk:k ≤ s.size) (hs:s.size ≤ 1000000) (hlt:k < s.size) (q:bt s k = 34) (u:UInt8) (rest:List UInt8) (hd:s.toList.drop k = u :: rest) (hu:bt s k = u.toNat) (r:Except Int (Nd × List UInt8))
  (hr:r = match textL (s.toList.drop k) with
  | none => .error 3
  | some (t,r) => .ok (.mk 5 0 ⟨t.toArray⟩ [] [],r)) :
  Calls Tryd.prog 46 #[.pointer (some (qa rb 0)),.int .i64 deep] w (ValEnd rb s r w):=by
 have ne1:((k:Int) == (s.size:Int)) = false:=by rw [beq_eq_false_iff_ne];omega
 have i1:(k:Int) < (s.size:Int):=by omega
 have b0:=bt_nonneg s k
 have b1:=bt_le s k
 have une:∀ c:UInt8,¬ bt s k = c.toNat → u ≠ c:=fun c h e => h (by rw [hu,e])
 have q91:¬ bt s k = 91:=by omega
 have q123:¬ bt s k = 123:=by omega
 have HU91:=Lib.hid (une 91 q91)
 have HU123:=Lib.hid (une 123 q123)
 have HD:=Lib.hid hd
 clear hd hu une
 have n91:(bt s k == 91) = false:=by rw [beq_eq_false_iff_ne];exact q91
 have n123:(bt s k == 123) = false:=by rw [beq_eq_false_iff_ne];exact q123
 have hb:=get_bt s
 have V0:=Lib.hid (VInv.start w rb deep h.lt)
 have R0:Hid (RdSt (((w.alloc (.cells #[.pointer (some (qa rb 0))] 75)).alloc (.cells #[.int .i64 deep] 3)).alloc (.cells Zn 25)) rb s k):=((h.alloc _).alloc _).alloc _
 have hrb:rb < w.heap.size:=h.lt
 have i0:(0:Int) ≤ (k:Int):=by omega
 clear h
 cases ht:textL (s.toList.drop k) with
 | none =>
  have HE:Hid (r = .error 3):=Lib.hid (by rw [hr,ht])
  have HT:=Lib.hid ht
  clear hr ht
  go_enter Tryd.func46,Tryd.ntmps46
  go_wp2_with fail
  generalize (((w.alloc (.cells #[.pointer (some (qa rb 0))] 75)).alloc (.cells #[.int .i64 deep] 3)).alloc (.cells Zn 25)) = W at *
  have r0:W.cell? (qa w.heap.size 0) = some (.pointer (some (qa rb 0))):=V0.out.rbox.cell 0
  have d0:W.cell? (qa (w.heap.size + 1) 0) = some (.int .i64 deep):=V0.out.dbox.cell 0
  obtain ⟨c0,c1,c2⟩:=R0.out.cells3
  go_quiet (fail)
  go_wp2_with fail
  go_quiet (fail)
  go_wp2_with fail
  clear r0 d0 c0 c1 c2
  have V1:Hid (∀ n,VInv w rb deep (W.drewN n)):=fun n => V0.out.drewN n
  have R1:Hid (∀ n,RdSt (W.drewN n) rb s k):=fun n => R0.out
  refine (may_no rb s ⟨#[91]⟩ k _ (R1.out _) hk hs (by decide) (by rw [lit_toList [91]];exact fst_ne HD.out HU91.out)).mono ?_;rintro e w2 ⟨rfl,h9,g9⟩
  have V2:Hid (VInv w rb deep w2):=(V1.out _).next g9
  have R2:=Lib.hid h9
  clear h9 g9
  have r2:w2.cell? (qa w.heap.size 0) = some (.pointer (some (qa rb 0))):=V2.out.rbox.cell 0
  have d2:w2.cell? (qa (w.heap.size + 1) 0) = some (.int .i64 deep):=V2.out.dbox.cell 0
  go_wp2_with fail
  refine (may_no rb s ⟨#[123]⟩ k _ R2.out hk hs (by decide) (by rw [lit_toList [123]];exact fst_ne HD.out HU123.out)).mono ?_;rintro e w3 ⟨rfl,h9,g9⟩
  have V3:Hid (VInv w rb deep w3):=V2.out.next g9
  have R3:=Lib.hid h9
  clear h9 g9
  clear r2 d2
  have r3:w3.cell? (qa w.heap.size 0) = some (.pointer (some (qa rb 0))):=V3.out.rbox.cell 0
  have d3:w3.cell? (qa (w.heap.size + 1) 0) = some (.int .i64 deep):=V3.out.dbox.cell 0
  go_wp2_with fail
  refine (text_any rb s k _ R3.out hk hs).mono ?_;rintro e w9 he
  rw [HT.out] at he
  obtain ⟨rfl,h9,g9⟩:=he
  have H9:=Lib.hid h9
  have G9:=Lib.hid g9
  clear h9 g9
  go_wp2_with fail
  exact ⟨rfl,ValEnd.bad HE.out ⟨rfl,H9.out,G9.out⟩ V3.out.grow⟩
 | some p =>
  obtain ⟨t,l⟩:=p
  have HE:Hid (r = .ok (.mk 5 0 ⟨t.toArray⟩ [] [],l)):=Lib.hid (by rw [hr,ht])
  have HTS:Hid ((⟨t.toArray⟩:ByteArray).size ≤ 1000000000):=by
   show _ ≤ _
   have h1:=(textL_ok ht).2
   have h2:=quote_ge t
   rw [len_drop] at h1
   show t.toArray.size ≤ _
   simp;omega
  have HT:=Lib.hid ht
  clear hr ht
  go_enter Tryd.func46,Tryd.ntmps46
  go_wp2_with fail
  generalize (((w.alloc (.cells #[.pointer (some (qa rb 0))] 75)).alloc (.cells #[.int .i64 deep] 3)).alloc (.cells Zn 25)) = W at *
  have r0:W.cell? (qa w.heap.size 0) = some (.pointer (some (qa rb 0))):=V0.out.rbox.cell 0
  have d0:W.cell? (qa (w.heap.size + 1) 0) = some (.int .i64 deep):=V0.out.dbox.cell 0
  obtain ⟨c0,c1,c2⟩:=R0.out.cells3
  go_quiet (fail)
  go_wp2_with fail
  go_quiet (fail)
  go_wp2_with fail
  clear r0 d0 c0 c1 c2
  have V1:Hid (∀ n,VInv w rb deep (W.drewN n)):=fun n => V0.out.drewN n
  have R1:Hid (∀ n,RdSt (W.drewN n) rb s k):=fun n => R0.out
  refine (may_no rb s ⟨#[91]⟩ k _ (R1.out _) hk hs (by decide) (by rw [lit_toList [91]];exact fst_ne HD.out HU91.out)).mono ?_;rintro e w2 ⟨rfl,h9,g9⟩
  have V2:Hid (VInv w rb deep w2):=(V1.out _).next g9
  have R2:=Lib.hid h9
  clear h9 g9
  have r2:w2.cell? (qa w.heap.size 0) = some (.pointer (some (qa rb 0))):=V2.out.rbox.cell 0
  have d2:w2.cell? (qa (w.heap.size + 1) 0) = some (.int .i64 deep):=V2.out.dbox.cell 0
  go_wp2_with fail
  refine (may_no rb s ⟨#[123]⟩ k _ R2.out hk hs (by decide) (by rw [lit_toList [123]];exact fst_ne HD.out HU123.out)).mono ?_;rintro e w3 ⟨rfl,h9,g9⟩
  have V3:Hid (VInv w rb deep w3):=V2.out.next g9
  have R3:=Lib.hid h9
  clear h9 g9
  clear r2 d2
  have r3:w3.cell? (qa w.heap.size 0) = some (.pointer (some (qa rb 0))):=V3.out.rbox.cell 0
  have d3:w3.cell? (qa (w.heap.size + 1) 0) = some (.int .i64 deep):=V3.out.dbox.cell 0
  go_wp2_with fail
  refine (text_any rb s k _ R3.out hk hs).mono ?_;rintro e w4 he
  rw [HT.out] at he
  obtain ⟨rfl,k4,hk4,e4,h9,g9⟩:=he
  have V4:Hid (VInv w rb deep w4):=V3.out.next g9
  have R4:=Lib.hid h9
  have E4:=Lib.hid e4
  clear h9 g9 e4 r3 d3
  have f0:=V4.out.frozen 0
  have f1:=V4.out.frozen 1
  have f2:=V4.out.frozen 2
  have f3:=V4.out.frozen 3
  have f4:=V4.out.frozen 4
  obtain ⟨z0,z1,z2,z3,z4⟩:=V4.out.res.cells5
  obtain ⟨hfin,hgr,hsz,hot⟩:=V4.out.laid (.int .i64 5) (.int .i64 0) (.string ⟨t.toArray⟩) (.slice none 0 0) (.slice none 0 0)
  have HFIN:=Lib.hid hfin
  have HGR:=Lib.hid hgr
  have HSZ:=Lib.hid hsz
  have HOT:=Lib.hid hot
  clear hfin hgr hsz hot
  go_wp2_with fail
  clear f0 f1 f2 f3 f4 z0 z1 z2 z3 z4
  generalize (((((w4.setCell (qa (w.heap.size + 1 + 1) 0) (.int .i64 5)).setCell (qa (w.heap.size + 1 + 1) 1) (.int .i64 0)).setCell (qa (w.heap.size + 1 + 1) 2) (.string ⟨t.toArray⟩)).setCell (qa (w.heap.size + 1 + 1) 3) (.slice none 0 0)).setCell (qa (w.heap.size + 1 + 1) 4) (.slice none 0 0)) = WF at *
  obtain ⟨q0,q1,q2,q3,q4⟩:=HFIN.out.cells5
  refine bodyPost_ret (v:=.agg #[.int .i64 5,.int .i64 0,.string ⟨t.toArray⟩,.slice none 0 0,.slice none 0 0]) (by simp [results,Tryd.results46,go_sem,q0,q1,q2,q3,q4]) rfl ?_
  exact ValEnd.good _ _ _ _ _ _ _ _ _ HE.out rfl (nd_plain 5 0 _ (by unfold I64;omega) (by unfold I64;omega) HTS.out) ⟨k4,hk4,E4.out,(HOT.out rb (by omega)).trans R4.out,HGR.out⟩
set_option maxRecDepth 100000 in
set_option maxHeartbeats 4000000 in
theorem value_null (rb:Nat) (s:ByteArray) (deep k:Nat) (w:World) (h:RdSt w rb s k) (hk:k ≤ s.size) (hs:s.size ≤ 1000000) (hlt:k < s.size) (q91:¬ bt s k = 91) (q123:¬ bt s k = 123) (q34:¬ bt s k = 34) (u:UInt8) (rest:List UInt8) (hd:s.toList.drop k = u :: rest) (hu:bt s k = u.toNat)  (hy:(s.toList.drop k).take 4 = [110,117,108,108]) (r:Except Int (Nd × List UInt8)) (hr:r = .ok (nd0 1,(s.toList.drop k).drop 4)) :
  Calls Tryd.prog 46 #[.pointer (some (qa rb 0)),.int .i64 deep] w (ValEnd rb s r w):=by
 have HE:=Lib.hid hr
 have ne1:((k:Int) == (s.size:Int)) = false:=by rw [beq_eq_false_iff_ne];omega
 have i1:(k:Int) < (s.size:Int):=by omega
 have b0:=bt_nonneg s k
 have b1:=bt_le s k
 have une:∀ c:UInt8,¬ bt s k = c.toNat → u ≠ c:=fun c h e => h (by rw [hu,e])
 have HU91:=Lib.hid (une 91 q91)
 have HU123:=Lib.hid (une 123 q123)
 have HD:=Lib.hid hd
 have HY:=Lib.hid hy
 clear hd hu une hr hy 
 have n91:(bt s k == 91) = false:=by rw [beq_eq_false_iff_ne];exact q91
 have n123:(bt s k == 123) = false:=by rw [beq_eq_false_iff_ne];exact q123
 have n34:(bt s k == 34) = false:=by rw [beq_eq_false_iff_ne];exact q34
 have hb:=get_bt s
 have V0:=Lib.hid (VInv.start w rb deep h.lt)
 have R0:Hid (RdSt (((w.alloc (.cells #[.pointer (some (qa rb 0))] 75)).alloc (.cells #[.int .i64 deep] 3)).alloc (.cells Zn 25)) rb s k):=((h.alloc _).alloc _).alloc _
 have hrb:rb < w.heap.size:=h.lt
 have i0:(0:Int) ≤ (k:Int):=by omega
 clear h
 go_enter Tryd.func46,Tryd.ntmps46
 go_wp2_with fail
 generalize (((w.alloc (.cells #[.pointer (some (qa rb 0))] 75)).alloc (.cells #[.int .i64 deep] 3)).alloc (.cells Zn 25)) = W at *
 have r0:W.cell? (qa w.heap.size 0) = some (.pointer (some (qa rb 0))):=V0.out.rbox.cell 0
 have d0:W.cell? (qa (w.heap.size + 1) 0) = some (.int .i64 deep):=V0.out.dbox.cell 0
 obtain ⟨c0,c1,c2⟩:=R0.out.cells3
 go_quiet (fail)
 go_wp2_with fail
 go_quiet (fail)
 go_wp2_with fail
 clear r0 d0 c0 c1 c2
 have V1:Hid (∀ n,VInv w rb deep (W.drewN n)):=fun n => V0.out.drewN n
 have R1:Hid (∀ n,RdSt (W.drewN n) rb s k):=fun n => R0.out
 refine (may_no rb s ⟨#[91]⟩ k _ (R1.out _) hk hs (by decide) (by rw [lit_toList [91]];exact fst_ne HD.out HU91.out)).mono ?_;rintro e w2 ⟨rfl,h9,g9⟩
 have V2:Hid (VInv w rb deep w2):=(V1.out _).next g9
 have R2:=Lib.hid h9
 clear h9 g9
 have r2:w2.cell? (qa w.heap.size 0) = some (.pointer (some (qa rb 0))):=V2.out.rbox.cell 0
 have d2:w2.cell? (qa (w.heap.size + 1) 0) = some (.int .i64 deep):=V2.out.dbox.cell 0
 go_wp2_with fail
 refine (may_no rb s ⟨#[123]⟩ k _ R2.out hk hs (by decide) (by rw [lit_toList [123]];exact fst_ne HD.out HU123.out)).mono ?_;rintro e w3 ⟨rfl,h9,g9⟩
 have V3:Hid (VInv w rb deep w3):=V2.out.next g9
 have R3:=Lib.hid h9
 clear h9 g9
 clear r2 d2
 have r3:w3.cell? (qa w.heap.size 0) = some (.pointer (some (qa rb 0))):=V3.out.rbox.cell 0
 have d3:w3.cell? (qa (w.heap.size + 1) 0) = some (.int .i64 deep):=V3.out.dbox.cell 0
 go_wp2_with fail
 refine (may_yes rb s ⟨#[110,117,108,108]⟩ k _ R3.out hk hs (by rw [lit_toList [110,117,108,108]];exact HY.out)).mono ?_;rintro e w4 ⟨rfl,k4,hk4,e4,h9,g9⟩
 have V4:Hid (VInv w rb deep w4):=V3.out.next g9
 have R4:=Lib.hid h9
 have E4:=Lib.hid e4
 clear h9 g9 e4
 clear r3 d3
 have r4:w4.cell? (qa w.heap.size 0) = some (.pointer (some (qa rb 0))):=V4.out.rbox.cell 0
 have d4:w4.cell? (qa (w.heap.size + 1) 0) = some (.int .i64 deep):=V4.out.dbox.cell 0
 clear r4 d4
 have f0:=V4.out.frozen 0
 have f1:=V4.out.frozen 1
 have f2:=V4.out.frozen 2
 have f3:=V4.out.frozen 3
 have f4:=V4.out.frozen 4
 obtain ⟨z0,z1,z2,z3,z4⟩:=V4.out.res.cells5
 obtain ⟨hfin,hgr,hsz,hot⟩:=V4.out.laid (.int .i64 1) (.int .i64 0) (.string ⟨#[]⟩) (.slice none 0 0) (.slice none 0 0)
 have HFIN:=Lib.hid hfin
 have HGR:=Lib.hid hgr
 have HSZ:=Lib.hid hsz
 have HOT:=Lib.hid hot
 clear hfin hgr hsz hot
 go_wp2_with fail
 clear f0 f1 f2 f3 f4 z0 z1 z2 z3 z4
 generalize (((((w4.setCell (qa (w.heap.size + 1 + 1) 0) (.int .i64 1)).setCell (qa (w.heap.size + 1 + 1) 1) (.int .i64 0)).setCell (qa (w.heap.size + 1 + 1) 2) (.string ⟨#[]⟩)).setCell (qa (w.heap.size + 1 + 1) 3) (.slice none 0 0)).setCell (qa (w.heap.size + 1 + 1) 4) (.slice none 0 0)) = WF at *
 obtain ⟨q0,q1,q2,q3,q4⟩:=HFIN.out.cells5
 refine bodyPost_ret (v:=.agg #[.int .i64 1,.int .i64 0,.string ⟨#[]⟩,.slice none 0 0,.slice none 0 0]) (by simp [results,Tryd.results46,go_sem,q0,q1,q2,q3,q4]) rfl ?_
 exact ValEnd.good _ _ _ _ _ _ _ _ _ HE.out rfl (nd_plain 1 0 ⟨#[]⟩ (by unfold I64;omega) (by unfold I64;omega) (by decide)) ⟨k4,hk4,E4.out,(HOT.out rb (by omega)).trans R4.out,HGR.out⟩
set_option maxRecDepth 100000 in
set_option maxHeartbeats 4000000 in
theorem value_false (rb:Nat) (s:ByteArray) (deep k:Nat) (w:World) (h:RdSt w rb s k) (hk:k ≤ s.size) (hs:s.size ≤ 1000000) (hlt:k < s.size) (q91:¬ bt s k = 91) (q123:¬ bt s k = 123) (q34:¬ bt s k = 34) (u:UInt8) (rest:List UInt8) (hd:s.toList.drop k = u :: rest) (hu:bt s k = u.toNat) (hn0:(s.toList.drop k).take 4 ≠ [110,117,108,108]) (hy:(s.toList.drop k).take 5 = [102,97,108,115,101]) (r:Except Int (Nd × List UInt8)) (hr:r = .ok (nd0 2,(s.toList.drop k).drop 5)) :
  Calls Tryd.prog 46 #[.pointer (some (qa rb 0)),.int .i64 deep] w (ValEnd rb s r w):=by
 have HE:=Lib.hid hr
 have ne1:((k:Int) == (s.size:Int)) = false:=by rw [beq_eq_false_iff_ne];omega
 have i1:(k:Int) < (s.size:Int):=by omega
 have b0:=bt_nonneg s k
 have b1:=bt_le s k
 have une:∀ c:UInt8,¬ bt s k = c.toNat → u ≠ c:=fun c h e => h (by rw [hu,e])
 have HU91:=Lib.hid (une 91 q91)
 have HU123:=Lib.hid (une 123 q123)
 have HD:=Lib.hid hd
 have HN0:=Lib.hid hn0
 have HY:=Lib.hid hy
 clear hd hu une hr hy hn0
 have n91:(bt s k == 91) = false:=by rw [beq_eq_false_iff_ne];exact q91
 have n123:(bt s k == 123) = false:=by rw [beq_eq_false_iff_ne];exact q123
 have n34:(bt s k == 34) = false:=by rw [beq_eq_false_iff_ne];exact q34
 have hb:=get_bt s
 have V0:=Lib.hid (VInv.start w rb deep h.lt)
 have R0:Hid (RdSt (((w.alloc (.cells #[.pointer (some (qa rb 0))] 75)).alloc (.cells #[.int .i64 deep] 3)).alloc (.cells Zn 25)) rb s k):=((h.alloc _).alloc _).alloc _
 have hrb:rb < w.heap.size:=h.lt
 have i0:(0:Int) ≤ (k:Int):=by omega
 clear h
 go_enter Tryd.func46,Tryd.ntmps46
 go_wp2_with fail
 generalize (((w.alloc (.cells #[.pointer (some (qa rb 0))] 75)).alloc (.cells #[.int .i64 deep] 3)).alloc (.cells Zn 25)) = W at *
 have r0:W.cell? (qa w.heap.size 0) = some (.pointer (some (qa rb 0))):=V0.out.rbox.cell 0
 have d0:W.cell? (qa (w.heap.size + 1) 0) = some (.int .i64 deep):=V0.out.dbox.cell 0
 obtain ⟨c0,c1,c2⟩:=R0.out.cells3
 go_quiet (fail)
 go_wp2_with fail
 go_quiet (fail)
 go_wp2_with fail
 clear r0 d0 c0 c1 c2
 have V1:Hid (∀ n,VInv w rb deep (W.drewN n)):=fun n => V0.out.drewN n
 have R1:Hid (∀ n,RdSt (W.drewN n) rb s k):=fun n => R0.out
 refine (may_no rb s ⟨#[91]⟩ k _ (R1.out _) hk hs (by decide) (by rw [lit_toList [91]];exact fst_ne HD.out HU91.out)).mono ?_;rintro e w2 ⟨rfl,h9,g9⟩
 have V2:Hid (VInv w rb deep w2):=(V1.out _).next g9
 have R2:=Lib.hid h9
 clear h9 g9
 have r2:w2.cell? (qa w.heap.size 0) = some (.pointer (some (qa rb 0))):=V2.out.rbox.cell 0
 have d2:w2.cell? (qa (w.heap.size + 1) 0) = some (.int .i64 deep):=V2.out.dbox.cell 0
 go_wp2_with fail
 refine (may_no rb s ⟨#[123]⟩ k _ R2.out hk hs (by decide) (by rw [lit_toList [123]];exact fst_ne HD.out HU123.out)).mono ?_;rintro e w3 ⟨rfl,h9,g9⟩
 have V3:Hid (VInv w rb deep w3):=V2.out.next g9
 have R3:=Lib.hid h9
 clear h9 g9
 clear r2 d2
 have r3:w3.cell? (qa w.heap.size 0) = some (.pointer (some (qa rb 0))):=V3.out.rbox.cell 0
 have d3:w3.cell? (qa (w.heap.size + 1) 0) = some (.int .i64 deep):=V3.out.dbox.cell 0
 go_wp2_with fail
 refine (may_no rb s ⟨#[110,117,108,108]⟩ k _ R3.out hk hs (by decide) (by rw [lit_toList [110,117,108,108]];exact HN0.out)).mono ?_;rintro e w4 ⟨rfl,h9,g9⟩
 have V4:Hid (VInv w rb deep w4):=V3.out.next g9
 have R4:=Lib.hid h9
 clear h9 g9
 clear r3 d3
 have r4:w4.cell? (qa w.heap.size 0) = some (.pointer (some (qa rb 0))):=V4.out.rbox.cell 0
 have d4:w4.cell? (qa (w.heap.size + 1) 0) = some (.int .i64 deep):=V4.out.dbox.cell 0
 go_wp2_with fail
 refine (may_yes rb s ⟨#[102,97,108,115,101]⟩ k _ R4.out hk hs (by rw [lit_toList [102,97,108,115,101]];exact HY.out)).mono ?_;rintro e w5 ⟨rfl,k5,hk5,e5,h9,g9⟩
 have V5:Hid (VInv w rb deep w5):=V4.out.next g9
 have R5:=Lib.hid h9
 have E5:=Lib.hid e5
 clear h9 g9 e5
 clear r4 d4
 have r5:w5.cell? (qa w.heap.size 0) = some (.pointer (some (qa rb 0))):=V5.out.rbox.cell 0
 have d5:w5.cell? (qa (w.heap.size + 1) 0) = some (.int .i64 deep):=V5.out.dbox.cell 0
 clear r5 d5
 have f0:=V5.out.frozen 0
 have f1:=V5.out.frozen 1
 have f2:=V5.out.frozen 2
 have f3:=V5.out.frozen 3
 have f4:=V5.out.frozen 4
 obtain ⟨z0,z1,z2,z3,z4⟩:=V5.out.res.cells5
 obtain ⟨hfin,hgr,hsz,hot⟩:=V5.out.laid (.int .i64 2) (.int .i64 0) (.string ⟨#[]⟩) (.slice none 0 0) (.slice none 0 0)
 have HFIN:=Lib.hid hfin
 have HGR:=Lib.hid hgr
 have HSZ:=Lib.hid hsz
 have HOT:=Lib.hid hot
 clear hfin hgr hsz hot
 go_wp2_with fail
 clear f0 f1 f2 f3 f4 z0 z1 z2 z3 z4
 generalize (((((w5.setCell (qa (w.heap.size + 1 + 1) 0) (.int .i64 2)).setCell (qa (w.heap.size + 1 + 1) 1) (.int .i64 0)).setCell (qa (w.heap.size + 1 + 1) 2) (.string ⟨#[]⟩)).setCell (qa (w.heap.size + 1 + 1) 3) (.slice none 0 0)).setCell (qa (w.heap.size + 1 + 1) 4) (.slice none 0 0)) = WF at *
 obtain ⟨q0,q1,q2,q3,q4⟩:=HFIN.out.cells5
 refine bodyPost_ret (v:=.agg #[.int .i64 2,.int .i64 0,.string ⟨#[]⟩,.slice none 0 0,.slice none 0 0]) (by simp [results,Tryd.results46,go_sem,q0,q1,q2,q3,q4]) rfl ?_
 exact ValEnd.good _ _ _ _ _ _ _ _ _ HE.out rfl (nd_plain 2 0 ⟨#[]⟩ (by unfold I64;omega) (by unfold I64;omega) (by decide)) ⟨k5,hk5,E5.out,(HOT.out rb (by omega)).trans R5.out,HGR.out⟩
set_option maxRecDepth 100000 in
set_option maxHeartbeats 4000000 in
theorem value_true (rb:Nat) (s:ByteArray) (deep k:Nat) (w:World) (h:RdSt w rb s k) (hk:k ≤ s.size) (hs:s.size ≤ 1000000) (hlt:k < s.size) (q91:¬ bt s k = 91) (q123:¬ bt s k = 123) (q34:¬ bt s k = 34) (u:UInt8) (rest:List UInt8) (hd:s.toList.drop k = u :: rest) (hu:bt s k = u.toNat) (hn0:(s.toList.drop k).take 4 ≠ [110,117,108,108]) (hn1:(s.toList.drop k).take 5 ≠ [102,97,108,115,101]) (hy:(s.toList.drop k).take 4 = [116,114,117,101]) (r:Except Int (Nd × List UInt8)) (hr:r = .ok (nd0 3,(s.toList.drop k).drop 4)) :
  Calls Tryd.prog 46 #[.pointer (some (qa rb 0)),.int .i64 deep] w (ValEnd rb s r w):=by
 have HE:=Lib.hid hr
 have ne1:((k:Int) == (s.size:Int)) = false:=by rw [beq_eq_false_iff_ne];omega
 have i1:(k:Int) < (s.size:Int):=by omega
 have b0:=bt_nonneg s k
 have b1:=bt_le s k
 have une:∀ c:UInt8,¬ bt s k = c.toNat → u ≠ c:=fun c h e => h (by rw [hu,e])
 have HU91:=Lib.hid (une 91 q91)
 have HU123:=Lib.hid (une 123 q123)
 have HD:=Lib.hid hd
 have HN0:=Lib.hid hn0
 have HN1:=Lib.hid hn1
 have HY:=Lib.hid hy
 clear hd hu une hr hy hn0 hn1
 have n91:(bt s k == 91) = false:=by rw [beq_eq_false_iff_ne];exact q91
 have n123:(bt s k == 123) = false:=by rw [beq_eq_false_iff_ne];exact q123
 have n34:(bt s k == 34) = false:=by rw [beq_eq_false_iff_ne];exact q34
 have hb:=get_bt s
 have V0:=Lib.hid (VInv.start w rb deep h.lt)
 have R0:Hid (RdSt (((w.alloc (.cells #[.pointer (some (qa rb 0))] 75)).alloc (.cells #[.int .i64 deep] 3)).alloc (.cells Zn 25)) rb s k):=((h.alloc _).alloc _).alloc _
 have hrb:rb < w.heap.size:=h.lt
 have i0:(0:Int) ≤ (k:Int):=by omega
 clear h
 go_enter Tryd.func46,Tryd.ntmps46
 go_wp2_with fail
 generalize (((w.alloc (.cells #[.pointer (some (qa rb 0))] 75)).alloc (.cells #[.int .i64 deep] 3)).alloc (.cells Zn 25)) = W at *
 have r0:W.cell? (qa w.heap.size 0) = some (.pointer (some (qa rb 0))):=V0.out.rbox.cell 0
 have d0:W.cell? (qa (w.heap.size + 1) 0) = some (.int .i64 deep):=V0.out.dbox.cell 0
 obtain ⟨c0,c1,c2⟩:=R0.out.cells3
 go_quiet (fail)
 go_wp2_with fail
 go_quiet (fail)
 go_wp2_with fail
 clear r0 d0 c0 c1 c2
 have V1:Hid (∀ n,VInv w rb deep (W.drewN n)):=fun n => V0.out.drewN n
 have R1:Hid (∀ n,RdSt (W.drewN n) rb s k):=fun n => R0.out
 refine (may_no rb s ⟨#[91]⟩ k _ (R1.out _) hk hs (by decide) (by rw [lit_toList [91]];exact fst_ne HD.out HU91.out)).mono ?_;rintro e w2 ⟨rfl,h9,g9⟩
 have V2:Hid (VInv w rb deep w2):=(V1.out _).next g9
 have R2:=Lib.hid h9
 clear h9 g9
 have r2:w2.cell? (qa w.heap.size 0) = some (.pointer (some (qa rb 0))):=V2.out.rbox.cell 0
 have d2:w2.cell? (qa (w.heap.size + 1) 0) = some (.int .i64 deep):=V2.out.dbox.cell 0
 go_wp2_with fail
 refine (may_no rb s ⟨#[123]⟩ k _ R2.out hk hs (by decide) (by rw [lit_toList [123]];exact fst_ne HD.out HU123.out)).mono ?_;rintro e w3 ⟨rfl,h9,g9⟩
 have V3:Hid (VInv w rb deep w3):=V2.out.next g9
 have R3:=Lib.hid h9
 clear h9 g9
 clear r2 d2
 have r3:w3.cell? (qa w.heap.size 0) = some (.pointer (some (qa rb 0))):=V3.out.rbox.cell 0
 have d3:w3.cell? (qa (w.heap.size + 1) 0) = some (.int .i64 deep):=V3.out.dbox.cell 0
 go_wp2_with fail
 refine (may_no rb s ⟨#[110,117,108,108]⟩ k _ R3.out hk hs (by decide) (by rw [lit_toList [110,117,108,108]];exact HN0.out)).mono ?_;rintro e w4 ⟨rfl,h9,g9⟩
 have V4:Hid (VInv w rb deep w4):=V3.out.next g9
 have R4:=Lib.hid h9
 clear h9 g9
 clear r3 d3
 have r4:w4.cell? (qa w.heap.size 0) = some (.pointer (some (qa rb 0))):=V4.out.rbox.cell 0
 have d4:w4.cell? (qa (w.heap.size + 1) 0) = some (.int .i64 deep):=V4.out.dbox.cell 0
 go_wp2_with fail
 refine (may_no rb s ⟨#[102,97,108,115,101]⟩ k _ R4.out hk hs (by decide) (by rw [lit_toList [102,97,108,115,101]];exact HN1.out)).mono ?_;rintro e w5 ⟨rfl,h9,g9⟩
 have V5:Hid (VInv w rb deep w5):=V4.out.next g9
 have R5:=Lib.hid h9
 clear h9 g9
 clear r4 d4
 have r5:w5.cell? (qa w.heap.size 0) = some (.pointer (some (qa rb 0))):=V5.out.rbox.cell 0
 have d5:w5.cell? (qa (w.heap.size + 1) 0) = some (.int .i64 deep):=V5.out.dbox.cell 0
 go_wp2_with fail
 refine (may_yes rb s ⟨#[116,114,117,101]⟩ k _ R5.out hk hs (by rw [lit_toList [116,114,117,101]];exact HY.out)).mono ?_;rintro e w6 ⟨rfl,k6,hk6,e6,h9,g9⟩
 have V6:Hid (VInv w rb deep w6):=V5.out.next g9
 have R6:=Lib.hid h9
 have E6:=Lib.hid e6
 clear h9 g9 e6
 clear r5 d5
 have r6:w6.cell? (qa w.heap.size 0) = some (.pointer (some (qa rb 0))):=V6.out.rbox.cell 0
 have d6:w6.cell? (qa (w.heap.size + 1) 0) = some (.int .i64 deep):=V6.out.dbox.cell 0
 clear r6 d6
 have f0:=V6.out.frozen 0
 have f1:=V6.out.frozen 1
 have f2:=V6.out.frozen 2
 have f3:=V6.out.frozen 3
 have f4:=V6.out.frozen 4
 obtain ⟨z0,z1,z2,z3,z4⟩:=V6.out.res.cells5
 obtain ⟨hfin,hgr,hsz,hot⟩:=V6.out.laid (.int .i64 3) (.int .i64 0) (.string ⟨#[]⟩) (.slice none 0 0) (.slice none 0 0)
 have HFIN:=Lib.hid hfin
 have HGR:=Lib.hid hgr
 have HSZ:=Lib.hid hsz
 have HOT:=Lib.hid hot
 clear hfin hgr hsz hot
 go_wp2_with fail
 clear f0 f1 f2 f3 f4 z0 z1 z2 z3 z4
 generalize (((((w6.setCell (qa (w.heap.size + 1 + 1) 0) (.int .i64 3)).setCell (qa (w.heap.size + 1 + 1) 1) (.int .i64 0)).setCell (qa (w.heap.size + 1 + 1) 2) (.string ⟨#[]⟩)).setCell (qa (w.heap.size + 1 + 1) 3) (.slice none 0 0)).setCell (qa (w.heap.size + 1 + 1) 4) (.slice none 0 0)) = WF at *
 obtain ⟨q0,q1,q2,q3,q4⟩:=HFIN.out.cells5
 refine bodyPost_ret (v:=.agg #[.int .i64 3,.int .i64 0,.string ⟨#[]⟩,.slice none 0 0,.slice none 0 0]) (by simp [results,Tryd.results46,go_sem,q0,q1,q2,q3,q4]) rfl ?_
 exact ValEnd.good _ _ _ _ _ _ _ _ _ HE.out rfl (nd_plain 3 0 ⟨#[]⟩ (by unfold I64;omega) (by unfold I64;omega) (by decide)) ⟨k6,hk6,E6.out,(HOT.out rb (by omega)).trans R6.out,HGR.out⟩
set_option maxRecDepth 100000 in
set_option maxHeartbeats 4000000 in
theorem value_num (rb:Nat) (s:ByteArray) (deep k:Nat) (w:World) (h:RdSt w rb s k) (hk:k ≤ s.size) (hs:s.size ≤ 1000000) (hlt:k < s.size) (q91:¬ bt s k = 91) (q123:¬ bt s k = 123) (q34:¬ bt s k = 34) (u:UInt8) (rest:List UInt8) (hd:s.toList.drop k = u :: rest) (hu:bt s k = u.toNat) (hn0:(s.toList.drop k).take 4 ≠ [110,117,108,108]) (hn1:(s.toList.drop k).take 5 ≠ [102,97,108,115,101]) (hn2:(s.toList.drop k).take 4 ≠ [116,114,117,101]) (r:Except Int (Nd × List UInt8))
  (hr:r = match numL (s.toList.drop k) with
   | none => .error 3
   | some (n,r) => .ok (.mk 4 n ⟨#[]⟩ [] [],r)) :
  Calls Tryd.prog 46 #[.pointer (some (qa rb 0)),.int .i64 deep] w (ValEnd rb s r w):=by
 have ne1:((k:Int) == (s.size:Int)) = false:=by rw [beq_eq_false_iff_ne];omega
 have i1:(k:Int) < (s.size:Int):=by omega
 have b0:=bt_nonneg s k
 have b1:=bt_le s k
 have une:∀ c:UInt8,¬ bt s k = c.toNat → u ≠ c:=fun c h e => h (by rw [hu,e])
 have HU91:=Lib.hid (une 91 q91)
 have HU123:=Lib.hid (une 123 q123)
 have HD:=Lib.hid hd
 have HN0:=Lib.hid hn0
 have HN1:=Lib.hid hn1
 have HN2:=Lib.hid hn2
 clear hd hu une hn0 hn1 hn2
 have n91:(bt s k == 91) = false:=by rw [beq_eq_false_iff_ne];exact q91
 have n123:(bt s k == 123) = false:=by rw [beq_eq_false_iff_ne];exact q123
 have n34:(bt s k == 34) = false:=by rw [beq_eq_false_iff_ne];exact q34
 have hb:=get_bt s
 have V0:=Lib.hid (VInv.start w rb deep h.lt)
 have R0:Hid (RdSt (((w.alloc (.cells #[.pointer (some (qa rb 0))] 75)).alloc (.cells #[.int .i64 deep] 3)).alloc (.cells Zn 25)) rb s k):=((h.alloc _).alloc _).alloc _
 have hrb:rb < w.heap.size:=h.lt
 have i0:(0:Int) ≤ (k:Int):=by omega
 clear h
 cases ht:numL (s.toList.drop k) with
 | none =>
  have HE:Hid (r = .error 3):=Lib.hid (by rw [hr,ht])
  have HT:=Lib.hid ht
  clear hr ht
  go_enter Tryd.func46,Tryd.ntmps46
  go_wp2_with fail
  generalize (((w.alloc (.cells #[.pointer (some (qa rb 0))] 75)).alloc (.cells #[.int .i64 deep] 3)).alloc (.cells Zn 25)) = W at *
  have r0:W.cell? (qa w.heap.size 0) = some (.pointer (some (qa rb 0))):=V0.out.rbox.cell 0
  have d0:W.cell? (qa (w.heap.size + 1) 0) = some (.int .i64 deep):=V0.out.dbox.cell 0
  obtain ⟨c0,c1,c2⟩:=R0.out.cells3
  go_quiet (fail)
  go_wp2_with fail
  go_quiet (fail)
  go_wp2_with fail
  clear r0 d0 c0 c1 c2
  have V1:Hid (∀ n,VInv w rb deep (W.drewN n)):=fun n => V0.out.drewN n
  have R1:Hid (∀ n,RdSt (W.drewN n) rb s k):=fun n => R0.out
  refine (may_no rb s ⟨#[91]⟩ k _ (R1.out _) hk hs (by decide) (by rw [lit_toList [91]];exact fst_ne HD.out HU91.out)).mono ?_;rintro e w2 ⟨rfl,h9,g9⟩
  have V2:Hid (VInv w rb deep w2):=(V1.out _).next g9
  have R2:=Lib.hid h9
  clear h9 g9
  have r2:w2.cell? (qa w.heap.size 0) = some (.pointer (some (qa rb 0))):=V2.out.rbox.cell 0
  have d2:w2.cell? (qa (w.heap.size + 1) 0) = some (.int .i64 deep):=V2.out.dbox.cell 0
  go_wp2_with fail
  refine (may_no rb s ⟨#[123]⟩ k _ R2.out hk hs (by decide) (by rw [lit_toList [123]];exact fst_ne HD.out HU123.out)).mono ?_;rintro e w3 ⟨rfl,h9,g9⟩
  have V3:Hid (VInv w rb deep w3):=V2.out.next g9
  have R3:=Lib.hid h9
  clear h9 g9
  clear r2 d2
  have r3:w3.cell? (qa w.heap.size 0) = some (.pointer (some (qa rb 0))):=V3.out.rbox.cell 0
  have d3:w3.cell? (qa (w.heap.size + 1) 0) = some (.int .i64 deep):=V3.out.dbox.cell 0
  go_wp2_with fail
  refine (may_no rb s ⟨#[110,117,108,108]⟩ k _ R3.out hk hs (by decide) (by rw [lit_toList [110,117,108,108]];exact HN0.out)).mono ?_;rintro e w4 ⟨rfl,h9,g9⟩
  have V4:Hid (VInv w rb deep w4):=V3.out.next g9
  have R4:=Lib.hid h9
  clear h9 g9
  clear r3 d3
  have r4:w4.cell? (qa w.heap.size 0) = some (.pointer (some (qa rb 0))):=V4.out.rbox.cell 0
  have d4:w4.cell? (qa (w.heap.size + 1) 0) = some (.int .i64 deep):=V4.out.dbox.cell 0
  go_wp2_with fail
  refine (may_no rb s ⟨#[102,97,108,115,101]⟩ k _ R4.out hk hs (by decide) (by rw [lit_toList [102,97,108,115,101]];exact HN1.out)).mono ?_;rintro e w5 ⟨rfl,h9,g9⟩
  have V5:Hid (VInv w rb deep w5):=V4.out.next g9
  have R5:=Lib.hid h9
  clear h9 g9
  clear r4 d4
  have r5:w5.cell? (qa w.heap.size 0) = some (.pointer (some (qa rb 0))):=V5.out.rbox.cell 0
  have d5:w5.cell? (qa (w.heap.size + 1) 0) = some (.int .i64 deep):=V5.out.dbox.cell 0
  go_wp2_with fail
  refine (may_no rb s ⟨#[116,114,117,101]⟩ k _ R5.out hk hs (by decide) (by rw [lit_toList [116,114,117,101]];exact HN2.out)).mono ?_;rintro e w6 ⟨rfl,h9,g9⟩
  have V6:Hid (VInv w rb deep w6):=V5.out.next g9
  have R6:=Lib.hid h9
  clear h9 g9
  clear r5 d5
  have r6:w6.cell? (qa w.heap.size 0) = some (.pointer (some (qa rb 0))):=V6.out.rbox.cell 0
  have d6:w6.cell? (qa (w.heap.size + 1) 0) = some (.int .i64 deep):=V6.out.dbox.cell 0
  go_wp2_with fail
  refine (number_any rb s k _ R6.out hk hs).mono ?_;rintro e w9 he
  rw [HT.out] at he
  obtain ⟨rfl,h9,g9⟩:=he
  have H9:=Lib.hid h9
  have G9:=Lib.hid g9
  clear h9 g9
  go_wp2_with fail
  exact ⟨rfl,ValEnd.bad HE.out ⟨rfl,H9.out,G9.out⟩ V6.out.grow⟩
 | some p =>
  obtain ⟨n,l⟩:=p
  have HE:Hid (r = .ok (.mk 4 n ⟨#[]⟩ [] [],l)):=Lib.hid (by rw [hr,ht])
  have HTS:Hid (I64 n):=by
   have h1:=numL_ok ht
   show I64 n
   unfold I64;omega
  have HT:=Lib.hid ht
  clear hr ht
  go_enter Tryd.func46,Tryd.ntmps46
  go_wp2_with fail
  generalize (((w.alloc (.cells #[.pointer (some (qa rb 0))] 75)).alloc (.cells #[.int .i64 deep] 3)).alloc (.cells Zn 25)) = W at *
  have r0:W.cell? (qa w.heap.size 0) = some (.pointer (some (qa rb 0))):=V0.out.rbox.cell 0
  have d0:W.cell? (qa (w.heap.size + 1) 0) = some (.int .i64 deep):=V0.out.dbox.cell 0
  obtain ⟨c0,c1,c2⟩:=R0.out.cells3
  go_quiet (fail)
  go_wp2_with fail
  go_quiet (fail)
  go_wp2_with fail
  clear r0 d0 c0 c1 c2
  have V1:Hid (∀ n,VInv w rb deep (W.drewN n)):=fun n => V0.out.drewN n
  have R1:Hid (∀ n,RdSt (W.drewN n) rb s k):=fun n => R0.out
  refine (may_no rb s ⟨#[91]⟩ k _ (R1.out _) hk hs (by decide) (by rw [lit_toList [91]];exact fst_ne HD.out HU91.out)).mono ?_;rintro e w2 ⟨rfl,h9,g9⟩
  have V2:Hid (VInv w rb deep w2):=(V1.out _).next g9
  have R2:=Lib.hid h9
  clear h9 g9
  have r2:w2.cell? (qa w.heap.size 0) = some (.pointer (some (qa rb 0))):=V2.out.rbox.cell 0
  have d2:w2.cell? (qa (w.heap.size + 1) 0) = some (.int .i64 deep):=V2.out.dbox.cell 0
  go_wp2_with fail
  refine (may_no rb s ⟨#[123]⟩ k _ R2.out hk hs (by decide) (by rw [lit_toList [123]];exact fst_ne HD.out HU123.out)).mono ?_;rintro e w3 ⟨rfl,h9,g9⟩
  have V3:Hid (VInv w rb deep w3):=V2.out.next g9
  have R3:=Lib.hid h9
  clear h9 g9
  clear r2 d2
  have r3:w3.cell? (qa w.heap.size 0) = some (.pointer (some (qa rb 0))):=V3.out.rbox.cell 0
  have d3:w3.cell? (qa (w.heap.size + 1) 0) = some (.int .i64 deep):=V3.out.dbox.cell 0
  go_wp2_with fail
  refine (may_no rb s ⟨#[110,117,108,108]⟩ k _ R3.out hk hs (by decide) (by rw [lit_toList [110,117,108,108]];exact HN0.out)).mono ?_;rintro e w4 ⟨rfl,h9,g9⟩
  have V4:Hid (VInv w rb deep w4):=V3.out.next g9
  have R4:=Lib.hid h9
  clear h9 g9
  clear r3 d3
  have r4:w4.cell? (qa w.heap.size 0) = some (.pointer (some (qa rb 0))):=V4.out.rbox.cell 0
  have d4:w4.cell? (qa (w.heap.size + 1) 0) = some (.int .i64 deep):=V4.out.dbox.cell 0
  go_wp2_with fail
  refine (may_no rb s ⟨#[102,97,108,115,101]⟩ k _ R4.out hk hs (by decide) (by rw [lit_toList [102,97,108,115,101]];exact HN1.out)).mono ?_;rintro e w5 ⟨rfl,h9,g9⟩
  have V5:Hid (VInv w rb deep w5):=V4.out.next g9
  have R5:=Lib.hid h9
  clear h9 g9
  clear r4 d4
  have r5:w5.cell? (qa w.heap.size 0) = some (.pointer (some (qa rb 0))):=V5.out.rbox.cell 0
  have d5:w5.cell? (qa (w.heap.size + 1) 0) = some (.int .i64 deep):=V5.out.dbox.cell 0
  go_wp2_with fail
  refine (may_no rb s ⟨#[116,114,117,101]⟩ k _ R5.out hk hs (by decide) (by rw [lit_toList [116,114,117,101]];exact HN2.out)).mono ?_;rintro e w6 ⟨rfl,h9,g9⟩
  have V6:Hid (VInv w rb deep w6):=V5.out.next g9
  have R6:=Lib.hid h9
  clear h9 g9
  clear r5 d5
  have r6:w6.cell? (qa w.heap.size 0) = some (.pointer (some (qa rb 0))):=V6.out.rbox.cell 0
  have d6:w6.cell? (qa (w.heap.size + 1) 0) = some (.int .i64 deep):=V6.out.dbox.cell 0
  go_wp2_with fail
  refine (number_any rb s k _ R6.out hk hs).mono ?_;rintro e w7 he
  rw [HT.out] at he
  obtain ⟨rfl,k7,hk7,e7,h9,g9⟩:=he
  have V7:Hid (VInv w rb deep w7):=V6.out.next g9
  have R7:=Lib.hid h9
  have E7:=Lib.hid e7
  clear h9 g9 e7 r6 d6
  have f0:=V7.out.frozen 0
  have f1:=V7.out.frozen 1
  have f2:=V7.out.frozen 2
  have f3:=V7.out.frozen 3
  have f4:=V7.out.frozen 4
  obtain ⟨z0,z1,z2,z3,z4⟩:=V7.out.res.cells5
  obtain ⟨hfin,hgr,hsz,hot⟩:=V7.out.laid (.int .i64 4) (.int .i64 n) (.string ⟨#[]⟩) (.slice none 0 0) (.slice none 0 0)
  have HFIN:=Lib.hid hfin
  have HGR:=Lib.hid hgr
  have HSZ:=Lib.hid hsz
  have HOT:=Lib.hid hot
  clear hfin hgr hsz hot
  go_wp2_with fail
  clear f0 f1 f2 f3 f4 z0 z1 z2 z3 z4
  generalize (((((w7.setCell (qa (w.heap.size + 1 + 1) 0) (.int .i64 4)).setCell (qa (w.heap.size + 1 + 1) 1) (.int .i64 n)).setCell (qa (w.heap.size + 1 + 1) 2) (.string ⟨#[]⟩)).setCell (qa (w.heap.size + 1 + 1) 3) (.slice none 0 0)).setCell (qa (w.heap.size + 1 + 1) 4) (.slice none 0 0)) = WF at *
  obtain ⟨q0,q1,q2,q3,q4⟩:=HFIN.out.cells5
  refine bodyPost_ret (v:=.agg #[.int .i64 4,.int .i64 n,.string ⟨#[]⟩,.slice none 0 0,.slice none 0 0]) (by simp [results,Tryd.results46,go_sem,q0,q1,q2,q3,q4]) rfl ?_
  exact ValEnd.good _ _ _ _ _ _ _ _ _ HE.out rfl (nd_plain 4 n ⟨#[]⟩ (by unfold I64;omega) HTS.out (by decide)) ⟨k7,hk7,E7.out,(HOT.out rb (by omega)).trans R7.out,HGR.out⟩
def ValC (rb:Nat) (s:ByteArray) (deep:Nat) (k:Nat) (w:World):Prop:=Calls Tryd.prog 46 #[.pointer (some (qa rb 0)),.int .i64 deep] w (ValEnd rb s (valL deep (s.toList.drop k)) w)
def PartEnd (w0:World) (nb rB dB rb h:Nat) (deep:Nat) (ns:List Nd) (s:ByteArray) (r:Except Int (Nd × List UInt8)) (e:Ending) (w':World):Prop:=
 match r with
 | .error c => Failed rb s c w0 e w'
 | .ok (n,l) => e = .returned (.tuple #[]) ∧ AIs w0 nb rB dB rb h deep (ns ++ [n]) w' ∧ ∃ k',k' ≤ s.size ∧ s.toList.drop k' = l ∧ RdSt w' rb s k'
def Got (W:Nat) (wz:World) (n:Nd) (cs:List Value):Prop:=NdIn wz (fun b => W ≤ b ∧ b < wz.heap.size) n cs
theorem Got.alloc {W:Nat} {wz:World} {n:Nd} {cs:List Value} (h:Got W wz n cs) (o:Obj):Got W (wz.alloc o) n cs:=
 NdIn.keep (fun p hp => World.cell?_alloc_lt _ _ _ hp.2) (fun b hb => ⟨hb.1,by have:=hb.2;simp;omega⟩) _ _ h
theorem AInv.push {w0:World} {nb rB dB rb h:Nat} {deep:Int} {ns:List Nd} {w2 w3 w4 w5:World} {A:Option Addr} {c:Nat} {ys:List Value} (hI:AInv w0 nb rB dB rb h deep ns w2 A c ys)
  {n:Nd} {cs:List Value} {W:Nat} (hW:∀ g,(Value.slice A ns.length c).ownBlock = some g → g < W) (hWh:h ≤ W) (hN:Got W w2 n cs)
  {g c3:Nat} (p2:w2.grownBy w3 (Value.slice A ns.length c).ownBlock) (p3:(Value.slice (some (qa g 0)) (ns.length + 1) c3).ownBlock = (Value.slice A ns.length c).ownBlock ∨ ∃ g1,(Value.slice (some (qa g 0)) (ns.length + 1) c3).ownBlock = some g1 ∧ w2.heap.size ≤ g1)
  {x y:Nat} (h34:w3.grownBy w4 (some x)) (h45:w4.grownBy w5 (some y)) (hx:x = g ∨ x = nb) (hy:y = g ∨ y = nb)
  (hgh:h ≤ g) (hown:w5.ownsRow h 25 5 (.slice (some (qa g 0)) (ns.length + 1) c3) (ns.length + 1) (ys ++ cs))
  (hnode:Blk w5 nb 25 #[.int .i64 6,.int .i64 0,.string ⟨#[]⟩,.slice none 0 0,.slice (some (qa g 0)) (ns.length + 1) c3])
  (h0:w0.heap.size ≤ nb) (h1:rb < h) (h2:nb < h) (h3:rB < h) (h4:dB < h) (n1:nb ≠ rb) (n4:nb ≠ rB) (n5:nb ≠ dB) :
  AInv w0 nb rB dB rb h deep (ns ++ [n]) w5 (some (qa g 0)) c3 (ys ++ cs) ∧ ∀ b,b < h → b ≠ nb → w5.heap[b]? = w2.heap[b]?:=by
 have p3:some g = (Value.slice A ns.length c).ownBlock ∨ w2.heap.size ≤ g:=by
  rcases p3 with e | ⟨g1,e,hge⟩
  ·exact .inl e
  ·simp only [Value.ownBlock] at e;injection e with e;subst e;exact .inr hge
 have ho:∀ g,(Value.slice A ns.length c).ownBlock = some g → h ≤ g ∧ g < w2.heap.size:=fun g hg => own_lt hI.own hg
 have s2:=hI.size
 have s3:=p2.size
 have s4:=h34.size
 have s5:=h45.size
 have hb:∀ b,b < w2.heap.size → b ≠ nb → (Value.slice A ns.length c).ownBlock ≠ some b → w5.heap[b]? = w2.heap[b]?:=fun b hb1 hb2 hb3 => by
  have hbg:b ≠ g:=by
   rcases p3 with e | e
   ·intro he;subst he;exact hb3 e.symm
   ·omega
  exact (h45.block b (by omega) (by intro e;injection e with e;rcases hy with e2 | e2 <;> omega)).trans ((h34.block b (by omega) (by intro e;injection e with e;rcases hx with e2 | e2 <;> omega)).trans (p2.block b hb1 (fun e => hb3 e.symm)))
 have hlow:∀ b,b < h → b ≠ nb → w5.heap[b]? = w2.heap[b]?:=fun b b1 b2 => hb b (by omega) b2 (fun e => by have:=(ho b e).1;omega)
 refine ⟨⟨?_,?_,?_,?_,?_,?_,by omega⟩,hlow⟩
 ·simpa using hnode
 ·simpa using hown
 ·have k1:NdsIn w2 (SK h w2 (.slice A ns.length c)) (ns ++ [n]) (ys ++ cs):=NdsIn.app _ _ _ _ hI.kids (NdIn.keep (fun _ _ => rfl) (fun b hb1 => ⟨by omega,hb1.2,fun e => by have:=hW b e;omega⟩) _ _ hN)
  refine NdsIn.keep (fun p hp => World.cell?_of_block (hb p.block hp.2.1 (by have:=hp.1;omega) hp.2.2)) (fun b hp => ⟨hp.1,by have:=hp.2.1;omega,?_⟩) _ _ k1
  intro e
  have e2:g = b:=by simpa [Value.ownBlock] using e
  subst e2
  rcases p3 with e | e
  ·exact hp.2.2 e.symm
  ·have:=hp.2.1;omega
 ·exact (hlow rB h3 (fun e => n4 e.symm)).trans hI.rbox
 ·exact (hlow dB h4 (fun e => n5 e.symm)).trans hI.dbox
 ·refine ⟨?_,?_,?_,?_,?_⟩
  ·exact h45.os.trans (h34.os.trans (p2.os.trans hI.grow.os))
  ·exact h45.tape.trans (h34.tape.trans (p2.tape.trans hI.grow.tape))
  ·exact h45.output.trans (h34.output.trans (p2.output.trans hI.grow.output))
  ·have:=hI.grow.size;omega
  ·intro b hb1 hb2
   have:=hI.grow.size
   exact (hb b (by omega) (by omega) (fun e => by have:=(ho b e).1;omega)).trans (hI.grow.block b hb1 hb2)
theorem zero_reads {w:World} {g:Nat} (h:Blk w g 25 zero5.toArray):Reads w (g + 1) 5 (some (qa g 0)) 1 zero5:=by
 refine ⟨rfl,fun _ => ⟨_,rfl,by simp,fun j u hj => ?_⟩⟩
 have e:((qa g 0):Addr).add j = (qa g j):=by unfold Addr.add;split <;> simp_all
 rw [e,h.cell]
 simpa using hj
set_option maxRecDepth 100000 in
set_option maxHeartbeats 4000000 in
theorem value1_any (w0:World) (nb rB dB rb h:Nat) (deep:Nat) (ns:List Nd) (s:ByteArray) (k:Nat) (w:World) (A:Option Addr) (c:Nat) (ys:List Value) (hI:AInv w0 nb rB dB rb h deep ns w A c ys) (hst:RdSt w rb s k) (hk:k ≤ s.size) (hs:s.size ≤ 1000000) (hd:deep ≤ 24) (hn:ns.length ≤ 1000000)
  (h0:w0.heap.size ≤ nb) (h1:rb < h) (h2:nb < h) (h3:rB < h) (h4:dB < h) (n1:nb ≠ rb) (n2:rB ≠ rb) (n3:dB ≠ rb) (n4:nb ≠ rB) (n5:nb ≠ dB)
  (HV:Hid (∀ w',RdSt w' rb s k → ValC rb s (deep + 1) k w')) :
  Calls Tryd.prog 63 #[.pointer (some (qa nb 0)),.pointer (some (qa rB 0)),.pointer (some (qa dB 0))] w (PartEnd w0 nb rB dB rb h deep ns s (valL (deep + 1) (s.toList.drop k))):=by
 have HI:=Lib.hid hI
 have HST:=Lib.hid hst
 obtain ⟨a0,a1,a2,a3,a4⟩:=hI.node.cells5
 have r0:w.cell? (qa rB 0) = some (.pointer (some (qa rb 0))):=hI.rbox.cell 0
 have d0:w.cell? (qa dB 0) = some (.int .i64 deep):=hI.dbox.cell 0
 have hsz:=hI.size
 have x1:IntKind.i64.wrap ((deep:Int) + 1) = (deep:Int) + 1:=IntWalk.i64_in _ (by omega)
 clear hI hst
 cases hv:valL (deep + 1) (s.toList.drop k) with
 | error e =>
  have HF:Hid (∀ w',RdSt w' rb s k → Calls Tryd.prog 46 #[.pointer (some (qa rb 0)),.int .i64 ((deep:Int) + 1)] w' (Failed rb s e w')):=fun w' hw' => by
   have:=HV.out w' hw'
   unfold ValC at this
   rw [hv] at this
   exact this
  clear hv
  go_enter Tryd.func63,Tryd.ntmps63
  go_wp2_with fail
  have hS0:(fun w':World => w'.cell? (qa rB 0) = some (.pointer (some (qa rb 0))) ∧ w'.cell? (qa dB 0) = some (.int .i64 deep) ∧ w'.cell? (qa nb 4) = some (.slice A ns.length c)) w.drew:=⟨r0,d0,a4⟩
  refine wp_region_held_drew (S:=fun w':World => w'.cell? (qa rB 0) = some (.pointer (some (qa rb 0))) ∧ w'.cell? (qa dB 0) = some (.int .i64 deep) ∧ w'.cell? (qa nb 4) = some (.slice A ns.length c)) (by kernel_rfl) hS0 (fun hH => ?_)
  refine wpAnyH_take (i:=0) (v:=.pointer (some (qa nb 4))) rfl (by kernel_rfl) (by kernel_rfl) (by kernel_rfl) (fun _ _ _ h => h) (Or.inl ⟨by rfl,fun w9 hS9 => ?_⟩) hH ?_
  ·obtain ⟨s0,s1,s2⟩:=hS9
   go_simp
  try simp only [Act.put,List.setIfInBounds_toArray,List.set_cons_zero,List.set_cons_succ]
  refine wpAnyH_take (i:=1) (v:=.slice A ns.length c) rfl (by kernel_rfl) (by kernel_rfl) (by kernel_rfl) (fun _ _ _ h => h) (Or.inl ⟨by rfl,fun w9 hS9 => ?_⟩) hH ?_
  ·obtain ⟨s0,s1,s2⟩:=hS9
   go_simp
  try simp only [Act.put,List.setIfInBounds_toArray,List.set_cons_zero,List.set_cons_succ]
  refine wpAnyH_take (i:=2) (v:=.pointer (some (qa rb 0))) rfl (by kernel_rfl) (by kernel_rfl) (by kernel_rfl) (fun _ _ _ h => h) (Or.inl ⟨by rfl,fun w9 hS9 => ?_⟩) hH ?_
  ·obtain ⟨s0,s1,s2⟩:=hS9
   go_simp
  try simp only [Act.put,List.setIfInBounds_toArray,List.set_cons_zero,List.set_cons_succ]
  refine wpAnyH_take (i:=3) (v:=.int .i64 deep) rfl (by kernel_rfl) (by kernel_rfl) (by kernel_rfl) (fun _ _ _ h => h) (Or.inl ⟨by rfl,fun w9 hS9 => ?_⟩) hH ?_
  ·obtain ⟨s0,s1,s2⟩:=hS9
   go_simp
  try simp only [Act.put,List.setIfInBounds_toArray,List.set_cons_zero,List.set_cons_succ]
  refine wpAnyH_take (i:=4) (v:=.int .i64 ((deep:Int) + 1)) rfl (by kernel_rfl) (by kernel_rfl) (by kernel_rfl) (fun _ _ _ h => h) (Or.inl ⟨by rfl,fun w9 hS9 => ?_⟩) hH ?_
  ·obtain ⟨s0,s1,s2⟩:=hS9
   go_simp
  try simp only [Act.put,List.setIfInBounds_toArray,List.set_cons_zero,List.set_cons_succ]
  refine wpAnyH_take (i:=6) (v:=.int .i64 ns.length) rfl (by kernel_rfl) (by kernel_rfl) (by kernel_rfl) (fun _ _ _ h => h) (Or.inl ⟨by rfl,fun w9 hS9 => ?_⟩) hH ?_
  ·obtain ⟨s0,s1,s2⟩:=hS9
   go_simp
  try simp only [Act.put,List.setIfInBounds_toArray,List.set_cons_zero,List.set_cons_succ]
  refine wpAnyH_ready (rs:=[5,7]) (by kernel_rfl) (by simp) ?_
  refine AllReadyH.cons (o:=_) rfl (fun K hK => ?_) ?_
  ·clear hH
   go_simp
   go_at_call 46
   refine (HF.out _ HST.out.drew).mono ?_
   rintro e w1 ⟨rfl,g1,g2⟩
   go_wp2_with fail
   exact ⟨rfl,rfl,g1,HI.out.grow.trans ((grown_drew (grown_refl _ _)).trans g2)⟩
  refine AllReadyH.cons (o:=_) rfl (fun K hK => ?_) AllReadyH.nil
  go_simp
  refine hK.out _ _ ⟨(HI.out.rbox.drew.alloc _).cell 0,(HI.out.dbox.drew.alloc _).cell 0,(HI.out.node.drew.alloc _).cell 4⟩ (fun hH2 => ?_)
  clear hK K hH
  try simp only [Act.put,List.setIfInBounds_toArray,List.set_cons_zero,List.set_cons_succ]
  refine wpAnyH_ready (rs:=[5]) (by kernel_rfl) (by simp) ?_
  refine AllReadyH.cons (o:=_) rfl (fun K hK => ?_) AllReadyH.nil
  clear hH2
  go_simp
  go_at_call 46
  refine (HF.out _ (HST.out.drew.alloc _)).mono ?_
  rintro e w1 ⟨rfl,g1,g2⟩
  go_wp2_with fail
  exact ⟨rfl,rfl,g1,HI.out.grow.trans ((grown_alloc (grown_drew (grown_refl _ _)) _).trans g2)⟩
 | ok p =>
  obtain ⟨n,l⟩:=p
  have HF:Hid (∀ w',RdSt w' rb s k → Calls Tryd.prog 46 #[.pointer (some (qa rb 0)),.int .i64 ((deep:Int) + 1)] w' (ValEnd rb s (.ok (n,l)) w')):=fun w' hw' => by
   have:=HV.out w' hw'
   unfold ValC at this
   rw [hv] at this
   exact this
  clear hv HV
  have ho:∀ g,(Value.slice A ns.length c).ownBlock = some g → h ≤ g ∧ g < w.heap.size:=fun g hg => own_lt HI.out.own hg
  have HO:=Lib.hid ho
  clear ho
  have hl5:ys.length = ns.length * 5:=HI.out.kids.len
  go_enter Tryd.func63,Tryd.ntmps63
  go_wp2_with fail
  --@ok begins
  refine wp_region_held_drew (S:=fun w':World => w'.cell? (qa rB 0) = some (.pointer (some (qa rb 0))) ∧ w'.cell? (qa dB 0) = some (.int .i64 deep)) (by kernel_rfl) ⟨r0,d0⟩ (fun hH => ?_)
  refine wpAnyH_take (i:=0) (v:=.pointer (some (qa nb 4))) rfl (by kernel_rfl) (by kernel_rfl) (by kernel_rfl) (fun _ _ _ h => h) (Or.inl ⟨by rfl,fun w9 hS9 => ?_⟩) hH ?_
  ·obtain ⟨s0,s1⟩:=hS9
   go_simp
  try simp only [Act.put,List.setIfInBounds_toArray,List.set_cons_zero,List.set_cons_succ]
  refine wpAnyH_take (i:=2) (v:=.pointer (some (qa rb 0))) rfl (by kernel_rfl) (by kernel_rfl) (by kernel_rfl) (fun _ _ _ h => h) (Or.inl ⟨by rfl,fun w9 hS9 => ?_⟩) hH ?_
  ·obtain ⟨s0,s1⟩:=hS9
   go_simp
  try simp only [Act.put,List.setIfInBounds_toArray,List.set_cons_zero,List.set_cons_succ]
  refine wpAnyH_take (i:=3) (v:=.int .i64 deep) rfl (by kernel_rfl) (by kernel_rfl) (by kernel_rfl) (fun _ _ _ h => h) (Or.inl ⟨by rfl,fun w9 hS9 => ?_⟩) hH ?_
  ·obtain ⟨s0,s1⟩:=hS9
   go_simp
  try simp only [Act.put,List.setIfInBounds_toArray,List.set_cons_zero,List.set_cons_succ]
  refine wpAnyH_take (i:=4) (v:=.int .i64 ((deep:Int) + 1)) rfl (by kernel_rfl) (by kernel_rfl) (by kernel_rfl) (fun _ _ _ h => h) (Or.inl ⟨by rfl,fun w9 hS9 => ?_⟩) hH ?_
  ·obtain ⟨s0,s1⟩:=hS9
   go_simp
  try simp only [Act.put,List.setIfInBounds_toArray,List.set_cons_zero,List.set_cons_succ]
  refine wpAnyH_ready (rs:=[1,5,7]) (by kernel_rfl) (by simp) ?_
  refine AllReadyH.cons (o:=_) rfl (fun K hK => ?_) ?_
  ·
   go_simp
   refine hK.out _ _ hH (fun hH9 => ?_)
   clear hK K hH
   have hH:=hH9
   clear hH9
   try simp only [Act.put,List.setIfInBounds_toArray,List.set_cons_zero,List.set_cons_succ]
   refine wpAnyH_take (i:=6) (v:=.int .i64 ns.length) rfl (by kernel_rfl) (by kernel_rfl) (by kernel_rfl) (fun _ _ _ h => h) (Or.inl ⟨by rfl,fun w9 hS9 => ?_⟩) hH ?_
   ·obtain ⟨s0,s1⟩:=hS9
    go_simp
   try simp only [Act.put,List.setIfInBounds_toArray,List.set_cons_zero,List.set_cons_succ]
   refine wpAnyH_ready (rs:=[5,7]) (by kernel_rfl) (by simp) ?_
   refine AllReadyH.cons (o:=_) rfl (fun K hK => ?_) ?_
   ·
    go_simp
    go_at_call 46
    refine (HF.out _ (HST.out.drew)).mono ?_
    rintro e w1 ⟨c0,c1,c2,c3,c4,c5,c6,c7,c8,rfl,g1,k',g2,g3,g4,g5⟩
    have G1:Hid (Got w.heap.size w1 n (nL c0 c1 c2 c3 c4 c5 c6 c7 c8)):=NdIn.keep (fun _ _ => rfl) (fun b hb => ⟨by have:=hb.1;simp at this;omega,hb.2⟩) _ _ g1
    have I1:Hid (AInv w0 nb rB dB rb h deep ns w1 A c ys):=AInv.next HI.out (grown_drew (grown_refl _ _) |>.trans g5) h1 n1 n2 n3
    have R1:Hid (RdSt w1 rb s k'):=g4
    have Q1:Hid (k' ≤ s.size ∧ s.toList.drop k' = l):=⟨g2,g3⟩
    have S1:w.heap.size ≤ w1.heap.size:=by have:=g5.size;simp at this;omega
    have a6:w1.cell? (qa nb 4) = some (.slice A ns.length c):=I1.out.node.cell 4
    clear g1 g2 g3 g4 g5
    go_wp2_with fail
    refine hK.out _ _ ⟨I1.out.rbox.cell 0,I1.out.dbox.cell 0⟩ (fun hH9 => ?_)
    clear hK K hH
    have hH:=hH9
    clear hH9
    try simp only [Act.put,List.setIfInBounds_toArray,List.set_cons_zero,List.set_cons_succ]
    refine wpAnyH_ready (rs:=[7]) (by kernel_rfl) (by simp) ?_
    refine AllReadyH.cons (o:=_) rfl (fun K hK => ?_) AllReadyH.nil
    go_simp
    refine hK.out _ _ ⟨(I1.out.rbox.alloc _).cell 0,(I1.out.dbox.alloc _).cell 0⟩ (fun hH9 => ?_)
    clear hK K hH
    have hH:=hH9
    clear hH9
    try simp only [Act.put,List.setIfInBounds_toArray,List.set_cons_zero,List.set_cons_succ]
    have a5:(w1.alloc (Obj.cells Zn 25)).cell? (qa nb 4) = some (.slice A ns.length c):=(I1.out.node.alloc _).cell 4
    have I2:Hid (AInv w0 nb rB dB rb h deep ns (w1.alloc (Obj.cells Zn 25)) A c ys):=AInv.next I1.out (grown_alloc (grown_refl _ _) _) h1 n1 n2 n3
    have G2:Hid (Got w.heap.size (w1.alloc (Obj.cells Zn 25)) n (nL c0 c1 c2 c3 c4 c5 c6 c7 c8)):=G1.out.alloc _
    have R2:Hid (RdSt (w1.alloc (Obj.cells Zn 25)) rb s k'):=R1.out.alloc _
    have Z2:Hid (Reads (w1.alloc (Obj.cells Zn 25)) (w1.heap.size + 1) 5 (some (qa w1.heap.size 0)) 1 zero5):=zero_reads (Blk.new _ _ _)
    refine wpAnyH_ready (rs:=[8]) (by kernel_rfl) (by simp) ?_
    refine AllReadyH.cons (o:=_) rfl (fun K hK => ?_) AllReadyH.nil
    refine step_pushNd rfl _ _ rfl h (.slice A ns.length c) ns.length ys (by first | rfl | simp [Act.eval]) I2.out.own (w1.heap.size + 1) (some (qa w1.heap.size 0)) 1 zero5 (by first | rfl | simp [Act.eval]) Z2.out (by intro u hu;simp [zero5] at hu;rcases hu with rfl | rfl | rfl | rfl <;> rfl) (by omega) I2.out.size (fun v' w3 p1 p2 p3 => ?_)
    obtain ⟨g,cp,rfl,hg1,hg2⟩:=World.ownsRow.form p1 (by omega)
    have P1:Hid (w3.ownsRow h 25 5 (.slice (some (qa g 0)) (ns.length + 1) cp) (ns.length + 1) (ys ++ [.int .i64 0,.int .i64 0,.string ⟨#[]⟩,.slice none 0 0,.slice none 0 0])):=p1
    have P2:=Lib.hid p2
    have P3:=Lib.hid p3
    have q1:Hid (Blk w3 nb 25 #[.int .i64 6,.int .i64 0,.string ⟨#[]⟩,.slice none 0 0,.slice A ns.length c]):=I2.out.node.grown p2 (fun e => by have:=(HO.out nb e.symm).1;omega)
    have q2:Hid (Blk w3 rB 75 #[.pointer (some (qa rb 0))]):=I2.out.rbox.grown p2 (fun e => by have:=(HO.out rB e.symm).1;omega)
    have q3:Hid (Blk w3 dB 3 #[.int .i64 deep]):=I2.out.dbox.grown p2 (fun e => by have:=(HO.out dB e.symm).1;omega)
    have z0:w3.cell? (qa g (ns.length * 5)) = some (.int .i64 0):=(World.ownsRow.cellAt P1.out _ (by omega)).trans (by rw [← hl5];simp [zero5])
    have z1:w3.cell? (qa g (ns.length * 5 + 1)) = some (.int .i64 0):=(World.ownsRow.cellAt P1.out _ (by omega)).trans (by rw [← hl5];simp [zero5])
    have z2:w3.cell? (qa g (ns.length * 5 + 2)) = some (.string ⟨#[]⟩):=(World.ownsRow.cellAt P1.out _ (by omega)).trans (by rw [← hl5];simp [zero5])
    have z3:w3.cell? (qa g (ns.length * 5 + 3)) = some (.slice none 0 0):=(World.ownsRow.cellAt P1.out _ (by omega)).trans (by rw [← hl5];simp [zero5])
    have z4:w3.cell? (qa g (ns.length * 5 + 4)) = some (.slice none 0 0):=(World.ownsRow.cellAt P1.out _ (by omega)).trans (by rw [← hl5];simp [zero5])
    have f0:=World.ownsRow.frozenAt P1.out (ns.length * 5)
    have f1:=World.ownsRow.frozenAt P1.out (ns.length * 5 + 1)
    have f2:=World.ownsRow.frozenAt P1.out (ns.length * 5 + 2)
    have f3:=World.ownsRow.frozenAt P1.out (ns.length * 5 + 3)
    have f4:=World.ownsRow.frozenAt P1.out (ns.length * 5 + 4)
    have y0:w3.cell? (qa nb 4) = some (.slice A ns.length c):=q1.out.cell 4
    have y1:=q1.out.frozen 4
    clear p1 p2 p3
    refine hK.out _ _ ⟨q2.out.cell 0,q3.out.cell 0⟩ (fun hH9 => ?_)
    clear hK K hH
    have hH:=hH9
    clear hH9
    try simp only [Act.put,List.setIfInBounds_toArray,List.set_cons_zero,List.set_cons_succ]
    refine wpAnyH_take (i:=9) (v:=.pointer (some (qa g (ns.length * 5)))) rfl (by kernel_rfl) (by kernel_rfl) (by kernel_rfl) (fun _ _ _ h => h) (Or.inl ⟨by rfl,fun w9 hS9 => ?_⟩) hH ?_
    ·obtain ⟨s0,s1⟩:=hS9
     go_simp
     intro hq
     exact absurd hq (by omega)
    try simp only [Act.put,List.setIfInBounds_toArray,List.set_cons_zero,List.set_cons_succ]
    refine wpAnyH_take (i:=11) (v:=.pointer (some (qa nb 4))) rfl (by kernel_rfl) (by kernel_rfl) (by kernel_rfl) (fun _ _ _ h => h) (Or.inl ⟨by rfl,fun w9 hS9 => ?_⟩) hH ?_
    ·obtain ⟨s0,s1⟩:=hS9
     go_simp
    try simp only [Act.put,List.setIfInBounds_toArray,List.set_cons_zero,List.set_cons_succ]
    refine wpAnyH_ready (rs:=[10,12]) (by kernel_rfl) (by simp) ?_
    refine AllReadyH.cons (o:=_) rfl (fun K hK => ?_) ?_
    ·go_simp
     have o4:=own_last (v0:=.int .i64 c0) (v1:=.int .i64 c1) (v2:=.string c2) (v3:=.slice c3 c4 c5) (v4:=.slice c6 c7 c8) P1.out hl5
     have q4:=q1.out.grown o4.2 (by simp;omega)
     have q5:=q2.out.grown o4.2 (by simp;omega)
     have q6:=q3.out.grown o4.2 (by simp;omega)
     refine hK.out _ _ ⟨q5.cell 0,q6.cell 0⟩ (fun hH9 => ?_)
     clear hK K hH
     have hH:=hH9
     clear hH9
     generalize (((((w3.setCell (qa g (ns.length * 5)) (.int .i64 c0)).setCell (qa g (ns.length * 5 + 1)) (.int .i64 c1)).setCell (qa g (ns.length * 5 + 2)) (.string c2)).setCell (qa g (ns.length * 5 + 3)) (.slice c3 c4 c5)).setCell (qa g (ns.length * 5 + 4)) (.slice c6 c7 c8)) = w4 at o4 q4 q5 q6 hH ⊢
     try simp only [Act.put,List.setIfInBounds_toArray,List.set_cons_zero,List.set_cons_succ]
     have y2:w4.cell? (qa nb 4) = some (.slice A ns.length c):=q4.cell 4
     have y3:=q4.frozen 4
     have O4:=Lib.hid o4
     have Q4:=Lib.hid q4
     have Q5:=Lib.hid q5
     have Q6:=Lib.hid q6
     clear o4 q4 q5 q6
     refine wpAnyH_ready (rs:=[12]) (by kernel_rfl) (by simp) ?_
     refine AllReadyH.cons (o:=_) rfl (fun K hK => ?_) AllReadyH.nil
     go_simp
     refine hK.out _ _ ⟨(Q5.out.far (by simp;omega) _).cell 0,(Q6.out.far (by simp;omega) _).cell 0⟩ (fun hH9 => ?_)
     clear hK K hH hH9
     refine wpAnyH_done (by kernel_rfl) ?_ _
     go_wp2_with fail
     have E5:=AInv.push I2.out (fun g hg => (HO.out g hg).2) hsz G2.out P2.out P3.out O4.out.2 (grown_set (grown_refl w4 (some nb)) 4 (.slice (some (qa g 0)) (ns.length + 1) cp)) (.inl rfl) (.inr rfl) hg1 (ownsRow_setCell_below O4.out.1 h2 _) (Q4.out.set_ 4 _) h0 h1 h2 h3 h4 n1 n4 n5
     exact ⟨rfl,.tuple #[],results_none rfl _ _ _,rfl,⟨_,_,_,E5.1⟩,k',Q1.out.1,Q1.out.2,(E5.2 rb h1 n1.symm).trans R2.out⟩
    refine AllReadyH.cons (o:=_) rfl (fun K hK => ?_) AllReadyH.nil
    go_simp
    have o4:=ownsRow_setCell_below P1.out (a:=(qa nb 4)) h2 (.slice (some (qa g 0)) (ns.length + 1) cp)
    have q4:=q1.out.set_ 4 (.slice (some (qa g 0)) (ns.length + 1) cp)
    have q5:=q2.out.far (p:=(qa nb 4)) (by simp;omega) (.slice (some (qa g 0)) (ns.length + 1) cp)
    have q6:=q3.out.far (p:=(qa nb 4)) (by simp;omega) (.slice (some (qa g 0)) (ns.length + 1) cp)
    have o5:=grown_set (grown_refl w3 (some nb)) 4 (.slice (some (qa g 0)) (ns.length + 1) cp)
    refine hK.out _ _ ⟨q5.cell 0,q6.cell 0⟩ (fun hH9 => ?_)
    clear hK K hH
    have hH:=hH9
    clear hH9
    generalize w3.setCell (qa nb 4) (.slice (some (qa g 0)) (ns.length + 1) cp) = w4 at o4 o5 q4 q5 q6 hH ⊢
    try simp only [Act.put,List.setIfInBounds_toArray,List.set_cons_zero,List.set_cons_succ]
    have O4:=Lib.hid o4
    have O5:=Lib.hid o5
    have Q4:=Lib.hid q4
    have Q5:=Lib.hid q5
    have Q6:=Lib.hid q6
    clear o4 o5 q4 q5 q6 z0 z1 z2 z3 z4 f0 f1 f2 f3 f4
    have z0:w4.cell? (qa g (ns.length * 5)) = some (.int .i64 0):=(World.ownsRow.cellAt O4.out _ (by omega)).trans (by rw [← hl5];simp [zero5])
    have z1:w4.cell? (qa g (ns.length * 5 + 1)) = some (.int .i64 0):=(World.ownsRow.cellAt O4.out _ (by omega)).trans (by rw [← hl5];simp [zero5])
    have z2:w4.cell? (qa g (ns.length * 5 + 2)) = some (.string ⟨#[]⟩):=(World.ownsRow.cellAt O4.out _ (by omega)).trans (by rw [← hl5];simp [zero5])
    have z3:w4.cell? (qa g (ns.length * 5 + 3)) = some (.slice none 0 0):=(World.ownsRow.cellAt O4.out _ (by omega)).trans (by rw [← hl5];simp [zero5])
    have z4:w4.cell? (qa g (ns.length * 5 + 4)) = some (.slice none 0 0):=(World.ownsRow.cellAt O4.out _ (by omega)).trans (by rw [← hl5];simp [zero5])
    have f0:=World.ownsRow.frozenAt O4.out (ns.length * 5)
    have f1:=World.ownsRow.frozenAt O4.out (ns.length * 5 + 1)
    have f2:=World.ownsRow.frozenAt O4.out (ns.length * 5 + 2)
    have f3:=World.ownsRow.frozenAt O4.out (ns.length * 5 + 3)
    have f4:=World.ownsRow.frozenAt O4.out (ns.length * 5 + 4)
    refine wpAnyH_ready (rs:=[10]) (by kernel_rfl) (by simp) ?_
    refine AllReadyH.cons (o:=_) rfl (fun K hK => ?_) AllReadyH.nil
    go_simp
    have o6:=own_last (v0:=.int .i64 c0) (v1:=.int .i64 c1) (v2:=.string c2) (v3:=.slice c3 c4 c5) (v4:=.slice c6 c7 c8) O4.out hl5
    refine hK.out _ _ ⟨(Q5.out.grown o6.2 (by simp;omega)).cell 0,(Q6.out.grown o6.2 (by simp;omega)).cell 0⟩ (fun hH9 => ?_)
    clear hK K hH hH9
    refine wpAnyH_done (by kernel_rfl) ?_ _
    have E5:=Lib.hid (AInv.push I2.out (fun g hg => (HO.out g hg).2) hsz G2.out P2.out P3.out O5.out o6.2 (.inr rfl) (.inl rfl) hg1 o6.1 (Q4.out.grown o6.2 (by simp;omega)) h0 h1 h2 h3 h4 n1 n4 n5)
    clear o6
    go_wp2_with fail
    exact ⟨rfl,.tuple #[],results_none rfl _ _ _,rfl,⟨_,_,_,E5.out.1⟩,k',Q1.out.1,Q1.out.2,(E5.out.2 rb h1 n1.symm).trans R2.out⟩
   refine AllReadyH.cons (o:=_) rfl (fun K hK => ?_) AllReadyH.nil
   go_simp
   refine hK.out _ _ ⟨(HI.out.rbox.drew.alloc _).cell 0,(HI.out.dbox.drew.alloc _).cell 0⟩ (fun hH9 => ?_)
   clear hK K hH
   have hH:=hH9
   clear hH9
   try simp only [Act.put,List.setIfInBounds_toArray,List.set_cons_zero,List.set_cons_succ]
   have a5:(w.alloc (Obj.cells Zn 25)).cell? (qa nb 4) = some (.slice A ns.length c):=(HI.out.node.drew.alloc _).cell 4
   refine wpAnyH_ready (rs:=[5]) (by kernel_rfl) (by simp) ?_
   refine AllReadyH.cons (o:=_) rfl (fun K hK => ?_) AllReadyH.nil
   go_simp
   go_at_call 46
   refine (HF.out _ (HST.out.drew.alloc _)).mono ?_
   rintro e w1 ⟨c0,c1,c2,c3,c4,c5,c6,c7,c8,rfl,g1,k',g2,g3,g4,g5⟩
   have G1:Hid (Got w.heap.size w1 n (nL c0 c1 c2 c3 c4 c5 c6 c7 c8)):=NdIn.keep (fun _ _ => rfl) (fun b hb => ⟨by have:=hb.1;simp at this;omega,hb.2⟩) _ _ g1
   have I1:Hid (AInv w0 nb rB dB rb h deep ns w1 A c ys):=AInv.next HI.out (grown_alloc (grown_drew (grown_refl _ _)) _ |>.trans g5) h1 n1 n2 n3
   have R1:Hid (RdSt w1 rb s k'):=g4
   have Q1:Hid (k' ≤ s.size ∧ s.toList.drop k' = l):=⟨g2,g3⟩
   have S1:w.heap.size ≤ w1.heap.size:=by have:=g5.size;simp at this;omega
   have a6:w1.cell? (qa nb 4) = some (.slice A ns.length c):=I1.out.node.cell 4
   have Z1:Hid (Blk w1 w.heap.size 25 zero5.toArray):=Blk.grown (Blk.new w.drew 25 zero5.toArray) g5 (by have:=HST.out.lt;simp;omega)
   clear g1 g2 g3 g4 g5
   go_wp2_with fail
   refine hK.out _ _ ⟨I1.out.rbox.cell 0,I1.out.dbox.cell 0⟩ (fun hH9 => ?_)
   clear hK K hH
   have hH:=hH9
   clear hH9
   try simp only [Act.put,List.setIfInBounds_toArray,List.set_cons_zero,List.set_cons_succ]
   have I2:=I1
   have G2:=G1
   have R2:=R1
   have Z2:Hid (Reads w1 (w.heap.size + 1) 5 (some (qa w.heap.size 0)) 1 zero5):=zero_reads Z1.out
   refine wpAnyH_ready (rs:=[8]) (by kernel_rfl) (by simp) ?_
   refine AllReadyH.cons (o:=_) rfl (fun K hK => ?_) AllReadyH.nil
   refine step_pushNd rfl _ _ rfl h (.slice A ns.length c) ns.length ys (by first | rfl | simp [Act.eval]) I2.out.own (w.heap.size + 1) (some (qa w.heap.size 0)) 1 zero5 (by first | rfl | simp [Act.eval]) Z2.out (by intro u hu;simp [zero5] at hu;rcases hu with rfl | rfl | rfl | rfl <;> rfl) (by omega) I2.out.size (fun v' w3 p1 p2 p3 => ?_)
   obtain ⟨g,cp,rfl,hg1,hg2⟩:=World.ownsRow.form p1 (by omega)
   have P1:Hid (w3.ownsRow h 25 5 (.slice (some (qa g 0)) (ns.length + 1) cp) (ns.length + 1) (ys ++ [.int .i64 0,.int .i64 0,.string ⟨#[]⟩,.slice none 0 0,.slice none 0 0])):=p1
   have P2:=Lib.hid p2
   have P3:=Lib.hid p3
   have q1:Hid (Blk w3 nb 25 #[.int .i64 6,.int .i64 0,.string ⟨#[]⟩,.slice none 0 0,.slice A ns.length c]):=I2.out.node.grown p2 (fun e => by have:=(HO.out nb e.symm).1;omega)
   have q2:Hid (Blk w3 rB 75 #[.pointer (some (qa rb 0))]):=I2.out.rbox.grown p2 (fun e => by have:=(HO.out rB e.symm).1;omega)
   have q3:Hid (Blk w3 dB 3 #[.int .i64 deep]):=I2.out.dbox.grown p2 (fun e => by have:=(HO.out dB e.symm).1;omega)
   have z0:w3.cell? (qa g (ns.length * 5)) = some (.int .i64 0):=(World.ownsRow.cellAt P1.out _ (by omega)).trans (by rw [← hl5];simp [zero5])
   have z1:w3.cell? (qa g (ns.length * 5 + 1)) = some (.int .i64 0):=(World.ownsRow.cellAt P1.out _ (by omega)).trans (by rw [← hl5];simp [zero5])
   have z2:w3.cell? (qa g (ns.length * 5 + 2)) = some (.string ⟨#[]⟩):=(World.ownsRow.cellAt P1.out _ (by omega)).trans (by rw [← hl5];simp [zero5])
   have z3:w3.cell? (qa g (ns.length * 5 + 3)) = some (.slice none 0 0):=(World.ownsRow.cellAt P1.out _ (by omega)).trans (by rw [← hl5];simp [zero5])
   have z4:w3.cell? (qa g (ns.length * 5 + 4)) = some (.slice none 0 0):=(World.ownsRow.cellAt P1.out _ (by omega)).trans (by rw [← hl5];simp [zero5])
   have f0:=World.ownsRow.frozenAt P1.out (ns.length * 5)
   have f1:=World.ownsRow.frozenAt P1.out (ns.length * 5 + 1)
   have f2:=World.ownsRow.frozenAt P1.out (ns.length * 5 + 2)
   have f3:=World.ownsRow.frozenAt P1.out (ns.length * 5 + 3)
   have f4:=World.ownsRow.frozenAt P1.out (ns.length * 5 + 4)
   have y0:w3.cell? (qa nb 4) = some (.slice A ns.length c):=q1.out.cell 4
   have y1:=q1.out.frozen 4
   clear p1 p2 p3
   refine hK.out _ _ ⟨q2.out.cell 0,q3.out.cell 0⟩ (fun hH9 => ?_)
   clear hK K hH
   have hH:=hH9
   clear hH9
   try simp only [Act.put,List.setIfInBounds_toArray,List.set_cons_zero,List.set_cons_succ]
   refine wpAnyH_take (i:=9) (v:=.pointer (some (qa g (ns.length * 5)))) rfl (by kernel_rfl) (by kernel_rfl) (by kernel_rfl) (fun _ _ _ h => h) (Or.inl ⟨by rfl,fun w9 hS9 => ?_⟩) hH ?_
   ·obtain ⟨s0,s1⟩:=hS9
    go_simp
    intro hq
    exact absurd hq (by omega)
   try simp only [Act.put,List.setIfInBounds_toArray,List.set_cons_zero,List.set_cons_succ]
   refine wpAnyH_take (i:=11) (v:=.pointer (some (qa nb 4))) rfl (by kernel_rfl) (by kernel_rfl) (by kernel_rfl) (fun _ _ _ h => h) (Or.inl ⟨by rfl,fun w9 hS9 => ?_⟩) hH ?_
   ·obtain ⟨s0,s1⟩:=hS9
    go_simp
   try simp only [Act.put,List.setIfInBounds_toArray,List.set_cons_zero,List.set_cons_succ]
   refine wpAnyH_ready (rs:=[10,12]) (by kernel_rfl) (by simp) ?_
   refine AllReadyH.cons (o:=_) rfl (fun K hK => ?_) ?_
   ·go_simp
    have o4:=own_last (v0:=.int .i64 c0) (v1:=.int .i64 c1) (v2:=.string c2) (v3:=.slice c3 c4 c5) (v4:=.slice c6 c7 c8) P1.out hl5
    have q4:=q1.out.grown o4.2 (by simp;omega)
    have q5:=q2.out.grown o4.2 (by simp;omega)
    have q6:=q3.out.grown o4.2 (by simp;omega)
    refine hK.out _ _ ⟨q5.cell 0,q6.cell 0⟩ (fun hH9 => ?_)
    clear hK K hH
    have hH:=hH9
    clear hH9
    generalize (((((w3.setCell (qa g (ns.length * 5)) (.int .i64 c0)).setCell (qa g (ns.length * 5 + 1)) (.int .i64 c1)).setCell (qa g (ns.length * 5 + 2)) (.string c2)).setCell (qa g (ns.length * 5 + 3)) (.slice c3 c4 c5)).setCell (qa g (ns.length * 5 + 4)) (.slice c6 c7 c8)) = w4 at o4 q4 q5 q6 hH ⊢
    try simp only [Act.put,List.setIfInBounds_toArray,List.set_cons_zero,List.set_cons_succ]
    have y2:w4.cell? (qa nb 4) = some (.slice A ns.length c):=q4.cell 4
    have y3:=q4.frozen 4
    have O4:=Lib.hid o4
    have Q4:=Lib.hid q4
    have Q5:=Lib.hid q5
    have Q6:=Lib.hid q6
    clear o4 q4 q5 q6
    refine wpAnyH_ready (rs:=[12]) (by kernel_rfl) (by simp) ?_
    refine AllReadyH.cons (o:=_) rfl (fun K hK => ?_) AllReadyH.nil
    go_simp
    refine hK.out _ _ ⟨(Q5.out.far (by simp;omega) _).cell 0,(Q6.out.far (by simp;omega) _).cell 0⟩ (fun hH9 => ?_)
    clear hK K hH hH9
    refine wpAnyH_done (by kernel_rfl) ?_ _
    go_wp2_with fail
    have E5:=AInv.push I2.out (fun g hg => (HO.out g hg).2) hsz G2.out P2.out P3.out O4.out.2 (grown_set (grown_refl w4 (some nb)) 4 (.slice (some (qa g 0)) (ns.length + 1) cp)) (.inl rfl) (.inr rfl) hg1 (ownsRow_setCell_below O4.out.1 h2 _) (Q4.out.set_ 4 _) h0 h1 h2 h3 h4 n1 n4 n5
    exact ⟨rfl,.tuple #[],results_none rfl _ _ _,rfl,⟨_,_,_,E5.1⟩,k',Q1.out.1,Q1.out.2,(E5.2 rb h1 n1.symm).trans R2.out⟩
   refine AllReadyH.cons (o:=_) rfl (fun K hK => ?_) AllReadyH.nil
   go_simp
   have o4:=ownsRow_setCell_below P1.out (a:=(qa nb 4)) h2 (.slice (some (qa g 0)) (ns.length + 1) cp)
   have q4:=q1.out.set_ 4 (.slice (some (qa g 0)) (ns.length + 1) cp)
   have q5:=q2.out.far (p:=(qa nb 4)) (by simp;omega) (.slice (some (qa g 0)) (ns.length + 1) cp)
   have q6:=q3.out.far (p:=(qa nb 4)) (by simp;omega) (.slice (some (qa g 0)) (ns.length + 1) cp)
   have o5:=grown_set (grown_refl w3 (some nb)) 4 (.slice (some (qa g 0)) (ns.length + 1) cp)
   refine hK.out _ _ ⟨q5.cell 0,q6.cell 0⟩ (fun hH9 => ?_)
   clear hK K hH
   have hH:=hH9
   clear hH9
   generalize w3.setCell (qa nb 4) (.slice (some (qa g 0)) (ns.length + 1) cp) = w4 at o4 o5 q4 q5 q6 hH ⊢
   try simp only [Act.put,List.setIfInBounds_toArray,List.set_cons_zero,List.set_cons_succ]
   have O4:=Lib.hid o4
   have O5:=Lib.hid o5
   have Q4:=Lib.hid q4
   have Q5:=Lib.hid q5
   have Q6:=Lib.hid q6
   clear o4 o5 q4 q5 q6 z0 z1 z2 z3 z4 f0 f1 f2 f3 f4
   have z0:w4.cell? (qa g (ns.length * 5)) = some (.int .i64 0):=(World.ownsRow.cellAt O4.out _ (by omega)).trans (by rw [← hl5];simp [zero5])
   have z1:w4.cell? (qa g (ns.length * 5 + 1)) = some (.int .i64 0):=(World.ownsRow.cellAt O4.out _ (by omega)).trans (by rw [← hl5];simp [zero5])
   have z2:w4.cell? (qa g (ns.length * 5 + 2)) = some (.string ⟨#[]⟩):=(World.ownsRow.cellAt O4.out _ (by omega)).trans (by rw [← hl5];simp [zero5])
   have z3:w4.cell? (qa g (ns.length * 5 + 3)) = some (.slice none 0 0):=(World.ownsRow.cellAt O4.out _ (by omega)).trans (by rw [← hl5];simp [zero5])
   have z4:w4.cell? (qa g (ns.length * 5 + 4)) = some (.slice none 0 0):=(World.ownsRow.cellAt O4.out _ (by omega)).trans (by rw [← hl5];simp [zero5])
   have f0:=World.ownsRow.frozenAt O4.out (ns.length * 5)
   have f1:=World.ownsRow.frozenAt O4.out (ns.length * 5 + 1)
   have f2:=World.ownsRow.frozenAt O4.out (ns.length * 5 + 2)
   have f3:=World.ownsRow.frozenAt O4.out (ns.length * 5 + 3)
   have f4:=World.ownsRow.frozenAt O4.out (ns.length * 5 + 4)
   refine wpAnyH_ready (rs:=[10]) (by kernel_rfl) (by simp) ?_
   refine AllReadyH.cons (o:=_) rfl (fun K hK => ?_) AllReadyH.nil
   go_simp
   have o6:=own_last (v0:=.int .i64 c0) (v1:=.int .i64 c1) (v2:=.string c2) (v3:=.slice c3 c4 c5) (v4:=.slice c6 c7 c8) O4.out hl5
   refine hK.out _ _ ⟨(Q5.out.grown o6.2 (by simp;omega)).cell 0,(Q6.out.grown o6.2 (by simp;omega)).cell 0⟩ (fun hH9 => ?_)
   clear hK K hH hH9
   refine wpAnyH_done (by kernel_rfl) ?_ _
   have E5:=Lib.hid (AInv.push I2.out (fun g hg => (HO.out g hg).2) hsz G2.out P2.out P3.out O5.out o6.2 (.inr rfl) (.inl rfl) hg1 o6.1 (Q4.out.grown o6.2 (by simp;omega)) h0 h1 h2 h3 h4 n1 n4 n5)
   clear o6
   go_wp2_with fail
   exact ⟨rfl,.tuple #[],results_none rfl _ _ _,rfl,⟨_,_,_,E5.out.1⟩,k',Q1.out.1,Q1.out.2,(E5.out.2 rb h1 n1.symm).trans R2.out⟩
  refine AllReadyH.cons (o:=_) rfl (fun K hK => ?_) ?_
  ·
   go_simp
   go_at_call 46
   refine (HF.out _ (HST.out.drew)).mono ?_
   rintro e w1 ⟨c0,c1,c2,c3,c4,c5,c6,c7,c8,rfl,g1,k',g2,g3,g4,g5⟩
   have G1:Hid (Got w.heap.size w1 n (nL c0 c1 c2 c3 c4 c5 c6 c7 c8)):=NdIn.keep (fun _ _ => rfl) (fun b hb => ⟨by have:=hb.1;simp at this;omega,hb.2⟩) _ _ g1
   have I1:Hid (AInv w0 nb rB dB rb h deep ns w1 A c ys):=AInv.next HI.out (grown_drew (grown_refl _ _) |>.trans g5) h1 n1 n2 n3
   have R1:Hid (RdSt w1 rb s k'):=g4
   have Q1:Hid (k' ≤ s.size ∧ s.toList.drop k' = l):=⟨g2,g3⟩
   have S1:w.heap.size ≤ w1.heap.size:=by have:=g5.size;simp at this;omega
   have a6:w1.cell? (qa nb 4) = some (.slice A ns.length c):=I1.out.node.cell 4
   clear g1 g2 g3 g4 g5
   go_wp2_with fail
   refine hK.out _ _ ⟨I1.out.rbox.cell 0,I1.out.dbox.cell 0⟩ (fun hH9 => ?_)
   clear hK K hH
   have hH:=hH9
   clear hH9
   try simp only [Act.put,List.setIfInBounds_toArray,List.set_cons_zero,List.set_cons_succ]
   refine wpAnyH_ready (rs:=[1,7]) (by kernel_rfl) (by simp) ?_
   refine AllReadyH.cons (o:=_) rfl (fun K hK => ?_) ?_
   ·
    go_simp
    refine hK.out _ _ hH (fun hH9 => ?_)
    clear hK K hH
    have hH:=hH9
    clear hH9
    try simp only [Act.put,List.setIfInBounds_toArray,List.set_cons_zero,List.set_cons_succ]
    refine wpAnyH_take (i:=6) (v:=.int .i64 ns.length) rfl (by kernel_rfl) (by kernel_rfl) (by kernel_rfl) (fun _ _ _ h => h) (Or.inl ⟨by rfl,fun w9 hS9 => ?_⟩) hH ?_
    ·obtain ⟨s0,s1⟩:=hS9
     go_simp
    try simp only [Act.put,List.setIfInBounds_toArray,List.set_cons_zero,List.set_cons_succ]
    refine wpAnyH_ready (rs:=[7]) (by kernel_rfl) (by simp) ?_
    refine AllReadyH.cons (o:=_) rfl (fun K hK => ?_) AllReadyH.nil
    go_simp
    refine hK.out _ _ ⟨(I1.out.rbox.alloc _).cell 0,(I1.out.dbox.alloc _).cell 0⟩ (fun hH9 => ?_)
    clear hK K hH
    have hH:=hH9
    clear hH9
    try simp only [Act.put,List.setIfInBounds_toArray,List.set_cons_zero,List.set_cons_succ]
    have a5:(w1.alloc (Obj.cells Zn 25)).cell? (qa nb 4) = some (.slice A ns.length c):=(I1.out.node.alloc _).cell 4
    have I2:Hid (AInv w0 nb rB dB rb h deep ns (w1.alloc (Obj.cells Zn 25)) A c ys):=AInv.next I1.out (grown_alloc (grown_refl _ _) _) h1 n1 n2 n3
    have G2:Hid (Got w.heap.size (w1.alloc (Obj.cells Zn 25)) n (nL c0 c1 c2 c3 c4 c5 c6 c7 c8)):=G1.out.alloc _
    have R2:Hid (RdSt (w1.alloc (Obj.cells Zn 25)) rb s k'):=R1.out.alloc _
    have Z2:Hid (Reads (w1.alloc (Obj.cells Zn 25)) (w1.heap.size + 1) 5 (some (qa w1.heap.size 0)) 1 zero5):=zero_reads (Blk.new _ _ _)
    refine wpAnyH_ready (rs:=[8]) (by kernel_rfl) (by simp) ?_
    refine AllReadyH.cons (o:=_) rfl (fun K hK => ?_) AllReadyH.nil
    refine step_pushNd rfl _ _ rfl h (.slice A ns.length c) ns.length ys (by first | rfl | simp [Act.eval]) I2.out.own (w1.heap.size + 1) (some (qa w1.heap.size 0)) 1 zero5 (by first | rfl | simp [Act.eval]) Z2.out (by intro u hu;simp [zero5] at hu;rcases hu with rfl | rfl | rfl | rfl <;> rfl) (by omega) I2.out.size (fun v' w3 p1 p2 p3 => ?_)
    obtain ⟨g,cp,rfl,hg1,hg2⟩:=World.ownsRow.form p1 (by omega)
    have P1:Hid (w3.ownsRow h 25 5 (.slice (some (qa g 0)) (ns.length + 1) cp) (ns.length + 1) (ys ++ [.int .i64 0,.int .i64 0,.string ⟨#[]⟩,.slice none 0 0,.slice none 0 0])):=p1
    have P2:=Lib.hid p2
    have P3:=Lib.hid p3
    have q1:Hid (Blk w3 nb 25 #[.int .i64 6,.int .i64 0,.string ⟨#[]⟩,.slice none 0 0,.slice A ns.length c]):=I2.out.node.grown p2 (fun e => by have:=(HO.out nb e.symm).1;omega)
    have q2:Hid (Blk w3 rB 75 #[.pointer (some (qa rb 0))]):=I2.out.rbox.grown p2 (fun e => by have:=(HO.out rB e.symm).1;omega)
    have q3:Hid (Blk w3 dB 3 #[.int .i64 deep]):=I2.out.dbox.grown p2 (fun e => by have:=(HO.out dB e.symm).1;omega)
    have z0:w3.cell? (qa g (ns.length * 5)) = some (.int .i64 0):=(World.ownsRow.cellAt P1.out _ (by omega)).trans (by rw [← hl5];simp [zero5])
    have z1:w3.cell? (qa g (ns.length * 5 + 1)) = some (.int .i64 0):=(World.ownsRow.cellAt P1.out _ (by omega)).trans (by rw [← hl5];simp [zero5])
    have z2:w3.cell? (qa g (ns.length * 5 + 2)) = some (.string ⟨#[]⟩):=(World.ownsRow.cellAt P1.out _ (by omega)).trans (by rw [← hl5];simp [zero5])
    have z3:w3.cell? (qa g (ns.length * 5 + 3)) = some (.slice none 0 0):=(World.ownsRow.cellAt P1.out _ (by omega)).trans (by rw [← hl5];simp [zero5])
    have z4:w3.cell? (qa g (ns.length * 5 + 4)) = some (.slice none 0 0):=(World.ownsRow.cellAt P1.out _ (by omega)).trans (by rw [← hl5];simp [zero5])
    have f0:=World.ownsRow.frozenAt P1.out (ns.length * 5)
    have f1:=World.ownsRow.frozenAt P1.out (ns.length * 5 + 1)
    have f2:=World.ownsRow.frozenAt P1.out (ns.length * 5 + 2)
    have f3:=World.ownsRow.frozenAt P1.out (ns.length * 5 + 3)
    have f4:=World.ownsRow.frozenAt P1.out (ns.length * 5 + 4)
    have y0:w3.cell? (qa nb 4) = some (.slice A ns.length c):=q1.out.cell 4
    have y1:=q1.out.frozen 4
    clear p1 p2 p3
    refine hK.out _ _ ⟨q2.out.cell 0,q3.out.cell 0⟩ (fun hH9 => ?_)
    clear hK K hH
    have hH:=hH9
    clear hH9
    try simp only [Act.put,List.setIfInBounds_toArray,List.set_cons_zero,List.set_cons_succ]
    refine wpAnyH_take (i:=9) (v:=.pointer (some (qa g (ns.length * 5)))) rfl (by kernel_rfl) (by kernel_rfl) (by kernel_rfl) (fun _ _ _ h => h) (Or.inl ⟨by rfl,fun w9 hS9 => ?_⟩) hH ?_
    ·obtain ⟨s0,s1⟩:=hS9
     go_simp
     intro hq
     exact absurd hq (by omega)
    try simp only [Act.put,List.setIfInBounds_toArray,List.set_cons_zero,List.set_cons_succ]
    refine wpAnyH_take (i:=11) (v:=.pointer (some (qa nb 4))) rfl (by kernel_rfl) (by kernel_rfl) (by kernel_rfl) (fun _ _ _ h => h) (Or.inl ⟨by rfl,fun w9 hS9 => ?_⟩) hH ?_
    ·obtain ⟨s0,s1⟩:=hS9
     go_simp
    try simp only [Act.put,List.setIfInBounds_toArray,List.set_cons_zero,List.set_cons_succ]
    refine wpAnyH_ready (rs:=[10,12]) (by kernel_rfl) (by simp) ?_
    refine AllReadyH.cons (o:=_) rfl (fun K hK => ?_) ?_
    ·go_simp
     have o4:=own_last (v0:=.int .i64 c0) (v1:=.int .i64 c1) (v2:=.string c2) (v3:=.slice c3 c4 c5) (v4:=.slice c6 c7 c8) P1.out hl5
     have q4:=q1.out.grown o4.2 (by simp;omega)
     have q5:=q2.out.grown o4.2 (by simp;omega)
     have q6:=q3.out.grown o4.2 (by simp;omega)
     refine hK.out _ _ ⟨q5.cell 0,q6.cell 0⟩ (fun hH9 => ?_)
     clear hK K hH
     have hH:=hH9
     clear hH9
     generalize (((((w3.setCell (qa g (ns.length * 5)) (.int .i64 c0)).setCell (qa g (ns.length * 5 + 1)) (.int .i64 c1)).setCell (qa g (ns.length * 5 + 2)) (.string c2)).setCell (qa g (ns.length * 5 + 3)) (.slice c3 c4 c5)).setCell (qa g (ns.length * 5 + 4)) (.slice c6 c7 c8)) = w4 at o4 q4 q5 q6 hH ⊢
     try simp only [Act.put,List.setIfInBounds_toArray,List.set_cons_zero,List.set_cons_succ]
     have y2:w4.cell? (qa nb 4) = some (.slice A ns.length c):=q4.cell 4
     have y3:=q4.frozen 4
     have O4:=Lib.hid o4
     have Q4:=Lib.hid q4
     have Q5:=Lib.hid q5
     have Q6:=Lib.hid q6
     clear o4 q4 q5 q6
     refine wpAnyH_ready (rs:=[12]) (by kernel_rfl) (by simp) ?_
     refine AllReadyH.cons (o:=_) rfl (fun K hK => ?_) AllReadyH.nil
     go_simp
     refine hK.out _ _ ⟨(Q5.out.far (by simp;omega) _).cell 0,(Q6.out.far (by simp;omega) _).cell 0⟩ (fun hH9 => ?_)
     clear hK K hH hH9
     refine wpAnyH_done (by kernel_rfl) ?_ _
     go_wp2_with fail
     have E5:=AInv.push I2.out (fun g hg => (HO.out g hg).2) hsz G2.out P2.out P3.out O4.out.2 (grown_set (grown_refl w4 (some nb)) 4 (.slice (some (qa g 0)) (ns.length + 1) cp)) (.inl rfl) (.inr rfl) hg1 (ownsRow_setCell_below O4.out.1 h2 _) (Q4.out.set_ 4 _) h0 h1 h2 h3 h4 n1 n4 n5
     exact ⟨rfl,.tuple #[],results_none rfl _ _ _,rfl,⟨_,_,_,E5.1⟩,k',Q1.out.1,Q1.out.2,(E5.2 rb h1 n1.symm).trans R2.out⟩
    refine AllReadyH.cons (o:=_) rfl (fun K hK => ?_) AllReadyH.nil
    go_simp
    have o4:=ownsRow_setCell_below P1.out (a:=(qa nb 4)) h2 (.slice (some (qa g 0)) (ns.length + 1) cp)
    have q4:=q1.out.set_ 4 (.slice (some (qa g 0)) (ns.length + 1) cp)
    have q5:=q2.out.far (p:=(qa nb 4)) (by simp;omega) (.slice (some (qa g 0)) (ns.length + 1) cp)
    have q6:=q3.out.far (p:=(qa nb 4)) (by simp;omega) (.slice (some (qa g 0)) (ns.length + 1) cp)
    have o5:=grown_set (grown_refl w3 (some nb)) 4 (.slice (some (qa g 0)) (ns.length + 1) cp)
    refine hK.out _ _ ⟨q5.cell 0,q6.cell 0⟩ (fun hH9 => ?_)
    clear hK K hH
    have hH:=hH9
    clear hH9
    generalize w3.setCell (qa nb 4) (.slice (some (qa g 0)) (ns.length + 1) cp) = w4 at o4 o5 q4 q5 q6 hH ⊢
    try simp only [Act.put,List.setIfInBounds_toArray,List.set_cons_zero,List.set_cons_succ]
    have O4:=Lib.hid o4
    have O5:=Lib.hid o5
    have Q4:=Lib.hid q4
    have Q5:=Lib.hid q5
    have Q6:=Lib.hid q6
    clear o4 o5 q4 q5 q6 z0 z1 z2 z3 z4 f0 f1 f2 f3 f4
    have z0:w4.cell? (qa g (ns.length * 5)) = some (.int .i64 0):=(World.ownsRow.cellAt O4.out _ (by omega)).trans (by rw [← hl5];simp [zero5])
    have z1:w4.cell? (qa g (ns.length * 5 + 1)) = some (.int .i64 0):=(World.ownsRow.cellAt O4.out _ (by omega)).trans (by rw [← hl5];simp [zero5])
    have z2:w4.cell? (qa g (ns.length * 5 + 2)) = some (.string ⟨#[]⟩):=(World.ownsRow.cellAt O4.out _ (by omega)).trans (by rw [← hl5];simp [zero5])
    have z3:w4.cell? (qa g (ns.length * 5 + 3)) = some (.slice none 0 0):=(World.ownsRow.cellAt O4.out _ (by omega)).trans (by rw [← hl5];simp [zero5])
    have z4:w4.cell? (qa g (ns.length * 5 + 4)) = some (.slice none 0 0):=(World.ownsRow.cellAt O4.out _ (by omega)).trans (by rw [← hl5];simp [zero5])
    have f0:=World.ownsRow.frozenAt O4.out (ns.length * 5)
    have f1:=World.ownsRow.frozenAt O4.out (ns.length * 5 + 1)
    have f2:=World.ownsRow.frozenAt O4.out (ns.length * 5 + 2)
    have f3:=World.ownsRow.frozenAt O4.out (ns.length * 5 + 3)
    have f4:=World.ownsRow.frozenAt O4.out (ns.length * 5 + 4)
    refine wpAnyH_ready (rs:=[10]) (by kernel_rfl) (by simp) ?_
    refine AllReadyH.cons (o:=_) rfl (fun K hK => ?_) AllReadyH.nil
    go_simp
    have o6:=own_last (v0:=.int .i64 c0) (v1:=.int .i64 c1) (v2:=.string c2) (v3:=.slice c3 c4 c5) (v4:=.slice c6 c7 c8) O4.out hl5
    refine hK.out _ _ ⟨(Q5.out.grown o6.2 (by simp;omega)).cell 0,(Q6.out.grown o6.2 (by simp;omega)).cell 0⟩ (fun hH9 => ?_)
    clear hK K hH hH9
    refine wpAnyH_done (by kernel_rfl) ?_ _
    have E5:=Lib.hid (AInv.push I2.out (fun g hg => (HO.out g hg).2) hsz G2.out P2.out P3.out O5.out o6.2 (.inr rfl) (.inl rfl) hg1 o6.1 (Q4.out.grown o6.2 (by simp;omega)) h0 h1 h2 h3 h4 n1 n4 n5)
    clear o6
    go_wp2_with fail
    exact ⟨rfl,.tuple #[],results_none rfl _ _ _,rfl,⟨_,_,_,E5.out.1⟩,k',Q1.out.1,Q1.out.2,(E5.out.2 rb h1 n1.symm).trans R2.out⟩
   refine AllReadyH.cons (o:=_) rfl (fun K hK => ?_) AllReadyH.nil
   go_simp
   refine hK.out _ _ ⟨(I1.out.rbox.alloc _).cell 0,(I1.out.dbox.alloc _).cell 0⟩ (fun hH9 => ?_)
   clear hK K hH
   have hH:=hH9
   clear hH9
   try simp only [Act.put,List.setIfInBounds_toArray,List.set_cons_zero,List.set_cons_succ]
   have a5:(w1.alloc (Obj.cells Zn 25)).cell? (qa nb 4) = some (.slice A ns.length c):=(I1.out.node.alloc _).cell 4
   refine wpAnyH_ready (rs:=[1]) (by kernel_rfl) (by simp) ?_
   refine AllReadyH.cons (o:=_) rfl (fun K hK => ?_) AllReadyH.nil
   go_simp
   refine hK.out _ _ hH (fun hH9 => ?_)
   clear hK K hH
   have hH:=hH9
   clear hH9
   try simp only [Act.put,List.setIfInBounds_toArray,List.set_cons_zero,List.set_cons_succ]
   refine wpAnyH_take (i:=6) (v:=.int .i64 ns.length) rfl (by kernel_rfl) (by kernel_rfl) (by kernel_rfl) (fun _ _ _ h => h) (Or.inl ⟨by rfl,fun w9 hS9 => ?_⟩) hH ?_
   ·obtain ⟨s0,s1⟩:=hS9
    go_simp
   try simp only [Act.put,List.setIfInBounds_toArray,List.set_cons_zero,List.set_cons_succ]
   have I2:Hid (AInv w0 nb rB dB rb h deep ns (w1.alloc (Obj.cells Zn 25)) A c ys):=AInv.next I1.out (grown_alloc (grown_refl _ _) _) h1 n1 n2 n3
   have G2:Hid (Got w.heap.size (w1.alloc (Obj.cells Zn 25)) n (nL c0 c1 c2 c3 c4 c5 c6 c7 c8)):=G1.out.alloc _
   have R2:Hid (RdSt (w1.alloc (Obj.cells Zn 25)) rb s k'):=R1.out.alloc _
   have Z2:Hid (Reads (w1.alloc (Obj.cells Zn 25)) (w1.heap.size + 1) 5 (some (qa w1.heap.size 0)) 1 zero5):=zero_reads (Blk.new _ _ _)
   refine wpAnyH_ready (rs:=[8]) (by kernel_rfl) (by simp) ?_
   refine AllReadyH.cons (o:=_) rfl (fun K hK => ?_) AllReadyH.nil
   refine step_pushNd rfl _ _ rfl h (.slice A ns.length c) ns.length ys (by first | rfl | simp [Act.eval]) I2.out.own (w1.heap.size + 1) (some (qa w1.heap.size 0)) 1 zero5 (by first | rfl | simp [Act.eval]) Z2.out (by intro u hu;simp [zero5] at hu;rcases hu with rfl | rfl | rfl | rfl <;> rfl) (by omega) I2.out.size (fun v' w3 p1 p2 p3 => ?_)
   obtain ⟨g,cp,rfl,hg1,hg2⟩:=World.ownsRow.form p1 (by omega)
   have P1:Hid (w3.ownsRow h 25 5 (.slice (some (qa g 0)) (ns.length + 1) cp) (ns.length + 1) (ys ++ [.int .i64 0,.int .i64 0,.string ⟨#[]⟩,.slice none 0 0,.slice none 0 0])):=p1
   have P2:=Lib.hid p2
   have P3:=Lib.hid p3
   have q1:Hid (Blk w3 nb 25 #[.int .i64 6,.int .i64 0,.string ⟨#[]⟩,.slice none 0 0,.slice A ns.length c]):=I2.out.node.grown p2 (fun e => by have:=(HO.out nb e.symm).1;omega)
   have q2:Hid (Blk w3 rB 75 #[.pointer (some (qa rb 0))]):=I2.out.rbox.grown p2 (fun e => by have:=(HO.out rB e.symm).1;omega)
   have q3:Hid (Blk w3 dB 3 #[.int .i64 deep]):=I2.out.dbox.grown p2 (fun e => by have:=(HO.out dB e.symm).1;omega)
   have z0:w3.cell? (qa g (ns.length * 5)) = some (.int .i64 0):=(World.ownsRow.cellAt P1.out _ (by omega)).trans (by rw [← hl5];simp [zero5])
   have z1:w3.cell? (qa g (ns.length * 5 + 1)) = some (.int .i64 0):=(World.ownsRow.cellAt P1.out _ (by omega)).trans (by rw [← hl5];simp [zero5])
   have z2:w3.cell? (qa g (ns.length * 5 + 2)) = some (.string ⟨#[]⟩):=(World.ownsRow.cellAt P1.out _ (by omega)).trans (by rw [← hl5];simp [zero5])
   have z3:w3.cell? (qa g (ns.length * 5 + 3)) = some (.slice none 0 0):=(World.ownsRow.cellAt P1.out _ (by omega)).trans (by rw [← hl5];simp [zero5])
   have z4:w3.cell? (qa g (ns.length * 5 + 4)) = some (.slice none 0 0):=(World.ownsRow.cellAt P1.out _ (by omega)).trans (by rw [← hl5];simp [zero5])
   have f0:=World.ownsRow.frozenAt P1.out (ns.length * 5)
   have f1:=World.ownsRow.frozenAt P1.out (ns.length * 5 + 1)
   have f2:=World.ownsRow.frozenAt P1.out (ns.length * 5 + 2)
   have f3:=World.ownsRow.frozenAt P1.out (ns.length * 5 + 3)
   have f4:=World.ownsRow.frozenAt P1.out (ns.length * 5 + 4)
   have y0:w3.cell? (qa nb 4) = some (.slice A ns.length c):=q1.out.cell 4
   have y1:=q1.out.frozen 4
   clear p1 p2 p3
   refine hK.out _ _ ⟨q2.out.cell 0,q3.out.cell 0⟩ (fun hH9 => ?_)
   clear hK K hH
   have hH:=hH9
   clear hH9
   try simp only [Act.put,List.setIfInBounds_toArray,List.set_cons_zero,List.set_cons_succ]
   refine wpAnyH_take (i:=9) (v:=.pointer (some (qa g (ns.length * 5)))) rfl (by kernel_rfl) (by kernel_rfl) (by kernel_rfl) (fun _ _ _ h => h) (Or.inl ⟨by rfl,fun w9 hS9 => ?_⟩) hH ?_
   ·obtain ⟨s0,s1⟩:=hS9
    go_simp
    intro hq
    exact absurd hq (by omega)
   try simp only [Act.put,List.setIfInBounds_toArray,List.set_cons_zero,List.set_cons_succ]
   refine wpAnyH_take (i:=11) (v:=.pointer (some (qa nb 4))) rfl (by kernel_rfl) (by kernel_rfl) (by kernel_rfl) (fun _ _ _ h => h) (Or.inl ⟨by rfl,fun w9 hS9 => ?_⟩) hH ?_
   ·obtain ⟨s0,s1⟩:=hS9
    go_simp
   try simp only [Act.put,List.setIfInBounds_toArray,List.set_cons_zero,List.set_cons_succ]
   refine wpAnyH_ready (rs:=[10,12]) (by kernel_rfl) (by simp) ?_
   refine AllReadyH.cons (o:=_) rfl (fun K hK => ?_) ?_
   ·go_simp
    have o4:=own_last (v0:=.int .i64 c0) (v1:=.int .i64 c1) (v2:=.string c2) (v3:=.slice c3 c4 c5) (v4:=.slice c6 c7 c8) P1.out hl5
    have q4:=q1.out.grown o4.2 (by simp;omega)
    have q5:=q2.out.grown o4.2 (by simp;omega)
    have q6:=q3.out.grown o4.2 (by simp;omega)
    refine hK.out _ _ ⟨q5.cell 0,q6.cell 0⟩ (fun hH9 => ?_)
    clear hK K hH
    have hH:=hH9
    clear hH9
    generalize (((((w3.setCell (qa g (ns.length * 5)) (.int .i64 c0)).setCell (qa g (ns.length * 5 + 1)) (.int .i64 c1)).setCell (qa g (ns.length * 5 + 2)) (.string c2)).setCell (qa g (ns.length * 5 + 3)) (.slice c3 c4 c5)).setCell (qa g (ns.length * 5 + 4)) (.slice c6 c7 c8)) = w4 at o4 q4 q5 q6 hH ⊢
    try simp only [Act.put,List.setIfInBounds_toArray,List.set_cons_zero,List.set_cons_succ]
    have y2:w4.cell? (qa nb 4) = some (.slice A ns.length c):=q4.cell 4
    have y3:=q4.frozen 4
    have O4:=Lib.hid o4
    have Q4:=Lib.hid q4
    have Q5:=Lib.hid q5
    have Q6:=Lib.hid q6
    clear o4 q4 q5 q6
    refine wpAnyH_ready (rs:=[12]) (by kernel_rfl) (by simp) ?_
    refine AllReadyH.cons (o:=_) rfl (fun K hK => ?_) AllReadyH.nil
    go_simp
    refine hK.out _ _ ⟨(Q5.out.far (by simp;omega) _).cell 0,(Q6.out.far (by simp;omega) _).cell 0⟩ (fun hH9 => ?_)
    clear hK K hH hH9
    refine wpAnyH_done (by kernel_rfl) ?_ _
    go_wp2_with fail
    have E5:=AInv.push I2.out (fun g hg => (HO.out g hg).2) hsz G2.out P2.out P3.out O4.out.2 (grown_set (grown_refl w4 (some nb)) 4 (.slice (some (qa g 0)) (ns.length + 1) cp)) (.inl rfl) (.inr rfl) hg1 (ownsRow_setCell_below O4.out.1 h2 _) (Q4.out.set_ 4 _) h0 h1 h2 h3 h4 n1 n4 n5
    exact ⟨rfl,.tuple #[],results_none rfl _ _ _,rfl,⟨_,_,_,E5.1⟩,k',Q1.out.1,Q1.out.2,(E5.2 rb h1 n1.symm).trans R2.out⟩
   refine AllReadyH.cons (o:=_) rfl (fun K hK => ?_) AllReadyH.nil
   go_simp
   have o4:=ownsRow_setCell_below P1.out (a:=(qa nb 4)) h2 (.slice (some (qa g 0)) (ns.length + 1) cp)
   have q4:=q1.out.set_ 4 (.slice (some (qa g 0)) (ns.length + 1) cp)
   have q5:=q2.out.far (p:=(qa nb 4)) (by simp;omega) (.slice (some (qa g 0)) (ns.length + 1) cp)
   have q6:=q3.out.far (p:=(qa nb 4)) (by simp;omega) (.slice (some (qa g 0)) (ns.length + 1) cp)
   have o5:=grown_set (grown_refl w3 (some nb)) 4 (.slice (some (qa g 0)) (ns.length + 1) cp)
   refine hK.out _ _ ⟨q5.cell 0,q6.cell 0⟩ (fun hH9 => ?_)
   clear hK K hH
   have hH:=hH9
   clear hH9
   generalize w3.setCell (qa nb 4) (.slice (some (qa g 0)) (ns.length + 1) cp) = w4 at o4 o5 q4 q5 q6 hH ⊢
   try simp only [Act.put,List.setIfInBounds_toArray,List.set_cons_zero,List.set_cons_succ]
   have O4:=Lib.hid o4
   have O5:=Lib.hid o5
   have Q4:=Lib.hid q4
   have Q5:=Lib.hid q5
   have Q6:=Lib.hid q6
   clear o4 o5 q4 q5 q6 z0 z1 z2 z3 z4 f0 f1 f2 f3 f4
   have z0:w4.cell? (qa g (ns.length * 5)) = some (.int .i64 0):=(World.ownsRow.cellAt O4.out _ (by omega)).trans (by rw [← hl5];simp [zero5])
   have z1:w4.cell? (qa g (ns.length * 5 + 1)) = some (.int .i64 0):=(World.ownsRow.cellAt O4.out _ (by omega)).trans (by rw [← hl5];simp [zero5])
   have z2:w4.cell? (qa g (ns.length * 5 + 2)) = some (.string ⟨#[]⟩):=(World.ownsRow.cellAt O4.out _ (by omega)).trans (by rw [← hl5];simp [zero5])
   have z3:w4.cell? (qa g (ns.length * 5 + 3)) = some (.slice none 0 0):=(World.ownsRow.cellAt O4.out _ (by omega)).trans (by rw [← hl5];simp [zero5])
   have z4:w4.cell? (qa g (ns.length * 5 + 4)) = some (.slice none 0 0):=(World.ownsRow.cellAt O4.out _ (by omega)).trans (by rw [← hl5];simp [zero5])
   have f0:=World.ownsRow.frozenAt O4.out (ns.length * 5)
   have f1:=World.ownsRow.frozenAt O4.out (ns.length * 5 + 1)
   have f2:=World.ownsRow.frozenAt O4.out (ns.length * 5 + 2)
   have f3:=World.ownsRow.frozenAt O4.out (ns.length * 5 + 3)
   have f4:=World.ownsRow.frozenAt O4.out (ns.length * 5 + 4)
   refine wpAnyH_ready (rs:=[10]) (by kernel_rfl) (by simp) ?_
   refine AllReadyH.cons (o:=_) rfl (fun K hK => ?_) AllReadyH.nil
   go_simp
   have o6:=own_last (v0:=.int .i64 c0) (v1:=.int .i64 c1) (v2:=.string c2) (v3:=.slice c3 c4 c5) (v4:=.slice c6 c7 c8) O4.out hl5
   refine hK.out _ _ ⟨(Q5.out.grown o6.2 (by simp;omega)).cell 0,(Q6.out.grown o6.2 (by simp;omega)).cell 0⟩ (fun hH9 => ?_)
   clear hK K hH hH9
   refine wpAnyH_done (by kernel_rfl) ?_ _
   have E5:=Lib.hid (AInv.push I2.out (fun g hg => (HO.out g hg).2) hsz G2.out P2.out P3.out O5.out o6.2 (.inr rfl) (.inl rfl) hg1 o6.1 (Q4.out.grown o6.2 (by simp;omega)) h0 h1 h2 h3 h4 n1 n4 n5)
   clear o6
   go_wp2_with fail
   exact ⟨rfl,.tuple #[],results_none rfl _ _ _,rfl,⟨_,_,_,E5.out.1⟩,k',Q1.out.1,Q1.out.2,(E5.out.2 rb h1 n1.symm).trans R2.out⟩
  refine AllReadyH.cons (o:=_) rfl (fun K hK => ?_) AllReadyH.nil
  go_simp
  refine hK.out _ _ ⟨(HI.out.rbox.drew.alloc _).cell 0,(HI.out.dbox.drew.alloc _).cell 0⟩ (fun hH9 => ?_)
  clear hK K hH
  have hH:=hH9
  clear hH9
  try simp only [Act.put,List.setIfInBounds_toArray,List.set_cons_zero,List.set_cons_succ]
  have a5:(w.alloc (Obj.cells Zn 25)).cell? (qa nb 4) = some (.slice A ns.length c):=(HI.out.node.drew.alloc _).cell 4
  refine wpAnyH_ready (rs:=[1,5]) (by kernel_rfl) (by simp) ?_
  refine AllReadyH.cons (o:=_) rfl (fun K hK => ?_) ?_
  ·
   go_simp
   refine hK.out _ _ hH (fun hH9 => ?_)
   clear hK K hH
   have hH:=hH9
   clear hH9
   try simp only [Act.put,List.setIfInBounds_toArray,List.set_cons_zero,List.set_cons_succ]
   refine wpAnyH_take (i:=6) (v:=.int .i64 ns.length) rfl (by kernel_rfl) (by kernel_rfl) (by kernel_rfl) (fun _ _ _ h => h) (Or.inl ⟨by rfl,fun w9 hS9 => ?_⟩) hH ?_
   ·obtain ⟨s0,s1⟩:=hS9
    go_simp
   try simp only [Act.put,List.setIfInBounds_toArray,List.set_cons_zero,List.set_cons_succ]
   refine wpAnyH_ready (rs:=[5]) (by kernel_rfl) (by simp) ?_
   refine AllReadyH.cons (o:=_) rfl (fun K hK => ?_) AllReadyH.nil
   go_simp
   go_at_call 46
   refine (HF.out _ (HST.out.drew.alloc _)).mono ?_
   rintro e w1 ⟨c0,c1,c2,c3,c4,c5,c6,c7,c8,rfl,g1,k',g2,g3,g4,g5⟩
   have G1:Hid (Got w.heap.size w1 n (nL c0 c1 c2 c3 c4 c5 c6 c7 c8)):=NdIn.keep (fun _ _ => rfl) (fun b hb => ⟨by have:=hb.1;simp at this;omega,hb.2⟩) _ _ g1
   have I1:Hid (AInv w0 nb rB dB rb h deep ns w1 A c ys):=AInv.next HI.out (grown_alloc (grown_drew (grown_refl _ _)) _ |>.trans g5) h1 n1 n2 n3
   have R1:Hid (RdSt w1 rb s k'):=g4
   have Q1:Hid (k' ≤ s.size ∧ s.toList.drop k' = l):=⟨g2,g3⟩
   have S1:w.heap.size ≤ w1.heap.size:=by have:=g5.size;simp at this;omega
   have a6:w1.cell? (qa nb 4) = some (.slice A ns.length c):=I1.out.node.cell 4
   have Z1:Hid (Blk w1 w.heap.size 25 zero5.toArray):=Blk.grown (Blk.new w.drew 25 zero5.toArray) g5 (by have:=HST.out.lt;simp;omega)
   clear g1 g2 g3 g4 g5
   go_wp2_with fail
   refine hK.out _ _ ⟨I1.out.rbox.cell 0,I1.out.dbox.cell 0⟩ (fun hH9 => ?_)
   clear hK K hH
   have hH:=hH9
   clear hH9
   try simp only [Act.put,List.setIfInBounds_toArray,List.set_cons_zero,List.set_cons_succ]
   have I2:=I1
   have G2:=G1
   have R2:=R1
   have Z2:Hid (Reads w1 (w.heap.size + 1) 5 (some (qa w.heap.size 0)) 1 zero5):=zero_reads Z1.out
   refine wpAnyH_ready (rs:=[8]) (by kernel_rfl) (by simp) ?_
   refine AllReadyH.cons (o:=_) rfl (fun K hK => ?_) AllReadyH.nil
   refine step_pushNd rfl _ _ rfl h (.slice A ns.length c) ns.length ys (by first | rfl | simp [Act.eval]) I2.out.own (w.heap.size + 1) (some (qa w.heap.size 0)) 1 zero5 (by first | rfl | simp [Act.eval]) Z2.out (by intro u hu;simp [zero5] at hu;rcases hu with rfl | rfl | rfl | rfl <;> rfl) (by omega) I2.out.size (fun v' w3 p1 p2 p3 => ?_)
   obtain ⟨g,cp,rfl,hg1,hg2⟩:=World.ownsRow.form p1 (by omega)
   have P1:Hid (w3.ownsRow h 25 5 (.slice (some (qa g 0)) (ns.length + 1) cp) (ns.length + 1) (ys ++ [.int .i64 0,.int .i64 0,.string ⟨#[]⟩,.slice none 0 0,.slice none 0 0])):=p1
   have P2:=Lib.hid p2
   have P3:=Lib.hid p3
   have q1:Hid (Blk w3 nb 25 #[.int .i64 6,.int .i64 0,.string ⟨#[]⟩,.slice none 0 0,.slice A ns.length c]):=I2.out.node.grown p2 (fun e => by have:=(HO.out nb e.symm).1;omega)
   have q2:Hid (Blk w3 rB 75 #[.pointer (some (qa rb 0))]):=I2.out.rbox.grown p2 (fun e => by have:=(HO.out rB e.symm).1;omega)
   have q3:Hid (Blk w3 dB 3 #[.int .i64 deep]):=I2.out.dbox.grown p2 (fun e => by have:=(HO.out dB e.symm).1;omega)
   have z0:w3.cell? (qa g (ns.length * 5)) = some (.int .i64 0):=(World.ownsRow.cellAt P1.out _ (by omega)).trans (by rw [← hl5];simp [zero5])
   have z1:w3.cell? (qa g (ns.length * 5 + 1)) = some (.int .i64 0):=(World.ownsRow.cellAt P1.out _ (by omega)).trans (by rw [← hl5];simp [zero5])
   have z2:w3.cell? (qa g (ns.length * 5 + 2)) = some (.string ⟨#[]⟩):=(World.ownsRow.cellAt P1.out _ (by omega)).trans (by rw [← hl5];simp [zero5])
   have z3:w3.cell? (qa g (ns.length * 5 + 3)) = some (.slice none 0 0):=(World.ownsRow.cellAt P1.out _ (by omega)).trans (by rw [← hl5];simp [zero5])
   have z4:w3.cell? (qa g (ns.length * 5 + 4)) = some (.slice none 0 0):=(World.ownsRow.cellAt P1.out _ (by omega)).trans (by rw [← hl5];simp [zero5])
   have f0:=World.ownsRow.frozenAt P1.out (ns.length * 5)
   have f1:=World.ownsRow.frozenAt P1.out (ns.length * 5 + 1)
   have f2:=World.ownsRow.frozenAt P1.out (ns.length * 5 + 2)
   have f3:=World.ownsRow.frozenAt P1.out (ns.length * 5 + 3)
   have f4:=World.ownsRow.frozenAt P1.out (ns.length * 5 + 4)
   have y0:w3.cell? (qa nb 4) = some (.slice A ns.length c):=q1.out.cell 4
   have y1:=q1.out.frozen 4
   clear p1 p2 p3
   refine hK.out _ _ ⟨q2.out.cell 0,q3.out.cell 0⟩ (fun hH9 => ?_)
   clear hK K hH
   have hH:=hH9
   clear hH9
   try simp only [Act.put,List.setIfInBounds_toArray,List.set_cons_zero,List.set_cons_succ]
   refine wpAnyH_take (i:=9) (v:=.pointer (some (qa g (ns.length * 5)))) rfl (by kernel_rfl) (by kernel_rfl) (by kernel_rfl) (fun _ _ _ h => h) (Or.inl ⟨by rfl,fun w9 hS9 => ?_⟩) hH ?_
   ·obtain ⟨s0,s1⟩:=hS9
    go_simp
    intro hq
    exact absurd hq (by omega)
   try simp only [Act.put,List.setIfInBounds_toArray,List.set_cons_zero,List.set_cons_succ]
   refine wpAnyH_take (i:=11) (v:=.pointer (some (qa nb 4))) rfl (by kernel_rfl) (by kernel_rfl) (by kernel_rfl) (fun _ _ _ h => h) (Or.inl ⟨by rfl,fun w9 hS9 => ?_⟩) hH ?_
   ·obtain ⟨s0,s1⟩:=hS9
    go_simp
   try simp only [Act.put,List.setIfInBounds_toArray,List.set_cons_zero,List.set_cons_succ]
   refine wpAnyH_ready (rs:=[10,12]) (by kernel_rfl) (by simp) ?_
   refine AllReadyH.cons (o:=_) rfl (fun K hK => ?_) ?_
   ·go_simp
    have o4:=own_last (v0:=.int .i64 c0) (v1:=.int .i64 c1) (v2:=.string c2) (v3:=.slice c3 c4 c5) (v4:=.slice c6 c7 c8) P1.out hl5
    have q4:=q1.out.grown o4.2 (by simp;omega)
    have q5:=q2.out.grown o4.2 (by simp;omega)
    have q6:=q3.out.grown o4.2 (by simp;omega)
    refine hK.out _ _ ⟨q5.cell 0,q6.cell 0⟩ (fun hH9 => ?_)
    clear hK K hH
    have hH:=hH9
    clear hH9
    generalize (((((w3.setCell (qa g (ns.length * 5)) (.int .i64 c0)).setCell (qa g (ns.length * 5 + 1)) (.int .i64 c1)).setCell (qa g (ns.length * 5 + 2)) (.string c2)).setCell (qa g (ns.length * 5 + 3)) (.slice c3 c4 c5)).setCell (qa g (ns.length * 5 + 4)) (.slice c6 c7 c8)) = w4 at o4 q4 q5 q6 hH ⊢
    try simp only [Act.put,List.setIfInBounds_toArray,List.set_cons_zero,List.set_cons_succ]
    have y2:w4.cell? (qa nb 4) = some (.slice A ns.length c):=q4.cell 4
    have y3:=q4.frozen 4
    have O4:=Lib.hid o4
    have Q4:=Lib.hid q4
    have Q5:=Lib.hid q5
    have Q6:=Lib.hid q6
    clear o4 q4 q5 q6
    refine wpAnyH_ready (rs:=[12]) (by kernel_rfl) (by simp) ?_
    refine AllReadyH.cons (o:=_) rfl (fun K hK => ?_) AllReadyH.nil
    go_simp
    refine hK.out _ _ ⟨(Q5.out.far (by simp;omega) _).cell 0,(Q6.out.far (by simp;omega) _).cell 0⟩ (fun hH9 => ?_)
    clear hK K hH hH9
    refine wpAnyH_done (by kernel_rfl) ?_ _
    go_wp2_with fail
    have E5:=AInv.push I2.out (fun g hg => (HO.out g hg).2) hsz G2.out P2.out P3.out O4.out.2 (grown_set (grown_refl w4 (some nb)) 4 (.slice (some (qa g 0)) (ns.length + 1) cp)) (.inl rfl) (.inr rfl) hg1 (ownsRow_setCell_below O4.out.1 h2 _) (Q4.out.set_ 4 _) h0 h1 h2 h3 h4 n1 n4 n5
    exact ⟨rfl,.tuple #[],results_none rfl _ _ _,rfl,⟨_,_,_,E5.1⟩,k',Q1.out.1,Q1.out.2,(E5.2 rb h1 n1.symm).trans R2.out⟩
   refine AllReadyH.cons (o:=_) rfl (fun K hK => ?_) AllReadyH.nil
   go_simp
   have o4:=ownsRow_setCell_below P1.out (a:=(qa nb 4)) h2 (.slice (some (qa g 0)) (ns.length + 1) cp)
   have q4:=q1.out.set_ 4 (.slice (some (qa g 0)) (ns.length + 1) cp)
   have q5:=q2.out.far (p:=(qa nb 4)) (by simp;omega) (.slice (some (qa g 0)) (ns.length + 1) cp)
   have q6:=q3.out.far (p:=(qa nb 4)) (by simp;omega) (.slice (some (qa g 0)) (ns.length + 1) cp)
   have o5:=grown_set (grown_refl w3 (some nb)) 4 (.slice (some (qa g 0)) (ns.length + 1) cp)
   refine hK.out _ _ ⟨q5.cell 0,q6.cell 0⟩ (fun hH9 => ?_)
   clear hK K hH
   have hH:=hH9
   clear hH9
   generalize w3.setCell (qa nb 4) (.slice (some (qa g 0)) (ns.length + 1) cp) = w4 at o4 o5 q4 q5 q6 hH ⊢
   try simp only [Act.put,List.setIfInBounds_toArray,List.set_cons_zero,List.set_cons_succ]
   have O4:=Lib.hid o4
   have O5:=Lib.hid o5
   have Q4:=Lib.hid q4
   have Q5:=Lib.hid q5
   have Q6:=Lib.hid q6
   clear o4 o5 q4 q5 q6 z0 z1 z2 z3 z4 f0 f1 f2 f3 f4
   have z0:w4.cell? (qa g (ns.length * 5)) = some (.int .i64 0):=(World.ownsRow.cellAt O4.out _ (by omega)).trans (by rw [← hl5];simp [zero5])
   have z1:w4.cell? (qa g (ns.length * 5 + 1)) = some (.int .i64 0):=(World.ownsRow.cellAt O4.out _ (by omega)).trans (by rw [← hl5];simp [zero5])
   have z2:w4.cell? (qa g (ns.length * 5 + 2)) = some (.string ⟨#[]⟩):=(World.ownsRow.cellAt O4.out _ (by omega)).trans (by rw [← hl5];simp [zero5])
   have z3:w4.cell? (qa g (ns.length * 5 + 3)) = some (.slice none 0 0):=(World.ownsRow.cellAt O4.out _ (by omega)).trans (by rw [← hl5];simp [zero5])
   have z4:w4.cell? (qa g (ns.length * 5 + 4)) = some (.slice none 0 0):=(World.ownsRow.cellAt O4.out _ (by omega)).trans (by rw [← hl5];simp [zero5])
   have f0:=World.ownsRow.frozenAt O4.out (ns.length * 5)
   have f1:=World.ownsRow.frozenAt O4.out (ns.length * 5 + 1)
   have f2:=World.ownsRow.frozenAt O4.out (ns.length * 5 + 2)
   have f3:=World.ownsRow.frozenAt O4.out (ns.length * 5 + 3)
   have f4:=World.ownsRow.frozenAt O4.out (ns.length * 5 + 4)
   refine wpAnyH_ready (rs:=[10]) (by kernel_rfl) (by simp) ?_
   refine AllReadyH.cons (o:=_) rfl (fun K hK => ?_) AllReadyH.nil
   go_simp
   have o6:=own_last (v0:=.int .i64 c0) (v1:=.int .i64 c1) (v2:=.string c2) (v3:=.slice c3 c4 c5) (v4:=.slice c6 c7 c8) O4.out hl5
   refine hK.out _ _ ⟨(Q5.out.grown o6.2 (by simp;omega)).cell 0,(Q6.out.grown o6.2 (by simp;omega)).cell 0⟩ (fun hH9 => ?_)
   clear hK K hH hH9
   refine wpAnyH_done (by kernel_rfl) ?_ _
   have E5:=Lib.hid (AInv.push I2.out (fun g hg => (HO.out g hg).2) hsz G2.out P2.out P3.out O5.out o6.2 (.inr rfl) (.inl rfl) hg1 o6.1 (Q4.out.grown o6.2 (by simp;omega)) h0 h1 h2 h3 h4 n1 n4 n5)
   clear o6
   go_wp2_with fail
   exact ⟨rfl,.tuple #[],results_none rfl _ _ _,rfl,⟨_,_,_,E5.out.1⟩,k',Q1.out.1,Q1.out.2,(E5.out.2 rb h1 n1.symm).trans R2.out⟩
  refine AllReadyH.cons (o:=_) rfl (fun K hK => ?_) AllReadyH.nil
  go_simp
  go_at_call 46
  refine (HF.out _ (HST.out.drew.alloc _)).mono ?_
  rintro e w1 ⟨c0,c1,c2,c3,c4,c5,c6,c7,c8,rfl,g1,k',g2,g3,g4,g5⟩
  have G1:Hid (Got w.heap.size w1 n (nL c0 c1 c2 c3 c4 c5 c6 c7 c8)):=NdIn.keep (fun _ _ => rfl) (fun b hb => ⟨by have:=hb.1;simp at this;omega,hb.2⟩) _ _ g1
  have I1:Hid (AInv w0 nb rB dB rb h deep ns w1 A c ys):=AInv.next HI.out (grown_alloc (grown_drew (grown_refl _ _)) _ |>.trans g5) h1 n1 n2 n3
  have R1:Hid (RdSt w1 rb s k'):=g4
  have Q1:Hid (k' ≤ s.size ∧ s.toList.drop k' = l):=⟨g2,g3⟩
  have S1:w.heap.size ≤ w1.heap.size:=by have:=g5.size;simp at this;omega
  have a6:w1.cell? (qa nb 4) = some (.slice A ns.length c):=I1.out.node.cell 4
  have Z1:Hid (Blk w1 w.heap.size 25 zero5.toArray):=Blk.grown (Blk.new w.drew 25 zero5.toArray) g5 (by have:=HST.out.lt;simp;omega)
  clear g1 g2 g3 g4 g5
  go_wp2_with fail
  refine hK.out _ _ ⟨I1.out.rbox.cell 0,I1.out.dbox.cell 0⟩ (fun hH9 => ?_)
  clear hK K hH
  have hH:=hH9
  clear hH9
  try simp only [Act.put,List.setIfInBounds_toArray,List.set_cons_zero,List.set_cons_succ]
  refine wpAnyH_ready (rs:=[1]) (by kernel_rfl) (by simp) ?_
  refine AllReadyH.cons (o:=_) rfl (fun K hK => ?_) AllReadyH.nil
  go_simp
  refine hK.out _ _ hH (fun hH9 => ?_)
  clear hK K hH
  have hH:=hH9
  clear hH9
  try simp only [Act.put,List.setIfInBounds_toArray,List.set_cons_zero,List.set_cons_succ]
  refine wpAnyH_take (i:=6) (v:=.int .i64 ns.length) rfl (by kernel_rfl) (by kernel_rfl) (by kernel_rfl) (fun _ _ _ h => h) (Or.inl ⟨by rfl,fun w9 hS9 => ?_⟩) hH ?_
  ·obtain ⟨s0,s1⟩:=hS9
   go_simp
  try simp only [Act.put,List.setIfInBounds_toArray,List.set_cons_zero,List.set_cons_succ]
  have I2:=I1
  have G2:=G1
  have R2:=R1
  have Z2:Hid (Reads w1 (w.heap.size + 1) 5 (some (qa w.heap.size 0)) 1 zero5):=zero_reads Z1.out
  refine wpAnyH_ready (rs:=[8]) (by kernel_rfl) (by simp) ?_
  refine AllReadyH.cons (o:=_) rfl (fun K hK => ?_) AllReadyH.nil
  refine step_pushNd rfl _ _ rfl h (.slice A ns.length c) ns.length ys (by first | rfl | simp [Act.eval]) I2.out.own (w.heap.size + 1) (some (qa w.heap.size 0)) 1 zero5 (by first | rfl | simp [Act.eval]) Z2.out (by intro u hu;simp [zero5] at hu;rcases hu with rfl | rfl | rfl | rfl <;> rfl) (by omega) I2.out.size (fun v' w3 p1 p2 p3 => ?_)
  obtain ⟨g,cp,rfl,hg1,hg2⟩:=World.ownsRow.form p1 (by omega)
  have P1:Hid (w3.ownsRow h 25 5 (.slice (some (qa g 0)) (ns.length + 1) cp) (ns.length + 1) (ys ++ [.int .i64 0,.int .i64 0,.string ⟨#[]⟩,.slice none 0 0,.slice none 0 0])):=p1
  have P2:=Lib.hid p2
  have P3:=Lib.hid p3
  have q1:Hid (Blk w3 nb 25 #[.int .i64 6,.int .i64 0,.string ⟨#[]⟩,.slice none 0 0,.slice A ns.length c]):=I2.out.node.grown p2 (fun e => by have:=(HO.out nb e.symm).1;omega)
  have q2:Hid (Blk w3 rB 75 #[.pointer (some (qa rb 0))]):=I2.out.rbox.grown p2 (fun e => by have:=(HO.out rB e.symm).1;omega)
  have q3:Hid (Blk w3 dB 3 #[.int .i64 deep]):=I2.out.dbox.grown p2 (fun e => by have:=(HO.out dB e.symm).1;omega)
  have z0:w3.cell? (qa g (ns.length * 5)) = some (.int .i64 0):=(World.ownsRow.cellAt P1.out _ (by omega)).trans (by rw [← hl5];simp [zero5])
  have z1:w3.cell? (qa g (ns.length * 5 + 1)) = some (.int .i64 0):=(World.ownsRow.cellAt P1.out _ (by omega)).trans (by rw [← hl5];simp [zero5])
  have z2:w3.cell? (qa g (ns.length * 5 + 2)) = some (.string ⟨#[]⟩):=(World.ownsRow.cellAt P1.out _ (by omega)).trans (by rw [← hl5];simp [zero5])
  have z3:w3.cell? (qa g (ns.length * 5 + 3)) = some (.slice none 0 0):=(World.ownsRow.cellAt P1.out _ (by omega)).trans (by rw [← hl5];simp [zero5])
  have z4:w3.cell? (qa g (ns.length * 5 + 4)) = some (.slice none 0 0):=(World.ownsRow.cellAt P1.out _ (by omega)).trans (by rw [← hl5];simp [zero5])
  have f0:=World.ownsRow.frozenAt P1.out (ns.length * 5)
  have f1:=World.ownsRow.frozenAt P1.out (ns.length * 5 + 1)
  have f2:=World.ownsRow.frozenAt P1.out (ns.length * 5 + 2)
  have f3:=World.ownsRow.frozenAt P1.out (ns.length * 5 + 3)
  have f4:=World.ownsRow.frozenAt P1.out (ns.length * 5 + 4)
  have y0:w3.cell? (qa nb 4) = some (.slice A ns.length c):=q1.out.cell 4
  have y1:=q1.out.frozen 4
  clear p1 p2 p3
  refine hK.out _ _ ⟨q2.out.cell 0,q3.out.cell 0⟩ (fun hH9 => ?_)
  clear hK K hH
  have hH:=hH9
  clear hH9
  try simp only [Act.put,List.setIfInBounds_toArray,List.set_cons_zero,List.set_cons_succ]
  refine wpAnyH_take (i:=9) (v:=.pointer (some (qa g (ns.length * 5)))) rfl (by kernel_rfl) (by kernel_rfl) (by kernel_rfl) (fun _ _ _ h => h) (Or.inl ⟨by rfl,fun w9 hS9 => ?_⟩) hH ?_
  ·obtain ⟨s0,s1⟩:=hS9
   go_simp
   intro hq
   exact absurd hq (by omega)
  try simp only [Act.put,List.setIfInBounds_toArray,List.set_cons_zero,List.set_cons_succ]
  refine wpAnyH_take (i:=11) (v:=.pointer (some (qa nb 4))) rfl (by kernel_rfl) (by kernel_rfl) (by kernel_rfl) (fun _ _ _ h => h) (Or.inl ⟨by rfl,fun w9 hS9 => ?_⟩) hH ?_
  ·obtain ⟨s0,s1⟩:=hS9
   go_simp
  try simp only [Act.put,List.setIfInBounds_toArray,List.set_cons_zero,List.set_cons_succ]
  refine wpAnyH_ready (rs:=[10,12]) (by kernel_rfl) (by simp) ?_
  refine AllReadyH.cons (o:=_) rfl (fun K hK => ?_) ?_
  ·go_simp
   have o4:=own_last (v0:=.int .i64 c0) (v1:=.int .i64 c1) (v2:=.string c2) (v3:=.slice c3 c4 c5) (v4:=.slice c6 c7 c8) P1.out hl5
   have q4:=q1.out.grown o4.2 (by simp;omega)
   have q5:=q2.out.grown o4.2 (by simp;omega)
   have q6:=q3.out.grown o4.2 (by simp;omega)
   refine hK.out _ _ ⟨q5.cell 0,q6.cell 0⟩ (fun hH9 => ?_)
   clear hK K hH
   have hH:=hH9
   clear hH9
   generalize (((((w3.setCell (qa g (ns.length * 5)) (.int .i64 c0)).setCell (qa g (ns.length * 5 + 1)) (.int .i64 c1)).setCell (qa g (ns.length * 5 + 2)) (.string c2)).setCell (qa g (ns.length * 5 + 3)) (.slice c3 c4 c5)).setCell (qa g (ns.length * 5 + 4)) (.slice c6 c7 c8)) = w4 at o4 q4 q5 q6 hH ⊢
   try simp only [Act.put,List.setIfInBounds_toArray,List.set_cons_zero,List.set_cons_succ]
   have y2:w4.cell? (qa nb 4) = some (.slice A ns.length c):=q4.cell 4
   have y3:=q4.frozen 4
   have O4:=Lib.hid o4
   have Q4:=Lib.hid q4
   have Q5:=Lib.hid q5
   have Q6:=Lib.hid q6
   clear o4 q4 q5 q6
   refine wpAnyH_ready (rs:=[12]) (by kernel_rfl) (by simp) ?_
   refine AllReadyH.cons (o:=_) rfl (fun K hK => ?_) AllReadyH.nil
   go_simp
   refine hK.out _ _ ⟨(Q5.out.far (by simp;omega) _).cell 0,(Q6.out.far (by simp;omega) _).cell 0⟩ (fun hH9 => ?_)
   clear hK K hH hH9
   refine wpAnyH_done (by kernel_rfl) ?_ _
   go_wp2_with fail
   have E5:=AInv.push I2.out (fun g hg => (HO.out g hg).2) hsz G2.out P2.out P3.out O4.out.2 (grown_set (grown_refl w4 (some nb)) 4 (.slice (some (qa g 0)) (ns.length + 1) cp)) (.inl rfl) (.inr rfl) hg1 (ownsRow_setCell_below O4.out.1 h2 _) (Q4.out.set_ 4 _) h0 h1 h2 h3 h4 n1 n4 n5
   exact ⟨rfl,.tuple #[],results_none rfl _ _ _,rfl,⟨_,_,_,E5.1⟩,k',Q1.out.1,Q1.out.2,(E5.2 rb h1 n1.symm).trans R2.out⟩
  refine AllReadyH.cons (o:=_) rfl (fun K hK => ?_) AllReadyH.nil
  go_simp
  have o4:=ownsRow_setCell_below P1.out (a:=(qa nb 4)) h2 (.slice (some (qa g 0)) (ns.length + 1) cp)
  have q4:=q1.out.set_ 4 (.slice (some (qa g 0)) (ns.length + 1) cp)
  have q5:=q2.out.far (p:=(qa nb 4)) (by simp;omega) (.slice (some (qa g 0)) (ns.length + 1) cp)
  have q6:=q3.out.far (p:=(qa nb 4)) (by simp;omega) (.slice (some (qa g 0)) (ns.length + 1) cp)
  have o5:=grown_set (grown_refl w3 (some nb)) 4 (.slice (some (qa g 0)) (ns.length + 1) cp)
  refine hK.out _ _ ⟨q5.cell 0,q6.cell 0⟩ (fun hH9 => ?_)
  clear hK K hH
  have hH:=hH9
  clear hH9
  generalize w3.setCell (qa nb 4) (.slice (some (qa g 0)) (ns.length + 1) cp) = w4 at o4 o5 q4 q5 q6 hH ⊢
  try simp only [Act.put,List.setIfInBounds_toArray,List.set_cons_zero,List.set_cons_succ]
  have O4:=Lib.hid o4
  have O5:=Lib.hid o5
  have Q4:=Lib.hid q4
  have Q5:=Lib.hid q5
  have Q6:=Lib.hid q6
  clear o4 o5 q4 q5 q6 z0 z1 z2 z3 z4 f0 f1 f2 f3 f4
  have z0:w4.cell? (qa g (ns.length * 5)) = some (.int .i64 0):=(World.ownsRow.cellAt O4.out _ (by omega)).trans (by rw [← hl5];simp [zero5])
  have z1:w4.cell? (qa g (ns.length * 5 + 1)) = some (.int .i64 0):=(World.ownsRow.cellAt O4.out _ (by omega)).trans (by rw [← hl5];simp [zero5])
  have z2:w4.cell? (qa g (ns.length * 5 + 2)) = some (.string ⟨#[]⟩):=(World.ownsRow.cellAt O4.out _ (by omega)).trans (by rw [← hl5];simp [zero5])
  have z3:w4.cell? (qa g (ns.length * 5 + 3)) = some (.slice none 0 0):=(World.ownsRow.cellAt O4.out _ (by omega)).trans (by rw [← hl5];simp [zero5])
  have z4:w4.cell? (qa g (ns.length * 5 + 4)) = some (.slice none 0 0):=(World.ownsRow.cellAt O4.out _ (by omega)).trans (by rw [← hl5];simp [zero5])
  have f0:=World.ownsRow.frozenAt O4.out (ns.length * 5)
  have f1:=World.ownsRow.frozenAt O4.out (ns.length * 5 + 1)
  have f2:=World.ownsRow.frozenAt O4.out (ns.length * 5 + 2)
  have f3:=World.ownsRow.frozenAt O4.out (ns.length * 5 + 3)
  have f4:=World.ownsRow.frozenAt O4.out (ns.length * 5 + 4)
  refine wpAnyH_ready (rs:=[10]) (by kernel_rfl) (by simp) ?_
  refine AllReadyH.cons (o:=_) rfl (fun K hK => ?_) AllReadyH.nil
  go_simp
  have o6:=own_last (v0:=.int .i64 c0) (v1:=.int .i64 c1) (v2:=.string c2) (v3:=.slice c3 c4 c5) (v4:=.slice c6 c7 c8) O4.out hl5
  refine hK.out _ _ ⟨(Q5.out.grown o6.2 (by simp;omega)).cell 0,(Q6.out.grown o6.2 (by simp;omega)).cell 0⟩ (fun hH9 => ?_)
  clear hK K hH hH9
  refine wpAnyH_done (by kernel_rfl) ?_ _
  have E5:=Lib.hid (AInv.push I2.out (fun g hg => (HO.out g hg).2) hsz G2.out P2.out P3.out O5.out o6.2 (.inr rfl) (.inl rfl) hg1 o6.1 (Q4.out.grown o6.2 (by simp;omega)) h0 h1 h2 h3 h4 n1 n4 n5)
  clear o6
  go_wp2_with fail
  exact ⟨rfl,.tuple #[],results_none rfl _ _ _,rfl,⟨_,_,_,E5.out.1⟩,k',Q1.out.1,Q1.out.2,(E5.out.2 rb h1 n1.symm).trans R2.out⟩
  --@ok ends
theorem own_apart {w:World} {B1 B2 s1 s2 n1 n2:Nat} {e1 e2:TypeId} {v1 v2:Value} {x1 x2:List Value} (h1:w.ownsRow B1 e1 s1 v1 n1 x1) (h2:w.ownsRow B2 e2 s2 v2 n2 x2) (hne:e1 ≠ e2) {g:Nat} (k1:v1.ownBlock = some g):v2.ownBlock ≠ some g:=by
 intro k2
 rcases h1.2 with ⟨rfl,_⟩ | ⟨g1,cap1,cur1,rfl,_,hg1,_⟩
 ·simp [Value.ownBlock] at k1
 rcases h2.2 with ⟨rfl,_⟩ | ⟨g2,cap2,cur2,rfl,_,hg2,_⟩
 ·simp [Value.ownBlock] at k2
 simp only [Value.ownBlock,Option.some.injEq] at k1 k2
 subst k1
 subst k2
 rw [hg1] at hg2
 injection hg2 with e
 injection e with _ e2 _
 exact hne e2
theorem own_moved {w w':World} {B s n:Nat} {e:TypeId} {v:Value} {xs:List Value} (h:w.ownsRow B e s v n xs) (hb:∀ g,v.ownBlock = some g → w'.heap[g]? = w.heap[g]?) (hs:w.heap.size ≤ w'.heap.size):w'.ownsRow B e s v n xs:=by
 refine ⟨h.1,?_⟩
 rcases h.2 with h0 | ⟨g1,cap1,cur1,rfl,k1,hg1,k2⟩
 ·exact .inl h0
 ·exact .inr ⟨g1,cap1,cur1,rfl,k1,(hb g1 rfl).trans hg1,k2⟩
structure OInv (w0:World) (nb rB dB rb h:Nat) (deep:Int) (ks:List ByteArray) (ns:List Nd) (w:World) (K:Option Addr) (kc:Nat) (A:Option Addr) (c:Nat) (ys:List Value):Prop where
 node:Blk w nb 25 #[.int .i64 7,.int .i64 0,.string ⟨#[]⟩,.slice K ks.length kc,.slice A ns.length c]
 keys:w.ownsRow h 9 1 (.slice K ks.length kc) ks.length (ks.map Value.string)
 own:w.ownsRow h 25 5 (.slice A ns.length c) ns.length ys
 kids:NdsIn w (fun b => SK h w (.slice A ns.length c) b ∧ (Value.slice K ks.length kc).ownBlock ≠ some b) ns ys
 rbox:Blk w rB 75 #[.pointer (some (qa rb 0))]
 dbox:Blk w dB 3 #[.int .i64 deep]
 grow:w0.grownBy w (some rb)
 size:h ≤ w.heap.size
def OIs (w0:World) (nb rB dB rb h:Nat) (deep:Int) (ks:List ByteArray) (ns:List Nd) (w:World):Prop:=∃ K kc A c ys,OInv w0 nb rB dB rb h deep ks ns w K kc A c ys
theorem OInv.next {w0:World} {nb rB dB rb h:Nat} {deep:Int} {ks:List ByteArray} {ns:List Nd} {w w':World} {K:Option Addr} {kc:Nat} {A:Option Addr} {c:Nat} {ys:List Value} (hI:OInv w0 nb rB dB rb h deep ks ns w K kc A c ys) (hg:w.grownBy w' (some rb)) (h1:rb < h) (h2:nb ≠ rb) (h3:rB ≠ rb) (h4:dB ≠ rb):OInv w0 nb rB dB rb h deep ks ns w' K kc A c ys:=by
 have ho:∀ g,(Value.slice A ns.length c).ownBlock = some g → h ≤ g ∧ g < w.heap.size:=fun g hg => own_lt hI.own hg
 have hk:∀ g,(Value.slice K ks.length kc).ownBlock = some g → h ≤ g ∧ g < w.heap.size:=fun g hg => own_lt hI.keys hg
 refine ⟨hI.node.grown hg (by intro e;injection e with e;exact h2 e),World.ownsRow.kept hI.keys hg (Or.inr (fun e => by have:=(hk rb e).1;omega)),World.ownsRow.kept hI.own hg (Or.inr (fun e => by have:=(ho rb e).1;omega)),?_,hI.rbox.grown hg (by intro e;injection e with e;exact h3 e),hI.dbox.grown hg (by intro e;injection e with e;exact h4 e),hI.grow.trans hg,Nat.le_trans hI.size hg.size⟩
 exact NdsIn.keep (fun p hp => World.cell?_of_block (hg.block p.block hp.1.2.1 (fun e => by injection e with e;have:=hp.1.1;omega))) (fun b hb => ⟨⟨hb.1.1,Nat.lt_of_lt_of_le hb.1.2.1 hg.size,hb.1.2.2⟩,hb.2⟩) _ _ hI.kids
theorem OInv.push {w0:World} {nb rB dB rb h:Nat} {deep:Int} {ks:List ByteArray} {ns:List Nd} {w2 w3 w4 w5:World} {K:Option Addr} {kc:Nat} {A:Option Addr} {c:Nat} {ys:List Value} (hI:OInv w0 nb rB dB rb h deep ks ns w2 K kc A c ys)
  {n:Nd} {cs:List Value} {W:Nat} (hW:∀ g,(Value.slice A ns.length c).ownBlock = some g → g < W) (hWk:∀ g,(Value.slice K ks.length kc).ownBlock = some g → g < W) (hWh:h ≤ W) (hN:Got W w2 n cs)
  {g c3:Nat} (p2:w2.grownBy w3 (Value.slice A ns.length c).ownBlock) (p3:(Value.slice (some (qa g 0)) (ns.length + 1) c3).ownBlock = (Value.slice A ns.length c).ownBlock ∨ ∃ g1,(Value.slice (some (qa g 0)) (ns.length + 1) c3).ownBlock = some g1 ∧ w2.heap.size ≤ g1)
  {x y:Nat} (h34:w3.grownBy w4 (some x)) (h45:w4.grownBy w5 (some y)) (hx:x = g ∨ x = nb) (hy:y = g ∨ y = nb)
  (hgh:h ≤ g) (hown:w5.ownsRow h 25 5 (.slice (some (qa g 0)) (ns.length + 1) c3) (ns.length + 1) (ys ++ cs))
  (hnode:Blk w5 nb 25 #[.int .i64 7,.int .i64 0,.string ⟨#[]⟩,.slice K ks.length kc,.slice (some (qa g 0)) (ns.length + 1) c3])
  (h0:w0.heap.size ≤ nb) (h1:rb < h) (h2:nb < h) (h3:rB < h) (h4:dB < h) (n1:nb ≠ rb) (n4:nb ≠ rB) (n5:nb ≠ dB) :
  OInv w0 nb rB dB rb h deep ks (ns ++ [n]) w5 K kc (some (qa g 0)) c3 (ys ++ cs) ∧ ∀ b,b < h → b ≠ nb → w5.heap[b]? = w2.heap[b]?:=by
 have p3:some g = (Value.slice A ns.length c).ownBlock ∨ w2.heap.size ≤ g:=by
  rcases p3 with e | ⟨g1,e,hge⟩
  ·exact .inl e
  ·simp only [Value.ownBlock] at e;injection e with e;subst e;exact .inr hge
 have ho:∀ g,(Value.slice A ns.length c).ownBlock = some g → h ≤ g ∧ g < w2.heap.size:=fun g hg => own_lt hI.own hg
 have hk:∀ g,(Value.slice K ks.length kc).ownBlock = some g → h ≤ g ∧ g < w2.heap.size:=fun g hg => own_lt hI.keys hg
 have s2:=hI.size
 have s3:=p2.size
 have s4:=h34.size
 have s5:=h45.size
 have hb:∀ b,b < w2.heap.size → b ≠ nb → (Value.slice A ns.length c).ownBlock ≠ some b → w5.heap[b]? = w2.heap[b]?:=fun b hb1 hb2 hb3 => by
  have hbg:b ≠ g:=by
   rcases p3 with e | e
   ·intro he;subst he;exact hb3 e.symm
   ·omega
  exact (h45.block b (by omega) (by intro e;injection e with e;rcases hy with e2 | e2 <;> omega)).trans ((h34.block b (by omega) (by intro e;injection e with e;rcases hx with e2 | e2 <;> omega)).trans (p2.block b hb1 (fun e => hb3 e.symm)))
 have hlow:∀ b,b < h → b ≠ nb → w5.heap[b]? = w2.heap[b]?:=fun b b1 b2 => hb b (by omega) b2 (fun e => by have:=(ho b e).1;omega)
 refine ⟨⟨?_,?_,?_,?_,?_,?_,?_,by omega⟩,hlow⟩
 ·simpa using hnode
 ·refine own_moved hI.keys (fun b e => hb b (hk b e).2 (by have:=(hk b e).1;omega) (own_apart hI.keys hI.own (by decide) e)) (by omega)
 ·simpa using hown
 ·have k1:NdsIn w2 (fun b => SK h w2 (.slice A ns.length c) b ∧ (Value.slice K ks.length kc).ownBlock ≠ some b) (ns ++ [n]) (ys ++ cs):=NdsIn.app _ _ _ _ hI.kids (NdIn.keep (fun _ _ => rfl) (fun b hb1 => ⟨⟨by omega,hb1.2,fun e => by have:=hW b e;omega⟩,fun e => by have:=hWk b e;omega⟩) _ _ hN)
  refine NdsIn.keep (fun p hp => World.cell?_of_block (hb p.block hp.1.2.1 (by have:=hp.1.1;omega) hp.1.2.2)) (fun b hp => ⟨⟨hp.1.1,by have:=hp.1.2.1;omega,?_⟩,hp.2⟩) _ _ k1
  intro e
  have e2:g = b:=by simpa [Value.ownBlock] using e
  subst e2
  rcases p3 with e | e
  ·exact hp.1.2.2 e.symm
  ·have:=hp.1.2.1;omega
 ·exact (hlow rB h3 (fun e => n4 e.symm)).trans hI.rbox
 ·exact (hlow dB h4 (fun e => n5 e.symm)).trans hI.dbox
 ·refine ⟨?_,?_,?_,?_,?_⟩
  ·exact h45.os.trans (h34.os.trans (p2.os.trans hI.grow.os))
  ·exact h45.tape.trans (h34.tape.trans (p2.tape.trans hI.grow.tape))
  ·exact h45.output.trans (h34.output.trans (p2.output.trans hI.grow.output))
  ·have:=hI.grow.size;omega
  ·intro b hb1 hb2
   have:=hI.grow.size
   exact (hb b (by omega) (by omega) (fun e => by have:=(ho b e).1;omega)).trans (hI.grow.block b hb1 hb2)
theorem OInv.key {w0:World} {nb rB dB rb h:Nat} {deep:Int} {ks:List ByteArray} {ns:List Nd} {w w2 w3:World} {K:Option Addr} {kc:Nat} {A:Option Addr} {c:Nat} {ys:List Value} (hI:OInv w0 nb rB dB rb h deep ks ns w K kc A c ys) (hb2:w.grownBy w2 none)
  {t:ByteArray} {g c3:Nat} (hown:w3.ownsRow h 9 1 (.slice (some (qa g 0)) (ks.length + 1) c3) (ks.length + 1) (ks.map Value.string ++ [.string t])) (hgh:h ≤ g)
  (p2:w2.grownBy w3 (Value.slice K ks.length kc).ownBlock) (p3:(Value.slice (some (qa g 0)) (ks.length + 1) c3).ownBlock = (Value.slice K ks.length kc).ownBlock ∨ ∃ g1,(Value.slice (some (qa g 0)) (ks.length + 1) c3).ownBlock = some g1 ∧ w2.heap.size ≤ g1)
  (h0:w0.heap.size ≤ nb) (h1:rb < h) (h2:nb < h) (h3:rB < h) (h4:dB < h) (n1:nb ≠ rb) (n4:nb ≠ rB) (n5:nb ≠ dB) :
  OInv w0 nb rB dB rb h deep (ks ++ [t]) ns (w3.setCell (qa nb 3) (.slice (some (qa g 0)) (ks.length + 1) c3)) (some (qa g 0)) c3 A c ys ∧ ∀ b,b < h → b ≠ nb → (w3.setCell (qa nb 3) (.slice (some (qa g 0)) (ks.length + 1) c3)).heap[b]? = w.heap[b]?:=by
 have p3:some g = (Value.slice K ks.length kc).ownBlock ∨ w2.heap.size ≤ g:=by
  rcases p3 with e | ⟨g1,e,hge⟩
  ·exact .inl e
  ·simp only [Value.ownBlock] at e;injection e with e;subst e;exact .inr hge
 have ho:∀ g,(Value.slice A ns.length c).ownBlock = some g → h ≤ g ∧ g < w.heap.size:=fun g hg => own_lt hI.own hg
 have hk:∀ g,(Value.slice K ks.length kc).ownBlock = some g → h ≤ g ∧ g < w.heap.size:=fun g hg => own_lt hI.keys hg
 have s2:=hI.size
 have s3:=p2.size
 have s4:=hb2.size
 generalize hw4:w3.setCell (qa nb 3) (.slice (some (qa g 0)) (ks.length + 1) c3) = w4
 have hs:w4.heap.size = w3.heap.size:=by rw [← hw4];simp
 have h34:∀ b,b ≠ nb → w4.heap[b]? = w3.heap[b]?:=fun b hb => by rw [← hw4];exact Below.heap_setCell _ _ _ _ hb
 have hb:∀ b,b < w.heap.size → b ≠ nb → (Value.slice K ks.length kc).ownBlock ≠ some b → w4.heap[b]? = w.heap[b]?:=fun b hb1 hb2' hb3 =>
  (h34 b hb2').trans ((p2.block b (by omega) (fun e => hb3 e.symm)).trans (hb2.block b hb1 (by simp)))
 have hlow:∀ b,b < h → b ≠ nb → w4.heap[b]? = w.heap[b]?:=fun b b1 b2 => hb b (by omega) b2 (fun e => by have:=(hk b e).1;omega)
 have hn3:Blk w3 nb 25 #[.int .i64 7,.int .i64 0,.string ⟨#[]⟩,.slice K ks.length kc,.slice A ns.length c]:=(hI.node.grown hb2 (by simp)).grown p2 (fun e => by have:=(hk nb e.symm).1;omega)
 refine ⟨⟨?_,?_,?_,?_,?_,?_,?_,by omega⟩,hlow⟩
 ·have:=hn3.set_ 3 (.slice (some (qa g 0)) (ks.length + 1) c3)
  rw [hw4] at this
  simpa using this
 ·have:=ownsRow_setCell_below hown (a:=(qa nb 3)) h2 (.slice (some (qa g 0)) (ks.length + 1) c3)
  rw [hw4] at this
  simpa using this
 ·exact own_moved hI.own (fun b e => hb b (ho b e).2 (by have:=(ho b e).1;omega) (own_apart hI.own hI.keys (by decide) e)) (by omega)
 ·refine NdsIn.keep (fun p hp => World.cell?_of_block (hb p.block hp.1.2.1 (by have:=hp.1.1;omega) hp.2)) (fun b hp => ⟨⟨hp.1.1,by have:=hp.1.2.1;omega,hp.1.2.2⟩,?_⟩) _ _ hI.kids
  intro e
  have e2:g = b:=by simpa [Value.ownBlock] using e
  subst e2
  rcases p3 with e | e
  ·exact hp.2 e.symm
  ·have:=hp.1.2.1;omega
 ·exact (hlow rB h3 (fun e => n4 e.symm)).trans hI.rbox
 ·exact (hlow dB h4 (fun e => n5 e.symm)).trans hI.dbox
 ·refine ⟨?_,?_,?_,?_,?_⟩
  ·rw [← hw4];exact p2.os.trans (hb2.os.trans hI.grow.os)
  ·rw [← hw4];exact p2.tape.trans (hb2.tape.trans hI.grow.tape)
  ·rw [← hw4];exact p2.output.trans (hb2.output.trans hI.grow.output)
  ·have:=hI.grow.size;omega
  ·intro b hb1 hb2
   have:=hI.grow.size
   exact (hb b (by omega) (by omega) (fun e => by have:=(hk b e).1;omega)).trans (hI.grow.block b hb1 hb2)
theorem contains_any (ks:List ByteArray) (x:ByteArray) (A:Option Addr) (ck B:Nat) (w:World) (hks:Reads w B 1 A ks.length (ks.map Value.string)) (hl:ks.length ≤ 9223372036854775807) :
  Calls Tryd.prog 24 #[.slice A ks.length ck,.string x] w fun e w' => e = .returned (.bool (decide (0 ≤ idxI ks x))) ∧ w = w':=by
 have HC:=Lib.hid (sIndex_any ks x A ck B w hks hl)
 clear hks
 go_enter Tryd.func24,Tryd.ntmps24
 go_wp2_with (first | (go_at_call 35;refine HC.out.mono ?_;rintro e w1 ⟨rfl,rfl⟩))
 refine bodyPost_ret (v:=.bool (decide (0 ≤ idxI ks x))) (by simp [results,Tryd.results24,go_sem]) rfl ⟨rfl,rfl⟩
end Go.Proofs.YthbjehbpanhdoaaDoor
