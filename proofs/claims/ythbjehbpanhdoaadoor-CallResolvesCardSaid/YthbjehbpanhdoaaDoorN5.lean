/- Texts of one seat,one behind the other: Jnum0,Jnum,Junit,Jpoint,Jesc,Jtext,Rp0,Rp1,Rp3,Rp4,Rp2,Rp2a,Rp2b,Rp2c,Rp2d,Jman0,Pj1,Pj2,Pj3,Pj4. No condition. -/
import Derived.Test.YthbjehbpanhdoaaDoorN4
import Derived.BigQuiet
import Derived.Deep.QuietTactic
import Derived.Deep.DeepCutAuto
import Derived.Deep.RegionLaw
import Derived.Deep.RegionHeld3
namespace Go.Proofs.YthbjehbpanhdoaaDoor
open Go.RowKit Go.PlainAid
set_option linter.unusedVariables false
set_option linter.unusedSimpArgs false
def AllDig (ds:List UInt8):Prop:=∀ c ∈ ds,digB c = true
theorem digB_bd {c:UInt8} (h:digB c = true):48 ≤ c.toNat ∧ c.toNat ≤ 57:=by unfold digB at h;exact of_decide_eq_true h
theorem valD_app (n:Int) (a b:List UInt8):valD n (a ++ b) = valD (valD n a) b:=by unfold valD;rw [List.foldl_append]
theorem valD_snoc (n:Int) (a:List UInt8) (c:UInt8):valD n (a ++ [c]) = valD n a * 10 + ((c.toNat:Int) - 48):=by rw [valD_app];rfl
theorem valD_cons (n:Int) (c:UInt8) (a:List UInt8):valD n (c :: a) = valD (n * 10 + ((c.toNat:Int) - 48)) a:=rfl
theorem valD_ge:∀ (a:List UInt8) (n:Int),0 ≤ n → AllDig a → n ≤ valD n a
 | [],n,h,_ => by unfold valD;simp
 | c :: a,n,h,hd => by
  have h1:=digB_bd (hd c (by simp))
  have h2:=valD_ge a (n * 10 + ((c.toNat:Int) - 48)) (by omega) (fun x hx => hd x (by simp [hx]))
  rw [valD_cons]
  omega
theorem AllDig.snoc {a:List UInt8} {c:UInt8} (h:AllDig a) (hc:digB c = true):AllDig (a ++ [c]):=by
 intro x hx
 rcases List.mem_append.1 hx with hx | hx
 ·exact h x hx
 ·simp at hx;subst hx;exact hc
theorem takeW_app {a b:List UInt8} (h:AllDig a):(a ++ b).takeWhile digB = a ++ b.takeWhile digB:=by
 induction a with
 | nil => rfl
 | cons c a ih =>
  rw [List.cons_append,List.takeWhile_cons,h c (by simp),if_pos rfl,ih (fun x hx => h x (by simp [hx]))];rfl
theorem dropW_app {a b:List UInt8} (h:AllDig a):(a ++ b).dropWhile digB = b.dropWhile digB:=by
 induction a with
 | nil => rfl
 | cons c a ih =>
  rw [List.cons_append,List.dropWhile_cons,h c (by simp),if_pos rfl,ih (fun x hx => h x (by simp [hx]))]
theorem takeW_none {b:List UInt8} (h:digH b = false):b.takeWhile digB = [] ∧ b.dropWhile digB = b:=by
 cases b with
 | nil => exact ⟨rfl,rfl⟩
 | cons c b =>
  have h:digB c = false:=h
  rw [List.takeWhile_cons,List.dropWhile_cons,h]
  exact ⟨rfl,rfl⟩
theorem takeW_all (b:List UInt8):AllDig (b.takeWhile digB):=by
 intro c hc
 induction b with
 | nil => simp at hc
 | cons a b ih =>
  rw [List.takeWhile_cons] at hc
  split at hc
  ·rename_i ha
   rcases List.mem_cons.1 hc with rfl | hc
   ·exact ha
   ·exact ih hc
  ·simp at hc
theorem digH_cons {b:List UInt8} (h:digH b = true):∃ c t,b = c :: t ∧ digB c = true:=by
 cases b with
 | nil => cases h
 | cons c t => exact ⟨c,t,rfl,h⟩
theorem numTail_none (neg:Bool) {l:List UInt8} (h:digH l = false):numTail neg l = none:=by
 unfold numTail
 rw [if_pos (.inl (takeW_none h).1)]
theorem numTail_big (neg:Bool) {ds rest:List UInt8} (hd:AllDig ds) (h:9007199254740991 < valD 0 ds):numTail neg (ds ++ rest) = none:=by
 unfold numTail
 have h1:=valD_ge (rest.takeWhile digB) (valD 0 ds) (by have:=valD_ge ds 0 (by omega) hd;omega) (takeW_all rest)
 have h2:9007199254740991 < valD 0 ((ds ++ rest).takeWhile digB):=by rw [takeW_app hd,valD_app];omega
 rw [if_pos (.inr (.inr (.inl h2)))]
theorem valD_zero:∀ (ds:List UInt8),AllDig ds → ds ≠ [] → valD 0 ds = 0 → ds.head? = some 48
 | [],_,h,_ => absurd rfl h
 | c :: a,hd,_,h => by
  have h1:=digB_bd (hd c (by simp))
  rw [valD_cons] at h
  have h2:=valD_ge a (0 * 10 + ((c.toNat:Int) - 48)) (by omega) (fun x hx => hd x (by simp [hx]))
  have:c.toNat = 48:=by omega
  show some c = some 48
  congr 1
  exact UInt8.toNat_inj.1 this
theorem numTail_zero (neg:Bool) {ds rest:List UInt8} (hd:AllDig ds) (hne:ds ≠ []) (h:valD 0 ds = 0) (hr:digH rest = true):numTail neg (ds ++ rest) = none:=by
 obtain ⟨c,t,rfl,hc⟩:=digH_cons hr
 unfold numTail
 have h1:=valD_zero ds hd hne h
 have h2:(ds ++ c :: t).head? = some 48:=by
  cases ds with
  | nil => exact absurd rfl hne
  | cons a ds => exact h1
 have h3:1 < ((ds ++ c :: t).takeWhile digB).length:=by
  rw [takeW_app hd,List.takeWhile_cons,hc,if_pos rfl,List.length_append,List.length_cons]
  have:=List.length_pos_iff.2 hne
  omega
 rw [if_pos (.inr (.inl ⟨h3,h2⟩))]
theorem numTail_end (neg:Bool) {ds rest:List UInt8} (hd:AllDig ds) (hne:ds ≠ []) (hr:digH rest = false) (hb:valD 0 ds ≤ 9007199254740991) (hz:1 < ds.length → ds.head? ≠ some 48) :
  numTail neg (ds ++ rest) = if (neg = true ∧ valD 0 ds = 0) ∨ pointB rest = true then none else some (if neg = true then - valD 0 ds else valD 0 ds,rest):=by
 unfold numTail
 have h1:(ds ++ rest).takeWhile digB = ds:=by rw [takeW_app hd,(takeW_none hr).1,List.append_nil]
 have h2:(ds ++ rest).dropWhile digB = rest:=by rw [dropW_app hd,(takeW_none hr).2]
 have h3:(ds ++ rest).head? = ds.head?:=by cases ds with | nil => exact absurd rfl hne | cons a ds => rfl
 rw [h1,h2,h3]
 by_cases hc:(neg = true ∧ valD 0 ds = 0) ∨ pointB rest = true
 ·rw [if_pos hc,if_pos (by rcases hc with hc | hc;exact .inr (.inr (.inr (.inl hc)));exact .inr (.inr (.inr (.inr hc))))]
 ·rw [if_neg hc,if_neg]
  rintro (h | h | h | h | h)
  ·exact hne h
  ·exact hz h.1 h.2
  ·omega
  ·exact hc (.inl h)
  ·exact hc (.inr h)
theorem pointB_take (l:List UInt8):pointB l = (decide (l.take 1 = [46]) || decide (l.take 1 = [101]) || decide (l.take 1 = [69])):=by
 cases l with
 | nil => rfl
 | cons c l =>
  show (c == 46 || c == 101 || c == 69) = _
  simp only [List.take_succ_cons,List.take_zero,List.cons.injEq,and_true]
  rw [Bool.eq_iff_iff]
  simp
def NumEnd (rb:Nat) (s:ByteArray) (r:Option (Int × List UInt8)) (w:World) (e:Ending) (w':World):Prop:=
 match r with
 | none => Failed rb s 3 w e w'
 | some (n,l) => e = .returned (.agg #[.int .i64 4,.int .i64 n,.string ⟨#[]⟩,.slice none 0 0,.slice none 0 0]) ∧ RdTo rb s l w w'
theorem NumEnd.no {rb:Nat} {s:ByteArray} {r:Option (Int × List UInt8)} {w:World} {e:Ending} {w':World} (hr:r = none) (h:Failed rb s 3 w e w'):NumEnd rb s r w e w':=by subst hr;exact h
theorem NumEnd.yes {rb:Nat} {s:ByteArray} {r:Option (Int × List UInt8)} {n:Int} {l:List UInt8} {w:World} {e:Ending} {w':World} (hr:r = some (n,l))
  (h:e = .returned (.agg #[.int .i64 4,.int .i64 n,.string ⟨#[]⟩,.slice none 0 0,.slice none 0 0]) ∧ RdTo rb s l w w'):NumEnd rb s r w e w':=by subst hr;exact h
theorem grown_new {w w':World} {r:Option Nat} {g:Nat} (h:w.grownBy w' r) (hg:w.heap.size ≤ g) (i:Nat) (v:Value):w.grownBy (w'.setCell (qa g i) v) r:=
 ⟨h.os,h.tape,h.output,by have:=h.size;simpa using this,fun k hk hne => by rw [Below.heap_setCell _ _ _ _ (by show k ≠ g;omega)];exact h.block k hk hne⟩
theorem one_lit (c:UInt8):(⟨#[c]⟩:ByteArray).toList = [c]:=by rw [ByteArray.toList_eq]
theorem ds_step {l ds rest:List UInt8} {u:UInt8} {t:List UInt8} (h:l = ds ++ rest) (hr:rest = u :: t):l = (ds ++ [u]) ++ t:=by rw [h,hr];simp
set_option maxRecDepth 100000 in
set_option maxHeartbeats 4000000 in
theorem number_step (neg:Bool) (rb:Nat) (s:ByteArray) (k1:Nat) (w:World) (hrb:rb < w.heap.size) (hk1:k1 ≤ s.size) (hs:s.size ≤ 1000000)
  (HM:Hid (Calls Tryd.prog 61 #[.pointer (some (qa rb 0)),.string ⟨#[45]⟩] (w.alloc (.cells Zn 25)) fun e w' => e = .returned (.bool neg) ∧ RdSt w' rb s k1 ∧ (w.alloc (.cells Zn 25)).grownBy w' (some rb))) :
  Calls Tryd.prog 67 #[.pointer (some (qa rb 0))] w (NumEnd rb s (numTail neg (s.toList.drop k1)) w):=by
 obtain ⟨V,hV⟩:∃ V,V = numTail neg (s.toList.drop k1):=⟨_,rfl⟩
 rw [← hV]
 have HV:Hid (V = numTail neg (s.toList.drop k1)):=hV
 have hb:=get_bt s
 clear hV
 have HA:Hid (w.grownBy (w.alloc (.cells Zn 25)) (some rb)):=World.grownBy_alloc w _ _
 have HY:Hid (Blk (w.alloc (.cells Zn 25)) w.heap.size 25 Zn):=Blk.new w _ _
 have hne:some w.heap.size ≠ some rb:=by intro e;injection e with e;omega
 have HNE:=Lib.hid hne
 clear hne
 cases hd:digH (s.toList.drop k1) with
 | false =>
  have HE:Hid (V = none):=by show _ = _;rw [HV.out,numTail_none _ hd]
  go_enter Tryd.func67,Tryd.ntmps67
  go_wp2_with fail
  refine HM.out.mono ?_;rintro e w1 ⟨rfl,h1,g1⟩
  have H1:=Lib.hid h1
  have G1:=Lib.hid (HA.out.trans g1)
  clear h1 g1
  go_wp2_with fail
  have HD:=Lib.hid (digit_any rb s k1 w1 H1.out hk1 hs)
  rw [hd] at HD
  refine HD.out.mono ?_;rintro e w2 ⟨rfl,h2,g2⟩
  have H2:=Lib.hid h2
  have G2:=Lib.hid (G1.out.trans g2)
  clear h2 g2
  go_wp2_with fail
  refine (fail_any rb s k1 3 _ H2.out).mono ?_;rintro e w9 ⟨rfl,h9,g9⟩
  have H9:=Lib.hid h9
  have G9:=Lib.hid (G2.out.trans g9)
  clear h9 g9
  go_wp2_with fail
  exact ⟨rfl,NumEnd.no HE.out ⟨rfl,H9.out,G9.out⟩⟩
 | true =>
 have HDG:=Lib.hid hd
 go_enter Tryd.func67,Tryd.ntmps67
 go_wp2_with fail
 refine HM.out.mono ?_;rintro e w1 ⟨rfl,h1,g1⟩
 have H1:=Lib.hid h1
 have G1:=Lib.hid (HA.out.trans g1)
 have Y1:=Lib.hid (HY.out.grown g1 HNE.out)
 clear h1 g1
 go_wp2_with fail
 have HD:=Lib.hid (digit_any rb s k1 w1 H1.out hk1 hs)
 rw [hd] at HD
 clear hd
 refine HD.out.mono ?_;rintro e w2 ⟨rfl,h2,g2⟩
 have H2:=Lib.hid h2
 have G2:=Lib.hid (G1.out.trans g2)
 have Y2:=Lib.hid (Y1.out.grown g2 HNE.out)
 obtain ⟨c0,c1,c2⟩:=h2.cells3
 clear h2 g2
 go_wp2_with fail
 go_quiet (fail)
 have H3:Hid (RdSt (w2.drewN nq) rb s k1):=H2.out
 have G3:Hid (w.grownBy (w2.drewN nq) (some rb)):=grown_drewN G2.out _
 have Y3:Hid (Blk (w2.drewN nq) w.heap.size 25 Zn):=Y2.out
 clear c0 c1 c2
 go_wp2_with fail
 go_loopg [4] (s.size - k1) (fun g t4 wr => ∃ (j:Nat) (ds:List UInt8) (N:Int),j ≤ s.size ∧ s.size - j ≤ g ∧ k1 + ds.length = j ∧ t4 = .int .i64 N ∧ Hid (s.toList.drop k1 = ds ++ s.toList.drop j) ∧ Hid (AllDig ds ∧ N = valD 0 ds ∧ N ≤ 9007199254740991 ∧ (1 < ds.length → ds.head? ≠ some 48) ∧ (ds ≠ [] → N ≠ 0 ∨ digH (s.toList.drop j) = false)) ∧
  Hid (RdSt wr rb s j) ∧ Hid (w.grownBy wr (some rb)) ∧ Hid (Blk wr w.heap.size 25 Zn))
 case atStart => exact ⟨k1,[],0,hk1,Nat.le_refl _,rfl,rfl,(by show _ = _;rfl),(by refine ⟨fun x hx => ?_,rfl,?_,?_,?_⟩;simp at hx;omega;simp;simp),H3,G3,Y3⟩
 case round =>
  clear H3 G3 Y3
  obtain ⟨j,ds,N,hj,hg,hjk,rfl,hl,hp,h0,hw,hy⟩:=hrel
  obtain ⟨wo,rfl⟩:∃ wo:World,wo = wr:=⟨_,rfl⟩
  have HDJ:=Lib.hid (digit_any rb s j wo h0.out hj hs)
  cases hdj:digH (s.toList.drop j) with
  | true =>
   rw [hdj] at HDJ
   obtain ⟨u,t,hcu,hdu⟩:=digH_cons hdj
   have hlt:j < s.size:=by
    rcases Nat.lt_or_ge j s.size with h | h
    ·exact h
    ·rw [drop_end s j h] at hcu;cases hcu
   obtain ⟨u',hu,hdr⟩:=drop_cons s j hlt
   have hcu2:=hdr.symm.trans hcu
   injection hcu2 with e1 e2
   subst e1;subst e2
   have bd:=digB_bd hdu
   have hN0:0 ≤ N:=by rw [hp.out.2.1];exact valD_ge ds 0 (by omega) hp.out.1
   have hN1:N ≤ 9007199254740991:=hp.out.2.2.1
   obtain ⟨M,hM⟩:∃ M,M = N * 10 + (bt s j - 48):=⟨_,rfl⟩
   have HL2:Hid (s.toList.drop k1 = (ds ++ [u']) ++ s.toList.drop (j + 1)):=ds_step hl.out hdr
   have HA2:Hid (AllDig (ds ++ [u'])):=hp.out.1.snoc hdu
   have HM2:Hid (M = valD 0 (ds ++ [u'])):=by show _ = _;rw [valD_snoc,← hp.out.2.1,hM,hu]
   have hM0:0 ≤ M:=by omega
   have hz2:Hid (1 < (ds ++ [u']).length → (ds ++ [u']).head? ≠ some 48):=by
    intro h
    have hne:ds ≠ []:=by intro e;subst e;simp at h
    have h5:=hp.out.2.2.2.2 hne
    rw [hdj] at h5
    have h6:N ≠ 0:=by rcases h5 with h5 | h5;exact h5;cases h5
    cases ds with
    | nil => exact absurd rfl hne
    | cons a ds =>
     show some a ≠ some 48
     intro e
     injection e with e
     by_cases hl1:1 < (a :: ds).length
     ·exact hp.out.2.2.2.1 hl1 (by rw [e];rfl)
     ·have:ds = []:=by cases ds with | nil => rfl | cons b ds => simp at hl1
      subst this
      apply h6
      rw [hp.out.2.1,e];rfl
   have x1:IntKind.i64.wrap (N * 10) = N * 10:=IntWalk.i64_in _ (by omega)
   have x2:IntKind.u8.wrap (bt s j - 48) = bt s j - 48:=wraps_u8 _ (by omega) (by omega)
   have x3:IntKind.i64.wrap (bt s j - 48) = bt s j - 48:=IntWalk.i64_in _ (by omega)
   have x4:IntKind.i64.wrap (N * 10 + (bt s j - 48)) = M:=by rw [← hM];exact IntWalk.i64_in _ (by omega)
   have i0:(0:Int) ≤ (j:Int):=by omega
   have i1:(j:Int) < (s.size:Int):=by omega
   have hj1:j + 1 ≤ s.size:=by omega
   have HB:Hid (9007199254740991 < M ∨ M ≤ 9007199254740991):=by show _ ∨ _;omega
   have HX:Hid (0 ≤ bt s j - 48 ∧ bt s j - 48 < 256 ∧ 48 ≤ bt s j):=by show _ ∧ _;omega
   have hgg:s.size - (j + 1) ≤ gk - 1:=by omega
   have hg1:0 < gk:=by omega
   have hjk2:k1 + (ds ++ [u']).length = j + 1:=by rw [List.length_append];simp;omega
   have HJK:=Lib.hid hjk2
   have HNZ:Hid (M = 0 ∨ M ≠ 0):=by show _ ∨ _;omega
   clear hu hdr hcu hdu bd hN0 hN1 hM hM0 hjk hp hl hg hjk2
   go_wp2_with fail
   refine HDJ.out.mono ?_;rintro e w3 ⟨rfl,h3,g3⟩
   have H3:=Lib.hid h3
   have G3:=Lib.hid (hw.out.trans g3)
   have Y3:=Lib.hid (hy.out.grown g3 HNE.out)
   obtain ⟨c0,c1,c2⟩:=h3.cells3
   have f1:=h3.frozen 1
   clear h3 g3
   go_wp2_with fail
   go_quiet (fail)
   have H4:Hid (RdSt ((w3.drewN nq).setCell (qa rb 1) (.int .i64 ((j:Int) + 1))) rb s (j + 1)):=by
    have:=(show Blk (w3.drewN nq) rb 77 #[.string s,.int .i64 j,.int .i64 0] from H3.out).set_ 1 (.int .i64 ((j + 1:Nat):Int))
    exact this
   have G4:Hid (w.grownBy ((w3.drewN nq).setCell (qa rb 1) (.int .i64 ((j:Int) + 1))) (some rb)):=grown_set (grown_drewN G3.out _) 1 _
   have Y4:Hid (Blk ((w3.drewN nq).setCell (qa rb 1) (.int .i64 ((j:Int) + 1))) w.heap.size 25 Zn):=(show Blk (w3.drewN nq) w.heap.size 25 Zn from Y3.out).far (by show w.heap.size ≠ rb;omega) _
   clear x1 x2 x3 x4
   by_cases hbig:9007199254740991 < M
   ·have dA:decide (9007199254740991 < M) = true:=decide_eq_true hbig
    have HE:Hid (V = none):=by show _ = _;rw [HV.out,HL2.out];exact numTail_big neg HA2.out (by rw [← HM2.out];exact hbig)
    clear hbig
    go_wp2_with fail
    refine (fail_any rb s (j + 1) 3 _ H4.out).mono ?_;rintro e w9 ⟨rfl,h9,g9⟩
    have H9:=Lib.hid h9
    have G9:=Lib.hid (G4.out.trans g9)
    clear h9 g9
    go_wp2_with fail
    exact ⟨rfl,NumEnd.no HE.out ⟨rfl,H9.out,G9.out⟩⟩
   ·have dA:decide (9007199254740991 < M) = false:=decide_eq_false hbig
    have hMle:Hid (M ≤ 9007199254740991):=by show _ ≤ _;omega
    clear hbig
    have HD4:=Lib.hid (digit_any rb s (j + 1) _ H4.out hj1 hs)
    by_cases hM0:M = 0
    ·have e0:(M == 0) = true:=by rw [hM0];rfl
     have HM0:=Lib.hid hM0
     clear hM0
     cases hd4:digH (s.toList.drop (j + 1)) with
     | true =>
      rw [hd4] at HD4
      have HE:Hid (V = none):=by show _ = _;rw [HV.out,HL2.out];exact numTail_zero neg HA2.out (by simp) (by rw [← HM2.out];exact HM0.out) hd4
      clear hd4
      go_wp2_with fail
      refine HD4.out.mono ?_;rintro e w5 ⟨rfl,h5,g5⟩
      have H5:=Lib.hid h5
      have G5:=Lib.hid (G4.out.trans g5)
      clear h5 g5
      go_wp2_with fail
      refine (fail_any rb s (j + 1) 3 _ H5.out).mono ?_;rintro e w9 ⟨rfl,h9,g9⟩
      have H9:=Lib.hid h9
      have G9:=Lib.hid (G5.out.trans g9)
      clear h9 g9
      go_wp2_with fail
      exact ⟨rfl,NumEnd.no HE.out ⟨rfl,H9.out,G9.out⟩⟩
     | false =>
      rw [hd4] at HD4
      have HN2:Hid (digH (s.toList.drop (j + 1)) = false):=hd4
      clear hd4
      go_wp2_with fail
      refine HD4.out.mono ?_;rintro e w5 ⟨rfl,h5,g5⟩
      have H5:=Lib.hid h5
      have G5:=Lib.hid (G4.out.trans g5)
      have Y5:=Lib.hid (Y4.out.grown g5 HNE.out)
      clear h5 g5
      go_wp2_with fail
      go_roundg (gk - 1)
      case measure => omega
      case rel => exact ⟨j + 1,ds ++ [u'],M,hj1,hgg,HJK.out,rfl,HL2,⟨HA2.out,HM2.out,hMle.out,hz2.out,fun _ => .inr HN2.out⟩,H5,G5,Y5⟩
    ·have e0:(M == 0) = false:=by rw [beq_eq_false_iff_ne];exact hM0
     have HM0:=Lib.hid hM0
     clear hM0
     go_wp2_with fail
     go_roundg (gk - 1)
     case measure => omega
     case rel => exact ⟨j + 1,ds ++ [u'],M,hj1,hgg,HJK.out,rfl,HL2,⟨HA2.out,HM2.out,hMle.out,hz2.out,fun _ => .inl HM0.out⟩,H4,G4,Y4⟩
  | false =>
   rw [hdj] at HDJ
   have hne:ds ≠ []:=by
    intro e
    have h5:=HDG.out
    rw [hl.out,e,List.nil_append,hdj] at h5
    cases h5
   have hkj:k1 < j:=by have:=List.length_pos_iff.2 hne;omega
   have hN0:0 ≤ N:=by rw [hp.out.2.1];exact valD_ge ds 0 (by omega) hp.out.1
   have hend:=numTail_end neg hp.out.1 hne hdj (by rw [← hp.out.2.1];exact hp.out.2.2.1) hp.out.2.2.2.1
   rw [← hl.out,← HV.out,← hp.out.2.1,pointB_take] at hend
   have HEND:=Lib.hid hend
   have hNb:Hid (0 ≤ N ∧ N ≤ 9007199254740991):=⟨hN0,hp.out.2.2.1⟩
   have hnw:IntKind.i64.wrap (-N) = -N:=IntWalk.i64_in _ (by have:=hNb.out;omega)
   have dkj:decide ((k1:Int) < (j:Int)) = true:=decide_eq_true (by omega)
   have dkj2:decide (k1 < j) = true:=decide_eq_true hkj
   have HNW:=Lib.hid hnw
   clear hend hne hl hp hN0 hdj hg hjk hnw
   go_wp2_with fail
   refine HDJ.out.mono ?_;rintro e w3 ⟨rfl,h3,g3⟩
   have H3:=Lib.hid h3
   have G3:=Lib.hid (hw.out.trans g3)
   have Y3:=Lib.hid (hy.out.grown g3 HNE.out)
   clear h3 g3
   go_wp2_with fail
   by_cases p46:(s.toList.drop j).take 1 = [46]
   ·have HE:Hid (V = none):=by show _ = _;rw [HEND.out,if_pos (.inr (by rw [decide_eq_true p46];simp))]
    refine (may_yes rb s ⟨#[46]⟩ j _ H3.out hj hs (by rw [one_lit];exact p46)).mono ?_;rintro e w4 ⟨rfl,k4,hk4,hd4,h4,g4⟩
    have H4:=Lib.hid h4
    have G4:=Lib.hid (G3.out.trans g4)
    clear h4 g4
    go_wp2_with fail
    refine (fail_any rb s k4 3 _ H4.out).mono ?_;rintro e w9 ⟨rfl,h9,g9⟩
    have H9:=Lib.hid h9
    have G9:=Lib.hid (G4.out.trans g9)
    clear h9 g9
    go_wp2_with fail
    exact ⟨rfl,NumEnd.no HE.out ⟨rfl,H9.out,G9.out⟩⟩
   have P46:=Lib.hid p46
   refine (may_no rb s ⟨#[46]⟩ j _ H3.out hj hs (by decide) (by rw [one_lit];exact p46)).mono ?_;rintro e w4 ⟨rfl,h4,g4⟩
   have H4:=Lib.hid h4
   have G4:=Lib.hid (G3.out.trans g4)
   have Y4:=Lib.hid (Y3.out.grown g4 HNE.out)
   clear p46
   clear h4 g4
   go_wp2_with fail
   by_cases p101:(s.toList.drop j).take 1 = [101]
   ·have HE:Hid (V = none):=by show _ = _;rw [HEND.out,if_pos (.inr (by rw [decide_eq_true p101];simp))]
    refine (may_yes rb s ⟨#[101]⟩ j _ H4.out hj hs (by rw [one_lit];exact p101)).mono ?_;rintro e w5 ⟨rfl,k5,hk5,hd5,h5,g5⟩
    have H5:=Lib.hid h5
    have G5:=Lib.hid (G4.out.trans g5)
    clear h5 g5
    go_wp2_with fail
    refine (fail_any rb s k5 3 _ H5.out).mono ?_;rintro e w9 ⟨rfl,h9,g9⟩
    have H9:=Lib.hid h9
    have G9:=Lib.hid (G5.out.trans g9)
    clear h9 g9
    go_wp2_with fail
    exact ⟨rfl,NumEnd.no HE.out ⟨rfl,H9.out,G9.out⟩⟩
   have P101:=Lib.hid p101
   refine (may_no rb s ⟨#[101]⟩ j _ H4.out hj hs (by decide) (by rw [one_lit];exact p101)).mono ?_;rintro e w5 ⟨rfl,h5,g5⟩
   have H5:=Lib.hid h5
   have G5:=Lib.hid (G4.out.trans g5)
   have Y5:=Lib.hid (Y4.out.grown g5 HNE.out)
   clear p101
   clear h5 g5
   go_wp2_with fail
   by_cases p69:(s.toList.drop j).take 1 = [69]
   ·have HE:Hid (V = none):=by show _ = _;rw [HEND.out,if_pos (.inr (by rw [decide_eq_true p69];simp))]
    refine (may_yes rb s ⟨#[69]⟩ j _ H5.out hj hs (by rw [one_lit];exact p69)).mono ?_;rintro e w6 ⟨rfl,k6,hk6,hd6,h6,g6⟩
    have H6:=Lib.hid h6
    have G6:=Lib.hid (G5.out.trans g6)
    clear h6 g6
    go_wp2_with fail
    refine (fail_any rb s k6 3 _ H6.out).mono ?_;rintro e w9 ⟨rfl,h9,g9⟩
    have H9:=Lib.hid h9
    have G9:=Lib.hid (G6.out.trans g9)
    clear h9 g9
    go_wp2_with fail
    exact ⟨rfl,NumEnd.no HE.out ⟨rfl,H9.out,G9.out⟩⟩
   have P69:=Lib.hid p69
   refine (may_no rb s ⟨#[69]⟩ j _ H5.out hj hs (by decide) (by rw [one_lit];exact p69)).mono ?_;rintro e w6 ⟨rfl,h6,g6⟩
   have H6:=Lib.hid h6
   have G6:=Lib.hid (G5.out.trans g6)
   have Y6:=Lib.hid (Y5.out.grown g6 HNE.out)
   clear p69
   obtain ⟨c0,c1,c2⟩:=h6.cells3
   clear h6 g6
   have HPB:Hid ((decide ((s.toList.drop j).take 1 = [46]) || decide ((s.toList.drop j).take 1 = [101]) || decide ((s.toList.drop j).take 1 = [69])) = false):=by
    show _ = _
    rw [decide_eq_false P46.out,decide_eq_false P101.out,decide_eq_false P69.out];rfl
   cases neg with
   | true =>
    by_cases hz:N = 0
    ·have e0:(N == 0) = true:=by rw [hz];rfl
     have HE:Hid (V = none):=by show _ = _;rw [HEND.out,if_pos (.inl ⟨rfl,hz⟩)]
     clear hz
     go_wp2_with fail
     refine (fail_any rb s j 3 _ H6.out).mono ?_;rintro e w9 ⟨rfl,h9,g9⟩
     have H9:=Lib.hid h9
     have G9:=Lib.hid (G6.out.trans g9)
     clear h9 g9
     go_wp2_with fail
     exact ⟨rfl,NumEnd.no HE.out ⟨rfl,H9.out,G9.out⟩⟩
    ·have e0:(N == 0) = false:=by rw [beq_eq_false_iff_ne];exact hz
     have HZ:=Lib.hid hz
     clear hz
     have HE:Hid (V = some ((-N),s.toList.drop j)):=by show _ = _;rw [HEND.out,if_neg (by rintro (h | h);exact HZ.out h.2;rw [HPB.out] at h;cases h)];rfl
     obtain ⟨d0,d1,d2,d3,d4⟩:=Y6.out.cells5
     have f0:=Y6.out.frozen 0
     have f1:=Y6.out.frozen 1
     have f2:=Y6.out.frozen 2
     have f3:=Y6.out.frozen 3
     have f4:=Y6.out.frozen 4
     have hfin:Hid (Blk (((((w6.setCell (qa w.heap.size 0) (.int .i64 4)).setCell (qa w.heap.size 1) (.int .i64 (-N))).setCell (qa w.heap.size 2) (.string ⟨#[]⟩)).setCell (qa w.heap.size 3) (.slice none 0 0)).setCell (qa w.heap.size 4) (.slice none 0 0)) w.heap.size 25 #[.int .i64 4,.int .i64 (-N),.string ⟨#[]⟩,.slice none 0 0,.slice none 0 0]):=(((((Y6.out.set_ 0 _).set_ 1 _).set_ 2 _).set_ 3 _).set_ 4 _)
     have hrd:Hid (RdSt (((((w6.setCell (qa w.heap.size 0) (.int .i64 4)).setCell (qa w.heap.size 1) (.int .i64 (-N))).setCell (qa w.heap.size 2) (.string ⟨#[]⟩)).setCell (qa w.heap.size 3) (.slice none 0 0)).setCell (qa w.heap.size 4) (.slice none 0 0)) rb s j):=(((((show Blk w6 rb 77 #[.string s,.int .i64 j,.int .i64 0] from H6.out).far (by show rb ≠ w.heap.size;omega) _).far (by show rb ≠ w.heap.size;omega) _).far (by show rb ≠ w.heap.size;omega) _).far (by show rb ≠ w.heap.size;omega) _).far (by show rb ≠ w.heap.size;omega) _
     have hgr:Hid (w.grownBy (((((w6.setCell (qa w.heap.size 0) (.int .i64 4)).setCell (qa w.heap.size 1) (.int .i64 (-N))).setCell (qa w.heap.size 2) (.string ⟨#[]⟩)).setCell (qa w.heap.size 3) (.slice none 0 0)).setCell (qa w.heap.size 4) (.slice none 0 0)) (some rb)):=grown_new (grown_new (grown_new (grown_new (grown_new G6.out (Nat.le_refl _) 0 _) (Nat.le_refl _) 1 _) (Nat.le_refl _) 2 _) (Nat.le_refl _) 3 _) (Nat.le_refl _) 4 _
     have HFIN:=hfin.out
     have hnw:=HNW.out
     go_wp2_with fail
     clear hfin d0 d1 d2 d3 d4 f0 f1 f2 f3 f4
     generalize (((((w6.setCell (qa w.heap.size 0) (.int .i64 4)).setCell (qa w.heap.size 1) (.int .i64 (-N))).setCell (qa w.heap.size 2) (.string ⟨#[]⟩)).setCell (qa w.heap.size 3) (.slice none 0 0)).setCell (qa w.heap.size 4) (.slice none 0 0)) = WF at *
     obtain ⟨q0,q1,q2,q3,q4⟩:=HFIN.cells5
     refine bodyPost_ret (v:=.agg #[.int .i64 4,.int .i64 (-N),.string ⟨#[]⟩,.slice none 0 0,.slice none 0 0]) (by simp [results,Tryd.results67,go_sem,q0,q1,q2,q3,q4]) rfl ?_
     exact NumEnd.yes HE.out ⟨rfl,j,hj,rfl,hrd.out,hgr.out⟩
   | false =>
    have HE:Hid (V = some (N,s.toList.drop j)):=by show _ = _;rw [HEND.out,if_neg (by rintro (h | h);cases h.1;rw [HPB.out] at h;cases h)];rfl
    obtain ⟨d0,d1,d2,d3,d4⟩:=Y6.out.cells5
    have f0:=Y6.out.frozen 0
    have f1:=Y6.out.frozen 1
    have f2:=Y6.out.frozen 2
    have f3:=Y6.out.frozen 3
    have f4:=Y6.out.frozen 4
    have hfin:Hid (Blk (((((w6.setCell (qa w.heap.size 0) (.int .i64 4)).setCell (qa w.heap.size 1) (.int .i64 N)).setCell (qa w.heap.size 2) (.string ⟨#[]⟩)).setCell (qa w.heap.size 3) (.slice none 0 0)).setCell (qa w.heap.size 4) (.slice none 0 0)) w.heap.size 25 #[.int .i64 4,.int .i64 N,.string ⟨#[]⟩,.slice none 0 0,.slice none 0 0]):=(((((Y6.out.set_ 0 _).set_ 1 _).set_ 2 _).set_ 3 _).set_ 4 _)
    have hrd:Hid (RdSt (((((w6.setCell (qa w.heap.size 0) (.int .i64 4)).setCell (qa w.heap.size 1) (.int .i64 N)).setCell (qa w.heap.size 2) (.string ⟨#[]⟩)).setCell (qa w.heap.size 3) (.slice none 0 0)).setCell (qa w.heap.size 4) (.slice none 0 0)) rb s j):=(((((show Blk w6 rb 77 #[.string s,.int .i64 j,.int .i64 0] from H6.out).far (by show rb ≠ w.heap.size;omega) _).far (by show rb ≠ w.heap.size;omega) _).far (by show rb ≠ w.heap.size;omega) _).far (by show rb ≠ w.heap.size;omega) _).far (by show rb ≠ w.heap.size;omega) _
    have hgr:Hid (w.grownBy (((((w6.setCell (qa w.heap.size 0) (.int .i64 4)).setCell (qa w.heap.size 1) (.int .i64 N)).setCell (qa w.heap.size 2) (.string ⟨#[]⟩)).setCell (qa w.heap.size 3) (.slice none 0 0)).setCell (qa w.heap.size 4) (.slice none 0 0)) (some rb)):=grown_new (grown_new (grown_new (grown_new (grown_new G6.out (Nat.le_refl _) 0 _) (Nat.le_refl _) 1 _) (Nat.le_refl _) 2 _) (Nat.le_refl _) 3 _) (Nat.le_refl _) 4 _
    have HFIN:=hfin.out
    go_wp2_with fail
    clear hfin d0 d1 d2 d3 d4 f0 f1 f2 f3 f4
    generalize (((((w6.setCell (qa w.heap.size 0) (.int .i64 4)).setCell (qa w.heap.size 1) (.int .i64 N)).setCell (qa w.heap.size 2) (.string ⟨#[]⟩)).setCell (qa w.heap.size 3) (.slice none 0 0)).setCell (qa w.heap.size 4) (.slice none 0 0)) = WF at *
    obtain ⟨q0,q1,q2,q3,q4⟩:=HFIN.cells5
    refine bodyPost_ret (v:=.agg #[.int .i64 4,.int .i64 N,.string ⟨#[]⟩,.slice none 0 0,.slice none 0 0]) (by simp [results,Tryd.results67,go_sem,q0,q1,q2,q3,q4]) rfl ?_
    exact NumEnd.yes HE.out ⟨rfl,j,hj,rfl,hrd.out,hgr.out⟩
theorem numL_eq (l:List UInt8):numL l = if l.take 1 = [45] then numTail true (l.drop 1) else numTail false l:=by
 unfold numL
 cases l with
 | nil => rfl
 | cons c l => simp
theorem number_any (rb:Nat) (s:ByteArray) (k:Nat) (w:World) (h:RdSt w rb s k) (hk:k ≤ s.size) (hs:s.size ≤ 1000000) :
  Calls Tryd.prog 67 #[.pointer (some (qa rb 0))] w (NumEnd rb s (numL (s.toList.drop k)) w):=by
 have hrb:rb < w.heap.size:=h.lt
 have h1:RdSt (w.alloc (.cells Zn 25)) rb s k:=h.alloc _
 rw [numL_eq]
 by_cases p:(s.toList.drop k).take 1 = [45]
 ·rw [if_pos p]
  have hm:=may_yes rb s ⟨#[45]⟩ k _ h1 hk hs (by rw [one_lit];exact p)
  have hkl:k < s.size:=by
   rcases Nat.lt_or_ge k s.size with h | h
   ·exact h
   ·rw [drop_end s k h] at p;cases p
  have:=number_step true rb s (k + 1) w hrb (by omega) hs (Lib.hid (hm.mono (by
   rintro e w' ⟨rfl,k',hk',hd,h2,g2⟩
   refine ⟨rfl,?_,g2⟩
   have e1:k' = k + 1:=by
    have e2:=congrArg List.length hd
    rw [List.length_drop,List.length_drop,List.length_drop,toList_len] at e2
    have:({ data:=#[45] }:ByteArray).size = 1:=rfl
    omega
   subst e1
   exact h2)))
  rw [List.drop_drop]
  exact this
 ·rw [if_neg p]
  exact number_step false rb s k w hrb hk hs (Lib.hid (may_no rb s ⟨#[45]⟩ k _ h1 hk hs (by decide) (by rw [one_lit];exact p)))
def IntEnd (rb:Nat) (s:ByteArray) (r:Option (Int × List UInt8)) (w:World) (e:Ending) (w':World):Prop:=
 match r with
 | none => Failed rb s 3 w e w'
 | some (n,l) => e = .returned (.int .i64 n) ∧ RdTo rb s l w w'
theorem IntEnd.no {rb:Nat} {s:ByteArray} {r:Option (Int × List UInt8)} {w:World} {e:Ending} {w':World} (hr:r = none) (h:Failed rb s 3 w e w'):IntEnd rb s r w e w':=by subst hr;exact h
theorem IntEnd.yes {rb:Nat} {s:ByteArray} {r:Option (Int × List UInt8)} {n:Int} {l:List UInt8} {w:World} {e:Ending} {w':World} (hr:r = some (n,l)) (h:e = .returned (.int .i64 n) ∧ RdTo rb s l w w'):IntEnd rb s r w e w':=by subst hr;exact h
theorem hex_or (n d:Int) (h0:0 ≤ n) (h1:n < 4294967296) (h2:0 ≤ d) (h3:d < 16):bits BinOp.or IntKind.i64 (n * 16) d = n * 16 + d:=i64_join 4 _ _ (by omega) (by omega) (by omega) (by omega) (by omega) (by omega)
theorem pow_bd (i:Nat) (h:i ≤ 4):(16:Int) ^ i ≤ 65536:=by
 rcases (by omega:i = 0 ∨ i = 1 ∨ i = 2 ∨ i = 3 ∨ i = 4) with rfl | rfl | rfl | rfl | rfl <;> decide
set_option maxRecDepth 100000 in
set_option maxHeartbeats 4000000 in
theorem unit_any (rb:Nat) (s:ByteArray) (k:Nat) (w:World) (h:RdSt w rb s k) (hk:k ≤ s.size) (hs:s.size ≤ 1000000) :
  Calls Tryd.prog 94 #[.pointer (some (qa rb 0))] w (IntEnd rb s (unitL 4 0 (s.toList.drop k)) w):=by
 obtain ⟨V,hV⟩:∃ V,V = unitL 4 0 (s.toList.drop k):=⟨_,rfl⟩
 rw [← hV]
 have HV:Hid (V = unitL 4 0 (s.toList.drop k)):=hV
 have H0:=Lib.hid h
 have hb:=get_bt s
 clear hV h
 go_enter Tryd.func94,Tryd.ntmps94
 go_wp2_with fail
 go_loopg [3,5] 4 (fun g t3 t5 wr => ∃ (j i:Nat) (N:Int),j ≤ s.size ∧ i + g = 4 ∧ t5 = .int .i64 i ∧ t3 = .int .i64 N ∧ Hid (V = unitL g N (s.toList.drop j)) ∧ Hid (0 ≤ N ∧ N < 16 ^ i) ∧ Hid (RdSt wr rb s j) ∧ Hid (w.grownBy wr (some rb)))
 case atStart => exact ⟨k,0,0,hk,rfl,rfl,rfl,HV,(by show _ ∧ _;omega),H0,grown_refl _ _⟩
 case round =>
  clear HV H0
  obtain ⟨j,i,N,hj,hig,rfl,rfl,hv,hN,h0,hw⟩:=hrel
  obtain ⟨wo,rfl⟩:∃ wo:World,wo = wr:=⟨_,rfl⟩
  have hi4:i ≤ 4:=by omega
  by_cases hlt:i < 4
  ·have di:decide ((i:Int) < 4) = true:=decide_eq_true (by omega)
   obtain ⟨c0,c1,c2⟩:=h0.out.cells3
   have f1:=h0.out.frozen 1
   have hpb:=pow_bd i hi4
   have hgs:gk = (gk - 1) + 1:=by omega
   by_cases hjs:j < s.size
   ·obtain ⟨u,hu,hd⟩:=drop_cons s j hjs
    have i0:(0:Int) ≤ (j:Int):=by omega
    have i1:(j:Int) < (s.size:Int):=by omega
    have ne1:((j:Int) == (s.size:Int)) = false:=by rw [beq_eq_false_iff_ne];omega
    have b0:=bt_nonneg s j
    have b1:=bt_le s j
    have hj1:j + 1 ≤ s.size:=by omega
    have hig2:(i + 1) + (gk - 1) = 4:=by omega
    have hN0:=hN.out.1
    have hN1:N < 65536:=by have:=hN.out.2;omega
    have hstep:∀ d,hexD u = some d → V = unitL (gk - 1) (N * 16 + d) (s.toList.drop (j + 1)):=fun d hd2 => by
     rw [hv.out,hgs,hd]
     simp only [Nat.add_sub_cancel]
     conv => lhs;unfold unitL
     rw [hd2]
    have hno:hexD u = none → V = none:=fun hd2 => by
     rw [hv.out,hgs,hd]
     conv => lhs;unfold unitL
     rw [hd2]
    have hbd2:∀ d,hexD u = some d → 0 ≤ N * 16 + d ∧ N * 16 + d < 16 ^ (i + 1):=fun d hd2 => by
     have h5:=hexD_bd hd2
     have h6:=hN.out.2
     rw [Int.pow_succ]
     omega
    have HSTEP:=Lib.hid hstep
    have HNO:=Lib.hid hno
    have HBD:=Lib.hid hbd2
    have H4:Hid (∀ n,RdSt ((wo.drewN n).setCell (qa rb 1) (.int .i64 ((j:Int) + 1))) rb s (j + 1)):=fun n => by
     have:=(show Blk (wo.drewN n) rb 77 #[.string s,.int .i64 j,.int .i64 0] from h0.out).set_ 1 (.int .i64 ((j + 1:Nat):Int))
     exact this
    have G4:Hid (∀ n,w.grownBy ((wo.drewN n).setCell (qa rb 1) (.int .i64 ((j:Int) + 1))) (some rb)):=fun n => grown_set (grown_drewN hw.out _) 1 _
    clear hd hstep hno hbd2 hgs hpb
    rcases (by omega:(0 ≤ bt s j ∧ bt s j ≤ 47) ∨ (48 ≤ bt s j ∧ bt s j ≤ 57) ∨ (58 ≤ bt s j ∧ bt s j ≤ 64) ∨ (65 ≤ bt s j ∧ bt s j ≤ 70) ∨ (71 ≤ bt s j ∧ bt s j ≤ 96) ∨ (97 ≤ bt s j ∧ bt s j ≤ 102) ∨ (103 ≤ bt s j ∧ bt s j ≤ 255)) with hr | hr | hr | hr | hr | hr | hr
    ·have hd2:hexD u = none:=by unfold hexD;rw [if_neg (by omega),if_neg (by omega),if_neg (by omega)]
     have d48:decide (48 ≤ bt s j) = false:=decide_eq_false (by omega)
     have d57:decide (bt s j ≤ 57) = true:=decide_eq_true (by omega)
     have d97:decide (97 ≤ bt s j) = false:=decide_eq_false (by omega)
     have d102:decide (bt s j ≤ 102) = true:=decide_eq_true (by omega)
     have d65:decide (65 ≤ bt s j) = false:=decide_eq_false (by omega)
     have d70:decide (bt s j ≤ 70) = true:=decide_eq_true (by omega)
     have E1:=Lib.hid (HNO.out hd2)
     clear hd2 hu
     go_wp2_with fail
     go_quiet (fail)
     go_wp2_with fail
     go_quiet (fail)
     go_wp2_with fail
     refine (fail_any rb s (j + 1) 3 _ (H4.out _)).mono ?_;rintro e w9 ⟨rfl,h9,g9⟩
     have H9:=Lib.hid h9
     have G9:=Lib.hid ((G4.out _).trans g9)
     clear h9 g9
     go_wp2_with fail
     exact ⟨rfl,IntEnd.no E1.out ⟨rfl,H9.out,G9.out⟩⟩
    ·have hd2:hexD u = some (bt s j - 48):=by unfold hexD;rw [if_pos (by omega),hu]
     have d48:decide (48 ≤ bt s j) = true:=decide_eq_true (by omega)
     have d57:decide (bt s j ≤ 57) = true:=decide_eq_true (by omega)
     have d97:decide (97 ≤ bt s j) = false:=decide_eq_false (by omega)
     have d102:decide (bt s j ≤ 102) = true:=decide_eq_true (by omega)
     have d65:decide (65 ≤ bt s j) = false:=decide_eq_false (by omega)
     have d70:decide (bt s j ≤ 70) = true:=decide_eq_true (by omega)
     have e1:V = unitL (gk - 1) (N * 16 + (bt s j - 48)) (s.toList.drop (j + 1)):=HSTEP.out _ hd2
     have e2:=HBD.out _ hd2
     have o1:=hex_or N (bt s j - 48) hN0 (by omega) (by omega) (by omega)
     have E1:=Lib.hid e1
     have E2:=Lib.hid e2
     have x1:IntKind.u8.wrap (bt s j - 48) = bt s j - 48:=wraps_u8 _ (by omega) (by omega)
     clear hd2 e1 e2 hu
     go_wp2_with fail
     go_quiet (fail)
     go_wp2_with fail
     go_quiet (fail)
     go_wp2_with fail
     go_roundg (gk - 1)
     case measure => omega
     case rel => exact ⟨j + 1,i + 1,_,hj1,hig2,by go_num,rfl,E1,E2,H4.out _,G4.out _⟩
    ·have hd2:hexD u = none:=by unfold hexD;rw [if_neg (by omega),if_neg (by omega),if_neg (by omega)]
     have d48:decide (48 ≤ bt s j) = true:=decide_eq_true (by omega)
     have d57:decide (bt s j ≤ 57) = false:=decide_eq_false (by omega)
     have d97:decide (97 ≤ bt s j) = false:=decide_eq_false (by omega)
     have d102:decide (bt s j ≤ 102) = true:=decide_eq_true (by omega)
     have d65:decide (65 ≤ bt s j) = false:=decide_eq_false (by omega)
     have d70:decide (bt s j ≤ 70) = true:=decide_eq_true (by omega)
     have E1:=Lib.hid (HNO.out hd2)
     clear hd2 hu
     go_wp2_with fail
     go_quiet (fail)
     go_wp2_with fail
     go_quiet (fail)
     go_wp2_with fail
     refine (fail_any rb s (j + 1) 3 _ (H4.out _)).mono ?_;rintro e w9 ⟨rfl,h9,g9⟩
     have H9:=Lib.hid h9
     have G9:=Lib.hid ((G4.out _).trans g9)
     clear h9 g9
     go_wp2_with fail
     exact ⟨rfl,IntEnd.no E1.out ⟨rfl,H9.out,G9.out⟩⟩
    ·have hd2:hexD u = some (bt s j - 65 + 10):=by unfold hexD;rw [if_neg (by omega),if_neg (by omega),if_pos (by omega),hu];congr 1;omega
     have d48:decide (48 ≤ bt s j) = true:=decide_eq_true (by omega)
     have d57:decide (bt s j ≤ 57) = false:=decide_eq_false (by omega)
     have d97:decide (97 ≤ bt s j) = false:=decide_eq_false (by omega)
     have d102:decide (bt s j ≤ 102) = true:=decide_eq_true (by omega)
     have d65:decide (65 ≤ bt s j) = true:=decide_eq_true (by omega)
     have d70:decide (bt s j ≤ 70) = true:=decide_eq_true (by omega)
     have e1:V = unitL (gk - 1) (N * 16 + (bt s j - 65 + 10)) (s.toList.drop (j + 1)):=HSTEP.out _ hd2
     have e2:=HBD.out _ hd2
     have o1:=hex_or N (bt s j - 65 + 10) hN0 (by omega) (by omega) (by omega)
     have E1:=Lib.hid e1
     have E2:=Lib.hid e2
     have x1:IntKind.u8.wrap (bt s j - 65) = bt s j - 65:=wraps_u8 _ (by omega) (by omega)
     have x2:IntKind.u8.wrap (bt s j - 65 + 10) = bt s j - 65 + 10:=wraps_u8 _ (by omega) (by omega)
     clear hd2 e1 e2 hu
     go_wp2_with fail
     go_quiet (fail)
     go_wp2_with fail
     go_quiet (fail)
     go_wp2_with fail
     go_roundg (gk - 1)
     case measure => omega
     case rel => exact ⟨j + 1,i + 1,_,hj1,hig2,by go_num,rfl,E1,E2,H4.out _,G4.out _⟩
    ·have hd2:hexD u = none:=by unfold hexD;rw [if_neg (by omega),if_neg (by omega),if_neg (by omega)]
     have d48:decide (48 ≤ bt s j) = true:=decide_eq_true (by omega)
     have d57:decide (bt s j ≤ 57) = false:=decide_eq_false (by omega)
     have d97:decide (97 ≤ bt s j) = false:=decide_eq_false (by omega)
     have d102:decide (bt s j ≤ 102) = true:=decide_eq_true (by omega)
     have d65:decide (65 ≤ bt s j) = true:=decide_eq_true (by omega)
     have d70:decide (bt s j ≤ 70) = false:=decide_eq_false (by omega)
     have E1:=Lib.hid (HNO.out hd2)
     clear hd2 hu
     go_wp2_with fail
     go_quiet (fail)
     go_wp2_with fail
     go_quiet (fail)
     go_wp2_with fail
     refine (fail_any rb s (j + 1) 3 _ (H4.out _)).mono ?_;rintro e w9 ⟨rfl,h9,g9⟩
     have H9:=Lib.hid h9
     have G9:=Lib.hid ((G4.out _).trans g9)
     clear h9 g9
     go_wp2_with fail
     exact ⟨rfl,IntEnd.no E1.out ⟨rfl,H9.out,G9.out⟩⟩
    ·have hd2:hexD u = some (bt s j - 97 + 10):=by unfold hexD;rw [if_neg (by omega),if_pos (by omega),hu];congr 1;omega
     have d48:decide (48 ≤ bt s j) = true:=decide_eq_true (by omega)
     have d57:decide (bt s j ≤ 57) = false:=decide_eq_false (by omega)
     have d97:decide (97 ≤ bt s j) = true:=decide_eq_true (by omega)
     have d102:decide (bt s j ≤ 102) = true:=decide_eq_true (by omega)
     have d65:decide (65 ≤ bt s j) = true:=decide_eq_true (by omega)
     have d70:decide (bt s j ≤ 70) = false:=decide_eq_false (by omega)
     have e1:V = unitL (gk - 1) (N * 16 + (bt s j - 97 + 10)) (s.toList.drop (j + 1)):=HSTEP.out _ hd2
     have e2:=HBD.out _ hd2
     have o1:=hex_or N (bt s j - 97 + 10) hN0 (by omega) (by omega) (by omega)
     have E1:=Lib.hid e1
     have E2:=Lib.hid e2
     have x1:IntKind.u8.wrap (bt s j - 97) = bt s j - 97:=wraps_u8 _ (by omega) (by omega)
     have x2:IntKind.u8.wrap (bt s j - 97 + 10) = bt s j - 97 + 10:=wraps_u8 _ (by omega) (by omega)
     clear hd2 e1 e2 hu
     go_wp2_with fail
     go_quiet (fail)
     go_wp2_with fail
     go_quiet (fail)
     go_wp2_with fail
     go_roundg (gk - 1)
     case measure => omega
     case rel => exact ⟨j + 1,i + 1,_,hj1,hig2,by go_num,rfl,E1,E2,H4.out _,G4.out _⟩
    ·have hd2:hexD u = none:=by unfold hexD;rw [if_neg (by omega),if_neg (by omega),if_neg (by omega)]
     have d48:decide (48 ≤ bt s j) = true:=decide_eq_true (by omega)
     have d57:decide (bt s j ≤ 57) = false:=decide_eq_false (by omega)
     have d97:decide (97 ≤ bt s j) = true:=decide_eq_true (by omega)
     have d102:decide (bt s j ≤ 102) = false:=decide_eq_false (by omega)
     have d65:decide (65 ≤ bt s j) = true:=decide_eq_true (by omega)
     have d70:decide (bt s j ≤ 70) = false:=decide_eq_false (by omega)
     have E1:=Lib.hid (HNO.out hd2)
     clear hd2 hu
     go_wp2_with fail
     go_quiet (fail)
     go_wp2_with fail
     go_quiet (fail)
     go_wp2_with fail
     refine (fail_any rb s (j + 1) 3 _ (H4.out _)).mono ?_;rintro e w9 ⟨rfl,h9,g9⟩
     have H9:=Lib.hid h9
     have G9:=Lib.hid ((G4.out _).trans g9)
     clear h9 g9
     go_wp2_with fail
     exact ⟨rfl,IntEnd.no E1.out ⟨rfl,H9.out,G9.out⟩⟩
   ·have ne1:((j:Int) == (s.size:Int)) = true:=by rw [beq_iff_eq];omega
    have E1:Hid (V = none):=by
     show _ = _
     rw [hv.out,hgs,drop_end s j (by omega)]
     conv => lhs;unfold unitL
    have H5:Hid (∀ n,RdSt (wo.drewN n) rb s j):=fun n => h0.out
    have G5:Hid (∀ n,w.grownBy (wo.drewN n) (some rb)):=fun n => grown_drewN hw.out n
    clear hpb hgs
    go_wp2_with fail
    go_quiet (fail)
    go_wp2_with fail
    refine (fail_any rb s j 3 _ (H5.out _)).mono ?_;rintro e w9 ⟨rfl,h9,g9⟩
    have H9:=Lib.hid h9
    have G9:=Lib.hid ((G5.out _).trans g9)
    clear h9 g9
    go_wp2_with fail
    exact ⟨rfl,IntEnd.no E1.out ⟨rfl,H9.out,G9.out⟩⟩
  ·have di:decide ((i:Int) < 4) = false:=decide_eq_false (by omega)
   obtain rfl:gk = 0:=by omega
   have E1:Hid (V = some (N,s.toList.drop j)):=by show _ = _;rw [hv.out];unfold unitL;rfl
   go_wp2_with fail
   go_ret
   exact IntEnd.yes E1.out ⟨rfl,j,hj,rfl,h0.out,hw.out⟩
theorem and1023 (x:Int) (h₀:0 ≤ x) (h₁:x < 9223372036854775808):bits .and .i64 x 1023 = x % 1024:=i64_mask 10 (by decide) x h₀ h₁
theorem two_lit:(⟨#[92,117]⟩:ByteArray).toList = [92,117]:=by rw [ByteArray.toList_eq]
set_option maxRecDepth 100000 in
set_option maxHeartbeats 4000000 in
theorem point_any (rb:Nat) (s:ByteArray) (k:Nat) (w:World) (h:RdSt w rb s k) (hk:k ≤ s.size) (hs:s.size ≤ 1000000) :
  Calls Tryd.prog 84 #[.pointer (some (qa rb 0))] w (IntEnd rb s (pointL (s.toList.drop k)) w):=by
 obtain ⟨V,hV⟩:∃ V,V = pointL (s.toList.drop k):=⟨_,rfl⟩
 rw [← hV]
 have hu1:=unit_any rb s k w h hk hs
 have hbd:=unitL_bd 4 0 (s.toList.drop k)
 unfold pointL at hV
 cases hq:unitL 4 0 (s.toList.drop k) with
 | none =>
  rw [hq] at hu1 hV
  have E1:Hid (V = none):=hV
  have HU1:=Lib.hid (show Calls Tryd.prog 94 #[.pointer (some (qa rb 0))] w (Failed rb s 3 w) from hu1)
  clear hu1 hV hbd h hq
  go_enter Tryd.func84,Tryd.ntmps84
  go_wp2_with fail
  refine HU1.out.mono ?_;rintro e w9 ⟨rfl,h9,g9⟩
  have H9:=Lib.hid h9
  have G9:=Lib.hid g9
  clear h9 g9
  go_wp2_with fail
  exact ⟨rfl,IntEnd.no E1.out ⟨rfl,H9.out,G9.out⟩⟩
 | some p =>
  obtain ⟨n,r⟩:=p
  rw [hq] at hu1 hV
  have hbn:=hbd n r (by omega) hq
  have n0:0 ≤ n:=hbn.1
  have n1:n < 65536:=by have:=hbn.2;simpa using this
  replace hV:V = if n < 55296 ∨ 57343 < n then some (n,r) else if 56320 ≤ n then none else if r.take 2 = [92,117] then
   (match unitL 4 0 (r.drop 2) with
   | none => none
   | some (low,r2) => if low < 56320 ∨ 57343 < low then none else some (65536 + (n % 1024) * 1024 + low % 1024,r2))
  else none:=hV
  have HU1:=Lib.hid (show Calls Tryd.prog 94 #[.pointer (some (qa rb 0))] w (fun e w' => e = .returned (.int .i64 n) ∧ RdTo rb s r w w') from hu1)
  have HV:=Lib.hid hV
  clear hu1 hV hbd h hq hbn
  by_cases a:n < 55296
  ·have E1:Hid (V = some (n,r)):=by show _ = _;rw [HV.out,if_pos (.inl a)]
   go_enter Tryd.func84,Tryd.ntmps84
   go_wp2_with fail
   refine HU1.out.mono ?_;rintro e w1 ⟨rfl,k1,hk1,hd1,h1,g1⟩
   have H1:=Lib.hid h1
   have G1:=Lib.hid g1
   have D1:=Lib.hid hd1
   clear h1 g1 hd1
   go_wp2_with fail
   go_ret
   exact IntEnd.yes E1.out ⟨rfl,k1,hk1,D1.out,H1.out,G1.out⟩
  by_cases b:57343 < n
  ·have E1:Hid (V = some (n,r)):=by show _ = _;rw [HV.out,if_pos (.inr b)]
   go_enter Tryd.func84,Tryd.ntmps84
   go_wp2_with fail
   refine HU1.out.mono ?_;rintro e w1 ⟨rfl,k1,hk1,hd1,h1,g1⟩
   have H1:=Lib.hid h1
   have G1:=Lib.hid g1
   have D1:=Lib.hid hd1
   clear h1 g1 hd1
   go_wp2_with fail
   go_ret
   exact IntEnd.yes E1.out ⟨rfl,k1,hk1,D1.out,H1.out,G1.out⟩
  by_cases c:56320 ≤ n
  ·have E1:Hid (V = none):=by show _ = _;rw [HV.out,if_neg (by omega),if_pos c]
   go_enter Tryd.func84,Tryd.ntmps84
   go_wp2_with fail
   refine HU1.out.mono ?_;rintro e w1 ⟨rfl,k1,hk1,hd1,h1,g1⟩
   have H1:=Lib.hid h1
   have G1:=Lib.hid g1
   have D1:=Lib.hid hd1
   clear h1 g1 hd1
   go_wp2_with fail
   refine (fail_any rb s k1 3 _ H1.out).mono ?_;rintro e w9 ⟨rfl,h9,g9⟩
   have H9:=Lib.hid h9
   have G9:=Lib.hid (G1.out.trans g9)
   clear h9 g9
   go_wp2_with fail
   exact ⟨rfl,IntEnd.no E1.out ⟨rfl,H9.out,G9.out⟩⟩
  by_cases q:r.take 2 = [92,117]
  case neg =>
   have E1:Hid (V = none):=by show _ = _;rw [HV.out,if_neg (by omega),if_neg c,if_neg q]
   have HQ:=Lib.hid q
   clear q
   go_enter Tryd.func84,Tryd.ntmps84
   go_wp2_with fail
   refine HU1.out.mono ?_;rintro e w1 ⟨rfl,k1,hk1,hd1,h1,g1⟩
   have H1:=Lib.hid h1
   have G1:=Lib.hid g1
   have D1:=Lib.hid hd1
   clear h1 g1 hd1
   go_wp2_with fail
   refine (must_no rb s ⟨#[92,117]⟩ k1 _ H1.out hk1 hs (by decide) (by rw [D1.out,two_lit];exact HQ.out)).mono ?_;rintro e w9 ⟨rfl,h9,g9⟩
   have H9:=Lib.hid h9
   have G9:=Lib.hid (G1.out.trans g9)
   clear h9 g9
   go_wp2_with fail
   exact ⟨rfl,IntEnd.no E1.out ⟨rfl,H9.out,G9.out⟩⟩
  have HQ:=Lib.hid q
  clear q
  cases hq2:unitL 4 0 (r.drop 2) with
  | none =>
   have E1:Hid (V = none):=by show _ = _;rw [HV.out,if_neg (by omega),if_neg c,if_pos HQ.out,hq2]
   have HQ2:=Lib.hid hq2
   clear hq2
   go_enter Tryd.func84,Tryd.ntmps84
   go_wp2_with fail
   refine HU1.out.mono ?_;rintro e w1 ⟨rfl,k1,hk1,hd1,h1,g1⟩
   have H1:=Lib.hid h1
   have G1:=Lib.hid g1
   have D1:=Lib.hid hd1
   clear h1 g1 hd1
   go_wp2_with fail
   refine (must_yes rb s ⟨#[92,117]⟩ k1 _ H1.out hk1 hs (by rw [D1.out,two_lit];exact HQ.out)).mono ?_;rintro e w2 ⟨rfl,k2,hk2,hd2,h2,g2⟩
   have G2:=Lib.hid (G1.out.trans g2)
   have hu2:=unit_any rb s k2 w2 h2 hk2 hs
   rw [hd2,D1.out,show ({ data:=#[92,117] }:ByteArray).size = 2 from rfl,HQ2.out] at hu2
   have HU2:=Lib.hid (show Calls Tryd.prog 94 #[.pointer (some (qa rb 0))] w2 (Failed rb s 3 w2) from hu2)
   clear hu2 h2 g2 hd2
   go_wp2_with fail
   refine HU2.out.mono ?_;rintro e w9 ⟨rfl,h9,g9⟩
   have H9:=Lib.hid h9
   have G9:=Lib.hid (G2.out.trans g9)
   clear h9 g9
   go_wp2_with fail
   exact ⟨rfl,IntEnd.no E1.out ⟨rfl,H9.out,G9.out⟩⟩
  | some p =>
   obtain ⟨m,r2⟩:=p
   have hbm:=unitL_bd 4 0 (r.drop 2) m r2 (by omega) hq2
   have m0:0 ≤ m:=hbm.1
   have m1:m < 65536:=by have:=hbm.2;simpa using this
   have HV2:Hid (V = if m < 56320 ∨ 57343 < m then none else some (65536 + (n % 1024) * 1024 + m % 1024,r2)):=by show _ = _;rw [HV.out,if_neg (by omega),if_neg c,if_pos HQ.out,hq2]
   have HQ2:=Lib.hid hq2
   clear hq2 hbm HV
   have and1:=and1023 n n0 (by omega)
   have and2:=and1023 m m0 (by omega)
   have sh:0 ≤ n % 1024 ∧ n % 1024 < 1024:=by omega
   have sh2:0 ≤ m % 1024 ∧ m % 1024 < 1024:=by omega
   by_cases x:m < 56320
   ·have E1:Hid (V = none):=by show _ = _;rw [HV2.out,if_pos (.inl x)]
    go_enter Tryd.func84,Tryd.ntmps84
    go_wp2_with fail
    refine HU1.out.mono ?_;rintro e w1 ⟨rfl,k1,hk1,hd1,h1,g1⟩
    have H1:=Lib.hid h1
    have G1:=Lib.hid g1
    have D1:=Lib.hid hd1
    clear h1 g1 hd1
    go_wp2_with fail
    refine (must_yes rb s ⟨#[92,117]⟩ k1 _ H1.out hk1 hs (by rw [D1.out,two_lit];exact HQ.out)).mono ?_;rintro e w2 ⟨rfl,k2,hk2,hd2,h2,g2⟩
    have G2:=Lib.hid (G1.out.trans g2)
    have hu2:=unit_any rb s k2 w2 h2 hk2 hs
    rw [hd2,D1.out,show ({ data:=#[92,117] }:ByteArray).size = 2 from rfl,HQ2.out] at hu2
    have HU2:=Lib.hid (show Calls Tryd.prog 94 #[.pointer (some (qa rb 0))] w2 (fun e w' => e = .returned (.int .i64 m) ∧ RdTo rb s r2 w2 w') from hu2)
    clear hu2 h2 g2 hd2
    go_wp2_with fail
    refine HU2.out.mono ?_;rintro e w3 ⟨rfl,k3,hk3,hd3,h3,g3⟩
    have H3:=Lib.hid h3
    have G3:=Lib.hid (G2.out.trans g3)
    have D3:=Lib.hid hd3
    clear h3 g3 hd3
    go_wp2_with fail
    refine (fail_any rb s k3 3 _ H3.out).mono ?_;rintro e w9 ⟨rfl,h9,g9⟩
    have H9:=Lib.hid h9
    have G9:=Lib.hid (G3.out.trans g9)
    clear h9 g9
    go_wp2_with fail
    exact ⟨rfl,IntEnd.no E1.out ⟨rfl,H9.out,G9.out⟩⟩
   have y1:¬ m < 56320:=x
   clear x
   by_cases x:57343 < m
   ·have E1:Hid (V = none):=by show _ = _;rw [HV2.out,if_pos (.inr x)]
    go_enter Tryd.func84,Tryd.ntmps84
    go_wp2_with fail
    refine HU1.out.mono ?_;rintro e w1 ⟨rfl,k1,hk1,hd1,h1,g1⟩
    have H1:=Lib.hid h1
    have G1:=Lib.hid g1
    have D1:=Lib.hid hd1
    clear h1 g1 hd1
    go_wp2_with fail
    refine (must_yes rb s ⟨#[92,117]⟩ k1 _ H1.out hk1 hs (by rw [D1.out,two_lit];exact HQ.out)).mono ?_;rintro e w2 ⟨rfl,k2,hk2,hd2,h2,g2⟩
    have G2:=Lib.hid (G1.out.trans g2)
    have hu2:=unit_any rb s k2 w2 h2 hk2 hs
    rw [hd2,D1.out,show ({ data:=#[92,117] }:ByteArray).size = 2 from rfl,HQ2.out] at hu2
    have HU2:=Lib.hid (show Calls Tryd.prog 94 #[.pointer (some (qa rb 0))] w2 (fun e w' => e = .returned (.int .i64 m) ∧ RdTo rb s r2 w2 w') from hu2)
    clear hu2 h2 g2 hd2
    go_wp2_with fail
    refine HU2.out.mono ?_;rintro e w3 ⟨rfl,k3,hk3,hd3,h3,g3⟩
    have H3:=Lib.hid h3
    have G3:=Lib.hid (G2.out.trans g3)
    have D3:=Lib.hid hd3
    clear h3 g3 hd3
    go_wp2_with fail
    refine (fail_any rb s k3 3 _ H3.out).mono ?_;rintro e w9 ⟨rfl,h9,g9⟩
    have H9:=Lib.hid h9
    have G9:=Lib.hid (G3.out.trans g9)
    clear h9 g9
    go_wp2_with fail
    exact ⟨rfl,IntEnd.no E1.out ⟨rfl,H9.out,G9.out⟩⟩
   have y2:¬ 57343 < m:=x
   clear x
   have E1:Hid (V = some (65536 + (n % 1024) * 1024 + m % 1024,r2)):=by show _ = _;rw [HV2.out,if_neg (by omega)]
   go_enter Tryd.func84,Tryd.ntmps84
   go_wp2_with fail
   refine HU1.out.mono ?_;rintro e w1 ⟨rfl,k1,hk1,hd1,h1,g1⟩
   have H1:=Lib.hid h1
   have G1:=Lib.hid g1
   have D1:=Lib.hid hd1
   clear h1 g1 hd1
   go_wp2_with fail
   refine (must_yes rb s ⟨#[92,117]⟩ k1 _ H1.out hk1 hs (by rw [D1.out,two_lit];exact HQ.out)).mono ?_;rintro e w2 ⟨rfl,k2,hk2,hd2,h2,g2⟩
   have G2:=Lib.hid (G1.out.trans g2)
   have hu2:=unit_any rb s k2 w2 h2 hk2 hs
   rw [hd2,D1.out,show ({ data:=#[92,117] }:ByteArray).size = 2 from rfl,HQ2.out] at hu2
   have HU2:=Lib.hid (show Calls Tryd.prog 94 #[.pointer (some (qa rb 0))] w2 (fun e w' => e = .returned (.int .i64 m) ∧ RdTo rb s r2 w2 w') from hu2)
   clear hu2 h2 g2 hd2
   go_wp2_with fail
   refine HU2.out.mono ?_;rintro e w3 ⟨rfl,k3,hk3,hd3,h3,g3⟩
   have H3:=Lib.hid h3
   have G3:=Lib.hid (G2.out.trans g3)
   have D3:=Lib.hid hd3
   clear h3 g3 hd3
   go_wp2_with fail
   go_ret
   exact IntEnd.yes E1.out ⟨rfl,k3,hk3,D3.out,H3.out,G3.out⟩
def StrEnd (rb:Nat) (s:ByteArray) (r:Option (List UInt8 × List UInt8)) (w:World) (e:Ending) (w':World):Prop:=
 match r with
 | none => Failed rb s 3 w e w'
 | some (b,l) => e = .returned (.string ⟨b.toArray⟩) ∧ RdTo rb s l w w'
theorem StrEnd.no {rb:Nat} {s:ByteArray} {r:Option (List UInt8 × List UInt8)} {w:World} {e:Ending} {w':World} (hr:r = none) (h:Failed rb s 3 w e w'):StrEnd rb s r w e w':=by subst hr;exact h
theorem StrEnd.yes {rb:Nat} {s:ByteArray} {r:Option (List UInt8 × List UInt8)} {b l:List UInt8} {w:World} {e:Ending} {w':World} (hr:r = some (b,l)) (h:e = .returned (.string ⟨b.toArray⟩) ∧ RdTo rb s l w w'):StrEnd rb s r w e w':=by subst hr;exact h
theorem put_arr (n:Int):put n = ⟨(putB n).toArray⟩:=by
 have:=put_toList n
 rw [ByteArray.toList_eq] at this
 cases h:put n with
 | mk d => rw [h] at this;simp at this;rw [← this]
set_option maxRecDepth 100000 in
set_option maxHeartbeats 4000000 in
theorem escape_any (rb:Nat) (s:ByteArray) (k:Nat) (w:World) (h:RdSt w rb s k) (hk:k ≤ s.size) (hs:s.size ≤ 1000000) :
  Calls Tryd.prog 74 #[.pointer (some (qa rb 0))] w (StrEnd rb s (escL (s.toList.drop k)) w):=by
 obtain ⟨V,hV⟩:∃ V,V = escL (s.toList.drop k):=⟨_,rfl⟩
 rw [← hV]
 have hb:=get_bt s
 have H0:=Lib.hid h
 obtain ⟨c0,c1,c2⟩:=h.cells3
 have f1:=h.frozen 1
 have i0:(0:Int) ≤ (k:Int):=by omega
 by_cases hlt:k < s.size
 case neg =>
  have ne1:((k:Int) == (s.size:Int)) = true:=by rw [beq_iff_eq];omega
  have E1:Hid (V = none):=by show _ = _;rw [hV,drop_end s k (by omega)];rfl
  have H5:Hid (∀ n,RdSt (w.drewN n) rb s k):=fun n => h
  clear h hV
  go_enter Tryd.func74,Tryd.ntmps74
  go_wp2_with fail
  go_quiet (fail)
  go_wp2_with fail
  refine (fail_any rb s k 3 _ (H5.out _)).mono ?_;rintro e w9 ⟨rfl,h9,g9⟩
  have H9:=Lib.hid h9
  have G9:=Lib.hid ((grown_drewN (grown_refl _ _) _).trans g9)
  clear h9 g9
  go_wp2_with fail
  exact ⟨rfl,StrEnd.no E1.out ⟨rfl,H9.out,G9.out⟩⟩
 obtain ⟨u,hu,hd⟩:=drop_cons s k hlt
 have i1:(k:Int) < (s.size:Int):=by omega
 have ne1:((k:Int) == (s.size:Int)) = false:=by rw [beq_eq_false_iff_ne];omega
 have b0:=bt_nonneg s k
 have b1:=bt_le s k
 have hj1:k + 1 ≤ s.size:=by omega
 rw [hd] at hV
 have HV:=Lib.hid hV
 have HU:=Lib.hid hu
 have HEQ:Hid (∀ (x:UInt8) (n:Int),(x.toNat:Int) = n → bt s k = n → u = x):=fun x n h1 h2 => UInt8.toNat_inj.1 (by omega)
 have HNE:Hid (∀ (x:UInt8) (n:Int),(x.toNat:Int) = n → ¬ bt s k = n → ¬ u = x):=fun x n h1 h2 h3 => h2 (by rw [hu,h3];exact h1)
 have H4:Hid (∀ n,RdSt ((w.drewN n).setCell (qa rb 1) (.int .i64 ((k:Int) + 1))) rb s (k + 1)):=fun n => by
  have:=(show Blk (w.drewN n) rb 77 #[.string s,.int .i64 k,.int .i64 0] from H0.out).set_ 1 (.int .i64 ((k + 1:Nat):Int))
  exact this
 have G4:Hid (∀ n,w.grownBy ((w.drewN n).setCell (qa rb 1) (.int .i64 ((k:Int) + 1))) (some rb)):=fun n => grown_set (grown_drewN (grown_refl _ _) _) 1 _
 clear hV hu hd h
 by_cases q34:bt s k = 34
 ·have E1:Hid (V = some ([34],s.toList.drop (k + 1))):=by show _ = _;rw [HV.out];unfold escL;simp only;rw [if_pos (.inl (HEQ.out 34 34 rfl q34)),HEQ.out 34 34 rfl q34]
  have hcv:∀ n,(convert 52 9 (.slice (some (qa w.heap.size 0)) 1 1)).run Tryd.prog (((w.drewN n).setCell (qa rb 1) (.int .i64 ((k:Int) + 1))).alloc (.cells #[.int .u8 34] 5)) = .ok (.string (strOfNums [34])) (((w.drewN n).setCell (qa rb 1) (.int .i64 ((k:Int) + 1))).alloc (.cells #[.int .u8 34] 5)):=fun n => by
   have hc:=conv1 (P:=Tryd.prog) 52 9 5 Tryd.underlying52 Tryd.underlying5 Tryd.underlying9 ((w.drewN n).setCell (qa rb 1) (.int .i64 ((k:Int) + 1))) 34 1
   rw [show ((w.drewN n).setCell (qa rb 1) (.int .i64 ((k:Int) + 1))).heap.size = w.heap.size by simp] at hc
   exact hc
  go_enter Tryd.func74,Tryd.ntmps74
  go_wp2_with fail
  go_quiet (fail)
  go_wp2_with fail
  go_quiet (fail)
  go_wp2_with fail
  go_ret
  refine StrEnd.yes E1.out ⟨rfl,k + 1,hj1,rfl,?_,?_⟩
  ·exact Blk.alloc (H4.out _) _
  ·exact grown_alloc (G4.out _) _
 have n34:(bt s k == 34) = false:=by rw [beq_eq_false_iff_ne];exact q34
 by_cases q92:bt s k = 92
 ·have E1:Hid (V = some ([92],s.toList.drop (k + 1))):=by show _ = _;rw [HV.out];unfold escL;simp only;rw [if_pos (.inr (.inl (HEQ.out 92 92 rfl q92))),HEQ.out 92 92 rfl q92]
  have hcv:∀ n,(convert 52 9 (.slice (some (qa w.heap.size 0)) 1 1)).run Tryd.prog (((w.drewN n).setCell (qa rb 1) (.int .i64 ((k:Int) + 1))).alloc (.cells #[.int .u8 92] 5)) = .ok (.string (strOfNums [92])) (((w.drewN n).setCell (qa rb 1) (.int .i64 ((k:Int) + 1))).alloc (.cells #[.int .u8 92] 5)):=fun n => by
   have hc:=conv1 (P:=Tryd.prog) 52 9 5 Tryd.underlying52 Tryd.underlying5 Tryd.underlying9 ((w.drewN n).setCell (qa rb 1) (.int .i64 ((k:Int) + 1))) 92 1
   rw [show ((w.drewN n).setCell (qa rb 1) (.int .i64 ((k:Int) + 1))).heap.size = w.heap.size by simp] at hc
   exact hc
  go_enter Tryd.func74,Tryd.ntmps74
  go_wp2_with fail
  go_quiet (fail)
  go_wp2_with fail
  go_quiet (fail)
  go_wp2_with fail
  go_ret
  refine StrEnd.yes E1.out ⟨rfl,k + 1,hj1,rfl,?_,?_⟩
  ·exact Blk.alloc (H4.out _) _
  ·exact grown_alloc (G4.out _) _
 have n92:(bt s k == 92) = false:=by rw [beq_eq_false_iff_ne];exact q92
 by_cases q47:bt s k = 47
 ·have E1:Hid (V = some ([47],s.toList.drop (k + 1))):=by show _ = _;rw [HV.out];unfold escL;simp only;rw [if_pos (.inr (.inr (HEQ.out 47 47 rfl q47))),HEQ.out 47 47 rfl q47]
  have hcv:∀ n,(convert 52 9 (.slice (some (qa w.heap.size 0)) 1 1)).run Tryd.prog (((w.drewN n).setCell (qa rb 1) (.int .i64 ((k:Int) + 1))).alloc (.cells #[.int .u8 47] 5)) = .ok (.string (strOfNums [47])) (((w.drewN n).setCell (qa rb 1) (.int .i64 ((k:Int) + 1))).alloc (.cells #[.int .u8 47] 5)):=fun n => by
   have hc:=conv1 (P:=Tryd.prog) 52 9 5 Tryd.underlying52 Tryd.underlying5 Tryd.underlying9 ((w.drewN n).setCell (qa rb 1) (.int .i64 ((k:Int) + 1))) 47 1
   rw [show ((w.drewN n).setCell (qa rb 1) (.int .i64 ((k:Int) + 1))).heap.size = w.heap.size by simp] at hc
   exact hc
  go_enter Tryd.func74,Tryd.ntmps74
  go_wp2_with fail
  go_quiet (fail)
  go_wp2_with fail
  go_quiet (fail)
  go_wp2_with fail
  go_ret
  refine StrEnd.yes E1.out ⟨rfl,k + 1,hj1,rfl,?_,?_⟩
  ·exact Blk.alloc (H4.out _) _
  ·exact grown_alloc (G4.out _) _
 have n47:(bt s k == 47) = false:=by rw [beq_eq_false_iff_ne];exact q47
 have HQ3:Hid (¬ (u = 34 ∨ u = 92 ∨ u = 47)):=by rintro (h | h | h);exact HNE.out 34 34 rfl q34 h;exact HNE.out 92 92 rfl q92 h;exact HNE.out 47 47 rfl q47 h
 clear q34 q92 q47
 by_cases q98:bt s k = 98
 ·have E1:Hid (V = some ([8],s.toList.drop (k + 1))):=by show _ = _;rw [HV.out];unfold escL;simp only;rw [if_neg HQ3.out,if_pos (HEQ.out 98 98 rfl q98)]
  go_enter Tryd.func74,Tryd.ntmps74
  go_wp2_with fail
  go_quiet (fail)
  go_wp2_with fail
  go_quiet (fail)
  go_wp2_with fail
  go_ret
  exact StrEnd.yes E1.out ⟨rfl,k + 1,hj1,rfl,H4.out _,G4.out _⟩
 have n98:(bt s k == 98) = false:=by rw [beq_eq_false_iff_ne];exact q98
 have Q98:=Lib.hid (HNE.out 98 98 rfl q98)
 clear q98
 by_cases q102:bt s k = 102
 ·have E1:Hid (V = some ([12],s.toList.drop (k + 1))):=by show _ = _;rw [HV.out];unfold escL;simp only;rw [if_neg HQ3.out,if_neg Q98.out,if_pos (HEQ.out 102 102 rfl q102)]
  go_enter Tryd.func74,Tryd.ntmps74
  go_wp2_with fail
  go_quiet (fail)
  go_wp2_with fail
  go_quiet (fail)
  go_wp2_with fail
  go_ret
  exact StrEnd.yes E1.out ⟨rfl,k + 1,hj1,rfl,H4.out _,G4.out _⟩
 have n102:(bt s k == 102) = false:=by rw [beq_eq_false_iff_ne];exact q102
 have Q102:=Lib.hid (HNE.out 102 102 rfl q102)
 clear q102
 by_cases q110:bt s k = 110
 ·have E1:Hid (V = some ([10],s.toList.drop (k + 1))):=by show _ = _;rw [HV.out];unfold escL;simp only;rw [if_neg HQ3.out,if_neg Q98.out,if_neg Q102.out,if_pos (HEQ.out 110 110 rfl q110)]
  go_enter Tryd.func74,Tryd.ntmps74
  go_wp2_with fail
  go_quiet (fail)
  go_wp2_with fail
  go_quiet (fail)
  go_wp2_with fail
  go_ret
  exact StrEnd.yes E1.out ⟨rfl,k + 1,hj1,rfl,H4.out _,G4.out _⟩
 have n110:(bt s k == 110) = false:=by rw [beq_eq_false_iff_ne];exact q110
 have Q110:=Lib.hid (HNE.out 110 110 rfl q110)
 clear q110
 by_cases q114:bt s k = 114
 ·have E1:Hid (V = some ([13],s.toList.drop (k + 1))):=by show _ = _;rw [HV.out];unfold escL;simp only;rw [if_neg HQ3.out,if_neg Q98.out,if_neg Q102.out,if_neg Q110.out,if_pos (HEQ.out 114 114 rfl q114)]
  go_enter Tryd.func74,Tryd.ntmps74
  go_wp2_with fail
  go_quiet (fail)
  go_wp2_with fail
  go_quiet (fail)
  go_wp2_with fail
  go_ret
  exact StrEnd.yes E1.out ⟨rfl,k + 1,hj1,rfl,H4.out _,G4.out _⟩
 have n114:(bt s k == 114) = false:=by rw [beq_eq_false_iff_ne];exact q114
 have Q114:=Lib.hid (HNE.out 114 114 rfl q114)
 clear q114
 by_cases q116:bt s k = 116
 ·have E1:Hid (V = some ([9],s.toList.drop (k + 1))):=by show _ = _;rw [HV.out];unfold escL;simp only;rw [if_neg HQ3.out,if_neg Q98.out,if_neg Q102.out,if_neg Q110.out,if_neg Q114.out,if_pos (HEQ.out 116 116 rfl q116)]
  go_enter Tryd.func74,Tryd.ntmps74
  go_wp2_with fail
  go_quiet (fail)
  go_wp2_with fail
  go_quiet (fail)
  go_wp2_with fail
  go_ret
  exact StrEnd.yes E1.out ⟨rfl,k + 1,hj1,rfl,H4.out _,G4.out _⟩
 have n116:(bt s k == 116) = false:=by rw [beq_eq_false_iff_ne];exact q116
 have Q116:=Lib.hid (HNE.out 116 116 rfl q116)
 clear q116
 by_cases q117:bt s k = 117
 ·have HV2:Hid (V = match pointL (s.toList.drop (k + 1)) with
   | none => none
   | some (n,r2) => some (putB n,r2)):=by show _ = _;rw [HV.out];unfold escL;simp only;rw [if_neg HQ3.out,if_neg Q98.out,if_neg Q102.out,if_neg Q110.out,if_neg Q114.out,if_neg Q116.out,if_pos (HEQ.out 117 117 rfl q117)];rfl
  have HPT:Hid (∀ n,Calls Tryd.prog 84 #[.pointer (some (qa rb 0))] ((w.drewN n).setCell (qa rb 1) (.int .i64 ((k:Int) + 1))) (IntEnd rb s (pointL (s.toList.drop (k + 1))) ((w.drewN n).setCell (qa rb 1) (.int .i64 ((k:Int) + 1))))):=fun n => point_any rb s (k + 1) _ (H4.out n) hj1 hs
  cases hq:pointL (s.toList.drop (k + 1)) with
  | none =>
   rw [hq] at HPT HV2
   have E1:Hid (V = none):=HV2.out
   have HPT2:Hid (∀ n,Calls Tryd.prog 84 #[.pointer (some (qa rb 0))] ((w.drewN n).setCell (qa rb 1) (.int .i64 ((k:Int) + 1))) (Failed rb s 3 ((w.drewN n).setCell (qa rb 1) (.int .i64 ((k:Int) + 1))))):=HPT.out
   clear hq HPT HV2
   go_enter Tryd.func74,Tryd.ntmps74
   go_wp2_with fail
   go_quiet (fail)
   go_wp2_with fail
   go_quiet (fail)
   go_wp2_with fail
   refine (HPT2.out _).mono ?_;rintro e w9 ⟨rfl,h9,g9⟩
   have H9:=Lib.hid h9
   have G9:=Lib.hid ((G4.out _).trans g9)
   clear h9 g9
   go_wp2_with fail
   exact ⟨rfl,StrEnd.no E1.out ⟨rfl,H9.out,G9.out⟩⟩
  | some p =>
   obtain ⟨n,r⟩:=p
   rw [hq] at HPT HV2
   have E1:Hid (V = some (putB n,r)):=HV2.out
   have HPT2:Hid (∀ m,Calls Tryd.prog 84 #[.pointer (some (qa rb 0))] ((w.drewN m).setCell (qa rb 1) (.int .i64 ((k:Int) + 1))) (fun e w' => e = .returned (.int .i64 n) ∧ RdTo rb s r ((w.drewN m).setCell (qa rb 1) (.int .i64 ((k:Int) + 1))) w')):=HPT.out
   have HPUT:Hid (∀ w',Calls Tryd.prog 83 #[.int .i64 n] w' fun e w'' => e = .returned (.string (put n)) ∧ Below w'.heap.size w' w''):=fun w' => put_any n w'
   clear hq HPT HV2
   go_enter Tryd.func74,Tryd.ntmps74
   go_wp2_with fail
   go_quiet (fail)
   go_wp2_with fail
   go_quiet (fail)
   go_wp2_with fail
   refine (HPT2.out _).mono ?_;rintro e w1 ⟨rfl,k1,hk1,hd1,h1,g1⟩
   have H1:=Lib.hid h1
   have G1:=Lib.hid ((G4.out _).trans g1)
   have D1:=Lib.hid hd1
   clear h1 g1 hd1
   go_wp2_with fail
   refine (HPUT.out _).mono ?_;rintro e w2 ⟨rfl,hw2⟩
   have H2:Hid (RdSt w2 rb s k1):=H1.out.below hw2 H1.out.lt
   have G2:=Lib.hid (G1.out.trans (grown_below hw2))
   clear hw2
   go_wp2_with fail
   go_ret
   exact StrEnd.yes E1.out ⟨by rw [put_arr];rfl,k1,hk1,D1.out,H2.out,G2.out⟩
 have n117:(bt s k == 117) = false:=by rw [beq_eq_false_iff_ne];exact q117
 have E1:Hid (V = none):=by show _ = _;rw [HV.out];unfold escL;simp only;rw [if_neg HQ3.out,if_neg Q98.out,if_neg Q102.out,if_neg Q110.out,if_neg Q114.out,if_neg Q116.out,if_neg (HNE.out 117 117 rfl q117)]
 clear q117
 go_enter Tryd.func74,Tryd.ntmps74
 go_wp2_with fail
 go_quiet (fail)
 go_wp2_with fail
 go_quiet (fail)
 go_wp2_with fail
 refine (fail_any rb s (k + 1) 3 _ (H4.out _)).mono ?_;rintro e w9 ⟨rfl,h9,g9⟩
 have H9:=Lib.hid h9
 have G9:=Lib.hid ((G4.out _).trans g9)
 clear h9 g9
 go_wp2_with fail
 exact ⟨rfl,StrEnd.no E1.out ⟨rfl,H9.out,G9.out⟩⟩
theorem escL_len {l b r:List UInt8} (h:escL l = some (b,r)):b.length ≤ 4:=by
 unfold escL at h
 cases l with
 | nil => simp at h
 | cons c l =>
  simp only at h
  split at h
  ·cases h;simp
  split at h
  ·cases h;simp
  split at h
  ·cases h;simp
  split at h
  ·cases h;simp
  split at h
  ·cases h;simp
  split at h
  ·cases h;simp
  split at h
  ·split at h
   ·cases h
   ·cases h;exact putB_len _
  ·cases h
theorem KU.grown {B rb:Nat} {w w1 w2:World} (h:w.grownBy w1 (some rb)) (k:KU w.heap.size w1 w2):w.grownBy w2 (some rb):=
 ⟨k.1.os.trans h.os,k.1.tape.trans h.tape,k.1.output.trans h.output,Nat.le_trans h.size k.1.size,fun i hi hne => (k.1.block i hi).trans (h.block i hi hne)⟩
theorem OwnU.keepR {w w':World} {B rb:Nat} {v:Value} {l:List UInt8} (h:OwnU w B v l) (hg:w.grownBy w' (some rb)) (hr:rb < B):OwnU w' B v l:=by
 refine World.ownsRow.kept h hg (Or.inr ?_)
 intro e
 have:=(World.ownsRow.lt h rb e).1
 omega
theorem OwnU.form' {w:World} {B:Nat} {v:Value} {l:List UInt8} (h:OwnU w B v l):∃ A c,v = .slice A l.length c:=by
 rcases h.2 with ⟨rfl,hx⟩ | ⟨g,cap,cur,rfl,_⟩
 ·rw [nums_len] at hx;rw [hx];exact ⟨_,_,rfl⟩
 ·rw [nums_len];exact ⟨_,_,rfl⟩
set_option maxRecDepth 100000 in
theorem step_pushS {ops:Array Oper} {o:Oper} {a:Act} {w:World} {K:Act → World → Prop} {Q:Exit → Act → World → Prop} {E:Prop}
  (hg:o.guard = none) (s x:Operand) (hop:o.op = Op.call { callee:=Callee.builtin Builtin.append,args:=#[s,x],argTypes:=#[52,9] })
  (B:Nat) (v:Value) (l:List UInt8) (hs:a.eval s = v) (hown:OwnU w B v l) (t:ByteArray) (hx:a.eval x = .string t) (m:List UInt8) (hm:t.toList = m)
  (hlim:l.length + m.length ≤ 120000000000000) (hB:B ≤ w.heap.size)
  (hK:∀ v' w',OwnU w' B v' (l ++ m) → KU B w w' → K (a.put o.dst v') w') :
  if Region.wanted o (yielded ops a.tmps) = true then Oper.wp Tryd.prog o a w K Q else E:=by
 have hw:Region.wanted o (yielded ops a.tmps) = true:=by simp [Region.wanted,hg]
 rw [if_pos hw]
 obtain ⟨i0,hi0,hz0,hz1,hz2⟩:=info_parts u8Info
 have hts:t.size = m.length:=by rw [← hm];exact (tl_len' t).symm
 obtain ⟨v',w',h1,h2,h3,_⟩:=Lib.run_append_own_string (P:=Tryd.prog) w B 52 9 o.type 5 i0 Tryd.underlying52 Tryd.underlying9 hi0 hz0 hz1 hz2 v (nums l).length _ hown t
  (by rw [nums_len];simp only [maxLen];omega) (by rw [nums_len];omega) hB
 unfold Oper.wp execOp
 simp only [hop,resolve,invoke,builtin,Sem.run_bind,Sem.run_pure,Result.andThen_ok,List.map_toArray,List.map_cons,List.map_nil,hs,hx,h1]
 refine hK _ _ ?_ (KU.of_grown hown hB h3)
 have e:(nums (l ++ m)).map (Value.int .u8) = (nums l).map (Value.int .u8) ++ Lib.strCells t:=by
  rw [nums_app,List.map_append]
  congr 1
  subst hm
  rw [ByteArray.toList_eq]
  simp [nums,Lib.strCells]
 show w'.ownsRow B 5 1 v' (nums (l ++ m)).length ((nums (l ++ m)).map (Value.int .u8))
 rw [e,nums_app,List.length_append,nums_len m,← hts]
 exact h2
theorem len_drop (s:ByteArray) (k:Nat):(s.toList.drop k).length = s.size - k:=by rw [List.length_drop,toList_len]
set_option maxRecDepth 100000 in
set_option maxHeartbeats 4000000 in
theorem text_any (rb:Nat) (s:ByteArray) (k:Nat) (w:World) (h:RdSt w rb s k) (hk:k ≤ s.size) (hs:s.size ≤ 1000000) :
  Calls Tryd.prog 65 #[.pointer (some (qa rb 0))] w (StrEnd rb s (textL (s.toList.drop k)) w):=by
 obtain ⟨V,hV⟩:∃ V,V = textL (s.toList.drop k):=⟨_,rfl⟩
 rw [← hV]
 have hb:=get_bt s
 have hrb:rb < w.heap.size:=h.lt
 by_cases p34:(s.toList.drop k).take 1 = [34]
 case neg =>
  have E1:Hid (V = none):=by
   show _ = _
   rw [hV]
   unfold textL
   rw [if_neg]
   intro e
   apply p34
   cases hl:s.toList.drop k with
   | nil => rw [hl] at e;cases e
   | cons c t => rw [hl] at e;injection e with e;subst e;rfl
  have HM:=Lib.hid (must_no rb s ⟨#[34]⟩ k w h hk hs (by decide) (by rw [one_lit];exact p34))
  clear hV h p34
  go_enter Tryd.func65,Tryd.ntmps65
  go_wp2_with fail
  refine HM.out.mono ?_;rintro e w9 ⟨rfl,h9,g9⟩
  have H9:=Lib.hid h9
  have G9:=Lib.hid g9
  clear h9 g9
  go_wp2_with fail
  exact ⟨rfl,StrEnd.no E1.out ⟨rfl,H9.out,G9.out⟩⟩
 have HV:Hid (V = textT (s.toList.drop (k + 1)) []):=by
  show _ = _
  rw [hV]
  unfold textL
  cases hl:s.toList.drop k with
  | nil => rw [hl] at p34;cases p34
  | cons c t =>
   rw [hl] at p34
   have ec:c = 34:=by simpa using p34
   subst ec
   rw [if_pos (show (34 :: t:List UInt8).head? = some 34 from rfl),show s.toList.drop (k + 1) = t by rw [← List.drop_drop,hl];rfl]
   rfl
 have hm:=must_yes rb s ⟨#[34]⟩ k w h hk hs (by rw [one_lit];exact p34)
 have hkl:k < s.size:=by
  rcases Nat.lt_or_ge k s.size with h | h
  ·exact h
  ·rw [drop_end s k h] at p34;cases p34
 have HM:Hid (Calls Tryd.prog 66 #[.pointer (some (qa rb 0)),.string ⟨#[34]⟩] w fun e w' => e = .returned (.tuple #[]) ∧ RdSt w' rb s (k + 1) ∧ w.grownBy w' (some rb)):=hm.mono (by
  rintro e w' ⟨rfl,k',hk',hd,h2,g2⟩
  refine ⟨rfl,?_,g2⟩
  have e1:k' = k + 1:=by
   have e2:=congrArg List.length hd
   rw [List.length_drop,List.length_drop,List.length_drop,toList_len] at e2
   have:({ data:=#[34] }:ByteArray).size = 1:=rfl
   omega
  subst e1
  exact h2)
 clear hV h hm p34
 go_enter Tryd.func65,Tryd.ntmps65
 go_wp2_with fail
 refine HM.out.mono ?_;rintro e w1 ⟨rfl,h1,g1⟩
 have H1:=Lib.hid h1
 have G1:=Lib.hid g1
 clear h1 g1
 have O1:Hid (OwnU w1 w.heap.size (.slice none 0 0) []):=OwnU.nil _ _
 go_wp2_with fail
 go_loopg [3] (s.size - k) (fun g tv wr => ∃ (j:Nat) (acc:List UInt8) (A:Option Addr) (c:Nat),j ≤ s.size ∧ s.size - j ≤ g ∧ acc.length ≤ 4 * j ∧ tv = .slice A acc.length c ∧ Hid (OwnU wr w.heap.size (.slice A acc.length c) acc) ∧ Hid (V = textT (s.toList.drop j) acc) ∧ Hid (RdSt wr rb s j) ∧ Hid (w.grownBy wr (some rb)))
 case atStart => exact ⟨k + 1,[],none,0,hkl,by omega,by simp,rfl,O1,HV,H1,G1⟩
 case round =>
  clear H1 G1 O1 HV
  obtain ⟨j,acc,A,c,hj,hg,hac,rfl,ho,hv,h0,hw⟩:=hrel
  obtain ⟨wo,rfl⟩:∃ wo:World,wo = wr:=⟨_,rfl⟩
  obtain ⟨c0,c1,c2⟩:=h0.out.cells3
  have f1:=h0.out.frozen 1
  have i0:(0:Int) ≤ (j:Int):=by omega
  by_cases hlt:j < s.size
  case neg =>
   have ne1:((j:Int) == (s.size:Int)) = true:=by rw [beq_iff_eq];omega
   have E1:Hid (V = none):=by show _ = _;rw [hv.out,drop_end s j (by omega),textT_nil]
   have H5:Hid (∀ n,RdSt (wo.drewN n) rb s j):=fun n => h0.out
   have G5:Hid (∀ n,w.grownBy (wo.drewN n) (some rb)):=fun n => grown_drewN hw.out n
   go_wp2_with fail
   go_quiet (fail)
   go_wp2_with fail
   refine (fail_any rb s j 3 _ (H5.out _)).mono ?_;rintro e w9 ⟨rfl,h9,g9⟩
   have H9:=Lib.hid h9
   have G9:=Lib.hid ((G5.out _).trans g9)
   clear h9 g9
   go_wp2_with fail
   exact ⟨rfl,StrEnd.no E1.out ⟨rfl,H9.out,G9.out⟩⟩
  obtain ⟨u,hu,hd⟩:=drop_cons s j hlt
  have i1:(j:Int) < (s.size:Int):=by omega
  have ne1:((j:Int) == (s.size:Int)) = false:=by rw [beq_eq_false_iff_ne];omega
  have b0:=bt_nonneg s j
  have b1:=bt_le s j
  have H5:Hid (∀ n,RdSt (wo.drewN n) rb s j):=fun n => h0.out
  have G5:Hid (∀ n,w.grownBy (wo.drewN n) (some rb)):=fun n => grown_drewN hw.out n
  have O5:Hid (∀ n,OwnU (wo.drewN n) w.heap.size (.slice A acc.length c) acc):=fun n => ho.out
  have hst:=textT_cons u (s.toList.drop (j + 1)) acc
  rw [← hd,← hv.out] at hst
  have HST:=Lib.hid hst
  have HU:=Lib.hid hu
  have HD:=Lib.hid hd
  clear hu hd hst
  by_cases q32:bt s j < 32
  ·have E1:Hid (V = none):=by show _ = _;rw [HST.out,if_pos (by rw [UInt8.lt_iff_toNat_lt];have:=HU.out;have e:((32:UInt8).toNat) = 32:=rfl;omega)]
   have d32:decide (bt s j < 32) = true:=decide_eq_true q32
   go_wp2_with fail
   go_quiet (fail)
   go_wp2_with fail
   go_quiet (fail)
   go_wp2_with fail
   refine (fail_any rb s j 3 _ (H5.out _)).mono ?_;rintro e w9 ⟨rfl,h9,g9⟩
   have H9:=Lib.hid h9
   have G9:=Lib.hid ((G5.out _).trans g9)
   clear h9 g9
   go_wp2_with fail
   exact ⟨rfl,StrEnd.no E1.out ⟨rfl,H9.out,G9.out⟩⟩
  have d32:decide (bt s j < 32) = false:=decide_eq_false q32
  have HN32:Hid (¬ u < 32):=by show ¬ _;rw [UInt8.lt_iff_toNat_lt];have:=HU.out;have e:((32:UInt8).toNat) = 32:=rfl;omega
  clear q32
  by_cases q34:u = 34
  ·have E1:Hid (V = some (acc,s.toList.drop (j + 1))):=by show _ = _;rw [HST.out,if_neg HN32.out,if_pos q34]
   have HY:Hid (∀ n,Calls Tryd.prog 61 #[.pointer (some (qa rb 0)),.string ⟨#[34]⟩] (wo.drewN n) fun e w' => e = .returned (.bool true) ∧ RdTo rb s ((s.toList.drop j).drop 1) (wo.drewN n) w'):=fun n => may_yes rb s ⟨#[34]⟩ j _ (H5.out n) hj hs (by rw [HD.out,q34,one_lit];rfl)
   clear q34
   go_wp2_with fail
   go_quiet (fail)
   go_wp2_with fail
   go_quiet (fail)
   go_wp2_with fail
   refine (HY.out _).mono ?_;rintro e w2 ⟨rfl,k2,hk2,hd2,h2,g2⟩
   have hcv:=((O5.out _).keepR g2 hrb).conv
   have H2:=Lib.hid h2
   have G2:=Lib.hid ((G5.out _).trans g2)
   have D2:Hid (s.toList.drop k2 = s.toList.drop (j + 1)):=by show _ = _;rw [hd2,List.drop_drop]
   clear h2 g2 hd2
   go_wp2_with fail
   go_ret
   exact StrEnd.yes E1.out ⟨rfl,k2,hk2,D2.out,H2.out,G2.out⟩
  have HN34:=Lib.hid q34
  have HY:Hid (∀ n,Calls Tryd.prog 61 #[.pointer (some (qa rb 0)),.string ⟨#[34]⟩] (wo.drewN n) fun e w' => e = .returned (.bool false) ∧ RdSt w' rb s j ∧ (wo.drewN n).grownBy w' (some rb)):=fun n => may_no rb s ⟨#[34]⟩ j _ (H5.out n) hj hs (by decide) (by
   rw [HD.out,one_lit]
   intro e
   have e2:[u] = [34]:=e
   injection e2 with e2
   exact HN34.out e2)
  clear q34
  by_cases q92:u = 92
  ·have HST2:Hid (V = match escL (s.toList.drop (j + 1)) with
    | none => none
    | some (b,r2) => textT r2 (acc ++ b)):=by show _ = _;rw [HST.out,if_neg HN32.out,if_neg HN34.out,if_pos q92];rfl
   have HYB:Hid (∀ w2,RdSt w2 rb s j → Calls Tryd.prog 61 #[.pointer (some (qa rb 0)),.string ⟨#[92]⟩] w2 fun e w' => e = .returned (.bool true) ∧ RdTo rb s ((s.toList.drop j).drop 1) w2 w'):=fun w2 h2 => may_yes rb s ⟨#[92]⟩ j _ h2 hj hs (by rw [HD.out,q92,one_lit];rfl)
   clear q92
   go_wp2_with fail
   go_quiet (fail)
   go_wp2_with fail
   go_quiet (fail)
   go_wp2_with fail
   refine (HY.out _).mono ?_;rintro e w2 ⟨rfl,h2,g2⟩
   have H2:=Lib.hid h2
   have G2:=Lib.hid ((G5.out _).trans g2)
   have O2:=Lib.hid ((O5.out _).keepR g2 hrb)
   clear h2 g2
   go_wp2_with fail
   refine (HYB.out _ H2.out).mono ?_;rintro e w3 ⟨rfl,k3,hk3,hd3,h3,g3⟩
   have hk3j:k3 = j + 1:=by
    have e2:=congrArg List.length hd3
    rw [List.length_drop,List.length_drop,List.length_drop,toList_len] at e2
    omega
   subst hk3j
   have H3:=Lib.hid h3
   have G3:=Lib.hid (G2.out.trans g3)
   have O3:=Lib.hid (O2.out.keepR g3 hrb)
   clear h3 g3 hd3
   have hes:=escape_any rb s (j + 1) w3 H3.out hk3 hs
   cases hq:escL (s.toList.drop (j + 1)) with
   | none =>
    rw [hq] at hes HST2
    have E1:Hid (V = none):=HST2.out
    have HES:=Lib.hid (show Calls Tryd.prog 74 #[.pointer (some (qa rb 0))] w3 (Failed rb s 3 w3) from hes)
    clear hes hq HST2
    go_wp2_with fail
    refine HES.out.mono ?_;rintro e w9 ⟨rfl,h9,g9⟩
    have H9:=Lib.hid h9
    have G9:=Lib.hid (G3.out.trans g9)
    clear h9 g9
    go_wp2_with fail
    exact ⟨rfl,StrEnd.no E1.out ⟨rfl,H9.out,G9.out⟩⟩
   | some p =>
    obtain ⟨b,r⟩:=p
    rw [hq] at hes HST2
    have E1:Hid (V = textT r (acc ++ b)):=HST2.out
    have HES:=Lib.hid (show Calls Tryd.prog 74 #[.pointer (some (qa rb 0))] w3 (fun e w' => e = .returned (.string ⟨b.toArray⟩) ∧ RdTo rb s r w3 w') from hes)
    have hbl:=escL_len hq
    have hrl:=(escL_le hq).2
    rw [len_drop] at hrl
    have hbt:Hid ((⟨b.toArray⟩:ByteArray).toList = b):=by show _ = _;rw [ByteArray.toList_eq]
    clear hes hq HST2
    go_wp2_with fail
    refine HES.out.mono ?_;rintro e w4 ⟨rfl,k4,hk4,hd4,h4,g4⟩
    have hk4r:r.length = s.size - k4:=by rw [← hd4,len_drop]
    have hac2:(acc ++ b).length ≤ 4 * k4:=by rw [List.length_append];omega
    have hg4:s.size - k4 ≤ gk - 1:=by omega
    have hg0:0 < gk:=by omega
    have HAC2:=Lib.hid hac2
    have H4:=Lib.hid h4
    have G4:=Lib.hid (G3.out.trans g4)
    have O4:=Lib.hid (O3.out.keepR g4 hrb)
    have E4:Hid (V = textT (s.toList.drop k4) (acc ++ b)):=by show _ = _;rw [E1.out,hd4]
    have z4:w.heap.size ≤ w4.heap.size:=G4.out.size
    clear h4 g4 hd4 hac2 hk4r
    go_wp2_with (at_builtin;refine wpList_pushS _ rfl _ _ rfl w.heap.size _ acc rfl O4.out _ rfl b hbt.out (by omega) z4 ?_;intro v5 w5 n5 k5;obtain ⟨A5,c5,rfl⟩:=n5.form';have N5:=Lib.hid n5;have K5:=Lib.hid k5;clear n5 k5)
    have H5':Hid (RdSt w5 rb s k4):=H4.out.below K5.out.1 hrb
    have G5':Hid (w.grownBy w5 (some rb)):=KU.grown (B:=0) G4.out K5.out
    go_roundg (gk - 1)
    case measure => omega
    case rel => exact ⟨k4,acc ++ b,A5,c5,hk4,hg4,HAC2.out,(by first | rfl | (simp;done)),N5,E4,H5',G5'⟩
  have HN92:=Lib.hid q92
  have HYB:Hid (∀ w2,RdSt w2 rb s j → Calls Tryd.prog 61 #[.pointer (some (qa rb 0)),.string ⟨#[92]⟩] w2 fun e w' => e = .returned (.bool false) ∧ RdSt w' rb s j ∧ w2.grownBy w' (some rb)):=fun w2 h2 => may_no rb s ⟨#[92]⟩ j _ h2 hj hs (by decide) (by
   rw [HD.out,one_lit]
   intro e
   have e2:[u] = [92]:=e
   injection e2 with e2
   exact HN92.out e2)
  clear q92
  have HST2:Hid (V = match decL (s.toList.drop j) with
   | none => none
   | some (_,m) => textT ((s.toList.drop j).drop m) (acc ++ (s.toList.drop j).take m)):=by show _ = _;rw [HST.out,if_neg HN32.out,if_neg HN34.out,if_neg HN92.out,HD.out];rfl
  have HGT:Hid (∀ w',Calls Tryd.prog 75 #[.string s,.int .i64 j] w' (GetEnd (getL s.toList j) w')):=get_fn s j (by omega) hlt
  go_wp2_with fail
  go_quiet (fail)
  go_wp2_with fail
  go_quiet (fail)
  go_wp2_with fail
  refine (HY.out _).mono ?_;rintro e w2 ⟨rfl,h2,g2⟩
  have H2:=Lib.hid h2
  have G2:=Lib.hid ((G5.out _).trans g2)
  have O2:=Lib.hid ((O5.out _).keepR g2 hrb)
  clear h2 g2
  go_wp2_with fail
  refine (HYB.out _ H2.out).mono ?_;rintro e w3 ⟨rfl,h3,g3⟩
  have H3:=Lib.hid h3
  have G3:=Lib.hid (G2.out.trans g3)
  have O3:=Lib.hid (O2.out.keepR g3 hrb)
  clear c0 c1 c2 f1
  obtain ⟨c0,c1,c2⟩:=h3.cells3
  clear h3 g3
  cases hq:decL (s.toList.drop j) with
  | none =>
   have hgl:getL s.toList j = (-1,(j:Int)):=by unfold getL;rw [hq]
   rw [hgl] at HGT
   rw [hq] at HST2
   have E1:Hid (V = none):=HST2.out
   clear hq HST2 hgl
   go_wp2_with fail
   go_region_with (go_at_call 75;refine (HGT.out _).mono ?_;rintro e w4 ⟨rfl,hw4⟩)
   all_goals
    have H4:Hid (RdSt w4 rb s j):=(show RdSt w3.drew rb s j from H3.out).below hw4 (show RdSt w3.drew rb s j from H3.out).lt
    have G4:Hid (w.grownBy w4 (some rb)):=(grown_drew G3.out).trans (grown_below hw4)
    clear hw4
    go_wp2_with fail
    refine (fail_any rb s j 3 _ H4.out).mono ?_;rintro e w9 ⟨rfl,h9,g9⟩
    have H9:=Lib.hid h9
    have G9:=Lib.hid (G4.out.trans g9)
    clear h9 g9
    go_wp2_with fail
    exact ⟨rfl,StrEnd.no E1.out ⟨rfl,H9.out,G9.out⟩⟩
  | some p =>
   obtain ⟨r,m⟩:=p
   have hgl:getL s.toList j = (r,(j:Int) + (m:Int)):=by unfold getL;rw [hq]
   rw [hgl] at HGT
   rw [hq] at HST2
   have E1:Hid (V = textT ((s.toList.drop j).drop m) (acc ++ (s.toList.drop j).take m)):=HST2.out
   have hdl:=dec_le _ r m hq
   have hds:=decL_some _ r m hq
   have hm4:m ≤ 4:=by rw [hds.2.1];exact putB_len r
   rw [len_drop] at hdl
   have dr:decide (r < 0) = false:=decide_eq_false (by omega)
   have hjm:j + m ≤ s.size:=by omega
   have x0:(0:Int) ≤ (j:Int) + (m:Int):=by omega
   have x1:(j:Int) + (m:Int) ≤ (s.size:Int):=by omega
   have x2:(j:Int) ≤ (j:Int) + (m:Int):=by omega
   have x3:((j:Int) + (m:Int)).toNat = j + m:=by omega
   have hext:Hid ((s.extract j (j + m)).toList = (s.toList.drop j).take m):=extract_take s j m
   have hac2:Hid ((acc ++ (s.toList.drop j).take m).length ≤ 4 * (j + m)):=by
    show _ ≤ _
    rw [List.length_append,List.length_take,len_drop];omega
   have hlim:Hid (acc.length + ((s.toList.drop j).take m).length ≤ 120000000000000):=by
    show _ ≤ _
    rw [List.length_take,len_drop];omega
   have hg4:s.size - (j + m) ≤ gk - 1:=by omega
   have hg0:0 < gk:=by omega
   have E2:Hid (V = textT (s.toList.drop (j + m)) (acc ++ (s.toList.drop j).take m)):=by show _ = _;rw [E1.out,List.drop_drop]
   clear hq HST2 hgl hdl hds E1
   go_wp2_with fail
   go_region_with (go_at_call 75;refine (HGT.out _).mono ?_;rintro e w4 ⟨rfl,hw4⟩)
   all_goals
    have H4:Hid (RdSt w4 rb s j):=(show RdSt w3.drew rb s j from H3.out).below hw4 (show RdSt w3.drew rb s j from H3.out).lt
    have G4:Hid (w.grownBy w4 (some rb)):=(grown_drew G3.out).trans (grown_below hw4)
    have O4:Hid (OwnU w4 w.heap.size (.slice A acc.length c) acc):=(show OwnU w3.drew w.heap.size (.slice A acc.length c) acc from O3.out).old hw4
    have z4:w.heap.size ≤ w4.heap.size:=G4.out.size
    clear hw4 c0 c1 c2
    obtain ⟨c0,c1,c2⟩:=H4.out.cells3
    go_wp2_with fail
    go_region_law (refine step_pushS rfl _ _ rfl w.heap.size _ acc rfl (show OwnU w4.drew w.heap.size _ acc from O4.out) (s.extract j (j + m)) (by simp [Act.eval,Act.put]) ((s.toList.drop j).take m) hext.out hlim.out (by simp;omega) ?_;intro v5 w5 n5 k5;obtain ⟨A5,c5,rfl⟩:=n5.form';have N5:=Lib.hid n5;have K5:=Lib.hid k5;clear n5 k5)
    all_goals
     have h5:RdSt w5 rb s j:=(show RdSt w4.drew rb s j from H4.out).below K5.out.1 hrb
     have H6:Hid (RdSt (w5.setCell (qa rb 1) (.int .i64 ((j:Int) + (m:Int)))) rb s (j + m)):=by
      have:=h5.set_ 1 (.int .i64 ((j + m:Nat):Int))
      exact this
     have G6:Hid (w.grownBy (w5.setCell (qa rb 1) (.int .i64 ((j:Int) + (m:Int)))) (some rb)):=grown_set (KU.grown (B:=0) (grown_drew G4.out) K5.out) 1 _
     have O6:Hid (OwnU (w5.setCell (qa rb 1) (.int .i64 ((j:Int) + (m:Int)))) w.heap.size (.slice A5 (acc ++ (s.toList.drop j).take m).length c5) (acc ++ (s.toList.drop j).take m)):=N5.out.keepR (grown_set (grown_refl _ _) 1 _) hrb
     obtain ⟨e0,e1,e2⟩:=h5.cells3
     have f1:=h5.frozen 1
     clear h5
     go_wp2_with fail
     go_roundg (gk - 1)
     case measure => omega
     case rel => exact ⟨j + m,acc ++ (s.toList.drop j).take m,A5,c5,hjm,hg4,hac2.out,(by first | rfl | (simp;done)),O6,E2,H6,G6⟩
theorem laid5 {w0 w:World} {y:Nat} {r:Option Nat} {t:TypeId} {a0 b0 c0 d0 e0:Value} (hy:Blk w y t #[a0,b0,c0,d0,e0]) (hg:w0.grownBy w r) (hz:w0.heap.size ≤ y) (a b c d e:Value) :
  Blk (((((w.setCell (qa y 0) a).setCell (qa y 1) b).setCell (qa y 2) c).setCell (qa y 3) d).setCell (qa y 4) e) y t #[a,b,c,d,e] ∧
  w0.grownBy (((((w.setCell (qa y 0) a).setCell (qa y 1) b).setCell (qa y 2) c).setCell (qa y 3) d).setCell (qa y 4) e) r ∧
  (((((w.setCell (qa y 0) a).setCell (qa y 1) b).setCell (qa y 2) c).setCell (qa y 3) d).setCell (qa y 4) e).heap.size = w.heap.size ∧
  ∀ g,g ≠ y → (((((w.setCell (qa y 0) a).setCell (qa y 1) b).setCell (qa y 2) c).setCell (qa y 3) d).setCell (qa y 4) e).heap[g]? = w.heap[g]?:=by
 refine ⟨(((((hy.set_ 0 a).set_ 1 b).set_ 2 c).set_ 3 d).set_ 4 e),grown_new (grown_new (grown_new (grown_new (grown_new hg hz 0 _) hz 1 _) hz 2 _) hz 3 _) hz 4 _,by simp,fun g hg => ?_⟩
 rw [Below.heap_setCell _ _ _ _ hg,Below.heap_setCell _ _ _ _ hg,Below.heap_setCell _ _ _ _ hg,Below.heap_setCell _ _ _ _ hg,Below.heap_setCell _ _ _ _ hg]
def MatchAt (s t:ByteArray) (k i:Nat):Prop:=k + i < s.size ∧ bt s (k + i) = bt t i
theorem bt_get (s:ByteArray) (k:Nat) (h:k < s.size):∃ u:UInt8,s.toList[k]? = some u ∧ bt s k = u.toNat:=by
 have h2:k < s.toList.length:=by rw [toList_len];exact h
 exact ⟨s.toList[k],List.getElem?_eq_getElem h2,bt_eq s k _ (List.getElem?_eq_getElem h2)⟩
def uL (r:List UInt8):Option (List UInt8 × List UInt8):=match pointL r with
 | none => none
 | some (n,r2) => some (putB n,r2)
def TxtI (s:ByteArray) (V:Option (List UInt8 × List UInt8)) (j:Nat) (acc:List UInt8) (er:Int) (g:Nat):Prop:=er = 0 ∧ V = textT (s.toList.drop j) acc ∧ s.size - j + 1 ≤ g ∧ acc.length ≤ 4 * j ∨ er = 3 ∧ V = none
def NInv (ds:List UInt8) (N:Int):Prop:=AllDig ds ∧ (N ≤ 9007199254740991 → N = valD 0 ds) ∧ (9007199254740991 < N → 9007199254740991 < valD 0 ds) ∧ 0 ≤ N ∧ N ≤ 90071992547409919
def RNode (n:Nd) (w w':World) (e:Ending):Prop:=∃ (c0 c1:Int) (c2:ByteArray) (c3:Option Addr) (c4 c5:Nat) (c6:Option Addr) (c7 c8:Nat),e = .returned (.agg (nA c0 c1 c2 c3 c4 c5 c6 c7 c8)) ∧ NdIn w' (Since w w') n (nL c0 c1 c2 c3 c4 c5 c6 c7 c8)
def RAny (e:Ending):Prop:=∃ (c0 c1:Int) (c2:ByteArray) (c3:Option Addr) (c4 c5:Nat) (c6:Option Addr) (c7 c8:Nat),e = .returned (.agg (nA c0 c1 c2 c3 c4 c5 c6 c7 c8))
def Z5:Array Value:=Zn
def ValEnd (rb:Nat) (s:ByteArray) (r:Except Int (Nd × List UInt8)) (w:World) (e:Ending) (w':World):Prop:=
 match r with
 | .error c => Failed rb s c w e w'
 | .ok (n,l) => ∃ (c0 c1:Int) (c2:ByteArray) (c3:Option Addr) (c4 c5:Nat) (c6:Option Addr) (c7 c8:Nat),
   e = .returned (.agg (nA c0 c1 c2 c3 c4 c5 c6 c7 c8)) ∧ NdIn w' (Since w w') n (nL c0 c1 c2 c3 c4 c5 c6 c7 c8) ∧ RdTo rb s l w w'
theorem step_pushNd {ops:Array Oper} {o:Oper} {a:Act} {w:World} {K:Act → World → Prop} {Q:Exit → Act → World → Prop} {E:Prop}
  (hg:o.guard = none) (s x:Operand) (hop:o.op = Op.call { callee:=Callee.builtin Builtin.append,args:=#[s,x],argTypes:=#[23,23] })
  (B:Nat) (v:Value) (n:Nat) (xs:List Value) (hs:a.eval s = v) (hown:w.ownsRow B 25 5 v n xs) (R:Nat) (A:Option Addr) (c:Nat) (news:List Value) (hx:a.eval x = .slice A 1 c) (hr:Reads w R 5 A 1 news) (h1:∀ u ∈ news,u.oneCell' = true)
  (hlim:n + 1 ≤ 1000000000000) (hB:B ≤ w.heap.size)
  (hK:∀ v' w',w'.ownsRow B 25 5 v' (n + 1) (xs ++ news) → w.grownBy w' v.ownBlock → (v'.ownBlock = v.ownBlock ∨ ∃ g,v'.ownBlock = some g ∧ w.heap.size ≤ g) → K (a.put o.dst v') w') :
  if Region.wanted o (yielded ops a.tmps) = true then Oper.wp Tryd.prog o a w K Q else E:=by
 have hw:Region.wanted o (yielded ops a.tmps) = true:=by simp [Region.wanted,hg]
 rw [if_pos hw]
 obtain ⟨i0,hi0,hz0,hz1,hz2⟩:=info_parts nodeInfo
 obtain ⟨v',w',h1',h2,h3,h4⟩:=run_append_any (P:=Tryd.prog) w B 23 o.type 25 i0 _ 5 80 Tryd.underlying23 hi0 hz0 hz1 hz2 rfl (by omega) v n _ hown R A 1 c news hr h1 (by simp only [maxLen];omega) (by omega) hB
 unfold Oper.wp execOp
 simp only [hop,resolve,invoke,builtin,Sem.run_bind,Sem.run_pure,Result.andThen_ok,List.map_toArray,List.map_cons,List.map_nil,hs,hx,h1']
 refine hK _ _ h2 h3 ?_
 rcases h4 with h4 | h4
 ·exact .inl h4
 ·exact .inr ⟨_,h4,Nat.le_refl _⟩
def zero5:List Value:=[.int .i64 0,.int .i64 0,.string ⟨#[]⟩,.slice none 0 0,.slice none 0 0]
theorem own_last {w:World} {B g n cap:Nat} {ys:List Value} {z0 z1 z2 z3 z4 v0 v1 v2 v3 v4:Value} (h:w.ownsRow B 25 5 (.slice (some (qa g 0)) (n + 1) cap) (n + 1) (ys ++ [z0,z1,z2,z3,z4])) (hy:ys.length = n * 5) :
  ((((((w.setCell (qa g (n * 5)) v0).setCell (qa g (n * 5 + 1)) v1).setCell (qa g (n * 5 + 2)) v2).setCell (qa g (n * 5 + 3)) v3).setCell (qa g (n * 5 + 4)) v4)).ownsRow B 25 5 (.slice (some (qa g 0)) (n + 1) cap) (n + 1) (ys ++ [v0,v1,v2,v3,v4]) ∧
  w.grownBy ((((((w.setCell (qa g (n * 5)) v0).setCell (qa g (n * 5 + 1)) v1).setCell (qa g (n * 5 + 2)) v2).setCell (qa g (n * 5 + 3)) v3).setCell (qa g (n * 5 + 4)) v4)) (some g):=by
 have s0:=h.stored (n * 5) v0
 have s1:=s0.1.stored (n * 5 + 1) v1
 have s2:=s1.1.stored (n * 5 + 2) v2
 have s3:=s2.1.stored (n * 5 + 3) v3
 have s4:=s3.1.stored (n * 5 + 4) v4
 refine ⟨?_,(((s0.2.trans s1.2).trans s2.2).trans s3.2).trans s4.2⟩
 have e:((((((ys ++ [z0,z1,z2,z3,z4]).set (n * 5) v0).set (n * 5 + 1) v1).set (n * 5 + 2) v2).set (n * 5 + 3) v3).set (n * 5 + 4) v4) = ys ++ [v0,v1,v2,v3,v4]:=by
  rw [← hy]
  simp [List.set_append]
 rw [← e]
 exact s4.1
structure AInv (w0:World) (nb rB dB rb h:Nat) (deep:Int) (ns:List Nd) (w:World) (A:Option Addr) (c:Nat) (ys:List Value):Prop where
 node:Blk w nb 25 #[.int .i64 6,.int .i64 0,.string ⟨#[]⟩,.slice none 0 0,.slice A ns.length c]
 own:w.ownsRow h 25 5 (.slice A ns.length c) ns.length ys
 kids:NdsIn w (SK h w (.slice A ns.length c)) ns ys
 rbox:Blk w rB 75 #[.pointer (some (qa rb 0))]
 dbox:Blk w dB 3 #[.int .i64 deep]
 grow:w0.grownBy w (some rb)
 size:h ≤ w.heap.size
def AIs (w0:World) (nb rB dB rb h:Nat) (deep:Int) (ns:List Nd) (w:World):Prop:=∃ A c ys,AInv w0 nb rB dB rb h deep ns w A c ys
theorem AInv.next {w0:World} {nb rB dB rb h:Nat} {deep:Int} {ns:List Nd} {w w':World} {A:Option Addr} {c:Nat} {ys:List Value} (hI:AInv w0 nb rB dB rb h deep ns w A c ys) (hg:w.grownBy w' (some rb)) (h1:rb < h) (h2:nb ≠ rb) (h3:rB ≠ rb) (h4:dB ≠ rb):AInv w0 nb rB dB rb h deep ns w' A c ys:=by
 have ho:∀ g,(Value.slice A ns.length c).ownBlock = some g → h ≤ g ∧ g < w.heap.size:=fun g hg => own_lt hI.own hg
 refine ⟨hI.node.grown hg (by intro e;injection e with e;exact h2 e),World.ownsRow.kept hI.own hg (Or.inr (fun e => by have:=(ho rb e).1;omega)),?_,hI.rbox.grown hg (by intro e;injection e with e;exact h3 e),hI.dbox.grown hg (by intro e;injection e with e;exact h4 e),hI.grow.trans hg,Nat.le_trans hI.size hg.size⟩
 exact NdsIn.keep (fun p hp => World.cell?_of_block (hg.block p.block hp.2.1 (fun e => by injection e with e;have:=hp.1;omega))) (fun b hb => ⟨hb.1,Nat.lt_of_lt_of_le hb.2.1 hg.size,hb.2.2⟩) _ _ hI.kids
theorem hexD_hexU (k:Nat) (h:k < 16):hexD (hexU k) = some (k:Int):=by
 have:∀ i:Fin 16,hexD (hexU i.val) = some ((i.val:Nat):Int):=by decide
 exact this ⟨k,h⟩
theorem hexD_48:hexD 48 = some 0:=by decide
theorem unit_ctl (c:UInt8) (h:c.toNat < 256) (l:List UInt8):unitL 4 0 (48 :: 48 :: hexU (c.toNat / 16) :: hexU (c.toNat % 16) :: l) = some ((c.toNat:Int),l):=by
 have h1:=hexD_hexU (c.toNat / 16) (by omega)
 have h2:=hexD_hexU (c.toNat % 16) (by omega)
 simp only [unitL,hexD_48,h1,h2]
 congr 2
 omega
theorem point_ctl (c:UInt8) (h:c.toNat < 256) (l:List UInt8):pointL (48 :: 48 :: hexU (c.toNat / 16) :: hexU (c.toNat % 16) :: l) = some ((c.toNat:Int),l):=by
 unfold pointL
 rw [unit_ctl c h]
 simp only
 rw [if_pos (by omega)]
theorem putB_ascii (c:UInt8) (h:c.toNat < 128):putB (c.toNat:Int) = [c]:=by
 rw [putB_of (l:=[(c.toNat:Int)]) (by unfold putN;rw [if_neg (by omega),if_pos (by omega)])]
 simp
theorem escL_ctl (c:UInt8) (h:c.toNat < 128) (l:List UInt8):escL (117 :: 48 :: 48 :: hexU (c.toNat / 16) :: hexU (c.toNat % 16) :: l) = some ([c],l):=by
 unfold escL
 simp only [point_ctl c (by omega) l,putB_ascii c h]
 simp
theorem u8_lt (a b:UInt8):a < b ↔ a.toNat < b.toNat:=UInt8.lt_iff_toNat_lt
theorem ne_of_toNat {a b:UInt8} (h:a.toNat ≠ b.toNat):a ≠ b:=fun e => h (by rw [e])
theorem textT_esc (r acc l b r2:List UInt8) (h:escL r = some (b,r2)):textT (92 :: r) acc = textT r2 (acc ++ b):=by
 rw [textT_cons,if_neg (by decide),if_neg (by decide),if_pos rfl,h]
theorem high_all (p:Int) (hp:putB p ≠ []) (h128:128 ≤ p):∀ c ∈ putB p,128 ≤ c.toNat:=by
 have ha:¬ p < 128:=by omega
 rw [Ne,putB_nil] at hp
 intro c hc
 unfold putB putN at hc
 rw [if_neg hp,if_neg ha] at hc
 split at hc
 ·simp only [List.map_cons,List.map_nil,List.mem_cons,List.not_mem_nil,or_false] at hc
  rcases hc with rfl | rfl
  ·have:=toNat_ofNat (192 + p / 64) (by omega) (by omega);omega
  ·have:=toNat_ofNat (128 + p % 64) (by omega) (by omega);omega
 split at hc
 ·simp only [List.map_cons,List.map_nil,List.mem_cons,List.not_mem_nil,or_false] at hc
  rcases hc with rfl | rfl | rfl
  ·have:=toNat_ofNat (224 + p / 4096) (by omega) (by omega);omega
  ·have:=toNat_ofNat (128 + p / 64 % 64) (by omega) (by omega);omega
  ·have:=toNat_ofNat (128 + p % 64) (by omega) (by omega);omega
 ·simp only [List.map_cons,List.map_nil,List.mem_cons,List.not_mem_nil,or_false] at hc
  rcases hc with rfl | rfl | rfl | rfl
  ·have:=toNat_ofNat (240 + p / 262144) (by omega) (by omega);omega
  ·have:=toNat_ofNat (128 + p / 4096 % 64) (by omega) (by omega);omega
  ·have:=toNat_ofNat (128 + p / 64 % 64) (by omega) (by omega);omega
  ·have:=toNat_ofNat (128 + p % 64) (by omega) (by omega);omega
theorem high_flat:∀ t:List UInt8,(∀ c ∈ t,128 ≤ c.toNat) → t.flatMap escU = t:=by
 intro t
 induction t with
 | nil => intro _;rfl
 | cons c t ih =>
  intro h
  have hc:=h c (by simp)
  have e:escU c = [c]:=by
   unfold escU
   rw [if_neg (by rintro (e | e) <;> (rw [e] at hc;revert hc;decide)),if_pos (by omega)]
  rw [List.flatMap_cons,ih (fun x hx => h x (by simp [hx])),e]
  rfl
theorem low_one (p:Int) (hp:putB p ≠ []) (ha:p < 128):∃ c:UInt8,putB p = [c] ∧ (c.toNat:Int) = p:=by
 have hb:=putN_nonneg p hp
 refine ⟨UInt8.ofNat p.toNat,?_,toNat_ofNat p (by omega) (by omega)⟩
 rw [putB_of (l:=[p]) (by unfold putN;rw [if_neg (by rw [← putB_nil];exact hp),if_pos ha])]
 rfl
theorem textT_point (p:Int) (hp:putB p ≠ []) (l acc:List UInt8):textT ((putB p).flatMap escU ++ l) acc = textT l (acc ++ putB p):=by
 have hb:=putN_nonneg p hp
 by_cases ha:p < 128
 ·obtain ⟨c,hc,hn⟩:=low_one p hp ha
  rw [hc]
  have hd:∀ l,decL (c :: l) = some (p,1):=fun l => by
   have:=decL_put p l hp
   rw [hc] at this
   simpa using this
  simp only [List.flatMap_cons,List.flatMap_nil,List.append_nil]
  unfold escU
  by_cases h1:c = 34 ∨ c = 92
  ·rw [if_pos h1]
   show textT (92 :: c :: l) acc = _
   refine textT_esc _ _ l _ _ ?_
   unfold escL
   simp only
   rw [if_pos (by rcases h1 with h | h <;> simp [h])]
  rw [if_neg h1]
  by_cases h2:32 ≤ c.toNat
  ·rw [if_pos h2]
   show textT (c :: l) acc = _
   rw [textT_cons,if_neg (by rw [u8_lt];simp;omega),if_neg (fun e => h1 (.inl e)),if_neg (fun e => h1 (.inr e)),hd]
   rfl
  rw [if_neg h2]
  by_cases h3:c = 8
  ·rw [if_pos h3,h3];exact textT_esc _ _ l _ _ rfl
  rw [if_neg h3]
  by_cases h4:c = 9
  ·rw [if_pos h4,h4];exact textT_esc _ _ l _ _ rfl
  rw [if_neg h4]
  by_cases h5:c = 10
  ·rw [if_pos h5,h5];exact textT_esc _ _ l _ _ rfl
  rw [if_neg h5]
  by_cases h6:c = 12
  ·rw [if_pos h6,h6];exact textT_esc _ _ l _ _ rfl
  rw [if_neg h6]
  by_cases h7:c = 13
  ·rw [if_pos h7,h7];exact textT_esc _ _ l _ _ rfl
  rw [if_neg h7]
  exact textT_esc _ _ l _ _ (escL_ctl c (by omega) l)
 ·have hall:=high_all p hp (by omega)
  have hf:=high_flat _ hall
  rw [hf]
  have hd:=decL_put p l hp
  cases hq:putB p with
  | nil => exact absurd hq hp
  | cons c t =>
   rw [hq] at hd hall
   have hc:=hall c (by simp)
   show textT (c :: (t ++ l)) acc = _
   rw [textT_cons,if_neg (by rw [u8_lt];simp;omega),if_neg (by apply ne_of_toNat;simp;omega),if_neg (by apply ne_of_toNat;simp;omega)]
   have hd':decL (c :: (t ++ l)) = some (p,(c :: t).length):=hd
   rw [hd']
   simp
theorem textT_quote (t:List UInt8) (h:ValidP t) (acc l:List UInt8):textT (t.flatMap escU ++ 34 :: l) acc = some (acc ++ t,l):=by
 obtain ⟨rs,hr,rfl⟩:=h
 induction rs generalizing acc with
 | nil =>
  show textT (34 :: l) acc = _
  rw [textT_cons,if_neg (by decide),if_pos rfl]
  simp
 | cons p rs ih =>
  simp only [List.map_cons,List.flatten_cons,List.flatMap_append,List.append_assoc]
  rw [textT_point p (hr p (by simp)),ih (acc ++ putB p) (fun x hx => hr x (by simp [hx]))]
  simp
theorem textL_quote (t:List UInt8) (h:ValidP t) (l:List UInt8):textL (quoteU t ++ l) = some (t,l):=by
 unfold textL quoteU
 simp only [List.cons_append,List.nil_append,List.append_assoc,List.head?_cons,if_true,List.tail_cons]
 rw [textT_quote t h]
 rfl
theorem digB_dec (d:Nat) (h:d < 10):digB (UInt8.ofNat (48 + d)) = true:=by
 have:∀ i:Fin 10,digB (UInt8.ofNat (48 + i.val)) = true:=by decide
 exact this ⟨d,h⟩
theorem dec_all:∀ u:Nat,∀ c ∈ Lib.decDigits u,digB c = true:=by
 intro u
 induction u using Nat.strongRecOn with
 | _ u ih =>
  intro c hc
  by_cases h:u < 10
  ·rw [Lib.decDigits,dif_pos h] at hc
   rw [List.mem_singleton.1 hc]
   exact digB_dec u h
  ·rw [Lib.decDigits,dif_neg h] at hc
   rw [List.mem_append] at hc
   rcases hc with hc | hc
   ·exact ih (u / 10) (by omega) c hc
   ·rw [List.mem_singleton.1 hc]
    exact digB_dec _ (by omega)
theorem valD_snoc2 (n:Int) (ds:List UInt8) (c:UInt8):valD n (ds ++ [c]) = valD n ds * 10 + ((c.toNat:Int) - 48):=by
 unfold valD;rw [List.foldl_append];rfl
theorem valD_dec (u:Nat):valD 0 (Lib.decDigits u) = (u:Int):=by
 induction u using Nat.strongRecOn with
 | _ u ih =>
  by_cases h:u < 10
  ·rw [Lib.decDigits,dif_pos h]
   unfold valD
   simp;omega
  ·rw [Lib.decDigits,dif_neg h,valD_snoc2,ih (u / 10) (by omega)]
   have:((UInt8.ofNat (48 + u % 10)).toNat:Int) = 48 + (u % 10:Nat):=by simp;omega
   rw [this];omega
theorem dec_head (u:Nat) (hu:0 < u):(Lib.decDigits u).head? ≠ some 48:=by
 induction u using Nat.strongRecOn with
 | _ u ih =>
  by_cases h:u < 10
  ·rw [Lib.decDigits,dif_pos h]
   have:∀ i:Fin 10,0 < i.val → (([UInt8.ofNat (48 + i.val)]:List UInt8).head? ≠ some 48):=by decide
   exact this ⟨u,h⟩ hu
  ·rw [Lib.decDigits,dif_neg h]
   have h1:=ih (u / 10) (by omega) (by omega)
   have h2:=decDigits_ne (u / 10)
   cases hq:Lib.decDigits (u / 10) with
   | nil => exact absurd hq h2
   | cons c t => rw [hq] at h1;simpa using h1
def numEnd (l:List UInt8):Prop:=∀ c,l.head? = some c → digB c = false ∧ ¬ (c = 46 ∨ c = 101 ∨ c = 69)
theorem takeWhile_app (ds l:List UInt8) (h:∀ c ∈ ds,digB c = true) (hl:∀ c,l.head? = some c → digB c = false):(ds ++ l).takeWhile digB = ds ∧ (ds ++ l).dropWhile digB = l:=by
 induction ds with
 | nil =>
  cases l with
  | nil => simp
  | cons c l => have:=hl c rfl;simp [List.takeWhile_cons,List.dropWhile_cons,this]
 | cons d ds ih =>
  have hd:=h d (by simp)
  have:=ih (fun c hc => h c (by simp [hc]))
  simp [List.takeWhile_cons,List.dropWhile_cons,hd,this]
theorem point_end {l:List UInt8} (h:numEnd l):pointB l = false:=by
 cases l with
 | nil => rfl
 | cons c l =>
  have:=(h c rfl).2
  unfold pointB
  simp only [Bool.or_eq_false_iff,beq_eq_false_iff_ne]
  exact ⟨⟨fun e => this (.inl e),fun e => this (.inr (.inl e))⟩,fun e => this (.inr (.inr e))⟩
theorem numTail_dec (neg:Bool) (u:Nat) (l:List UInt8) (h:numEnd l) (hm:u ≤ 9007199254740991) (hz:neg = true → 0 < u) :
  numTail neg (Lib.decDigits u ++ l) = some (if neg = true then - (u:Int) else (u:Int),l):=by
 obtain ⟨h1,h2⟩:=takeWhile_app (Lib.decDigits u) l (dec_all u) (fun c hc => (h c hc).1)
 unfold numTail
 rw [h1,h2,valD_dec,if_neg]
 rintro (e | ⟨e1,e2⟩ | e | ⟨e1,e2⟩ | e)
 ·exact decDigits_ne u e
 ·by_cases hu:0 < u
  ·have:=dec_head u hu
   cases hq:Lib.decDigits u with
   | nil => exact decDigits_ne u hq
   | cons c t => rw [hq] at this e2;exact this (by simpa using e2)
  ·have:u = 0:=by omega
   subst this
   rw [Lib.decDigits_one (by omega)] at e1
   simp at e1
 ·omega
 ·have:=hz e1;omega
 ·rw [point_end h] at e;cases e
theorem numL_itoa (n:Int) (l:List UInt8) (h:numEnd l) (h1 : -9007199254740991 ≤ n) (h2:n ≤ 9007199254740991):numL (Lib.itoa n ++ l) = some (n,l):=by
 unfold numL Lib.itoa
 by_cases hn:n < 0
 ·rw [if_pos hn]
  simp only [List.cons_append,List.head?_cons,if_true,List.tail_cons]
  rw [numTail_dec true n.natAbs l h (by omega) (fun _ => by omega),if_pos rfl]
  congr 2;omega
 ·rw [if_neg hn]
  have hh:(Lib.decDigits n.toNat ++ l).head? ≠ some 45:=by
   cases hq:Lib.decDigits n.toNat with
   | nil => exact absurd hq (decDigits_ne _)
   | cons c t =>
    have:=dec_all n.toNat c (by rw [hq];simp)
    intro e
    simp at e;subst e
    revert this;decide
  rw [if_neg hh,numTail_dec false n.toNat l h (by omega) (fun e => by cases e),if_neg (by simp)]
  congr 2;omega
theorem itoa_head (n:Int) (l:List UInt8):∃ c t,Lib.itoa n ++ l = c :: t ∧ (c = 45 ∨ digB c = true):=by
 unfold Lib.itoa
 split
 ·exact ⟨45,_,rfl,.inl rfl⟩
 ·cases hq:Lib.decDigits n.toNat with
  | nil => exact absurd hq (decDigits_ne _)
  | cons c t => exact ⟨c,_,rfl,.inr (dec_all n.toNat c (by rw [hq];simp))⟩
theorem valL_deep (deep:Nat) (l:List UInt8) (h:l.head? = some 91 ∨ l.head? = some 123) (hd:24 ≤ deep):valL deep l = .error 4:=by
 rw [valL,if_pos ⟨h,hd⟩]
theorem valL_str (deep:Nat) (l:List UInt8) (h:l.head? = some 34):valL deep l = match textL l with
  | none => .error 3
  | some (t,r) => .ok (.mk 5 0 ⟨t.toArray⟩ [] [],r):=by
 rw [valL,if_neg (by rw [h];simp),if_neg (by rw [h];simp),if_neg (by rw [h];simp),if_pos h]
 cases textL l <;> rfl
theorem valL_else (deep:Nat) (l:List UInt8) (h1:l.head? ≠ some 91) (h2:l.head? ≠ some 123) (h3:l.head? ≠ some 34):valL deep l =
  if l.take 4 = [110,117,108,108] then .ok (nd0 1,l.drop 4)
  else if l.take 5 = [102,97,108,115,101] then .ok (nd0 2,l.drop 5)
  else if l.take 4 = [116,114,117,101] then .ok (nd0 3,l.drop 4)
  else match numL l with
   | none => .error 3
   | some (n,r) => .ok (.mk 4 n ⟨#[]⟩ [] [],r):=by
 rw [valL,if_neg (by rintro ⟨h | h,_⟩;exact h1 h;exact h2 h),if_neg h1,if_neg h2,if_neg h3]
 cases numL l <;> rfl
theorem take_head {l:List UInt8} {n:Nat} {c:UInt8} {t:List UInt8} (h:l.take n = c :: t):l.head? = some c:=by
 cases l with
 | nil => simp at h
 | cons a l =>
  cases n with
  | zero => simp at h
  | succ n => simp at h;simp [h.1]
theorem valL_num (deep:Nat) (l:List UInt8) (c:UInt8) (hc:l.head? = some c) (h:c = 45 ∨ digB c = true):valL deep l = match numL l with
   | none => .error 3
   | some (n,r) => .ok (.mk 4 n ⟨#[]⟩ [] [],r):=by
 have hne:∀ d:UInt8,digB d = false → d ≠ 45 → c ≠ d:=by
  rintro d h1 h2 rfl
  rcases h with h | h
  ·exact h2 h
  ·rw [h] at h1;cases h1
 have hn:∀ d:UInt8,digB d = false → d ≠ 45 → l.head? ≠ some d:=fun d h1 h2 e => by
  rw [hc] at e;injection e with e;exact hne d h1 h2 e
 rw [valL_else deep l (hn _ (by decide) (by decide)) (hn _ (by decide) (by decide)) (hn _ (by decide) (by decide)),if_neg (fun e => hn 110 (by decide) (by decide) (take_head e)),if_neg (fun e => hn 102 (by decide) (by decide) (take_head e)),if_neg (fun e => hn 116 (by decide) (by decide) (take_head e))]
theorem blanks_ne {c:UInt8} (t:List UInt8) (h:blankB c = false):blanksL (c :: t) = c :: t:=by
 unfold blanksL
 rw [List.dropWhile_cons,h]
 rfl
theorem dig_no {c:UInt8} (h:c = 45 ∨ digB c = true):blankB c = false ∧ c ≠ 93:=by
 rcases h with rfl | h
 ·exact ⟨by decide,by decide⟩
 ·unfold digB at h
  have h:=of_decide_eq_true h
  refine ⟨?_,ne_of_toNat (by simp;omega)⟩
  unfold blankB
  simp only [Bool.or_eq_false_iff,beq_eq_false_iff_ne]
  exact ⟨⟨⟨ne_of_toNat (by simp;omega),ne_of_toNat (by simp;omega)⟩,ne_of_toNat (by simp;omega)⟩,ne_of_toNat (by simp;omega)⟩
theorem putU_head (n:Nd) (l:List UInt8):∃ c t,putU n ++ l = c :: t ∧ blankB c = false ∧ c ≠ 93:=by
 cases n with
 | mk k num t ks ns =>
  unfold putU
  split
  ·exact ⟨110,_,rfl,by decide,by decide⟩
  split
  ·exact ⟨102,_,rfl,by decide,by decide⟩
  split
  ·exact ⟨116,_,rfl,by decide,by decide⟩
  split
  ·obtain ⟨c,t,h1,h2⟩:=itoa_head num l
   exact ⟨c,t,h1,(dig_no h2).1,(dig_no h2).2⟩
  split
  ·exact ⟨34,_,rfl,by decide,by decide⟩
  split
  ·exact ⟨91,_,rfl,by decide,by decide⟩
  ·exact ⟨123,_,rfl,by decide,by decide⟩
theorem blanks_put (n:Nd) (l:List UInt8):blanksL (putU n ++ l) = putU n ++ l:=by
 obtain ⟨c,t,h1,h2,_⟩:=putU_head n l
 rw [h1,blanks_ne t h2]
theorem putL_cons (obj:Bool) (ks:List ByteArray) (n:Nd) (ns:List Nd) (l:List UInt8) :
  putL obj ks (n :: ns) true ++ l = (if obj = true then quoteU (ks.headD ⟨#[]⟩).toList ++ [58] else []) ++ (putU n ++ (putL obj ks.tail ns false ++ l)):=by
 conv => lhs;unfold putL
 simp
theorem putL_more (obj:Bool) (ks:List ByteArray) (n:Nd) (ns:List Nd) (l:List UInt8):putL obj ks (n :: ns) false ++ l = 44 :: (putL obj ks (n :: ns) true ++ l):=by
 conv => lhs;unfold putL
 conv => rhs;unfold putL
 simp
theorem putL_nil (obj:Bool) (ks:List ByteArray) (first:Bool) (l:List UInt8):putL obj ks [] first ++ l = l:=by unfold putL;rfl
theorem numEnd_sep (c:UInt8) (l:List UInt8) (h:c = 44 ∨ c = 93 ∨ c = 125 ∨ c = 32 ∨ c = 9 ∨ c = 10 ∨ c = 13):numEnd (c :: l):=by
 intro d hd
 simp at hd;subst hd
 rcases h with rfl | rfl | rfl | rfl | rfl | rfl | rfl <;> exact ⟨by decide,by decide⟩
theorem numEnd_nil:numEnd []:=fun c h => by cases h
theorem numEnd_rest (obj:Bool) (ks:List ByteArray) (ns:List Nd) (e:UInt8) (he:e = 93 ∨ e = 125) (l:List UInt8):numEnd (putL obj ks ns false ++ e :: l):=by
 cases ns with
 | nil => rw [putL_nil];exact numEnd_sep e l (by rcases he with h | h <;> simp [h])
 | cons n ns => rw [putL_more];exact numEnd_sep 44 _ (by simp)
theorem arr_of (ok:Nd → Nat → Prop) (hok:∀ n deep,ok n deep → ∀ l,numEnd l → valL deep (putU n ++ l) = .ok (n,l)) (deep:Nat) (l:List UInt8) :
  ∀ (ns:List Nd) (ks:List ByteArray) (acc:List Nd),ns ≠ [] → (∀ n ∈ ns,ok n (deep + 1)) → arrL deep (putL false ks ns true ++ 93 :: l) acc = .ok (.mk 6 0 ⟨#[]⟩ [] (acc ++ ns),l)
 | [],ks,acc,h,_ => absurd rfl h
 | n :: ns,ks,acc,_,h => by
  rw [putL_cons,if_neg (by simp),List.nil_append,arrL_eq,blanks_put,hok n _ (h n (by simp)) _ (numEnd_rest false _ ns 93 (.inl rfl) l)]
  simp only
  cases ns with
  | nil =>
   rw [putL_nil,blanks_ne l (by decide)]
   simp
  | cons m ns =>
   rw [putL_more,blanks_ne _ (by decide),if_neg (by simp),if_pos (by simp),List.tail_cons,arr_of ok hok deep l (m :: ns) _ _ (by simp) (fun x hx => h x (by simp at hx ⊢;exact .inr hx))]
   simp
theorem any_not {ks:List ByteArray} {k:ByteArray} (h:k ∉ ks):¬ ks.any (fun s => s.toList == k.toList) = true:=by
 intro e
 rw [List.any_eq_true] at e
 obtain ⟨s,hs,e⟩:=e
 have:s = k:=by
  rw [beq_iff_eq,ByteArray.toList_eq,ByteArray.toList_eq,Array.toList_inj] at e
  exact ByteArray.ext e
 exact h (this ▸ hs)
theorem mk_toList (k:ByteArray):(⟨k.toList.toArray⟩:ByteArray) = k:=by
 rw [ByteArray.toList_eq]
theorem obj_of (ok:Nd → Nat → Prop) (hok:∀ n deep,ok n deep → ∀ l,numEnd l → valL deep (putU n ++ l) = .ok (n,l)) (deep:Nat) (l:List UInt8) :
  ∀ (ns:List Nd) (ks kacc:List ByteArray) (acc:List Nd),ns ≠ [] → ks.length = ns.length → (kacc ++ ks).Nodup → (∀ k ∈ ks,ValidP k.toList) → (∀ n ∈ ns,ok n (deep + 1)) → objL deep (putL true ks ns true ++ 125 :: l) kacc acc = .ok (.mk 7 0 ⟨#[]⟩ (kacc ++ ks) (acc ++ ns),l)
 | [],ks,kacc,acc,h,_,_,_,_ => absurd rfl h
 | n :: ns,[],kacc,acc,_,hl,_,_,_ => by simp at hl
 | n :: ns,k :: ks,kacc,acc,_,hl,hd,hv,h => by
  have hk:k ∉ kacc:=by
   rw [List.nodup_append] at hd
   exact fun hm => hd.2.2 k hm k (by simp) rfl
  have hl':ks.length = ns.length:=by simpa using hl
  have hd':((kacc ++ [k]) ++ ks).Nodup:=by simpa using hd
  rw [putL_cons,if_pos rfl,List.headD_cons,List.tail_cons,List.append_assoc,objL_eq]
  have hq:∀ z,blanksL (quoteU k.toList ++ z) = quoteU k.toList ++ z:=fun z => blanks_ne (c:=34) _ (by decide)
  rw [hq,textL_quote _ (hv k (by simp))]
  simp only [List.singleton_append]
  rw [if_neg (any_not hk),blanks_ne _ (by decide),if_pos (by simp),List.tail_cons,blanks_put,hok n _ (h n (by simp)) _ (numEnd_rest true _ ns 125 (.inr rfl) l)]
  simp only [mk_toList]
  cases ns with
  | nil =>
   have:ks = []:=by simpa using hl'
   subst this
   rw [putL_nil,blanks_ne l (by decide)]
   simp
  | cons m ns =>
   rw [putL_more,blanks_ne _ (by decide),if_neg (by simp),if_pos (by simp),List.tail_cons,obj_of ok hok deep l (m :: ns) ks _ _ (by simp) hl' hd' (fun x hx => hv x (by simp [hx])) (fun x hx => h x (by simp at hx ⊢;exact .inr hx))]
   simp
theorem val_put:∀ (m:Nat) (n:Nd),n.count ≤ m → ∀ (deep:Nat) (l:List UInt8),rightD n deep = true → numEnd l → valL deep (putU n ++ l) = .ok (n,l)
 | 0,n,hc,_,_,_,_ => by have:=n.count_pos;omega
 | m + 1,.mk k num t ks ns,hc,deep,l,hr,hl => by
  unfold rightD rightN bareF at hr
  simp only [Bool.and_eq_true,Bool.or_eq_true,beq_iff_eq,decide_eq_true_eq] at hr
  obtain ⟨⟨⟨⟨b1,b2⟩,b3⟩,b4⟩,hr⟩:=hr
  have hkids:∀ (x:Nd),x ∈ ns → x.count ≤ m:=fun x hx => by
   obtain ⟨i,hi⟩:=List.getElem?_of_mem hx
   have:=Nd.counts_get ns i x hi
   simp only [Nd.count] at hc
   omega
  rcases hr with ((((rfl | rfl) | rfl) | ⟨rfl,h1,h2⟩) | ⟨rfl,hv⟩) | ⟨⟨⟨h67,hdp⟩,hk⟩,hkid⟩
  ·have e1:num = 0:=by omega
   have e2:t = ⟨#[]⟩:=by rcases b2 with h | h;omega;exact h
   have e3:ks = []:=List.eq_nil_of_length_eq_zero (by rcases b3 with h | h;omega;exact h)
   have e4:ns = []:=List.eq_nil_of_length_eq_zero (by rcases b4 with (h | h) | h;omega;omega;exact h)
   subst e1 e2 e3 e4
   unfold putU
   rw [if_pos rfl,valL_else deep _ (by simp) (by simp) (by simp),if_pos (by simp)]
   rfl
  ·have e1:num = 0:=by omega
   have e2:t = ⟨#[]⟩:=by rcases b2 with h | h;omega;exact h
   have e3:ks = []:=List.eq_nil_of_length_eq_zero (by rcases b3 with h | h;omega;exact h)
   have e4:ns = []:=List.eq_nil_of_length_eq_zero (by rcases b4 with (h | h) | h;omega;omega;exact h)
   subst e1 e2 e3 e4
   unfold putU
   rw [if_neg (by omega),if_pos rfl,valL_else deep _ (by simp) (by simp) (by simp),if_neg (by simp),if_pos (by simp)]
   rfl
  ·have e1:num = 0:=by omega
   have e2:t = ⟨#[]⟩:=by rcases b2 with h | h;omega;exact h
   have e3:ks = []:=List.eq_nil_of_length_eq_zero (by rcases b3 with h | h;omega;exact h)
   have e4:ns = []:=List.eq_nil_of_length_eq_zero (by rcases b4 with (h | h) | h;omega;omega;exact h)
   subst e1 e2 e3 e4
   unfold putU
   rw [if_neg (by omega),if_neg (by omega),if_pos rfl,valL_else deep _ (by simp) (by simp) (by simp),if_neg (by simp),if_neg (by simp),if_pos (by simp)]
   rfl
  ·have e2:t = ⟨#[]⟩:=by rcases b2 with h | h;omega;exact h
   have e3:ks = []:=List.eq_nil_of_length_eq_zero (by rcases b3 with h | h;omega;exact h)
   have e4:ns = []:=List.eq_nil_of_length_eq_zero (by rcases b4 with (h | h) | h;omega;omega;exact h)
   subst e2 e3 e4
   unfold putU
   rw [if_neg (by omega),if_neg (by omega),if_neg (by omega),if_pos rfl]
   obtain ⟨c,t,e1,e2⟩:=itoa_head num l
   rw [valL_num deep _ c (by rw [e1];rfl) e2,numL_itoa num l hl h1 h2]
  ·have e1:num = 0:=by omega
   have e3:ks = []:=List.eq_nil_of_length_eq_zero (by rcases b3 with h | h;omega;exact h)
   have e4:ns = []:=List.eq_nil_of_length_eq_zero (by rcases b4 with (h | h) | h;omega;omega;exact h)
   subst e1 e3 e4
   unfold putU
   rw [if_neg (by omega),if_neg (by omega),if_neg (by omega),if_neg (by omega),if_pos rfl,valL_str deep _ rfl,textL_quote _ ((validB_iff _).1 hv)]
   simp only [mk_toList]
  ·have e1:num = 0:=by omega
   have e2:t = ⟨#[]⟩:=by rcases b2 with h | h;omega;exact h
   subst e1 e2
   have hkid':∀ x ∈ ns,rightD x ((deep + 1:Nat):Int) = true:=by
    rw [rightL_all,List.all_eq_true] at hkid
    intro x hx
    have:=hkid x hx
    unfold rightD
    simpa using this
   have hok:∀ (n:Nd) (d:Nat),(n.count ≤ m ∧ rightD n (d:Int) = true) → ∀ l,numEnd l → valL d (putU n ++ l) = .ok (n,l):=fun n d h l hl => val_put m n h.1 d l h.2 hl
   rcases h67 with rfl | rfl
   ·have e3:ks = []:=List.eq_nil_of_length_eq_zero (by rcases b3 with h | h;omega;exact h)
    subst e3
    unfold putU
    rw [if_neg (by omega),if_neg (by omega),if_neg (by omega),if_neg (by omega),if_neg (by omega),if_pos rfl]
    show valL deep ((91 :: (putL false [] ns true ++ [93])) ++ l) = _
    rw [valL_arr deep _ rfl (by omega)]
    simp only [List.cons_append,List.tail_cons,List.append_assoc,List.nil_append]
    cases ns with
    | nil => rw [putL_nil,blanks_ne l (by decide)];simp
    | cons n ns =>
     have hb:∃ c t,putL false [] (n :: ns) true ++ 93 :: l = c :: t ∧ blankB c = false ∧ c ≠ 93:=by
      rw [putL_cons];exact putU_head n _
     obtain ⟨c,t,e1,e2,e3⟩:=hb
     have hbl:blanksL (putL false [] (n :: ns) true ++ 93 :: l) = putL false [] (n :: ns) true ++ 93 :: l:=by rw [e1,blanks_ne t e2]
     rw [hbl,if_neg (by rw [e1];simpa using e3),arr_of _ hok deep l (n :: ns) [] [] (by simp) (fun x hx => ⟨hkids x hx,hkid' x hx⟩)]
     simp
   ·rcases hk with hk | ⟨hlen,hkb⟩
    ·omega
    unfold keysB at hkb
    have hkb:=of_decide_eq_true hkb
    unfold putU
    rw [if_neg (by omega),if_neg (by omega),if_neg (by omega),if_neg (by omega),if_neg (by omega),if_neg (by omega)]
    show valL deep ((123 :: (putL true ks ns true ++ [125])) ++ l) = _
    rw [valL_obj deep _ rfl (by omega)]
    simp only [List.cons_append,List.tail_cons,List.append_assoc,List.nil_append]
    cases ns with
    | nil =>
     have:ks = []:=List.eq_nil_of_length_eq_zero (by simpa using hlen)
     subst this
     rw [putL_nil,blanks_ne l (by decide)];simp
    | cons n ns =>
     have hb:∃ t,putL true ks (n :: ns) true ++ 125 :: l = 34 :: t:=by
      rw [putL_cons];exact ⟨_,rfl⟩
     obtain ⟨t,e1⟩:=hb
     have hbl:blanksL (putL true ks (n :: ns) true ++ 125 :: l) = putL true ks (n :: ns) true ++ 125 :: l:=by rw [e1,blanks_ne t (by decide)]
     rw [hbl,if_neg (by rw [e1];simp),obj_of _ hok deep l (n :: ns) ks [] [] (by simp) hlen (by simpa using hkb.1) (fun k hk => (validB_iff _).1 (hkb.2 k hk)) (fun x hx => ⟨hkids x hx,hkid' x hx⟩)]
     simp
theorem parse_put (n:Nd) (h:rightD n 0 = true) (hl:(putU n).length ≤ 65536):parseL (putU n) = .ok n:=by
 have h1:=val_put n.count n (Nat.le_refl _) 0 [] (by simpa using h) numEnd_nil
 have h2:=blanks_put n []
 rw [List.append_nil] at h1 h2
 unfold parseL
 rw [if_neg (by omega),h2,h1]
 rfl
theorem ValidP.app {a b:List UInt8} (ha:ValidP a) (hb:ValidP b):ValidP (a ++ b):=by
 obtain ⟨rs,h1,rfl⟩:=ha
 obtain ⟨qs,h2,rfl⟩:=hb
 exact ⟨rs ++ qs,fun x hx => by rcases List.mem_append.1 hx with h | h;exact h1 x h;exact h2 x h,by simp⟩
theorem ValidP.one {p:Int} (h:putB p ≠ []):ValidP (putB p):=by
 have:=ValidP.cons h ValidP.nil
 simpa using this
theorem ValidP.ascii (c:UInt8) (h:c.toNat < 128):ValidP [c]:=by
 rw [← putB_ascii c h]
 exact ValidP.one (by rw [putB_ascii c h];simp)
theorem flat_le4 (p:Int) (hp:putB p ≠ []):((putB p).flatMap escU).length ≤ 6:=by
 by_cases h:p < 128
 ·obtain ⟨c,e,_⟩:=low_one p hp h
  rw [e]
  have:=escU_le c
  simpa using this
 ·rw [high_flat _ (high_all p hp (by omega))]
  have:=putB_len p
  omega
theorem pointL_ok {l:List UInt8} {n:Int} {r:List UInt8} (h:pointL l = some (n,r)):putB n ≠ [] ∧ r.length + 4 ≤ l.length:=by
 unfold pointL at h
 split at h
 ·cases h
 ·rename_i n1 r1 h1
  have k1:=unitL_le _ _ _ _ _ h1
  have b1:=unitL_bd _ _ _ _ _ (by omega) h1
  have p4:(16:Int) ^ 4 = 65536:=by decide
  rw [p4] at b1
  split at h
  ·simp at h;obtain ⟨rfl,rfl⟩:=h
   exact ⟨by rw [Ne,putB_nil];omega,by omega⟩
  ·split at h
   ·cases h
   ·split at h
    ·split at h
     ·cases h
     ·rename_i n2 r2 h2
      have k2:=unitL_le _ _ _ _ _ h2
      have hd:=List.length_drop (l:=r1) (i:=2)
      split at h
      ·cases h
      ·simp at h
       obtain ⟨rfl,rfl⟩:=h
       exact ⟨by rw [Ne,putB_nil];omega,by omega⟩
    ·cases h
theorem escL_ok {l b r:List UInt8} (h:escL l = some (b,r)):ValidP b ∧ (b.flatMap escU).length + r.length ≤ l.length + 1:=by
 unfold escL at h
 cases l with
 | nil => simp at h
 | cons c l =>
  simp only at h
  split at h
  ·rename_i hc
   cases h
   have:c.toNat < 128:=by rcases hc with rfl | rfl | rfl <;> decide
   refine ⟨ValidP.ascii c this,?_⟩
   have e:(escU c).length ≤ 2:=by rcases hc with rfl | rfl | rfl <;> decide
   simp;omega
  split at h
  ·cases h;exact ⟨ValidP.ascii _ (by decide),by simp [escU];omega⟩
  split at h
  ·cases h;exact ⟨ValidP.ascii _ (by decide),by simp [escU];omega⟩
  split at h
  ·cases h;exact ⟨ValidP.ascii _ (by decide),by simp [escU];omega⟩
  split at h
  ·cases h;exact ⟨ValidP.ascii _ (by decide),by simp [escU];omega⟩
  split at h
  ·cases h;exact ⟨ValidP.ascii _ (by decide),by simp [escU];omega⟩
  split at h
  ·split at h
   ·cases h
   ·rename_i n r2 h2
    cases h
    have:=pointL_ok h2
    have h6:=flat_le4 n this.1
    exact ⟨ValidP.one this.1,by simp only [List.length_cons];omega⟩
  ·cases h
theorem textT_ok:∀ (k:Nat) (l acc b r:List UInt8),l.length ≤ k → textT l acc = some (b,r) → ∃ u,b = acc ++ u ∧ ValidP u ∧ (u.flatMap escU).length + r.length + 1 ≤ l.length
 | 0,l,acc,b,r,hk,h => by
  have:l = []:=List.eq_nil_of_length_eq_zero (by omega)
  subst this
  rw [textT_nil] at h;cases h
 | k + 1,[],acc,b,r,hk,h => by rw [textT_nil] at h;cases h
 | k + 1,c :: l,acc,b,r,hk,h => by
  rw [textT_cons] at h
  simp only [List.length_cons] at hk
  split at h
  ·cases h
  rename_i h32
  split at h
  ·cases h;exact ⟨[],by simp,ValidP.nil,by simp⟩
  rename_i h34
  split at h
  ·split at h
   ·cases h
   ·rename_i b2 r2 h2
    have k2:=escL_le h2
    have o2:=escL_ok h2
    obtain ⟨u,e,hv,hlen⟩:=textT_ok k _ _ _ _ (by omega) h
    refine ⟨b2 ++ u,by rw [e,List.append_assoc],o2.1.app hv,?_⟩
    simp only [List.flatMap_append,List.length_append,List.length_cons]
    omega
  rename_i h92
  ·split at h
   ·cases h
   ·rename_i x m h2
    have k2:=dec_le _ _ _ h2
    obtain ⟨d1,d2,d3⟩:=decL_some _ _ _ h2
    have hd:=List.length_drop (l:=c :: l) (i:=m)
    simp only [List.length_cons] at hd k2
    obtain ⟨u,e,hv,hlen⟩:=textT_ok k _ _ _ _ (by omega) h
    have ht:(c :: l).take m = putB x:=by rw [d3,d2];simp
    rw [ht] at e
    refine ⟨putB x ++ u,by rw [e,List.append_assoc],hv.cons d1,?_⟩
    have hf:((putB x).flatMap escU).length = m:=by
     by_cases hx:x < 128
     ·obtain ⟨c',e1,e2⟩:=low_one x d1 hx
      have ec:c' = c:=by rw [e1] at d3;simp at d3;exact d3.1.symm
      subst ec
      rw [d2,e1]
      have:escU c' = [c']:=by
       unfold escU
       rw [if_neg (by rintro (e | e);exact h34 e;exact h92 e),if_pos (by rw [u8_lt] at h32;simpa using h32)]
      simp [this]
     ·rw [high_flat _ (high_all x d1 (by omega)),d2]
    simp only [List.flatMap_append,List.length_append,List.length_cons]
    omega
theorem textL_ok {l b r:List UInt8} (h:textL l = some (b,r)):ValidP b ∧ (quoteU b).length + r.length ≤ l.length:=by
 unfold textL at h
 split at h
 ·rename_i hh
  obtain ⟨u,e,hv,hlen⟩:=textT_ok _ _ _ _ _ (Nat.le_refl _) h
  rw [List.nil_append] at e
  subst e
  have ht:=tail_lt hh
  refine ⟨hv,?_⟩
  unfold quoteU
  simp only [List.length_append,List.length_cons,List.length_nil]
  omega
 ·cases h
theorem valD_dig (ds:List UInt8) (h:∀ c ∈ ds,digB c = true) (hne:ds ≠ []):0 ≤ valD 0 ds ∧ (Lib.decDigits (valD 0 ds).toNat).length ≤ ds.length:=by
 obtain ⟨k,hk⟩:∃ k,ds.length = k:=⟨_,rfl⟩
 induction k generalizing ds with
 | zero => exact absurd (List.eq_nil_of_length_eq_zero hk) hne
 | succ k ih =>
  obtain ⟨es,c,rfl⟩:∃ es c,ds = es ++ [c]:=⟨ds.dropLast,ds.getLast hne,(List.dropLast_concat_getLast hne).symm⟩
  have hc:=h c (by simp)
  unfold digB at hc
  have hc:=of_decide_eq_true hc
  rw [valD_snoc2]
  by_cases he:es = []
  ·subst he
   have:valD 0 [] = 0:=rfl
   rw [this]
   refine ⟨by omega,?_⟩
   rw [Lib.decDigits_one (by omega)]
   simp
  ·have h1:=ih es (fun x hx => h x (by simp [hx])) he (by simp at hk;exact hk)
   refine ⟨by omega,?_⟩
   simp only [List.length_append,List.length_cons,List.length_nil]
   generalize valD 0 es = v at h1 ⊢
   by_cases h9:(v * 10 + ((c.toNat:Int) - 48)).toNat < 10
   ·rw [Lib.decDigits_one h9];simp
   ·rw [Lib.decDigits,dif_neg h9,List.length_append]
    have e:(v * 10 + ((c.toNat:Int) - 48)).toNat / 10 = v.toNat:=by omega
    rw [e]
    simp only [List.length_cons,List.length_nil];omega
theorem take_dig (l:List UInt8):∀ c ∈ l.takeWhile digB,digB c = true:=by
 induction l with
 | nil => intro c hc;simp at hc
 | cons a l ih =>
  intro c hc
  rw [List.takeWhile_cons] at hc
  split at hc
  ·rename_i ha
   rcases List.mem_cons.1 hc with rfl | hc
   ·exact ha
   ·exact ih c hc
  ·simp at hc
theorem numTail_ok {neg:Bool} {l:List UInt8} {n:Int} {r:List UInt8} (h:numTail neg l = some (n,r)) : -9007199254740991 ≤ n ∧ n ≤ 9007199254740991 ∧ (if neg = true then n < 0 else 0 ≤ n) ∧ (Lib.decDigits n.natAbs).length + r.length ≤ l.length:=by
 unfold numTail at h
 split at h
 ·cases h
 ·rename_i hn
  simp only [Option.some.injEq,Prod.mk.injEq] at h
  obtain ⟨rfl,rfl⟩:=h
  have h0:l.takeWhile digB ≠ []:=fun e => hn (.inl e)
  have h1:l.takeWhile digB ++ l.dropWhile digB = l:=List.takeWhile_append_dropWhile
  have h2:=congrArg List.length h1
  rw [List.length_append] at h2
  have h3:=valD_dig _ (take_dig l) h0
  have h4:¬ 9007199254740991 < valD 0 (l.takeWhile digB):=fun e => hn (.inr (.inr (.inl e)))
  have h5:¬ (neg = true ∧ valD 0 (l.takeWhile digB) = 0):=fun e => hn (.inr (.inr (.inr (.inl e))))
  generalize valD 0 (l.takeWhile digB) = v at h3 h4 h5 ⊢
  cases neg with
  | true =>
   simp only [if_true,true_and] at h5 ⊢
   have:(-v).natAbs = v.toNat:=by omega
   rw [this]
   omega
  | false =>
   simp only [Bool.false_eq_true,if_false]
   have:v.natAbs = v.toNat:=by omega
   rw [this]
   omega
theorem numL_ok {l:List UInt8} {n:Int} {r:List UInt8} (h:numL l = some (n,r)) : -9007199254740991 ≤ n ∧ n ≤ 9007199254740991 ∧ (Lib.itoa n).length + r.length ≤ l.length:=by
 unfold numL at h
 split at h
 ·rename_i hh
  have:=numTail_ok h
  have ht:=tail_lt hh
  simp only [if_true] at this
  unfold Lib.itoa
  rw [if_pos this.2.2.1]
  simp only [List.length_cons]
  omega
 ·have:=numTail_ok h
  simp only [Bool.false_eq_true,if_false] at this
  unfold Lib.itoa
  rw [if_neg (by omega)]
  have e:n.toNat = n.natAbs:=by omega
  rw [e]
  omega
theorem right_nd0 (k:Int) (h:k = 1 ∨ k = 2 ∨ k = 3) (deep:Int):rightD (nd0 k) deep = true:=by
 unfold rightD nd0 rightN bareF
 rcases h with rfl | rfl | rfl <;> simp
theorem right_num (n:Int) (h1 : -9007199254740991 ≤ n) (h2:n ≤ 9007199254740991) (deep:Int):rightD (.mk 4 n ⟨#[]⟩ [] []) deep = true:=by
 unfold rightD rightN bareF
 simp [h1,h2]
theorem right_str (t:ByteArray) (h:ValidP t.toList) (deep:Int):rightD (.mk 5 0 t [] []) deep = true:=by
 unfold rightD rightN bareF
 have:=(validB_iff _).2 h
 simp [this]
theorem right_arr (ns:List Nd) (deep:Int) (hd:deep < 24) (h:∀ n ∈ ns,rightD n (deep + 1) = true):rightD (.mk 6 0 ⟨#[]⟩ [] ns) deep = true:=by
 unfold rightD rightN bareF
 have:rightL 9007199254740991 24 ns (deep + 1) = true:=by
  rw [rightL_all,List.all_eq_true]
  exact h
 simp [this,hd]
theorem right_obj (ks:List ByteArray) (ns:List Nd) (deep:Int) (hd:deep < 24) (hl:ks.length = ns.length) (hn:ks.Nodup) (hv:∀ k ∈ ks,ValidP k.toList) (h:∀ n ∈ ns,rightD n (deep + 1) = true):rightD (.mk 7 0 ⟨#[]⟩ ks ns) deep = true:=by
 unfold rightD rightN bareF
 have:rightL 9007199254740991 24 ns (deep + 1) = true:=by
  rw [rightL_all,List.all_eq_true]
  exact h
 have hk:keysB ks = true:=by
  unfold keysB
  exact decide_eq_true ⟨hn,fun k hk => (validB_iff _).2 (hv k hk)⟩
 simp [this,hd,hk,hl]
theorem putU_nd0 (k:Int) (h:k = 1 ∨ k = 2 ∨ k = 3):(putU (nd0 k)).length = if k = 2 then 5 else 4:=by
 unfold nd0 putU
 rcases h with rfl | rfl | rfl <;> rfl
theorem putL_len (obj:Bool) (ks:List ByteArray) (n:Nd) (ns:List Nd):(putL obj ks (n :: ns) true).length = (if obj = true then (quoteU (ks.headD ⟨#[]⟩).toList).length + 1 else 0) + (putU n).length + (if ns = [] then 0 else 1 + (putL obj ks.tail ns true).length):=by
 have h:=putL_cons obj ks n ns []
 simp only [List.append_nil] at h
 rw [h]
 cases ns with
 | nil =>
  have:=putL_nil obj ks.tail false []
  rw [List.append_nil] at this
  rw [this]
  cases obj
  ·simp
  ·simp;omega
 | cons m ns =>
  have:=putL_more obj ks.tail m ns []
  simp only [List.append_nil] at this
  rw [this]
  cases obj <;> simp <;> omega
theorem val_ok:∀ (N:Nat),
  (∀ deep l n r,2 * l.length ≤ N → deep ≤ 24 → valL deep l = .ok (n,r) → rightD n (deep:Int) = true ∧ (putU n).length + r.length ≤ l.length) ∧
  (∀ deep l ns n r,2 * l.length + 1 ≤ N → deep < 24 → arrL deep l ns = .ok (n,r) → ∃ ms,ms ≠ [] ∧ n = .mk 6 0 ⟨#[]⟩ [] (ns ++ ms) ∧ (∀ x ∈ ms,rightD x ((deep:Int) + 1) = true) ∧ (putL false [] ms true).length + 1 + r.length ≤ l.length) ∧
  (∀ deep l ks ns n r,2 * l.length + 1 ≤ N → deep < 24 → objL deep l ks ns = .ok (n,r) → ∃ kk ms,ms ≠ [] ∧ kk.length = ms.length ∧ n = .mk 7 0 ⟨#[]⟩ (ks ++ kk) (ns ++ ms) ∧ (ks.Nodup → (ks ++ kk).Nodup) ∧ (∀ k ∈ kk,ValidP k.toList) ∧ (∀ x ∈ ms,rightD x ((deep:Int) + 1) = true) ∧ (putL true kk ms true).length + 1 + r.length ≤ l.length):=by
 intro N
 induction N using Nat.strongRecOn with
 | _ N ih =>
  refine ⟨?_,?_,?_⟩
  ·intro deep l n r hN hd h
   by_cases h91:l.head? = some 91
   ·by_cases h24:24 ≤ deep
    ·rw [valL_deep deep l (.inl h91) h24] at h;cases h
    rw [valL_arr deep l h91 h24] at h
    have ht:=tail_lt h91
    have hb:=blanksL_le l.tail
    split at h
    ·rename_i h93
     cases h
     have:=tail_lt h93
     refine ⟨right_arr [] _ (by omega) (by simp),?_⟩
     have e:(putU (.mk 6 0 ⟨#[]⟩ [] [])).length = 2:=by unfold putU putL;rfl
     omega
    ·obtain ⟨ms,m1,rfl,m3,m4⟩:=(ih (2 * (blanksL l.tail).length + 1) (by omega)).2.1 deep _ _ n r (Nat.le_refl _) (by omega) h
     rw [List.nil_append]
     refine ⟨right_arr ms _ (by omega) m3,?_⟩
     have e:(putU (.mk 6 0 ⟨#[]⟩ [] ms)).length = 2 + (putL false [] ms true).length:=by
      unfold putU
      rw [if_neg (by omega),if_neg (by omega),if_neg (by omega),if_neg (by omega),if_neg (by omega),if_pos rfl]
      show ([91] ++ putL false [] ms true ++ [93]).length = _
      simp;omega
     omega
   by_cases h123:l.head? = some 123
   ·by_cases h24:24 ≤ deep
    ·rw [valL_deep deep l (.inr h123) h24] at h;cases h
    rw [valL_obj deep l h123 h24] at h
    have ht:=tail_lt h123
    have hb:=blanksL_le l.tail
    split at h
    ·rename_i h93
     cases h
     have:=tail_lt h93
     refine ⟨right_obj [] [] _ (by omega) rfl (by simp) (by simp) (by simp),?_⟩
     have e:(putU (.mk 7 0 ⟨#[]⟩ [] [])).length = 2:=by unfold putU putL;rfl
     omega
    ·obtain ⟨kk,ms,m1,m2,rfl,m3,m4,m5,m6⟩:=(ih (2 * (blanksL l.tail).length + 1) (by omega)).2.2 deep _ _ _ n r (Nat.le_refl _) (by omega) h
     rw [List.nil_append,List.nil_append]
     refine ⟨right_obj kk ms _ (by omega) m2 (by simpa using m3) m4 m5,?_⟩
     have e:(putU (.mk 7 0 ⟨#[]⟩ kk ms)).length = 2 + (putL true kk ms true).length:=by
      unfold putU
      rw [if_neg (by omega),if_neg (by omega),if_neg (by omega),if_neg (by omega),if_neg (by omega),if_neg (by omega)]
      show ([123] ++ putL true kk ms true ++ [125]).length = _
      simp;omega
     omega
   by_cases h34:l.head? = some 34
   ·rw [valL_str deep l h34] at h
    cases ht:textL l with
    | none => rw [ht] at h;cases h
    | some p =>
     obtain ⟨t,r'⟩:=p
     rw [ht] at h
     simp only [Except.ok.injEq,Prod.mk.injEq] at h
     obtain ⟨rfl,rfl⟩:=h
     have:=textL_ok ht
     have e:(⟨t.toArray⟩:ByteArray).toList = t:=by rw [ByteArray.toList_eq]
     refine ⟨right_str _ (by rw [e];exact this.1) _,?_⟩
     have e2:putU (.mk 5 0 ⟨t.toArray⟩ [] []) = quoteU t:=by
      unfold putU
      rw [if_neg (by omega),if_neg (by omega),if_neg (by omega),if_neg (by omega),if_pos rfl,e]
     rw [e2];exact this.2
   rw [valL_else deep l h91 h123 h34] at h
   split at h
   ·rename_i ht
    cases h
    have:=putU_nd0 1 (by omega)
    have h5:=congrArg List.length ht
    simp only [List.length_take,List.length_cons,List.length_nil] at h5
    exact ⟨right_nd0 1 (by omega) _,by rw [this,List.length_drop];simp;omega⟩
   split at h
   ·rename_i ht
    cases h
    have:=putU_nd0 2 (by omega)
    have h5:=congrArg List.length ht
    simp only [List.length_take,List.length_cons,List.length_nil] at h5
    exact ⟨right_nd0 2 (by omega) _,by rw [this,List.length_drop];simp;omega⟩
   split at h
   ·rename_i ht
    cases h
    have:=putU_nd0 3 (by omega)
    have h5:=congrArg List.length ht
    simp only [List.length_take,List.length_cons,List.length_nil] at h5
    exact ⟨right_nd0 3 (by omega) _,by rw [this,List.length_drop];simp;omega⟩
   cases ht:numL l with
   | none => rw [ht] at h;cases h
   | some p =>
    obtain ⟨m,r'⟩:=p
    rw [ht] at h
    simp only [Except.ok.injEq,Prod.mk.injEq] at h
    obtain ⟨rfl,rfl⟩:=h
    have:=numL_ok ht
    refine ⟨right_num m this.1 this.2.1 _,?_⟩
    have e2:putU (.mk 4 m ⟨#[]⟩ [] []) = Lib.itoa m:=by
     unfold putU
     rw [if_neg (by omega),if_neg (by omega),if_neg (by omega),if_pos rfl]
    rw [e2];exact this.2.2
  ·intro deep l ns n r hN hd h
   rw [arrL_eq] at h
   have hb:=blanksL_le l
   cases hv:valL (deep + 1) (blanksL l) with
   | error e => rw [hv] at h;cases h
   | ok p =>
    obtain ⟨x,r1⟩:=p
    rw [hv] at h
    simp only at h
    obtain ⟨g1,g2⟩:=(ih (2 * (blanksL l).length) (by omega)).1 (deep + 1) _ x r1 (Nat.le_refl _) (by omega) hv
    have hr1:=(valL_le hv).2
    have hb1:=blanksL_le r1
    split at h
    ·rename_i h93
     cases h
     have:=tail_lt h93
     refine ⟨[x],by simp,rfl,by simpa using g1,?_⟩
     rw [putL_len]
     simp;omega
    ·split at h
     ·rename_i h44
      have ht:=tail_lt h44
      obtain ⟨ms,m1,m2,m3,m4⟩:=(ih (2 * (blanksL r1).tail.length + 1) (by omega)).2.1 deep _ _ n r (Nat.le_refl _) hd h
      refine ⟨x :: ms,by simp,by rw [m2];simp,?_,?_⟩
      ·intro y hy
       rcases List.mem_cons.1 hy with rfl | hy
       ·simpa using g1
       ·exact m3 y hy
      ·rw [putL_len,if_neg (by simp),if_neg m1]
       simp only [List.tail_nil]
       omega
     ·cases h
  ·intro deep l ks ns n r hN hd h
   rw [objL_eq] at h
   have hb:=blanksL_le l
   cases ht:textL (blanksL l) with
   | none => rw [ht] at h;cases h
   | some p =>
    obtain ⟨k,r0⟩:=p
    rw [ht] at h
    simp only at h
    have o:=textL_ok ht
    have hr0:=(textL_le ht).2
    have hb0:=blanksL_le r0
    split at h
    ·cases h
    rename_i hany
    split at h
    ·rename_i h58
     have h58:=tail_lt h58
     have hb2:=blanksL_le (blanksL r0).tail
     cases hv:valL (deep + 1) (blanksL (blanksL r0).tail) with
     | error e => rw [hv] at h;cases h
     | ok p =>
      obtain ⟨x,r1⟩:=p
      rw [hv] at h
      simp only at h
      obtain ⟨g1,g2⟩:=(ih (2 * (blanksL (blanksL r0).tail).length) (by omega)).1 (deep + 1) _ x r1 (Nat.le_refl _) (by omega) hv
      have hr1:=(valL_le hv).2
      have hb1:=blanksL_le r1
      have ek:(⟨k.toArray⟩:ByteArray).toList = k:=by rw [ByteArray.toList_eq]
      have hnew:(⟨k.toArray⟩:ByteArray) ∉ ks:=fun hm => hany (by
       rw [List.any_eq_true]
       exact ⟨_,hm,by rw [ek];simp⟩)
      have hnd:ks.Nodup → (ks ++ [(⟨k.toArray⟩:ByteArray)]).Nodup:=fun hn => by
       rw [List.nodup_append]
       exact ⟨hn,by simp,fun a ha b hb e => by simp at hb;subst hb;subst e;exact hnew ha⟩
      split at h
      ·rename_i h93
       cases h
       have:=tail_lt h93
       refine ⟨[⟨k.toArray⟩],[x],by simp,rfl,rfl,hnd,by intro y hy;simp at hy;subst hy;rw [ek];exact o.1,by simpa using g1,?_⟩
       rw [putL_len]
       simp only [List.headD_cons,ek,if_true]
       omega
      ·split at h
       ·rename_i h44
        have ht:=tail_lt h44
        obtain ⟨kk,ms,m1,m2,m3,m4,m5,m6,m7⟩:=(ih (2 * (blanksL r1).tail.length + 1) (by omega)).2.2 deep _ _ _ n r (Nat.le_refl _) hd h
        refine ⟨⟨k.toArray⟩ :: kk,x :: ms,by simp,by simp [m2],by rw [m3];simp,?_,?_,?_,?_⟩
        ·intro hn
         have:=m4 (hnd hn)
         simpa using this
        ·intro y hy
         rcases List.mem_cons.1 hy with rfl | hy
         ·rw [ek];exact o.1
         ·exact m5 y hy
        ·intro y hy
         rcases List.mem_cons.1 hy with rfl | hy
         ·simpa using g1
         ·exact m6 y hy
        ·rw [putL_len,if_pos rfl,if_neg m1]
         simp only [List.headD_cons,ek,List.tail_cons]
         omega
       ·cases h
    ·cases h
theorem parse_back {l:List UInt8} {n:Nd} (h:parseL l = .ok n):rightD n 0 = true ∧ (putU n).length ≤ l.length ∧ l.length ≤ 65536 ∧ parseL (putU n) = .ok n:=by
 unfold parseL at h
 split at h
 ·cases h
 rename_i hl
 cases hv:valL 0 (blanksL l) with
 | error e => rw [hv] at h;cases h
 | ok p =>
  obtain ⟨m,r⟩:=p
  rw [hv] at h
  simp only at h
  split at h
  ·cases h
   obtain ⟨h1,h2⟩:=(val_ok _).1 0 _ n r (Nat.le_refl _) (by omega) hv
   have hb:=blanksL_le l
   have h1:rightD n 0 = true:=by simpa using h1
   exact ⟨h1,by omega,by omega,parse_put n h1 (by omega)⟩
  ·cases h
end Go.Proofs.YthbjehbpanhdoaaDoor
