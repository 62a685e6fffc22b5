/- Texts of one seat,one behind the other: Lib,Utf0,Utf,UtfGet,UtfVal,Mem,Bytes,Bld,Wtext,Node0,Node1,Node2,Node3,Text0,Text1,Text2,Wnode,Wkids,Wnod2,MapB,Keys,Bare,Right0,Right1. No condition. -/
import Derived.Test.YthbjehbpanhdoaaDoorChecked
import Derived.WalkKit
import Derived.WalkSpells
import Derived.WalkLawsBesides
import Derived.Laws.BytesArg
import Derived.Laws.IdiomStrings
import Derived.Lib.Hide
import Derived.Outline
import Derived.Deep.DeepFit
import Derived.Deep.DeepMust
import Derived.BigQuiet
import Derived.Deep.QuietTactic
import Derived.Deep.LoopGhost
import Derived.Below
import Derived.ChangeSame
import Derived.PlainAid
import Derived.Deep.RegionWith
import Derived.Laws.OwnMore
import Derived.Deep.AppendLies
import Derived.Deep.Draws
import Derived.Laws.Rows
import Derived.Maps.AppendAt
import Derived.RegionTactic
import Derived.OwnWalk
import Derived.Deep.OwnRows
import Derived.Lib.Builder
import Derived.Lib.FrozenHead
import Derived.Lib.FrozenHead2
import Derived.Lib.OthersKept
import Derived.Lib.BufferKept
import Derived.Lib.AppendStr
import Derived.Lib.UnsafeStr
import Derived.Laws.Externs
import Derived.Deep.RegionHeld3
import Derived.Deep.DeepCutAuto
import Derived.Lib.ItoaNum
import Derived.Lib.ItoaLen
import Derived.Test.YthbjehbpanhdoaaDoorNS
import Derived.Lib.AppendIntMem
import Derived.Maps.OwnOps
import Derived.Maps.Views
import Derived.StringKeys
namespace Go.Proofs.YthbjehbpanhdoaaDoor
open Go.RowKit
abbrev Zn : Array Value := #[.int .i64 0, .int .i64 0, .string ⟨#[]⟩, .slice none 0 0, .slice none 0 0]
abbrev nA (a b : Int) (t : ByteArray) (p : Option Addr) (i j : Nat) (q : Option Addr) (k l : Nat) : Array Value := #[.int .i64 a, .int .i64 b, .string t, .slice p i j, .slice q k l]
abbrev nL (a b : Int) (t : ByteArray) (p : Option Addr) (i j : Nat) (q : Option Addr) (k l : Nat) : List Value := [.int .i64 a, .int .i64 b, .string t, .slice p i j, .slice q k l]
abbrev qa (b o : Nat) : Addr := ⟨b, o, none⟩
variable {P:Program}

theorem wraps_i64 (n:Int) (h₀:0 ≤ n) (h₁:n < 2 ^ 63):IntKind.i64.wrap n = n:=by rw [IntKind.wrap_i64];omega
theorem i64_mask (i:Nat) (hi:i ≤ 63) (x:Int) (h₀:0 ≤ x) (h₁:x < 2 ^ 63):bits .and .i64 x (2 ^ i - 1) = x % 2 ^ i:=
 bits_mask .i64 63 (by decide) wraps_i64 i hi x h₀ h₁
theorem i64_and63 (x:Int) (h₀:0 ≤ x) (h₁:x < 9223372036854775808):bits .and .i64 x 63 = x % 64:=i64_mask 6 (by decide) x h₀ h₁
theorem i64_join (i:Nat) (x y:Int) (hx₀:0 ≤ x) (hx:x % 2 ^ i = 0) (hx₁:x < 2 ^ 63) (hy₀:0 ≤ y) (hy:y < 2 ^ i) (hy₁:y < 2 ^ 63):bits .or .i64 x y = x + y:=
 bits_join .i64 63 (by decide) wraps_i64 i x y hx₀ hx hx₁ hy₀ hy hy₁
theorem conv_new (w:World) (src dst e:TypeId) (hs:P.underlying src = some (.slice e)) (he:P.underlying e = some (.int .u8)) (hd:P.underlying dst = some .string) (l:List Int) (fr:Nat × Nat) (c:Nat) :
  (convert src dst (.slice (some (qa w.heap.size 0)) l.length c)).run P (w.alloc (.cells (l.map (Value.int .u8)).toArray e fr)) = .ok (.string (strOfNums l)) (w.alloc (.cells (l.map (Value.int .u8)).toArray e fr)):=by
 refine run_convert_bytes_arg _ src e hs he _ 0 _ c l rfl (fun i hi => ?_) dst hd
 rw [Nat.zero_add,World.cell?_alloc_mark]
 simp [List.getD,hi]
theorem conv1 (src dst e:TypeId) (hs:P.underlying src = some (.slice e)) (he:P.underlying e = some (.int .u8)) (hd:P.underlying dst = some .string) (w:World) (a:Int) (c:Nat) :
  (convert src dst (.slice (some (qa w.heap.size 0)) 1 c)).run P (w.alloc (.cells #[.int .u8 a] e)) = .ok (.string (strOfNums [a])) (w.alloc (.cells #[.int .u8 a] e)):=conv_new w src dst e hs he hd [a] _ c
theorem conv2 (src dst e:TypeId) (hs:P.underlying src = some (.slice e)) (he:P.underlying e = some (.int .u8)) (hd:P.underlying dst = some .string) (w:World) (a b:Int) (c:Nat) :
  (convert src dst (.slice (some (qa w.heap.size 0)) 2 c)).run P (w.alloc (.cells #[.int .u8 a,.int .u8 b] e)) = .ok (.string (strOfNums [a,b])) (w.alloc (.cells #[.int .u8 a,.int .u8 b] e)):=conv_new w src dst e hs he hd [a,b] _ c
theorem conv3 (src dst e:TypeId) (hs:P.underlying src = some (.slice e)) (he:P.underlying e = some (.int .u8)) (hd:P.underlying dst = some .string) (w:World) (a b d:Int) (c:Nat) :
  (convert src dst (.slice (some (qa w.heap.size 0)) 3 c)).run P (w.alloc (.cells #[.int .u8 a,.int .u8 b,.int .u8 d] e)) = .ok (.string (strOfNums [a,b,d])) (w.alloc (.cells #[.int .u8 a,.int .u8 b,.int .u8 d] e)):=conv_new w src dst e hs he hd [a,b,d] _ c
theorem conv4 (src dst e:TypeId) (hs:P.underlying src = some (.slice e)) (he:P.underlying e = some (.int .u8)) (hd:P.underlying dst = some .string) (w:World) (a b d f:Int) (c:Nat) :
  (convert src dst (.slice (some (qa w.heap.size 0)) 4 c)).run P (w.alloc (.cells #[.int .u8 a,.int .u8 b,.int .u8 d,.int .u8 f] e)) = .ok (.string (strOfNums [a,b,d,f])) (w.alloc (.cells #[.int .u8 a,.int .u8 b,.int .u8 d,.int .u8 f] e)):=conv_new w src dst e hs he hd [a,b,d,f] _ c
theorem nextB {w wa wb:World} (h:Below w.heap.size w wa) (k:Below wa.heap.size wa wb):Below w.heap.size w wb:=h.trans (k.mono h.size)
theorem nextA {w wa wb:World} {o:Obj} (h:Below w.heap.size w wa) (k:Below (wa.alloc o).heap.size (wa.alloc o) wb):Below w.heap.size w wb:=nextB (h.alloc h.size o) k
theorem nextAA {w wa wb:World} {o o':Obj} (h:Below w.heap.size w wa) (k:Below ((wa.alloc o).alloc o').heap.size ((wa.alloc o).alloc o') wb):Below w.heap.size w wb:=nextA (h.alloc h.size o) k
theorem nextAD {w wa wb:World} {o:Obj} (h:Below w.heap.size w wa) (k:Below ((wa.alloc o).drew).heap.size ((wa.alloc o).drew) wb):Below w.heap.size w wb:=nextB ((h.alloc h.size o).drew) k
def IsRow (k:IntKind) (w:World) (a:Option Addr) (len cap:Nat) (zs:List Int):Prop:=
 (a = none ∧ len = 0 ∧ cap = 0 ∧ zs = []) ∨
 ∃ x,a = some x ∧ len ≤ cap ∧ cap ≤ maxLen ∧ zs.length = cap ∧ (∀ i,i < zs.length → w.cell? (x.add i) = some (.int k (zs.getD i 0))) ∧ ∀ n ∈ zs,(Lit.int k n).wf = true
/- the row's last step: one of the guide's lemmas to copy -/
section
open Go.WideShapes Go.ChangeShapes
variable {H:Type} {enc:TypeId × Value → H} {P:Program}
theorem post_of_below {f:Func} {s:ChangeSpec} {apart fresh handsOn again:Bool} {W W':World} {args:Array Value} {v:Value} {ds gs:List (DataW H)} {before pa pv:List MemPlace}
  (hW:DataW.Whole enc P f.params.toList s.vars apart W args.toList ds gs before)
  (hres:∀ (b:Nat) (sp:Nat → Bool) (hd:Bool),DataW.TrodAll enc P W' b sp hd f.resultTypes.toList (v.resultList f.resultTypes.size) (s.fn H (ds ++ gs)).results [])
  (hargs:∀ sp:Nat → Bool,(∀ p ∈ before,sp p.block = true) → DataW.TrodAll enc P W' 0 sp true f.params.toList args.toList (s.fn H (ds ++ gs)).args pa)
  (hvars:∀ sp:Nat → Bool,(∀ p ∈ before,sp p.block = true) → DataW.TrodVars enc P W' sp s.vars (s.fn H (ds ++ gs)).vars pv)
  (hps:before = pa ++ pv) (hb:Below W.heap.size W W')
  (hok:∀ (j:Nat) (t:TypeId) (r:Value),f.resultTypes[j]? = some t → (v.resultList f.resultTypes.size)[j]? = some r → Value.okWide P W' .any 0 t r) :
  s.post enc P f apart fresh handsOn again W args v W':=by
 have hlt:∀ p ∈ before,p.block < W.heap.size:=fun p hp => hW.lt p hp
 have hold:∀ p ∈ before,(fun b => decide (b < W.heap.size)) p.block = true:=fun p hp => by simpa using hlt p hp
 refine ⟨ds,gs,before,[],pa,pv,hW,hres _ _ _,hargs _ hold,hvars _ hold,World.keptBut_mono (fun p hp => ⟨hp,?_⟩) (hb.frame (· ∈ before)),fun _ => ?_⟩
 ·rw [hps,List.mem_append] at hp
  exact Or.inr hp
 ·obtain ⟨_,_,_,_,_,hz,hn⟩:=hW
  refine ⟨hok,_,_,([] ++ pa) ++ pv,⟨[] ++ pa,pv,trodAll_append (hargs _ (fun _ _ => rfl)) (hres _ _ _),hvars _ (fun _ _ => rfl),rfl,?_,?_⟩,?_⟩
  ·intro b off hp
   have hin:MemPlace.cell b off ∈ before:=by rw [hps];simpa using hp
   rw [hb.frozen (hlt _ hin)]
   exact hz b off hin
  ·intro ha
   have:=hn ha
   rw [hps] at this
   simpa using this
  ·intro p hp _
   rw [hps]
   simpa using hp
end
end Go.Proofs.YthbjehbpanhdoaaDoor
namespace Go.Proofs.YthbjehbpanhdoaaDoor
open Go.RowKit Go.PlainAid
set_option linter.unusedVariables false
set_option linter.unusedSimpArgs false
def putN (r:Int):List Int:=
 if r < 0 ∨ 1114111 < r ∨ (55296 ≤ r ∧ r ≤ 57343) then [] else if r < 128 then [r] else if r < 2048 then [192 + r / 64,128 + r % 64]
 else if r < 65536 then [224 + r / 4096,128 + r / 64 % 64,128 + r % 64] else [240 + r / 262144,128 + r / 4096 % 64,128 + r / 64 % 64,128 + r % 64]
def put (r:Int):ByteArray:=strOfNums (putN r)
def sizeN (c:Int):Int × Int:=if c < 128 then (1,c) else if c < 192 then (0,0) else if c < 224 then (2,c % 32) else if c < 240 then (3,c % 16) else if c < 248 then (4,c % 8) else (0,0)
def rsizeN (c:Int):Int × Int:=if 240 ≤ c then (4,c % 8) else if 224 ≤ c then (3,c % 16) else if 192 ≤ c then (2,c % 32) else (1,c)
def acc (s:ByteArray) (k:Nat) (r:Int):Nat → Int
 | 0 => r
 | i + 1 => acc s k r i * 64 + bt s (k + (i + 1)) % 64
theorem acc_bound (s:ByteArray) (k:Nat) (r:Int) (h0:0 ≤ r) (h1:r < 256):∀ i,i ≤ 3 → 0 ≤ acc s k r i ∧ acc s k r i < 67108864:=by
 have b:=bt_nonneg s
 have step:∀ i (B:Int),0 ≤ acc s k r i → acc s k r i < B → 0 ≤ acc s k r (i + 1) ∧ acc s k r (i + 1) < B * 64:=by
  intro i B g0 g1
  have:=b (k + (i + 1))
  simp only [acc]
  omega
 intro i hi
 have s0:0 ≤ acc s k r 0 ∧ acc s k r 0 < 256:=⟨h0,h1⟩
 have s1:0 ≤ acc s k r 1 ∧ acc s k r 1 < 16384:=step 0 256 s0.1 s0.2
 have s2:0 ≤ acc s k r 2 ∧ acc s k r 2 < 1048576:=step 1 _ s1.1 s1.2
 have s3:0 ≤ acc s k r 3 ∧ acc s k r 3 < 67108864:=step 2 _ s2.1 s2.2
 rcases (by omega:i = 0 ∨ i = 1 ∨ i = 2 ∨ i = 3) with rfl | rfl | rfl | rfl <;> omega
theorem sizeN_le (c:Int) (h0:0 ≤ c) (h1:c < 256):0 ≤ (sizeN c).1 ∧ (sizeN c).1 ≤ 4 ∧ 0 ≤ (sizeN c).2 ∧ (sizeN c).2 < 256:=by
 unfold sizeN
 repeat' split
 all_goals (refine ⟨?_,?_,?_,?_⟩ <;> omega)
theorem rsizeN_le (c:Int) (h0:0 ≤ c) (h1:c < 256):1 ≤ (rsizeN c).1 ∧ (rsizeN c).1 ≤ 4 ∧ 0 ≤ (rsizeN c).2 ∧ (rsizeN c).2 < 256:=by
 unfold rsizeN
 repeat' split
 all_goals (refine ⟨?_,?_,?_,?_⟩ <;> omega)

def putB (r:Int):List UInt8:=(putN r).map fun n => UInt8.ofNat n.toNat
theorem put_toList (r:Int):(put r).toList = putB r:=by
 rw [ByteArray.toList_eq];exact strOfNums_data _
def accL (r:Int) (l:List UInt8):Int:=l.foldl (fun r b => r * 64 + (b.toNat:Int) % 64) r
theorem bt_eq (s:ByteArray) (k:Nat) (c:UInt8) (h:s.toList[k]? = some c):bt s k = c.toNat:=by
 rw [ByteArray.toList_eq] at h
 unfold bt
 have hk:k < s.size:=by
  have:=(List.getElem?_eq_some_iff.1 h).1
  simpa using this
 rw [dif_pos hk]
 have:=(List.getElem?_eq_some_iff.1 h).2
 rw [← this]
 rfl
theorem acc_eq (s:ByteArray) (k:Nat) (r:Int) (i:Nat) (h:k + i < s.size):acc s k r i = accL r ((s.toList.drop (k + 1)).take i):=by
 have hl:s.toList.length = s.size:=by rw [ByteArray.toList_eq];simp
 induction i with
 | zero => rfl
 | succ i ih =>
  have hj:k + 1 + i < s.toList.length:=by omega
  have e:(s.toList.drop (k + 1)).take (i + 1) = (s.toList.drop (k + 1)).take i ++ [s.toList[k + 1 + i]]:=by
   rw [List.take_succ_eq_append_getElem (by simp;omega)]
   simp
  rw [e]
  unfold accL
  rw [List.foldl_append]
  simp only [acc,List.foldl_cons,List.foldl_nil]
  have:=ih (by omega)
  unfold accL at this
  rw [this,bt_eq s (k + (i + 1)) (s.toList[k + 1 + i]) (by rw [show k + (i + 1) = k + 1 + i by omega];exact List.getElem?_eq_getElem hj)]
def decW (sz:Int → Int × Int) (l:List UInt8):Option (Int × Nat):=
 match l with
 | [] => none
 | c :: t =>
  let n:=(sz c.toNat).1.toNat
  let r:=accL (sz c.toNat).2 (t.take (n - 1))
  if n = 0 ∨ t.length + 1 < n then none else if putB r = (c :: t).take n then some (r,n) else none
def decL (l:List UInt8):Option (Int × Nat):=decW sizeN l
theorem putB_of {r:Int} {l:List Int} (h:putN r = l):putB r = l.map fun n => UInt8.ofNat n.toNat:=by unfold putB;rw [h]
theorem toNat_ofNat (n:Int) (h0:0 ≤ n) (h1:n < 256):((UInt8.ofNat n.toNat).toNat:Int) = n:=by
 simp;omega
theorem decW_put (sz:Int → Int × Int) (hz:∀ c,sz c = sizeN c ∨ 128 ≤ c ∧ c < 192 ∨ 248 ≤ c) (r:Int) (t:List UInt8) (h:putB r ≠ []):decW sz (putB r ++ t) = some (r,(putB r).length):=by
 have sz':∀ c,c < 128 ∨ 192 ≤ c ∧ c < 248 → sz c = sizeN c:=fun c hc => by
  rcases hz c with h | h | h
  ·exact h
  ·omega
  ·omega
 by_cases h0:r < 0 ∨ 1114111 < r ∨ (55296 ≤ r ∧ r ≤ 57343)
 ·exact absurd (by rw [putB_of (l:=[]) (by unfold putN;rw [if_pos h0])];rfl) h
 by_cases h1:r < 128
 ·have e:putN r = [r]:=by unfold putN;rw [if_neg h0,if_pos h1]
  have eb:=putB_of e
  have b0:=toNat_ofNat r (by omega) (by omega)
  have z:sz r = (1,r):=by rw [sz' r (by omega)];unfold sizeN;rw [if_pos (by omega)]
  rw [eb]
  simp only [List.map_cons,List.map_nil,List.cons_append,List.nil_append,decW,b0,z]
  simp [accL,eb]
 by_cases h2:r < 2048
 ·have e:putN r = [192 + r / 64,128 + r % 64]:=by unfold putN;rw [if_neg h0,if_neg h1,if_pos h2]
  have eb:=putB_of e
  have b0:=toNat_ofNat (192 + r / 64) (by omega) (by omega)
  have b1:=toNat_ofNat (128 + r % 64) (by omega) (by omega)
  have z:sz (192 + r / 64) = (2,(192 + r / 64) % 32):=by rw [sz' _ (by omega)];unfold sizeN;rw [if_neg (by omega),if_neg (by omega),if_pos (by omega)]
  have er:(192 + r / 64) % 32 * 64 + (128 + r % 64) % 64 = r:=by omega
  rw [eb]
  simp only [List.map_cons,List.map_nil,List.cons_append,List.nil_append,decW,b0,z]
  simp only [accL,show (2:Int).toNat = 2 from rfl,show 2 - 1 = 1 from rfl,List.take_succ_cons,List.take_zero,List.foldl_cons,List.foldl_nil,b1,er,eb,List.map_cons,List.map_nil]
  simp
 by_cases h3:r < 65536
 ·have e:putN r = [224 + r / 4096,128 + r / 64 % 64,128 + r % 64]:=by unfold putN;rw [if_neg h0,if_neg h1,if_neg h2,if_pos h3]
  have eb:=putB_of e
  have b0:=toNat_ofNat (224 + r / 4096) (by omega) (by omega)
  have b1:=toNat_ofNat (128 + r / 64 % 64) (by omega) (by omega)
  have b2:=toNat_ofNat (128 + r % 64) (by omega) (by omega)
  have z:sz (224 + r / 4096) = (3,(224 + r / 4096) % 16):=by rw [sz' _ (by omega)];unfold sizeN;rw [if_neg (by omega),if_neg (by omega),if_neg (by omega),if_pos (by omega)]
  have er:((224 + r / 4096) % 16 * 64 + (128 + r / 64 % 64) % 64) * 64 + (128 + r % 64) % 64 = r:=by omega
  rw [eb]
  simp only [List.map_cons,List.map_nil,List.cons_append,List.nil_append,decW,b0,z]
  simp only [accL,show (3:Int).toNat = 3 from rfl,show 3 - 1 = 2 from rfl,List.take_succ_cons,List.take_zero,List.foldl_cons,List.foldl_nil,b1,b2,er,eb,List.map_cons,List.map_nil]
  simp
 ·have e:putN r = [240 + r / 262144,128 + r / 4096 % 64,128 + r / 64 % 64,128 + r % 64]:=by unfold putN;rw [if_neg h0,if_neg h1,if_neg h2,if_neg h3]
  have eb:=putB_of e
  have b0:=toNat_ofNat (240 + r / 262144) (by omega) (by omega)
  have b1:=toNat_ofNat (128 + r / 4096 % 64) (by omega) (by omega)
  have b2:=toNat_ofNat (128 + r / 64 % 64) (by omega) (by omega)
  have b3:=toNat_ofNat (128 + r % 64) (by omega) (by omega)
  have z:sz (240 + r / 262144) = (4,(240 + r / 262144) % 8):=by rw [sz' _ (by omega)];unfold sizeN;rw [if_neg (by omega),if_neg (by omega),if_neg (by omega),if_neg (by omega),if_pos (by omega)]
  have er:(((240 + r / 262144) % 8 * 64 + (128 + r / 4096 % 64) % 64) * 64 + (128 + r / 64 % 64) % 64) * 64 + (128 + r % 64) % 64 = r:=by omega
  rw [eb]
  simp only [List.map_cons,List.map_nil,List.cons_append,List.nil_append,decW,b0,z]
  simp only [accL,show (4:Int).toNat = 4 from rfl,show 4 - 1 = 3 from rfl,List.take_succ_cons,List.take_zero,List.foldl_cons,List.foldl_nil,b1,b2,b3,er,eb,List.map_cons,List.map_nil]
  simp
theorem decW_some (sz:Int → Int × Int) (l:List UInt8) (r:Int) (n:Nat) (h:decW sz l = some (r,n)):putB r ≠ [] ∧ n = (putB r).length ∧ l = putB r ++ l.drop n:=by
 unfold decW at h
 split at h
 ·cases h
 ·rename_i c t
  dsimp only at h
  split at h
  ·cases h
  ·rename_i hc
   split at h
   ·rename_i hp
    simp only [Option.some.injEq,Prod.mk.injEq] at h
    obtain ⟨rfl,rfl⟩:=h
    have hlen:(putB (accL (sz c.toNat).2 (t.take ((sz c.toNat).1.toNat - 1)))).length = (sz c.toNat).1.toNat:=by
     rw [hp];simp;omega
    refine ⟨fun e => ?_,hlen.symm,?_⟩
    ·rw [e] at hlen;simp at hlen;omega
    ·rw [hp];exact (List.take_append_drop _ _).symm
   ·cases h
theorem decL_some (l:List UInt8) (r:Int) (n:Nat) (h:decL l = some (r,n)):putB r ≠ [] ∧ n = (putB r).length ∧ l = putB r ++ l.drop n:=decW_some _ l r n h
theorem decL_put (r:Int) (t:List UInt8) (h:putB r ≠ []):decL (putB r ++ t) = some (r,(putB r).length):=decW_put _ (fun _ => Or.inl rfl) r t h
theorem rsize_or (c:Int):rsizeN c = sizeN c ∨ 128 ≤ c ∧ c < 192 ∨ 248 ≤ c:=by
 by_cases h:128 ≤ c ∧ c < 192 ∨ 248 ≤ c
 ·exact Or.inr h
 ·left
  unfold rsizeN sizeN
  repeat' split
  all_goals first | rfl | omega
theorem rdec_eq (l:List UInt8):decW rsizeN l = decL l:=by
 cases h:decW rsizeN l with
 | some p =>
  obtain ⟨r,n⟩:=p
  obtain ⟨h1,h2,h3⟩:=decW_some _ l r n h
  rw [h3,decL_put r _ h1,← h2]
 | none =>
  cases h':decL l with
  | none => rfl
  | some p =>
   obtain ⟨r,n⟩:=p
   obtain ⟨h1,h2,h3⟩:=decL_some l r n h'
   rw [h3,decW_put _ rsize_or r _ h1] at h
   cases h
theorem putN_nonneg (r:Int) (h:putB r ≠ []):0 ≤ r ∧ r ≤ 1114111:=by
 by_cases h0:r < 0 ∨ 1114111 < r ∨ (55296 ≤ r ∧ r ≤ 57343)
 ·exact absurd (by rw [putB_of (l:=[]) (by unfold putN;rw [if_pos h0])];rfl) h
 ·omega
theorem putB_nil (r:Int):putB r = [] ↔ r < 0 ∨ 1114111 < r ∨ (55296 ≤ r ∧ r ≤ 57343):=by
 constructor
 ·intro h
  by_cases h0:r < 0 ∨ 1114111 < r ∨ (55296 ≤ r ∧ r ≤ 57343)
  ·exact h0
  ·exfalso
   unfold putB putN at h
   rw [if_neg h0] at h
   repeat' split at h
   all_goals simp at h
 ·intro h0
  rw [putB_of (l:=[]) (by unfold putN;rw [if_pos h0])];rfl
theorem putB_len (r:Int):(putB r).length ≤ 4:=by
 unfold putB putN
 repeat' split
 all_goals simp
def getL (l:List UInt8) (k:Nat):Int × Int:=match decL (l.drop k) with | none => (-1,k) | some (r,n) => (r,k + n)
theorem extract_toList (s:ByteArray) (k n:Nat):(s.extract k (k + n)).toList = (s.toList.drop k).take n:=by
 rw [ByteArray.toList_eq,ByteArray.toList_eq,ByteArray.data_extract,Array.toList_extract]
 simp [List.extract]
theorem getW (sz:Int → Int × Int) (s:ByteArray) (k n:Nat) (r:Int) (hk:k < s.size) (e:sz (bt s k) = ((n:Int),r)) (h0:0 < n) (hn:k + n ≤ s.size) :
  decW sz (s.toList.drop k) = if ((put (acc s k r (n - 1))).toList == (s.extract k (k + n)).toList) = true then some (acc s k r (n - 1),n) else none:=by
 have hl:s.toList.length = s.size:=by rw [ByteArray.toList_eq];simp
 have hd:s.toList.drop k = s.toList[k]'(by omega) :: s.toList.drop (k + 1):=List.drop_eq_getElem_cons (by omega)
 have hb:bt s k = (s.toList[k]'(by omega)).toNat:=bt_eq s k _ (List.getElem?_eq_getElem (by omega))
 rw [extract_toList,hd]
 simp only [decW]
 rw [← hb,e]
 simp only [Int.toNat_natCast]
 rw [acc_eq s k r (n - 1) (by omega),put_toList,if_neg (by simp;omega)]
 simp only [beq_iff_eq]
theorem getW_none (sz:Int → Int × Int) (s:ByteArray) (k n:Nat) (r:Int) (hk:k < s.size) (e:sz (bt s k) = ((n:Int),r)) (h:n = 0 ∨ s.size < k + n):decW sz (s.toList.drop k) = none:=by
 have hl:s.toList.length = s.size:=by rw [ByteArray.toList_eq];simp
 have hd:s.toList.drop k = s.toList[k]'(by omega) :: s.toList.drop (k + 1):=List.drop_eq_getElem_cons (by omega)
 have hb:bt s k = (s.toList[k]'(by omega)).toNat:=bt_eq s k _ (List.getElem?_eq_getElem (by omega))
 rw [hd]
 simp only [decW]
 rw [← hb,e]
 simp only [Int.toNat_natCast]
 rw [if_pos (by simp;omega)]
def ValidP (l:List UInt8):Prop:=∃ rs:List Int,(∀ r ∈ rs,putB r ≠ []) ∧ l = (rs.map putB).flatten
noncomputable def validB (l:List UInt8):Bool:=@decide (ValidP l) (Classical.propDecidable _)
theorem validB_iff (l:List UInt8):validB l = true ↔ ValidP l:=by unfold validB;exact @decide_eq_true_iff _ (Classical.propDecidable _)
theorem ValidP.nil:ValidP []:=⟨[],by simp,rfl⟩
theorem ValidP.cons {r:Int} {l:List UInt8} (h:putB r ≠ []) (hl:ValidP l):ValidP (putB r ++ l):=by
 obtain ⟨rs,h1,rfl⟩:=hl
 exact ⟨r :: rs,by simpa [h] using h1,rfl⟩
theorem ValidP.head {l:List UInt8} (h:ValidP l) (hne:l ≠ []):∃ r n,decL l = some (r,n) ∧ ValidP (l.drop n):=by
 obtain ⟨rs,h1,rfl⟩:=h
 cases rs with
 | nil => exact absurd rfl hne
 | cons r rs =>
  have h2:=h1 r (by simp)
  refine ⟨r,(putB r).length,decL_put r _ h2,⟨rs,fun x hx => h1 x (by simp [hx]),?_⟩⟩
  simp
theorem validB_nil:validB [] = true:=(validB_iff _).2 ValidP.nil
theorem validB_none (l:List UInt8) (hne:l ≠ []) (h:decL l = none):validB l = false:=by
 cases hb:validB l with
 | false => rfl
 | true =>
  obtain ⟨r,n,h1,_⟩:=((validB_iff l).1 hb).head hne
  rw [h] at h1;cases h1
theorem validB_some (l:List UInt8) (r:Int) (n:Nat) (h:decL l = some (r,n)):validB (l.drop n) = validB l:=by
 obtain ⟨h1,h2,h3⟩:=decL_some l r n h
 rw [Bool.eq_iff_iff,validB_iff,validB_iff]
 constructor
 ·intro hv;rw [h3];exact hv.cons h1
 ·intro hv
  obtain ⟨r',n',e,hv'⟩:=hv.head (by rw [h3];simp [h1])
  rw [h] at e;cases e;exact hv'
def cutL:Nat → List UInt8 → Nat
 | 0,_ => 0
 | n + 1,l => match decL l with | none => 0 | some (_,m) => m + cutL n (l.drop m)
theorem dec_le (l:List UInt8) (r:Int) (n:Nat) (h:decL l = some (r,n)):0 < n ∧ n ≤ l.length ∧ 0 ≤ r:=by
 obtain ⟨h1,h2,h3⟩:=decL_some l r n h
 have:0 < (putB r).length:=List.length_pos_iff.2 h1
 have h4:l.length = (putB r).length + (l.drop n).length:=by
  have:=congrArg List.length h3
  simpa using this
 exact ⟨by omega,by omega,(putN_nonneg r h1).1⟩
theorem ret2 {a b c d:Int} (h1:a = c) (h2:b = d):Ending.returned (.tuple #[.int .i64 a,.int .i64 b]) = .returned (.tuple #[.int .i64 c,.int .i64 d]):=by rw [h1,h2]
theorem more_any (r:Int) (w:World) (h0:0 ≤ r) (h1:r < 2097152):Calls Tryd.prog 93 #[.int .i64 r] w fun e w' => e = .returned (.int .u8 (128 + r % 64)) ∧ w = w':=by
 have e:bits BinOp.or IntKind.i64 128 (bits BinOp.and IntKind.i64 r 63) % 256 = 128 + r % 64:=by
  rw [i64_and63 r h0 (by omega),i64_join 6 128 (r % 64) (by omega) (by omega) (by omega) (by omega) (by omega) (by omega)];omega
 have E:=Lib.hid e
 clear e
 go_enter Tryd.func93,Tryd.ntmps93
 go_wp2
 go_ret
 exact ⟨congrArg (fun x => Ending.returned (.int .u8 x)) E.out,rfl⟩
theorem put_0 (r:Int) (w:World) (h:r < 0):Calls Tryd.prog 83 #[.int .i64 r] w fun e w' => e = .returned (.string (strOfNums [])) ∧ Below w.heap.size w w':=by
 go_enter Tryd.func83,Tryd.ntmps83
 go_wp2
 go_ret
 exact ⟨rfl,(Below.refl _ _)⟩
theorem put_0' (r:Int) (w:World) (h:1114111 < r):Calls Tryd.prog 83 #[.int .i64 r] w fun e w' => e = .returned (.string (strOfNums [])) ∧ Below w.heap.size w w':=by
 go_enter Tryd.func83,Tryd.ntmps83
 go_wp2
 go_ret
 exact ⟨rfl,(Below.refl _ _)⟩
theorem put_0'' (r:Int) (w:World) (h0:55296 ≤ r) (h:r ≤ 57343):Calls Tryd.prog 83 #[.int .i64 r] w fun e w' => e = .returned (.string (strOfNums [])) ∧ Below w.heap.size w w':=by
 go_enter Tryd.func83,Tryd.ntmps83
 go_wp2
 go_ret
 exact ⟨rfl,(Below.refl _ _)⟩
theorem put_1 (r:Int) (w:World) (h0:0 ≤ r) (h:r < 128):Calls Tryd.prog 83 #[.int .i64 r] w fun e w' => e = .returned (.string (strOfNums [r])) ∧ Below w.heap.size w w':=by
 have c1:=conv1 (P:=Tryd.prog) 52 9 5 Tryd.underlying52 Tryd.underlying5 Tryd.underlying9
 go_enter Tryd.func83,Tryd.ntmps83
 go_wp2
 go_ret
 exact ⟨rfl,(Below.refl _ _).alloc (Nat.le_refl _) _⟩
theorem put_2 (r:Int) (w:World) (h0:128 ≤ r) (h:r < 2048):Calls Tryd.prog 83 #[.int .i64 r] w fun e w' => e = .returned (.string (strOfNums [192 + r / 64,128 + r % 64])) ∧ Below w.heap.size w w':=by
 have c1:=conv2 (P:=Tryd.prog) 52 9 5 Tryd.underlying52 Tryd.underlying5 Tryd.underlying9
 have e1:bits BinOp.or IntKind.i64 192 (r / 64) = 192 + r / 64:=i64_join 6 192 (r / 64) (by omega) (by omega) (by omega) (by omega) (by omega) (by omega)
 go_enter Tryd.func83,Tryd.ntmps83
 go_wp2_with (go_at_call 93;refine (more_any _ _ (by omega) (by omega)).mono ?_;rintro e w' ⟨rfl,rfl⟩)
 go_ret
 exact ⟨rfl,(Below.refl _ _).alloc (Nat.le_refl _) _⟩
theorem put_3 (r:Int) (w:World) (h0:2048 ≤ r) (h:r < 65536) (h':r < 55296 ∨ 57343 < r):Calls Tryd.prog 83 #[.int .i64 r] w fun e w' => e = .returned (.string (strOfNums [224 + r / 4096,128 + r / 64 % 64,128 + r % 64])) ∧ Below w.heap.size w w':=by
 have c1:=conv3 (P:=Tryd.prog) 52 9 5 Tryd.underlying52 Tryd.underlying5 Tryd.underlying9
 have e1:bits BinOp.or IntKind.i64 224 (r / 4096) = 224 + r / 4096:=i64_join 5 224 (r / 4096) (by omega) (by omega) (by omega) (by omega) (by omega) (by omega)
 rcases h' with h' | h'
 all_goals
  go_enter Tryd.func83,Tryd.ntmps83
  go_wp2_with (go_at_call 93;refine (more_any _ _ (by omega) (by omega)).mono ?_;rintro e w' ⟨rfl,rfl⟩)
  go_ret
  exact ⟨rfl,(Below.refl _ _).alloc (Nat.le_refl _) _⟩
theorem put_4 (r:Int) (w:World) (h0:65536 ≤ r) (h:r ≤ 1114111):Calls Tryd.prog 83 #[.int .i64 r] w fun e w' => e = .returned (.string (strOfNums [240 + r / 262144,128 + r / 4096 % 64,128 + r / 64 % 64,128 + r % 64])) ∧ Below w.heap.size w w':=by
 have c1:=conv4 (P:=Tryd.prog) 52 9 5 Tryd.underlying52 Tryd.underlying5 Tryd.underlying9
 have e1:bits BinOp.or IntKind.i64 240 (r / 262144) = 240 + r / 262144:=i64_join 4 240 (r / 262144) (by omega) (by omega) (by omega) (by omega) (by omega) (by omega)
 go_enter Tryd.func83,Tryd.ntmps83
 go_wp2_with (go_at_call 93;refine (more_any _ _ (by omega) (by omega)).mono ?_;rintro e w' ⟨rfl,rfl⟩)
 go_ret
 exact ⟨rfl,(Below.refl _ _).alloc (Nat.le_refl _) _⟩
theorem put_any (r:Int) (w:World):Calls Tryd.prog 83 #[.int .i64 r] w fun e w' => e = .returned (.string (put r)) ∧ Below w.heap.size w w':=by
 unfold put putN
 split
 ·rename_i h
  rcases h with h | h | h
  ·exact put_0 r w h
  ·exact put_0' r w h
  ·exact put_0'' r w h.1 h.2
 ·split
  ·exact put_1 r w (by omega) (by omega)
  ·split
   ·exact put_2 r w (by omega) (by omega)
   ·split
    ·exact put_3 r w (by omega) (by omega) (by omega)
    ·exact put_4 r w (by omega) (by omega)
theorem rput_0 (r:Int) (w:World) (h:r < 0):Calls Tryd.prog 60 #[.int .i64 r] w fun e w' => e = .returned (.string (strOfNums [])) ∧ Below w.heap.size w w':=by
 go_enter Tryd.func60,Tryd.ntmps60
 go_wp2
 go_ret
 exact ⟨rfl,(Below.refl _ _)⟩
theorem rput_0' (r:Int) (w:World) (h:1114111 < r):Calls Tryd.prog 60 #[.int .i64 r] w fun e w' => e = .returned (.string (strOfNums [])) ∧ Below w.heap.size w w':=by
 go_enter Tryd.func60,Tryd.ntmps60
 go_wp2
 go_ret
 exact ⟨rfl,(Below.refl _ _)⟩
theorem rput_0'' (r:Int) (w:World) (h0:55296 ≤ r) (h:r ≤ 57343):Calls Tryd.prog 60 #[.int .i64 r] w fun e w' => e = .returned (.string (strOfNums [])) ∧ Below w.heap.size w w':=by
 go_enter Tryd.func60,Tryd.ntmps60
 go_wp2
 go_ret
 exact ⟨rfl,(Below.refl _ _)⟩
theorem rput_1 (r:Int) (w:World) (h0:0 ≤ r) (h:r < 128):Calls Tryd.prog 60 #[.int .i64 r] w fun e w' => e = .returned (.string (strOfNums [r])) ∧ Below w.heap.size w w':=by
 have c1:=conv1 (P:=Tryd.prog) 52 9 5 Tryd.underlying52 Tryd.underlying5 Tryd.underlying9
 go_enter Tryd.func60,Tryd.ntmps60
 go_wp2
 go_ret
 exact ⟨rfl,(Below.refl _ _).alloc (Nat.le_refl _) _⟩
theorem or128 (x:Int) (h:0 ≤ x):bits BinOp.or IntKind.i64 128 (x % 64) = 128 + x % 64:=i64_join 6 128 (x % 64) (by omega) (by omega) (by omega) (by omega) (by omega) (by omega)
theorem rput_2 (r:Int) (w:World) (h0:128 ≤ r) (h:r < 2048):Calls Tryd.prog 60 #[.int .i64 r] w fun e w' => e = .returned (.string (strOfNums [192 + r / 64,128 + r % 64])) ∧ Below w.heap.size w w':=by
 have c1:=conv2 (P:=Tryd.prog) 52 9 5 Tryd.underlying52 Tryd.underlying5 Tryd.underlying9
 have e1:bits BinOp.or IntKind.i64 192 (r / 64) = 192 + r / 64:=i64_join 6 192 (r / 64) (by omega) (by omega) (by omega) (by omega) (by omega) (by omega)
 have e2:=i64_and63 r (by omega) (by omega)
 have e3:=or128 r (by omega)
 go_enter Tryd.func60,Tryd.ntmps60
 go_wp2
 go_ret
 exact ⟨rfl,(Below.refl _ _).alloc (Nat.le_refl _) _⟩
theorem rput_3 (r:Int) (w:World) (h0:2048 ≤ r) (h:r < 65536) (h':r < 55296 ∨ 57343 < r):Calls Tryd.prog 60 #[.int .i64 r] w fun e w' => e = .returned (.string (strOfNums [224 + r / 4096,128 + r / 64 % 64,128 + r % 64])) ∧ Below w.heap.size w w':=by
 have c1:=conv3 (P:=Tryd.prog) 52 9 5 Tryd.underlying52 Tryd.underlying5 Tryd.underlying9
 have e1:bits BinOp.or IntKind.i64 224 (r / 4096) = 224 + r / 4096:=i64_join 5 224 (r / 4096) (by omega) (by omega) (by omega) (by omega) (by omega) (by omega)
 have e2:=i64_and63 r (by omega) (by omega)
 have e3:=or128 r (by omega)
 have e4:=i64_and63 (r / 64) (by omega) (by omega)
 have e5:=or128 (r / 64) (by omega)
 rcases h' with h' | h'
 all_goals
  go_enter Tryd.func60,Tryd.ntmps60
  go_wp2
  go_ret
  exact ⟨rfl,(Below.refl _ _).alloc (Nat.le_refl _) _⟩
theorem rput_4 (r:Int) (w:World) (h0:65536 ≤ r) (h:r ≤ 1114111):Calls Tryd.prog 60 #[.int .i64 r] w fun e w' => e = .returned (.string (strOfNums [240 + r / 262144,128 + r / 4096 % 64,128 + r / 64 % 64,128 + r % 64])) ∧ Below w.heap.size w w':=by
 have c1:=conv4 (P:=Tryd.prog) 52 9 5 Tryd.underlying52 Tryd.underlying5 Tryd.underlying9
 have e1:bits BinOp.or IntKind.i64 240 (r / 262144) = 240 + r / 262144:=i64_join 4 240 (r / 262144) (by omega) (by omega) (by omega) (by omega) (by omega) (by omega)
 have e2:=i64_and63 r (by omega) (by omega)
 have e3:=or128 r (by omega)
 have e4:=i64_and63 (r / 64) (by omega) (by omega)
 have e5:=or128 (r / 64) (by omega)
 have e6:=i64_and63 (r / 4096) (by omega) (by omega)
 have e7:=or128 (r / 4096) (by omega)
 go_enter Tryd.func60,Tryd.ntmps60
 go_wp2
 go_ret
 exact ⟨rfl,(Below.refl _ _).alloc (Nat.le_refl _) _⟩
theorem rput_any (r:Int) (w:World):Calls Tryd.prog 60 #[.int .i64 r] w fun e w' => e = .returned (.string (put r)) ∧ Below w.heap.size w w':=by
 unfold put putN
 split
 ·rename_i h
  rcases h with h | h | h
  ·exact rput_0 r w h
  ·exact rput_0' r w h
  ·exact rput_0'' r w h.1 h.2
 ·split
  ·exact rput_1 r w (by omega) (by omega)
  ·split
   ·exact rput_2 r w (by omega) (by omega)
   ·split
    ·exact rput_3 r w (by omega) (by omega) (by omega)
    ·exact rput_4 r w (by omega) (by omega)
theorem size_any (c:Int) (w:World) (h0:0 ≤ c) (h:c < 256):Calls Tryd.prog 85 #[.int .u8 c] w fun e w' => e = .returned (.tuple #[.int .i64 (sizeN c).1,.int .i64 (sizeN c).2]) ∧ w = w':=by
 have a1:=u8_and31 c h0 h
 have a2:=u8_and15 c h0 h
 have a3:=u8_and7 c h0 h
 go_enter Tryd.func85,Tryd.ntmps85
 go_wp2
 all_goals
  go_ret2
  refine ⟨ret2 ?_ ?_,rfl⟩ <;> (unfold sizeN;repeat' split) <;> first | rfl | omega
theorem acc_succ (s:ByteArray) (k:Nat) (r:Int) (i:Nat) (h:1 ≤ i):acc s k r (i + 1 - 1) = acc s k r (i - 1) * 64 + bt s (k + i) % 64:=by
 obtain ⟨j,rfl⟩:∃ j,i = j + 1:=⟨i - 1,by omega⟩
 rfl
theorem acc_or (a b:Int) (h0:0 ≤ a) (h1:a < 67108864) (h2:0 ≤ b):bits BinOp.or IntKind.i64 (a * 64) (b % 64) = a * 64 + b % 64:=i64_join 6 _ _ (by omega) (by omega) (by omega) (by omega) (by omega) (by omega)
theorem below_drew1 {w w1:World} (h:Below w.drew.heap.size w.drew w1):Below w.heap.size w w1:=((Below.refl _ _).drew).trans h
def GetEnd (v:Int × Int) (w:World) (e:Ending) (w':World):Prop:=e = .returned (.tuple #[.int .i64 v.1,.int .i64 v.2]) ∧ Below w.heap.size w w'
def SizeAt (c n r:Int):Prop:=∀ w,Calls Tryd.prog 85 #[.int .u8 c] w fun e w' => e = .returned (.tuple #[.int .i64 n,.int .i64 r]) ∧ w = w'
theorem get_none (s:ByteArray) (k:Nat) (n:Nat) (r:Int) (w:World) (hs:s.size ≤ 9223372036854775807) (h:k < s.size) (hsz:SizeAt (bt s k) n r) (hn:n ≤ 4) (hc:n = 0 ∨ s.size < k + n) :
  Calls Tryd.prog 75 #[.string s,.int .i64 k] w (GetEnd (-1,k) w):=by
 have hb:=get_bt s
 rcases hc with hc | hc
 ·subst hc
  go_enter Tryd.func75,Tryd.ntmps75
  go_wp2_with (go_at_call 85;refine (hsz _).mono ?_;rintro e w' ⟨rfl,rfl⟩)
  go_ret2
  exact ⟨rfl,Below.refl _ _⟩
 ·go_enter Tryd.func75,Tryd.ntmps75
  go_wp2_with (go_at_call 85;refine (hsz _).mono ?_;rintro e w' ⟨rfl,rfl⟩)
  all_goals
   go_ret2
   exact ⟨rfl,Below.refl _ _⟩
theorem get_some (s:ByteArray) (k:Nat) (n:Nat) (r:Int) (w:World) (hs:s.size ≤ 9223372036854775807) (h:k < s.size) (hsz:SizeAt (bt s k) n r) (hn:n ≤ 4) (hn0:1 ≤ n) (hc:k + n ≤ s.size) (r0:0 ≤ r) (r1:r < 256)
  (v:Int × Int) (ht:((put (acc s k r (n - 1))).toList == (s.extract k (k + n)).toList) = true → v = (acc s k r (n - 1),(k:Int) + n)) (hf:((put (acc s k r (n - 1))).toList == (s.extract k (k + n)).toList) = false → v = (-1,(k:Int))) :
  Calls Tryd.prog 75 #[.string s,.int .i64 k] w (GetEnd v w):=by
 have hb:=get_bt s
 have HT:=Lib.hid ht
 have HF:=Lib.hid hf
 clear ht hf
 have hn1:((n:Int) == 0) = false:=by rw [beq_eq_false_iff_ne];omega
 go_enter Tryd.func75,Tryd.ntmps75
 go_wp2_with (go_at_call 85;refine (hsz _).mono ?_;rintro e w' ⟨rfl,rfl⟩)
 go_loop [4,7] (fun q i => ∃ j:Nat,1 ≤ j ∧ j ≤ n ∧ i = .int .i64 j ∧ q = .int .i64 (acc s k r (j - 1))) (fun _ i => n - (intOf i).toNat)
 case atStart => exact ⟨1,by omega,by omega,rfl,rfl⟩
 case round =>
  obtain ⟨j,j0,j1,rfl,rfl⟩:=hrel
  obtain ⟨a0,a1⟩:=acc_bound s k r r0 r1 (j - 1) (by omega)
  have b0:=bt_nonneg s (k + j)
  have b1:=bt_le s (k + j)
  have e1:=acc_or (acc s k r (j - 1)) (bt s (k + j)) a0 a1 b0
  have e2:=u8_and63 (bt s (k + j)) b0 (by omega)
  by_cases hlt:j < n
  ·have E:=Lib.hid (acc_succ s k r j j0)
   go_wp2
   go_round
   case rel => exact ⟨j + 1,by omega,by omega,by go_num,by rw [E.out]⟩
   case measure => simp [intOf];omega
  ·obtain rfl:n = j:=by omega
   go_wp2
   have g1:(k:Int) + n ≤ s.size:=by omega
   have g2:0 ≤ (k:Int) + n:=by omega
   have g3:(k:Int) ≤ (k:Int) + n:=by omega
   have g4:((k:Int) + n).toNat = k + n:=by omega
   have g0:IntKind.i64.wrap ((k:Int) + n) = (k:Int) + n:=IntWalk.i64_in _ (by omega)
   go_region_with (go_at_call 83;refine (put_any _ _).mono ?_;rintro e w1 ⟨rfl,hw1⟩)
   go_wp2
   all_goals
    rename_i hx
    go_ret2
    refine ⟨?_,below_drew1 hw1⟩
    first
     | (rw [HT.out (by simpa using hx)];rfl)
     | (rw [HF.out (by simpa using hx)];rfl)
theorem get_any (s:ByteArray) (k:Nat) (w:World) (hs:s.size ≤ 9223372036854775807) (h:k < s.size):Calls Tryd.prog 75 #[.string s,.int .i64 k] w (GetEnd (getL s.toList k) w):=by
 have b0:=bt_nonneg s k
 have b1:=bt_le s k
 obtain ⟨n0,n1,r0,r1⟩:=sizeN_le (bt s k) b0 (by omega)
 obtain ⟨n,hn⟩:∃ n:Nat,(sizeN (bt s k)).1 = n:=⟨(sizeN (bt s k)).1.toNat,by omega⟩
 have hsz:SizeAt (bt s k) n (sizeN (bt s k)).2:=fun w => by rw [← hn];exact size_any _ _ b0 (by omega)
 have e:sizeN (bt s k) = ((n:Int),(sizeN (bt s k)).2):=by rw [← hn]
 unfold getL decL
 by_cases hc:n = 0 ∨ s.size < k + n
 ·rw [getW_none sizeN s k n _ h e hc]
  exact get_none s k n _ w hs h hsz (by omega) hc
 ·rw [getW sizeN s k n _ h e (by omega) (by omega)]
  refine get_some s k n _ w hs h hsz (by omega) (by omega) (by omega) r0 r1 _ (fun ht => ?_) (fun hf => ?_)
  ·rw [if_pos ht]
  ·rw [hf];rfl
def RCase (c:Int) (n:Nat) (m r:Int):Prop:=(n = 1 ∧ m = 1 ∧ r = c ∧ c < 192) ∨ (n = 2 ∧ m = 2 ∧ r = c % 32 ∧ 192 ≤ c ∧ c < 224) ∨ (n = 3 ∧ m = 3 ∧ r = c % 16 ∧ 224 ≤ c ∧ c < 240) ∨ (n = 4 ∧ m = 4 ∧ r = c % 8 ∧ 240 ≤ c)
theorem rget_none (s:ByteArray) (k:Nat) (n:Nat) (m r:Int) (w:World) (hs:s.size ≤ 9223372036854775807) (h:k < s.size) (hcase:RCase (bt s k) n m r) (hm:(n:Int) = m) (hc:(s.size:Int) < k + m) :
  Calls Tryd.prog 43 #[.string s,.int .i64 k] w (GetEnd (-1,k) w):=by
 have hb:=get_bt s
 have b0:=bt_nonneg s k
 have b1:=bt_le s k
 clear hm
 rcases hcase with ⟨rfl,rfl,rfl,h1⟩ | ⟨rfl,rfl,rfl,h1,h2⟩ | ⟨rfl,rfl,rfl,h1,h2⟩ | ⟨rfl,rfl,rfl,h1⟩
 all_goals
  go_enter Tryd.func43,Tryd.ntmps43
  go_wp2
  all_goals
   go_ret2
   exact ⟨rfl,Below.refl _ _⟩
theorem rget_some1 (s:ByteArray) (k:Nat) (w:World) (hs:s.size ≤ 9223372036854775807) (h:k < s.size) (h1:bt s k < 192) (hc:k + 1 ≤ s.size) (r0:0 ≤ bt s k) (r1:bt s k < 256)
  (v:Int × Int) (ht:((put (acc s k (bt s k) (1 - 1))).toList == (s.extract k (k + 1)).toList) = true → v = (acc s k (bt s k) (1 - 1),(k:Int) + 1)) (hf:((put (acc s k (bt s k) (1 - 1))).toList == (s.extract k (k + 1)).toList) = false → v = (-1,(k:Int))) :
  Calls Tryd.prog 43 #[.string s,.int .i64 k] w (GetEnd v w):=by
 have hb:=get_bt s
 have HT:=Lib.hid ht
 have HF:=Lib.hid hf
 clear ht hf
 have b0:=bt_nonneg s k
 have b1:=bt_le s k
 have k1:(k:Int) + 1 ≤ s.size:=by omega
 have k4:((k:Int) + 1).toNat = k + 1:=by omega
 have k0:IntKind.i64.wrap ((k:Int) + 1) = (k:Int) + 1:=IntWalk.i64_in _ (by omega)
 have K4:=Lib.hid k4
 have K0:=Lib.hid k0
 clear k4 k0
 go_enter Tryd.func43,Tryd.ntmps43
 go_wp2
 go_loop [8,9] (fun q i => ∃ j:Nat,1 ≤ j ∧ j ≤ 1 ∧ i = .int .i64 j ∧ q = .int .i64 (acc s k (bt s k) (j - 1))) (fun _ i => 1 - (intOf i).toNat)
 case atStart => exact ⟨1,by omega,by omega,rfl,rfl⟩
 case round =>
  obtain ⟨j,j0,j1,rfl,rfl⟩:=hrel
  obtain ⟨a0,a1⟩:=acc_bound s k (bt s k) r0 r1 (j - 1) (by omega)
  have b2:=bt_nonneg s (k + j)
  have b3:=bt_le s (k + j)
  have e1:=acc_or (acc s k (bt s k) (j - 1)) (bt s (k + j)) a0 a1 b2
  have e2:=i64_and63 (bt s (k + j)) b2 (by omega)
  by_cases hlt:j < 1
  ·exact absurd j0 (by omega)
  ·obtain rfl:j = 1:=by omega
   go_wp2
   have g2:0 ≤ (k:Int) + 1:=by omega
   have g3:(k:Int) ≤ (k:Int) + 1:=by omega
   have g4:=K4.out
   have g0:=K0.out
   go_region_with (go_at_call 60;refine (rput_any _ _).mono ?_;rintro e w1 ⟨rfl,hw1⟩)
   go_wp2
   all_goals
    rename_i hx
    go_ret2
    refine ⟨?_,below_drew1 hw1⟩
    first
     | (rw [HT.out (by simpa using hx)];rfl)
     | (rw [HF.out (by simpa using hx)];rfl)
theorem rget_some2 (s:ByteArray) (k:Nat) (w:World) (hs:s.size ≤ 9223372036854775807) (h:k < s.size) (h1:192 ≤ bt s k ∧ bt s k < 224) (hc:k + 2 ≤ s.size) (r0:0 ≤ bt s k % 32) (r1:bt s k % 32 < 256)
  (v:Int × Int) (ht:((put (acc s k (bt s k % 32) (2 - 1))).toList == (s.extract k (k + 2)).toList) = true → v = (acc s k (bt s k % 32) (2 - 1),(k:Int) + 2)) (hf:((put (acc s k (bt s k % 32) (2 - 1))).toList == (s.extract k (k + 2)).toList) = false → v = (-1,(k:Int))) :
  Calls Tryd.prog 43 #[.string s,.int .i64 k] w (GetEnd v w):=by
 have hb:=get_bt s
 have HT:=Lib.hid ht
 have HF:=Lib.hid hf
 clear ht hf
 have b0:=bt_nonneg s k
 have b1:=bt_le s k
 obtain ⟨h1,h2⟩:=h1
 have e7:bits BinOp.and IntKind.i64 (bt s k) 31 = bt s k % 32:=i64_mask 5 (by decide) _ b0 (by omega)
 have k1:(k:Int) + 2 ≤ s.size:=by omega
 have k4:((k:Int) + 2).toNat = k + 2:=by omega
 have k0:IntKind.i64.wrap ((k:Int) + 2) = (k:Int) + 2:=IntWalk.i64_in _ (by omega)
 have K4:=Lib.hid k4
 have K0:=Lib.hid k0
 clear k4 k0
 go_enter Tryd.func43,Tryd.ntmps43
 go_wp2
 go_loop [8,9] (fun q i => ∃ j:Nat,1 ≤ j ∧ j ≤ 2 ∧ i = .int .i64 j ∧ q = .int .i64 (acc s k (bt s k % 32) (j - 1))) (fun _ i => 2 - (intOf i).toNat)
 case atStart => exact ⟨1,by omega,by omega,rfl,rfl⟩
 case round =>
  obtain ⟨j,j0,j1,rfl,rfl⟩:=hrel
  obtain ⟨a0,a1⟩:=acc_bound s k (bt s k % 32) r0 r1 (j - 1) (by omega)
  have b2:=bt_nonneg s (k + j)
  have b3:=bt_le s (k + j)
  have e1:=acc_or (acc s k (bt s k % 32) (j - 1)) (bt s (k + j)) a0 a1 b2
  have e2:=i64_and63 (bt s (k + j)) b2 (by omega)
  by_cases hlt:j < 2
  ·have E:=Lib.hid (acc_succ s k (bt s k % 32) j j0)
   go_wp2
   go_round
   case rel => exact ⟨j + 1,by omega,by omega,by go_num,by rw [E.out]⟩
   case measure => simp [intOf];omega
  ·obtain rfl:j = 2:=by omega
   go_wp2
   have g2:0 ≤ (k:Int) + 2:=by omega
   have g3:(k:Int) ≤ (k:Int) + 2:=by omega
   have g4:=K4.out
   have g0:=K0.out
   go_region_with (go_at_call 60;refine (rput_any _ _).mono ?_;rintro e w1 ⟨rfl,hw1⟩)
   go_wp2
   all_goals
    rename_i hx
    go_ret2
    refine ⟨?_,below_drew1 hw1⟩
    first
     | (rw [HT.out (by simpa using hx)];rfl)
     | (rw [HF.out (by simpa using hx)];rfl)
theorem rget_some3 (s:ByteArray) (k:Nat) (w:World) (hs:s.size ≤ 9223372036854775807) (h:k < s.size) (h1:224 ≤ bt s k ∧ bt s k < 240) (hc:k + 3 ≤ s.size) (r0:0 ≤ bt s k % 16) (r1:bt s k % 16 < 256)
  (v:Int × Int) (ht:((put (acc s k (bt s k % 16) (3 - 1))).toList == (s.extract k (k + 3)).toList) = true → v = (acc s k (bt s k % 16) (3 - 1),(k:Int) + 3)) (hf:((put (acc s k (bt s k % 16) (3 - 1))).toList == (s.extract k (k + 3)).toList) = false → v = (-1,(k:Int))) :
  Calls Tryd.prog 43 #[.string s,.int .i64 k] w (GetEnd v w):=by
 have hb:=get_bt s
 have HT:=Lib.hid ht
 have HF:=Lib.hid hf
 clear ht hf
 have b0:=bt_nonneg s k
 have b1:=bt_le s k
 obtain ⟨h1,h2⟩:=h1
 have e7:bits BinOp.and IntKind.i64 (bt s k) 15 = bt s k % 16:=i64_mask 4 (by decide) _ b0 (by omega)
 have k1:(k:Int) + 3 ≤ s.size:=by omega
 have k4:((k:Int) + 3).toNat = k + 3:=by omega
 have k0:IntKind.i64.wrap ((k:Int) + 3) = (k:Int) + 3:=IntWalk.i64_in _ (by omega)
 have K4:=Lib.hid k4
 have K0:=Lib.hid k0
 clear k4 k0
 go_enter Tryd.func43,Tryd.ntmps43
 go_wp2
 go_loop [8,9] (fun q i => ∃ j:Nat,1 ≤ j ∧ j ≤ 3 ∧ i = .int .i64 j ∧ q = .int .i64 (acc s k (bt s k % 16) (j - 1))) (fun _ i => 3 - (intOf i).toNat)
 case atStart => exact ⟨1,by omega,by omega,rfl,rfl⟩
 case round =>
  obtain ⟨j,j0,j1,rfl,rfl⟩:=hrel
  obtain ⟨a0,a1⟩:=acc_bound s k (bt s k % 16) r0 r1 (j - 1) (by omega)
  have b2:=bt_nonneg s (k + j)
  have b3:=bt_le s (k + j)
  have e1:=acc_or (acc s k (bt s k % 16) (j - 1)) (bt s (k + j)) a0 a1 b2
  have e2:=i64_and63 (bt s (k + j)) b2 (by omega)
  by_cases hlt:j < 3
  ·have E:=Lib.hid (acc_succ s k (bt s k % 16) j j0)
   go_wp2
   go_round
   case rel => exact ⟨j + 1,by omega,by omega,by go_num,by rw [E.out]⟩
   case measure => simp [intOf];omega
  ·obtain rfl:j = 3:=by omega
   go_wp2
   have g2:0 ≤ (k:Int) + 3:=by omega
   have g3:(k:Int) ≤ (k:Int) + 3:=by omega
   have g4:=K4.out
   have g0:=K0.out
   go_region_with (go_at_call 60;refine (rput_any _ _).mono ?_;rintro e w1 ⟨rfl,hw1⟩)
   go_wp2
   all_goals
    rename_i hx
    go_ret2
    refine ⟨?_,below_drew1 hw1⟩
    first
     | (rw [HT.out (by simpa using hx)];rfl)
     | (rw [HF.out (by simpa using hx)];rfl)
theorem rget_some4 (s:ByteArray) (k:Nat) (w:World) (hs:s.size ≤ 9223372036854775807) (h:k < s.size) (h1:240 ≤ bt s k) (hc:k + 4 ≤ s.size) (r0:0 ≤ bt s k % 8) (r1:bt s k % 8 < 256)
  (v:Int × Int) (ht:((put (acc s k (bt s k % 8) (4 - 1))).toList == (s.extract k (k + 4)).toList) = true → v = (acc s k (bt s k % 8) (4 - 1),(k:Int) + 4)) (hf:((put (acc s k (bt s k % 8) (4 - 1))).toList == (s.extract k (k + 4)).toList) = false → v = (-1,(k:Int))) :
  Calls Tryd.prog 43 #[.string s,.int .i64 k] w (GetEnd v w):=by
 have hb:=get_bt s
 have HT:=Lib.hid ht
 have HF:=Lib.hid hf
 clear ht hf
 have b0:=bt_nonneg s k
 have b1:=bt_le s k
 have e7:bits BinOp.and IntKind.i64 (bt s k) 7 = bt s k % 8:=i64_mask 3 (by decide) _ b0 (by omega)
 have k1:(k:Int) + 4 ≤ s.size:=by omega
 have k4:((k:Int) + 4).toNat = k + 4:=by omega
 have k0:IntKind.i64.wrap ((k:Int) + 4) = (k:Int) + 4:=IntWalk.i64_in _ (by omega)
 have K4:=Lib.hid k4
 have K0:=Lib.hid k0
 clear k4 k0
 go_enter Tryd.func43,Tryd.ntmps43
 go_wp2
 go_loop [8,9] (fun q i => ∃ j:Nat,1 ≤ j ∧ j ≤ 4 ∧ i = .int .i64 j ∧ q = .int .i64 (acc s k (bt s k % 8) (j - 1))) (fun _ i => 4 - (intOf i).toNat)
 case atStart => exact ⟨1,by omega,by omega,rfl,rfl⟩
 case round =>
  obtain ⟨j,j0,j1,rfl,rfl⟩:=hrel
  obtain ⟨a0,a1⟩:=acc_bound s k (bt s k % 8) r0 r1 (j - 1) (by omega)
  have b2:=bt_nonneg s (k + j)
  have b3:=bt_le s (k + j)
  have e1:=acc_or (acc s k (bt s k % 8) (j - 1)) (bt s (k + j)) a0 a1 b2
  have e2:=i64_and63 (bt s (k + j)) b2 (by omega)
  by_cases hlt:j < 4
  ·have E:=Lib.hid (acc_succ s k (bt s k % 8) j j0)
   go_wp2
   go_round
   case rel => exact ⟨j + 1,by omega,by omega,by go_num,by rw [E.out]⟩
   case measure => simp [intOf];omega
  ·obtain rfl:j = 4:=by omega
   go_wp2
   have g2:0 ≤ (k:Int) + 4:=by omega
   have g3:(k:Int) ≤ (k:Int) + 4:=by omega
   have g4:=K4.out
   have g0:=K0.out
   go_region_with (go_at_call 60;refine (rput_any _ _).mono ?_;rintro e w1 ⟨rfl,hw1⟩)
   go_wp2
   all_goals
    rename_i hx
    go_ret2
    refine ⟨?_,below_drew1 hw1⟩
    first
     | (rw [HT.out (by simpa using hx)];rfl)
     | (rw [HF.out (by simpa using hx)];rfl)
theorem rget_some (s:ByteArray) (k:Nat) (n:Nat) (m r:Int) (w:World) (hs:s.size ≤ 9223372036854775807) (h:k < s.size) (hcase:RCase (bt s k) n m r) (hc:k + n ≤ s.size) (r0:0 ≤ r) (r1:r < 256)
  (v:Int × Int) (ht:((put (acc s k r (n - 1))).toList == (s.extract k (k + n)).toList) = true → v = (acc s k r (n - 1),(k:Int) + m)) (hf:((put (acc s k r (n - 1))).toList == (s.extract k (k + n)).toList) = false → v = (-1,(k:Int))) :
  Calls Tryd.prog 43 #[.string s,.int .i64 k] w (GetEnd v w):=by
 rcases hcase with ⟨rfl,rfl,rfl,h1⟩ | ⟨rfl,rfl,rfl,h1⟩ | ⟨rfl,rfl,rfl,h1⟩ | ⟨rfl,rfl,rfl,h1⟩
 ·exact rget_some1 s k w hs h h1 hc r0 r1 v ht hf
 ·exact rget_some2 s k w hs h h1 hc r0 r1 v ht hf
 ·exact rget_some3 s k w hs h h1 hc r0 r1 v ht hf
 ·exact rget_some4 s k w hs h h1 hc r0 r1 v ht hf
theorem rget_any (s:ByteArray) (k:Nat) (w:World) (hs:s.size ≤ 9223372036854775807) (h:k < s.size):Calls Tryd.prog 43 #[.string s,.int .i64 k] w (GetEnd (getL s.toList k) w):=by
 have b0:=bt_nonneg s k
 have b1:=bt_le s k
 obtain ⟨n0,n1,r0,r1⟩:=rsizeN_le (bt s k) b0 (by omega)
 obtain ⟨n,hn⟩:∃ n:Nat,(rsizeN (bt s k)).1 = n:=⟨(rsizeN (bt s k)).1.toNat,by omega⟩
 have e:rsizeN (bt s k) = ((n:Int),(rsizeN (bt s k)).2):=by rw [← hn]
 have hcase:RCase (bt s k) n n (rsizeN (bt s k)).2:=by
  unfold RCase
  rw [← hn]
  have:n = (rsizeN (bt s k)).1.toNat:=by omega
  rw [this]
  unfold rsizeN
  repeat' split
  all_goals (simp;try omega)
 unfold getL
 rw [← rdec_eq]
 by_cases hc:s.size < k + n
 ·rw [getW_none rsizeN s k n _ h e (Or.inr hc)]
  exact rget_none s k n n _ w hs h hcase rfl (by omega)
 ·rw [getW rsizeN s k n _ h e (by omega) (by omega)]
  refine rget_some s k n n _ w hs h hcase (by omega) r0 r1 _ (fun ht => ?_) (fun hf => ?_)
  ·rw [if_pos ht]
  ·rw [hf];rfl
theorem toList_len (s:ByteArray):s.toList.length = s.size:=by rw [ByteArray.toList_eq];simp
theorem drop_ne (s:ByteArray) (k:Nat) (h:k < s.size):s.toList.drop k ≠ []:=by
 intro e
 have:=congrArg List.length e
 rw [List.length_drop,toList_len] at this
 simp at this
 omega
def GetAt (f:Nat) (s:ByteArray) (k:Nat) (v:Int × Int):Prop:=∀ w,Calls Tryd.prog f #[.string s,.int .i64 k] w (GetEnd v w)
def GetFn (f:Nat):Prop:=∀ (s:ByteArray) (k:Nat),s.size ≤ 9223372036854775807 → k < s.size → GetAt f s k (getL s.toList k)
theorem get_fn:GetFn 75:=fun s k hs h w => get_any s k w hs h
theorem rget_fn:GetFn 43:=fun s k hs h w => rget_any s k w hs h
theorem valid_any (s:ByteArray) (w:World) (hs:s.size ≤ 9223372036854775807):Calls Tryd.prog 78 #[.string s] w fun e w' => e = .returned (.bool (validB s.toList)) ∧ Below w.heap.size w w':=by
 go_enter Tryd.func78,Tryd.ntmps78
 go_wp2
 go_loopw [3] (fun i wr => ∃ k:Nat,k ≤ s.size ∧ i = .int .i64 k ∧ Hid (validB (s.toList.drop k) = validB s.toList) ∧ Below w.heap.size w wr) (fun i _ => s.size - (intOf i).toNat)
 case atStart => exact ⟨0,by omega,rfl,rfl,Below.refl _ _⟩
 case round =>
  obtain ⟨k,hk,rfl,hv,hb⟩:=hrel
  by_cases hlt:k < s.size
  ·have hz:=Lib.hid (get_fn s k hs hlt)
   cases hd:decL (s.toList.drop k) with
   | none =>
    have HG:Hid (GetAt 75 s k (-1,k)):=by have:=hz.out;unfold getL at this;rw [hd] at this;exact this
    have HN:=Lib.hid (validB_none _ (drop_ne s k hlt) hd)
    clear hz hd
    go_wp2_with (go_at_call 75;refine (HG.out _).mono ?_;rintro e w1 ⟨rfl,hw1⟩)
    go_ret
    exact ⟨by rw [← hv.out,HN.out];rfl,hb.trans (hw1.mono hb.size)⟩
   | some p =>
    obtain ⟨r,n⟩:=p
    have HG:Hid (GetAt 75 s k (r,k + n)):=by have:=hz.out;unfold getL at this;rw [hd] at this;exact this
    have HN:=Lib.hid (validB_some _ r n hd)
    obtain ⟨d1,d2,d3⟩:=dec_le _ r n hd
    rw [List.length_drop,toList_len] at d2
    have d4:k + n ≤ s.size:=by omega
    clear hz hd
    go_wp2_with (go_at_call 75;refine (HG.out _).mono ?_;rintro e w1 ⟨rfl,hw1⟩)
    go_roundw
    case rel => exact ⟨k + n,by omega,by go_num,by show _ = _;rw [← List.drop_drop,HN.out,hv.out],hb.trans (hw1.mono hb.size)⟩
    case measure => simp [intOf];omega
  ·obtain rfl:k = s.size:=by omega
   have e0:s.toList.drop s.size = []:=by rw [List.drop_eq_nil_iff,toList_len];omega
   have E0:=Lib.hid e0
   clear e0
   go_wp2
   go_ret
   exact ⟨by rw [← hv.out,E0.out,validB_nil];rfl,hb⟩
theorem rvalid_any (s:ByteArray) (w:World) (hs:s.size ≤ 9223372036854775807):Calls Tryd.prog 27 #[.string s] w fun e w' => e = .returned (.bool (validB s.toList)) ∧ Below w.heap.size w w':=by
 go_enter Tryd.func27,Tryd.ntmps27
 go_wp2
 go_loopw [3] (fun i wr => ∃ k:Nat,k ≤ s.size ∧ i = .int .i64 k ∧ Hid (validB (s.toList.drop k) = validB s.toList) ∧ Below w.heap.size w wr) (fun i _ => s.size - (intOf i).toNat)
 case atStart => exact ⟨0,by omega,rfl,rfl,Below.refl _ _⟩
 case round =>
  obtain ⟨k,hk,rfl,hv,hb⟩:=hrel
  by_cases hlt:k < s.size
  ·have hz:=Lib.hid (rget_fn s k hs hlt)
   cases hd:decL (s.toList.drop k) with
   | none =>
    have HG:Hid (GetAt 43 s k (-1,k)):=by have:=hz.out;unfold getL at this;rw [hd] at this;exact this
    have HN:=Lib.hid (validB_none _ (drop_ne s k hlt) hd)
    clear hz hd
    go_wp2_with (go_at_call 43;refine (HG.out _).mono ?_;rintro e w1 ⟨rfl,hw1⟩)
    go_ret
    exact ⟨by rw [← hv.out,HN.out];rfl,hb.trans (hw1.mono hb.size)⟩
   | some p =>
    obtain ⟨r,n⟩:=p
    have HG:Hid (GetAt 43 s k (r,k + n)):=by have:=hz.out;unfold getL at this;rw [hd] at this;exact this
    have HN:=Lib.hid (validB_some _ r n hd)
    obtain ⟨d1,d2,d3⟩:=dec_le _ r n hd
    rw [List.length_drop,toList_len] at d2
    have d4:k + n ≤ s.size:=by omega
    clear hz hd
    go_wp2_with (go_at_call 43;refine (HG.out _).mono ?_;rintro e w1 ⟨rfl,hw1⟩)
    go_roundw
    case rel => exact ⟨k + n,by omega,by go_num,by show _ = _;rw [← List.drop_drop,HN.out,hv.out],hb.trans (hw1.mono hb.size)⟩
    case measure => simp [intOf];omega
  ·obtain rfl:k = s.size:=by omega
   have e0:s.toList.drop s.size = []:=by rw [List.drop_eq_nil_iff,toList_len];omega
   have E0:=Lib.hid e0
   clear e0
   go_wp2
   go_ret
   exact ⟨by rw [← hv.out,E0.out,validB_nil];rfl,hb⟩
def cut (s:ByteArray) (n:Int):ByteArray:=s.extract 0 (cutL n.toNat s.toList)
end Go.Proofs.YthbjehbpanhdoaaDoor
namespace Go.Proofs.YthbjehbpanhdoaaDoor
open Go.RowKit
set_option linter.unusedVariables false
set_option linter.unusedSimpArgs false
theorem block_of_add (a:Addr) (n:Nat):(a.add n).block = a.block:=by unfold Addr.add;split <;> rfl
theorem add_of_add (a:Addr) (i j:Nat):(a.add i).add j = a.add (i + j):=by
 unfold Addr.add
 by_cases hi:i = 0 <;> by_cases hj:j = 0 <;> simp [hi,hj,Nat.add_assoc]

def Reads (w:World) (B size:Nat) (A:Option Addr) (n:Nat) (xs:List Value):Prop:=
 xs.length = n * size ∧ (0 < n → ∃ ad,A = some ad ∧ ad.block < B ∧ ∀ j u,xs[j]? = some u → w.cell? (ad.add j) = some u)

section
variable {w w':World} {B B' size n:Nat} {A:Option Addr} {xs:List Value}
theorem Reads.none_:Reads w B size A 0 []:=⟨by simp,fun h => absurd h (by omega)⟩
theorem Reads.at_ {k:Nat} (h:Reads w B 1 A n xs) (hk:k < n):∃ ad u,A = some ad ∧ ad.block < B ∧ xs[k]? = some u ∧ w.cell? (ad.add k) = some u:=by
 obtain ⟨ad,e,hb,hc⟩:=h.2 (by omega)
 have hl:k < xs.length:=by have:=h.1;omega
 exact ⟨ad,xs[k],e,hb,List.getElem?_eq_getElem hl,hc k _ (List.getElem?_eq_getElem hl)⟩
theorem Reads.keep (h:Reads w B size A n xs) (hk:∀ p:Addr,p.block < B → w'.cell? p = w.cell? p):Reads w' B size A n xs:=
 ⟨h.1,fun hn => by
  obtain ⟨ad,e,hb,hc⟩:=h.2 hn
  exact ⟨ad,e,hb,fun j u hu => (hk _ (by rw [block_of_add];exact hb)).trans (hc j u hu)⟩⟩
theorem Reads.more (h:Reads w B size A n xs) (hB:B ≤ B'):Reads w B' size A n xs:=
 ⟨h.1,fun hn => by
  obtain ⟨ad,e,hb,hc⟩:=h.2 hn
  exact ⟨ad,e,by omega,hc⟩⟩
end
def Blk (w:World) (g:Nat) (t:TypeId) (cs:Array Value):Prop:=w.heap[g]? = some (.cells cs t (0,0))

section
variable {w w':World} {g:Nat} {t:TypeId} {cs:Array Value}
theorem Blk.lt (h:Blk w g t cs):g < w.heap.size:=by
 rcases Nat.lt_or_ge g w.heap.size with hlt | hge
 ·exact hlt
 ·unfold Blk at h;rw [Array.getElem?_eq_none hge] at h;cases h
theorem Blk.cell (h:Blk w g t cs) (i:Nat):w.cell? (qa g i) = cs[i]?:=cell_of_row w g i cs t (0,0) h
theorem Blk.frozen (h:Blk w g t cs) (i:Nat):w.frozen? (qa g i) = false:=by
 unfold Blk at h
 simp [World.frozen?,h]
theorem Blk.new (w:World) (t:TypeId) (cs:Array Value):Blk (w.alloc (.cells cs t)) w.heap.size t cs:=heap_alloc_new w _
theorem Blk.drew (h:Blk w g t cs):Blk w.drew g t cs:=h
theorem Blk.drewN (h:Blk w g t cs) (n:Nat):Blk (w.drewN n) g t cs:=h
theorem Blk.alloc (h:Blk w g t cs) (o:Obj):Blk (w.alloc o) g t cs:=(Below.heap_alloc w o g h.lt).trans h
theorem Blk.set_ (h:Blk w g t cs) (i:Nat) (u:Value):Blk (w.setCell (qa g i) u) g t (cs.setIfInBounds i u):=by
 unfold Blk at h ⊢
 simp [World.setCell,Array.getElem?_modify,h]
theorem Blk.far (h:Blk w g t cs) {p:Addr} (hp:g ≠ p.block) (u:Value):Blk (w.setCell p u) g t cs:=(Below.heap_setCell w p u g hp).trans h
theorem Blk.below {B:Nat} (h:Blk w g t cs) (hb:Below B w w') (hg:g < B):Blk w' g t cs:=(hb.block g hg).trans h
theorem Blk.grown {row:Option Nat} (h:Blk w g t cs) (hb:w.grownBy w' row) (hg:some g ≠ row):Blk w' g t cs:=(hb.block g h.lt hg).trans h
theorem Blk.ne_ {g':Nat} {t':TypeId} {cs':Array Value} (h:Blk w g t cs) (h':Blk w g' t' cs') (hne:t ≠ t'):g ≠ g':=by
 rintro rfl
 unfold Blk at h h'
 rw [h] at h'
 injection h' with h'
 injection h' with _ ht
 exact hne ht
end
section
variable {P:Program} (w:World)

theorem run_append_of_nil (base:Nat) (t ty e:TypeId) (i:TypeInfo) (size:Nat) (ht:P.underlying t = some (.slice e)) (hi:P.info? e = some i)
  (v:Value) (n:Nat) (xs:List Value) (hown:w.ownsRow base e size v n xs) (c:Nat):(Builtin.append_ #[t,t] ty #[v,.slice none 0 c]).run P w = .ok v w:=by
 rcases hown.2 with ⟨rfl,rfl⟩ | ⟨g,cap,cur,rfl,_,_,hnc,_⟩
 ·simp [Builtin.append_,run_underlying ht,sizeOf,typeInfo,hi,Builtin.lenOf,Builtin.firstCells]
 ·simp [Builtin.append_,run_underlying ht,sizeOf,typeInfo,hi,Builtin.lenOf,Builtin.firstCells,hnc,storeCells]

theorem run_append_any (base:Nat) (t ty e:TypeId) (i:TypeInfo) (z:Value) (size bytes:Nat) (ht:P.underlying t = some (.slice e)) (hi:P.info? e = some i) (hz:i.zero = some z)
  (hsize:i.size = size) (hby:i.bytes = bytes) (hzs:z.cells.size = size) (hsz:0 < size)
  (v:Value) (n:Nat) (xs:List Value) (hown:w.ownsRow base e size v n xs)
  (B:Nat) (A:Option Addr) (m c:Nat) (news:List Value) (hr:Reads w B size A m news) (h1:∀ u ∈ news,u.oneCell' = true)
  (h63:n + m ≤ maxLen) (hbytes:(n + m) * bytes ≤ 140737488355328) (hbase:base ≤ w.heap.size) :
  ∃ v' w',(Builtin.append_ #[t,t] ty #[v,.slice A m c]).run P w = .ok v' w' ∧ w'.ownsRow base e size v' (n + m) (xs ++ news) ∧ w.grownBy w' v.ownBlock ∧
   (v'.ownBlock = v.ownBlock ∨ v'.ownBlock = some w.heap.size):=by
 rcases A with _ | ad
 ·have hm:m = 0:=by
   rcases Nat.eq_zero_or_pos m with h0 | h0
   ·exact h0
   ·obtain ⟨ad,h,_⟩:=hr.2 h0
    cases h
  subst hm
  have hn:news = []:=List.eq_nil_of_length_eq_zero (by simpa using hr.1)
  subst hn
  exact ⟨v,w,run_append_of_nil w base t ty e i size ht hi v n xs hown c,by simpa using hown,World.grownBy.refl w _,.inl rfl⟩
 ·have hcells:∀ j u,news[j]? = some u → w.cell? (ad.add j) = some u:=by
   intro j u hu
   rcases Nat.eq_zero_or_pos m with h0 | h0
   ·subst h0
    have hn:news = []:=List.eq_nil_of_length_eq_zero (by simpa using hr.1)
    subst hn
    simp at hu
   ·obtain ⟨ad',h,_,hc⟩:=hr.2 h0
    injection h with h
    subst h
    exact hc j u hu
  obtain ⟨v',w',hrun,h2,h3,_,h5⟩:=run_append_own_at (P:=P) w base t ty e i z size bytes ht hi hz hsize hby hzs hsz v n xs hown ad m c news hr.1 hcells h1 h63 hbytes hbase
  exact ⟨v',w',hrun,h2,h3,h5⟩

end

def rowV (n:Nat) (f:Nat → Value):Array Value:=((List.range n).map f).toArray
end Go.Proofs.YthbjehbpanhdoaaDoor
namespace Go.Proofs.YthbjehbpanhdoaaDoor
open Go.RowKit Go.PlainAid
set_option linter.unusedVariables false
set_option linter.unusedSimpArgs false
theorem u8Info:(Tryd.prog.info? 5).map (fun i => (i.zero,i.size,i.bytes)) = some (some (.int .u8 0),1,1):=by kernel_rfl
def OwnB (w:World) (B:Nat) (v:Value) (zs:List Int):Prop:=w.ownsRow B 5 1 v zs.length (zs.map (Value.int .u8))
theorem OwnB.nil (w:World) (B:Nat):OwnB w B (.slice none 0 0) []:=World.ownsRow_nil w B 5 1
theorem OwnB.alloc {w:World} {B:Nat} {v:Value} {zs:List Int} (h:OwnB w B v zs) (o:Obj):OwnB (w.alloc o) B v zs:=World.ownsRow.alloc h o
theorem OwnB.form {w:World} {B:Nat} {v:Value} {zs:List Int} (h:OwnB w B v zs):(∃ c,v = .slice none 0 c ∧ zs = []) ∨ ∃ g c,v = .slice (some (qa g 0)) zs.length c ∧ B ≤ g ∧ g < w.heap.size ∧ ∀ i,i < zs.length → w.cell? (qa g (0 + i)) = some (.int .u8 (zs.getD i 0)):=by
 rcases h.2 with ⟨rfl,hx⟩ | ⟨g,cap,cur,rfl,hb,hg,_⟩
 ·exact .inl ⟨0,rfl,List.eq_nil_of_length_eq_zero hx⟩
 ·refine .inr ⟨g,cap,rfl,hb,(Array.getElem?_eq_some_iff.1 hg).1,fun i hi => ?_⟩
  have:=World.ownsRow.cells h (g:=g) rfl i (.int .u8 (zs.getD i 0)) (by simp [List.getD,hi])
  have e:((qa g 0):Addr).add i = (qa g (0 + i)):=by unfold Addr.add;split <;> simp_all
  rw [e] at this
  exact this
theorem OwnB.conv {w:World} {B:Nat} {v:Value} {zs:List Int} (h:OwnB w B v zs):(convert 52 9 v).run Tryd.prog w = .ok (.string (strOfNums zs)) w:=by
 rcases h.form with ⟨c,rfl,rfl⟩ | ⟨g,c,rfl,_,_,hc⟩
 ·exact run_convert_bytes_nil w 52 5 Tryd.underlying52 Tryd.underlying5 0 c 9 Tryd.underlying9
 ·exact run_convert_bytes_arg w 52 5 Tryd.underlying52 Tryd.underlying5 g 0 zs.length c zs rfl hc 9 Tryd.underlying9
theorem run_pushes (w:World) (B:Nat) (v:Value) (zs:List Int) (hown:OwnB w B v zs) (R:Nat) (A:Option Addr) (m c:Nat) (news:List Int) (hr:Reads w R 1 A m (news.map (Value.int .u8))) (ty:TypeId)
  (hlim:zs.length + m ≤ 1099511627776) (hB:B ≤ w.heap.size) :
  ∃ v' w',(Builtin.append_ #[52,52] ty #[v,.slice A m c]).run Tryd.prog w = .ok v' w' ∧ OwnB w' B v' (zs ++ news) ∧ Below B w w' ∧ w.grownBy w' v.ownBlock:=by
 obtain ⟨i0,hi0,hz0,hz1,hz2⟩:=info_parts u8Info
 obtain ⟨v',w',h1,h2,h3,_⟩:=run_append_any (P:=Tryd.prog) w B 52 ty 5 i0 (.int .u8 0) 1 1 Tryd.underlying52 hi0 hz0 hz1 hz2 rfl (by omega) v zs.length _ hown R A m c (news.map (Value.int .u8)) hr
  (fun u hu => by obtain ⟨n,_,rfl⟩:=List.mem_map.1 hu;rfl) (by simp only [maxLen];omega) (by omega) hB
 have hm:news.length = m:=by have:=hr.1;simpa using this
 refine ⟨v',w',h1,?_,(Below.refl _ _).grown h3 hB (fun k hk => (World.ownsRow.lt hown k hk).1),h3⟩
 unfold OwnB
 rw [List.map_append,List.length_append,hm]
 exact h2
theorem wpList_pushes (w:World) {ops:Array Oper} {rest:List Oper} {o:Oper} {a:Act} {Q:Exit → Act → World → Prop} (hgd:o.guard = none) (s x:Operand)
  (ho:o.op = .call { callee:=.builtin .append,args:=#[s,x],argTypes:=#[52,52] })
  (B:Nat) (v:Value) (zs:List Int) (hs:a.eval s = v) (hown:OwnB w B v zs) (R:Nat) (A:Option Addr) (m c:Nat) (news:List Int) (hx:a.eval x = .slice A m c) (hr:Reads w R 1 A m (news.map (Value.int .u8)))
  (hlim:zs.length + m ≤ 1099511627776) (hB:B ≤ w.heap.size)
  (h:∀ v' w',OwnB w' B v' (zs ++ news) → Below B w w' → w.grownBy w' v.ownBlock → wpList Tryd.prog ops Q rest (a.put o.dst v') w'):wpList Tryd.prog ops Q (o :: rest) a w:=by
 refine wpList_plain hgd fun K hK => ?_
 obtain ⟨v',w',h1,h2,h3,h4⟩:=run_pushes w B v zs hown R A m c news hr o.type hlim hB
 unfold Oper.wp execOp
 simp only [ho,resolve,invoke,builtin,Sem.run_bind,Sem.run_pure,Result.andThen_ok,List.map_toArray,List.map_cons,List.map_nil,hs,hx,h1]
 exact hK _ _ (h v' w' h2 h3 h4)
theorem reads_new (w:World) (c:Int):Reads (w.alloc (.cells #[.int .u8 c] 5)) (w.heap.size + 1) 1 (some (qa w.heap.size 0)) 1 ([c].map (Value.int .u8)):=by
 refine ⟨rfl,fun _ => ⟨_,rfl,by simp,fun j u hu => ?_⟩⟩
 have hj:j = 0:=by
  have:=(List.getElem?_eq_some_iff.1 hu).1
  simp at this
  exact this
 subst hj
 have e:((qa w.heap.size 0):Addr).add 0 = (qa w.heap.size 0):=by simp [Addr.add]
 rw [e,World.cell?_alloc_mark]
 simpa using hu
theorem wpList_push (w:World) {ops:Array Oper} {rest:List Oper} {o:Oper} {a:Act} {Q:Exit → Act → World → Prop} (hgd:o.guard = none) (s x:Operand)
  (ho:o.op = .call { callee:=.builtin .append,args:=#[s,x],argTypes:=#[52,52] })
  (B:Nat) (v:Value) (zs:List Int) (hs:a.eval s = v) (hown:OwnB w B v zs) (c:Int) (hx:a.eval x = .slice (some (qa w.heap.size 0)) 1 1)
  (hlim:zs.length + 1 ≤ 1099511627776) (hB:B ≤ w.heap.size)
  (h:∀ v' w',OwnB w' B v' (zs ++ [c]) → Below B w w' → wpList Tryd.prog ops Q rest (a.put o.dst v') w'):wpList Tryd.prog ops Q (o :: rest) a (w.alloc (.cells #[.int .u8 c] 5)):=
 wpList_pushes _ hgd s x ho B v zs hs (hown.alloc _) (w.heap.size + 1) _ 1 1 [c] hx (reads_new w c) hlim (by simp;omega) fun v' w' h2 h3 _ => h v' w' h2 (((Below.refl _ _).alloc hB _).trans h3)
def RowF (w:World) (g n:Nat) (f:Nat → Int):Prop:=∀ j,j < n → w.cell? (qa g j) = some (.int .u8 (f j)) ∧ w.frozen? (qa g j) = false
end Go.Proofs.YthbjehbpanhdoaaDoor
namespace Go.Proofs.YthbjehbpanhdoaaDoor
open Go.RowKit
set_option linter.unusedVariables false
set_option linter.unusedSimpArgs false
def Kept (B b:Nat) (w w':World):Prop:=Below B w w' ∧ Lib.OthersKept 5 (some b) w w'
end Go.Proofs.YthbjehbpanhdoaaDoor
namespace Go.Proofs.YthbjehbpanhdoaaDoor
open Go.RowKit Go.PlainAid
set_option linter.unusedVariables false
set_option linter.unusedSimpArgs false
def hexU (k:Nat):UInt8:=([48,49,50,51,52,53,54,55,56,57,97,98,99,100,101,102]:List UInt8).getD k 0
def escU (c:UInt8):List UInt8:=
 if c = 34 ∨ c = 92 then [92,c] else if 32 ≤ c.toNat then [c] else if c = 8 then [92,98] else if c = 9 then [92,116] else if c = 10 then [92,110] else if c = 12 then [92,102] else if c = 13 then [92,114]
 else [92,117,48,48,hexU (c.toNat / 16),hexU (c.toNat % 16)]
def quoteU (t:List UInt8):List UInt8:=[34] ++ t.flatMap escU ++ [34]
theorem escU_le (c:UInt8):(escU c).length ≤ 6:=by
 unfold escU
 repeat' split
 all_goals simp
abbrev hexS:ByteArray:=⟨#[48,49,50,51,52,53,54,55,56,57,97,98,99,100,101,102]⟩
theorem wraps_u8 (n:Int) (h₀:0 ≤ n) (h₁:n < 2 ^ 8):IntKind.u8.wrap n = n:=by rw [IntKind.wrap_u8];omega
end Go.Proofs.YthbjehbpanhdoaaDoor
namespace Go.Proofs.YthbjehbpanhdoaaDoor
open Go.RowKit
set_option linter.unusedVariables false
set_option linter.unusedSimpArgs false
inductive Nd where
 | mk (kind num:Int) (text:ByteArray) (keys:List ByteArray) (kids:List Nd)
def Nd.count:Nd → Nat
 | .mk _ _ _ _ ns => 1 + counts ns
where counts:List Nd → Nat
 | [] => 0
 | n :: ns => n.count + counts ns
theorem Nd.count_pos (n:Nd):0 < n.count:=by cases n;simp only [Nd.count];omega
theorem Nd.counts_get (ns:List Nd) (i:Nat) (n:Nd) (h:ns[i]? = some n):n.count ≤ Nd.count.counts ns:=by
 induction ns generalizing i with
 | nil => simp at h
 | cons a ns ih =>
  cases i with
  | zero => simp at h;subst h;simp only [Nd.count.counts];omega
  | succ i => have:=ih i (by simpa using h);simp only [Nd.count.counts];omega
def I64 (n:Int):Prop := -9223372036854775808 ≤ n ∧ n ≤ 9223372036854775807
mutual
def NdIs (w:World) (B:Nat):Nd → List Value → Prop
 | .mk k n t ks ns,cs => ∃ (A:Option Addr) (ck:Nat) (A2:Option Addr) (c:Nat) (xs:List Value),cs = (nL k n t A ks.length ck A2 ns.length c) ∧
   Reads w B 1 A ks.length (ks.map Value.string) ∧ Reads w B 5 A2 ns.length xs ∧ NdsIs w B ns xs ∧
   I64 k ∧ I64 n ∧ t.size ≤ maxLen ∧ (∀ s ∈ ks,s.size ≤ maxLen) ∧ ks.length ≤ maxLen ∧ ns.length ≤ maxLen
def NdsIs (w:World) (B:Nat):List Nd → List Value → Prop
 | [],xs => xs = []
 | n :: ns,xs => ∃ cs ys,xs = cs ++ ys ∧ NdIs w B n cs ∧ NdsIs w B ns ys
end
mutual
theorem NdIs.keep {w w':World} {B:Nat} (hk:∀ p:Addr,p.block < B → w'.cell? p = w.cell? p):∀ (n:Nd) (cs:List Value),NdIs w B n cs → NdIs w' B n cs
 | .mk k m t ks ns,cs,h => by
  unfold NdIs at h ⊢
  obtain ⟨A,ck,A2,c,xs,h1,h2,h3,h4,h5⟩:=h
  exact ⟨A,ck,A2,c,xs,h1,h2.keep hk,h3.keep hk,NdsIs.keep hk ns xs h4,h5⟩
theorem NdsIs.keep {w w':World} {B:Nat} (hk:∀ p:Addr,p.block < B → w'.cell? p = w.cell? p):∀ (ns:List Nd) (xs:List Value),NdsIs w B ns xs → NdsIs w' B ns xs
 | [],xs,h => by unfold NdsIs at h ⊢;exact h
 | n :: ns,xs,h => by
  unfold NdsIs at h ⊢
  obtain ⟨cs,ys,h1,h2,h3⟩:=h
  exact ⟨cs,ys,h1,NdIs.keep hk n cs h2,NdsIs.keep hk ns ys h3⟩
end
mutual
theorem NdIs.more {w:World} {B B':Nat} (hB:B ≤ B'):∀ (n:Nd) (cs:List Value),NdIs w B n cs → NdIs w B' n cs
 | .mk k m t ks ns,cs,h => by
  unfold NdIs at h ⊢
  obtain ⟨A,ck,A2,c,xs,h1,h2,h3,h4,h5⟩:=h
  exact ⟨A,ck,A2,c,xs,h1,h2.more hB,h3.more hB,NdsIs.more hB ns xs h4,h5⟩
theorem NdsIs.more {w:World} {B B':Nat} (hB:B ≤ B'):∀ (ns:List Nd) (xs:List Value),NdsIs w B ns xs → NdsIs w B' ns xs
 | [],xs,h => by unfold NdsIs at h ⊢;exact h
 | n :: ns,xs,h => by
  unfold NdsIs at h ⊢
  obtain ⟨cs,ys,h1,h2,h3⟩:=h
  exact ⟨cs,ys,h1,NdIs.more hB n cs h2,NdsIs.more hB ns ys h3⟩
end
theorem NdIs.below {w w':World} {B:Nat} {n:Nd} {cs:List Value} (h:NdIs w B n cs) (hb:Below B w w'):NdIs w' B n cs:=NdIs.keep (fun p hp => hb.cell hp) n cs h
theorem NdIs.len {w:World} {B:Nat} {n:Nd} {cs:List Value} (h:NdIs w B n cs):cs.length = 5:=by
 cases n
 unfold NdIs at h
 obtain ⟨A,ck,A2,c,xs,rfl,_⟩:=h
 rfl
theorem NdsIs.at_ {w:World} {B:Nat}:∀ (ns:List Nd) (xs:List Value) (i:Nat) (n:Nd),NdsIs w B ns xs → ns[i]? = some n → ∃ cs,NdIs w B n cs ∧ ∀ j,j < 5 → xs[i * 5 + j]? = cs[j]?
 | [],xs,i,n,h,hi => by simp at hi
 | a :: ns,xs,i,n,h,hi => by
  unfold NdsIs at h
  obtain ⟨cs,ys,rfl,h2,h3⟩:=h
  have hl:=h2.len
  cases i with
  | zero =>
   simp at hi;subst hi
   exact ⟨cs,h2,fun j hj => by rw [Nat.zero_mul,Nat.zero_add,List.getElem?_append_left (by omega)]⟩
  | succ i =>
   obtain ⟨cs',k1,k2⟩:=NdsIs.at_ ns ys i n h3 (by simpa using hi)
   refine ⟨cs',k1,fun j hj => ?_⟩
   rw [← k2 j hj,List.getElem?_append_right (by omega)]
   congr 1
   omega
def tooLong:List ByteArray → Bool
 | [] => false
 | s :: l => decide (2000 < s.size) || tooLong l
mutual
def weightN:Nd → Int → Int
 | .mk _ _ t ks ns,deep => if 40 < deep ∨ 2000 < t.size ∨ 300 < ks.length ∨ 300 < ns.length then 3000 else if tooLong ks = true then 3000 else weightL ns (deep + 1) 1
def weightL:List Nd → Int → Int → Int
 | [],_,acc => acc
 | n :: ns,deep,acc => if acc < 3000 then weightL ns deep (acc + weightN n deep) else acc
end
def IntBelow (v:Int) (w:World) (e:Ending) (w':World):Prop:=e = .returned (.int .i64 v) ∧ Below w.heap.size w w'
theorem tooLong_at (ks:List ByteArray) (i:Nat) (s:ByteArray) (h:ks[i]? = some s) (hs:2000 < s.size):tooLong ks = true:=by
 induction ks generalizing i with
 | nil => simp at h
 | cons a ks ih =>
  simp only [tooLong,Bool.or_eq_true,decide_eq_true_eq]
  cases i with
  | zero => simp at h;subst h;exact .inl hs
  | succ i => exact .inr (ih i (by simpa using h))
theorem tooLong_no (ks:List ByteArray) (h:∀ (i:Nat) (s:ByteArray),ks[i]? = some s → s.size ≤ 2000):tooLong ks = false:=by
 induction ks with
 | nil => rfl
 | cons a ks ih =>
  simp only [tooLong,Bool.or_eq_false_iff,decide_eq_false_iff_not]
  refine ⟨?_,ih fun i s hi => h (i + 1) s (by rw [List.getElem?_cons_succ];exact hi)⟩
  have:=h 0 a rfl
  omega
mutual
theorem weightN_le:∀ (n:Nd) (deep:Int),0 ≤ deep → deep ≤ 41 → 0 ≤ weightN n deep ∧ weightN n deep ≤ 3000 * (42 - deep)
 | .mk k m t ks ns,deep,h0,h1 => by
  unfold weightN
  split
  ·omega
  ·split
   ·omega
   ·have:=weightL_le ns (deep + 1) 1 (by omega) (by omega) (by omega) (by omega)
    omega
theorem weightL_le:∀ (ns:List Nd) (deep acc:Int),0 ≤ deep → deep ≤ 41 → 0 ≤ acc → acc ≤ 3000 * (43 - deep) → 0 ≤ weightL ns deep acc ∧ weightL ns deep acc ≤ 3000 * (43 - deep)
 | [],deep,acc,_,_,h2,h3 => by unfold weightL;exact ⟨h2,h3⟩
 | n :: ns,deep,acc,h0,h1,h2,h3 => by
  unfold weightL
  split
  ·have:=weightN_le n deep h0 h1
   exact weightL_le ns deep (acc + weightN n deep) h0 h1 (by omega) (by omega)
  ·exact ⟨h2,h3⟩
end
theorem weightL_at (ns:List Nd) (i:Nat) (n:Nd) (deep acc:Int) (h:ns[i]? = some n) (ha:acc < 3000):weightL (ns.drop i) deep acc = weightL (ns.drop (i + 1)) deep (acc + weightN n deep):=by
 have hl:i < ns.length:=(List.getElem?_eq_some_iff.1 h).1
 rw [List.drop_eq_getElem_cons hl,(List.getElem?_eq_some_iff.1 h).2]
 conv => lhs;unfold weightL
 rw [if_pos ha]
theorem weightL_end (ns:List Nd) (deep acc:Int) (h:ns = [] ∨ ¬ acc < 3000):weightL ns deep acc = acc:=by
 cases ns with
 | nil => unfold weightL;rfl
 | cons n ns =>
  rcases h with h | h
  ·cases h
  ·unfold weightL;rw [if_neg h]
theorem weightN_eq (k num:Int) (t:ByteArray) (ks:List ByteArray) (ns:List Nd) (deep:Int) (h1:¬ 40 < deep) (h2:¬ 2000 < t.size) (h3:¬ 300 < ks.length) (h4:¬ 300 < ns.length) :
  weightN (.mk k num t ks ns) deep = if tooLong ks = true then 3000 else weightL ns (deep + 1) 1:=by
 conv => lhs;unfold weightN
 rw [if_neg (by omega)]
def WeightIn (vs:Array Value) (deep v:Int) (w':World):Prop:=Calls Tryd.prog 18 #[.agg vs,.int .i64 deep] w' (IntBelow v w')
theorem Reads.str {w:World} {B:Nat} {A:Option Addr} {ks:List ByteArray} (h:Reads w B 1 A ks.length (ks.map Value.string)) {i:Nat} (hi:i < ks.length):∃ ad s,A = some ad ∧ ad.block < B ∧ ks[i]? = some s ∧ w.cell? (ad.add i) = some (.string s):=by
 obtain ⟨ad,u,e,hb,hu,hc⟩:=h.at_ hi
 rw [List.getElem?_map] at hu
 cases hk:ks[i]? with
 | none => rw [hk] at hu;simp at hu
 | some s =>
  rw [hk] at hu
  simp at hu
  subst hu
  exact ⟨ad,s,e,hb,rfl,hc⟩
theorem Reads.nd {w:World} {B:Nat} {A:Option Addr} {ns:List Nd} {xs:List Value} (h:Reads w B 5 A ns.length xs) (hs:NdsIs w B ns xs) {i:Nat} (hi:i < ns.length) :
  ∃ ad n v0 v1 v2 v3 v4,A = some ad ∧ ad.block < B ∧ ns[i]? = some n ∧ NdIs w B n [v0,v1,v2,v3,v4] ∧ w.cell? (ad.add (i * 5)) = some v0 ∧ w.cell? (qa ((ad.add (i * 5)).block) ((ad.add (i * 5)).off + 1)) = some v1 ∧ w.cell? (qa ((ad.add (i * 5)).block) ((ad.add (i * 5)).off + 2)) = some v2 ∧
   w.cell? (qa ((ad.add (i * 5)).block) ((ad.add (i * 5)).off + 3)) = some v3 ∧ w.cell? (qa ((ad.add (i * 5)).block) ((ad.add (i * 5)).off + 4)) = some v4:=by
 obtain ⟨ad,e,hb,hc⟩:=h.2 (by omega)
 obtain ⟨cs,h1,h2⟩:=NdsIs.at_ ns xs i ns[i] hs (List.getElem?_eq_getElem hi)
 have hl:=h1.len
 match cs,hl with
 | [v0,v1,v2,v3,v4],_ =>
  have g:∀ j u,j < 5 → [v0,v1,v2,v3,v4][j]? = some u → w.cell? ((ad.add (i * 5)).add j) = some u:=fun j u hj hu => by
   rw [add_of_add];exact hc _ _ ((h2 j hj).trans hu)
  have g0:=g 0 v0 (by omega) rfl
  rw [show (ad.add (i * 5)).add 0 = ad.add (i * 5) by simp [Addr.add]] at g0
  exact ⟨ad,ns[i],v0,v1,v2,v3,v4,e,hb,List.getElem?_eq_getElem hi,h1,g0,g 1 v1 (by omega) rfl,g 2 v2 (by omega) rfl,g 3 v3 (by omega) rfl,g 4 v4 (by omega) rfl⟩
set_option maxRecDepth 100000 in
set_option maxHeartbeats 1000000 in
theorem weight_any (c:Nat):∀ (n:Nd) (cs:List Value) (w:World) (B:Nat) (deep:Int),n.count ≤ c → NdIs w B n cs → B ≤ w.heap.size → 0 ≤ deep → deep ≤ 41 → Calls Tryd.prog 18 #[.agg cs.toArray,.int .i64 deep] w (IntBelow (weightN n deep) w):=by
 induction c with
 | zero => intro n cs w B deep hc;have:=n.count_pos;omega
 | succ c ih =>
  intro n cs w B deep hc hn hB d0 d1
  have hW:=Below.refl w.heap.size w
  obtain ⟨k,num,t,ks,ns⟩:=n
  unfold NdIs at hn
  obtain ⟨A,ck,A2,cc,xs,rfl,hks,hxs,hns,ik,inn,ht,hkl,hk,hm⟩:=hn
  unfold maxLen at *
  by_cases h1:40 < deep
  ·have hv:weightN (.mk k num t ks ns) deep = 3000:=by unfold weightN;rw [if_pos (.inl h1)]
   rw [hv]
   go_enter Tryd.func18,Tryd.ntmps18
   go_wp2_with fail
   go_ret
   exact ⟨rfl,hW.alloc hW.size _⟩
  by_cases h2:2000 < t.size
  ·have hv:weightN (.mk k num t ks ns) deep = 3000:=by unfold weightN;rw [if_pos (.inr (.inl h2))]
   rw [hv]
   go_enter Tryd.func18,Tryd.ntmps18
   go_wp2_with fail
   go_ret
   exact ⟨rfl,hW.alloc hW.size _⟩
  by_cases h3:300 < ks.length
  ·have hv:weightN (.mk k num t ks ns) deep = 3000:=by unfold weightN;rw [if_pos (.inr (.inr (.inl h3)))]
   rw [hv]
   go_enter Tryd.func18,Tryd.ntmps18
   go_wp2_with fail
   go_ret
   exact ⟨rfl,hW.alloc hW.size _⟩
  by_cases h4:300 < ns.length
  ·have hv:weightN (.mk k num t ks ns) deep = 3000:=by unfold weightN;rw [if_pos (.inr (.inr (.inr h4)))]
   rw [hv]
   go_enter Tryd.func18,Tryd.ntmps18
   go_wp2_with fail
   go_ret
   exact ⟨rfl,hW.alloc hW.size _⟩
  have HV:Hid (weightN (.mk k num t ks ns) deep = if tooLong ks = true then 3000 else weightL ns (deep + 1) 1):=weightN_eq _ _ _ _ _ _ h1 h2 h3 h4
  generalize weightN (.mk k num t ks ns) deep = V at *
  have HIH:Hid (∀ (n:Nd) (cs:List Value) (w:World) (B:Nat) (deep:Int),n.count ≤ c → NdIs w B n cs → B ≤ w.heap.size → 0 ≤ deep → deep ≤ 41 → Calls Tryd.prog 18 #[.agg cs.toArray,.int .i64 deep] w (IntBelow (weightN n deep) w)):=ih
  have HC:Hid (∀ (i:Nat) (n:Nd),ns[i]? = some n → n.count ≤ c):=fun i n hi => by
   have:=Nd.counts_get ns i n hi
   simp only [Nd.count] at hc
   omega
  have HKS:=Lib.hid hks
  have HXS:=Lib.hid hxs
  have HNS:=Lib.hid hns
  clear ih hks hxs hns hkl ht hk hm ik inn hc
  go_enter Tryd.func18,Tryd.ntmps18
  go_wp2_with fail
  have hblk:Blk (w.alloc (.cells (nA k num t A ks.length ck A2 ns.length cc) 25)) w.heap.size 25 (nA k num t A ks.length ck A2 ns.length cc):=Blk.new w _ _
  replace hW:=hW.alloc hW.size (.cells (nA k num t A ks.length ck A2 ns.length cc) 25)
  have hsz:w.heap.size < (w.alloc (.cells (nA k num t A ks.length ck A2 ns.length cc) 25)).heap.size:=by simp
  generalize w.alloc (.cells (nA k num t A ks.length ck A2 ns.length cc) 25) = wa at *
  go_loop [6] (fun t6 => ∃ i:Nat,i ≤ ks.length ∧ t6 = .int .i64 i ∧ Hid (∀ j s,j < i → ks[j]? = some s → s.size ≤ 2000)) (fun t6 => ks.length - (intOf t6).toNat)
  case atStart => exact ⟨0,by omega,rfl,fun j s hj => by omega⟩
  case round =>
   obtain ⟨i,hi,rfl,hno⟩:=hrel
   have c2:wa.cell? (qa w.heap.size 2) = some (.string t):=hblk.cell 2
   have c3:wa.cell? (qa w.heap.size 3) = some (.slice A ks.length ck):=hblk.cell 3
   have c4:wa.cell? (qa w.heap.size 4) = some (.slice A2 ns.length cc):=hblk.cell 4
   by_cases hlt:i < ks.length
   ·obtain ⟨ad,s,rfl,hadb,hs,hcell⟩:=(HKS.out.keep (w':=wa) fun p hp => hW.cell (by omega)).str hlt
    by_cases hsl:2000 < s.size
    ·have HE:Hid (V = 3000):=by show _ = _;rw [HV.out,if_pos (tooLong_at ks i s hs hsl)]
     have HS:=Lib.hid hs
     clear hs
     go_wp2_with fail
     go_ret
     exact ⟨by rw [HE.out];rfl,hW⟩
    ·have hno2:Hid (∀ j s,j < i + 1 → ks[j]? = some s → s.size ≤ 2000):=fun j s' hj hs' => by
      by_cases e:j = i
      ·subst e;rw [hs] at hs';injection hs' with e2;subst e2;omega
      ·exact hno.out j s' (by omega) hs'
     have HS:=Lib.hid hs
     clear hs
     go_wp2_with fail
     go_round
     case rel => exact ⟨i + 1,by omega,by go_num,hno2⟩
     case measure => simp [intOf];omega
   ·have HE:Hid (V = weightL (ns.drop 0) (deep + 1) 1):=by
     show _ = _
     rw [HV.out,tooLong_no ks (fun j s hj => hno.out j s (by have:=(List.getElem?_eq_some_iff.1 hj).1;omega) hj)];rfl
    go_wp2_with fail
    go_loopw [5,7] (fun t5 t7 wr => ∃ (i:Nat) (acc:Int),i ≤ ns.length ∧ t7 = .int .i64 i ∧ t5 = .int .i64 acc ∧ 0 ≤ acc ∧ acc ≤ 1000000 ∧ Hid (V = weightL (ns.drop i) (deep + 1) acc) ∧ Blk wr w.heap.size 25 (nA k num t A ks.length ck A2 ns.length cc) ∧ Below w.heap.size w wr ∧ w.heap.size < wr.heap.size) (fun _ t7 _ => ns.length - (intOf t7).toNat)
    case atStart => exact ⟨0,1,by omega,rfl,rfl,by omega,by omega,HE,hblk,hW,hsz⟩
    case round =>
     clear hblk hW hsz c2 c3 c4
     obtain ⟨i,acc,hi,rfl,rfl,a0,a1,hv,hblk,hW,hsz⟩:=hrel
     have c4:wr.cell? (qa w.heap.size 4) = some (.slice A2 ns.length cc):=hblk.cell 4
     obtain ⟨wo,rfl⟩:∃ wo:World,wo = wr:=⟨_,rfl⟩
     by_cases hlt:i < ns.length
     ·by_cases hacc:acc < 3000
      ·have hkeep:∀ p:Addr,p.block < B → wo.cell? p = w.cell? p:=fun p hp => hW.cell (by omega)
       obtain ⟨ad,n,v0,v1,v2,v3,v4,rfl,hadb,hni,hnd,e0,e1,e2,e3,e4⟩:=(HXS.out.keep hkeep).nd (NdsIs.keep hkeep _ _ HNS.out) hlt
       have hcn:=HC.out i n hni
       have hwl:=weightN_le n (deep + 1) (by omega) (by omega)
       have HE2:Hid (V = weightL (ns.drop (i + 1)) (deep + 1) (acc + weightN n (deep + 1))):=by show _ = _;rw [hv.out];exact weightL_at ns i n _ _ hni hacc
       have HW2:Hid (∀ w',Below wo.heap.size wo w' → WeightIn #[v0,v1,v2,v3,v4] (deep + 1) (weightN n (deep + 1)) w'):=fun w' hb =>
        HIH.out n [v0,v1,v2,v3,v4] w' B (deep + 1) hcn (hnd.below (hb.mono (by omega))) (by have:=hb.size;omega) (by omega) (by omega)
       have HNI:=Lib.hid hni
       clear hni hnd hkeep
       generalize weightN n (deep + 1) = W at *
       obtain ⟨wl0,wl1⟩:=hwl
       go_wp2_with (go_at_call 18;refine (HW2.out _ (Below.refl _ _)).mono ?_;rintro e w1 ⟨rfl,hw1⟩)
       go_roundw
       case rel => exact ⟨i + 1,acc + W,by omega,by go_num,rfl,by omega,by omega,HE2,hblk.below hw1 (by omega),hW.trans (hw1.mono (by omega)),by have:=hw1.size;omega⟩
       case measure => simp [intOf];omega
      ·have HE2:Hid (V = acc):=by show _ = _;rw [hv.out];exact weightL_end _ _ _ (.inr hacc)
       go_wp2_with fail
       go_ret
       exact ⟨by rw [HE2.out];rfl,hW⟩
     ·have HE2:Hid (V = acc):=by
       show _ = _
       rw [hv.out,List.drop_eq_nil_of_le (by omega)];exact weightL_end _ _ _ (.inl rfl)
      go_wp2_with fail
      go_ret
      exact ⟨by rw [HE2.out];rfl,hW⟩
theorem below_drewN {B:Nat} {a w:World} (h:Below B a w) (n:Nat):Below B a (w.drewN n):=⟨h.os,h.tape,h.output,h.size,h.block⟩
def greatN (n:Nd):Bool:=decide (2000 < weightN n 0)
def BoolBel (b:Bool) (w:World) (e:Ending) (w':World):Prop:=e = .returned (.bool b) ∧ Below w.heap.size w w'
theorem great_any (n:Nd) (cs:List Value) (w:World) (B:Nat) (hn:NdIs w B n cs) (hB:B ≤ w.heap.size):Calls Tryd.prog 6 #[.agg cs.toArray] w (BoolBel (greatN n) w):=by
 have hl:=hn.len
 have hW:=Below.refl w.heap.size w
 match cs,hl with
 | [v0,v1,v2,v3,v4],_ =>
  have HC:Hid (∀ w',Below w.heap.size w w' → WeightIn #[v0,v1,v2,v3,v4] 0 (weightN n 0) w'):=fun w' hb =>
   weight_any n.count n [v0,v1,v2,v3,v4] w' B 0 (Nat.le_refl _) (hn.below (hb.mono (by omega))) (by have:=hb.size;omega) (by omega) (by omega)
  unfold greatN
  have hle:=weightN_le n 0 (by omega) (by omega)
  clear hn
  generalize weightN n 0 = W at *
  obtain ⟨l0,l1⟩:=hle
  go_enter Tryd.func6,Tryd.ntmps6
  go_wp2_with (go_at_call 18;refine (HC.out _ (hW.alloc hW.size _)).mono ?_;rintro e w1 ⟨rfl,hw1⟩)
  go_ret
  exact ⟨rfl,nextA hW hw1⟩
mutual
def sameN:Nd → Nd → Bool
 | .mk k n t ks ns,.mk k' n' t' ks' ns' => k == k' && n == n' && t.toList == t'.toList && ks.length == ks'.length && ns.length == ns'.length && sameK ks ks' && sameL ns ns'
def sameL:List Nd → List Nd → Bool
 | [],_ => true
 | _ :: _,[] => true
 | n :: ns,m :: ms => sameN n m && sameL ns ms
def sameK:List ByteArray → List ByteArray → Bool
 | [],_ => true
 | _ :: _,[] => true
 | a :: l,b :: m => a.toList == b.toList && sameK l m
end
theorem sameK_at (ks ks':List ByteArray) (i:Nat) (s s':ByteArray) (h:ks[i]? = some s) (h':ks'[i]? = some s'):sameK (ks.drop i) (ks'.drop i) = (s.toList == s'.toList && sameK (ks.drop (i + 1)) (ks'.drop (i + 1))):=by
 rw [List.drop_eq_getElem_cons (List.getElem?_eq_some_iff.1 h).1,(List.getElem?_eq_some_iff.1 h).2,List.drop_eq_getElem_cons (List.getElem?_eq_some_iff.1 h').1,(List.getElem?_eq_some_iff.1 h').2]
 conv => lhs;unfold sameK
theorem sameL_at (ks ks':List Nd) (i:Nat) (s s':Nd) (h:ks[i]? = some s) (h':ks'[i]? = some s'):sameL (ks.drop i) (ks'.drop i) = (sameN s s' && sameL (ks.drop (i + 1)) (ks'.drop (i + 1))):=by
 rw [List.drop_eq_getElem_cons (List.getElem?_eq_some_iff.1 h).1,(List.getElem?_eq_some_iff.1 h).2,List.drop_eq_getElem_cons (List.getElem?_eq_some_iff.1 h').1,(List.getElem?_eq_some_iff.1 h').2]
 conv => lhs;unfold sameL
def SameIn (vs vs':Array Value) (b:Bool) (w':World):Prop:=Calls Tryd.prog 11 #[.agg vs,.agg vs'] w' (BoolBel b w')
set_option maxRecDepth 100000 in
set_option maxHeartbeats 2000000 in
theorem rSame_any (c:Nat):∀ (n m:Nd) (cs ds:List Value) (w:World) (B:Nat),n.count ≤ c → NdIs w B n cs → NdIs w B m ds → B ≤ w.heap.size → Calls Tryd.prog 11 #[.agg cs.toArray,.agg ds.toArray] w (BoolBel (sameN n m) w):=by
 induction c with
 | zero => intro n m cs ds w B hc;have:=n.count_pos;omega
 | succ c ih =>
  intro n m cs ds w B hc hn hm hB
  have hW:=Below.refl w.heap.size w
  obtain ⟨k,num,t,ks,ns⟩:=n
  obtain ⟨k',num',t',ks',ns'⟩:=m
  unfold NdIs at hn hm
  obtain ⟨A,ck,A2,cc,xs,rfl,hks,hxs,hns,ik,inn,ht,hkl,hk,hmm⟩:=hn
  obtain ⟨A',ck',A2',cc',xs',rfl,hks',hxs',hns',ik',inn',ht',hkl',hk',hmm'⟩:=hm
  unfold maxLen at *
  have HV:Hid (sameN (.mk k num t ks ns) (.mk k' num' t' ks' ns') = (k == k' && num == num' && t.toList == t'.toList && ks.length == ks'.length && ns.length == ns'.length && sameK ks ks' && sameL ns ns')):=by
   show _ = _;conv => lhs;unfold sameN
  generalize sameN (.mk k num t ks ns) (.mk k' num' t' ks' ns') = V at *
  cases e1:(k == k') with
  | false =>
   have HE:Hid (V = false):=by show _ = _;rw [HV.out,e1];rfl
   have n1:(k != k') = true:=by simp only [bne,e1];rfl
   clear ih hks hxs hns hks' hxs' hns' hkl hkl'
   go_enter Tryd.func11,Tryd.ntmps11
   go_wp2_with fail
   go_ret
   exact ⟨by rw [HE.out];rfl,(hW.alloc hW.size _).alloc (by simp) _⟩
  | true =>
  have n1:(k != k') = false:=by simp only [bne,e1];rfl
  cases e2:(num == num') with
  | false =>
   have HE:Hid (V = false):=by show _ = _;rw [HV.out,e1,e2];rfl
   have n2:(num != num') = true:=by simp only [bne,e2];rfl
   clear ih hks hxs hns hks' hxs' hns' hkl hkl'
   go_enter Tryd.func11,Tryd.ntmps11
   go_wp2_with fail
   go_ret
   exact ⟨by rw [HE.out];rfl,(hW.alloc hW.size _).alloc (by simp) _⟩
  | true =>
  have n2:(num != num') = false:=by simp only [bne,e2];rfl
  cases e3:(t.toList == t'.toList) with
  | false =>
   have HE:Hid (V = false):=by show _ = _;rw [HV.out,e1,e2,e3];rfl
   clear ih hks hxs hns hks' hxs' hns' hkl hkl'
   go_enter Tryd.func11,Tryd.ntmps11
   go_wp2_with fail
   go_ret
   exact ⟨by rw [HE.out];rfl,(hW.alloc hW.size _).alloc (by simp) _⟩
  | true =>
  cases e4:(ks.length == ks'.length) with
  | false =>
   have HE:Hid (V = false):=by show _ = _;rw [HV.out,e1,e2,e3,e4];rfl
   have n4:((ks.length:Int) != (ks'.length:Int)) = true:=by rw [bne_iff_ne];have:=beq_eq_false_iff_ne.1 e4;omega
   clear ih hks hxs hns hks' hxs' hns' hkl hkl'
   go_enter Tryd.func11,Tryd.ntmps11
   go_wp2_with fail
   go_ret
   exact ⟨by rw [HE.out];rfl,(hW.alloc hW.size _).alloc (by simp) _⟩
  | true =>
  have n4:((ks.length:Int) != (ks'.length:Int)) = false:=by rw [bne_eq_false_iff_eq];have:=beq_iff_eq.1 e4;omega
  cases e5:(ns.length == ns'.length) with
  | false =>
   have HE:Hid (V = false):=by show _ = _;rw [HV.out,e1,e2,e3,e4,e5];rfl
   have n5:((ns.length:Int) != (ns'.length:Int)) = true:=by rw [bne_iff_ne];have:=beq_eq_false_iff_ne.1 e5;omega
   clear ih hks hxs hns hks' hxs' hns' hkl hkl'
   go_enter Tryd.func11,Tryd.ntmps11
   go_wp2_with fail
   go_ret
   exact ⟨by rw [HE.out];rfl,(hW.alloc hW.size _).alloc (by simp) _⟩
  | true =>
  have n5:((ns.length:Int) != (ns'.length:Int)) = false:=by rw [bne_eq_false_iff_eq];have:=beq_iff_eq.1 e5;omega
  have HV2:Hid (V = (sameK (ks.drop 0) (ks'.drop 0) && sameL ns ns')):=by show _ = _;rw [HV.out,e1,e2,e3,e4,e5];simp
  have l4:Hid (ks.length = ks'.length):=beq_iff_eq.1 e4
  have l5:Hid (ns.length = ns'.length):=beq_iff_eq.1 e5
  clear HV e4 e5
  have HIH:Hid (∀ (n m:Nd) (cs ds:List Value) (w:World) (B:Nat),n.count ≤ c → NdIs w B n cs → NdIs w B m ds → B ≤ w.heap.size → Calls Tryd.prog 11 #[.agg cs.toArray,.agg ds.toArray] w (BoolBel (sameN n m) w)):=ih
  have HC:Hid (∀ (i:Nat) (n:Nd),ns[i]? = some n → n.count ≤ c):=fun i n hi => by
   have:=Nd.counts_get ns i n hi
   simp only [Nd.count] at hc
   omega
  have HKS:=Lib.hid hks
  have HXS:=Lib.hid hxs
  have HNS:=Lib.hid hns
  have HKS':=Lib.hid hks'
  have HXS':=Lib.hid hxs'
  have HNS':=Lib.hid hns'
  clear ih hks hxs hns hks' hxs' hns' hkl hkl' ht ht' ik ik' inn inn' hc
  go_enter Tryd.func11,Tryd.ntmps11
  go_wp2_with fail
  have hblk:Blk ((w.alloc (.cells (nA k num t A ks.length ck A2 ns.length cc) 25)).alloc (.cells (nA k' num' t' A' ks'.length ck' A2' ns'.length cc') 25)) w.heap.size 25 (nA k num t A ks.length ck A2 ns.length cc):=(Blk.new w _ _).alloc _
  have hblk':Blk ((w.alloc (.cells (nA k num t A ks.length ck A2 ns.length cc) 25)).alloc (.cells (nA k' num' t' A' ks'.length ck' A2' ns'.length cc') 25)) (w.heap.size + 1) 25 (nA k' num' t' A' ks'.length ck' A2' ns'.length cc'):=by
   have:=Blk.new (w.alloc (.cells (nA k num t A ks.length ck A2 ns.length cc) 25)) 25 (nA k' num' t' A' ks'.length ck' A2' ns'.length cc')
   simpa using this
  replace hW:Below w.heap.size w ((w.alloc (.cells (nA k num t A ks.length ck A2 ns.length cc) 25)).alloc (.cells (nA k' num' t' A' ks'.length ck' A2' ns'.length cc') 25)):=(hW.alloc hW.size _).alloc (by simp) _
  have hsz:w.heap.size + 1 < ((w.alloc (.cells (nA k num t A ks.length ck A2 ns.length cc) 25)).alloc (.cells (nA k' num' t' A' ks'.length ck' A2' ns'.length cc') 25)).heap.size:=by simp
  generalize (w.alloc (.cells (nA k num t A ks.length ck A2 ns.length cc) 25)).alloc (.cells (nA k' num' t' A' ks'.length ck' A2' ns'.length cc') 25) = wa at *
  go_loopw [5] (fun t5 wr => ∃ i:Nat,i ≤ ks.length ∧ t5 = .int .i64 i ∧ Hid (V = (sameK (ks.drop i) (ks'.drop i) && sameL ns ns')) ∧ Blk wr w.heap.size 25 (nA k num t A ks.length ck A2 ns.length cc) ∧ Blk wr (w.heap.size + 1) 25 (nA k' num' t' A' ks'.length ck' A2' ns'.length cc') ∧ Below w.heap.size w wr ∧ w.heap.size + 1 < wr.heap.size) (fun t5 _ => ks.length - (intOf t5).toNat)
  case atStart => exact ⟨0,by omega,rfl,HV2,hblk,hblk',hW,hsz⟩
  case round =>
   clear HV2 hblk hblk' hW hsz
   obtain ⟨i,hi,rfl,hv,hblk,hblk',hW,hsz⟩:=hrel
   have c3:wr.cell? (qa w.heap.size 3) = some (.slice A ks.length ck):=hblk.cell 3
   have d3:wr.cell? (qa (w.heap.size + 1) 3) = some (.slice A' ks'.length ck'):=hblk'.cell 3
   obtain ⟨wo,rfl⟩:∃ wo:World,wo = wr:=⟨_,rfl⟩
   by_cases hlt:i < ks.length
   ·have hlt':i < ks'.length:=by rw [← l4.out];exact hlt
    have hkeep:∀ p:Addr,p.block < B → wo.cell? p = w.cell? p:=fun p hp => hW.cell (by omega)
    obtain ⟨ad,s,rfl,hadb,hs,hcell⟩:=(HKS.out.keep hkeep).str hlt
    obtain ⟨ad',s',rfl,hadb',hs',hcell'⟩:=(HKS'.out.keep hkeep).str hlt'
    have hstep:=sameK_at ks ks' i s s' hs hs'
    have i0:(0:Int) ≤ (i:Int):=by omega
    have i1:(i:Int) < (ks.length:Int):=by omega
    have i2:(i:Int) < (ks'.length:Int):=by omega
    cases he:(s.toList == s'.toList) with
    | false =>
     have HE:Hid (V = false):=by show _ = _;rw [hv.out,hstep,he];rfl
     clear hstep hs hs' hkeep
     go_wp2_with fail
     go_quiet (fail)
     go_wp2_with fail
     go_ret
     exact ⟨by rw [HE.out];rfl,by first | exact hW | exact below_drewN hW _⟩
    | true =>
     have HE:Hid (V = (sameK (ks.drop (i + 1)) (ks'.drop (i + 1)) && sameL ns ns')):=by show _ = _;rw [hv.out,hstep,he,Bool.true_and]
     clear hstep hs hs' hkeep
     go_wp2_with fail
     go_quiet (fail)
     go_wp2_with fail
     go_roundw
     case rel => exact ⟨i + 1,by omega,by go_num,HE,by first | exact hblk | exact hblk.drewN _,by first | exact hblk' | exact hblk'.drewN _,by first | exact hW | exact below_drewN hW _,by first | exact hsz | exact hsz⟩
     case measure => simp [intOf];omega
   ·have HV3:Hid (V = sameL (ns.drop 0) (ns'.drop 0)):=by
     show _ = _
     rw [hv.out,List.drop_eq_nil_of_le (by omega)]
     rfl
    go_wp2_with fail
    go_loopw [6] (fun t6 wr => ∃ i:Nat,i ≤ ns.length ∧ t6 = .int .i64 i ∧ Hid (V = sameL (ns.drop i) (ns'.drop i)) ∧ Blk wr w.heap.size 25 (nA k num t A ks.length ck A2 ns.length cc) ∧ Blk wr (w.heap.size + 1) 25 (nA k' num' t' A' ks'.length ck' A2' ns'.length cc') ∧ Below w.heap.size w wr ∧ w.heap.size + 1 < wr.heap.size) (fun t6 _ => ns.length - (intOf t6).toNat)
    case atStart => exact ⟨0,by omega,rfl,HV3,hblk,hblk',hW,hsz⟩
    case round =>
     clear hblk hblk' hW hsz c3 d3
     obtain ⟨i,hi,rfl,hv,hblk,hblk',hW,hsz⟩:=hrel
     have c4:wr.cell? (qa w.heap.size 4) = some (.slice A2 ns.length cc):=hblk.cell 4
     have d4:wr.cell? (qa (w.heap.size + 1) 4) = some (.slice A2' ns'.length cc'):=hblk'.cell 4
     obtain ⟨wo,rfl⟩:∃ wo:World,wo = wr:=⟨_,rfl⟩
     by_cases hlt:i < ns.length
     ·have hlt':i < ns'.length:=by rw [← l5.out];exact hlt
      have hkeep:∀ p:Addr,p.block < B → wo.cell? p = w.cell? p:=fun p hp => hW.cell (by omega)
      obtain ⟨ad,n,v0,v1,v2,v3,v4,rfl,hadb,hni,hnd,e0,e1',e2',e3',e4'⟩:=(HXS.out.keep hkeep).nd (NdsIs.keep hkeep _ _ HNS.out) hlt
      obtain ⟨ad',n',u0,u1,u2,u3,u4,rfl,hadb',hni',hnd',f0,f1,f2,f3,f4⟩:=(HXS'.out.keep hkeep).nd (NdsIs.keep hkeep _ _ HNS'.out) hlt'
      have hcn:=HC.out i n hni
      have hstep:=sameL_at ns ns' i n n' hni hni'
      have i0:(0:Int) ≤ (i:Int):=by omega
      have i1:(i:Int) < (ns.length:Int):=by omega
      have i2:(i:Int) < (ns'.length:Int):=by omega
      have HW2:Hid (∀ w',Below wo.heap.size wo w' → SameIn #[v0,v1,v2,v3,v4] #[u0,u1,u2,u3,u4] (sameN n n') w'):=fun w' hb =>
       HIH.out n n' [v0,v1,v2,v3,v4] [u0,u1,u2,u3,u4] w' B hcn (hnd.below (hb.mono (by omega))) (hnd'.below (hb.mono (by omega))) (by have:=hb.size;omega)
      have hW0:=Below.refl wo.heap.size wo
      have q1:ad.block < wo.heap.size:=by omega
      have q2:ad'.block < wo.heap.size:=by omega
      clear hni hni' hnd hnd' hkeep
      have HST:=Lib.hid hstep
      clear hstep
      generalize sameN n n' = b at *
      go_wp2_with fail
      have K:(fun w' => w'.cell? (qa w.heap.size 4) = some (.slice (some ad) ns.length cc) ∧ w'.cell? (qa (w.heap.size + 1) 4) = some (.slice (some ad') ns'.length cc') ∧ w'.cell? (ad.add (i * 5)) = some v0 ∧ w'.cell? (qa ((ad.add (i * 5)).block) ((ad.add (i * 5)).off + 1)) = some v1 ∧ w'.cell? (qa ((ad.add (i * 5)).block) ((ad.add (i * 5)).off + 2)) = some v2 ∧ w'.cell? (qa ((ad.add (i * 5)).block) ((ad.add (i * 5)).off + 3)) = some v3 ∧ w'.cell? (qa ((ad.add (i * 5)).block) ((ad.add (i * 5)).off + 4)) = some v4 ∧ w'.cell? (ad'.add (i * 5)) = some u0 ∧ w'.cell? (qa ((ad'.add (i * 5)).block) ((ad'.add (i * 5)).off + 1)) = some u1 ∧ w'.cell? (qa ((ad'.add (i * 5)).block) ((ad'.add (i * 5)).off + 2)) = some u2 ∧ w'.cell? (qa ((ad'.add (i * 5)).block) ((ad'.add (i * 5)).off + 3)) = some u3 ∧ w'.cell? (qa ((ad'.add (i * 5)).block) ((ad'.add (i * 5)).off + 4)) = some u4) wo:=⟨c4,d4,e0,e1',e2',e3',e4',f0,f1,f2,f3,f4⟩
      have HK:=Lib.hid K
      clear K
      go_region_held3 (fun w' => w'.cell? (qa w.heap.size 4) = some (.slice (some ad) ns.length cc) ∧ w'.cell? (qa (w.heap.size + 1) 4) = some (.slice (some ad') ns'.length cc') ∧ w'.cell? (ad.add (i * 5)) = some v0 ∧ w'.cell? (qa ((ad.add (i * 5)).block) ((ad.add (i * 5)).off + 1)) = some v1 ∧ w'.cell? (qa ((ad.add (i * 5)).block) ((ad.add (i * 5)).off + 2)) = some v2 ∧ w'.cell? (qa ((ad.add (i * 5)).block) ((ad.add (i * 5)).off + 3)) = some v3 ∧ w'.cell? (qa ((ad.add (i * 5)).block) ((ad.add (i * 5)).off + 4)) = some v4 ∧ w'.cell? (ad'.add (i * 5)) = some u0 ∧ w'.cell? (qa ((ad'.add (i * 5)).block) ((ad'.add (i * 5)).off + 1)) = some u1 ∧ w'.cell? (qa ((ad'.add (i * 5)).block) ((ad'.add (i * 5)).off + 2)) = some u2 ∧ w'.cell? (qa ((ad'.add (i * 5)).block) ((ad'.add (i * 5)).off + 3)) = some u3 ∧ w'.cell? (qa ((ad'.add (i * 5)).block) ((ad'.add (i * 5)).off + 4)) = some u4) (first | go_keep | exact HKK.out) (first | (go_at_call 11;refine (HW2.out _ hW0.drew).mono ?_;rintro e w1 ⟨rfl,hw1⟩;have HKK:Hid ((fun w' => w'.cell? (qa w.heap.size 4) = some (.slice (some ad) ns.length cc) ∧ w'.cell? (qa (w.heap.size + 1) 4) = some (.slice (some ad') ns'.length cc') ∧ w'.cell? (ad.add (i * 5)) = some v0 ∧ w'.cell? (qa ((ad.add (i * 5)).block) ((ad.add (i * 5)).off + 1)) = some v1 ∧ w'.cell? (qa ((ad.add (i * 5)).block) ((ad.add (i * 5)).off + 2)) = some v2 ∧ w'.cell? (qa ((ad.add (i * 5)).block) ((ad.add (i * 5)).off + 3)) = some v3 ∧ w'.cell? (qa ((ad.add (i * 5)).block) ((ad.add (i * 5)).off + 4)) = some v4 ∧ w'.cell? (ad'.add (i * 5)) = some u0 ∧ w'.cell? (qa ((ad'.add (i * 5)).block) ((ad'.add (i * 5)).off + 1)) = some u1 ∧ w'.cell? (qa ((ad'.add (i * 5)).block) ((ad'.add (i * 5)).off + 2)) = some u2 ∧ w'.cell? (qa ((ad'.add (i * 5)).block) ((ad'.add (i * 5)).off + 3)) = some u3 ∧ w'.cell? (qa ((ad'.add (i * 5)).block) ((ad'.add (i * 5)).off + 4)) = some u4) w1):=(by show _ ∧ _;obtain ⟨y0,y1,y2,y3,y4,y5,y6,y7,y8,y9,y10,y11⟩:=HK.out;exact ⟨(hw1.cell (by simp;omega)).trans y0,(hw1.cell (by simp;omega)).trans y1,(hw1.cell (by simp [block_of_add];omega)).trans y2,(hw1.cell (by simp [block_of_add];omega)).trans y3,(hw1.cell (by simp [block_of_add];omega)).trans y4,(hw1.cell (by simp [block_of_add];omega)).trans y5,(hw1.cell (by simp [block_of_add];omega)).trans y6,(hw1.cell (by simp [block_of_add];omega)).trans y7,(hw1.cell (by simp [block_of_add];omega)).trans y8,(hw1.cell (by simp [block_of_add];omega)).trans y9,(hw1.cell (by simp [block_of_add];omega)).trans y10,(hw1.cell (by simp [block_of_add];omega)).trans y11⟩);replace hw1:=hW0.drew.trans hw1))
      clear c4 d4 e0 e1' e2' e3' e4' f0 f1 f2 f3 f4
      cases b with
      | false =>
       have HE:Hid (V = false):=by show _ = _;rw [hv.out,HST.out];rfl
       go_wp2_with fail
       go_ret
       exact ⟨by rw [HE.out];rfl,hW.trans (hw1.mono (by omega))⟩
      | true =>
       have HE:Hid (V = sameL (ns.drop (i + 1)) (ns'.drop (i + 1))):=by show _ = _;rw [hv.out,HST.out,Bool.true_and]
       go_wp2_with fail
       go_roundw
       case rel => exact ⟨i + 1,by omega,by go_num,HE,hblk.below hw1 (by omega),hblk'.below hw1 (by omega),hW.trans (hw1.mono (by omega)),by have:=hw1.size;omega⟩
       case measure => simp [intOf];omega
     ·have HE:Hid (V = true):=by
       show _ = _
       rw [hv.out,List.drop_eq_nil_of_le (by omega)]
       unfold sameL;rfl
      go_wp2_with fail
      go_ret
      exact ⟨by rw [HE.out];rfl,hW⟩
theorem NdIs.form {w:World} {B:Nat} {n:Nd} {v0 v1 v2 v3 v4:Value} (h:NdIs w B n [v0,v1,v2,v3,v4]):∃ (k m:Int) (t:ByteArray) (A:Option Addr) (a c:Nat) (A2:Option Addr) (b d:Nat),
  v0 = .int .i64 k ∧ v1 = .int .i64 m ∧ v2 = .string t ∧ v3 = .slice A a c ∧ v4 = .slice A2 b d:=by
 cases n
 unfold NdIs at h
 obtain ⟨A,ck,A2,c,xs,h1,_⟩:=h
 simp only [List.cons.injEq,and_true] at h1
 obtain ⟨rfl,rfl,rfl,rfl,rfl⟩:=h1
 exact ⟨_,_,_,_,_,_,_,_,_,rfl,rfl,rfl,rfl,rfl⟩
end Go.Proofs.YthbjehbpanhdoaaDoor
namespace Go.Proofs.YthbjehbpanhdoaaDoor
open Go.RowKit Go.PlainAid
set_option linter.unusedVariables false
set_option linter.unusedSimpArgs false
def foldN (c:Int):Int:=if 65 ≤ c ∧ c ≤ 90 then c + 32 else c
def foldZ (s:ByteArray) (n:Nat):List Int:=(List.range n).map fun j => foldN (bt s j)
def foldS (s:ByteArray):ByteArray:=strOfNums (foldZ s s.size)
def digS (n:Int):ByteArray:=⟨(Lib.itoa (max n 0)).toArray⟩
def numZ (s:ByteArray):Nat → Int
 | 0 => 0
 | i + 1 => numZ s i * 10 + (bt s i - 48)
def digitsB (s:ByteArray):Nat → Bool
 | 0 => true
 | i + 1 => digitsB s i && (decide (48 ≤ bt s i) && decide (bt s i ≤ 57))
def numB (s:ByteArray):Int × Bool:=
 if s.size = 0 ∨ 10 < s.size ∨ (bt s 0 = 48 ∧ 1 < s.size) then (0,false)
 else if digitsB s s.size = false then (0,false) else if 4294967295 < numZ s s.size then (0,false) else (numZ s s.size,true)
theorem numZ_bound (s:ByteArray):∀ i,i ≤ 10 → digitsB s i = true → 0 ≤ numZ s i ∧ numZ s i < 10 ^ i:=by
 intro i
 induction i with
 | zero => intro _ _;simp [numZ]
 | succ i ih =>
  intro hi hd
  simp only [digitsB,Bool.and_eq_true,decide_eq_true_eq] at hd
  obtain ⟨h1,h2,h3⟩:=hd
  have:=ih (by omega) h1
  simp only [numZ]
  rw [show (10:Int) ^ (i + 1) = 10 ^ i * 10 from Int.pow_succ ..]
  omega
theorem numZ_small (s:ByteArray) (i:Nat) (hi:i ≤ 10) (hd:digitsB s i = true):0 ≤ numZ s i ∧ numZ s i < 10000000000:=by
 have h:=numZ_bound s i hi hd
 have hp:=Nat.pow_le_pow_right (n:=10) (by omega) hi
 have:(10:Int) ^ i ≤ 10 ^ 10:=by exact_mod_cast hp
 omega
def atomCh (c:Int):Bool:=decide (33 ≤ c) && decide (c ≤ 126) && !(c == 40 || c == 41 || c == 123 || c == 125 || c == 37 || c == 42 || c == 34 || c == 92 || c == 93)
def atomsB (s:ByteArray):Nat → Bool
 | 0 => true
 | i + 1 => atomsB s i && atomCh (bt s i)
def atomB (s:ByteArray):Bool:=atomsB s s.size && !(s.size == 0)
def plainsB (s:ByteArray):Nat → Bool
 | 0 => true
 | i + 1 => plainsB s i && (decide (32 ≤ bt s i) && decide (bt s i ≤ 126))
def plainB (s:ByteArray):Bool:=plainsB s s.size && decide (s.size ≤ 200)
def escN (c:Int):List Int:=if c = 34 ∨ c = 92 then [92,c] else [c]
def escZ (s:ByteArray):Nat → List Int
 | 0 => [34]
 | i + 1 => escZ s i ++ escN (bt s i)
def strS (s:ByteArray):ByteArray:=if plainB s = true then strOfNums (escZ s s.size ++ [34]) else ⟨#[123]⟩ ++ digS s.size ++ ⟨#[125,13,10]⟩ ++ s
theorem ba_ext' {a b:ByteArray} (h:a.toList = b.toList):a = b:=by
 rw [ByteArray.toList_eq,ByteArray.toList_eq] at h
 exact ByteArray.ext (Array.toList_inj.1 h)
theorem nums_toList (l:List Int):(strOfNums l).toList = l.map fun n => UInt8.ofNat n.toNat:=by rw [ByteArray.toList_eq];exact strOfNums_data l
mutual
def outN:Nd → List UInt8 → List UInt8
 | .mk k num t ks ns,acc =>
  if 65536 < acc.length then acc else if k = 1 then acc ++ [110,117,108,108] else if k = 2 then acc ++ [102,97,108,115,101] else if k = 3 then acc ++ [116,114,117,101]
  else if k = 4 then acc ++ Lib.itoa num else if k = 5 then acc ++ quoteU t.toList else if k = 6 then outL (k == 7) ks ns true (acc ++ [91]) ++ [93] else outL (k == 7) ks ns true (acc ++ [123]) ++ [125]
def outL:Bool → List ByteArray → List Nd → Bool → List UInt8 → List UInt8
 | _,_,[],_,acc => acc
 | obj,ks,n :: ns,first,acc => outL obj ks.tail ns false (outN n ((if first = true then acc else acc ++ [44]) ++ (if obj = true then quoteU (ks.headD ⟨#[]⟩).toList ++ [58] else [])))
end
mutual
def gN:Nd → Nat
 | .mk _ _ t ks ns => 40 + 6 * t.size + gL ks ns
def gL:List ByteArray → List Nd → Nat
 | _,[] => 0
 | ks,n :: ns => 10 + 6 * (ks.headD ⟨#[]⟩).size + gN n + gL ks.tail ns
end
theorem tl_len' (s:ByteArray):s.toList.length = s.size:=by rw [ByteArray.toList_eq];simp
mutual
def goodN:Nd → Prop
 | .mk k num t ks ns => (-9223372036854775808 ≤ num ∧ num ≤ 9223372036854775807) ∧ (k = 7 → ks.length = ns.length) ∧ t.size ≤ 1000000000 ∧ (∀ s ∈ ks,s.size ≤ 1000000000) ∧ goodL ns
def goodL:List Nd → Prop
 | [] => True
 | n :: ns => goodN n ∧ goodL ns
end
end Go.Proofs.YthbjehbpanhdoaaDoor
namespace Go.Proofs.YthbjehbpanhdoaaDoor
open Go.RowKit Go.PlainAid
open Go.Maps (Keyed)
set_option linter.unusedVariables false
set_option linter.unusedSimpArgs false
theorem plainElem_bool_inv {H:Type} {P:Program} {e:TypeId} (he:P.underlying e = some .bool) {v:Value} {z:DataW H × List MemPlace} (h:plainElem P e v = some z):∃ x,v = .bool x ∧ z = (.lit (.bool x),[]):=by
 unfold plainElem at h
 rw [he] at h
 cases v <;> simp at h
 exact ⟨_,rfl,h.symm⟩
theorem lookup_bool {H:Type} {P:Program} {w:World} {k t e:TypeId} {b n:Nat} {D:DataW H} (h:w.ownsMap P k (plainElem P e) b n D) (K:Keyed P k) (ht:P.underlying t = some (.map k e)) (he:P.underlying e = some .bool) (hz:(zeroValue e).run P w = .ok (.bool false) w)
  {key:Value} {kl:Lit} (hkey:keyOf P k key = some kl):∃ c,(Instr.lookup t (.map (some b)) key false).run P w = .ok (.bool c) w ∧ D.atKey kl (.lit (.bool false)) = .lit (.bool c):=by
 obtain ⟨v,ps,hrun,hv⟩:=h.lookup K ht hz (plainElem_bool he false) hkey
 obtain ⟨c,rfl,hc⟩:=plainElem_bool_inv he hv
 simp only [Prod.mk.injEq] at hc
 exact ⟨c,hrun,hc.1⟩
theorem wpList_lookup_own_bool {H:Type} {P:Program} (w:World) {ops:Array Oper} {rest:List Oper} {o:Oper} {a:Act} {Q:Exit → Act → World → Prop}
  (hg:o.guard = none) (m x:Operand) (t:TypeId) (hop:o.op = Op.lookup t m x false)
  (k e:TypeId) (K:Keyed P k) (ht:P.underlying t = some (.map k e)) (he:P.underlying e = some .bool) (hz:(zeroValue e).run P w = .ok (.bool false) w) (b n:Nat) (D:DataW H)
  (hm:a.eval m = .map (some b)) (hown:w.ownsMap P k (plainElem P e) b n D) (key:Value) (kl:Lit) (hx:a.eval x = key) (hkey:keyOf P k key = some kl)
  (hK:∀ c:Bool,D.atKey kl (.lit (.bool false)) = .lit (.bool c) → wpList P ops Q rest (a.put o.dst (.bool c)) w) :
  wpList P ops Q (o :: rest) a w:=by
 refine wpList_plain hg fun K' hK' => ?_
 obtain ⟨c,hrun,hat⟩:=lookup_bool hown K ht he hz hkey
 unfold Oper.wp
 simp [execOp,hop,hm,hx,hrun,Result.andThen]
 exact hK' _ _ (hK c hat)
end Go.Proofs.YthbjehbpanhdoaaDoor
namespace Go.Proofs.YthbjehbpanhdoaaDoor
open Go.RowKit Go.PlainAid
open Go.Maps (Keyed)
open Go.ChangeMaps Go.MapKept
set_option linter.unusedVariables false
set_option linter.unusedSimpArgs false
open Classical in
noncomputable def keysB (ks:List ByteArray):Bool:=decide (ks.Nodup ∧ ∀ s ∈ ks,validB s.toList = true)
theorem keysB_twice {ks:List ByteArray} {i:Nat} {s:ByteArray} (hs:ks[i]? = some s) (hm:s ∈ ks.take i):keysB ks = false:=by
 unfold keysB
 refine decide_eq_false fun ⟨hn,_⟩ => ?_
 rw [← List.take_append_drop i ks,List.nodup_append] at hn
 refine hn.2.2 s hm s ?_ rfl
 rw [List.drop_eq_getElem_cons (List.getElem?_eq_some_iff.1 hs).1,(List.getElem?_eq_some_iff.1 hs).2]
 exact List.mem_cons_self
theorem keysB_bad {ks:List ByteArray} {i:Nat} {s:ByteArray} (hs:ks[i]? = some s) (hm:validB s.toList = false):keysB ks = false:=by
 unfold keysB
 refine decide_eq_false fun ⟨_,h⟩ => ?_
 rw [h s (List.mem_of_getElem? hs)] at hm
 cases hm
theorem take_snoc {α:Type} {l:List α} {i:Nat} {s:α} (hs:l[i]? = some s):l.take (i + 1) = l.take i ++ [s]:=by
 rw [List.take_add_one,hs];rfl
theorem keyLaw:Keyed Tryd.prog 9:=Maps.string_keyed Tryd.underlying9
theorem zeroBool (w:World):(zeroValue 4).run Tryd.prog w = .ok (.bool false) w:=by kernel_rfl
open Classical in
def Seen (l:List ByteArray) (D:DataW Nat):Prop:=∀ s:ByteArray,D.atKey (.string s.data.toList) (.lit (.bool false)) = .lit (.bool (decide (s ∈ l)))
theorem seen_nil:Seen [] (.map []):=fun s => by simp [DataW.atKey]
theorem seen_put {l:List ByteArray} {D:DataW Nat} (h:Seen l D) (hm:Maps.IsMap D) (s:ByteArray):Seen (l ++ [s]) (D.put (.string s.data.toList) (.lit (.bool true))):=by
 intro u
 by_cases e:u = s
 ·subst e
  rw [Maps.atKey_put_same hm (by trivial)]
  simp
 ·have hne:(Lit.string u.data.toList) ≠ .string s.data.toList:=by
   intro h
   injection h with h
   apply e
   cases u;cases s;simp at h;rw [h]
  rw [Maps.atKey_put_other hne,h u]
  simp [e]
set_option maxRecDepth 100000 in
set_option maxHeartbeats 1000000 in
theorem keys_any (ks:List ByteArray) (A:Option Addr) (ck B:Nat) (w:World) (hks:Reads w B 1 A ks.length (ks.map Value.string)) (hsz:∀ s ∈ ks,s.size ≤ 9223372036854775807) (hl:ks.length ≤ 9223372036854775807) (hB:B ≤ w.heap.size) :
  Calls Tryd.prog 79 #[.slice A ks.length ck] w fun e w' => e = .returned (.bool (keysB ks)) ∧ Below w.heap.size w w':=by
 have hmm:=@run_makeMap Tryd.prog
 have HKS:=Lib.hid hks
 have HSZ:=Lib.hid hsz
 clear hks hsz
 go_enter Tryd.func79,Tryd.ntmps79
 go_wp2
 go_loopw [9] (fun t wr => ∃ (i:Nat) (D:DataW Nat),i ≤ ks.length ∧ t = .int .i64 i ∧ wr.ownsMap Tryd.prog 9 (plainElem Tryd.prog 4) w.heap.size i D ∧ Hid (Seen (ks.take i) D) ∧ Hid ((ks.take i).Nodup ∧ ∀ s ∈ ks.take i,validB s.toList = true) ∧ Below w.heap.size w wr)
  (fun t _ => ks.length - (intOf t).toNat)
 case atStart => exact ⟨0,_,Nat.zero_le _,rfl,World.ownsMap_made _ _ _ _,seen_nil,by constructor <;> simp,(Below.refl _ _).alloc (Nat.le_refl _) _⟩
 case round =>
  obtain ⟨i,D,hi,rfl,hown,hsn,hgd,hbw⟩:=hrel
  obtain ⟨wo,rfl⟩:∃ wo:World,wo = wr:=⟨_,rfl⟩
  by_cases hlt:i < ks.length
  ·obtain ⟨ad,s,rfl,hadb,hks,hc⟩:=(HKS.out.keep fun p hp => hbw.cell (by omega)).str hlt
   have hss:=HSZ.out s (List.mem_of_getElem? hks)
   have hkey:keyOf Tryd.prog 9 (.string s) = some (.string s.data.toList):=WideMaps.keyOf_string_mk Tryd.underlying9 (by unfold maxLen;omega)
   have HAT:=Lib.hid (hsn.out s)
   have HS:=Lib.hid hks
   clear hks
   by_cases hm:s ∈ ks.take i
   ·have hv:=keysB_twice HS.out hm
    go_wp2_with (first
     | (at_lookup;refine wpList_lookup_own_bool _ rfl _ _ 108 rfl 9 4 keyLaw Tryd.underlying108 Tryd.underlying4 (zeroBool _) w.heap.size i _ rfl hown _ _ rfl hkey ?_;intro c hat;obtain rfl:c = true:=by (have h1:=HAT.out;rw [hat] at h1;simpa [hm] using h1))
     | fail)
    go_ret
    exact ⟨by rw [hv];rfl,hbw⟩
   ·have HV:=Lib.hid (valid_any s wo (by omega))
    cases hvb:validB s.toList with
    | false =>
     have hv:=keysB_bad HS.out hvb
     go_wp2_with (first
      | (at_lookup;refine wpList_lookup_own_bool _ rfl _ _ 108 rfl 9 4 keyLaw Tryd.underlying108 Tryd.underlying4 (zeroBool _) w.heap.size i _ rfl hown _ _ rfl hkey ?_;intro c hat;obtain rfl:c = false:=by (have h1:=HAT.out;rw [hat] at h1;simpa [hm] using h1))
      | fail)
     refine HV.out.mono ?_;rintro e w1 ⟨rfl,hw1⟩
     rw [hvb]
     go_wp2_with fail
     go_ret
     exact ⟨by rw [hv];rfl,hbw.trans (hw1.mono hbw.size)⟩
    | true =>
     go_wp2_with (first
      | (at_lookup;refine wpList_lookup_own_bool _ rfl _ _ 108 rfl 9 4 keyLaw Tryd.underlying108 Tryd.underlying4 (zeroBool _) w.heap.size i _ rfl hown _ _ rfl hkey ?_;intro c hat;obtain rfl:c = false:=by (have h1:=HAT.out;rw [hat] at h1;simpa [hm] using h1))
      | fail)
     refine HV.out.mono ?_;rintro e w1 ⟨rfl,hw1⟩
     rw [hvb]
     have hg:wo.grownBy w1 none:=⟨hw1.os,hw1.tape,hw1.output,hw1.size,fun k hk _ => hw1.block k hk⟩
     have hown1:=hown.kept hg (by simp)
     have hb1:Below w.heap.size w w1:=hbw.trans (hw1.mono hbw.size)
     go_wp2_with (first
      | (at_mapUpdate;refine wpList_mapUpdate_own _ rfl _ _ _ 108 rfl 9 4 keyLaw Tryd.underlying108 _ w.heap.size i _ rfl hown1 (by unfold maxLen;omega) _ _ _ rfl rfl hkey _ [] (plainElem_bool Tryd.underlying4 true) ?_;intro w2 hown2 hgrow2)
      | fail)
     go_roundw
     case rel =>
      refine ⟨i + 1,_,by omega,by go_num,hown2,?_,?_,hb1.grown hgrow2 hb1.size (fun j hj => by cases hj;exact Nat.le_refl _)⟩
      ·rw [take_snoc HS.out];exact seen_put hsn.out hown1.isMap s
      ·rw [take_snoc HS.out]
       refine ⟨?_,?_⟩
       ·rw [List.nodup_append]
        refine ⟨hgd.out.1,by simp,?_⟩
        intro a ha b hb e
        simp at hb
        subst hb;subst e;exact hm ha
       ·intro u hu
        rw [List.mem_append] at hu
        rcases hu with hu | hu
        ·exact hgd.out.2 u hu
        ·simp at hu;subst hu;exact hvb
     case measure => simp [intOf];omega
  ·have hik:i = ks.length:=by omega
   have hv:keysB ks = true:=by
    unfold keysB
    have h:=hgd.out
    rw [List.take_of_length_le (by omega)] at h
    exact decide_eq_true h
   go_wp2_with fail
   go_ret
   exact ⟨by rw [hv];rfl,hbw⟩
end Go.Proofs.YthbjehbpanhdoaaDoor
namespace Go.Proofs.YthbjehbpanhdoaaDoor
open Go.RowKit Go.PlainAid
set_option linter.unusedVariables false
set_option linter.unusedSimpArgs false
def bareF (k num:Int) (t:ByteArray) (a b:Nat):Bool:=(k == 4 || num == 0) && (k == 5 || decide (t = ⟨#[]⟩)) && (k == 7 || a == 0) && (k == 6 || k == 7 || b == 0)
set_option maxRecDepth 100000 in
set_option maxHeartbeats 1000000 in
theorem bare_any (k num:Int) (t:ByteArray) (A A2:Option Addr) (a b ck cc:Nat) (w:World) :
  Calls Tryd.prog 77 #[.agg (nA k num t A a ck A2 b cc)] w fun e w' => e = .returned (.bool (bareF k num t a b)) ∧ Below w.heap.size w w':=by
 have hW:=Below.refl w.heap.size w
 obtain ⟨V,hV⟩:∃ V,V = bareF k num t a b:=⟨_,rfl⟩
 rw [← hV]
 by_cases h4:k = 4
 ·subst h4
  by_cases ht:t = ⟨#[]⟩
  case neg =>
   have ht2:decide (t = ⟨#[]⟩) = false:=decide_eq_false ht
   have ht3:¬ t.toList = []:=fun h => ht (by cases t with | mk d => rw [ByteArray.toList_eq] at h;simp at h;rw [h])
   have ht4:t.toList.isEmpty = false:=by simp [ht3]
   have e:V = false:=by rw [hV];simp [bareF, *]
   clear hV
   go_enter Tryd.func77,Tryd.ntmps77
   go_wp2_with fail
   go_ret
   exact ⟨by rw [e];first | rfl | (simp;done) | (simp;omega),hW.alloc hW.size _⟩
  have ht3:t.toList = []:=by rw [ht,ByteArray.toList_eq]
  have ht4:t.toList.isEmpty = true:=by rw [ht3];rfl
  by_cases ha:a = 0
  case neg =>
   have ha2:decide ((a:Int) = 0) = false:=by simp;omega
   have e:V = false:=by rw [hV];simp [bareF, *]
   clear hV
   go_enter Tryd.func77,Tryd.ntmps77
   go_wp2_with fail
   go_ret
   exact ⟨by rw [e];first | rfl | (simp;done) | (simp;omega),hW.alloc hW.size _⟩
  subst ha
  by_cases hb:b = 0
  case neg =>
   have hb2:decide ((b:Int) = 0) = false:=by simp;omega
   have e:V = false:=by rw [hV];simp [bareF, *]
   clear hV
   go_enter Tryd.func77,Tryd.ntmps77
   go_wp2_with fail
   go_ret
   exact ⟨by rw [e];first | rfl | (simp;done) | (simp;omega),hW.alloc hW.size _⟩
  subst hb
  have e:V = true:=by rw [hV];simp [bareF, *]
  clear hV
  go_enter Tryd.func77,Tryd.ntmps77
  go_wp2_with fail
  go_ret
  exact ⟨by rw [e];first | rfl | (simp;done) | (simp;omega),hW.alloc hW.size _⟩
 by_cases h5:k = 5
 ·subst h5
  by_cases hn:num = 0
  case neg =>
   have e:V = false:=by rw [hV];simp [bareF, *]
   clear hV
   go_enter Tryd.func77,Tryd.ntmps77
   go_wp2_with fail
   go_ret
   exact ⟨by rw [e];first | rfl | (simp;done) | (simp;omega),hW.alloc hW.size _⟩
  subst hn
  by_cases ha:a = 0
  case neg =>
   have ha2:decide ((a:Int) = 0) = false:=by simp;omega
   have e:V = false:=by rw [hV];simp [bareF, *]
   clear hV
   go_enter Tryd.func77,Tryd.ntmps77
   go_wp2_with fail
   go_ret
   exact ⟨by rw [e];first | rfl | (simp;done) | (simp;omega),hW.alloc hW.size _⟩
  subst ha
  by_cases hb:b = 0
  case neg =>
   have hb2:decide ((b:Int) = 0) = false:=by simp;omega
   have e:V = false:=by rw [hV];simp [bareF, *]
   clear hV
   go_enter Tryd.func77,Tryd.ntmps77
   go_wp2_with fail
   go_ret
   exact ⟨by rw [e];first | rfl | (simp;done) | (simp;omega),hW.alloc hW.size _⟩
  subst hb
  have e:V = true:=by rw [hV];simp [bareF, *]
  clear hV
  go_enter Tryd.func77,Tryd.ntmps77
  go_wp2_with fail
  go_ret
  exact ⟨by rw [e];first | rfl | (simp;done) | (simp;omega),hW.alloc hW.size _⟩
 by_cases h6:k = 6
 ·subst h6
  by_cases hn:num = 0
  case neg =>
   have e:V = false:=by rw [hV];simp [bareF, *]
   clear hV
   go_enter Tryd.func77,Tryd.ntmps77
   go_wp2_with fail
   go_ret
   exact ⟨by rw [e];first | rfl | (simp;done) | (simp;omega),hW.alloc hW.size _⟩
  subst hn
  by_cases ht:t = ⟨#[]⟩
  case neg =>
   have ht2:decide (t = ⟨#[]⟩) = false:=decide_eq_false ht
   have ht3:¬ t.toList = []:=fun h => ht (by cases t with | mk d => rw [ByteArray.toList_eq] at h;simp at h;rw [h])
   have ht4:t.toList.isEmpty = false:=by simp [ht3]
   have e:V = false:=by rw [hV];simp [bareF, *]
   clear hV
   go_enter Tryd.func77,Tryd.ntmps77
   go_wp2_with fail
   go_ret
   exact ⟨by rw [e];first | rfl | (simp;done) | (simp;omega),hW.alloc hW.size _⟩
  have ht3:t.toList = []:=by rw [ht,ByteArray.toList_eq]
  have ht4:t.toList.isEmpty = true:=by rw [ht3];rfl
  by_cases ha:a = 0
  case neg =>
   have ha2:decide ((a:Int) = 0) = false:=by simp;omega
   have e:V = false:=by rw [hV];simp [bareF, *]
   clear hV
   go_enter Tryd.func77,Tryd.ntmps77
   go_wp2_with fail
   go_ret
   exact ⟨by rw [e];first | rfl | (simp;done) | (simp;omega),hW.alloc hW.size _⟩
  subst ha
  have e:V = true:=by rw [hV];simp [bareF, *]
  clear hV
  go_enter Tryd.func77,Tryd.ntmps77
  go_wp2_with fail
  go_ret
  exact ⟨by rw [e];first | rfl | (simp;done) | (simp;omega),hW.alloc hW.size _⟩
 by_cases h7:k = 7
 ·subst h7
  by_cases hn:num = 0
  case neg =>
   have e:V = false:=by rw [hV];simp [bareF, *]
   clear hV
   go_enter Tryd.func77,Tryd.ntmps77
   go_wp2_with fail
   go_ret
   exact ⟨by rw [e];first | rfl | (simp;done) | (simp;omega),hW.alloc hW.size _⟩
  subst hn
  by_cases ht:t = ⟨#[]⟩
  case neg =>
   have ht2:decide (t = ⟨#[]⟩) = false:=decide_eq_false ht
   have ht3:¬ t.toList = []:=fun h => ht (by cases t with | mk d => rw [ByteArray.toList_eq] at h;simp at h;rw [h])
   have ht4:t.toList.isEmpty = false:=by simp [ht3]
   have e:V = false:=by rw [hV];simp [bareF, *]
   clear hV
   go_enter Tryd.func77,Tryd.ntmps77
   go_wp2_with fail
   go_ret
   exact ⟨by rw [e];first | rfl | (simp;done) | (simp;omega),hW.alloc hW.size _⟩
  have ht3:t.toList = []:=by rw [ht,ByteArray.toList_eq]
  have ht4:t.toList.isEmpty = true:=by rw [ht3];rfl
  have e:V = true:=by rw [hV];simp [bareF, *]
  clear hV
  go_enter Tryd.func77,Tryd.ntmps77
  go_wp2_with fail
  go_ret
  exact ⟨by rw [e];first | rfl | (simp;done) | (simp;omega),hW.alloc hW.size _⟩
 by_cases hn:num = 0
 case neg =>
  have e:V = false:=by rw [hV];simp [bareF, *]
  clear hV
  go_enter Tryd.func77,Tryd.ntmps77
  go_wp2_with fail
  go_ret
  exact ⟨by rw [e];first | rfl | (simp;done) | (simp;omega),hW.alloc hW.size _⟩
 subst hn
 by_cases ht:t = ⟨#[]⟩
 case neg =>
  have ht2:decide (t = ⟨#[]⟩) = false:=decide_eq_false ht
  have ht3:¬ t.toList = []:=fun h => ht (by cases t with | mk d => rw [ByteArray.toList_eq] at h;simp at h;rw [h])
  have ht4:t.toList.isEmpty = false:=by simp [ht3]
  have e:V = false:=by rw [hV];simp [bareF, *]
  clear hV
  go_enter Tryd.func77,Tryd.ntmps77
  go_wp2_with fail
  go_ret
  exact ⟨by rw [e];first | rfl | (simp;done) | (simp;omega),hW.alloc hW.size _⟩
 have ht3:t.toList = []:=by rw [ht,ByteArray.toList_eq]
 have ht4:t.toList.isEmpty = true:=by rw [ht3];rfl
 by_cases ha:a = 0
 case neg =>
  have ha2:decide ((a:Int) = 0) = false:=by simp;omega
  have e:V = false:=by rw [hV];simp [bareF, *]
  clear hV
  go_enter Tryd.func77,Tryd.ntmps77
  go_wp2_with fail
  go_ret
  exact ⟨by rw [e];first | rfl | (simp;done) | (simp;omega),hW.alloc hW.size _⟩
 subst ha
 by_cases hb:b = 0
 case neg =>
  have hb2:decide ((b:Int) = 0) = false:=by simp;omega
  have e:V = false:=by rw [hV];simp [bareF, *]
  clear hV
  go_enter Tryd.func77,Tryd.ntmps77
  go_wp2_with fail
  go_ret
  exact ⟨by rw [e];first | rfl | (simp;done) | (simp;omega),hW.alloc hW.size _⟩
 subst hb
 have e:V = true:=by rw [hV];simp [bareF, *]
 clear hV
 go_enter Tryd.func77,Tryd.ntmps77
 go_wp2_with fail
 go_ret
 exact ⟨by rw [e];first | rfl | (simp;done) | (simp;omega),hW.alloc hW.size _⟩
mutual
noncomputable def rightN (most:Int) (nest:Int):Nd → Int → Bool
 | .mk k num t ks ns,deep => bareF k num t ks.length ns.length &&
  (k == 1 || k == 2 || k == 3 || (k == 4 && decide (-most ≤ num ∧ num ≤ most)) || (k == 5 && validB t.toList) ||
   ((k == 6 || k == 7) && decide (deep < nest) && (k == 6 || (decide (ks.length = ns.length) && keysB ks)) && rightL most nest ns (deep + 1)))
noncomputable def rightL (most:Int) (nest:Int):List Nd → Int → Bool
 | [],_ => true
 | n :: ns,deep => rightN most nest n deep && rightL most nest ns deep
end
theorem rightL_all (most nest:Int) (ns:List Nd) (deep:Int):rightL most nest ns deep = ns.all (fun n => rightN most nest n deep):=by
 induction ns with
 | nil => unfold rightL;rfl
 | cons n ns ih => unfold rightL;rw [ih];rfl
noncomputable def rightD (n:Nd) (deep:Int):Bool:=rightN 9007199254740991 24 n deep
noncomputable def rightLD (ns:List Nd) (deep:Int):Bool:=rightL 9007199254740991 24 ns deep
theorem rightLD_nil (deep:Int):rightLD [] deep = true:=by unfold rightLD rightL;rfl
theorem rightLD_at (ns:List Nd) (i:Nat) (n:Nd) (deep:Int) (h:ns[i]? = some n):rightLD (ns.drop i) deep = (rightD n deep && rightLD (ns.drop (i + 1)) deep):=by
 rw [List.drop_eq_getElem_cons (List.getElem?_eq_some_iff.1 h).1,(List.getElem?_eq_some_iff.1 h).2]
 unfold rightLD rightD
 conv => lhs;unfold rightL
def RightC (vs:Array Value) (deep:Int) (b:Bool) (w:World):Prop:=Calls Tryd.prog 68 #[.agg vs,.int .i64 deep] w (BoolBel b w)
def OddC (vs:Array Value) (p:Addr) (b:Bool) (w:World):Prop:=Calls Tryd.prog 80 #[.agg vs,.pointer (some p)] w (BoolBel b w)
set_option maxRecDepth 100000 in
set_option maxHeartbeats 1000000 in
theorem cright1_any (n:Nd) (cs:List Value) (w:World) (B:Nat) (deep:Int) (p:Addr) (hn:NdIs w B n cs) (hB:B ≤ w.heap.size) (hc:w.cell? p = some (.int .i64 deep)) (hp:p.block < w.heap.size) (d0:0 ≤ deep) (d1:deep < 24)
  (HIH:Hid (∀ w',NdIs w' B n cs → B ≤ w'.heap.size → RightC cs.toArray (deep + 1) (rightD n (deep + 1)) w')):OddC cs.toArray p (!rightD n (deep + 1)) w:=by
 have hl:=hn.len
 match cs,hl with
 | [v0,v1,v2,v3,v4],_ =>
  have hW:=Below.refl w.heap.size w
  have HC:Hid (∀ w',Below w.heap.size w w' → RightC #[v0,v1,v2,v3,v4] (deep + 1) (rightD n (deep + 1)) w'):=fun w' hb => HIH.out w' (hn.below (hb.mono hB)) (by have:=hb.size;omega)
  obtain ⟨x0,x1,x2,x3,x4,x5,x6,x7,x8,rfl,rfl,rfl,rfl,rfl⟩:=hn.form
  show Calls Tryd.prog 80 #[.agg #[_,_,_,_,_],.pointer (some p)] w (BoolBel _ w)
  have hne:¬ p.block = w.heap.size:=by omega
  clear hn
  generalize rightD n (deep + 1) = V at *
  go_enter Tryd.func80,Tryd.ntmps80
  go_wp2_with fail
  refine (HC.out _ (hW.alloc (Nat.le_refl _) _)).mono ?_;rintro e w1 ⟨rfl,hw1⟩
  go_wp2_with fail
  go_ret
  exact ⟨rfl,nextA hW hw1⟩
def IdxPost (b:Bool) (w:World) (e:Ending) (w':World):Prop:=∃ v:Int,e = .returned (.int .i64 v) ∧ decide (0 ≤ v) = !b ∧ Below w.heap.size w w'
set_option maxRecDepth 100000 in
set_option maxHeartbeats 1000000 in
theorem sIndexFunc_right (ns:List Nd) (A:Option Addr) (cc:Nat) (xs:List Value) (w:World) (B:Nat) (deep:Int) (p:Addr) (hxs:Reads w B 5 A ns.length xs) (hns:NdsIs w B ns xs) (hB:B ≤ w.heap.size) (hk:ns.length ≤ 9223372036854775807)
  (hc:w.cell? p = some (.int .i64 deep)) (hp:p.block < w.heap.size) (d0:0 ≤ deep) (d1:deep < 24)
  (HIH:Hid (∀ (i:Nat) (n:Nd) (cs:List Value) (w':World),ns[i]? = some n → NdIs w' B n cs → B ≤ w'.heap.size → RightC cs.toArray (deep + 1) (rightD n (deep + 1)) w')) :
  Calls Tryd.prog 50 #[.slice A ns.length cc,.func (.func 80) #[] #[.pointer (some p)]] w (IdxPost (rightLD ns (deep + 1)) w):=by
 have hW:=Below.refl w.heap.size w
 obtain ⟨V,hV⟩:∃ V,V = rightLD ns (deep + 1):=⟨_,rfl⟩
 rw [← hV]
 have HV:Hid (V = rightLD (ns.drop 0) (deep + 1)):=hV
 have HXS:=Lib.hid hxs
 have HNS:=Lib.hid hns
 have HD:Hid (0 ≤ deep ∧ deep < 24):=⟨d0,d1⟩
 have HC:=Lib.hid hc
 clear hxs hns hV d0 d1 hc
 go_enter Tryd.func50,Tryd.ntmps50
 go_wp2_with fail
 go_loopw [8] (fun t wr => ∃ (i:Nat),i ≤ ns.length ∧ t = .int .i64 i ∧ Hid (V = rightLD (ns.drop i) (deep + 1)) ∧ Below w.heap.size w wr) (fun t _ => ns.length - (intOf t).toNat)
 case atStart => exact ⟨0,by omega,rfl,HV,hW⟩
 case round =>
  clear hW
  obtain ⟨i,hi,rfl,hv,hW⟩:=hrel
  obtain ⟨wo,rfl⟩:∃ wo:World,wo = wr:=⟨_,rfl⟩
  have hsz:=hW.size
  by_cases hlt:i < ns.length
  ·have hkeep:∀ p:Addr,p.block < B → wo.cell? p = w.cell? p:=fun p hp => hW.cell (by omega)
   obtain ⟨ad,n,v0,v1,v2,v3,v4,rfl,hadb,hni,hnd,e0,e1,e2,e3,e4⟩:=(HXS.out.keep hkeep).nd (NdsIs.keep hkeep _ _ HNS.out) hlt
   have HSTEP:=Lib.hid (rightLD_at ns i n (deep + 1) hni)
   have HO:Hid (∀ w',Below wo.heap.size wo w' → OddC #[v0,v1,v2,v3,v4] p (!rightD n (deep + 1)) w'):=fun w' hb =>
    cright1_any n [v0,v1,v2,v3,v4] w' B deep p (hnd.below (hb.mono (by omega))) (by have:=hb.size;omega) ((hb.cell (by omega)).trans ((hW.cell hp).trans HC.out)) (by have:=hb.size;omega) HD.out.1 HD.out.2
     (fun w'' h1 h2 => HIH.out i n [v0,v1,v2,v3,v4] w'' hni h1 h2)
   have HNI:=Lib.hid hni
   clear hni hnd hkeep
   generalize rightD n (deep + 1) = b at *
   go_wp2_with fail
   refine (HO.out _ (Below.refl _ _)).mono ?_;rintro e w1 ⟨rfl,hw1⟩
   cases b with
   | false =>
    have HE:Hid (V = false):=by show _ = _;rw [hv.out,HSTEP.out];rfl
    go_wp2_with fail
    go_ret
    exact ⟨_,rfl,by rw [HE.out];simp,hW.trans (hw1.mono hsz)⟩
   | true =>
    have HE:Hid (V = rightLD (ns.drop (i + 1)) (deep + 1)):=by show _ = _;rw [hv.out,HSTEP.out];rfl
    go_wp2_with fail
    go_roundw
    case rel => exact ⟨i + 1,by omega,by go_num,HE,hW.trans (hw1.mono hsz)⟩
    case measure => simp [intOf];omega
  ·have HE:Hid (V = true):=by
    show _ = _
    rw [hv.out,List.drop_eq_nil_of_le (by omega),rightLD_nil]
   go_wp2_with fail
   go_ret
   exact ⟨_,rfl,by rw [HE.out];rfl,hW⟩
end Go.Proofs.YthbjehbpanhdoaaDoor
