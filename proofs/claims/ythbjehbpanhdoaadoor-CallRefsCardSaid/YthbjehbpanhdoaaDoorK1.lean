/- Texts of one seat, one behind the other: Lib, Utf0, Utf, UtfGet, UtfVal, Mem, Bytes, Bld, Wtext, Node0, Node1, Node2, Node3, Text0, Text1, Text2, Wnode, Wkids, Wnod2, MapB, Keys, Bare, Right0, Right1, Right2, Cprint, Rq, Rref1, Rref2, Rref3, Rref, Rput0, Jspec, Sizes, NdIn. No condition. -/
import Derived.Test.YthbjehbpanhdoaaDoorChecked
import Derived.WalkKit
import Derived.WalkSpells
import Derived.WalkLawsBesides
import Derived.Laws.BytesArg
import Derived.Laws.IdiomStrings
import Derived.Lib.Hide
import Derived.Outline
import Derived.Deep.DeepFit
import Derived.Deep.DeepMust
import Derived.BigQuiet
import Derived.Deep.QuietTactic
import Derived.Deep.LoopGhost
import Derived.Below
import Derived.ChangeSame
import Derived.PlainAid
import Derived.Deep.RegionWith
import Derived.Laws.OwnMore
import Derived.Deep.AppendLies
import Derived.Deep.Draws
import Derived.Laws.Rows
import Derived.Maps.AppendAt
import Derived.RegionTactic
import Derived.OwnWalk
import Derived.Deep.OwnRows
import Derived.Lib.Builder
import Derived.Lib.FrozenHead
import Derived.Lib.FrozenHead2
import Derived.Lib.OthersKept
import Derived.Lib.BufferKept
import Derived.Lib.AppendStr
import Derived.Lib.UnsafeStr
import Derived.Laws.Externs
import Derived.Deep.RegionHeld3
import Derived.Deep.DeepCutAuto
import Derived.Lib.ItoaNum
import Derived.Lib.ItoaLen
import Derived.Test.YthbjehbpanhdoaaDoorShelf
import Derived.Lib.AppendIntMem
import Derived.Maps.OwnOps
import Derived.Maps.Views
import Derived.StringKeys
import Derived.Lib.OwnKind
import Derived.Deep.RegionLaw
namespace Go.Proofs.YthbjehbpanhdoaaDoor
open Go.RowKit
variable {P : Program}

/-! bits -/
theorem wraps_i64 (n : Int) (h₀ : 0 ≤ n) (h₁ : n < 2 ^ 63) : IntKind.i64.wrap n = n := by rw [IntKind.wrap_i64]; omega
theorem i64_mask (i : Nat) (hi : i ≤ 63) (x : Int) (h₀ : 0 ≤ x) (h₁ : x < 2 ^ 63) : bits .and .i64 x (2 ^ i - 1) = x % 2 ^ i :=
  bits_mask .i64 63 (by decide) wraps_i64 i hi x h₀ h₁
theorem i64_and63 (x : Int) (h₀ : 0 ≤ x) (h₁ : x < 9223372036854775808) : bits .and .i64 x 63 = x % 64 := i64_mask 6 (by decide) x h₀ h₁
theorem i64_join (i : Nat) (x y : Int) (hx₀ : 0 ≤ x) (hx : x % 2 ^ i = 0) (hx₁ : x < 2 ^ 63) (hy₀ : 0 ≤ y) (hy : y < 2 ^ i) (hy₁ : y < 2 ^ 63) : bits .or .i64 x y = x + y :=
  bits_join .i64 63 (by decide) wraps_i64 i x y hx₀ hx hx₁ hy₀ hy hy₁
/-- a literal slice of bytes, new, as a string -/
theorem conv_new (w : World) (src dst e : TypeId) (hs : P.underlying src = some (.slice e)) (he : P.underlying e = some (.int .u8)) (hd : P.underlying dst = some .string) (l : List Int) (fr : Nat × Nat) (c : Nat) :
    (convert src dst (.slice (some ⟨w.heap.size, 0, none⟩) l.length c)).run P (w.alloc (.cells (l.map (Value.int .u8)).toArray e fr)) = .ok (.string (strOfNums l)) (w.alloc (.cells (l.map (Value.int .u8)).toArray e fr)) := by
  refine run_convert_bytes_arg _ src e hs he _ 0 _ c l rfl (fun i hi => ?_) dst hd
  rw [Nat.zero_add, World.cell?_alloc_mark]
  simp [List.getD, hi]
theorem conv1 (src dst e : TypeId) (hs : P.underlying src = some (.slice e)) (he : P.underlying e = some (.int .u8)) (hd : P.underlying dst = some .string) (w : World) (a : Int) (c : Nat) :
    (convert src dst (.slice (some ⟨w.heap.size, 0, none⟩) 1 c)).run P (w.alloc (.cells #[.int .u8 a] e)) = .ok (.string (strOfNums [a])) (w.alloc (.cells #[.int .u8 a] e)) := conv_new w src dst e hs he hd [a] _ c
theorem conv2 (src dst e : TypeId) (hs : P.underlying src = some (.slice e)) (he : P.underlying e = some (.int .u8)) (hd : P.underlying dst = some .string) (w : World) (a b : Int) (c : Nat) :
    (convert src dst (.slice (some ⟨w.heap.size, 0, none⟩) 2 c)).run P (w.alloc (.cells #[.int .u8 a, .int .u8 b] e)) = .ok (.string (strOfNums [a, b])) (w.alloc (.cells #[.int .u8 a, .int .u8 b] e)) := conv_new w src dst e hs he hd [a, b] _ c
theorem conv3 (src dst e : TypeId) (hs : P.underlying src = some (.slice e)) (he : P.underlying e = some (.int .u8)) (hd : P.underlying dst = some .string) (w : World) (a b d : Int) (c : Nat) :
    (convert src dst (.slice (some ⟨w.heap.size, 0, none⟩) 3 c)).run P (w.alloc (.cells #[.int .u8 a, .int .u8 b, .int .u8 d] e)) = .ok (.string (strOfNums [a, b, d])) (w.alloc (.cells #[.int .u8 a, .int .u8 b, .int .u8 d] e)) := conv_new w src dst e hs he hd [a, b, d] _ c
theorem conv4 (src dst e : TypeId) (hs : P.underlying src = some (.slice e)) (he : P.underlying e = some (.int .u8)) (hd : P.underlying dst = some .string) (w : World) (a b d f : Int) (c : Nat) :
    (convert src dst (.slice (some ⟨w.heap.size, 0, none⟩) 4 c)).run P (w.alloc (.cells #[.int .u8 a, .int .u8 b, .int .u8 d, .int .u8 f] e)) = .ok (.string (strOfNums [a, b, d, f])) (w.alloc (.cells #[.int .u8 a, .int .u8 b, .int .u8 d, .int .u8 f] e)) := conv_new w src dst e hs he hd [a, b, d, f] _ c
theorem nextB {w wa wb : World} (h : Below w.heap.size w wa) (k : Below wa.heap.size wa wb) : Below w.heap.size w wb := h.trans (k.mono h.size)
theorem nextA {w wa wb : World} {o : Obj} (h : Below w.heap.size w wa) (k : Below (wa.alloc o).heap.size (wa.alloc o) wb) : Below w.heap.size w wb := nextB (h.alloc h.size o) k
theorem nextAA {w wa wb : World} {o o' : Obj} (h : Below w.heap.size w wa) (k : Below ((wa.alloc o).alloc o').heap.size ((wa.alloc o).alloc o') wb) : Below w.heap.size w wb := nextA (h.alloc h.size o) k
theorem nextAD {w wa wb : World} {o : Obj} (h : Below w.heap.size w wa) (k : Below ((wa.alloc o).drew).heap.size ((wa.alloc o).drew) wb) : Below w.heap.size w wb := nextB ((h.alloc h.size o).drew) k
/-- what the walk is told of a slice of integers that came in -/
def IsRow (k : IntKind) (w : World) (a : Option Addr) (len cap : Nat) (zs : List Int) : Prop :=
  (a = none ∧ len = 0 ∧ cap = 0 ∧ zs = []) ∨
  ∃ x, a = some x ∧ len ≤ cap ∧ cap ≤ maxLen ∧ zs.length = cap ∧ (∀ i, i < zs.length → w.cell? (x.add i) = some (.int k (zs.getD i 0))) ∧ ∀ n ∈ zs, (Lit.int k n).wf = true
/- the row's last step: one of the guide's lemmas to copy -/
section
open Go.WideShapes Go.ChangeShapes
variable {H : Type} {enc : TypeId × Value → H} {P : Program}
theorem post_of_below {f : Func} {s : ChangeSpec} {apart fresh handsOn again : Bool} {W W' : World} {args : Array Value} {v : Value} {ds gs : List (DataW H)} {before pa pv : List MemPlace}
    (hW : DataW.Whole enc P f.params.toList s.vars apart W args.toList ds gs before)
    (hres : ∀ (b : Nat) (sp : Nat → Bool) (hd : Bool), DataW.TrodAll enc P W' b sp hd f.resultTypes.toList (v.resultList f.resultTypes.size) (s.fn H (ds ++ gs)).results [])
    (hargs : ∀ sp : Nat → Bool, (∀ p ∈ before, sp p.block = true) → DataW.TrodAll enc P W' 0 sp true f.params.toList args.toList (s.fn H (ds ++ gs)).args pa)
    (hvars : ∀ sp : Nat → Bool, (∀ p ∈ before, sp p.block = true) → DataW.TrodVars enc P W' sp s.vars (s.fn H (ds ++ gs)).vars pv)
    (hps : before = pa ++ pv) (hb : Below W.heap.size W W')
    (hok : ∀ (j : Nat) (t : TypeId) (r : Value), f.resultTypes[j]? = some t → (v.resultList f.resultTypes.size)[j]? = some r → Value.okWide P W' .any 0 t r) :
    s.post enc P f apart fresh handsOn again W args v W' := by
  have hlt : ∀ p ∈ before, p.block < W.heap.size := fun p hp => hW.lt p hp
  have hold : ∀ p ∈ before, (fun b => decide (b < W.heap.size)) p.block = true := fun p hp => by simpa using hlt p hp
  refine ⟨ds, gs, before, [], pa, pv, hW, hres _ _ _, hargs _ hold, hvars _ hold, World.keptBut_mono (fun p hp => ⟨hp, ?_⟩) (hb.frame (· ∈ before)), fun _ => ?_⟩
  · rw [hps, List.mem_append] at hp
    exact Or.inr hp
  · obtain ⟨_, _, _, _, _, hz, hn⟩ := hW
    refine ⟨hok, _, _, ([] ++ pa) ++ pv, ⟨[] ++ pa, pv, trodAll_append (hargs _ (fun _ _ => rfl)) (hres _ _ _), hvars _ (fun _ _ => rfl), rfl, ?_, ?_⟩, ?_⟩
    · intro b off hp
      have hin : MemPlace.cell b off ∈ before := by rw [hps]; simpa using hp
      rw [hb.frozen (hlt _ hin)]
      exact hz b off hin
    · intro ha
      have := hn ha
      rw [hps] at this
      simpa using this
    · intro p hp _
      rw [hps]
      simpa using hp
end
end Go.Proofs.YthbjehbpanhdoaaDoor
/-! Plain functions: what package utf8 computes, and their laws. -/
namespace Go.Proofs.YthbjehbpanhdoaaDoor
open Go.RowKit Go.PlainAid
set_option linter.unusedVariables false
set_option linter.unusedSimpArgs false
def putN (r : Int) : List Int :=
  if r < 0 ∨ 1114111 < r ∨ (55296 ≤ r ∧ r ≤ 57343) then [] else if r < 128 then [r] else if r < 2048 then [192 + r / 64, 128 + r % 64]
  else if r < 65536 then [224 + r / 4096, 128 + r / 64 % 64, 128 + r % 64] else [240 + r / 262144, 128 + r / 4096 % 64, 128 + r / 64 % 64, 128 + r % 64]
def put (r : Int) : ByteArray := strOfNums (putN r)
def sizeN (c : Int) : Int × Int := if c < 128 then (1, c) else if c < 192 then (0, 0) else if c < 224 then (2, c % 32) else if c < 240 then (3, c % 16) else if c < 248 then (4, c % 8) else (0, 0)
def rsizeN (c : Int) : Int × Int := if 240 ≤ c then (4, c % 8) else if 224 ≤ c then (3, c % 16) else if 192 ≤ c then (2, c % 32) else (1, c)
def acc (s : ByteArray) (k : Nat) (r : Int) : Nat → Int
  | 0 => r
  | i + 1 => acc s k r i * 64 + bt s (k + (i + 1)) % 64
theorem acc_bound (s : ByteArray) (k : Nat) (r : Int) (h0 : 0 ≤ r) (h1 : r < 256) : ∀ i, i ≤ 3 → 0 ≤ acc s k r i ∧ acc s k r i < 67108864 := by
  have b := bt_nonneg s
  have step : ∀ i (B : Int), 0 ≤ acc s k r i → acc s k r i < B → 0 ≤ acc s k r (i + 1) ∧ acc s k r (i + 1) < B * 64 := by
    intro i B g0 g1
    have := b (k + (i + 1))
    simp only [acc]
    omega
  intro i hi
  have s0 : 0 ≤ acc s k r 0 ∧ acc s k r 0 < 256 := ⟨h0, h1⟩
  have s1 : 0 ≤ acc s k r 1 ∧ acc s k r 1 < 16384 := step 0 256 s0.1 s0.2
  have s2 : 0 ≤ acc s k r 2 ∧ acc s k r 2 < 1048576 := step 1 _ s1.1 s1.2
  have s3 : 0 ≤ acc s k r 3 ∧ acc s k r 3 < 67108864 := step 2 _ s2.1 s2.2
  rcases (by omega : i = 0 ∨ i = 1 ∨ i = 2 ∨ i = 3) with rfl | rfl | rfl | rfl <;> omega
theorem sizeN_le (c : Int) (h0 : 0 ≤ c) (h1 : c < 256) : 0 ≤ (sizeN c).1 ∧ (sizeN c).1 ≤ 4 ∧ 0 ≤ (sizeN c).2 ∧ (sizeN c).2 < 256 := by
  unfold sizeN
  repeat' split
  all_goals (refine ⟨?_, ?_, ?_, ?_⟩ <;> omega)
def putB (r : Int) : List UInt8 := (putN r).map fun n => UInt8.ofNat n.toNat
theorem put_toList (r : Int) : (put r).toList = putB r := by
  rw [ByteArray.toList_eq]; exact strOfNums_data _
def accL (r : Int) (l : List UInt8) : Int := l.foldl (fun r b => r * 64 + (b.toNat : Int) % 64) r
theorem bt_eq (s : ByteArray) (k : Nat) (c : UInt8) (h : s.toList[k]? = some c) : bt s k = c.toNat := by
  rw [ByteArray.toList_eq] at h
  unfold bt
  have hk : k < s.size := by
    have := (List.getElem?_eq_some_iff.1 h).1
    simpa using this
  rw [dif_pos hk]
  have := (List.getElem?_eq_some_iff.1 h).2
  rw [← this]
  rfl
theorem acc_eq (s : ByteArray) (k : Nat) (r : Int) (i : Nat) (h : k + i < s.size) : acc s k r i = accL r ((s.toList.drop (k + 1)).take i) := by
  have hl : s.toList.length = s.size := by rw [ByteArray.toList_eq]; simp
  induction i with
  | zero => rfl
  | succ i ih =>
    have hj : k + 1 + i < s.toList.length := by omega
    have e : (s.toList.drop (k + 1)).take (i + 1) = (s.toList.drop (k + 1)).take i ++ [s.toList[k + 1 + i]] := by
      rw [List.take_succ_eq_append_getElem (by simp; omega)]
      simp
    rw [e]
    unfold accL
    rw [List.foldl_append]
    simp only [acc, List.foldl_cons, List.foldl_nil]
    have := ih (by omega)
    unfold accL at this
    rw [this, bt_eq s (k + (i + 1)) (s.toList[k + 1 + i]) (by rw [show k + (i + 1) = k + 1 + i by omega]; exact List.getElem?_eq_getElem hj)]
/-- the first code point of a list of bytes -/
def decW (sz : Int → Int × Int) (l : List UInt8) : Option (Int × Nat) :=
  match l with
  | [] => none
  | c :: t =>
    let n := (sz c.toNat).1.toNat
    let r := accL (sz c.toNat).2 (t.take (n - 1))
    if n = 0 ∨ t.length + 1 < n then none else if putB r = (c :: t).take n then some (r, n) else none
def decL (l : List UInt8) : Option (Int × Nat) := decW sizeN l
theorem putB_of {r : Int} {l : List Int} (h : putN r = l) : putB r = l.map fun n => UInt8.ofNat n.toNat := by unfold putB; rw [h]
theorem toNat_ofNat (n : Int) (h0 : 0 ≤ n) (h1 : n < 256) : ((UInt8.ofNat n.toNat).toNat : Int) = n := by
  simp; omega
theorem decW_put (sz : Int → Int × Int) (hz : ∀ c, sz c = sizeN c ∨ 128 ≤ c ∧ c < 192 ∨ 248 ≤ c) (r : Int) (t : List UInt8) (h : putB r ≠ []) : decW sz (putB r ++ t) = some (r, (putB r).length) := by
  have sz' : ∀ c, c < 128 ∨ 192 ≤ c ∧ c < 248 → sz c = sizeN c := fun c hc => by
    rcases hz c with h | h | h
    · exact h
    · omega
    · omega
  by_cases h0 : r < 0 ∨ 1114111 < r ∨ (55296 ≤ r ∧ r ≤ 57343)
  · exact absurd (by rw [putB_of (l := []) (by unfold putN; rw [if_pos h0])]; rfl) h
  by_cases h1 : r < 128
  · have e : putN r = [r] := by unfold putN; rw [if_neg h0, if_pos h1]
    have eb := putB_of e
    have b0 := toNat_ofNat r (by omega) (by omega)
    have z : sz r = (1, r) := by rw [sz' r (by omega)]; unfold sizeN; rw [if_pos (by omega)]
    rw [eb]
    simp only [List.map_cons, List.map_nil, List.cons_append, List.nil_append, decW, b0, z]
    simp [accL, eb]
  by_cases h2 : r < 2048
  · have e : putN r = [192 + r / 64, 128 + r % 64] := by unfold putN; rw [if_neg h0, if_neg h1, if_pos h2]
    have eb := putB_of e
    have b0 := toNat_ofNat (192 + r / 64) (by omega) (by omega)
    have b1 := toNat_ofNat (128 + r % 64) (by omega) (by omega)
    have z : sz (192 + r / 64) = (2, (192 + r / 64) % 32) := by rw [sz' _ (by omega)]; unfold sizeN; rw [if_neg (by omega), if_neg (by omega), if_pos (by omega)]
    have er : (192 + r / 64) % 32 * 64 + (128 + r % 64) % 64 = r := by omega
    rw [eb]
    simp only [List.map_cons, List.map_nil, List.cons_append, List.nil_append, decW, b0, z]
    simp only [accL, show (2 : Int).toNat = 2 from rfl, show 2 - 1 = 1 from rfl, List.take_succ_cons, List.take_zero, List.foldl_cons, List.foldl_nil, b1, er, eb, List.map_cons, List.map_nil]
    simp
  by_cases h3 : r < 65536
  · have e : putN r = [224 + r / 4096, 128 + r / 64 % 64, 128 + r % 64] := by unfold putN; rw [if_neg h0, if_neg h1, if_neg h2, if_pos h3]
    have eb := putB_of e
    have b0 := toNat_ofNat (224 + r / 4096) (by omega) (by omega)
    have b1 := toNat_ofNat (128 + r / 64 % 64) (by omega) (by omega)
    have b2 := toNat_ofNat (128 + r % 64) (by omega) (by omega)
    have z : sz (224 + r / 4096) = (3, (224 + r / 4096) % 16) := by rw [sz' _ (by omega)]; unfold sizeN; rw [if_neg (by omega), if_neg (by omega), if_neg (by omega), if_pos (by omega)]
    have er : ((224 + r / 4096) % 16 * 64 + (128 + r / 64 % 64) % 64) * 64 + (128 + r % 64) % 64 = r := by omega
    rw [eb]
    simp only [List.map_cons, List.map_nil, List.cons_append, List.nil_append, decW, b0, z]
    simp only [accL, show (3 : Int).toNat = 3 from rfl, show 3 - 1 = 2 from rfl, List.take_succ_cons, List.take_zero, List.foldl_cons, List.foldl_nil, b1, b2, er, eb, List.map_cons, List.map_nil]
    simp
  · have e : putN r = [240 + r / 262144, 128 + r / 4096 % 64, 128 + r / 64 % 64, 128 + r % 64] := by unfold putN; rw [if_neg h0, if_neg h1, if_neg h2, if_neg h3]
    have eb := putB_of e
    have b0 := toNat_ofNat (240 + r / 262144) (by omega) (by omega)
    have b1 := toNat_ofNat (128 + r / 4096 % 64) (by omega) (by omega)
    have b2 := toNat_ofNat (128 + r / 64 % 64) (by omega) (by omega)
    have b3 := toNat_ofNat (128 + r % 64) (by omega) (by omega)
    have z : sz (240 + r / 262144) = (4, (240 + r / 262144) % 8) := by rw [sz' _ (by omega)]; unfold sizeN; rw [if_neg (by omega), if_neg (by omega), if_neg (by omega), if_neg (by omega), if_pos (by omega)]
    have er : (((240 + r / 262144) % 8 * 64 + (128 + r / 4096 % 64) % 64) * 64 + (128 + r / 64 % 64) % 64) * 64 + (128 + r % 64) % 64 = r := by omega
    rw [eb]
    simp only [List.map_cons, List.map_nil, List.cons_append, List.nil_append, decW, b0, z]
    simp only [accL, show (4 : Int).toNat = 4 from rfl, show 4 - 1 = 3 from rfl, List.take_succ_cons, List.take_zero, List.foldl_cons, List.foldl_nil, b1, b2, b3, er, eb, List.map_cons, List.map_nil]
    simp
theorem decW_some (sz : Int → Int × Int) (l : List UInt8) (r : Int) (n : Nat) (h : decW sz l = some (r, n)) : putB r ≠ [] ∧ n = (putB r).length ∧ l = putB r ++ l.drop n := by
  unfold decW at h
  split at h
  · cases h
  · rename_i c t
    dsimp only at h
    split at h
    · cases h
    · rename_i hc
      split at h
      · rename_i hp
        simp only [Option.some.injEq, Prod.mk.injEq] at h
        obtain ⟨rfl, rfl⟩ := h
        have hlen : (putB (accL (sz c.toNat).2 (t.take ((sz c.toNat).1.toNat - 1)))).length = (sz c.toNat).1.toNat := by
          rw [hp]; simp; omega
        refine ⟨fun e => ?_, hlen.symm, ?_⟩
        · rw [e] at hlen; simp at hlen; omega
        · rw [hp]; exact (List.take_append_drop _ _).symm
      · cases h
theorem decL_some (l : List UInt8) (r : Int) (n : Nat) (h : decL l = some (r, n)) : putB r ≠ [] ∧ n = (putB r).length ∧ l = putB r ++ l.drop n := decW_some _ l r n h
theorem decL_put (r : Int) (t : List UInt8) (h : putB r ≠ []) : decL (putB r ++ t) = some (r, (putB r).length) := decW_put _ (fun _ => Or.inl rfl) r t h
theorem putN_nonneg (r : Int) (h : putB r ≠ []) : 0 ≤ r ∧ r ≤ 1114111 := by
  by_cases h0 : r < 0 ∨ 1114111 < r ∨ (55296 ≤ r ∧ r ≤ 57343)
  · exact absurd (by rw [putB_of (l := []) (by unfold putN; rw [if_pos h0])]; rfl) h
  · omega
theorem putB_nil (r : Int) : putB r = [] ↔ r < 0 ∨ 1114111 < r ∨ (55296 ≤ r ∧ r ≤ 57343) := by
  constructor
  · intro h
    by_cases h0 : r < 0 ∨ 1114111 < r ∨ (55296 ≤ r ∧ r ≤ 57343)
    · exact h0
    · exfalso
      unfold putB putN at h
      rw [if_neg h0] at h
      repeat' split at h
      all_goals simp at h
  · intro h0
    rw [putB_of (l := []) (by unfold putN; rw [if_pos h0])]; rfl
theorem putB_len (r : Int) : (putB r).length ≤ 4 := by
  unfold putB putN
  repeat' split
  all_goals simp
/-- what Get tells -/
def getL (l : List UInt8) (k : Nat) : Int × Int := match decL (l.drop k) with | none => (-1, k) | some (r, n) => (r, k + n)
theorem extract_toList (s : ByteArray) (k n : Nat) : (s.extract k (k + n)).toList = (s.toList.drop k).take n := by
  rw [ByteArray.toList_eq, ByteArray.toList_eq, ByteArray.data_extract, Array.toList_extract]
  simp [List.extract]
theorem getW (sz : Int → Int × Int) (s : ByteArray) (k n : Nat) (r : Int) (hk : k < s.size) (e : sz (bt s k) = ((n : Int), r)) (h0 : 0 < n) (hn : k + n ≤ s.size) :
    decW sz (s.toList.drop k) = if ((put (acc s k r (n - 1))).toList == (s.extract k (k + n)).toList) = true then some (acc s k r (n - 1), n) else none := by
  have hl : s.toList.length = s.size := by rw [ByteArray.toList_eq]; simp
  have hd : s.toList.drop k = s.toList[k]'(by omega) :: s.toList.drop (k + 1) := List.drop_eq_getElem_cons (by omega)
  have hb : bt s k = (s.toList[k]'(by omega)).toNat := bt_eq s k _ (List.getElem?_eq_getElem (by omega))
  rw [extract_toList, hd]
  simp only [decW]
  rw [← hb, e]
  simp only [Int.toNat_natCast]
  rw [acc_eq s k r (n - 1) (by omega), put_toList, if_neg (by simp; omega)]
  simp only [beq_iff_eq]
theorem getW_none (sz : Int → Int × Int) (s : ByteArray) (k n : Nat) (r : Int) (hk : k < s.size) (e : sz (bt s k) = ((n : Int), r)) (h : n = 0 ∨ s.size < k + n) : decW sz (s.toList.drop k) = none := by
  have hl : s.toList.length = s.size := by rw [ByteArray.toList_eq]; simp
  have hd : s.toList.drop k = s.toList[k]'(by omega) :: s.toList.drop (k + 1) := List.drop_eq_getElem_cons (by omega)
  have hb : bt s k = (s.toList[k]'(by omega)).toNat := bt_eq s k _ (List.getElem?_eq_getElem (by omega))
  rw [hd]
  simp only [decW]
  rw [← hb, e]
  simp only [Int.toNat_natCast]
  rw [if_pos (by simp; omega)]
/-! valid texts -/
def ValidP (l : List UInt8) : Prop := ∃ rs : List Int, (∀ r ∈ rs, putB r ≠ []) ∧ l = (rs.map putB).flatten
noncomputable def validB (l : List UInt8) : Bool := @decide (ValidP l) (Classical.propDecidable _)
theorem validB_iff (l : List UInt8) : validB l = true ↔ ValidP l := by unfold validB; exact @decide_eq_true_iff _ (Classical.propDecidable _)
theorem ValidP.nil : ValidP [] := ⟨[], by simp, rfl⟩
theorem ValidP.cons {r : Int} {l : List UInt8} (h : putB r ≠ []) (hl : ValidP l) : ValidP (putB r ++ l) := by
  obtain ⟨rs, h1, rfl⟩ := hl
  exact ⟨r :: rs, by simpa [h] using h1, rfl⟩
theorem ValidP.head {l : List UInt8} (h : ValidP l) (hne : l ≠ []) : ∃ r n, decL l = some (r, n) ∧ ValidP (l.drop n) := by
  obtain ⟨rs, h1, rfl⟩ := h
  cases rs with
  | nil => exact absurd rfl hne
  | cons r rs =>
    have h2 := h1 r (by simp)
    refine ⟨r, (putB r).length, decL_put r _ h2, ⟨rs, fun x hx => h1 x (by simp [hx]), ?_⟩⟩
    simp
theorem validB_nil : validB [] = true := (validB_iff _).2 ValidP.nil
theorem validB_none (l : List UInt8) (hne : l ≠ []) (h : decL l = none) : validB l = false := by
  cases hb : validB l with
  | false => rfl
  | true =>
    obtain ⟨r, n, h1, _⟩ := ((validB_iff l).1 hb).head hne
    rw [h] at h1; cases h1
theorem validB_some (l : List UInt8) (r : Int) (n : Nat) (h : decL l = some (r, n)) : validB (l.drop n) = validB l := by
  obtain ⟨h1, h2, h3⟩ := decL_some l r n h
  rw [Bool.eq_iff_iff, validB_iff, validB_iff]
  constructor
  · intro hv; rw [h3]; exact hv.cons h1
  · intro hv
    obtain ⟨r', n', e, hv'⟩ := hv.head (by rw [h3]; simp [h1])
    rw [h] at e; cases e; exact hv'
/-- how many bytes the first n code points have -/
def cutL : Nat → List UInt8 → Nat
  | 0, _ => 0
  | n + 1, l => match decL l with | none => 0 | some (_, m) => m + cutL n (l.drop m)
theorem dec_le (l : List UInt8) (r : Int) (n : Nat) (h : decL l = some (r, n)) : 0 < n ∧ n ≤ l.length ∧ 0 ≤ r := by
  obtain ⟨h1, h2, h3⟩ := decL_some l r n h
  have : 0 < (putB r).length := List.length_pos_iff.2 h1
  have h4 : l.length = (putB r).length + (l.drop n).length := by
    have := congrArg List.length h3
    simpa using this
  exact ⟨by omega, by omega, (putN_nonneg r h1).1⟩
end Go.Proofs.YthbjehbpanhdoaaDoor
/-! The walks of package utf8. -/
namespace Go.Proofs.YthbjehbpanhdoaaDoor
open Go.RowKit Go.PlainAid
set_option linter.unusedVariables false
set_option linter.unusedSimpArgs false
theorem ret2 {a b c d : Int} (h1 : a = c) (h2 : b = d) : Ending.returned (.tuple #[.int .i64 a, .int .i64 b]) = .returned (.tuple #[.int .i64 c, .int .i64 d]) := by rw [h1, h2]
theorem more_any (r : Int) (w : World) (h0 : 0 ≤ r) (h1 : r < 2097152) : Calls Tryd.prog 93 #[.int .i64 r] w fun e w' => e = .returned (.int .u8 (128 + r % 64)) ∧ w = w' := by
  have e : bits BinOp.or IntKind.i64 128 (bits BinOp.and IntKind.i64 r 63) % 256 = 128 + r % 64 := by
    rw [i64_and63 r h0 (by omega), i64_join 6 128 (r % 64) (by omega) (by omega) (by omega) (by omega) (by omega) (by omega)]; omega
  have E := Lib.hid e
  clear e
  go_enter Tryd.func93, Tryd.ntmps93
  go_wp2
  go_ret
  exact ⟨congrArg (fun x => Ending.returned (.int .u8 x)) E.out, rfl⟩
theorem put_0 (r : Int) (w : World) (h : r < 0) : Calls Tryd.prog 83 #[.int .i64 r] w fun e w' => e = .returned (.string (strOfNums [])) ∧ Below w.heap.size w w' := by
  go_enter Tryd.func83, Tryd.ntmps83
  go_wp2
  go_ret
  exact ⟨rfl, (Below.refl _ _)⟩
theorem put_0' (r : Int) (w : World) (h : 1114111 < r) : Calls Tryd.prog 83 #[.int .i64 r] w fun e w' => e = .returned (.string (strOfNums [])) ∧ Below w.heap.size w w' := by
  go_enter Tryd.func83, Tryd.ntmps83
  go_wp2
  go_ret
  exact ⟨rfl, (Below.refl _ _)⟩
theorem put_0'' (r : Int) (w : World) (h0 : 55296 ≤ r) (h : r ≤ 57343) : Calls Tryd.prog 83 #[.int .i64 r] w fun e w' => e = .returned (.string (strOfNums [])) ∧ Below w.heap.size w w' := by
  go_enter Tryd.func83, Tryd.ntmps83
  go_wp2
  go_ret
  exact ⟨rfl, (Below.refl _ _)⟩
theorem put_1 (r : Int) (w : World) (h0 : 0 ≤ r) (h : r < 128) : Calls Tryd.prog 83 #[.int .i64 r] w fun e w' => e = .returned (.string (strOfNums [r])) ∧ Below w.heap.size w w' := by
  have c1 := conv1 (P := Tryd.prog) 52 9 5 Tryd.underlying52 Tryd.underlying5 Tryd.underlying9
  go_enter Tryd.func83, Tryd.ntmps83
  go_wp2
  go_ret
  exact ⟨rfl, (Below.refl _ _).alloc (Nat.le_refl _) _⟩
theorem put_2 (r : Int) (w : World) (h0 : 128 ≤ r) (h : r < 2048) : Calls Tryd.prog 83 #[.int .i64 r] w fun e w' => e = .returned (.string (strOfNums [192 + r / 64, 128 + r % 64])) ∧ Below w.heap.size w w' := by
  have c1 := conv2 (P := Tryd.prog) 52 9 5 Tryd.underlying52 Tryd.underlying5 Tryd.underlying9
  have e1 : bits BinOp.or IntKind.i64 192 (r / 64) = 192 + r / 64 := i64_join 6 192 (r / 64) (by omega) (by omega) (by omega) (by omega) (by omega) (by omega)
  go_enter Tryd.func83, Tryd.ntmps83
  go_wp2_with (go_at_call 93; refine (more_any _ _ (by omega) (by omega)).mono ?_; rintro e w' ⟨rfl, rfl⟩)
  go_ret
  exact ⟨rfl, (Below.refl _ _).alloc (Nat.le_refl _) _⟩
theorem put_3 (r : Int) (w : World) (h0 : 2048 ≤ r) (h : r < 65536) (h' : r < 55296 ∨ 57343 < r) : Calls Tryd.prog 83 #[.int .i64 r] w fun e w' => e = .returned (.string (strOfNums [224 + r / 4096, 128 + r / 64 % 64, 128 + r % 64])) ∧ Below w.heap.size w w' := by
  have c1 := conv3 (P := Tryd.prog) 52 9 5 Tryd.underlying52 Tryd.underlying5 Tryd.underlying9
  have e1 : bits BinOp.or IntKind.i64 224 (r / 4096) = 224 + r / 4096 := i64_join 5 224 (r / 4096) (by omega) (by omega) (by omega) (by omega) (by omega) (by omega)
  rcases h' with h' | h'
  all_goals
    go_enter Tryd.func83, Tryd.ntmps83
    go_wp2_with (go_at_call 93; refine (more_any _ _ (by omega) (by omega)).mono ?_; rintro e w' ⟨rfl, rfl⟩)
    go_ret
    exact ⟨rfl, (Below.refl _ _).alloc (Nat.le_refl _) _⟩
theorem put_4 (r : Int) (w : World) (h0 : 65536 ≤ r) (h : r ≤ 1114111) : Calls Tryd.prog 83 #[.int .i64 r] w fun e w' => e = .returned (.string (strOfNums [240 + r / 262144, 128 + r / 4096 % 64, 128 + r / 64 % 64, 128 + r % 64])) ∧ Below w.heap.size w w' := by
  have c1 := conv4 (P := Tryd.prog) 52 9 5 Tryd.underlying52 Tryd.underlying5 Tryd.underlying9
  have e1 : bits BinOp.or IntKind.i64 240 (r / 262144) = 240 + r / 262144 := i64_join 4 240 (r / 262144) (by omega) (by omega) (by omega) (by omega) (by omega) (by omega)
  go_enter Tryd.func83, Tryd.ntmps83
  go_wp2_with (go_at_call 93; refine (more_any _ _ (by omega) (by omega)).mono ?_; rintro e w' ⟨rfl, rfl⟩)
  go_ret
  exact ⟨rfl, (Below.refl _ _).alloc (Nat.le_refl _) _⟩
theorem put_any (r : Int) (w : World) : Calls Tryd.prog 83 #[.int .i64 r] w fun e w' => e = .returned (.string (put r)) ∧ Below w.heap.size w w' := by
  unfold put putN
  split
  · rename_i h
    rcases h with h | h | h
    · exact put_0 r w h
    · exact put_0' r w h
    · exact put_0'' r w h.1 h.2
  · split
    · exact put_1 r w (by omega) (by omega)
    · split
      · exact put_2 r w (by omega) (by omega)
      · split
        · exact put_3 r w (by omega) (by omega) (by omega)
        · exact put_4 r w (by omega) (by omega)
theorem size_any (c : Int) (w : World) (h0 : 0 ≤ c) (h : c < 256) : Calls Tryd.prog 85 #[.int .u8 c] w fun e w' => e = .returned (.tuple #[.int .i64 (sizeN c).1, .int .i64 (sizeN c).2]) ∧ w = w' := by
  have a1 := u8_and31 c h0 h
  have a2 := u8_and15 c h0 h
  have a3 := u8_and7 c h0 h
  go_enter Tryd.func85, Tryd.ntmps85
  go_wp2
  all_goals
    go_ret2
    refine ⟨ret2 ?_ ?_, rfl⟩ <;> (unfold sizeN; repeat' split) <;> first | rfl | omega
end Go.Proofs.YthbjehbpanhdoaaDoor
/-! The walks of package utf8, Get. -/
namespace Go.Proofs.YthbjehbpanhdoaaDoor
open Go.RowKit Go.PlainAid
set_option linter.unusedVariables false
set_option linter.unusedSimpArgs false
theorem acc_succ (s : ByteArray) (k : Nat) (r : Int) (i : Nat) (h : 1 ≤ i) : acc s k r (i + 1 - 1) = acc s k r (i - 1) * 64 + bt s (k + i) % 64 := by
  obtain ⟨j, rfl⟩ : ∃ j, i = j + 1 := ⟨i - 1, by omega⟩
  rfl
theorem acc_or (a b : Int) (h0 : 0 ≤ a) (h1 : a < 67108864) (h2 : 0 ≤ b) : bits BinOp.or IntKind.i64 (a * 64) (b % 64) = a * 64 + b % 64 := i64_join 6 _ _ (by omega) (by omega) (by omega) (by omega) (by omega) (by omega)
theorem below_drew1 {w w1 : World} (h : Below w.drew.heap.size w.drew w1) : Below w.heap.size w w1 := ((Below.refl _ _).drew).trans h
/-- What Get's walk ends in. -/
def GetEnd (v : Int × Int) (w : World) (e : Ending) (w' : World) : Prop := e = .returned (.tuple #[.int .i64 v.1, .int .i64 v.2]) ∧ Below w.heap.size w w'
def SizeAt (c n r : Int) : Prop := ∀ w, Calls Tryd.prog 85 #[.int .u8 c] w fun e w' => e = .returned (.tuple #[.int .i64 n, .int .i64 r]) ∧ w = w'
theorem get_none (s : ByteArray) (k : Nat) (n : Nat) (r : Int) (w : World) (hs : s.size ≤ 9223372036854775807) (h : k < s.size) (hsz : SizeAt (bt s k) n r) (hn : n ≤ 4) (hc : n = 0 ∨ s.size < k + n) :
    Calls Tryd.prog 75 #[.string s, .int .i64 k] w (GetEnd (-1, k) w) := by
  have hb := get_bt s
  rcases hc with hc | hc
  · subst hc
    go_enter Tryd.func75, Tryd.ntmps75
    go_wp2_with (go_at_call 85; refine (hsz _).mono ?_; rintro e w' ⟨rfl, rfl⟩)
    go_ret2
    exact ⟨rfl, Below.refl _ _⟩
  · go_enter Tryd.func75, Tryd.ntmps75
    go_wp2_with (go_at_call 85; refine (hsz _).mono ?_; rintro e w' ⟨rfl, rfl⟩)
    all_goals
      go_ret2
      exact ⟨rfl, Below.refl _ _⟩
theorem get_some (s : ByteArray) (k : Nat) (n : Nat) (r : Int) (w : World) (hs : s.size ≤ 9223372036854775807) (h : k < s.size) (hsz : SizeAt (bt s k) n r) (hn : n ≤ 4) (hn0 : 1 ≤ n) (hc : k + n ≤ s.size) (r0 : 0 ≤ r) (r1 : r < 256)
    (v : Int × Int) (ht : ((put (acc s k r (n - 1))).toList == (s.extract k (k + n)).toList) = true → v = (acc s k r (n - 1), (k : Int) + n)) (hf : ((put (acc s k r (n - 1))).toList == (s.extract k (k + n)).toList) = false → v = (-1, (k : Int))) :
    Calls Tryd.prog 75 #[.string s, .int .i64 k] w (GetEnd v w) := by
  have hb := get_bt s
  have HT := Lib.hid ht
  have HF := Lib.hid hf
  clear ht hf
  have hn1 : ((n : Int) == 0) = false := by rw [beq_eq_false_iff_ne]; omega
  go_enter Tryd.func75, Tryd.ntmps75
  go_wp2_with (go_at_call 85; refine (hsz _).mono ?_; rintro e w' ⟨rfl, rfl⟩)
  go_loop [4, 7] (fun q i => ∃ j : Nat, 1 ≤ j ∧ j ≤ n ∧ i = .int .i64 j ∧ q = .int .i64 (acc s k r (j - 1))) (fun _ i => n - (intOf i).toNat)
  case atStart => exact ⟨1, by omega, by omega, rfl, rfl⟩
  case round =>
    obtain ⟨j, j0, j1, rfl, rfl⟩ := hrel
    obtain ⟨a0, a1⟩ := acc_bound s k r r0 r1 (j - 1) (by omega)
    have b0 := bt_nonneg s (k + j)
    have b1 := bt_le s (k + j)
    have e1 := acc_or (acc s k r (j - 1)) (bt s (k + j)) a0 a1 b0
    have e2 := u8_and63 (bt s (k + j)) b0 (by omega)
    by_cases hlt : j < n
    · have E := Lib.hid (acc_succ s k r j j0)
      go_wp2
      go_round
      case rel => exact ⟨j + 1, by omega, by omega, by go_num, by rw [E.out]⟩
      case measure => simp [intOf]; omega
    · obtain rfl : n = j := by omega
      go_wp2
      have g1 : (k : Int) + n ≤ s.size := by omega
      have g2 : 0 ≤ (k : Int) + n := by omega
      have g3 : (k : Int) ≤ (k : Int) + n := by omega
      have g4 : ((k : Int) + n).toNat = k + n := by omega
      have g0 : IntKind.i64.wrap ((k : Int) + n) = (k : Int) + n := IntWalk.i64_in _ (by omega)
      go_region_with (go_at_call 83; refine (put_any _ _).mono ?_; rintro e w1 ⟨rfl, hw1⟩)
      go_wp2
      all_goals
        rename_i hx
        go_ret2
        refine ⟨?_, below_drew1 hw1⟩
        first
          | (rw [HT.out (by simpa using hx)]; rfl)
          | (rw [HF.out (by simpa using hx)]; rfl)
theorem get_any (s : ByteArray) (k : Nat) (w : World) (hs : s.size ≤ 9223372036854775807) (h : k < s.size) : Calls Tryd.prog 75 #[.string s, .int .i64 k] w (GetEnd (getL s.toList k) w) := by
  have b0 := bt_nonneg s k
  have b1 := bt_le s k
  obtain ⟨n0, n1, r0, r1⟩ := sizeN_le (bt s k) b0 (by omega)
  obtain ⟨n, hn⟩ : ∃ n : Nat, (sizeN (bt s k)).1 = n := ⟨(sizeN (bt s k)).1.toNat, by omega⟩
  have hsz : SizeAt (bt s k) n (sizeN (bt s k)).2 := fun w => by rw [← hn]; exact size_any _ _ b0 (by omega)
  have e : sizeN (bt s k) = ((n : Int), (sizeN (bt s k)).2) := by rw [← hn]
  unfold getL decL
  by_cases hc : n = 0 ∨ s.size < k + n
  · rw [getW_none sizeN s k n _ h e hc]
    exact get_none s k n _ w hs h hsz (by omega) hc
  · rw [getW sizeN s k n _ h e (by omega) (by omega)]
    refine get_some s k n _ w hs h hsz (by omega) (by omega) (by omega) r0 r1 _ (fun ht => ?_) (fun hf => ?_)
    · rw [if_pos ht]
    · rw [hf]; rfl
def RCase (c : Int) (n : Nat) (m r : Int) : Prop := (n = 1 ∧ m = 1 ∧ r = c ∧ c < 192) ∨ (n = 2 ∧ m = 2 ∧ r = c % 32 ∧ 192 ≤ c ∧ c < 224) ∨ (n = 3 ∧ m = 3 ∧ r = c % 16 ∧ 224 ≤ c ∧ c < 240) ∨ (n = 4 ∧ m = 4 ∧ r = c % 8 ∧ 240 ≤ c)
end Go.Proofs.YthbjehbpanhdoaaDoor
/-! The walks of package utf8, Valid and Cut. -/
namespace Go.Proofs.YthbjehbpanhdoaaDoor
open Go.RowKit Go.PlainAid
set_option linter.unusedVariables false
set_option linter.unusedSimpArgs false
theorem toList_len (s : ByteArray) : s.toList.length = s.size := by rw [ByteArray.toList_eq]; simp
theorem drop_ne (s : ByteArray) (k : Nat) (h : k < s.size) : s.toList.drop k ≠ [] := by
  intro e
  have := congrArg List.length e
  rw [List.length_drop, toList_len] at this
  simp at this
  omega
def GetAt (f : Nat) (s : ByteArray) (k : Nat) (v : Int × Int) : Prop := ∀ w, Calls Tryd.prog f #[.string s, .int .i64 k] w (GetEnd v w)
def GetFn (f : Nat) : Prop := ∀ (s : ByteArray) (k : Nat), s.size ≤ 9223372036854775807 → k < s.size → GetAt f s k (getL s.toList k)
theorem get_fn : GetFn 75 := fun s k hs h w => get_any s k w hs h
theorem valid_any (s : ByteArray) (w : World) (hs : s.size ≤ 9223372036854775807) : Calls Tryd.prog 78 #[.string s] w fun e w' => e = .returned (.bool (validB s.toList)) ∧ Below w.heap.size w w' := by
  go_enter Tryd.func78, Tryd.ntmps78
  go_wp2
  go_loopw [3] (fun i wr => ∃ k : Nat, k ≤ s.size ∧ i = .int .i64 k ∧ Hid (validB (s.toList.drop k) = validB s.toList) ∧ Below w.heap.size w wr) (fun i _ => s.size - (intOf i).toNat)
  case atStart => exact ⟨0, by omega, rfl, rfl, Below.refl _ _⟩
  case round =>
    obtain ⟨k, hk, rfl, hv, hb⟩ := hrel
    by_cases hlt : k < s.size
    · have hz := Lib.hid (get_fn s k hs hlt)
      cases hd : decL (s.toList.drop k) with
      | none =>
        have HG : Hid (GetAt 75 s k (-1, k)) := by have := hz.out; unfold getL at this; rw [hd] at this; exact this
        have HN := Lib.hid (validB_none _ (drop_ne s k hlt) hd)
        clear hz hd
        go_wp2_with (go_at_call 75; refine (HG.out _).mono ?_; rintro e w1 ⟨rfl, hw1⟩)
        go_ret
        exact ⟨by rw [← hv.out, HN.out]; rfl, hb.trans (hw1.mono hb.size)⟩
      | some p =>
        obtain ⟨r, n⟩ := p
        have HG : Hid (GetAt 75 s k (r, k + n)) := by have := hz.out; unfold getL at this; rw [hd] at this; exact this
        have HN := Lib.hid (validB_some _ r n hd)
        obtain ⟨d1, d2, d3⟩ := dec_le _ r n hd
        rw [List.length_drop, toList_len] at d2
        have d4 : k + n ≤ s.size := by omega
        clear hz hd
        go_wp2_with (go_at_call 75; refine (HG.out _).mono ?_; rintro e w1 ⟨rfl, hw1⟩)
        go_roundw
        case rel => exact ⟨k + n, by omega, by go_num, by show _ = _; rw [← List.drop_drop, HN.out, hv.out], hb.trans (hw1.mono hb.size)⟩
        case measure => simp [intOf]; omega
    · obtain rfl : k = s.size := by omega
      have e0 : s.toList.drop s.size = [] := by rw [List.drop_eq_nil_iff, toList_len]; omega
      have E0 := Lib.hid e0
      clear e0
      go_wp2
      go_ret
      exact ⟨by rw [← hv.out, E0.out, validB_nil]; rfl, hb⟩
def cut (s : ByteArray) (n : Int) : ByteArray := s.extract 0 (cutL n.toNat s.toList)
end Go.Proofs.YthbjehbpanhdoaaDoor
/-! Words for memory: the guide's lemmas to copy (a slice that reads as a list, a block known whole, an append), and rows of flags. -/
namespace Go.Proofs.YthbjehbpanhdoaaDoor
open Go.RowKit
set_option linter.unusedVariables false
set_option linter.unusedSimpArgs false
theorem block_of_add (a : Addr) (n : Nat) : (a.add n).block = a.block := by unfold Addr.add; split <;> rfl
theorem add_of_add (a : Addr) (i j : Nat) : (a.add i).add j = a.add (i + j) := by
  unfold Addr.add
  by_cases hi : i = 0 <;> by_cases hj : j = 0 <;> simp [hi, hj, Nat.add_assoc]

def Reads (w : World) (B size : Nat) (A : Option Addr) (n : Nat) (xs : List Value) : Prop :=
  xs.length = n * size ∧ (0 < n → ∃ ad, A = some ad ∧ ad.block < B ∧ ∀ j u, xs[j]? = some u → w.cell? (ad.add j) = some u)

section
variable {w w' : World} {B B' size n : Nat} {A : Option Addr} {xs : List Value}
theorem Reads.none_ : Reads w B size A 0 [] := ⟨by simp, fun h => absurd h (by omega)⟩
theorem Reads.at_ {k : Nat} (h : Reads w B 1 A n xs) (hk : k < n) : ∃ ad u, A = some ad ∧ ad.block < B ∧ xs[k]? = some u ∧ w.cell? (ad.add k) = some u := by
  obtain ⟨ad, e, hb, hc⟩ := h.2 (by omega)
  have hl : k < xs.length := by have := h.1; omega
  exact ⟨ad, xs[k], e, hb, List.getElem?_eq_getElem hl, hc k _ (List.getElem?_eq_getElem hl)⟩
theorem Reads.keep (h : Reads w B size A n xs) (hk : ∀ p : Addr, p.block < B → w'.cell? p = w.cell? p) : Reads w' B size A n xs :=
  ⟨h.1, fun hn => by
    obtain ⟨ad, e, hb, hc⟩ := h.2 hn
    exact ⟨ad, e, hb, fun j u hu => (hk _ (by rw [block_of_add]; exact hb)).trans (hc j u hu)⟩⟩
theorem Reads.more (h : Reads w B size A n xs) (hB : B ≤ B') : Reads w B' size A n xs :=
  ⟨h.1, fun hn => by
    obtain ⟨ad, e, hb, hc⟩ := h.2 hn
    exact ⟨ad, e, by omega, hc⟩⟩
theorem Reads.below (h : Reads w B size A n xs) (hb : Below B w w') : Reads w' B size A n xs := h.keep fun _ hp => hb.cell hp
theorem Reads.drew (h : Reads w B size A n xs) : Reads w.drew B size A n xs := h
theorem Reads.drewN (h : Reads w B size A n xs) (k : Nat) : Reads (w.drewN k) B size A n xs := h
theorem Reads.alloc (h : Reads w B size A n xs) (hB : B ≤ w.heap.size) (o : Obj) : Reads (w.alloc o) B size A n xs := h.keep fun p hp => World.cell?_alloc_lt w o p (by omega)
theorem Reads.setCell (h : Reads w B size A n xs) {p : Addr} (hB : B ≤ p.block) (u : Value) : Reads (w.setCell p u) B size A n xs :=
  h.keep fun q hq => World.cell?_setCell_other w p q u (fun e => by subst e; omega)
theorem Reads.grown (h : Reads w B size A n xs) {row : Option Nat} (hg : w.grownBy w' row) (hB : B ≤ w.heap.size) (hr : ∀ g, row = some g → B ≤ g) : Reads w' B size A n xs :=
  h.keep fun p hp => World.cell?_of_block (hg.block p.block (by omega) (fun e => by have := hr _ e.symm; omega))
theorem Reads.cut (h : Reads w B size A n xs) {k cap : Nat} (hk : k ≤ n) (hc : n ≤ cap) :
    Reads w B size (if cap = k then A else A.map (·.add (k * size))) (n - k) (xs.drop (k * size)) := by
  refine ⟨by rw [List.length_drop, h.1, Nat.sub_mul], fun hn => ?_⟩
  obtain ⟨ad, rfl, hb, hcell⟩ := h.2 (by omega)
  rw [if_neg (by omega)]
  refine ⟨ad.add (k * size), rfl, by rw [block_of_add]; exact hb, fun j u hu => ?_⟩
  rw [add_of_add]
  exact hcell _ u (by rw [← hu, List.getElem?_drop])
end
def Blk (w : World) (g : Nat) (t : TypeId) (cs : Array Value) : Prop := w.heap[g]? = some (.cells cs t (0, 0))

section
variable {w w' : World} {g : Nat} {t : TypeId} {cs : Array Value}
theorem Blk.lt (h : Blk w g t cs) : g < w.heap.size := by
  rcases Nat.lt_or_ge g w.heap.size with hlt | hge
  · exact hlt
  · unfold Blk at h; rw [Array.getElem?_eq_none hge] at h; cases h
theorem Blk.cell (h : Blk w g t cs) (i : Nat) : w.cell? ⟨g, i, none⟩ = cs[i]? := cell_of_row w g i cs t (0, 0) h
theorem Blk.frozen (h : Blk w g t cs) (i : Nat) : w.frozen? ⟨g, i, none⟩ = false := by
  unfold Blk at h
  simp [World.frozen?, h]
theorem Blk.new (w : World) (t : TypeId) (cs : Array Value) : Blk (w.alloc (.cells cs t)) w.heap.size t cs := heap_alloc_new w _
theorem Blk.drew (h : Blk w g t cs) : Blk w.drew g t cs := h
theorem Blk.drewN (h : Blk w g t cs) (n : Nat) : Blk (w.drewN n) g t cs := h
theorem Blk.alloc (h : Blk w g t cs) (o : Obj) : Blk (w.alloc o) g t cs := (Below.heap_alloc w o g h.lt).trans h
theorem Blk.set_ (h : Blk w g t cs) (i : Nat) (u : Value) : Blk (w.setCell ⟨g, i, none⟩ u) g t (cs.setIfInBounds i u) := by
  unfold Blk at h ⊢
  simp [World.setCell, Array.getElem?_modify, h]
theorem Blk.far (h : Blk w g t cs) {p : Addr} (hp : g ≠ p.block) (u : Value) : Blk (w.setCell p u) g t cs := (Below.heap_setCell w p u g hp).trans h
theorem Blk.below {B : Nat} (h : Blk w g t cs) (hb : Below B w w') (hg : g < B) : Blk w' g t cs := (hb.block g hg).trans h
theorem Blk.grown {row : Option Nat} (h : Blk w g t cs) (hb : w.grownBy w' row) (hg : some g ≠ row) : Blk w' g t cs := (hb.block g h.lt hg).trans h
theorem Blk.ne_ {g' : Nat} {t' : TypeId} {cs' : Array Value} (h : Blk w g t cs) (h' : Blk w g' t' cs') (hne : t ≠ t') : g ≠ g' := by
  rintro rfl
  unfold Blk at h h'
  rw [h] at h'
  injection h' with h'
  injection h' with _ ht
  exact hne ht
end
section
variable {P : Program} (w : World)

theorem run_append_of_nil (base : Nat) (t ty e : TypeId) (i : TypeInfo) (size : Nat) (ht : P.underlying t = some (.slice e)) (hi : P.info? e = some i)
    (v : Value) (n : Nat) (xs : List Value) (hown : w.ownsRow base e size v n xs) (c : Nat) : (Builtin.append_ #[t, t] ty #[v, .slice none 0 c]).run P w = .ok v w := by
  rcases hown.2 with ⟨rfl, rfl⟩ | ⟨g, cap, cur, rfl, _, _, hnc, _⟩
  · simp [Builtin.append_, run_underlying ht, sizeOf, typeInfo, hi, Builtin.lenOf, Builtin.firstCells]
  · simp [Builtin.append_, run_underlying ht, sizeOf, typeInfo, hi, Builtin.lenOf, Builtin.firstCells, hnc, storeCells]

theorem run_append_any (base : Nat) (t ty e : TypeId) (i : TypeInfo) (z : Value) (size bytes : Nat) (ht : P.underlying t = some (.slice e)) (hi : P.info? e = some i) (hz : i.zero = some z)
    (hsize : i.size = size) (hby : i.bytes = bytes) (hzs : z.cells.size = size) (hsz : 0 < size)
    (v : Value) (n : Nat) (xs : List Value) (hown : w.ownsRow base e size v n xs)
    (B : Nat) (A : Option Addr) (m c : Nat) (news : List Value) (hr : Reads w B size A m news) (h1 : ∀ u ∈ news, u.oneCell' = true)
    (h63 : n + m ≤ maxLen) (hbytes : (n + m) * bytes ≤ 140737488355328) (hbase : base ≤ w.heap.size) :
    ∃ v' w', (Builtin.append_ #[t, t] ty #[v, .slice A m c]).run P w = .ok v' w' ∧ w'.ownsRow base e size v' (n + m) (xs ++ news) ∧ w.grownBy w' v.ownBlock ∧
      (v'.ownBlock = v.ownBlock ∨ v'.ownBlock = some w.heap.size) := by
  rcases A with _ | ad
  · have hm : m = 0 := by
      rcases Nat.eq_zero_or_pos m with h0 | h0
      · exact h0
      · obtain ⟨ad, h, _⟩ := hr.2 h0
        cases h
    subst hm
    have hn : news = [] := List.eq_nil_of_length_eq_zero (by simpa using hr.1)
    subst hn
    exact ⟨v, w, run_append_of_nil w base t ty e i size ht hi v n xs hown c, by simpa using hown, World.grownBy.refl w _, .inl rfl⟩
  · have hcells : ∀ j u, news[j]? = some u → w.cell? (ad.add j) = some u := by
      intro j u hu
      rcases Nat.eq_zero_or_pos m with h0 | h0
      · subst h0
        have hn : news = [] := List.eq_nil_of_length_eq_zero (by simpa using hr.1)
        subst hn
        simp at hu
      · obtain ⟨ad', h, _, hc⟩ := hr.2 h0
        injection h with h
        subst h
        exact hc j u hu
    obtain ⟨v', w', hrun, h2, h3, _, h5⟩ := run_append_own_at (P := P) w base t ty e i z size bytes ht hi hz hsize hby hzs hsz v n xs hown ad m c news hr.1 hcells h1 h63 hbytes hbase
    exact ⟨v', w', hrun, h2, h3, h5⟩

end

/-! rows told by a function -/
def rowV (n : Nat) (f : Nat → Value) : Array Value := ((List.range n).map f).toArray
end Go.Proofs.YthbjehbpanhdoaaDoor
/-! Rows of bytes that the call itself makes and appends to. -/
namespace Go.Proofs.YthbjehbpanhdoaaDoor
open Go.RowKit Go.PlainAid
set_option linter.unusedVariables false
set_option linter.unusedSimpArgs false
theorem u8Info : (Tryd.prog.info? 5).map (fun i => (i.zero, i.size, i.bytes)) = some (some (.int .u8 0), 1, 1) := by kernel_rfl
/-- the slice v, the call's own from block B on, holds the bytes zs -/
def OwnB (w : World) (B : Nat) (v : Value) (zs : List Int) : Prop := w.ownsRow B 5 1 v zs.length (zs.map (Value.int .u8))
theorem OwnB.nil (w : World) (B : Nat) : OwnB w B (.slice none 0 0) [] := World.ownsRow_nil w B 5 1
theorem OwnB.one (w : World) (B : Nat) (c : Int) (hB : B ≤ w.heap.size) : OwnB (w.alloc (.cells #[.int .u8 c] 5)) B (.slice (some ⟨w.heap.size, 0, none⟩) 1 1) [c] :=
  World.ownsRow_lit w #[.int .u8 c] 1 hB (by simp [maxLen]) (by simp)
theorem OwnB.alloc {w : World} {B : Nat} {v : Value} {zs : List Int} (h : OwnB w B v zs) (o : Obj) : OwnB (w.alloc o) B v zs := World.ownsRow.alloc h o
theorem OwnB.drew {w : World} {B : Nat} {v : Value} {zs : List Int} (h : OwnB w B v zs) : OwnB w.drew B v zs := h
theorem OwnB.form {w : World} {B : Nat} {v : Value} {zs : List Int} (h : OwnB w B v zs) : (∃ c, v = .slice none 0 c ∧ zs = []) ∨ ∃ g c, v = .slice (some ⟨g, 0, none⟩) zs.length c ∧ B ≤ g ∧ g < w.heap.size ∧ ∀ i, i < zs.length → w.cell? ⟨g, 0 + i, none⟩ = some (.int .u8 (zs.getD i 0)) := by
  rcases h.2 with ⟨rfl, hx⟩ | ⟨g, cap, cur, rfl, hb, hg, _⟩
  · exact .inl ⟨0, rfl, List.eq_nil_of_length_eq_zero hx⟩
  · refine .inr ⟨g, cap, rfl, hb, (Array.getElem?_eq_some_iff.1 hg).1, fun i hi => ?_⟩
    have := World.ownsRow.cells h (g := g) rfl i (.int .u8 (zs.getD i 0)) (by simp [List.getD, hi])
    have e : (⟨g, 0, none⟩ : Addr).add i = ⟨g, 0 + i, none⟩ := by unfold Addr.add; split <;> simp_all
    rw [e] at this
    exact this
theorem OwnB.conv {w : World} {B : Nat} {v : Value} {zs : List Int} (h : OwnB w B v zs) : (convert 52 9 v).run Tryd.prog w = .ok (.string (strOfNums zs)) w := by
  rcases h.form with ⟨c, rfl, rfl⟩ | ⟨g, c, rfl, _, _, hc⟩
  · exact run_convert_bytes_nil w 52 5 Tryd.underlying52 Tryd.underlying5 0 c 9 Tryd.underlying9
  · exact run_convert_bytes_arg w 52 5 Tryd.underlying52 Tryd.underlying5 g 0 zs.length c zs rfl hc 9 Tryd.underlying9
/-- a row of bytes that is written in place -/
def RowF (w : World) (g n : Nat) (f : Nat → Int) : Prop := ∀ j, j < n → w.cell? ⟨g, j, none⟩ = some (.int .u8 (f j)) ∧ w.frozen? ⟨g, j, none⟩ = false
theorem RowF.set {w : World} {g n : Nat} {f : Nat → Int} (h : RowF w g n f) (k : Nat) (x : Int) : RowF (w.setCell ⟨g, k, none⟩ (.int .u8 x)) g n fun j => if j = k then x else f j := fun j hj => by
  obtain ⟨h1, h2⟩ := h j hj
  refine ⟨?_, by rw [World.frozen?_setCell]; exact h2⟩
  by_cases e : j = k
  · subst e
    rw [World.cell?_setCell_same _ _ _ h1]
    simp
  · rw [World.cell?_setCell_other _ _ _ _ (by intro e'; injection e' with _ e2; exact e e2.symm), h1]
    simp [e]
theorem RowF.conv {w : World} {g n : Nat} {f : Nat → Int} (h : RowF w g n f) (c : Nat) : (convert 52 9 (.slice (some ⟨g, 0, none⟩) n c)).run Tryd.prog w = .ok (.string (strOfNums ((List.range n).map f))) w := by
  refine run_convert_bytes_arg w 52 5 Tryd.underlying52 Tryd.underlying5 g 0 n c _ (by simp) (fun i hi => ?_) 9 Tryd.underlying9
  rw [Nat.zero_add, (h i hi).1]
  simp [List.getD, hi]
end Go.Proofs.YthbjehbpanhdoaaDoor
/-! A text builder in a writer of the call's own: its methods' contracts. -/
namespace Go.Proofs.YthbjehbpanhdoaaDoor
open Go.RowKit
set_option linter.unusedVariables false
set_option linter.unusedSimpArgs false
/-- what a writing method leaves as it was -/
def Kept (B b : Nat) (w w' : World) : Prop := Below B w w' ∧ Lib.OthersKept 5 (some b) w w'
theorem Kept.refl (B b : Nat) (w : World) : Kept B b w w := ⟨Below.refl _ _, Lib.OthersKept.refl _ _ _⟩
theorem Kept.trans {B b : Nat} {w w1 w2 : World} (h : Kept B b w w1) (k : Kept B b w1 w2) : Kept B b w w2 := ⟨h.1.trans k.1, h.2.trans k.2⟩
theorem bldLt {w : World} {b : Nat} {o : Obj} (h : w.heap[b]? = some o) : b < w.heap.size := (Array.getElem?_eq_some_iff.1 h).1
end Go.Proofs.YthbjehbpanhdoaaDoor
/-! The walk of the writer's text. -/
namespace Go.Proofs.YthbjehbpanhdoaaDoor
open Go.RowKit Go.PlainAid
set_option linter.unusedVariables false
set_option linter.unusedSimpArgs false
def hexU (k : Nat) : UInt8 := ([48, 49, 50, 51, 52, 53, 54, 55, 56, 57, 97, 98, 99, 100, 101, 102] : List UInt8).getD k 0
def escU (c : UInt8) : List UInt8 :=
  if c = 34 ∨ c = 92 then [92, c] else if 32 ≤ c.toNat then [c] else if c = 8 then [92, 98] else if c = 9 then [92, 116] else if c = 10 then [92, 110] else if c = 12 then [92, 102] else if c = 13 then [92, 114]
  else [92, 117, 48, 48, hexU (c.toNat / 16), hexU (c.toNat % 16)]
def quoteU (t : List UInt8) : List UInt8 := [34] ++ t.flatMap escU ++ [34]
theorem escU_le (c : UInt8) : (escU c).length ≤ 6 := by
  unfold escU
  repeat' split
  all_goals simp
abbrev hexS : ByteArray := ⟨#[48, 49, 50, 51, 52, 53, 54, 55, 56, 57, 97, 98, 99, 100, 101, 102]⟩
theorem wraps_u8 (n : Int) (h₀ : 0 ≤ n) (h₁ : n < 2 ^ 8) : IntKind.u8.wrap n = n := by rw [IntKind.wrap_u8]; omega
end Go.Proofs.YthbjehbpanhdoaaDoor
/-! Values of JSON: as plain data, and as they lie in memory. -/
namespace Go.Proofs.YthbjehbpanhdoaaDoor
open Go.RowKit
set_option linter.unusedVariables false
set_option linter.unusedSimpArgs false
inductive Nd where
  | mk (kind num : Int) (text : ByteArray) (keys : List ByteArray) (kids : List Nd)
/-- how many nodes there are -/
def Nd.count : Nd → Nat
  | .mk _ _ _ _ ns => 1 + counts ns
where counts : List Nd → Nat
  | [] => 0
  | n :: ns => n.count + counts ns
theorem Nd.count_pos (n : Nd) : 0 < n.count := by cases n; simp only [Nd.count]; omega
theorem Nd.counts_get (ns : List Nd) (i : Nat) (n : Nd) (h : ns[i]? = some n) : n.count ≤ Nd.count.counts ns := by
  induction ns generalizing i with
  | nil => simp at h
  | cons a ns ih =>
    cases i with
    | zero => simp at h; subst h; simp only [Nd.count.counts]; omega
    | succ i => have := ih i (by simpa using h); simp only [Nd.count.counts]; omega
def I64 (n : Int) : Prop := -9223372036854775808 ≤ n ∧ n ≤ 9223372036854775807
mutual
/-- these five cells are this node -/
def NdIs (w : World) (B : Nat) : Nd → List Value → Prop
  | .mk k n t ks ns, cs => ∃ (A : Option Addr) (ck : Nat) (A2 : Option Addr) (c : Nat) (xs : List Value), cs = [.int .i64 k, .int .i64 n, .string t, .slice A ks.length ck, .slice A2 ns.length c] ∧
      Reads w B 1 A ks.length (ks.map Value.string) ∧ Reads w B 5 A2 ns.length xs ∧ NdsIs w B ns xs ∧
      I64 k ∧ I64 n ∧ t.size ≤ maxLen ∧ (∀ s ∈ ks, s.size ≤ maxLen) ∧ ks.length ≤ maxLen ∧ ns.length ≤ maxLen
def NdsIs (w : World) (B : Nat) : List Nd → List Value → Prop
  | [], xs => xs = []
  | n :: ns, xs => ∃ cs ys, xs = cs ++ ys ∧ NdIs w B n cs ∧ NdsIs w B ns ys
end
mutual
theorem NdIs.keep {w w' : World} {B : Nat} (hk : ∀ p : Addr, p.block < B → w'.cell? p = w.cell? p) : ∀ (n : Nd) (cs : List Value), NdIs w B n cs → NdIs w' B n cs
  | .mk k m t ks ns, cs, h => by
    unfold NdIs at h ⊢
    obtain ⟨A, ck, A2, c, xs, h1, h2, h3, h4, h5⟩ := h
    exact ⟨A, ck, A2, c, xs, h1, h2.keep hk, h3.keep hk, NdsIs.keep hk ns xs h4, h5⟩
theorem NdsIs.keep {w w' : World} {B : Nat} (hk : ∀ p : Addr, p.block < B → w'.cell? p = w.cell? p) : ∀ (ns : List Nd) (xs : List Value), NdsIs w B ns xs → NdsIs w' B ns xs
  | [], xs, h => by unfold NdsIs at h ⊢; exact h
  | n :: ns, xs, h => by
    unfold NdsIs at h ⊢
    obtain ⟨cs, ys, h1, h2, h3⟩ := h
    exact ⟨cs, ys, h1, NdIs.keep hk n cs h2, NdsIs.keep hk ns ys h3⟩
end
mutual
theorem NdIs.more {w : World} {B B' : Nat} (hB : B ≤ B') : ∀ (n : Nd) (cs : List Value), NdIs w B n cs → NdIs w B' n cs
  | .mk k m t ks ns, cs, h => by
    unfold NdIs at h ⊢
    obtain ⟨A, ck, A2, c, xs, h1, h2, h3, h4, h5⟩ := h
    exact ⟨A, ck, A2, c, xs, h1, h2.more hB, h3.more hB, NdsIs.more hB ns xs h4, h5⟩
theorem NdsIs.more {w : World} {B B' : Nat} (hB : B ≤ B') : ∀ (ns : List Nd) (xs : List Value), NdsIs w B ns xs → NdsIs w B' ns xs
  | [], xs, h => by unfold NdsIs at h ⊢; exact h
  | n :: ns, xs, h => by
    unfold NdsIs at h ⊢
    obtain ⟨cs, ys, h1, h2, h3⟩ := h
    exact ⟨cs, ys, h1, NdIs.more hB n cs h2, NdsIs.more hB ns ys h3⟩
end
theorem NdIs.below {w w' : World} {B : Nat} {n : Nd} {cs : List Value} (h : NdIs w B n cs) (hb : Below B w w') : NdIs w' B n cs := NdIs.keep (fun p hp => hb.cell hp) n cs h
theorem NdIs.len {w : World} {B : Nat} {n : Nd} {cs : List Value} (h : NdIs w B n cs) : cs.length = 5 := by
  cases n
  unfold NdIs at h
  obtain ⟨A, ck, A2, c, xs, rfl, _⟩ := h
  rfl
/-- the i-th of nodes that lie one behind the other -/
theorem NdsIs.at_ {w : World} {B : Nat} : ∀ (ns : List Nd) (xs : List Value) (i : Nat) (n : Nd), NdsIs w B ns xs → ns[i]? = some n → ∃ cs, NdIs w B n cs ∧ ∀ j, j < 5 → xs[i * 5 + j]? = cs[j]?
  | [], xs, i, n, h, hi => by simp at hi
  | a :: ns, xs, i, n, h, hi => by
    unfold NdsIs at h
    obtain ⟨cs, ys, rfl, h2, h3⟩ := h
    have hl := h2.len
    cases i with
    | zero =>
      simp at hi; subst hi
      exact ⟨cs, h2, fun j hj => by rw [Nat.zero_mul, Nat.zero_add, List.getElem?_append_left (by omega)]⟩
    | succ i =>
      obtain ⟨cs', k1, k2⟩ := NdsIs.at_ ns ys i n h3 (by simpa using hi)
      refine ⟨cs', k1, fun j hj => ?_⟩
      rw [← k2 j hj, List.getElem?_append_right (by omega)]
      congr 1
      omega
end Go.Proofs.YthbjehbpanhdoaaDoor
/-! The walks of weight and Great. -/
namespace Go.Proofs.YthbjehbpanhdoaaDoor
open Go.RowKit
set_option linter.unusedVariables false
set_option linter.unusedSimpArgs false
def tooLong : List ByteArray → Bool
  | [] => false
  | s :: l => decide (2000 < s.size) || tooLong l
mutual
def weightN : Nd → Int → Int
  | .mk _ _ t ks ns, deep => if 40 < deep ∨ 2000 < t.size ∨ 300 < ks.length ∨ 300 < ns.length then 3000 else if tooLong ks = true then 3000 else weightL ns (deep + 1) 1
def weightL : List Nd → Int → Int → Int
  | [], _, acc => acc
  | n :: ns, deep, acc => if acc < 3000 then weightL ns deep (acc + weightN n deep) else acc
end
def IntBelow (v : Int) (w : World) (e : Ending) (w' : World) : Prop := e = .returned (.int .i64 v) ∧ Below w.heap.size w w'
def WeightIn (vs : Array Value) (deep v : Int) (w' : World) : Prop := Calls Tryd.prog 18 #[.agg vs, .int .i64 deep] w' (IntBelow v w')
/-- one string of a slice of strings -/
theorem Reads.str {w : World} {B : Nat} {A : Option Addr} {ks : List ByteArray} (h : Reads w B 1 A ks.length (ks.map Value.string)) {i : Nat} (hi : i < ks.length) : ∃ ad s, A = some ad ∧ ad.block < B ∧ ks[i]? = some s ∧ w.cell? (ad.add i) = some (.string s) := by
  obtain ⟨ad, u, e, hb, hu, hc⟩ := h.at_ hi
  rw [List.getElem?_map] at hu
  cases hk : ks[i]? with
  | none => rw [hk] at hu; simp at hu
  | some s =>
    rw [hk] at hu
    simp at hu
    subst hu
    exact ⟨ad, s, e, hb, rfl, hc⟩
/-- one node of a slice of nodes -/
theorem Reads.nd {w : World} {B : Nat} {A : Option Addr} {ns : List Nd} {xs : List Value} (h : Reads w B 5 A ns.length xs) (hs : NdsIs w B ns xs) {i : Nat} (hi : i < ns.length) :
    ∃ ad n v0 v1 v2 v3 v4, A = some ad ∧ ad.block < B ∧ ns[i]? = some n ∧ NdIs w B n [v0, v1, v2, v3, v4] ∧ w.cell? (ad.add (i * 5)) = some v0 ∧ w.cell? ⟨(ad.add (i * 5)).block, (ad.add (i * 5)).off + 1, none⟩ = some v1 ∧ w.cell? ⟨(ad.add (i * 5)).block, (ad.add (i * 5)).off + 2, none⟩ = some v2 ∧
      w.cell? ⟨(ad.add (i * 5)).block, (ad.add (i * 5)).off + 3, none⟩ = some v3 ∧ w.cell? ⟨(ad.add (i * 5)).block, (ad.add (i * 5)).off + 4, none⟩ = some v4 := by
  obtain ⟨ad, e, hb, hc⟩ := h.2 (by omega)
  obtain ⟨cs, h1, h2⟩ := NdsIs.at_ ns xs i ns[i] hs (List.getElem?_eq_getElem hi)
  have hl := h1.len
  match cs, hl with
  | [v0, v1, v2, v3, v4], _ =>
    have g : ∀ j u, j < 5 → [v0, v1, v2, v3, v4][j]? = some u → w.cell? ((ad.add (i * 5)).add j) = some u := fun j u hj hu => by
      rw [add_of_add]; exact hc _ _ ((h2 j hj).trans hu)
    have g0 := g 0 v0 (by omega) rfl
    rw [show (ad.add (i * 5)).add 0 = ad.add (i * 5) by simp [Addr.add]] at g0
    exact ⟨ad, ns[i], v0, v1, v2, v3, v4, e, hb, List.getElem?_eq_getElem hi, h1, g0, g 1 v1 (by omega) rfl, g 2 v2 (by omega) rfl, g 3 v3 (by omega) rfl, g 4 v4 (by omega) rfl⟩
end Go.Proofs.YthbjehbpanhdoaaDoor
/-! The walks of Great and the reference's Same. -/
namespace Go.Proofs.YthbjehbpanhdoaaDoor
open Go.RowKit
set_option linter.unusedVariables false
set_option linter.unusedSimpArgs false
def greatN (n : Nd) : Bool := decide (2000 < weightN n 0)
def BoolBel (b : Bool) (w : World) (e : Ending) (w' : World) : Prop := e = .returned (.bool b) ∧ Below w.heap.size w w'
mutual
def sameN : Nd → Nd → Bool
  | .mk k n t ks ns, .mk k' n' t' ks' ns' => k == k' && n == n' && t.toList == t'.toList && ks.length == ks'.length && ns.length == ns'.length && sameK ks ks' && sameL ns ns'
def sameL : List Nd → List Nd → Bool
  | [], _ => true
  | _ :: _, [] => true
  | n :: ns, m :: ms => sameN n m && sameL ns ms
def sameK : List ByteArray → List ByteArray → Bool
  | [], _ => true
  | _ :: _, [] => true
  | a :: l, b :: m => a.toList == b.toList && sameK l m
end
def SameIn (vs vs' : Array Value) (b : Bool) (w' : World) : Prop := Calls Tryd.prog 11 #[.agg vs, .agg vs'] w' (BoolBel b w')
end Go.Proofs.YthbjehbpanhdoaaDoor
/-! The walks of slices.Equal, slices.EqualFunc and canon's Same. -/
namespace Go.Proofs.YthbjehbpanhdoaaDoor
open Go.RowKit
set_option linter.unusedVariables false
set_option linter.unusedSimpArgs false
theorem NdIs.form {w : World} {B : Nat} {n : Nd} {v0 v1 v2 v3 v4 : Value} (h : NdIs w B n [v0, v1, v2, v3, v4]) : ∃ (k m : Int) (t : ByteArray) (A : Option Addr) (a c : Nat) (A2 : Option Addr) (b d : Nat),
    v0 = .int .i64 k ∧ v1 = .int .i64 m ∧ v2 = .string t ∧ v3 = .slice A a c ∧ v4 = .slice A2 b d := by
  cases n
  unfold NdIs at h
  obtain ⟨A, ck, A2, c, xs, h1, _⟩ := h
  simp only [List.cons.injEq, and_true] at h1
  obtain ⟨rfl, rfl, rfl, rfl, rfl⟩ := h1
  exact ⟨_, _, _, _, _, _, _, _, _, rfl, rfl, rfl, rfl, rfl⟩
end Go.Proofs.YthbjehbpanhdoaaDoor
/-! Plain functions: what package text computes. -/
namespace Go.Proofs.YthbjehbpanhdoaaDoor
open Go.RowKit Go.PlainAid
set_option linter.unusedVariables false
set_option linter.unusedSimpArgs false
def foldN (c : Int) : Int := if 65 ≤ c ∧ c ≤ 90 then c + 32 else c
def foldZ (s : ByteArray) (n : Nat) : List Int := (List.range n).map fun j => foldN (bt s j)
def foldS (s : ByteArray) : ByteArray := strOfNums (foldZ s s.size)
/-- a number in decimal digits -/
def digS (n : Int) : ByteArray := ⟨(Lib.itoa (max n 0)).toArray⟩
/-- the number that digits are -/
def numZ (s : ByteArray) : Nat → Int
  | 0 => 0
  | i + 1 => numZ s i * 10 + (bt s i - 48)
def digitsB (s : ByteArray) : Nat → Bool
  | 0 => true
  | i + 1 => digitsB s i && (decide (48 ≤ bt s i) && decide (bt s i ≤ 57))
def numB (s : ByteArray) : Int × Bool :=
  if s.size = 0 ∨ 10 < s.size ∨ (bt s 0 = 48 ∧ 1 < s.size) then (0, false)
  else if digitsB s s.size = false then (0, false) else if 4294967295 < numZ s s.size then (0, false) else (numZ s s.size, true)
theorem numZ_bound (s : ByteArray) : ∀ i, i ≤ 10 → digitsB s i = true → 0 ≤ numZ s i ∧ numZ s i < 10 ^ i := by
  intro i
  induction i with
  | zero => intro _ _; simp [numZ]
  | succ i ih =>
    intro hi hd
    simp only [digitsB, Bool.and_eq_true, decide_eq_true_eq] at hd
    obtain ⟨h1, h2, h3⟩ := hd
    have := ih (by omega) h1
    simp only [numZ]
    rw [show (10 : Int) ^ (i + 1) = 10 ^ i * 10 from Int.pow_succ ..]
    omega
theorem numZ_small (s : ByteArray) (i : Nat) (hi : i ≤ 10) (hd : digitsB s i = true) : 0 ≤ numZ s i ∧ numZ s i < 10000000000 := by
  have h := numZ_bound s i hi hd
  have hp := Nat.pow_le_pow_right (n := 10) (by omega) hi
  have : (10 : Int) ^ i ≤ 10 ^ 10 := by exact_mod_cast hp
  omega
def atomCh (c : Int) : Bool := decide (33 ≤ c) && decide (c ≤ 126) && !(c == 40 || c == 41 || c == 123 || c == 125 || c == 37 || c == 42 || c == 34 || c == 92 || c == 93)
def atomsB (s : ByteArray) : Nat → Bool
  | 0 => true
  | i + 1 => atomsB s i && atomCh (bt s i)
def atomB (s : ByteArray) : Bool := atomsB s s.size && !(s.size == 0)
def plainsB (s : ByteArray) : Nat → Bool
  | 0 => true
  | i + 1 => plainsB s i && (decide (32 ≤ bt s i) && decide (bt s i ≤ 126))
def plainB (s : ByteArray) : Bool := plainsB s s.size && decide (s.size ≤ 200)
def escN (c : Int) : List Int := if c = 34 ∨ c = 92 then [92, c] else [c]
def escZ (s : ByteArray) : Nat → List Int
  | 0 => [34]
  | i + 1 => escZ s i ++ escN (bt s i)
def strS (s : ByteArray) : ByteArray := if plainB s = true then strOfNums (escZ s s.size ++ [34]) else ⟨#[123]⟩ ++ digS s.size ++ ⟨#[125, 13, 10]⟩ ++ s
end Go.Proofs.YthbjehbpanhdoaaDoor
/-! The walks of package text: Fold, both. -/
namespace Go.Proofs.YthbjehbpanhdoaaDoor
open Go.RowKit Go.PlainAid
set_option linter.unusedVariables false
set_option linter.unusedSimpArgs false
end Go.Proofs.YthbjehbpanhdoaaDoor
/-! The walks of package text: Digits, both. -/
namespace Go.Proofs.YthbjehbpanhdoaaDoor
open Go.RowKit Go.PlainAid
set_option linter.unusedVariables false
set_option linter.unusedSimpArgs false
theorem ba_ext' {a b : ByteArray} (h : a.toList = b.toList) : a = b := by
  rw [ByteArray.toList_eq, ByteArray.toList_eq] at h
  exact ByteArray.ext (Array.toList_inj.1 h)
theorem nums_toList (l : List Int) : (strOfNums l).toList = l.map fun n => UInt8.ofNat n.toNat := by rw [ByteArray.toList_eq]; exact strOfNums_data l
end Go.Proofs.YthbjehbpanhdoaaDoor
/-! The walks of the writer's node and kids. -/
namespace Go.Proofs.YthbjehbpanhdoaaDoor
open Go.RowKit Go.PlainAid
set_option linter.unusedVariables false
set_option linter.unusedSimpArgs false
mutual
/-- what a writer holds behind a node, given what it holds ahead of it -/
def outN : Nd → List UInt8 → List UInt8
  | .mk k num t ks ns, acc =>
    if 65536 < acc.length then acc else if k = 1 then acc ++ [110, 117, 108, 108] else if k = 2 then acc ++ [102, 97, 108, 115, 101] else if k = 3 then acc ++ [116, 114, 117, 101]
    else if k = 4 then acc ++ Lib.itoa num else if k = 5 then acc ++ quoteU t.toList else if k = 6 then outL (k == 7) ks ns true (acc ++ [91]) ++ [93] else outL (k == 7) ks ns true (acc ++ [123]) ++ [125]
def outL : Bool → List ByteArray → List Nd → Bool → List UInt8 → List UInt8
  | _, _, [], _, acc => acc
  | obj, ks, n :: ns, first, acc => outL obj ks.tail ns false (outN n ((if first = true then acc else acc ++ [44]) ++ (if obj = true then quoteU (ks.headD ⟨#[]⟩).toList ++ [58] else [])))
end
mutual
/-- how much a node may add at most -/
def gN : Nd → Nat
  | .mk _ _ t ks ns => 40 + 6 * t.size + gL ks ns
def gL : List ByteArray → List Nd → Nat
  | _, [] => 0
  | ks, n :: ns => 10 + 6 * (ks.headD ⟨#[]⟩).size + gN n + gL ks.tail ns
end
theorem tl_len' (s : ByteArray) : s.toList.length = s.size := by rw [ByteArray.toList_eq]; simp
mutual
/-- an object has as many keys as kids, and a number that an int64 holds, at every depth -/
def goodN : Nd → Prop
  | .mk k num t ks ns => (-9223372036854775808 ≤ num ∧ num ≤ 9223372036854775807) ∧ (k = 7 → ks.length = ns.length) ∧ t.size ≤ 1000000000 ∧ (∀ s ∈ ks, s.size ≤ 1000000000) ∧ goodL ns
def goodL : List Nd → Prop
  | [] => True
  | n :: ns => goodN n ∧ goodL ns
end
end Go.Proofs.YthbjehbpanhdoaaDoor
/-! The walk of the writer's kids. -/
namespace Go.Proofs.YthbjehbpanhdoaaDoor
open Go.RowKit Go.PlainAid
set_option linter.unusedVariables false
set_option linter.unusedSimpArgs false
theorem Kept.alloc {B b : Nat} {w w' : World} (h : Kept B b w w') (hB : B ≤ w'.heap.size) (o : Obj) : Kept B b w (w'.alloc o) := ⟨h.1.alloc hB o, h.2.alloc o⟩
theorem Kept.blk {B b : Nat} {w w' : World} (h : Kept B b w w') {x : Nat} {cs : Array Value} (hx : Blk w x 25 cs) (hne : x ≠ b) : Blk w' x 25 cs :=
  h.2 x _ hx (by intro e; injection e with e; exact hne e) (fun c fz e => by injection e with _ e2; exact absurd e2 (by decide))
theorem Kept.reads {B b : Nat} {w w' : World} (h : Kept B b w w') {size n : Nat} {A : Option Addr} {xs : List Value} (hr : Reads w B size A n xs) : Reads w' B size A n xs := hr.keep fun p hp => h.1.cell hp
end Go.Proofs.YthbjehbpanhdoaaDoor
/-! The walk of the writer's node. -/
namespace Go.Proofs.YthbjehbpanhdoaaDoor
open Go.RowKit Go.PlainAid
set_option linter.unusedVariables false
set_option linter.unusedSimpArgs false
theorem Kept.old {B b : Nat} {w w' : World} (k : Below w.heap.size w w') (hB : B ≤ w.heap.size) : Kept B b w w' :=
  ⟨k.mono hB, fun i o hi _ _ => (k.block i (bldLt hi)).trans hi⟩
end Go.Proofs.YthbjehbpanhdoaaDoor
/-! Look-ups in a call's own map whose elements are bools. -/
namespace Go.Proofs.YthbjehbpanhdoaaDoor
open Go.RowKit Go.PlainAid
open Go.Maps (Keyed)
set_option linter.unusedVariables false
set_option linter.unusedSimpArgs false
theorem plainElem_bool_inv {H : Type} {P : Program} {e : TypeId} (he : P.underlying e = some .bool) {v : Value} {z : DataW H × List MemPlace} (h : plainElem P e v = some z) : ∃ x, v = .bool x ∧ z = (.lit (.bool x), []) := by
  unfold plainElem at h
  rw [he] at h
  cases v <;> simp at h
  exact ⟨_, rfl, h.symm⟩
theorem lookup_bool {H : Type} {P : Program} {w : World} {k t e : TypeId} {b n : Nat} {D : DataW H} (h : w.ownsMap P k (plainElem P e) b n D) (K : Keyed P k) (ht : P.underlying t = some (.map k e)) (he : P.underlying e = some .bool) (hz : (zeroValue e).run P w = .ok (.bool false) w)
    {key : Value} {kl : Lit} (hkey : keyOf P k key = some kl) : ∃ c, (Instr.lookup t (.map (some b)) key false).run P w = .ok (.bool c) w ∧ D.atKey kl (.lit (.bool false)) = .lit (.bool c) := by
  obtain ⟨v, ps, hrun, hv⟩ := h.lookup K ht hz (plainElem_bool he false) hkey
  obtain ⟨c, rfl, hc⟩ := plainElem_bool_inv he hv
  simp only [Prod.mk.injEq] at hc
  exact ⟨c, hrun, hc.1⟩
theorem wpList_lookup_own_bool {H : Type} {P : Program} (w : World) {ops : Array Oper} {rest : List Oper} {o : Oper} {a : Act} {Q : Exit → Act → World → Prop}
    (hg : o.guard = none) (m x : Operand) (t : TypeId) (hop : o.op = Op.lookup t m x false)
    (k e : TypeId) (K : Keyed P k) (ht : P.underlying t = some (.map k e)) (he : P.underlying e = some .bool) (hz : (zeroValue e).run P w = .ok (.bool false) w) (b n : Nat) (D : DataW H)
    (hm : a.eval m = .map (some b)) (hown : w.ownsMap P k (plainElem P e) b n D) (key : Value) (kl : Lit) (hx : a.eval x = key) (hkey : keyOf P k key = some kl)
    (hK : ∀ c : Bool, D.atKey kl (.lit (.bool false)) = .lit (.bool c) → wpList P ops Q rest (a.put o.dst (.bool c)) w) :
    wpList P ops Q (o :: rest) a w := by
  refine wpList_plain hg fun K' hK' => ?_
  obtain ⟨c, hrun, hat⟩ := lookup_bool hown K ht he hz hkey
  unfold Oper.wp
  simp [execOp, hop, hm, hx, hrun, Result.andThen]
  exact hK' _ _ (hK c hat)
end Go.Proofs.YthbjehbpanhdoaaDoor
/-! The walk of keys: whether an object's keys may be. -/
namespace Go.Proofs.YthbjehbpanhdoaaDoor
open Go.RowKit Go.PlainAid
open Go.Maps (Keyed)
open Go.ChangeMaps Go.MapKept
set_option linter.unusedVariables false
set_option linter.unusedSimpArgs false
open Classical in
/-- whether keys may be: unlike ones, each valid -/
noncomputable def keysB (ks : List ByteArray) : Bool := decide (ks.Nodup ∧ ∀ s ∈ ks, validB s.toList = true)
theorem keysB_twice {ks : List ByteArray} {i : Nat} {s : ByteArray} (hs : ks[i]? = some s) (hm : s ∈ ks.take i) : keysB ks = false := by
  unfold keysB
  refine decide_eq_false fun ⟨hn, _⟩ => ?_
  rw [← List.take_append_drop i ks, List.nodup_append] at hn
  refine hn.2.2 s hm s ?_ rfl
  rw [List.drop_eq_getElem_cons (List.getElem?_eq_some_iff.1 hs).1, (List.getElem?_eq_some_iff.1 hs).2]
  exact List.mem_cons_self
theorem keysB_bad {ks : List ByteArray} {i : Nat} {s : ByteArray} (hs : ks[i]? = some s) (hm : validB s.toList = false) : keysB ks = false := by
  unfold keysB
  refine decide_eq_false fun ⟨_, h⟩ => ?_
  rw [h s (List.mem_of_getElem? hs)] at hm
  cases hm
theorem take_snoc {α : Type} {l : List α} {i : Nat} {s : α} (hs : l[i]? = some s) : l.take (i + 1) = l.take i ++ [s] := by
  rw [List.take_add_one, hs]; rfl
theorem keyLaw : Keyed Tryd.prog 9 := Maps.string_keyed Tryd.underlying9
theorem zeroBool (w : World) : (zeroValue 4).run Tryd.prog w = .ok (.bool false) w := by kernel_rfl
open Classical in
/-- a map that holds just the keys of a list -/
def Seen (l : List ByteArray) (D : DataW Nat) : Prop := ∀ s : ByteArray, D.atKey (.string s.data.toList) (.lit (.bool false)) = .lit (.bool (decide (s ∈ l)))
theorem seen_nil : Seen [] (.map []) := fun s => by simp [DataW.atKey]
theorem seen_put {l : List ByteArray} {D : DataW Nat} (h : Seen l D) (hm : Maps.IsMap D) (s : ByteArray) : Seen (l ++ [s]) (D.put (.string s.data.toList) (.lit (.bool true))) := by
  intro u
  by_cases e : u = s
  · subst e
    rw [Maps.atKey_put_same hm (by trivial)]
    simp
  · have hne : (Lit.string u.data.toList) ≠ .string s.data.toList := by
      intro h
      injection h with h
      apply e
      cases u; cases s; simp at h; rw [h]
    rw [Maps.atKey_put_other hne, h u]
    simp [e]
set_option maxRecDepth 100000 in
set_option maxHeartbeats 1000000 in
theorem keys_any (ks : List ByteArray) (A : Option Addr) (ck B : Nat) (w : World) (hks : Reads w B 1 A ks.length (ks.map Value.string)) (hsz : ∀ s ∈ ks, s.size ≤ 9223372036854775807) (hl : ks.length ≤ 9223372036854775807) (hB : B ≤ w.heap.size) :
    Calls Tryd.prog 79 #[.slice A ks.length ck] w fun e w' => e = .returned (.bool (keysB ks)) ∧ Below w.heap.size w w' := by
  have hmm := @run_makeMap Tryd.prog
  have HKS := Lib.hid hks
  have HSZ := Lib.hid hsz
  clear hks hsz
  go_enter Tryd.func79, Tryd.ntmps79
  go_wp2
  go_loopw [9] (fun t wr => ∃ (i : Nat) (D : DataW Nat), i ≤ ks.length ∧ t = .int .i64 i ∧ wr.ownsMap Tryd.prog 9 (plainElem Tryd.prog 4) w.heap.size i D ∧ Hid (Seen (ks.take i) D) ∧ Hid ((ks.take i).Nodup ∧ ∀ s ∈ ks.take i, validB s.toList = true) ∧ Below w.heap.size w wr)
    (fun t _ => ks.length - (intOf t).toNat)
  case atStart => exact ⟨0, _, Nat.zero_le _, rfl, World.ownsMap_made _ _ _ _, seen_nil, by constructor <;> simp, (Below.refl _ _).alloc (Nat.le_refl _) _⟩
  case round =>
    obtain ⟨i, D, hi, rfl, hown, hsn, hgd, hbw⟩ := hrel
    obtain ⟨wo, rfl⟩ : ∃ wo : World, wo = wr := ⟨_, rfl⟩
    by_cases hlt : i < ks.length
    · obtain ⟨ad, s, rfl, hadb, hks, hc⟩ := (HKS.out.keep fun p hp => hbw.cell (by omega)).str hlt
      have hss := HSZ.out s (List.mem_of_getElem? hks)
      have hkey : keyOf Tryd.prog 9 (.string s) = some (.string s.data.toList) := WideMaps.keyOf_string_mk Tryd.underlying9 (by unfold maxLen; omega)
      have HAT := Lib.hid (hsn.out s)
      have HS := Lib.hid hks
      clear hks
      by_cases hm : s ∈ ks.take i
      · have hv := keysB_twice HS.out hm
        go_wp2_with (first
          | (at_lookup; refine wpList_lookup_own_bool _ rfl _ _ 108 rfl 9 4 keyLaw Tryd.underlying108 Tryd.underlying4 (zeroBool _) w.heap.size i _ rfl hown _ _ rfl hkey ?_; intro c hat; obtain rfl : c = true := by (have h1 := HAT.out; rw [hat] at h1; simpa [hm] using h1))
          | fail)
        go_ret
        exact ⟨by rw [hv]; rfl, hbw⟩
      · have HV := Lib.hid (valid_any s wo (by omega))
        cases hvb : validB s.toList with
        | false =>
          have hv := keysB_bad HS.out hvb
          go_wp2_with (first
            | (at_lookup; refine wpList_lookup_own_bool _ rfl _ _ 108 rfl 9 4 keyLaw Tryd.underlying108 Tryd.underlying4 (zeroBool _) w.heap.size i _ rfl hown _ _ rfl hkey ?_; intro c hat; obtain rfl : c = false := by (have h1 := HAT.out; rw [hat] at h1; simpa [hm] using h1))
            | fail)
          refine HV.out.mono ?_; rintro e w1 ⟨rfl, hw1⟩
          rw [hvb]
          go_wp2_with fail
          go_ret
          exact ⟨by rw [hv]; rfl, hbw.trans (hw1.mono hbw.size)⟩
        | true =>
          go_wp2_with (first
            | (at_lookup; refine wpList_lookup_own_bool _ rfl _ _ 108 rfl 9 4 keyLaw Tryd.underlying108 Tryd.underlying4 (zeroBool _) w.heap.size i _ rfl hown _ _ rfl hkey ?_; intro c hat; obtain rfl : c = false := by (have h1 := HAT.out; rw [hat] at h1; simpa [hm] using h1))
            | fail)
          refine HV.out.mono ?_; rintro e w1 ⟨rfl, hw1⟩
          rw [hvb]
          have hg : wo.grownBy w1 none := ⟨hw1.os, hw1.tape, hw1.output, hw1.size, fun k hk _ => hw1.block k hk⟩
          have hown1 := hown.kept hg (by simp)
          have hb1 : Below w.heap.size w w1 := hbw.trans (hw1.mono hbw.size)
          go_wp2_with (first
            | (at_mapUpdate; refine wpList_mapUpdate_own _ rfl _ _ _ 108 rfl 9 4 keyLaw Tryd.underlying108 _ w.heap.size i _ rfl hown1 (by unfold maxLen; omega) _ _ _ rfl rfl hkey _ [] (plainElem_bool Tryd.underlying4 true) ?_; intro w2 hown2 hgrow2)
            | fail)
          go_roundw
          case rel =>
            refine ⟨i + 1, _, by omega, by go_num, hown2, ?_, ?_, hb1.grown hgrow2 hb1.size (fun j hj => by cases hj; exact Nat.le_refl _)⟩
            · rw [take_snoc HS.out]; exact seen_put hsn.out hown1.isMap s
            · rw [take_snoc HS.out]
              refine ⟨?_, ?_⟩
              · rw [List.nodup_append]
                refine ⟨hgd.out.1, by simp, ?_⟩
                intro a ha b hb e
                simp at hb
                subst hb; subst e; exact hm ha
              · intro u hu
                rw [List.mem_append] at hu
                rcases hu with hu | hu
                · exact hgd.out.2 u hu
                · simp at hu; subst hu; exact hvb
          case measure => simp [intOf]; omega
    · have hik : i = ks.length := by omega
      have hv : keysB ks = true := by
        unfold keysB
        have h := hgd.out
        rw [List.take_of_length_le (by omega)] at h
        exact decide_eq_true h
      go_wp2_with fail
      go_ret
      exact ⟨by rw [hv]; rfl, hbw⟩
end Go.Proofs.YthbjehbpanhdoaaDoor
/-! The walk of bare. -/
namespace Go.Proofs.YthbjehbpanhdoaaDoor
open Go.RowKit Go.PlainAid
set_option linter.unusedVariables false
set_option linter.unusedSimpArgs false
def bareF (k num : Int) (t : ByteArray) (a b : Nat) : Bool := (k == 4 || num == 0) && (k == 5 || decide (t = ⟨#[]⟩)) && (k == 7 || a == 0) && (k == 6 || k == 7 || b == 0)
set_option maxRecDepth 100000 in
set_option maxHeartbeats 1000000 in
theorem bare_any (k num : Int) (t : ByteArray) (A A2 : Option Addr) (a b ck cc : Nat) (w : World) :
    Calls Tryd.prog 77 #[.agg #[.int .i64 k, .int .i64 num, .string t, .slice A a ck, .slice A2 b cc]] w fun e w' => e = .returned (.bool (bareF k num t a b)) ∧ Below w.heap.size w w' := by
  have hW := Below.refl w.heap.size w
  obtain ⟨V, hV⟩ : ∃ V, V = bareF k num t a b := ⟨_, rfl⟩
  rw [← hV]
  by_cases h4 : k = 4
  · subst h4
    by_cases ht : t = ⟨#[]⟩
    case neg =>
      have ht2 : decide (t = ⟨#[]⟩) = false := decide_eq_false ht
      have ht3 : ¬ t.toList = [] := fun h => ht (by cases t with | mk d => rw [ByteArray.toList_eq] at h; simp at h; rw [h])
      have ht4 : t.toList.isEmpty = false := by simp [ht3]
      have e : V = false := by rw [hV]; simp [bareF, *]
      clear hV
      go_enter Tryd.func77, Tryd.ntmps77
      go_wp2_with fail
      go_ret
      exact ⟨by rw [e]; first | rfl | (simp; done) | (simp; omega), hW.alloc hW.size _⟩
    have ht3 : t.toList = [] := by rw [ht, ByteArray.toList_eq]
    have ht4 : t.toList.isEmpty = true := by rw [ht3]; rfl
    by_cases ha : a = 0
    case neg =>
      have ha2 : decide ((a : Int) = 0) = false := by simp; omega
      have e : V = false := by rw [hV]; simp [bareF, *]
      clear hV
      go_enter Tryd.func77, Tryd.ntmps77
      go_wp2_with fail
      go_ret
      exact ⟨by rw [e]; first | rfl | (simp; done) | (simp; omega), hW.alloc hW.size _⟩
    subst ha
    by_cases hb : b = 0
    case neg =>
      have hb2 : decide ((b : Int) = 0) = false := by simp; omega
      have e : V = false := by rw [hV]; simp [bareF, *]
      clear hV
      go_enter Tryd.func77, Tryd.ntmps77
      go_wp2_with fail
      go_ret
      exact ⟨by rw [e]; first | rfl | (simp; done) | (simp; omega), hW.alloc hW.size _⟩
    subst hb
    have e : V = true := by rw [hV]; simp [bareF, *]
    clear hV
    go_enter Tryd.func77, Tryd.ntmps77
    go_wp2_with fail
    go_ret
    exact ⟨by rw [e]; first | rfl | (simp; done) | (simp; omega), hW.alloc hW.size _⟩
  by_cases h5 : k = 5
  · subst h5
    by_cases hn : num = 0
    case neg =>
      have e : V = false := by rw [hV]; simp [bareF, *]
      clear hV
      go_enter Tryd.func77, Tryd.ntmps77
      go_wp2_with fail
      go_ret
      exact ⟨by rw [e]; first | rfl | (simp; done) | (simp; omega), hW.alloc hW.size _⟩
    subst hn
    by_cases ha : a = 0
    case neg =>
      have ha2 : decide ((a : Int) = 0) = false := by simp; omega
      have e : V = false := by rw [hV]; simp [bareF, *]
      clear hV
      go_enter Tryd.func77, Tryd.ntmps77
      go_wp2_with fail
      go_ret
      exact ⟨by rw [e]; first | rfl | (simp; done) | (simp; omega), hW.alloc hW.size _⟩
    subst ha
    by_cases hb : b = 0
    case neg =>
      have hb2 : decide ((b : Int) = 0) = false := by simp; omega
      have e : V = false := by rw [hV]; simp [bareF, *]
      clear hV
      go_enter Tryd.func77, Tryd.ntmps77
      go_wp2_with fail
      go_ret
      exact ⟨by rw [e]; first | rfl | (simp; done) | (simp; omega), hW.alloc hW.size _⟩
    subst hb
    have e : V = true := by rw [hV]; simp [bareF, *]
    clear hV
    go_enter Tryd.func77, Tryd.ntmps77
    go_wp2_with fail
    go_ret
    exact ⟨by rw [e]; first | rfl | (simp; done) | (simp; omega), hW.alloc hW.size _⟩
  by_cases h6 : k = 6
  · subst h6
    by_cases hn : num = 0
    case neg =>
      have e : V = false := by rw [hV]; simp [bareF, *]
      clear hV
      go_enter Tryd.func77, Tryd.ntmps77
      go_wp2_with fail
      go_ret
      exact ⟨by rw [e]; first | rfl | (simp; done) | (simp; omega), hW.alloc hW.size _⟩
    subst hn
    by_cases ht : t = ⟨#[]⟩
    case neg =>
      have ht2 : decide (t = ⟨#[]⟩) = false := decide_eq_false ht
      have ht3 : ¬ t.toList = [] := fun h => ht (by cases t with | mk d => rw [ByteArray.toList_eq] at h; simp at h; rw [h])
      have ht4 : t.toList.isEmpty = false := by simp [ht3]
      have e : V = false := by rw [hV]; simp [bareF, *]
      clear hV
      go_enter Tryd.func77, Tryd.ntmps77
      go_wp2_with fail
      go_ret
      exact ⟨by rw [e]; first | rfl | (simp; done) | (simp; omega), hW.alloc hW.size _⟩
    have ht3 : t.toList = [] := by rw [ht, ByteArray.toList_eq]
    have ht4 : t.toList.isEmpty = true := by rw [ht3]; rfl
    by_cases ha : a = 0
    case neg =>
      have ha2 : decide ((a : Int) = 0) = false := by simp; omega
      have e : V = false := by rw [hV]; simp [bareF, *]
      clear hV
      go_enter Tryd.func77, Tryd.ntmps77
      go_wp2_with fail
      go_ret
      exact ⟨by rw [e]; first | rfl | (simp; done) | (simp; omega), hW.alloc hW.size _⟩
    subst ha
    have e : V = true := by rw [hV]; simp [bareF, *]
    clear hV
    go_enter Tryd.func77, Tryd.ntmps77
    go_wp2_with fail
    go_ret
    exact ⟨by rw [e]; first | rfl | (simp; done) | (simp; omega), hW.alloc hW.size _⟩
  by_cases h7 : k = 7
  · subst h7
    by_cases hn : num = 0
    case neg =>
      have e : V = false := by rw [hV]; simp [bareF, *]
      clear hV
      go_enter Tryd.func77, Tryd.ntmps77
      go_wp2_with fail
      go_ret
      exact ⟨by rw [e]; first | rfl | (simp; done) | (simp; omega), hW.alloc hW.size _⟩
    subst hn
    by_cases ht : t = ⟨#[]⟩
    case neg =>
      have ht2 : decide (t = ⟨#[]⟩) = false := decide_eq_false ht
      have ht3 : ¬ t.toList = [] := fun h => ht (by cases t with | mk d => rw [ByteArray.toList_eq] at h; simp at h; rw [h])
      have ht4 : t.toList.isEmpty = false := by simp [ht3]
      have e : V = false := by rw [hV]; simp [bareF, *]
      clear hV
      go_enter Tryd.func77, Tryd.ntmps77
      go_wp2_with fail
      go_ret
      exact ⟨by rw [e]; first | rfl | (simp; done) | (simp; omega), hW.alloc hW.size _⟩
    have ht3 : t.toList = [] := by rw [ht, ByteArray.toList_eq]
    have ht4 : t.toList.isEmpty = true := by rw [ht3]; rfl
    have e : V = true := by rw [hV]; simp [bareF, *]
    clear hV
    go_enter Tryd.func77, Tryd.ntmps77
    go_wp2_with fail
    go_ret
    exact ⟨by rw [e]; first | rfl | (simp; done) | (simp; omega), hW.alloc hW.size _⟩
  by_cases hn : num = 0
  case neg =>
    have e : V = false := by rw [hV]; simp [bareF, *]
    clear hV
    go_enter Tryd.func77, Tryd.ntmps77
    go_wp2_with fail
    go_ret
    exact ⟨by rw [e]; first | rfl | (simp; done) | (simp; omega), hW.alloc hW.size _⟩
  subst hn
  by_cases ht : t = ⟨#[]⟩
  case neg =>
    have ht2 : decide (t = ⟨#[]⟩) = false := decide_eq_false ht
    have ht3 : ¬ t.toList = [] := fun h => ht (by cases t with | mk d => rw [ByteArray.toList_eq] at h; simp at h; rw [h])
    have ht4 : t.toList.isEmpty = false := by simp [ht3]
    have e : V = false := by rw [hV]; simp [bareF, *]
    clear hV
    go_enter Tryd.func77, Tryd.ntmps77
    go_wp2_with fail
    go_ret
    exact ⟨by rw [e]; first | rfl | (simp; done) | (simp; omega), hW.alloc hW.size _⟩
  have ht3 : t.toList = [] := by rw [ht, ByteArray.toList_eq]
  have ht4 : t.toList.isEmpty = true := by rw [ht3]; rfl
  by_cases ha : a = 0
  case neg =>
    have ha2 : decide ((a : Int) = 0) = false := by simp; omega
    have e : V = false := by rw [hV]; simp [bareF, *]
    clear hV
    go_enter Tryd.func77, Tryd.ntmps77
    go_wp2_with fail
    go_ret
    exact ⟨by rw [e]; first | rfl | (simp; done) | (simp; omega), hW.alloc hW.size _⟩
  subst ha
  by_cases hb : b = 0
  case neg =>
    have hb2 : decide ((b : Int) = 0) = false := by simp; omega
    have e : V = false := by rw [hV]; simp [bareF, *]
    clear hV
    go_enter Tryd.func77, Tryd.ntmps77
    go_wp2_with fail
    go_ret
    exact ⟨by rw [e]; first | rfl | (simp; done) | (simp; omega), hW.alloc hW.size _⟩
  subst hb
  have e : V = true := by rw [hV]; simp [bareF, *]
  clear hV
  go_enter Tryd.func77, Tryd.ntmps77
  go_wp2_with fail
  go_ret
  exact ⟨by rw [e]; first | rfl | (simp; done) | (simp; omega), hW.alloc hW.size _⟩
end Go.Proofs.YthbjehbpanhdoaaDoor
/-! Whether a node may stand within so many others: as a plain function. -/
namespace Go.Proofs.YthbjehbpanhdoaaDoor
open Go.RowKit Go.PlainAid
set_option linter.unusedVariables false
set_option linter.unusedSimpArgs false
mutual
/-- whether a node may stand within so many others -/
noncomputable def rightN (most : Int) (nest : Int) : Nd → Int → Bool
  | .mk k num t ks ns, deep => bareF k num t ks.length ns.length &&
    (k == 1 || k == 2 || k == 3 || (k == 4 && decide (-most ≤ num ∧ num ≤ most)) || (k == 5 && validB t.toList) ||
      ((k == 6 || k == 7) && decide (deep < nest) && (k == 6 || (decide (ks.length = ns.length) && keysB ks)) && rightL most nest ns (deep + 1)))
noncomputable def rightL (most : Int) (nest : Int) : List Nd → Int → Bool
  | [], _ => true
  | n :: ns, deep => rightN most nest n deep && rightL most nest ns deep
end
theorem rightL_all (most nest : Int) (ns : List Nd) (deep : Int) : rightL most nest ns deep = ns.all (fun n => rightN most nest n deep) := by
  induction ns with
  | nil => unfold rightL; rfl
  | cons n ns ih => unfold rightL; rw [ih]; rfl
end Go.Proofs.YthbjehbpanhdoaaDoor
/-! The walk of canon's right. -/
namespace Go.Proofs.YthbjehbpanhdoaaDoor
open Go.RowKit Go.PlainAid
set_option linter.unusedVariables false
set_option linter.unusedSimpArgs false
noncomputable def rightD (n : Nd) (deep : Int) : Bool := rightN 9007199254740991 24 n deep
noncomputable def rightLD (ns : List Nd) (deep : Int) : Bool := rightL 9007199254740991 24 ns deep
theorem rightLD_nil (deep : Int) : rightLD [] deep = true := by unfold rightLD rightL; rfl
theorem rightLD_at (ns : List Nd) (i : Nat) (n : Nd) (deep : Int) (h : ns[i]? = some n) : rightLD (ns.drop i) deep = (rightD n deep && rightLD (ns.drop (i + 1)) deep) := by
  rw [List.drop_eq_getElem_cons (List.getElem?_eq_some_iff.1 h).1, (List.getElem?_eq_some_iff.1 h).2]
  unfold rightLD rightD
  conv => lhs; unfold rightL
def RightC (vs : Array Value) (deep : Int) (b : Bool) (w : World) : Prop := Calls Tryd.prog 68 #[.agg vs, .int .i64 deep] w (BoolBel b w)
def OddC (vs : Array Value) (p : Addr) (b : Bool) (w : World) : Prop := Calls Tryd.prog 80 #[.agg vs, .pointer (some p)] w (BoolBel b w)
set_option maxRecDepth 100000 in
set_option maxHeartbeats 1000000 in
theorem cright1_any (n : Nd) (cs : List Value) (w : World) (B : Nat) (deep : Int) (p : Addr) (hn : NdIs w B n cs) (hB : B ≤ w.heap.size) (hc : w.cell? p = some (.int .i64 deep)) (hp : p.block < w.heap.size) (d0 : 0 ≤ deep) (d1 : deep < 24)
    (HIH : Hid (∀ w', NdIs w' B n cs → B ≤ w'.heap.size → RightC cs.toArray (deep + 1) (rightD n (deep + 1)) w')) : OddC cs.toArray p (!rightD n (deep + 1)) w := by
  have hl := hn.len
  match cs, hl with
  | [v0, v1, v2, v3, v4], _ =>
    have hW := Below.refl w.heap.size w
    have HC : Hid (∀ w', Below w.heap.size w w' → RightC #[v0, v1, v2, v3, v4] (deep + 1) (rightD n (deep + 1)) w') := fun w' hb => HIH.out w' (hn.below (hb.mono hB)) (by have := hb.size; omega)
    obtain ⟨x0, x1, x2, x3, x4, x5, x6, x7, x8, rfl, rfl, rfl, rfl, rfl⟩ := hn.form
    show Calls Tryd.prog 80 #[.agg #[_, _, _, _, _], .pointer (some p)] w (BoolBel _ w)
    have hne : ¬ p.block = w.heap.size := by omega
    clear hn
    generalize rightD n (deep + 1) = V at *
    go_enter Tryd.func80, Tryd.ntmps80
    go_wp2_with fail
    refine (HC.out _ (hW.alloc (Nat.le_refl _) _)).mono ?_; rintro e w1 ⟨rfl, hw1⟩
    go_wp2_with fail
    go_ret
    exact ⟨rfl, nextA hW hw1⟩
def IdxPost (b : Bool) (w : World) (e : Ending) (w' : World) : Prop := ∃ v : Int, e = .returned (.int .i64 v) ∧ decide (0 ≤ v) = !b ∧ Below w.heap.size w w'
set_option maxRecDepth 100000 in
set_option maxHeartbeats 1000000 in
theorem sIndexFunc_right (ns : List Nd) (A : Option Addr) (cc : Nat) (xs : List Value) (w : World) (B : Nat) (deep : Int) (p : Addr) (hxs : Reads w B 5 A ns.length xs) (hns : NdsIs w B ns xs) (hB : B ≤ w.heap.size) (hk : ns.length ≤ 9223372036854775807)
    (hc : w.cell? p = some (.int .i64 deep)) (hp : p.block < w.heap.size) (d0 : 0 ≤ deep) (d1 : deep < 24)
    (HIH : Hid (∀ (i : Nat) (n : Nd) (cs : List Value) (w' : World), ns[i]? = some n → NdIs w' B n cs → B ≤ w'.heap.size → RightC cs.toArray (deep + 1) (rightD n (deep + 1)) w')) :
    Calls Tryd.prog 50 #[.slice A ns.length cc, .func (.func 80) #[] #[.pointer (some p)]] w (IdxPost (rightLD ns (deep + 1)) w) := by
  have hW := Below.refl w.heap.size w
  obtain ⟨V, hV⟩ : ∃ V, V = rightLD ns (deep + 1) := ⟨_, rfl⟩
  rw [← hV]
  have HV : Hid (V = rightLD (ns.drop 0) (deep + 1)) := hV
  have HXS := Lib.hid hxs
  have HNS := Lib.hid hns
  have HD : Hid (0 ≤ deep ∧ deep < 24) := ⟨d0, d1⟩
  have HC := Lib.hid hc
  clear hxs hns hV d0 d1 hc
  go_enter Tryd.func50, Tryd.ntmps50
  go_wp2_with fail
  go_loopw [8] (fun t wr => ∃ (i : Nat), i ≤ ns.length ∧ t = .int .i64 i ∧ Hid (V = rightLD (ns.drop i) (deep + 1)) ∧ Below w.heap.size w wr) (fun t _ => ns.length - (intOf t).toNat)
  case atStart => exact ⟨0, by omega, rfl, HV, hW⟩
  case round =>
    clear hW
    obtain ⟨i, hi, rfl, hv, hW⟩ := hrel
    obtain ⟨wo, rfl⟩ : ∃ wo : World, wo = wr := ⟨_, rfl⟩
    have hsz := hW.size
    by_cases hlt : i < ns.length
    · have hkeep : ∀ p : Addr, p.block < B → wo.cell? p = w.cell? p := fun p hp => hW.cell (by omega)
      obtain ⟨ad, n, v0, v1, v2, v3, v4, rfl, hadb, hni, hnd, e0, e1, e2, e3, e4⟩ := (HXS.out.keep hkeep).nd (NdsIs.keep hkeep _ _ HNS.out) hlt
      have HSTEP := Lib.hid (rightLD_at ns i n (deep + 1) hni)
      have HO : Hid (∀ w', Below wo.heap.size wo w' → OddC #[v0, v1, v2, v3, v4] p (!rightD n (deep + 1)) w') := fun w' hb =>
        cright1_any n [v0, v1, v2, v3, v4] w' B deep p (hnd.below (hb.mono (by omega))) (by have := hb.size; omega) ((hb.cell (by omega)).trans ((hW.cell hp).trans HC.out)) (by have := hb.size; omega) HD.out.1 HD.out.2
          (fun w'' h1 h2 => HIH.out i n [v0, v1, v2, v3, v4] w'' hni h1 h2)
      have HNI := Lib.hid hni
      clear hni hnd hkeep
      generalize rightD n (deep + 1) = b at *
      go_wp2_with fail
      refine (HO.out _ (Below.refl _ _)).mono ?_; rintro e w1 ⟨rfl, hw1⟩
      cases b with
      | false =>
        have HE : Hid (V = false) := by show _ = _; rw [hv.out, HSTEP.out]; rfl
        go_wp2_with fail
        go_ret
        exact ⟨_, rfl, by rw [HE.out]; simp, hW.trans (hw1.mono hsz)⟩
      | true =>
        have HE : Hid (V = rightLD (ns.drop (i + 1)) (deep + 1)) := by show _ = _; rw [hv.out, HSTEP.out]; rfl
        go_wp2_with fail
        go_roundw
        case rel => exact ⟨i + 1, by omega, by go_num, HE, hW.trans (hw1.mono hsz)⟩
        case measure => simp [intOf]; omega
    · have HE : Hid (V = true) := by
        show _ = _
        rw [hv.out, List.drop_eq_nil_of_le (by omega), rightLD_nil]
      go_wp2_with fail
      go_ret
      exact ⟨_, rfl, by rw [HE.out]; rfl, hW⟩
end Go.Proofs.YthbjehbpanhdoaaDoor
/-! The walk of canon's right: the induction. -/
namespace Go.Proofs.YthbjehbpanhdoaaDoor
open Go.RowKit Go.PlainAid
set_option linter.unusedVariables false
set_option linter.unusedSimpArgs false
set_option maxRecDepth 100000 in
set_option maxHeartbeats 1000000 in
theorem sContainsFunc_right (ns : List Nd) (A : Option Addr) (cc : Nat) (xs : List Value) (w : World) (B : Nat) (deep : Int) (p : Addr) (hxs : Reads w B 5 A ns.length xs) (hns : NdsIs w B ns xs) (hB : B ≤ w.heap.size) (hk : ns.length ≤ 9223372036854775807)
    (hc : w.cell? p = some (.int .i64 deep)) (hp : p.block < w.heap.size) (d0 : 0 ≤ deep) (d1 : deep < 24)
    (HIH : Hid (∀ (i : Nat) (n : Nd) (cs : List Value) (w' : World), ns[i]? = some n → NdIs w' B n cs → B ≤ w'.heap.size → RightC cs.toArray (deep + 1) (rightD n (deep + 1)) w')) :
    Calls Tryd.prog 32 #[.slice A ns.length cc, .func (.func 80) #[] #[.pointer (some p)]] w (BoolBel (!rightLD ns (deep + 1)) w) := by
  have HC := Lib.hid (sIndexFunc_right ns A cc xs w B deep p hxs hns hB hk hc hp d0 d1 HIH)
  clear hxs hns hc d0 d1 HIH
  generalize rightLD ns (deep + 1) = V at *
  go_enter Tryd.func32, Tryd.ntmps32
  go_wp2_with fail
  refine HC.out.mono ?_; rintro e w1 ⟨v, rfl, hv, hw1⟩
  go_wp2_with fail
  go_ret
  exact ⟨by first | rfl | (rw [← hv]), hw1⟩
def RightHyp (B : Nat) (ns : List Nd) : Prop := ∀ (i : Nat) (n : Nd) (cs : List Value) (w' : World) (deep : Int), ns[i]? = some n → NdIs w' B n cs → B ≤ w'.heap.size → 0 ≤ deep → deep ≤ 24 → RightC cs.toArray deep (rightD n deep) w'
set_option maxRecDepth 100000 in
set_option maxHeartbeats 3000000 in
theorem cright_step (k num : Int) (t : ByteArray) (ks : List ByteArray) (ns : List Nd) (A A2 : Option Addr) (ck cc : Nat) (xs : List Value) (w : World) (B : Nat) (deep : Int)
    (hks : Reads w B 1 A ks.length (ks.map Value.string)) (hxs : Reads w B 5 A2 ns.length xs) (hns : NdsIs w B ns xs) (ht : t.size ≤ 9223372036854775807) (hsz : ∀ s ∈ ks, s.size ≤ 9223372036854775807) (hk1 : ks.length ≤ 9223372036854775807) (hk2 : ns.length ≤ 9223372036854775807)
    (hB : B ≤ w.heap.size) (d0 : 0 ≤ deep) (d1 : deep ≤ 24) (HIH : Hid (RightHyp B ns)) :
    Calls Tryd.prog 68 #[.agg #[.int .i64 k, .int .i64 num, .string t, .slice A ks.length ck, .slice A2 ns.length cc], .int .i64 deep] w (BoolBel (rightD (.mk k num t ks ns) deep) w) := by
  have hW := Below.refl w.heap.size w
  have HV : Hid (rightD (.mk k num t ks ns) deep = (bareF k num t ks.length ns.length &&
    (k == 1 || k == 2 || k == 3 || (k == 4 && decide (-9007199254740991 ≤ num ∧ num ≤ 9007199254740991)) || (k == 5 && validB t.toList) ||
      ((k == 6 || k == 7) && decide (deep < 24) && (k == 6 || (decide (ks.length = ns.length) && keysB ks)) && rightLD ns (deep + 1))))) := by
    show _ = _
    unfold rightLD rightD
    conv => lhs; unfold rightN
  generalize rightD (.mk k num t ks ns) deep = V at *
  have hA : Below w.heap.size w ((w.alloc (.cells #[.int .i64 k, .int .i64 num, .string t, .slice A ks.length ck, .slice A2 ns.length cc] 25)).alloc (.cells #[.int .i64 deep] 3)) := (hW.alloc hW.size _).alloc (by simp) _
  have HKC : Hid (∀ w', Below w.heap.size w w' → Calls Tryd.prog 79 #[.slice A ks.length ck] w' fun e w'' => e = .returned (.bool (keysB ks)) ∧ Below w'.heap.size w' w'') := fun w' hb =>
    keys_any ks A ck B w' (hks.keep fun p hp => hb.cell (by omega)) hsz hk1 (by have := hb.size; omega)
  have HVC : Hid (∀ w' : World, Calls Tryd.prog 78 #[.string t] w' fun e w'' => e = .returned (.bool (validB t.toList)) ∧ Below w'.heap.size w' w'') := fun w' => valid_any t w' ht
  have HCC : Hid (∀ w' p, deep < 24 → Below w.heap.size w w' → w'.cell? p = some (.int .i64 deep) → p.block < w'.heap.size → Calls Tryd.prog 32 #[.slice A2 ns.length cc, .func (.func 80) #[] #[.pointer (some p)]] w' (BoolBel (!rightLD ns (deep + 1)) w')) := fun w' p hd hb hc hp =>
    sContainsFunc_right ns A2 cc xs w' B deep p (hxs.keep fun p hp => hb.cell (by omega)) (NdsIs.keep (fun p hp => hb.cell (by omega)) _ _ hns) (by have := hb.size; omega) hk2 hc hp d0 hd
      (fun i n cs w'' h1 h2 h3 => HIH.out i n cs w'' (deep + 1) h1 h2 h3 (by omega) (by omega))
  have HBC : Hid (∀ w' : World, Calls Tryd.prog 77 #[.agg #[.int .i64 k, .int .i64 num, .string t, .slice A ks.length ck, .slice A2 ns.length cc]] w' fun e w'' => e = .returned (.bool (bareF k num t ks.length ns.length)) ∧ Below w'.heap.size w' w'') := fun w' =>
    bare_any k num t A A2 ks.length ns.length ck cc w'
  clear hks hxs hns hsz HIH
  generalize hvl : validB t.toList = vl at *
  generalize hkb : keysB ks = kb at *
  generalize hrl : rightLD ns (deep + 1) = rl at *
  clear hvl hkb hrl
  cases hb : bareF k num t ks.length ns.length with
  | false =>
    have HE : Hid (V = false) := by show _ = _; rw [HV.out, hb]; rfl
    rw [hb] at HBC
    clear HV hb
    go_enter Tryd.func68, Tryd.ntmps68
    go_wp2_with fail
    refine (HBC.out _).mono ?_; rintro e w1 ⟨rfl, hw1⟩
    go_wp2_with fail
    go_ret
    exact ⟨by rw [HE.out]; rfl, hA.trans (hw1.mono (by simp; omega))⟩
  | true =>
  rw [hb] at HBC HV
  clear hb
  by_cases h1 : k = 1
  · subst h1
    have HE : Hid (V = true) := by show _ = _; rw [HV.out]; simp
    clear HV
    go_enter Tryd.func68, Tryd.ntmps68
    go_wp2_with fail
    refine (HBC.out _).mono ?_; rintro e w1 ⟨rfl, hw1⟩
    have hW1 := hA.trans (hw1.mono (by simp; omega))
    have c0 : w1.cell? ⟨w.heap.size, 0, none⟩ = some (.int .i64 1) := (hw1.cell (by simp; omega)).trans (by simp [go_sem])
    have c1 : w1.cell? ⟨w.heap.size, 1, none⟩ = some (.int .i64 num) := (hw1.cell (by simp; omega)).trans (by simp [go_sem])
    have c2 : w1.cell? ⟨w.heap.size, 2, none⟩ = some (.string t) := (hw1.cell (by simp; omega)).trans (by simp [go_sem])
    have c3 : w1.cell? ⟨w.heap.size, 3, none⟩ = some (.slice A ks.length ck) := (hw1.cell (by simp; omega)).trans (by simp [go_sem])
    have c4 : w1.cell? ⟨w.heap.size, 4, none⟩ = some (.slice A2 ns.length cc) := (hw1.cell (by simp; omega)).trans (by simp [go_sem])
    have cd : w1.cell? ⟨w.heap.size + 1, 0, none⟩ = some (.int .i64 deep) := (hw1.cell (by simp)).trans (by simp [go_sem])
    have hs1 : w.heap.size + 2 ≤ w1.heap.size := by have := hw1.size; simp at this; omega
    go_wp2_with fail
    go_ret
    exact ⟨by rw [HE.out]; rfl, hW1⟩
  by_cases h2 : k = 2
  · subst h2
    have HE : Hid (V = true) := by show _ = _; rw [HV.out]; simp
    clear HV
    go_enter Tryd.func68, Tryd.ntmps68
    go_wp2_with fail
    refine (HBC.out _).mono ?_; rintro e w1 ⟨rfl, hw1⟩
    have hW1 := hA.trans (hw1.mono (by simp; omega))
    have c0 : w1.cell? ⟨w.heap.size, 0, none⟩ = some (.int .i64 2) := (hw1.cell (by simp; omega)).trans (by simp [go_sem])
    have c1 : w1.cell? ⟨w.heap.size, 1, none⟩ = some (.int .i64 num) := (hw1.cell (by simp; omega)).trans (by simp [go_sem])
    have c2 : w1.cell? ⟨w.heap.size, 2, none⟩ = some (.string t) := (hw1.cell (by simp; omega)).trans (by simp [go_sem])
    have c3 : w1.cell? ⟨w.heap.size, 3, none⟩ = some (.slice A ks.length ck) := (hw1.cell (by simp; omega)).trans (by simp [go_sem])
    have c4 : w1.cell? ⟨w.heap.size, 4, none⟩ = some (.slice A2 ns.length cc) := (hw1.cell (by simp; omega)).trans (by simp [go_sem])
    have cd : w1.cell? ⟨w.heap.size + 1, 0, none⟩ = some (.int .i64 deep) := (hw1.cell (by simp)).trans (by simp [go_sem])
    have hs1 : w.heap.size + 2 ≤ w1.heap.size := by have := hw1.size; simp at this; omega
    go_wp2_with fail
    go_ret
    exact ⟨by rw [HE.out]; rfl, hW1⟩
  by_cases h3 : k = 3
  · subst h3
    have HE : Hid (V = true) := by show _ = _; rw [HV.out]; simp
    clear HV
    go_enter Tryd.func68, Tryd.ntmps68
    go_wp2_with fail
    refine (HBC.out _).mono ?_; rintro e w1 ⟨rfl, hw1⟩
    have hW1 := hA.trans (hw1.mono (by simp; omega))
    have c0 : w1.cell? ⟨w.heap.size, 0, none⟩ = some (.int .i64 3) := (hw1.cell (by simp; omega)).trans (by simp [go_sem])
    have c1 : w1.cell? ⟨w.heap.size, 1, none⟩ = some (.int .i64 num) := (hw1.cell (by simp; omega)).trans (by simp [go_sem])
    have c2 : w1.cell? ⟨w.heap.size, 2, none⟩ = some (.string t) := (hw1.cell (by simp; omega)).trans (by simp [go_sem])
    have c3 : w1.cell? ⟨w.heap.size, 3, none⟩ = some (.slice A ks.length ck) := (hw1.cell (by simp; omega)).trans (by simp [go_sem])
    have c4 : w1.cell? ⟨w.heap.size, 4, none⟩ = some (.slice A2 ns.length cc) := (hw1.cell (by simp; omega)).trans (by simp [go_sem])
    have cd : w1.cell? ⟨w.heap.size + 1, 0, none⟩ = some (.int .i64 deep) := (hw1.cell (by simp)).trans (by simp [go_sem])
    have hs1 : w.heap.size + 2 ≤ w1.heap.size := by have := hw1.size; simp at this; omega
    go_wp2_with fail
    go_ret
    exact ⟨by rw [HE.out]; rfl, hW1⟩
  by_cases h4 : k = 4
  · subst h4
    cases e1 : decide (-9007199254740991 ≤ num) with
    | false =>
      have HE : Hid (V = false) := by show _ = _; rw [HV.out]; (have h9 := of_decide_eq_false e1); simp; intro h; exact absurd h h9
      clear HV
      go_enter Tryd.func68, Tryd.ntmps68
      go_wp2_with fail
      refine (HBC.out _).mono ?_; rintro e w1 ⟨rfl, hw1⟩
      have hW1 := hA.trans (hw1.mono (by simp; omega))
      have c0 : w1.cell? ⟨w.heap.size, 0, none⟩ = some (.int .i64 4) := (hw1.cell (by simp; omega)).trans (by simp [go_sem])
      have c1 : w1.cell? ⟨w.heap.size, 1, none⟩ = some (.int .i64 num) := (hw1.cell (by simp; omega)).trans (by simp [go_sem])
      have c2 : w1.cell? ⟨w.heap.size, 2, none⟩ = some (.string t) := (hw1.cell (by simp; omega)).trans (by simp [go_sem])
      have c3 : w1.cell? ⟨w.heap.size, 3, none⟩ = some (.slice A ks.length ck) := (hw1.cell (by simp; omega)).trans (by simp [go_sem])
      have c4 : w1.cell? ⟨w.heap.size, 4, none⟩ = some (.slice A2 ns.length cc) := (hw1.cell (by simp; omega)).trans (by simp [go_sem])
      have cd : w1.cell? ⟨w.heap.size + 1, 0, none⟩ = some (.int .i64 deep) := (hw1.cell (by simp)).trans (by simp [go_sem])
      have hs1 : w.heap.size + 2 ≤ w1.heap.size := by have := hw1.size; simp at this; omega
      go_wp2_with fail
      go_ret
      exact ⟨by rw [HE.out]; rfl, hW1⟩
    | true =>
    cases e2 : decide (num ≤ 9007199254740991) with
    | false =>
      have HE : Hid (V = false) := by show _ = _; rw [HV.out]; (have h9 := of_decide_eq_false e2); simp; intro h; omega
      clear HV
      go_enter Tryd.func68, Tryd.ntmps68
      go_wp2_with fail
      refine (HBC.out _).mono ?_; rintro e w1 ⟨rfl, hw1⟩
      have hW1 := hA.trans (hw1.mono (by simp; omega))
      have c0 : w1.cell? ⟨w.heap.size, 0, none⟩ = some (.int .i64 4) := (hw1.cell (by simp; omega)).trans (by simp [go_sem])
      have c1 : w1.cell? ⟨w.heap.size, 1, none⟩ = some (.int .i64 num) := (hw1.cell (by simp; omega)).trans (by simp [go_sem])
      have c2 : w1.cell? ⟨w.heap.size, 2, none⟩ = some (.string t) := (hw1.cell (by simp; omega)).trans (by simp [go_sem])
      have c3 : w1.cell? ⟨w.heap.size, 3, none⟩ = some (.slice A ks.length ck) := (hw1.cell (by simp; omega)).trans (by simp [go_sem])
      have c4 : w1.cell? ⟨w.heap.size, 4, none⟩ = some (.slice A2 ns.length cc) := (hw1.cell (by simp; omega)).trans (by simp [go_sem])
      have cd : w1.cell? ⟨w.heap.size + 1, 0, none⟩ = some (.int .i64 deep) := (hw1.cell (by simp)).trans (by simp [go_sem])
      have hs1 : w.heap.size + 2 ≤ w1.heap.size := by have := hw1.size; simp at this; omega
      go_wp2_with fail
      go_ret
      exact ⟨by rw [HE.out]; rfl, hW1⟩
    | true =>
      have HE : Hid (V = true) := by show _ = _; rw [HV.out]; simp [(by simpa using e1 : -9007199254740991 ≤ num), (by simpa using e2 : num ≤ 9007199254740991)]
      clear HV
      go_enter Tryd.func68, Tryd.ntmps68
      go_wp2_with fail
      refine (HBC.out _).mono ?_; rintro e w1 ⟨rfl, hw1⟩
      have hW1 := hA.trans (hw1.mono (by simp; omega))
      have c0 : w1.cell? ⟨w.heap.size, 0, none⟩ = some (.int .i64 4) := (hw1.cell (by simp; omega)).trans (by simp [go_sem])
      have c1 : w1.cell? ⟨w.heap.size, 1, none⟩ = some (.int .i64 num) := (hw1.cell (by simp; omega)).trans (by simp [go_sem])
      have c2 : w1.cell? ⟨w.heap.size, 2, none⟩ = some (.string t) := (hw1.cell (by simp; omega)).trans (by simp [go_sem])
      have c3 : w1.cell? ⟨w.heap.size, 3, none⟩ = some (.slice A ks.length ck) := (hw1.cell (by simp; omega)).trans (by simp [go_sem])
      have c4 : w1.cell? ⟨w.heap.size, 4, none⟩ = some (.slice A2 ns.length cc) := (hw1.cell (by simp; omega)).trans (by simp [go_sem])
      have cd : w1.cell? ⟨w.heap.size + 1, 0, none⟩ = some (.int .i64 deep) := (hw1.cell (by simp)).trans (by simp [go_sem])
      have hs1 : w.heap.size + 2 ≤ w1.heap.size := by have := hw1.size; simp at this; omega
      go_wp2_with fail
      go_ret
      exact ⟨by rw [HE.out]; rfl, hW1⟩
  by_cases h5 : k = 5
  · subst h5
    have HE : Hid (V = vl) := by show _ = _; rw [HV.out]; simp
    clear HV
    go_enter Tryd.func68, Tryd.ntmps68
    go_wp2_with fail
    refine (HBC.out _).mono ?_; rintro e w1 ⟨rfl, hw1⟩
    have hW1 := hA.trans (hw1.mono (by simp; omega))
    have c0 : w1.cell? ⟨w.heap.size, 0, none⟩ = some (.int .i64 5) := (hw1.cell (by simp; omega)).trans (by simp [go_sem])
    have c1 : w1.cell? ⟨w.heap.size, 1, none⟩ = some (.int .i64 num) := (hw1.cell (by simp; omega)).trans (by simp [go_sem])
    have c2 : w1.cell? ⟨w.heap.size, 2, none⟩ = some (.string t) := (hw1.cell (by simp; omega)).trans (by simp [go_sem])
    have c3 : w1.cell? ⟨w.heap.size, 3, none⟩ = some (.slice A ks.length ck) := (hw1.cell (by simp; omega)).trans (by simp [go_sem])
    have c4 : w1.cell? ⟨w.heap.size, 4, none⟩ = some (.slice A2 ns.length cc) := (hw1.cell (by simp; omega)).trans (by simp [go_sem])
    have cd : w1.cell? ⟨w.heap.size + 1, 0, none⟩ = some (.int .i64 deep) := (hw1.cell (by simp)).trans (by simp [go_sem])
    have hs1 : w.heap.size + 2 ≤ w1.heap.size := by have := hw1.size; simp at this; omega
    go_wp2_with fail
    refine (HVC.out _).mono ?_; rintro e w2 ⟨rfl, hw2⟩
    go_wp2_with fail
    go_ret
    exact ⟨by rw [HE.out]; rfl, hW1.trans (hw2.mono hW1.size)⟩
  by_cases h6 : k = 6
  · subst h6
    by_cases hd : 24 ≤ deep
    · have hd' : ¬ deep < 24 := by omega
      have HE : Hid (V = false) := by show _ = _; rw [HV.out]; simp [hd']
      clear HV
      go_enter Tryd.func68, Tryd.ntmps68
      go_wp2_with fail
      refine (HBC.out _).mono ?_; rintro e w1 ⟨rfl, hw1⟩
      have hW1 := hA.trans (hw1.mono (by simp; omega))
      have c0 : w1.cell? ⟨w.heap.size, 0, none⟩ = some (.int .i64 6) := (hw1.cell (by simp; omega)).trans (by simp [go_sem])
      have c1 : w1.cell? ⟨w.heap.size, 1, none⟩ = some (.int .i64 num) := (hw1.cell (by simp; omega)).trans (by simp [go_sem])
      have c2 : w1.cell? ⟨w.heap.size, 2, none⟩ = some (.string t) := (hw1.cell (by simp; omega)).trans (by simp [go_sem])
      have c3 : w1.cell? ⟨w.heap.size, 3, none⟩ = some (.slice A ks.length ck) := (hw1.cell (by simp; omega)).trans (by simp [go_sem])
      have c4 : w1.cell? ⟨w.heap.size, 4, none⟩ = some (.slice A2 ns.length cc) := (hw1.cell (by simp; omega)).trans (by simp [go_sem])
      have cd : w1.cell? ⟨w.heap.size + 1, 0, none⟩ = some (.int .i64 deep) := (hw1.cell (by simp)).trans (by simp [go_sem])
      have hs1 : w.heap.size + 2 ≤ w1.heap.size := by have := hw1.size; simp at this; omega
      go_wp2_with fail
      go_ret
      exact ⟨by rw [HE.out]; rfl, hW1⟩
    · have hd' : deep < 24 := by omega
      have HE : Hid (V = rl) := by show _ = _; rw [HV.out]; simp [hd']
      clear HV
      go_enter Tryd.func68, Tryd.ntmps68
      go_wp2_with fail
      refine (HBC.out _).mono ?_; rintro e w1 ⟨rfl, hw1⟩
      have hW1 := hA.trans (hw1.mono (by simp; omega))
      have c0 : w1.cell? ⟨w.heap.size, 0, none⟩ = some (.int .i64 6) := (hw1.cell (by simp; omega)).trans (by simp [go_sem])
      have c1 : w1.cell? ⟨w.heap.size, 1, none⟩ = some (.int .i64 num) := (hw1.cell (by simp; omega)).trans (by simp [go_sem])
      have c2 : w1.cell? ⟨w.heap.size, 2, none⟩ = some (.string t) := (hw1.cell (by simp; omega)).trans (by simp [go_sem])
      have c3 : w1.cell? ⟨w.heap.size, 3, none⟩ = some (.slice A ks.length ck) := (hw1.cell (by simp; omega)).trans (by simp [go_sem])
      have c4 : w1.cell? ⟨w.heap.size, 4, none⟩ = some (.slice A2 ns.length cc) := (hw1.cell (by simp; omega)).trans (by simp [go_sem])
      have cd : w1.cell? ⟨w.heap.size + 1, 0, none⟩ = some (.int .i64 deep) := (hw1.cell (by simp)).trans (by simp [go_sem])
      have hs1 : w.heap.size + 2 ≤ w1.heap.size := by have := hw1.size; simp at this; omega
      go_wp2_with fail
      refine (HCC.out _ _ hd' hW1 cd (by simp; omega)).mono ?_; rintro e w2 ⟨rfl, hw2⟩
      go_wp2_with fail
      go_ret
      exact ⟨by rw [HE.out]; simp, hW1.trans (hw2.mono hW1.size)⟩
  by_cases h7 : k = 7
  · subst h7
    by_cases hd : 24 ≤ deep
    · have hd' : ¬ deep < 24 := by omega
      have HE : Hid (V = false) := by show _ = _; rw [HV.out]; simp [hd']
      clear HV
      go_enter Tryd.func68, Tryd.ntmps68
      go_wp2_with fail
      refine (HBC.out _).mono ?_; rintro e w1 ⟨rfl, hw1⟩
      have hW1 := hA.trans (hw1.mono (by simp; omega))
      have c0 : w1.cell? ⟨w.heap.size, 0, none⟩ = some (.int .i64 7) := (hw1.cell (by simp; omega)).trans (by simp [go_sem])
      have c1 : w1.cell? ⟨w.heap.size, 1, none⟩ = some (.int .i64 num) := (hw1.cell (by simp; omega)).trans (by simp [go_sem])
      have c2 : w1.cell? ⟨w.heap.size, 2, none⟩ = some (.string t) := (hw1.cell (by simp; omega)).trans (by simp [go_sem])
      have c3 : w1.cell? ⟨w.heap.size, 3, none⟩ = some (.slice A ks.length ck) := (hw1.cell (by simp; omega)).trans (by simp [go_sem])
      have c4 : w1.cell? ⟨w.heap.size, 4, none⟩ = some (.slice A2 ns.length cc) := (hw1.cell (by simp; omega)).trans (by simp [go_sem])
      have cd : w1.cell? ⟨w.heap.size + 1, 0, none⟩ = some (.int .i64 deep) := (hw1.cell (by simp)).trans (by simp [go_sem])
      have hs1 : w.heap.size + 2 ≤ w1.heap.size := by have := hw1.size; simp at this; omega
      go_wp2_with fail
      go_ret
      exact ⟨by rw [HE.out]; rfl, hW1⟩
    have hd' : deep < 24 := by omega
    by_cases hl : ks.length = ns.length
    case neg =>
      have n4 : ((ks.length : Int) != (ns.length : Int)) = true := by rw [bne_iff_ne]; omega
      have HE : Hid (V = false) := by show _ = _; rw [HV.out]; simp [hl]
      clear HV
      go_enter Tryd.func68, Tryd.ntmps68
      go_wp2_with fail
      refine (HBC.out _).mono ?_; rintro e w1 ⟨rfl, hw1⟩
      have hW1 := hA.trans (hw1.mono (by simp; omega))
      have c0 : w1.cell? ⟨w.heap.size, 0, none⟩ = some (.int .i64 7) := (hw1.cell (by simp; omega)).trans (by simp [go_sem])
      have c1 : w1.cell? ⟨w.heap.size, 1, none⟩ = some (.int .i64 num) := (hw1.cell (by simp; omega)).trans (by simp [go_sem])
      have c2 : w1.cell? ⟨w.heap.size, 2, none⟩ = some (.string t) := (hw1.cell (by simp; omega)).trans (by simp [go_sem])
      have c3 : w1.cell? ⟨w.heap.size, 3, none⟩ = some (.slice A ks.length ck) := (hw1.cell (by simp; omega)).trans (by simp [go_sem])
      have c4 : w1.cell? ⟨w.heap.size, 4, none⟩ = some (.slice A2 ns.length cc) := (hw1.cell (by simp; omega)).trans (by simp [go_sem])
      have cd : w1.cell? ⟨w.heap.size + 1, 0, none⟩ = some (.int .i64 deep) := (hw1.cell (by simp)).trans (by simp [go_sem])
      have hs1 : w.heap.size + 2 ≤ w1.heap.size := by have := hw1.size; simp at this; omega
      go_wp2_with fail
      go_ret
      exact ⟨by rw [HE.out]; rfl, hW1⟩
    have n4 : ((ks.length : Int) != (ns.length : Int)) = false := by rw [bne_eq_false_iff_eq]; omega
    cases kb with
    | false =>
      have hl2 : decide (ks.length = ns.length) = true := decide_eq_true hl
      clear hl
      have HE : Hid (V = false) := by show _ = _; rw [HV.out]; simp
      clear HV
      go_enter Tryd.func68, Tryd.ntmps68
      go_wp2_with fail
      refine (HBC.out _).mono ?_; rintro e w1 ⟨rfl, hw1⟩
      have hW1 := hA.trans (hw1.mono (by simp; omega))
      have c0 : w1.cell? ⟨w.heap.size, 0, none⟩ = some (.int .i64 7) := (hw1.cell (by simp; omega)).trans (by simp [go_sem])
      have c1 : w1.cell? ⟨w.heap.size, 1, none⟩ = some (.int .i64 num) := (hw1.cell (by simp; omega)).trans (by simp [go_sem])
      have c2 : w1.cell? ⟨w.heap.size, 2, none⟩ = some (.string t) := (hw1.cell (by simp; omega)).trans (by simp [go_sem])
      have c3 : w1.cell? ⟨w.heap.size, 3, none⟩ = some (.slice A ks.length ck) := (hw1.cell (by simp; omega)).trans (by simp [go_sem])
      have c4 : w1.cell? ⟨w.heap.size, 4, none⟩ = some (.slice A2 ns.length cc) := (hw1.cell (by simp; omega)).trans (by simp [go_sem])
      have cd : w1.cell? ⟨w.heap.size + 1, 0, none⟩ = some (.int .i64 deep) := (hw1.cell (by simp)).trans (by simp [go_sem])
      have hs1 : w.heap.size + 2 ≤ w1.heap.size := by have := hw1.size; simp at this; omega
      go_wp2_with fail
      refine (HKC.out _ hW1).mono ?_; rintro e w2 ⟨rfl, hw2⟩
      go_wp2_with fail
      go_ret
      exact ⟨by rw [HE.out]; rfl, hW1.trans (hw2.mono hW1.size)⟩
    | true =>
      have hl2 : decide (ks.length = ns.length) = true := decide_eq_true hl
      clear hl
      have HE : Hid (V = rl) := by show _ = _; rw [HV.out]; simp [hd', hl2]
      clear HV
      go_enter Tryd.func68, Tryd.ntmps68
      go_wp2_with fail
      refine (HBC.out _).mono ?_; rintro e w1 ⟨rfl, hw1⟩
      have hW1 := hA.trans (hw1.mono (by simp; omega))
      have c0 : w1.cell? ⟨w.heap.size, 0, none⟩ = some (.int .i64 7) := (hw1.cell (by simp; omega)).trans (by simp [go_sem])
      have c1 : w1.cell? ⟨w.heap.size, 1, none⟩ = some (.int .i64 num) := (hw1.cell (by simp; omega)).trans (by simp [go_sem])
      have c2 : w1.cell? ⟨w.heap.size, 2, none⟩ = some (.string t) := (hw1.cell (by simp; omega)).trans (by simp [go_sem])
      have c3 : w1.cell? ⟨w.heap.size, 3, none⟩ = some (.slice A ks.length ck) := (hw1.cell (by simp; omega)).trans (by simp [go_sem])
      have c4 : w1.cell? ⟨w.heap.size, 4, none⟩ = some (.slice A2 ns.length cc) := (hw1.cell (by simp; omega)).trans (by simp [go_sem])
      have cd : w1.cell? ⟨w.heap.size + 1, 0, none⟩ = some (.int .i64 deep) := (hw1.cell (by simp)).trans (by simp [go_sem])
      have hs1 : w.heap.size + 2 ≤ w1.heap.size := by have := hw1.size; simp at this; omega
      go_wp2_with fail
      refine (HKC.out _ hW1).mono ?_; rintro e w2 ⟨rfl, hw2⟩
      have hW2 := hW1.trans (hw2.mono hW1.size)
      have g4 : w2.cell? ⟨w.heap.size, 4, none⟩ = some (.slice A2 ns.length cc) := (hw2.cell (by simp; omega)).trans c4
      have gd : w2.cell? ⟨w.heap.size + 1, 0, none⟩ = some (.int .i64 deep) := (hw2.cell (by simp; omega)).trans cd
      have hs2 := hw2.size
      go_wp2_with fail
      refine (HCC.out _ _ hd' hW2 gd (by simp; omega)).mono ?_; rintro e w3 ⟨rfl, hw3⟩
      go_wp2_with fail
      go_ret
      exact ⟨by rw [HE.out]; simp, hW2.trans (hw3.mono hW2.size)⟩
  have HE : Hid (V = false) := by show _ = _; rw [HV.out]; simp [h1, h2, h3, h4, h5, h6, h7]
  clear HV
  go_enter Tryd.func68, Tryd.ntmps68
  go_wp2_with fail
  refine (HBC.out _).mono ?_; rintro e w1 ⟨rfl, hw1⟩
  have hW1 := hA.trans (hw1.mono (by simp; omega))
  have c0 : w1.cell? ⟨w.heap.size, 0, none⟩ = some (.int .i64 k) := (hw1.cell (by simp; omega)).trans (by simp [go_sem])
  have c1 : w1.cell? ⟨w.heap.size, 1, none⟩ = some (.int .i64 num) := (hw1.cell (by simp; omega)).trans (by simp [go_sem])
  have c2 : w1.cell? ⟨w.heap.size, 2, none⟩ = some (.string t) := (hw1.cell (by simp; omega)).trans (by simp [go_sem])
  have c3 : w1.cell? ⟨w.heap.size, 3, none⟩ = some (.slice A ks.length ck) := (hw1.cell (by simp; omega)).trans (by simp [go_sem])
  have c4 : w1.cell? ⟨w.heap.size, 4, none⟩ = some (.slice A2 ns.length cc) := (hw1.cell (by simp; omega)).trans (by simp [go_sem])
  have cd : w1.cell? ⟨w.heap.size + 1, 0, none⟩ = some (.int .i64 deep) := (hw1.cell (by simp)).trans (by simp [go_sem])
  have hs1 : w.heap.size + 2 ≤ w1.heap.size := by have := hw1.size; simp at this; omega
  go_wp2_with fail
  go_ret
  exact ⟨by rw [HE.out]; rfl, hW1⟩
theorem cright_any : ∀ (m : Nat) (n : Nd), n.count ≤ m → ∀ (B : Nat) (cs : List Value) (w : World) (deep : Int), NdIs w B n cs → B ≤ w.heap.size → 0 ≤ deep → deep ≤ 24 → RightC cs.toArray deep (rightD n deep) w := by
  intro m
  induction m with
  | zero => intro n hm; have := n.count_pos; omega
  | succ m ih =>
    intro n hm B cs w deep hn hB d0 d1
    cases n with
    | mk k num t ks ns =>
      unfold NdIs at hn
      obtain ⟨A, ck, A2, cc, xs, rfl, hks, hxs, hns, ik, inn, ht, hkl, hk, hmm⟩ := hn
      unfold maxLen at *
      refine cright_step k num t ks ns A A2 ck cc xs w B deep hks hxs hns ht hkl hk hmm hB d0 d1 ?_
      intro i n cs w' deep h1 h2 h3 h4 h5
      refine ih n ?_ B cs w' deep h2 h3 h4 h5
      have := Nd.counts_get ns i n h1
      simp only [Nd.count] at hm; omega
/-- canon's Right -/
theorem CRight_any (n : Nd) (cs : List Value) (w : World) (B : Nat) (hn : NdIs w B n cs) (hB : B ≤ w.heap.size) : Calls Tryd.prog 54 #[.agg cs.toArray] w (BoolBel (rightD n 0) w) := by
  have hl := hn.len
  have hW := Below.refl w.heap.size w
  match cs, hl with
  | [v0, v1, v2, v3, v4], _ =>
    have HC : Hid (∀ w', Below w.heap.size w w' → RightC #[v0, v1, v2, v3, v4] 0 (rightD n 0) w') := fun w' hb =>
      cright_any n.count n (Nat.le_refl _) B [v0, v1, v2, v3, v4] w' 0 (hn.below (hb.mono (by omega))) (by have := hb.size; omega) (by omega) (by omega)
    obtain ⟨x0, x1, x2, x3, x4, x5, x6, x7, x8, rfl, rfl, rfl, rfl, rfl⟩ := hn.form
    show Calls Tryd.prog 54 #[.agg #[_, _, _, _, _]] w (BoolBel _ w)
    clear hn
    generalize rightD n 0 = W at *
    go_enter Tryd.func54, Tryd.ntmps54
    go_wp2_with fail
    refine (HC.out _ (hW.alloc hW.size _)).mono ?_; rintro e w1 ⟨rfl, hw1⟩
    go_wp2_with fail
    go_ret
    exact ⟨rfl, nextA hW hw1⟩
end Go.Proofs.YthbjehbpanhdoaaDoor
/-! The walk of canon's Print. -/
namespace Go.Proofs.YthbjehbpanhdoaaDoor
open Go.RowKit Go.PlainAid
set_option linter.unusedVariables false
set_option linter.unusedSimpArgs false
noncomputable def printS (n : Nd) : ByteArray := if rightD n 0 = false then ⟨#[]⟩ else if 65536 < (outN n []).length then ⟨#[]⟩ else ⟨(outN n []).toArray⟩
noncomputable def printE (n : Nd) : Int := if rightD n 0 = false then 1 else if 65536 < (outN n []).length then 2 else 0
def StrErr (s : ByteArray) (k : Int) (w : World) (e : Ending) (w' : World) : Prop := e = .returned (.tuple #[.string s, .int .i64 k]) ∧ Below w.heap.size w w'
theorem decDigits_ne (u : Nat) : Lib.decDigits u ≠ [] := by
  unfold Lib.decDigits
  split <;> simp
end Go.Proofs.YthbjehbpanhdoaaDoor
/-! The walk of the reference's quote. -/
namespace Go.Proofs.YthbjehbpanhdoaaDoor
open Go.RowKit Go.PlainAid
set_option linter.unusedVariables false
set_option linter.unusedSimpArgs false
set_option maxRecDepth 100000
def nums (l : List UInt8) : List Int := l.map fun c => (c.toNat : Int)
theorem nums_app (a b : List UInt8) : nums (a ++ b) = nums a ++ nums b := by simp [nums]
theorem nums_len (a : List UInt8) : (nums a).length = a.length := by simp [nums]
theorem strOfNums_nums (l : List UInt8) : strOfNums (nums l) = ⟨l.toArray⟩ := by
  unfold strOfNums nums
  congr 1
  apply Array.ext'
  simp [Function.comp_def]
def OwnU (w : World) (B : Nat) (v : Value) (l : List UInt8) : Prop := OwnB w B v (nums l)
theorem OwnU.nil (w : World) (B : Nat) : OwnU w B (.slice none 0 0) [] := OwnB.nil w B
/-- blocks below B, and blocks above that are no rows of bytes, are as they were -/
def KU (B : Nat) (w w' : World) : Prop := Below B w w' ∧ Lib.OthersKept 5 none w w'
theorem KU.refl (B : Nat) (w : World) : KU B w w := ⟨Below.refl _ _, Lib.OthersKept.refl _ _ _⟩
theorem KU.trans {B : Nat} {w w1 w2 : World} (h : KU B w w1) (k : KU B w1 w2) : KU B w w2 := ⟨h.1.trans k.1, h.2.trans k.2⟩
theorem KU.old {B : Nat} {w w' : World} (k : Below w.heap.size w w') (hB : B ≤ w.heap.size) : KU B w w' :=
  ⟨k.mono hB, fun i o hi _ _ => (k.block i (bldLt hi)).trans hi⟩
theorem KU.alloc {B : Nat} {w w' : World} (h : KU B w w') (hB : B ≤ w'.heap.size) (o : Obj) : KU B w (w'.alloc o) := ⟨h.1.alloc hB o, h.2.alloc o⟩
theorem KU.blk {B : Nat} {w w' : World} (h : KU B w w') {x : Nat} {cs : Array Value} (hx : Blk w x 25 cs) : Blk w' x 25 cs :=
  h.2 x _ hx (by simp) (fun c fz e => by injection e with _ e2; exact absurd e2 (by decide))
theorem KU.of_grown {B : Nat} {w w' : World} {v : Value} {l : List UInt8} (h : OwnU w B v l) (hB : B ≤ w.heap.size) (hg : w.grownBy w' v.ownBlock) : KU B w w' :=
  ⟨(Below.refl _ _).grown hg hB (fun k hk => (World.ownsRow.lt h k hk).1), (Lib.OthersKept.refl _ _ w).grown hg (Lib.ownsRow_kind h)⟩
theorem OwnU.old {B : Nat} {v : Value} {l : List UInt8} {w w' : World} (h : OwnU w B v l) (k : Below w.heap.size w w') : OwnU w' B v l := by
  have hg : w.grownBy w' none := ⟨k.os, k.tape, k.output, k.size, fun i hi _ => k.block i hi⟩
  exact World.ownsRow.kept h hg (by cases v.ownBlock <;> simp)
theorem OwnU.conv {w : World} {B : Nat} {v : Value} {l : List UInt8} (h : OwnU w B v l) : (convert 52 9 v).run Tryd.prog w = .ok (.string ⟨l.toArray⟩) w := by
  rw [← strOfNums_nums]; exact OwnB.conv h
def OutIs (B : Nat) (l : List UInt8) (w : World) (e : Ending) (w' : World) : Prop := ∃ v', e = .returned v' ∧ OwnU w' B v' l ∧ KU B w w'
/-- the bytes of a string, appended -/
theorem wpList_pushS (w : World) {ops : Array Oper} {rest : List Oper} {o : Oper} {a : Act} {Q : Exit → Act → World → Prop} (hgd : o.guard = none) (s x : Operand)
    (ho : o.op = .call { callee := .builtin .append, args := #[s, x], argTypes := #[52, 9] })
    (B : Nat) (v : Value) (l : List UInt8) (hs : a.eval s = v) (hown : OwnU w B v l) (t : ByteArray) (hx : a.eval x = .string t) (m : List UInt8) (hm : t.toList = m)
    (hlim : l.length + m.length ≤ 120000000000000) (hB : B ≤ w.heap.size)
    (h : ∀ v' w', OwnU w' B v' (l ++ m) → KU B w w' → wpList Tryd.prog ops Q rest (a.put o.dst v') w') : wpList Tryd.prog ops Q (o :: rest) a w := by
  obtain ⟨i0, hi0, hz0, hz1, hz2⟩ := info_parts u8Info
  have hts : t.size = m.length := by rw [← hm]; exact (tl_len' t).symm
  refine Lib.wpList_append_own_string w hgd s x 52 9 ho B 5 i0 Tryd.underlying52 Tryd.underlying9 hi0 hz0 hz1 hz2 v (nums l).length _ hs hown t hx
    (by rw [nums_len]; simp only [maxLen]; omega) (by rw [nums_len]; omega) hB (fun v' w' h1 h2 _ => h v' w' ?_ (KU.of_grown hown hB h2))
  have e : (nums (l ++ m)).map (Value.int .u8) = (nums l).map (Value.int .u8) ++ Lib.strCells t := by
    rw [nums_app, List.map_append]
    congr 1
    subst hm
    rw [ByteArray.toList_eq]
    simp [nums, Lib.strCells]
  show w'.ownsRow B 5 1 v' (nums (l ++ m)).length ((nums (l ++ m)).map (Value.int .u8))
  rw [e, nums_app, List.length_append, nums_len m, ← hts]
  exact h1
end Go.Proofs.YthbjehbpanhdoaaDoor
/-! The walk of the reference's right. -/
namespace Go.Proofs.YthbjehbpanhdoaaDoor
open Go.RowKit Go.PlainAid
set_option linter.unusedVariables false
set_option linter.unusedSimpArgs false
def RrightC (vs : Array Value) (deep : Int) (b : Bool) (w : World) : Prop := Calls Tryd.prog 19 #[.agg vs, .int .i64 deep] w (BoolBel b w)
def RrightHyp (B : Nat) (ns : List Nd) : Prop := ∀ (i : Nat) (n : Nd) (cs : List Value) (w' : World) (deep : Int), ns[i]? = some n → NdIs w' B n cs → B ≤ w'.heap.size → 0 ≤ deep → deep ≤ 24 → RrightC cs.toArray deep (rightD n deep) w'
theorem rightD_eq (k num : Int) (t : ByteArray) (ks : List ByteArray) (ns : List Nd) (deep : Int) : rightD (.mk k num t ks ns) deep = (bareF k num t ks.length ns.length &&
    (k == 1 || k == 2 || k == 3 || (k == 4 && decide (-9007199254740991 ≤ num ∧ num ≤ 9007199254740991)) || (k == 5 && validB t.toList) ||
      ((k == 6 || k == 7) && decide (deep < 24) && (k == 6 || (decide (ks.length = ns.length) && keysB ks)) && rightLD ns (deep + 1)))) := by
    unfold rightLD rightD
    conv => lhs; unfold rightN
end Go.Proofs.YthbjehbpanhdoaaDoor
/-! The walk of the reference's right: an array. -/
namespace Go.Proofs.YthbjehbpanhdoaaDoor
open Go.RowKit Go.PlainAid
set_option linter.unusedVariables false
set_option linter.unusedSimpArgs false
end Go.Proofs.YthbjehbpanhdoaaDoor
/-! The walk of the reference's right: an object. -/
namespace Go.Proofs.YthbjehbpanhdoaaDoor
open Go.RowKit Go.PlainAid
set_option linter.unusedVariables false
set_option linter.unusedSimpArgs false
end Go.Proofs.YthbjehbpanhdoaaDoor
/-! The walk of the reference's right: the induction. -/
namespace Go.Proofs.YthbjehbpanhdoaaDoor
open Go.RowKit Go.PlainAid
set_option linter.unusedVariables false
set_option linter.unusedSimpArgs false
end Go.Proofs.YthbjehbpanhdoaaDoor
/-! A value's text as a plain function, and what the writer with its limit has of it. -/
namespace Go.Proofs.YthbjehbpanhdoaaDoor
open Go.RowKit Go.PlainAid
set_option linter.unusedVariables false
set_option linter.unusedSimpArgs false
mutual
/-- a value's text -/
def putU : Nd → List UInt8
  | .mk k num t ks ns =>
    if k = 1 then [110, 117, 108, 108] else if k = 2 then [102, 97, 108, 115, 101] else if k = 3 then [116, 114, 117, 101]
    else if k = 4 then Lib.itoa num else if k = 5 then quoteU t.toList else if k = 6 then [91] ++ putL (k == 7) ks ns true ++ [93] else [123] ++ putL (k == 7) ks ns true ++ [125]
def putL : Bool → List ByteArray → List Nd → Bool → List UInt8
  | _, _, [], _ => []
  | obj, ks, n :: ns, first => (if first = true then [] else [44]) ++ (if obj = true then quoteU (ks.headD ⟨#[]⟩).toList ++ [58] else []) ++ putU n ++ putL obj ks.tail ns false
end
/-- what a writer that stops behind its limit has of a text -/
def Cutted (a full : List UInt8) : Prop := a = full ∨ (65536 < a.length ∧ a.length ≤ full.length)
theorem Cutted.app {a f : List UInt8} (h : Cutted a f) (x : List UInt8) : Cutted (a ++ x) (f ++ x) := by
  rcases h with rfl | ⟨h1, h2⟩
  · exact .inl rfl
  · exact .inr ⟨by simp; omega, by simp; omega⟩
end Go.Proofs.YthbjehbpanhdoaaDoor
/-! What reading JSON computes: plain functions on lists of bytes. -/
namespace Go.Proofs.YthbjehbpanhdoaaDoor
open Go.RowKit Go.PlainAid
set_option linter.unusedVariables false
set_option linter.unusedSimpArgs false
def blankB (c : UInt8) : Bool := c == 32 || c == 9 || c == 10 || c == 13
def blanksL (l : List UInt8) : List UInt8 := l.dropWhile blankB
theorem blanksL_le (l : List UInt8) : (blanksL l).length ≤ l.length := (List.dropWhile_suffix _).length_le
def digB (c : UInt8) : Bool := decide (48 ≤ c.toNat ∧ c.toNat ≤ 57)
def valD (n : Int) (ds : List UInt8) : Int := ds.foldl (fun n c => n * 10 + ((c.toNat : Int) - 48)) n
def pointB (l : List UInt8) : Bool := match l with
  | [] => false
  | c :: _ => c == 46 || c == 101 || c == 69
def numTail (neg : Bool) (l : List UInt8) : Option (Int × List UInt8) :=
  if l.takeWhile digB = [] ∨ (1 < (l.takeWhile digB).length ∧ l.head? = some 48) ∨ 9007199254740991 < valD 0 (l.takeWhile digB) ∨ (neg = true ∧ valD 0 (l.takeWhile digB) = 0) ∨ pointB (l.dropWhile digB) = true then none
  else some (if neg = true then - valD 0 (l.takeWhile digB) else valD 0 (l.takeWhile digB), l.dropWhile digB)
def numL (l : List UInt8) : Option (Int × List UInt8) := if l.head? = some 45 then numTail true l.tail else numTail false l
def hexD (c : UInt8) : Option Int :=
  if 48 ≤ c.toNat ∧ c.toNat ≤ 57 then some ((c.toNat : Int) - 48) else if 97 ≤ c.toNat ∧ c.toNat ≤ 102 then some ((c.toNat : Int) - 87) else if 65 ≤ c.toNat ∧ c.toNat ≤ 70 then some ((c.toNat : Int) - 55) else none
def unitL : Nat → Int → List UInt8 → Option (Int × List UInt8)
  | 0, n, l => some (n, l)
  | _ + 1, _, [] => none
  | k + 1, n, c :: l => match hexD c with
    | none => none
    | some h => unitL k (n * 16 + h) l
def pointL (l : List UInt8) : Option (Int × List UInt8) :=
  match unitL 4 0 l with
  | none => none
  | some (n, r) => if n < 55296 ∨ 57343 < n then some (n, r) else if 56320 ≤ n then none else if r.take 2 = [92, 117] then
      (match unitL 4 0 (r.drop 2) with
      | none => none
      | some (low, r2) => if low < 56320 ∨ 57343 < low then none else some (65536 + (n % 1024) * 1024 + low % 1024, r2))
    else none
def escL (l : List UInt8) : Option (List UInt8 × List UInt8) :=
  match l with
  | [] => none
  | c :: r => if c = 34 ∨ c = 92 ∨ c = 47 then some ([c], r) else if c = 98 then some ([8], r) else if c = 102 then some ([12], r) else if c = 110 then some ([10], r) else if c = 114 then some ([13], r) else if c = 116 then some ([9], r)
    else if c = 117 then (match pointL r with
      | none => none
      | some (n, r2) => some (putB n, r2))
    else none
set_option maxRecDepth 20000 in
/-- a text behind its opening sign -/
def textT (l acc : List UInt8) : Option (List UInt8 × List UInt8) :=
  match l with
  | [] => none
  | c :: r => if c < 32 then none else if c = 34 then some (acc, r) else if c = 92 then (match escL r with
      | none => none
      | some (b, r2) => if r2.length ≤ r.length then textT r2 (acc ++ b) else none)
    else match decL (c :: r) with
      | none => none
      | some (_, m) => if 0 < m then textT ((c :: r).drop m) (acc ++ (c :: r).take m) else none
termination_by l.length
decreasing_by
  · simp only [List.length_cons]; omega
  · simp only [List.length_drop, List.length_cons]; omega
def textL (l : List UInt8) : Option (List UInt8 × List UInt8) := if l.head? = some 34 then textT l.tail [] else none
def nd0 (k : Int) : Nd := .mk k 0 ⟨#[]⟩ [] []
mutual
/-- a value within so many others -/
def valL (deep : Nat) (l : List UInt8) : Except Int (Nd × List UInt8) :=
  if (l.head? = some 91 ∨ l.head? = some 123) ∧ 24 ≤ deep then .error 4
  else if l.head? = some 91 then
    (if (blanksL l.tail).head? = some 93 then .ok (.mk 6 0 ⟨#[]⟩ [] [], (blanksL l.tail).tail) else if (blanksL l.tail).length < l.length then arrL deep (blanksL l.tail) [] else .error 3)
  else if l.head? = some 123 then
    (if (blanksL l.tail).head? = some 125 then .ok (.mk 7 0 ⟨#[]⟩ [] [], (blanksL l.tail).tail) else if (blanksL l.tail).length < l.length then objL deep (blanksL l.tail) [] [] else .error 3)
  else if l.head? = some 34 then
    (match textL l with
    | none => .error 3
    | some (t, r) => .ok (.mk 5 0 ⟨t.toArray⟩ [] [], r))
  else if l.take 4 = [110, 117, 108, 108] then .ok (nd0 1, l.drop 4)
  else if l.take 5 = [102, 97, 108, 115, 101] then .ok (nd0 2, l.drop 5)
  else if l.take 4 = [116, 114, 117, 101] then .ok (nd0 3, l.drop 4)
  else match numL l with
    | none => .error 3
    | some (n, r) => .ok (.mk 4 n ⟨#[]⟩ [] [], r)
termination_by 2 * l.length
decreasing_by all_goals omega
/-- the kids of an array, from one on -/
def arrL (deep : Nat) (l : List UInt8) (ns : List Nd) : Except Int (Nd × List UInt8) :=
  match valL (deep + 1) (blanksL l) with
  | .error e => .error e
  | .ok (n, r) => if (blanksL r).head? = some 93 then .ok (.mk 6 0 ⟨#[]⟩ [] (ns ++ [n]), (blanksL r).tail)
    else if (blanksL r).head? = some 44 then (if (blanksL r).tail.length < l.length then arrL deep (blanksL r).tail (ns ++ [n]) else .error 3)
    else .error 3
termination_by 2 * l.length + 1
decreasing_by
  · have := blanksL_le l; omega
  · omega
/-- the kids of an object, from a key on -/
def objL (deep : Nat) (l : List UInt8) (ks : List ByteArray) (ns : List Nd) : Except Int (Nd × List UInt8) :=
  match textL (blanksL l) with
  | none => .error 3
  | some (k, r) => if ks.any (fun s => s.toList == k) = true then .error 5
    else if (blanksL r).head? = some 58 then (if (blanksL (blanksL r).tail).length < l.length then
      (match valL (deep + 1) (blanksL (blanksL r).tail) with
      | .error e => .error e
      | .ok (n, r2) => if (blanksL r2).head? = some 125 then .ok (.mk 7 0 ⟨#[]⟩ (ks ++ [⟨k.toArray⟩]) (ns ++ [n]), (blanksL r2).tail)
        else if (blanksL r2).head? = some 44 then (if (blanksL r2).tail.length < l.length then objL deep (blanksL r2).tail (ks ++ [⟨k.toArray⟩]) (ns ++ [n]) else .error 3)
        else .error 3)
      else .error 3)
    else .error 3
termination_by 2 * l.length + 1
decreasing_by all_goals omega
end
def parseL (l : List UInt8) : Except Int Nd :=
  if 65536 < l.length then .error 2 else match valL 0 (blanksL l) with
  | .error e => .error e
  | .ok (n, r) => if blanksL r = [] then .ok n else .error 3
/-! what is left is a rest -/
theorem blanksL_suf (l : List UInt8) : blanksL l <:+ l := List.dropWhile_suffix _
theorem numTail_le {b : Bool} {l : List UInt8} {n : Int} {r : List UInt8} (h : numTail b l = some (n, r)) : r <:+ l ∧ r.length < l.length := by
  unfold numTail at h
  split at h
  · cases h
  · rename_i hn
    simp only [Option.some.injEq, Prod.mk.injEq] at h
    obtain ⟨_, rfl⟩ := h
    have h0 : l.takeWhile digB ≠ [] := fun e => hn (.inl e)
    have h1 : l.takeWhile digB ++ l.dropWhile digB = l := List.takeWhile_append_dropWhile
    have h2 := congrArg List.length h1
    rw [List.length_append] at h2
    have h3 : 0 < (l.takeWhile digB).length := List.length_pos_iff.2 h0
    exact ⟨List.dropWhile_suffix _, by omega⟩
theorem numL_le {l : List UInt8} {n : Int} {r : List UInt8} (h : numL l = some (n, r)) : r <:+ l ∧ r.length < l.length := by
  unfold numL at h
  split at h
  · have := numTail_le h
    cases l with
    | nil => simp at *
    | cons c l => exact ⟨this.1.trans (List.suffix_cons _ _), by have := this.2; simp at *; omega⟩
  · exact numTail_le h
theorem unitL_le : ∀ (k : Nat) (n : Int) (l : List UInt8) (m : Int) (r : List UInt8), unitL k n l = some (m, r) → r <:+ l ∧ r.length + k = l.length
  | 0, n, l, m, r, h => by
    unfold unitL at h; simp at h; obtain ⟨_, rfl⟩ := h; exact ⟨List.suffix_refl _, rfl⟩
  | k + 1, n, [], m, r, h => by unfold unitL at h; cases h
  | k + 1, n, c :: l, m, r, h => by
    unfold unitL at h
    split at h
    · cases h
    · have := unitL_le k _ l m r h
      exact ⟨this.1.trans (List.suffix_cons _ _), by simp; omega⟩
theorem hexD_bd {c : UInt8} {h : Int} (e : hexD c = some h) : 0 ≤ h ∧ h < 16 := by
  unfold hexD at e
  split at e
  · cases e; omega
  · split at e
    · cases e; omega
    · split at e
      · cases e; omega
      · cases e
theorem unitL_bd : ∀ (k : Nat) (n : Int) (l : List UInt8) (m : Int) (r : List UInt8), 0 ≤ n → unitL k n l = some (m, r) → 0 ≤ m ∧ m < (n + 1) * 16 ^ k
  | 0, n, l, m, r, h0, h => by unfold unitL at h; simp at h; obtain ⟨rfl, _⟩ := h; simp; omega
  | k + 1, n, [], m, r, h0, h => by unfold unitL at h; cases h
  | k + 1, n, c :: l, m, r, h0, h => by
    unfold unitL at h
    split at h
    · cases h
    · rename_i x hx
      have hb := hexD_bd hx
      have := unitL_bd k (n * 16 + x) l m r (by omega) h
      refine ⟨this.1, Int.lt_of_lt_of_le this.2 ?_⟩
      rw [Int.pow_succ, Int.mul_comm (16 ^ k) 16, ← Int.mul_assoc]
      exact Int.mul_le_mul_of_nonneg_right (by omega) (Int.pow_nonneg (by omega))
theorem pointL_le {l : List UInt8} {n : Int} {r : List UInt8} (h : pointL l = some (n, r)) : r <:+ l ∧ r.length < l.length := by
  unfold pointL at h
  split at h
  · cases h
  · rename_i n1 r1 h1
    have k1 := unitL_le _ _ _ _ _ h1
    split at h
    · simp at h; obtain ⟨_, rfl⟩ := h; exact ⟨k1.1, by omega⟩
    · split at h
      · cases h
      · split at h
        · split at h
          · cases h
          · rename_i n2 r2 h2
            have k2 := unitL_le _ _ _ _ _ h2
            split at h
            · cases h
            · simp at h
              obtain ⟨_, rfl⟩ := h
              have := List.length_drop (l := r1) (i := 2)
              exact ⟨(k2.1.trans (List.drop_suffix _ _)).trans k1.1, by omega⟩
        · cases h
theorem escL_le {l b r : List UInt8} (h : escL l = some (b, r)) : r <:+ l ∧ r.length < l.length := by
  unfold escL at h
  cases l with
  | nil => simp at h
  | cons c l =>
    have hs : l <:+ c :: l ∧ l.length < (c :: l).length := ⟨List.suffix_cons _ _, by simp⟩
    simp only at h
    split at h
    · cases h; exact hs
    split at h
    · cases h; exact hs
    split at h
    · cases h; exact hs
    split at h
    · cases h; exact hs
    split at h
    · cases h; exact hs
    split at h
    · cases h; exact hs
    split at h
    · split at h
      · cases h
      · rename_i n r2 h2
        cases h
        have := pointL_le h2
        exact ⟨this.1.trans hs.1, by have := this.2; simp; omega⟩
    · cases h
theorem textT_nil (acc : List UInt8) : textT [] acc = none := by rw [textT]
theorem textT_cons (c : UInt8) (r acc : List UInt8) : textT (c :: r) acc =
    if c < 32 then none else if c = 34 then some (acc, r) else if c = 92 then (match escL r with
      | none => none
      | some (b, r2) => textT r2 (acc ++ b))
    else match decL (c :: r) with
      | none => none
      | some (_, m) => textT ((c :: r).drop m) (acc ++ (c :: r).take m) := by
  conv => lhs; rw [textT]
  split
  · rfl
  split
  · rfl
  split
  · cases he : escL r with
    | none => rfl
    | some p =>
      obtain ⟨b, r2⟩ := p
      have := (escL_le he).2
      simp only
      rw [if_pos (by omega)]
  · cases he : decL (c :: r) with
    | none => rfl
    | some p =>
      obtain ⟨x, m⟩ := p
      have := (dec_le _ _ _ he).1
      simp only
      rw [if_pos this]
theorem textT_le : ∀ (k : Nat) (l acc b r : List UInt8), l.length ≤ k → textT l acc = some (b, r) → r <:+ l ∧ r.length < l.length
  | 0, l, acc, b, r, hk, h => by
    have : l = [] := List.eq_nil_of_length_eq_zero (by omega)
    subst this
    rw [textT_nil] at h; cases h
  | k + 1, [], acc, b, r, hk, h => by rw [textT_nil] at h; cases h
  | k + 1, c :: l, acc, b, r, hk, h => by
    rw [textT_cons] at h
    have hs : l <:+ c :: l ∧ l.length < (c :: l).length := ⟨List.suffix_cons _ _, by simp⟩
    simp only [List.length_cons] at hk
    split at h
    · cases h
    split at h
    · cases h; exact hs
    split at h
    · split at h
      · cases h
      · rename_i b2 r2 h2
        have k2 := escL_le h2
        have k3 := textT_le k _ _ _ _ (by omega) h
        exact ⟨(k3.1.trans k2.1).trans hs.1, by simp; omega⟩
    · split at h
      · cases h
      · rename_i x m h2
        have k2 := dec_le _ _ _ h2
        have hd := List.length_drop (l := c :: l) (i := m)
        simp only [List.length_cons] at hd k2
        have k3 := textT_le k _ _ _ _ (by omega) h
        exact ⟨k3.1.trans (List.drop_suffix _ _), by simp only [List.length_cons]; omega⟩
theorem textL_le {l b r : List UInt8} (h : textL l = some (b, r)) : r <:+ l ∧ r.length < l.length := by
  unfold textL at h
  split at h
  · have := textT_le _ _ _ _ _ (Nat.le_refl _) h
    cases l with
    | nil => simp at *
    | cons c l => exact ⟨this.1.trans (List.suffix_cons _ _), by have := this.2; simp at *; omega⟩
  · cases h
end Go.Proofs.YthbjehbpanhdoaaDoor
/-! Sizes of a value that is not great. -/
namespace Go.Proofs.YthbjehbpanhdoaaDoor
open Go.RowKit Go.PlainAid
set_option linter.unusedVariables false
set_option linter.unusedSimpArgs false
theorem Blk.cells5 {w : World} {g : Nat} {t : TypeId} {a b c d e : Value} (h : Blk w g t #[a, b, c, d, e]) : w.cell? ⟨g, 0, none⟩ = some a ∧ w.cell? ⟨g, 1, none⟩ = some b ∧ w.cell? ⟨g, 2, none⟩ = some c ∧ w.cell? ⟨g, 3, none⟩ = some d ∧ w.cell? ⟨g, 4, none⟩ = some e :=
  ⟨h.cell 0, h.cell 1, h.cell 2, h.cell 3, h.cell 4⟩
mutual
/-- numbers that an int64 holds, texts of no great size, at every depth -/
def sizeOk : Nd → Prop
  | .mk k num t ks ns => (-9223372036854775808 ≤ num ∧ num ≤ 9223372036854775807) ∧ t.size ≤ 1000000000 ∧ (∀ s ∈ ks, s.size ≤ 1000000000) ∧ (ks.length ≤ 1000000 ∧ ns.length ≤ 1000000) ∧ sizeOkL ns
def sizeOkL : List Nd → Prop
  | [] => True
  | n :: ns => sizeOk n ∧ sizeOkL ns
end
end Go.Proofs.YthbjehbpanhdoaaDoor
/-! Values in new memory: nodes whose blocks lie in a set; a slice of nodes of the call's own. -/
namespace Go.Proofs.YthbjehbpanhdoaaDoor
open Go.RowKit Go.PlainAid
set_option linter.unusedVariables false
set_option linter.unusedSimpArgs false
def RS (w : World) (S : Nat → Prop) (size : Nat) (A : Option Addr) (n : Nat) (xs : List Value) : Prop :=
  xs.length = n * size ∧ (0 < n → ∃ ad, A = some ad ∧ S ad.block ∧ ∀ j u, xs[j]? = some u → w.cell? (ad.add j) = some u)
theorem RS.keep {w w' : World} {S : Nat → Prop} {size n : Nat} {A : Option Addr} {xs : List Value} (h : RS w S size A n xs) (hk : ∀ p : Addr, S p.block → w'.cell? p = w.cell? p) : RS w' S size A n xs :=
  ⟨h.1, fun hn => by
    obtain ⟨ad, e, hb, hc⟩ := h.2 hn
    exact ⟨ad, e, hb, fun j u hu => (hk _ (by rw [block_of_add]; exact hb)).trans (hc j u hu)⟩⟩
theorem RS.mono {w : World} {S S' : Nat → Prop} {size n : Nat} {A : Option Addr} {xs : List Value} (h : RS w S size A n xs) (hs : ∀ b, S b → S' b) : RS w S' size A n xs :=
  ⟨h.1, fun hn => by
    obtain ⟨ad, e, hb, hc⟩ := h.2 hn
    exact ⟨ad, e, hs _ hb, hc⟩⟩
theorem RS.reads {w : World} {S : Nat → Prop} {size n B : Nat} {A : Option Addr} {xs : List Value} (h : RS w S size A n xs) (hs : ∀ b, S b → b < B) : Reads w B size A n xs := h.mono hs
theorem RS.none_ {w : World} {S : Nat → Prop} {size : Nat} {A : Option Addr} : RS w S size A 0 [] := ⟨by simp, fun h => absurd h (by omega)⟩
mutual
/-- these five cells are this node; what it refers to lies in blocks of a set -/
def NdIn (w : World) (S : Nat → Prop) : Nd → List Value → Prop
  | .mk k n t ks ns, cs => ∃ (A : Option Addr) (ck : Nat) (A2 : Option Addr) (c : Nat) (xs : List Value), cs = [.int .i64 k, .int .i64 n, .string t, .slice A ks.length ck, .slice A2 ns.length c] ∧
      RS w S 1 A ks.length (ks.map Value.string) ∧ RS w S 5 A2 ns.length xs ∧ NdsIn w S ns xs ∧
      I64 k ∧ I64 n ∧ t.size ≤ maxLen ∧ (∀ s ∈ ks, s.size ≤ maxLen) ∧ ks.length ≤ maxLen ∧ ns.length ≤ maxLen
def NdsIn (w : World) (S : Nat → Prop) : List Nd → List Value → Prop
  | [], xs => xs = []
  | n :: ns, xs => ∃ cs ys, xs = cs ++ ys ∧ NdIn w S n cs ∧ NdsIn w S ns ys
end
mutual
theorem NdIn.keep {w w' : World} {S S' : Nat → Prop} (hk : ∀ p : Addr, S p.block → w'.cell? p = w.cell? p) (hs : ∀ b, S b → S' b) : ∀ (n : Nd) (cs : List Value), NdIn w S n cs → NdIn w' S' n cs
  | .mk k m t ks ns, cs, h => by
    unfold NdIn at h ⊢
    obtain ⟨A, ck, A2, c, xs, h1, h2, h3, h4, h5⟩ := h
    exact ⟨A, ck, A2, c, xs, h1, (h2.keep hk).mono hs, (h3.keep hk).mono hs, NdsIn.keep hk hs ns xs h4, h5⟩
theorem NdsIn.keep {w w' : World} {S S' : Nat → Prop} (hk : ∀ p : Addr, S p.block → w'.cell? p = w.cell? p) (hs : ∀ b, S b → S' b) : ∀ (ns : List Nd) (xs : List Value), NdsIn w S ns xs → NdsIn w' S' ns xs
  | [], xs, h => by unfold NdsIn at h ⊢; exact h
  | n :: ns, xs, h => by
    unfold NdsIn at h ⊢
    obtain ⟨cs, ys, h1, h2, h3⟩ := h
    exact ⟨cs, ys, h1, NdIn.keep hk hs n cs h2, NdsIn.keep hk hs ns ys h3⟩
end
mutual
theorem NdIn.is {w : World} {S : Nat → Prop} {B : Nat} (hs : ∀ b, S b → b < B) : ∀ (n : Nd) (cs : List Value), NdIn w S n cs → NdIs w B n cs
  | .mk k m t ks ns, cs, h => by
    unfold NdIn at h
    unfold NdIs
    obtain ⟨A, ck, A2, c, xs, h1, h2, h3, h4, h5⟩ := h
    exact ⟨A, ck, A2, c, xs, h1, h2.reads hs, h3.reads hs, NdsIn.is hs ns xs h4, h5⟩
theorem NdsIn.is {w : World} {S : Nat → Prop} {B : Nat} (hs : ∀ b, S b → b < B) : ∀ (ns : List Nd) (xs : List Value), NdsIn w S ns xs → NdsIs w B ns xs
  | [], xs, h => by unfold NdsIn at h; unfold NdsIs; exact h
  | n :: ns, xs, h => by
    unfold NdsIn at h
    unfold NdsIs
    obtain ⟨cs, ys, h1, h2, h3⟩ := h
    exact ⟨cs, ys, h1, NdIn.is hs n cs h2, NdsIn.is hs ns ys h3⟩
end
mutual
theorem NdIs.in_ {w : World} {B : Nat} : ∀ (n : Nd) (cs : List Value), NdIs w B n cs → NdIn w (· < B) n cs
  | .mk k m t ks ns, cs, h => by
    unfold NdIs at h
    unfold NdIn
    obtain ⟨A, ck, A2, c, xs, h1, h2, h3, h4, h5⟩ := h
    exact ⟨A, ck, A2, c, xs, h1, h2, h3, NdsIs.in_ ns xs h4, h5⟩
theorem NdsIs.in_ {w : World} {B : Nat} : ∀ (ns : List Nd) (xs : List Value), NdsIs w B ns xs → NdsIn w (· < B) ns xs
  | [], xs, h => by unfold NdsIs at h; unfold NdsIn; exact h
  | n :: ns, xs, h => by
    unfold NdsIs at h
    unfold NdsIn
    obtain ⟨cs, ys, h1, h2, h3⟩ := h
    exact ⟨cs, ys, h1, NdIs.in_ n cs h2, NdsIs.in_ ns ys h3⟩
end
theorem NdIn.form {w : World} {S : Nat → Prop} {n : Nd} {cs : List Value} (h : NdIn w S n cs) : ∃ (k m : Int) (t : ByteArray) (A : Option Addr) (a c : Nat) (A2 : Option Addr) (b d : Nat),
    cs = [.int .i64 k, .int .i64 m, .string t, .slice A a c, .slice A2 b d] := by
  cases n
  unfold NdIn at h
  obtain ⟨A, ck, A2, c, xs, h1, _⟩ := h
  exact ⟨_, _, _, _, _, _, _, _, _, h1⟩
theorem NdsIn.app {w : World} {S : Nat → Prop} : ∀ (ns : List Nd) (xs : List Value) (n : Nd) (cs : List Value), NdsIn w S ns xs → NdIn w S n cs → NdsIn w S (ns ++ [n]) (xs ++ cs)
  | [], xs, n, cs, h, hn => by
    unfold NdsIn at h
    subst h
    show NdsIn w S (n :: []) _
    unfold NdsIn
    exact ⟨cs, [], by simp, hn, by unfold NdsIn; rfl⟩
  | m :: ns, xs, n, cs, h, hn => by
    unfold NdsIn at h
    obtain ⟨ds, ys, rfl, h2, h3⟩ := h
    show NdsIn w S (m :: (ns ++ [n])) _
    unfold NdsIn
    exact ⟨ds, ys ++ cs, by simp, h2, NdsIn.app ns ys n cs h3 hn⟩
theorem NdsIn.nil {w : World} {S : Nat → Prop} : NdsIn w S [] [] := by unfold NdsIn; rfl
theorem NdsIn.len {w : World} {S : Nat → Prop} : ∀ (ns : List Nd) (xs : List Value), NdsIn w S ns xs → xs.length = ns.length * 5
  | [], xs, h => by unfold NdsIn at h; subst h; rfl
  | n :: ns, xs, h => by
    unfold NdsIn at h
    obtain ⟨cs, ys, rfl, h2, h3⟩ := h
    obtain ⟨_, _, _, _, _, _, _, _, _, rfl⟩ := h2.form
    have := NdsIn.len ns ys h3
    simp; omega
theorem nodeInfo : (Tryd.prog.info? 25).map (fun i => (i.zero, i.size, i.bytes)) = some (some (.agg #[.int .i64 0, .int .i64 0, .string ⟨#[]⟩, .slice none 0 0, .slice none 0 0]), 5, 80) := by kernel_rfl
/-- blocks from h on that are not a slice's own -/
def SK (h : Nat) (w : World) (v : Value) (b : Nat) : Prop := h ≤ b ∧ b < w.heap.size ∧ v.ownBlock ≠ some b
theorem own_lt {w : World} {base size n : Nat} {e : TypeId} {v : Value} {xs : List Value} (h : w.ownsRow base e size v n xs) {g : Nat} (hg : v.ownBlock = some g) : base ≤ g ∧ g < w.heap.size := World.ownsRow.lt h g hg
/-- a node that stands in the newest block, appended to nodes of the call's own -/
theorem wpList_pushNd (w : World) {ops : Array Oper} {rest : List Oper} {o : Oper} {a : Act} {Q : Exit → Act → World → Prop} (hgd : o.guard = none) (s x : Operand)
    (ho : o.op = .call { callee := .builtin .append, args := #[s, x], argTypes := #[23, 23] })
    (B : Nat) (v : Value) (n : Nat) (xs : List Value) (hs : a.eval s = v) (hown : w.ownsRow B 25 5 v n xs) (c0 c1 : Int) (c2 : ByteArray) (c3 : Option Addr) (c4 c5 : Nat) (c6 : Option Addr) (c7 c8 : Nat)
    (hx : a.eval x = .slice (some ⟨w.heap.size, 0, none⟩) 1 1)
    (hlim : n + 1 ≤ 1000000000000) (hB : B ≤ w.heap.size)
    (h : ∀ v' w', w'.ownsRow B 25 5 v' (n + 1) (xs ++ [.int .i64 c0, .int .i64 c1, .string c2, .slice c3 c4 c5, .slice c6 c7 c8]) → w.grownBy w' v.ownBlock → (v'.ownBlock = v.ownBlock ∨ ∃ g, v'.ownBlock = some g ∧ w.heap.size ≤ g) → wpList Tryd.prog ops Q rest (a.put o.dst v') w') :
    wpList Tryd.prog ops Q (o :: rest) a (w.alloc (.cells #[.int .i64 c0, .int .i64 c1, .string c2, .slice c3 c4 c5, .slice c6 c7 c8] 25)) := by
  obtain ⟨i0, hi0, hz0, hz1, hz2⟩ := info_parts nodeInfo
  have hr : Reads (w.alloc (.cells #[.int .i64 c0, .int .i64 c1, .string c2, .slice c3 c4 c5, .slice c6 c7 c8] 25)) (w.heap.size + 1) 5 (some ⟨w.heap.size, 0, none⟩) 1 [.int .i64 c0, .int .i64 c1, .string c2, .slice c3 c4 c5, .slice c6 c7 c8] := by
    refine ⟨rfl, fun _ => ⟨_, rfl, by simp, fun j u hj => ?_⟩⟩
    have e : (⟨w.heap.size, 0, none⟩ : Addr).add j = ⟨w.heap.size, j, none⟩ := by unfold Addr.add; split <;> simp_all
    rw [e, World.cell?_alloc_mark]
    simpa using hj
  refine wpList_plain hgd fun K hK => ?_
  obtain ⟨v', w', h1, h2, h3, h4⟩ := run_append_any (P := Tryd.prog) _ B 23 o.type 25 i0 _ 5 80 Tryd.underlying23 hi0 hz0 hz1 hz2 rfl (by omega) v n _ (World.ownsRow.alloc hown _) (w.heap.size + 1) _ 1 1 _ hr
    (fun u hu => by simp at hu; rcases hu with rfl | rfl | rfl | rfl | rfl <;> rfl) (by simp only [maxLen]; omega) (by omega) (by simp; omega)
  unfold Oper.wp execOp
  simp only [ho, resolve, invoke, builtin, Sem.run_bind, Sem.run_pure, Result.andThen_ok, List.map_toArray, List.map_cons, List.map_nil, hs, hx, h1]
  refine hK _ _ (h v' w' h2 ((World.grownBy_alloc w _ _).trans h3) ?_)
  rcases h4 with h4 | h4
  · exact .inl h4
  · exact .inr ⟨_, h4, by simp⟩
theorem own_old {w w' : World} {base size n : Nat} {e : TypeId} {v : Value} {xs : List Value} (h : w.ownsRow base e size v n xs) (k : Below w.heap.size w w') : w'.ownsRow base e size v n xs := by
  have hg : w.grownBy w' none := ⟨k.os, k.tape, k.output, k.size, fun i hi _ => k.block i hi⟩
  exact World.ownsRow.kept h hg (by cases v.ownBlock <;> simp)
theorem own_form {w : World} {base size n : Nat} {e : TypeId} {v : Value} {xs : List Value} (h : w.ownsRow base e size v n xs) : ∃ A c, v = .slice A n c := by
  rcases h.2 with ⟨rfl, hx⟩ | ⟨g, cap, cur, rfl, _⟩
  · rw [hx]; exact ⟨_, _, rfl⟩
  · exact ⟨_, _, rfl⟩
/-- a slice of the call's own has grown: what lay beside it is as it was -/
theorem push_keep {h : Nat} {w w2 w3 : World} {v v' : Value} (hb : Below w.heap.size w w2) (hg : w2.grownBy w3 v.ownBlock) : ∀ p : Addr, SK h w v p.block → w3.cell? p = w.cell? p := fun p hp =>
  (World.cell?_of_block (hg.block p.block (by have := hb.size; have := hp.2.1; omega) (fun e => hp.2.2 e.symm))).trans (hb.cell hp.2.1)
theorem push_sub {h : Nat} {w w2 w3 : World} {v v' : Value} (hb : Below w.heap.size w w2) (hg : w2.grownBy w3 v.ownBlock) (hv : v'.ownBlock = v.ownBlock ∨ ∃ g, v'.ownBlock = some g ∧ w2.heap.size ≤ g) : ∀ b, SK h w v b → SK h w3 v' b := fun b hp => by
  refine ⟨hp.1, by have := hb.size; have := hg.size; have := hp.2.1; omega, ?_⟩
  rcases hv with e | ⟨g, e, hge⟩
  · rw [e]; exact hp.2.2
  · rw [e]; intro e2; injection e2 with e2; have := hb.size; have := hp.2.1; omega
theorem push_new_keep {B : Nat} {wa w2 w3 : World} {v : Value} (hg : w2.grownBy w3 v.ownBlock) (ho : ∀ g, v.ownBlock = some g → g < wa.heap.size) : ∀ p : Addr, wa.heap.size ≤ p.block ∧ p.block < w2.heap.size → w3.cell? p = w2.cell? p := fun p hp =>
  World.cell?_of_block (hg.block p.block hp.2 (fun e => by have := ho _ e.symm; omega))
theorem push_new_sub {h : Nat} {wa w2 w3 : World} {v v' : Value} (hh : h ≤ wa.heap.size) (hg : w2.grownBy w3 v.ownBlock) (ho : ∀ g, v.ownBlock = some g → g < wa.heap.size) (hv : v'.ownBlock = v.ownBlock ∨ ∃ g, v'.ownBlock = some g ∧ w2.heap.size ≤ g) :
    ∀ b, wa.heap.size ≤ b ∧ b < w2.heap.size → SK h w3 v' b := fun b hp => by
  refine ⟨by omega, by have := hg.size; omega, ?_⟩
  rcases hv with e | ⟨g, e, hge⟩
  · rw [e]; intro e2; have := ho b e2; omega
  · rw [e]; intro e2; injection e2 with e2; omega
end Go.Proofs.YthbjehbpanhdoaaDoor
