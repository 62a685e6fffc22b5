import Derived.Test.YtlmelclfdafhbaaChecked
import Derived.WalkKit
import Derived.WalkSpells
import Derived.WalkLawsBesides
import Derived.Laws.BytesArg
import Derived.Laws.IdiomStrings
import Derived.Lib.Hide
import Derived.Outline
import Derived.Deep.DeepFit
import Derived.Deep.DeepMust
import Derived.BigQuiet
import Derived.Deep.QuietTactic
import Derived.Deep.LoopGhost
import Derived.Below
import Derived.ChangeSame
namespace Go.Proofs.Ytlmelclfdafhbaa
open Go.RowKit
variable {P : Program}

/-! bits -/
theorem wraps_i64 (n : Int) (h₀ : 0 ≤ n) (h₁ : n < 2 ^ 63) : IntKind.i64.wrap n = n := by rw [IntKind.wrap_i64]; omega
theorem i64_mask (i : Nat) (hi : i ≤ 63) (x : Int) (h₀ : 0 ≤ x) (h₁ : x < 2 ^ 63) : bits .and .i64 x (2 ^ i - 1) = x % 2 ^ i :=
  bits_mask .i64 63 (by decide) wraps_i64 i hi x h₀ h₁
theorem i64_and63 (x : Int) (h₀ : 0 ≤ x) (h₁ : x < 9223372036854775808) : bits .and .i64 x 63 = x % 64 := i64_mask 6 (by decide) x h₀ h₁
theorem i64_join (i : Nat) (x y : Int) (hx₀ : 0 ≤ x) (hx : x % 2 ^ i = 0) (hx₁ : x < 2 ^ 63) (hy₀ : 0 ≤ y) (hy : y < 2 ^ i) (hy₁ : y < 2 ^ 63) : bits .or .i64 x y = x + y :=
  bits_join .i64 63 (by decide) wraps_i64 i x y hx₀ hx hx₁ hy₀ hy hy₁
/-- a literal slice of bytes, new, as a string -/
theorem conv_new (w : World) (src dst e : TypeId) (hs : P.underlying src = some (.slice e)) (he : P.underlying e = some (.int .u8)) (hd : P.underlying dst = some .string) (l : List Int) (fr : Nat × Nat) (c : Nat) :
    (convert src dst (.slice (some ⟨w.heap.size, 0, none⟩) l.length c)).run P (w.alloc (.cells (l.map (Value.int .u8)).toArray e fr)) = .ok (.string (strOfNums l)) (w.alloc (.cells (l.map (Value.int .u8)).toArray e fr)) := by
  refine run_convert_bytes_arg _ src e hs he _ 0 _ c l rfl (fun i hi => ?_) dst hd
  rw [Nat.zero_add, World.cell?_alloc_mark]
  simp [List.getD, hi]
theorem conv1 (src dst e : TypeId) (hs : P.underlying src = some (.slice e)) (he : P.underlying e = some (.int .u8)) (hd : P.underlying dst = some .string) (w : World) (a : Int) (c : Nat) :
    (convert src dst (.slice (some ⟨w.heap.size, 0, none⟩) 1 c)).run P (w.alloc (.cells #[.int .u8 a] e)) = .ok (.string (strOfNums [a])) (w.alloc (.cells #[.int .u8 a] e)) := conv_new w src dst e hs he hd [a] _ c
theorem conv2 (src dst e : TypeId) (hs : P.underlying src = some (.slice e)) (he : P.underlying e = some (.int .u8)) (hd : P.underlying dst = some .string) (w : World) (a b : Int) (c : Nat) :
    (convert src dst (.slice (some ⟨w.heap.size, 0, none⟩) 2 c)).run P (w.alloc (.cells #[.int .u8 a, .int .u8 b] e)) = .ok (.string (strOfNums [a, b])) (w.alloc (.cells #[.int .u8 a, .int .u8 b] e)) := conv_new w src dst e hs he hd [a, b] _ c
theorem conv3 (src dst e : TypeId) (hs : P.underlying src = some (.slice e)) (he : P.underlying e = some (.int .u8)) (hd : P.underlying dst = some .string) (w : World) (a b d : Int) (c : Nat) :
    (convert src dst (.slice (some ⟨w.heap.size, 0, none⟩) 3 c)).run P (w.alloc (.cells #[.int .u8 a, .int .u8 b, .int .u8 d] e)) = .ok (.string (strOfNums [a, b, d])) (w.alloc (.cells #[.int .u8 a, .int .u8 b, .int .u8 d] e)) := conv_new w src dst e hs he hd [a, b, d] _ c
theorem conv4 (src dst e : TypeId) (hs : P.underlying src = some (.slice e)) (he : P.underlying e = some (.int .u8)) (hd : P.underlying dst = some .string) (w : World) (a b d f : Int) (c : Nat) :
    (convert src dst (.slice (some ⟨w.heap.size, 0, none⟩) 4 c)).run P (w.alloc (.cells #[.int .u8 a, .int .u8 b, .int .u8 d, .int .u8 f] e)) = .ok (.string (strOfNums [a, b, d, f])) (w.alloc (.cells #[.int .u8 a, .int .u8 b, .int .u8 d, .int .u8 f] e)) := conv_new w src dst e hs he hd [a, b, d, f] _ c
/-- a string's cut at known places -/
theorem slice_str (t : TypeId) (hu : P.underlying t = some .string) (s : ByteArray) (i j : Int) (a b : Nat) (hi : i = a) (hj : j = b) (h1 : a ≤ b) (h2 : b ≤ s.size) (w : World) :
    (Instr.slice t (.string s) (some (.int .i64 i)) (some (.int .i64 j)) none).run P w = .ok (.string (s.extract a b)) w := by
  subst hi; subst hj
  rw [run_slice_string w t s .i64 .i64 a b hu (by omega) (by omega) (by omega)]
  simp
theorem nextB {w wa wb : World} (h : Below w.heap.size w wa) (k : Below wa.heap.size wa wb) : Below w.heap.size w wb := h.trans (k.mono h.size)
theorem nextA {w wa wb : World} {o : Obj} (h : Below w.heap.size w wa) (k : Below (wa.alloc o).heap.size (wa.alloc o) wb) : Below w.heap.size w wb := nextB (h.alloc h.size o) k
theorem nextAA {w wa wb : World} {o o' : Obj} (h : Below w.heap.size w wa) (k : Below ((wa.alloc o).alloc o').heap.size ((wa.alloc o).alloc o') wb) : Below w.heap.size w wb := nextA (h.alloc h.size o) k
theorem nextAD {w wa wb : World} {o : Obj} (h : Below w.heap.size w wa) (k : Below ((wa.alloc o).drew).heap.size ((wa.alloc o).drew) wb) : Below w.heap.size w wb := nextB ((h.alloc h.size o).drew) k
/-- what the walk is told of a slice of integers that came in -/
def IsRow (k : IntKind) (w : World) (a : Option Addr) (len cap : Nat) (zs : List Int) : Prop :=
  (a = none ∧ len = 0 ∧ cap = 0 ∧ zs = []) ∨
  ∃ x, a = some x ∧ len ≤ cap ∧ cap ≤ maxLen ∧ zs.length = cap ∧ (∀ i, i < zs.length → w.cell? (x.add i) = some (.int k (zs.getD i 0))) ∧ ∀ n ∈ zs, (Lit.int k n).wf = true
/- the row's last step: one of the guide's lemmas to copy -/
section
open Go.WideShapes Go.ChangeShapes
variable {H : Type} {enc : TypeId × Value → H} {P : Program}
theorem post_of_below {f : Func} {s : ChangeSpec} {apart fresh handsOn again : Bool} {W W' : World} {args : Array Value} {v : Value} {ds gs : List (DataW H)} {before pa pv : List MemPlace}
    (hW : DataW.Whole enc P f.params.toList s.vars apart W args.toList ds gs before)
    (hres : ∀ (b : Nat) (sp : Nat → Bool) (hd : Bool), DataW.TrodAll enc P W' b sp hd f.resultTypes.toList (v.resultList f.resultTypes.size) (s.fn H (ds ++ gs)).results [])
    (hargs : ∀ sp : Nat → Bool, (∀ p ∈ before, sp p.block = true) → DataW.TrodAll enc P W' 0 sp true f.params.toList args.toList (s.fn H (ds ++ gs)).args pa)
    (hvars : ∀ sp : Nat → Bool, (∀ p ∈ before, sp p.block = true) → DataW.TrodVars enc P W' sp s.vars (s.fn H (ds ++ gs)).vars pv)
    (hps : before = pa ++ pv) (hb : Below W.heap.size W W')
    (hok : ∀ (j : Nat) (t : TypeId) (r : Value), f.resultTypes[j]? = some t → (v.resultList f.resultTypes.size)[j]? = some r → Value.okWide P W' .any 0 t r) :
    s.post enc P f apart fresh handsOn again W args v W' := by
  have hlt : ∀ p ∈ before, p.block < W.heap.size := fun p hp => hW.lt p hp
  have hold : ∀ p ∈ before, (fun b => decide (b < W.heap.size)) p.block = true := fun p hp => by simpa using hlt p hp
  refine ⟨ds, gs, before, [], pa, pv, hW, hres _ _ _, hargs _ hold, hvars _ hold, World.keptBut_mono (fun p hp => ⟨hp, ?_⟩) (hb.frame (· ∈ before)), fun _ => ?_⟩
  · rw [hps, List.mem_append] at hp
    exact Or.inr hp
  · obtain ⟨_, _, _, _, _, hz, hn⟩ := hW
    refine ⟨hok, _, _, ([] ++ pa) ++ pv, ⟨[] ++ pa, pv, trodAll_append (hargs _ (fun _ _ => rfl)) (hres _ _ _), hvars _ (fun _ _ => rfl), rfl, ?_, ?_⟩, ?_⟩
    · intro b off hp
      have hin : MemPlace.cell b off ∈ before := by rw [hps]; simpa using hp
      rw [hb.frozen (hlt _ hin)]
      exact hz b off hin
    · intro ha
      have := hn ha
      rw [hps] at this
      simpa using this
    · intro p hp _
      rw [hps]
      simpa using hp
end
end Go.Proofs.Ytlmelclfdafhbaa
