/- Texts of one seat, one behind the other: Wnode, Wkids, Wnod2, MapB, Keys, Bare, Right0, Right1, Right2, Cprint, Rq, Rref1, Rref2, Rref3, Rref, Rput0, Sizes, Jr0, Jr1, Jr2, Jnum0, Jnum, Junit, Jpoint, Jesc. No condition. -/
import Derived.Test.YtnhoecmcbikcnaaQ1
import Derived.Maps.OwnOps
import Derived.Maps.Views
import Derived.StringKeys
import Derived.Lib.OwnKind
import Derived.Deep.RegionLaw
import Derived.Deep.RegionWith
import Derived.Deep.RegionHeld3
import Derived.Deep.LoopGhost
import Derived.BigQuiet
import Derived.Deep.QuietTactic
/-! The walks of the writer's node and kids. -/
namespace Go.Proofs.Ytnhoecmcbikcnaa
open Go.RowKit Go.PlainAid
set_option linter.unusedVariables false
set_option linter.unusedSimpArgs false
mutual
/-- what a writer holds behind a node, given what it holds ahead of it -/
def outN : Nd → List UInt8 → List UInt8
  | .mk k num t ks ns, acc =>
    if 65536 < acc.length then acc else if k = 1 then acc ++ [110, 117, 108, 108] else if k = 2 then acc ++ [102, 97, 108, 115, 101] else if k = 3 then acc ++ [116, 114, 117, 101]
    else if k = 4 then acc ++ Lib.itoa num else if k = 5 then acc ++ quoteU t.toList else if k = 6 then outL (k == 7) ks ns true (acc ++ [91]) ++ [93] else outL (k == 7) ks ns true (acc ++ [123]) ++ [125]
def outL : Bool → List ByteArray → List Nd → Bool → List UInt8 → List UInt8
  | _, _, [], _, acc => acc
  | obj, ks, n :: ns, first, acc => outL obj ks.tail ns false (outN n ((if first = true then acc else acc ++ [44]) ++ (if obj = true then quoteU (ks.headD ⟨#[]⟩).toList ++ [58] else [])))
end
mutual
/-- how much a node may add at most -/
def gN : Nd → Nat
  | .mk _ _ t ks ns => 40 + 6 * t.size + gL ks ns
def gL : List ByteArray → List Nd → Nat
  | _, [] => 0
  | ks, n :: ns => 10 + 6 * (ks.headD ⟨#[]⟩).size + gN n + gL ks.tail ns
end
theorem quoteU_le (t : List UInt8) : (quoteU t).length ≤ 2 + 6 * t.length := by
  unfold quoteU
  have := flat_le t
  simp only [List.length_append, List.length_cons, List.length_nil]; omega
theorem tl_len' (s : ByteArray) : s.toList.length = s.size := by rw [ByteArray.toList_eq]; simp
mutual
/-- an object has as many keys as kids, and a number that an int64 holds, at every depth -/
def goodN : Nd → Prop
  | .mk k num t ks ns => (-9223372036854775808 ≤ num ∧ num ≤ 9223372036854775807) ∧ (k = 7 → ks.length = ns.length) ∧ t.size ≤ 1000000000 ∧ (∀ s ∈ ks, s.size ≤ 1000000000) ∧ goodL ns
def goodL : List Nd → Prop
  | [] => True
  | n :: ns => goodN n ∧ goodL ns
end
mutual
theorem outN_le : ∀ (n : Nd) (acc : List UInt8), goodN n → (outN n acc).length ≤ acc.length + gN n
  | .mk k num t ks ns, acc, hi => by
    unfold outN gN
    unfold goodN at hi
    have hq := quoteU_le t.toList
    rw [tl_len'] at hq
    have h4 := Lib.itoa_length_le num hi.1.1 hi.1.2
    have h6 := outL_le (k == 7) ks ns true (acc ++ [91]) hi.2.2.2.2
    have h7 := outL_le (k == 7) ks ns true (acc ++ [123]) hi.2.2.2.2
    simp only [List.length_append, List.length_cons, List.length_nil] at h6 h7
    repeat' split
    all_goals first | omega | (simp only [List.length_append, List.length_cons, List.length_nil]; omega)
theorem outL_le : ∀ (obj : Bool) (ks : List ByteArray) (ns : List Nd) (first : Bool) (acc : List UInt8), goodL ns → (outL obj ks ns first acc).length ≤ acc.length + gL ks ns
  | obj, ks, [], first, acc, hi => by unfold outL gL; omega
  | obj, ks, n :: ns, first, acc, hi => by
    unfold outL gL
    unfold goodL at hi
    have h1 := outL_le obj ks.tail ns false (outN n ((if first = true then acc else acc ++ [44]) ++ (if obj = true then quoteU (ks.headD ⟨#[]⟩).toList ++ [58] else []))) hi.2
    have h2 := outN_le n ((if first = true then acc else acc ++ [44]) ++ (if obj = true then quoteU (ks.headD ⟨#[]⟩).toList ++ [58] else [])) hi.1
    have hq := quoteU_le (ks.headD ⟨#[]⟩).toList
    rw [tl_len'] at hq
    have h3 : ((if first = true then acc else acc ++ [44]) ++ (if obj = true then quoteU (ks.headD ⟨#[]⟩).toList ++ [58] else [])).length ≤ acc.length + 1 + (6 * (ks.headD ⟨#[]⟩).size + 3) := by
      rw [List.length_append]
      have a1 : (if first = true then acc else acc ++ [44]).length ≤ acc.length + 1 := by split <;> simp
      have a2 : (if obj = true then quoteU (ks.headD ⟨#[]⟩).toList ++ [58] else []).length ≤ 6 * (ks.headD ⟨#[]⟩).size + 3 := by
        split
        · rw [List.length_append, List.length_cons, List.length_nil]; omega
        · simp
      omega
    omega
end
theorem outL_at (obj : Bool) (ks : List ByteArray) (ns : List Nd) (i : Nat) (n : Nd) (s : ByteArray) (first : Bool) (acc : List UInt8) (h : ns[i]? = some n) (hs : obj = true → ks[i]? = some s) :
    outL obj (ks.drop i) (ns.drop i) first acc = outL obj (ks.drop (i + 1)) (ns.drop (i + 1)) false (outN n ((if first = true then acc else acc ++ [44]) ++ (if obj = true then quoteU s.toList ++ [58] else []))) := by
  rw [List.drop_eq_getElem_cons (List.getElem?_eq_some_iff.1 h).1, (List.getElem?_eq_some_iff.1 h).2]
  conv => lhs; unfold outL
  have ht : (ks.drop i).tail = ks.drop (i + 1) := by rw [List.tail_drop]
  rw [ht]
  cases obj with
  | false => rfl
  | true =>
    have hk := hs rfl
    have hh : (ks.drop i).headD ⟨#[]⟩ = s := by
      rw [List.drop_eq_getElem_cons (List.getElem?_eq_some_iff.1 hk).1, (List.getElem?_eq_some_iff.1 hk).2]; rfl
    rw [hh]
theorem gL_at (ks : List ByteArray) (ns : List Nd) (i : Nat) (n : Nd) (h : ns[i]? = some n) : gL (ks.drop i) (ns.drop i) = 10 + 6 * ((ks.drop i).headD ⟨#[]⟩).size + gN n + gL (ks.drop (i + 1)) (ns.drop (i + 1)) := by
  rw [List.drop_eq_getElem_cons (List.getElem?_eq_some_iff.1 h).1, (List.getElem?_eq_some_iff.1 h).2]
  conv => lhs; unfold gL
  rw [List.tail_drop]
theorem goodL_at (ns : List Nd) (i : Nat) (n : Nd) (h : ns[i]? = some n) (hg : goodL ns) : goodN n := by
  induction ns generalizing i with
  | nil => simp at h
  | cons a ns ih =>
    unfold goodL at hg
    cases i with
    | zero => simp at h; subst h; exact hg.1
    | succ i => exact ih i (by simpa using h) hg.2
end Go.Proofs.Ytnhoecmcbikcnaa
/-! The walk of the writer's kids. -/
namespace Go.Proofs.Ytnhoecmcbikcnaa
open Go.RowKit Go.PlainAid
set_option linter.unusedVariables false
set_option linter.unusedSimpArgs false
theorem Kept.alloc {B b : Nat} {w w' : World} (h : Kept B b w w') (hB : B ≤ w'.heap.size) (o : Obj) : Kept B b w (w'.alloc o) := ⟨h.1.alloc hB o, h.2.alloc o⟩
theorem Kept.blk {B b : Nat} {w w' : World} (h : Kept B b w w') {x : Nat} {cs : Array Value} (hx : Blk w x 27 cs) (hne : x ≠ b) : Blk w' x 27 cs :=
  h.2 x _ hx (by intro e; injection e with e; exact hne e) (fun c fz e => by injection e with _ e2; exact absurd e2 (by decide))
theorem Kept.reads {B b : Nat} {w w' : World} (h : Kept B b w w') {size n : Nat} {A : Option Addr} {xs : List Value} (hr : Reads w B size A n xs) : Reads w' B size A n xs := hr.keep fun p hp => h.1.cell hp
theorem Kept.nds {B b : Nat} {w w' : World} (h : Kept B b w w') {ns : List Nd} {xs : List Value} (hr : NdsIs w B ns xs) : NdsIs w' B ns xs := NdsIs.keep (fun p hp => h.1.cell hp) _ _ hr
theorem cell_str {B b : Nat} {w w' : World} {A : Option Addr} {ks : List ByteArray} (h : Reads w B 1 A ks.length (ks.map Value.string)) (k : Kept B b w w') {i : Nat} {s : ByteArray} (hs : ks[i]? = some s) : ∃ ad, A = some ad ∧ ad.block < B ∧ w'.cell? (ad.add i) = some (.string s) := by
  obtain ⟨ad, s', e, hb, hs', hc⟩ := (k.reads h).str (List.getElem?_eq_some_iff.1 hs).1
  rw [hs] at hs'
  injection hs' with hs'
  subst hs'
  exact ⟨ad, e, hb, hc⟩
end Go.Proofs.Ytnhoecmcbikcnaa
/-! The walk of the writer's node. -/
namespace Go.Proofs.Ytnhoecmcbikcnaa
open Go.RowKit Go.PlainAid
set_option linter.unusedVariables false
set_option linter.unusedSimpArgs false
theorem Kept.old {B b : Nat} {w w' : World} (k : Below w.heap.size w w') (hB : B ≤ w.heap.size) : Kept B b w w' :=
  ⟨k.mono hB, fun i o hi _ _ => (k.block i (bldLt hi)).trans hi⟩
theorem len_gL : ∀ (ns : List Nd) (ks : List ByteArray), 10 * ns.length ≤ gL ks ns
  | [], ks => by simp
  | n :: ns, ks => by
    unfold gL
    have := len_gL ns ks.tail
    simp only [List.length_cons]; omega
end Go.Proofs.Ytnhoecmcbikcnaa
/-! Look-ups in a call's own map whose elements are bools. -/
namespace Go.Proofs.Ytnhoecmcbikcnaa
open Go.RowKit Go.PlainAid
open Go.Maps (Keyed)
set_option linter.unusedVariables false
set_option linter.unusedSimpArgs false
theorem plainElem_bool_inv {H : Type} {P : Program} {e : TypeId} (he : P.underlying e = some .bool) {v : Value} {z : DataW H × List MemPlace} (h : plainElem P e v = some z) : ∃ x, v = .bool x ∧ z = (.lit (.bool x), []) := by
  unfold plainElem at h
  rw [he] at h
  cases v <;> simp at h
  exact ⟨_, rfl, h.symm⟩
theorem lookup_bool {H : Type} {P : Program} {w : World} {k t e : TypeId} {b n : Nat} {D : DataW H} (h : w.ownsMap P k (plainElem P e) b n D) (K : Keyed P k) (ht : P.underlying t = some (.map k e)) (he : P.underlying e = some .bool) (hz : (zeroValue e).run P w = .ok (.bool false) w)
    {key : Value} {kl : Lit} (hkey : keyOf P k key = some kl) : ∃ c, (Instr.lookup t (.map (some b)) key false).run P w = .ok (.bool c) w ∧ D.atKey kl (.lit (.bool false)) = .lit (.bool c) := by
  obtain ⟨v, ps, hrun, hv⟩ := h.lookup K ht hz (plainElem_bool he false) hkey
  obtain ⟨c, rfl, hc⟩ := plainElem_bool_inv he hv
  simp only [Prod.mk.injEq] at hc
  exact ⟨c, hrun, hc.1⟩
theorem wpList_lookup_own_bool {H : Type} {P : Program} (w : World) {ops : Array Oper} {rest : List Oper} {o : Oper} {a : Act} {Q : Exit → Act → World → Prop}
    (hg : o.guard = none) (m x : Operand) (t : TypeId) (hop : o.op = Op.lookup t m x false)
    (k e : TypeId) (K : Keyed P k) (ht : P.underlying t = some (.map k e)) (he : P.underlying e = some .bool) (hz : (zeroValue e).run P w = .ok (.bool false) w) (b n : Nat) (D : DataW H)
    (hm : a.eval m = .map (some b)) (hown : w.ownsMap P k (plainElem P e) b n D) (key : Value) (kl : Lit) (hx : a.eval x = key) (hkey : keyOf P k key = some kl)
    (hK : ∀ c : Bool, D.atKey kl (.lit (.bool false)) = .lit (.bool c) → wpList P ops Q rest (a.put o.dst (.bool c)) w) :
    wpList P ops Q (o :: rest) a w := by
  refine wpList_plain hg fun K' hK' => ?_
  obtain ⟨c, hrun, hat⟩ := lookup_bool hown K ht he hz hkey
  unfold Oper.wp
  simp [execOp, hop, hm, hx, hrun, Result.andThen]
  exact hK' _ _ (hK c hat)
end Go.Proofs.Ytnhoecmcbikcnaa
/-! The walk of keys: whether an object's keys may be. -/
namespace Go.Proofs.Ytnhoecmcbikcnaa
open Go.RowKit Go.PlainAid
open Go.Maps (Keyed)
open Go.ChangeMaps Go.MapKept
set_option linter.unusedVariables false
set_option linter.unusedSimpArgs false
open Classical in
/-- whether keys may be: unlike ones, each valid -/
noncomputable def keysB (ks : List ByteArray) : Bool := decide (ks.Nodup ∧ ∀ s ∈ ks, validB s.toList = true)
theorem keysB_twice {ks : List ByteArray} {i : Nat} {s : ByteArray} (hs : ks[i]? = some s) (hm : s ∈ ks.take i) : keysB ks = false := by
  unfold keysB
  refine decide_eq_false fun ⟨hn, _⟩ => ?_
  rw [← List.take_append_drop i ks, List.nodup_append] at hn
  refine hn.2.2 s hm s ?_ rfl
  rw [List.drop_eq_getElem_cons (List.getElem?_eq_some_iff.1 hs).1, (List.getElem?_eq_some_iff.1 hs).2]
  exact List.mem_cons_self
theorem keysB_bad {ks : List ByteArray} {i : Nat} {s : ByteArray} (hs : ks[i]? = some s) (hm : validB s.toList = false) : keysB ks = false := by
  unfold keysB
  refine decide_eq_false fun ⟨_, h⟩ => ?_
  rw [h s (List.mem_of_getElem? hs)] at hm
  cases hm
theorem take_snoc {α : Type} {l : List α} {i : Nat} {s : α} (hs : l[i]? = some s) : l.take (i + 1) = l.take i ++ [s] := by
  rw [List.take_add_one, hs]; rfl
theorem keyLaw : Keyed Try.prog 9 := Maps.string_keyed Try.underlying9
theorem zeroBool (w : World) : (zeroValue 4).run Try.prog w = .ok (.bool false) w := by kernel_rfl
open Classical in
/-- a map that holds just the keys of a list -/
def Seen (l : List ByteArray) (D : DataW Nat) : Prop := ∀ s : ByteArray, D.atKey (.string s.data.toList) (.lit (.bool false)) = .lit (.bool (decide (s ∈ l)))
theorem seen_nil : Seen [] (.map []) := fun s => by simp [DataW.atKey]
theorem seen_put {l : List ByteArray} {D : DataW Nat} (h : Seen l D) (hm : Maps.IsMap D) (s : ByteArray) : Seen (l ++ [s]) (D.put (.string s.data.toList) (.lit (.bool true))) := by
  intro u
  by_cases e : u = s
  · subst e
    rw [Maps.atKey_put_same hm (by trivial)]
    simp
  · have hne : (Lit.string u.data.toList) ≠ .string s.data.toList := by
      intro h
      injection h with h
      apply e
      cases u; cases s; simp at h; rw [h]
    rw [Maps.atKey_put_other hne, h u]
    simp [e]
end Go.Proofs.Ytnhoecmcbikcnaa
/-! The walk of bare. -/
namespace Go.Proofs.Ytnhoecmcbikcnaa
open Go.RowKit Go.PlainAid
set_option linter.unusedVariables false
set_option linter.unusedSimpArgs false
def bareF (k num : Int) (t : ByteArray) (a b : Nat) : Bool := (k == 4 || num == 0) && (k == 5 || decide (t = ⟨#[]⟩)) && (k == 7 || a == 0) && (k == 6 || k == 7 || b == 0)
end Go.Proofs.Ytnhoecmcbikcnaa
/-! Whether a node may stand within so many others: as a plain function. -/
namespace Go.Proofs.Ytnhoecmcbikcnaa
open Go.RowKit Go.PlainAid
set_option linter.unusedVariables false
set_option linter.unusedSimpArgs false
mutual
/-- whether a node may stand within so many others -/
noncomputable def rightN (most : Int) (nest : Int) : Nd → Int → Bool
  | .mk k num t ks ns, deep => bareF k num t ks.length ns.length &&
    (k == 1 || k == 2 || k == 3 || (k == 4 && decide (-most ≤ num ∧ num ≤ most)) || (k == 5 && validB t.toList) ||
      ((k == 6 || k == 7) && decide (deep < nest) && (k == 6 || (decide (ks.length = ns.length) && keysB ks)) && rightL most nest ns (deep + 1)))
noncomputable def rightL (most : Int) (nest : Int) : List Nd → Int → Bool
  | [], _ => true
  | n :: ns, deep => rightN most nest n deep && rightL most nest ns deep
end
theorem rightL_all (most nest : Int) (ns : List Nd) (deep : Int) : rightL most nest ns deep = ns.all (fun n => rightN most nest n deep) := by
  induction ns with
  | nil => unfold rightL; rfl
  | cons n ns ih => unfold rightL; rw [ih]; rfl
theorem rightL_bad (most nest : Int) (ns : List Nd) (deep : Int) (i : Nat) (n : Nd) (h : ns[i]? = some n) (hb : rightN most nest n deep = false) : rightL most nest ns deep = false := by
  rw [rightL_all, List.all_eq_false]
  exact ⟨n, List.mem_of_getElem? h, by simp [hb]⟩
end Go.Proofs.Ytnhoecmcbikcnaa
/-! The walk of canon's right. -/
namespace Go.Proofs.Ytnhoecmcbikcnaa
open Go.RowKit Go.PlainAid
set_option linter.unusedVariables false
set_option linter.unusedSimpArgs false
noncomputable def rightD (n : Nd) (deep : Int) : Bool := rightN 9007199254740991 24 n deep
noncomputable def rightLD (ns : List Nd) (deep : Int) : Bool := rightL 9007199254740991 24 ns deep
theorem rightLD_nil (deep : Int) : rightLD [] deep = true := by unfold rightLD rightL; rfl
theorem rightLD_at (ns : List Nd) (i : Nat) (n : Nd) (deep : Int) (h : ns[i]? = some n) : rightLD (ns.drop i) deep = (rightD n deep && rightLD (ns.drop (i + 1)) deep) := by
  rw [List.drop_eq_getElem_cons (List.getElem?_eq_some_iff.1 h).1, (List.getElem?_eq_some_iff.1 h).2]
  unfold rightLD rightD
  conv => lhs; unfold rightL
def IdxPost (b : Bool) (w : World) (e : Ending) (w' : World) : Prop := ∃ v : Int, e = .returned (.int .i64 v) ∧ decide (0 ≤ v) = !b ∧ Below w.heap.size w w'
end Go.Proofs.Ytnhoecmcbikcnaa
/-! The walk of canon's right: the induction. -/
namespace Go.Proofs.Ytnhoecmcbikcnaa
open Go.RowKit Go.PlainAid
set_option linter.unusedVariables false
set_option linter.unusedSimpArgs false
end Go.Proofs.Ytnhoecmcbikcnaa
/-! The walk of canon's Print. -/
namespace Go.Proofs.Ytnhoecmcbikcnaa
open Go.RowKit Go.PlainAid
set_option linter.unusedVariables false
set_option linter.unusedSimpArgs false
noncomputable def printS (n : Nd) : ByteArray := if rightD n 0 = false then ⟨#[]⟩ else if 65536 < (outN n []).length then ⟨#[]⟩ else ⟨(outN n []).toArray⟩
noncomputable def printE (n : Nd) : Int := if rightD n 0 = false then 1 else if 65536 < (outN n []).length then 2 else 0
def StrErr (s : ByteArray) (k : Int) (w : World) (e : Ending) (w' : World) : Prop := e = .returned (.tuple #[.string s, .int .i64 k]) ∧ Below w.heap.size w w'
theorem decDigits_ne (u : Nat) : Lib.decDigits u ≠ [] := by
  unfold Lib.decDigits
  split <;> simp
theorem itoa_ne (n : Int) : Lib.itoa n ≠ [] := by
  unfold Lib.itoa
  split
  · simp
  · exact decDigits_ne _
theorem outN_ne (n : Nd) : outN n [] ≠ [] := by
  cases n
  unfold outN
  rw [if_neg (by simp)]
  repeat' split
  all_goals first | (simp; done) | (simp only [List.nil_append]; exact itoa_ne _) | (simp only [List.nil_append]; unfold quoteU; simp)
end Go.Proofs.Ytnhoecmcbikcnaa
/-! The walk of the reference's quote. -/
namespace Go.Proofs.Ytnhoecmcbikcnaa
open Go.RowKit Go.PlainAid
set_option linter.unusedVariables false
set_option linter.unusedSimpArgs false
set_option maxRecDepth 100000
def nums (l : List UInt8) : List Int := l.map fun c => (c.toNat : Int)
theorem nums_app (a b : List UInt8) : nums (a ++ b) = nums a ++ nums b := by simp [nums]
theorem nums_len (a : List UInt8) : (nums a).length = a.length := by simp [nums]
theorem strOfNums_nums (l : List UInt8) : strOfNums (nums l) = ⟨l.toArray⟩ := by
  unfold strOfNums nums
  congr 1
  apply Array.ext'
  simp [Function.comp_def]
def OwnU (w : World) (B : Nat) (v : Value) (l : List UInt8) : Prop := OwnB w B v (nums l)
theorem OwnU.nil (w : World) (B : Nat) : OwnU w B (.slice none 0 0) [] := OwnB.nil w B
/-- blocks below B, and blocks above that are no rows of bytes, are as they were -/
def KU (B : Nat) (w w' : World) : Prop := Below B w w' ∧ Lib.OthersKept 5 none w w'
theorem KU.refl (B : Nat) (w : World) : KU B w w := ⟨Below.refl _ _, Lib.OthersKept.refl _ _ _⟩
theorem KU.trans {B : Nat} {w w1 w2 : World} (h : KU B w w1) (k : KU B w1 w2) : KU B w w2 := ⟨h.1.trans k.1, h.2.trans k.2⟩
theorem KU.old {B : Nat} {w w' : World} (k : Below w.heap.size w w') (hB : B ≤ w.heap.size) : KU B w w' :=
  ⟨k.mono hB, fun i o hi _ _ => (k.block i (bldLt hi)).trans hi⟩
theorem KU.alloc {B : Nat} {w w' : World} (h : KU B w w') (hB : B ≤ w'.heap.size) (o : Obj) : KU B w (w'.alloc o) := ⟨h.1.alloc hB o, h.2.alloc o⟩
theorem KU.blk {B : Nat} {w w' : World} (h : KU B w w') {x : Nat} {cs : Array Value} (hx : Blk w x 27 cs) : Blk w' x 27 cs :=
  h.2 x _ hx (by simp) (fun c fz e => by injection e with _ e2; exact absurd e2 (by decide))
theorem KU.of_grown {B : Nat} {w w' : World} {v : Value} {l : List UInt8} (h : OwnU w B v l) (hB : B ≤ w.heap.size) (hg : w.grownBy w' v.ownBlock) : KU B w w' :=
  ⟨(Below.refl _ _).grown hg hB (fun k hk => (World.ownsRow.lt h k hk).1), (Lib.OthersKept.refl _ _ w).grown hg (Lib.ownsRow_kind h)⟩
theorem OwnU.old {B : Nat} {v : Value} {l : List UInt8} {w w' : World} (h : OwnU w B v l) (k : Below w.heap.size w w') : OwnU w' B v l := by
  have hg : w.grownBy w' none := ⟨k.os, k.tape, k.output, k.size, fun i hi _ => k.block i hi⟩
  exact World.ownsRow.kept h hg (by cases v.ownBlock <;> simp)
theorem OwnU.conv {w : World} {B : Nat} {v : Value} {l : List UInt8} (h : OwnU w B v l) : (convert 22 9 v).run Try.prog w = .ok (.string ⟨l.toArray⟩) w := by
  rw [← strOfNums_nums]; exact OwnB.conv h
def OutIs (B : Nat) (l : List UInt8) (w : World) (e : Ending) (w' : World) : Prop := ∃ v', e = .returned v' ∧ OwnU w' B v' l ∧ KU B w w'
/-- the bytes of a string, appended -/
theorem wpList_pushS (w : World) {ops : Array Oper} {rest : List Oper} {o : Oper} {a : Act} {Q : Exit → Act → World → Prop} (hgd : o.guard = none) (s x : Operand)
    (ho : o.op = .call { callee := .builtin .append, args := #[s, x], argTypes := #[22, 9] })
    (B : Nat) (v : Value) (l : List UInt8) (hs : a.eval s = v) (hown : OwnU w B v l) (t : ByteArray) (hx : a.eval x = .string t) (m : List UInt8) (hm : t.toList = m)
    (hlim : l.length + m.length ≤ 120000000000000) (hB : B ≤ w.heap.size)
    (h : ∀ v' w', OwnU w' B v' (l ++ m) → KU B w w' → wpList Try.prog ops Q rest (a.put o.dst v') w') : wpList Try.prog ops Q (o :: rest) a w := by
  obtain ⟨i0, hi0, hz0, hz1, hz2⟩ := info_parts u8Info
  have hts : t.size = m.length := by rw [← hm]; exact (tl_len' t).symm
  refine Lib.wpList_append_own_string w hgd s x 22 9 ho B 5 i0 Try.underlying22 Try.underlying9 hi0 hz0 hz1 hz2 v (nums l).length _ hs hown t hx
    (by rw [nums_len]; simp only [maxLen]; omega) (by rw [nums_len]; omega) hB (fun v' w' h1 h2 _ => h v' w' ?_ (KU.of_grown hown hB h2))
  have e : (nums (l ++ m)).map (Value.int .u8) = (nums l).map (Value.int .u8) ++ Lib.strCells t := by
    rw [nums_app, List.map_append]
    congr 1
    subst hm
    rw [ByteArray.toList_eq]
    simp [nums, Lib.strCells]
  show w'.ownsRow B 5 1 v' (nums (l ++ m)).length ((nums (l ++ m)).map (Value.int .u8))
  rw [e, nums_app, List.length_append, nums_len m, ← hts]
  exact h1
/-- bytes that stand in the newest block, appended -/
theorem wpList_pushL (w : World) {ops : Array Oper} {rest : List Oper} {o : Oper} {a : Act} {Q : Exit → Act → World → Prop} (hgd : o.guard = none) (s x : Operand)
    (ho : o.op = .call { callee := .builtin .append, args := #[s, x], argTypes := #[22, 22] })
    (B : Nat) (v : Value) (l : List UInt8) (hs : a.eval s = v) (hown : OwnU w B v l) (m : List UInt8) (n : Nat) (hn : m.length = n) (cs : Array Value) (hcs : cs = ((nums m).map (Value.int .u8)).toArray) (hx : a.eval x = .slice (some ⟨w.heap.size, 0, none⟩) n n)
    (hlim : l.length + m.length ≤ 120000000000000) (hB : B ≤ w.heap.size)
    (h : ∀ v' w', OwnU w' B v' (l ++ m) → KU B w w' → wpList Try.prog ops Q rest (a.put o.dst v') w') : wpList Try.prog ops Q (o :: rest) a (w.alloc (.cells cs 5)) := by
  subst hn; subst hcs
  obtain ⟨i0, hi0, hz0, hz1, hz2⟩ := info_parts u8Info
  have hr : Reads (w.alloc (.cells ((nums m).map (Value.int .u8)).toArray 5)) (w.heap.size + 1) 1 (some ⟨w.heap.size, 0, none⟩) m.length ((nums m).map (Value.int .u8)) := by
    refine ⟨by simp [nums], fun _ => ⟨_, rfl, by simp, fun j u hu => ?_⟩⟩
    have e : (⟨w.heap.size, 0, none⟩ : Addr).add j = ⟨w.heap.size, j, none⟩ := by unfold Addr.add; split <;> simp_all
    rw [e, World.cell?_alloc_mark]
    simpa using hu
  refine wpList_plain hgd fun K hK => ?_
  obtain ⟨v', w', h1, h2, h3, _⟩ := run_append_any (P := Try.prog) (w.alloc (.cells ((nums m).map (Value.int .u8)).toArray 5)) B 22 o.type 5 i0 (.int .u8 0) 1 1 Try.underlying22 hi0 hz0 hz1 hz2 rfl (by omega) v (nums l).length _ (World.ownsRow.alloc hown _) (w.heap.size + 1) _ m.length m.length _ hr
    (fun u hu => by obtain ⟨n, _, rfl⟩ := List.mem_map.1 hu; rfl) (by rw [nums_len]; simp only [maxLen]; omega) (by rw [nums_len]; omega) (by simp; omega)
  unfold Oper.wp execOp
  simp only [ho, resolve, invoke, builtin, Sem.run_bind, Sem.run_pure, Result.andThen_ok, List.map_toArray, List.map_cons, List.map_nil, hs, hx, h1]
  refine hK _ _ (h v' w' ?_ (((KU.refl B w).alloc hB _).trans (KU.of_grown (World.ownsRow.alloc hown _) (by simp; omega) h3)))
  show w'.ownsRow B 5 1 v' (nums (l ++ m)).length ((nums (l ++ m)).map (Value.int .u8))
  rw [nums_app, List.map_append, List.length_append, nums_len m]
  exact h2
theorem reads_lit (w : World) (m : List UInt8) (cs : Array Value) (hcs : cs = ((nums m).map (Value.int .u8)).toArray) (n : Nat) (hn : m.length = n) : Reads (w.alloc (.cells cs 5)) (w.heap.size + 1) 1 (some ⟨w.heap.size, 0, none⟩) n ((nums m).map (Value.int .u8)) := by
  subst hcs; subst hn
  refine ⟨by simp [nums], fun _ => ⟨_, rfl, by simp, fun j u hu => ?_⟩⟩
  have e : (⟨w.heap.size, 0, none⟩ : Addr).add j = ⟨w.heap.size, j, none⟩ := by unfold Addr.add; split <;> simp_all
  rw [e, World.cell?_alloc_mark]
  simpa using hu
theorem run_pushK (w : World) (B : Nat) (v : Value) (l : List UInt8) (hown : OwnU w B v l) (R : Nat) (A : Option Addr) (n c : Nat) (m : List UInt8) (hr : Reads w R 1 A n ((nums m).map (Value.int .u8))) (ty : TypeId)
    (hlim : l.length + n ≤ 120000000000000) (hB : B ≤ w.heap.size) :
    ∃ v' w', (Builtin.append_ #[22, 22] ty #[v, .slice A n c]).run Try.prog w = .ok v' w' ∧ OwnU w' B v' (l ++ m) ∧ KU B w w' := by
  obtain ⟨i0, hi0, hz0, hz1, hz2⟩ := info_parts u8Info
  obtain ⟨v', w', h1, h2, h3, _⟩ := run_append_any (P := Try.prog) w B 22 ty 5 i0 (.int .u8 0) 1 1 Try.underlying22 hi0 hz0 hz1 hz2 rfl (by omega) v (nums l).length _ hown R A n c _ hr
    (fun u hu => by obtain ⟨n, _, rfl⟩ := List.mem_map.1 hu; rfl) (by rw [nums_len]; simp only [maxLen]; omega) (by rw [nums_len]; omega) hB
  have hm : m.length = n := by have := hr.1; simpa [nums] using this
  refine ⟨v', w', h1, ?_, KU.of_grown hown hB h3⟩
  show w'.ownsRow B 5 1 v' (nums (l ++ m)).length ((nums (l ++ m)).map (Value.int .u8))
  rw [nums_app, List.map_append, List.length_append, nums_len m, hm]
  exact h2
/-- the same as one step of a region that draws its order -/
theorem step_push {ops : Array Oper} {o : Oper} {a : Act} {w : World} {K : Act → World → Prop} {Q : Exit → Act → World → Prop} {E : Prop}
    (hg : o.guard = none) (s x : Operand) (hop : o.op = Op.call { callee := Callee.builtin Builtin.append, args := #[s, x], argTypes := #[22, 22] })
    (B : Nat) (v : Value) (l : List UInt8) (hs : a.eval s = v) (hown : OwnU w B v l) (R : Nat) (A : Option Addr) (n c : Nat) (m : List UInt8) (hx : a.eval x = .slice A n c) (hr : Reads w R 1 A n ((nums m).map (Value.int .u8)))
    (hlim : l.length + n ≤ 120000000000000) (hB : B ≤ w.heap.size)
    (hK : ∀ v' w', OwnU w' B v' (l ++ m) → KU B w w' → K (a.put o.dst v') w') :
    if Region.wanted o (yielded ops a.tmps) = true then Oper.wp Try.prog o a w K Q else E := by
  have hw : Region.wanted o (yielded ops a.tmps) = true := by simp [Region.wanted, hg]
  rw [if_pos hw]
  obtain ⟨v', w', h1, h2, h3⟩ := run_pushK w B v l hown R A n c m hr o.type hlim hB
  unfold Oper.wp execOp
  simp only [hop, resolve, invoke, builtin, Sem.run_bind, Sem.run_pure, Result.andThen_ok, List.map_toArray, List.map_cons, List.map_nil, hs, hx, h1]
  exact hK _ _ h2 h3
end Go.Proofs.Ytnhoecmcbikcnaa
/-! The walk of the reference's right. -/
namespace Go.Proofs.Ytnhoecmcbikcnaa
open Go.RowKit Go.PlainAid
set_option linter.unusedVariables false
set_option linter.unusedSimpArgs false
theorem keysB_nil : keysB [] = true := by unfold keysB; exact decide_eq_true ⟨List.nodup_nil, by simp⟩
theorem keysB_all {ks : List ByteArray} {i : Nat} (hi : i = ks.length) (h : (ks.take i).Nodup ∧ ∀ s ∈ ks.take i, validB s.toList = true) : keysB ks = true := by
  subst hi
  rw [List.take_length] at h
  unfold keysB
  exact decide_eq_true h
theorem rightD_eq (k num : Int) (t : ByteArray) (ks : List ByteArray) (ns : List Nd) (deep : Int) : rightD (.mk k num t ks ns) deep = (bareF k num t ks.length ns.length &&
    (k == 1 || k == 2 || k == 3 || (k == 4 && decide (-9007199254740991 ≤ num ∧ num ≤ 9007199254740991)) || (k == 5 && validB t.toList) ||
      ((k == 6 || k == 7) && decide (deep < 24) && (k == 6 || (decide (ks.length = ns.length) && keysB ks)) && rightLD ns (deep + 1)))) := by
    unfold rightLD rightD
    conv => lhs; unfold rightN
theorem take_ne {ks : List ByteArray} {i : Nat} {s : ByteArray} (h : ∀ (j : Nat) (u : ByteArray), j < i → ks[j]? = some u → (u.toList == s.toList) = false) : s ∉ ks.take i := by
  intro hm
  obtain ⟨j, hj⟩ := List.getElem?_of_mem hm
  have hl := (List.getElem?_eq_some_iff.1 hj).1
  rw [List.length_take] at hl
  rw [List.getElem?_take_of_lt (by omega)] at hj
  have := h j s (by omega) hj
  simp at this
theorem take_in {ks : List ByteArray} {i j : Nat} {u : ByteArray} (hj : j < i) (h : ks[j]? = some u) : u ∈ ks.take i := by
  have : (ks.take i)[j]? = some u := by rw [List.getElem?_take_of_lt hj]; exact h
  exact List.mem_of_getElem? this
end Go.Proofs.Ytnhoecmcbikcnaa
/-! The walk of the reference's right: an array. -/
namespace Go.Proofs.Ytnhoecmcbikcnaa
open Go.RowKit Go.PlainAid
set_option linter.unusedVariables false
set_option linter.unusedSimpArgs false
end Go.Proofs.Ytnhoecmcbikcnaa
/-! The walk of the reference's right: an object. -/
namespace Go.Proofs.Ytnhoecmcbikcnaa
open Go.RowKit Go.PlainAid
set_option linter.unusedVariables false
set_option linter.unusedSimpArgs false
end Go.Proofs.Ytnhoecmcbikcnaa
/-! The walk of the reference's right: the induction. -/
namespace Go.Proofs.Ytnhoecmcbikcnaa
open Go.RowKit Go.PlainAid
set_option linter.unusedVariables false
set_option linter.unusedSimpArgs false
end Go.Proofs.Ytnhoecmcbikcnaa
/-! A value's text as a plain function, and what the writer with its limit has of it. -/
namespace Go.Proofs.Ytnhoecmcbikcnaa
open Go.RowKit Go.PlainAid
set_option linter.unusedVariables false
set_option linter.unusedSimpArgs false
mutual
/-- a value's text -/
def putU : Nd → List UInt8
  | .mk k num t ks ns =>
    if k = 1 then [110, 117, 108, 108] else if k = 2 then [102, 97, 108, 115, 101] else if k = 3 then [116, 114, 117, 101]
    else if k = 4 then Lib.itoa num else if k = 5 then quoteU t.toList else if k = 6 then [91] ++ putL (k == 7) ks ns true ++ [93] else [123] ++ putL (k == 7) ks ns true ++ [125]
def putL : Bool → List ByteArray → List Nd → Bool → List UInt8
  | _, _, [], _ => []
  | obj, ks, n :: ns, first => (if first = true then [] else [44]) ++ (if obj = true then quoteU (ks.headD ⟨#[]⟩).toList ++ [58] else []) ++ putU n ++ putL obj ks.tail ns false
end
/-- what a writer that stops behind its limit has of a text -/
def Cutted (a full : List UInt8) : Prop := a = full ∨ (65536 < a.length ∧ a.length ≤ full.length)
theorem Cutted.app {a f : List UInt8} (h : Cutted a f) (x : List UInt8) : Cutted (a ++ x) (f ++ x) := by
  rcases h with rfl | ⟨h1, h2⟩
  · exact .inl rfl
  · exact .inr ⟨by simp; omega, by simp; omega⟩
theorem Cutted.stop {a f : List UInt8} (h : Cutted a f) (hl : 65536 < a.length) (x : List UInt8) : Cutted a (f ++ x) := by
  rcases h with rfl | ⟨h1, h2⟩
  · exact .inr ⟨hl, by simp⟩
  · exact .inr ⟨h1, by simp; omega⟩
mutual
theorem outN_cut : ∀ (n : Nd) (a f : List UInt8), Cutted a f → Cutted (outN n a) (f ++ putU n)
  | .mk k num t ks ns, a, f, h => by
    unfold outN
    by_cases hl : 65536 < a.length
    · rw [if_pos hl]; exact h.stop hl _
    rw [if_neg hl]
    unfold putU
    split
    · exact h.app _
    split
    · exact h.app _
    split
    · exact h.app _
    split
    · exact h.app _
    split
    · exact h.app _
    split
    · have := (outL_cut (k == 7) ks ns true _ _ (h.app [91])).app [93]
      simpa using this
    · have := (outL_cut (k == 7) ks ns true _ _ (h.app [123])).app [125]
      simpa using this
theorem outL_cut : ∀ (obj : Bool) (ks : List ByteArray) (ns : List Nd) (first : Bool) (a f : List UInt8), Cutted a f → Cutted (outL obj ks ns first a) (f ++ putL obj ks ns first)
  | obj, ks, [], first, a, f, h => by unfold outL putL; simpa using h
  | obj, ks, n :: ns, first, a, f, h => by
    unfold outL putL
    have h1 : Cutted ((if first = true then a else a ++ [44]) ++ (if obj = true then quoteU (ks.headD ⟨#[]⟩).toList ++ [58] else [])) ((f ++ (if first = true then [] else [44])) ++ (if obj = true then quoteU (ks.headD ⟨#[]⟩).toList ++ [58] else [])) := by
      refine Cutted.app ?_ _
      split
      · simpa using h
      · exact h.app _
    have h2 := outL_cut obj ks.tail ns false _ _ (outN_cut n _ _ h1)
    simpa using h2
end
theorem cut_len {a f : List UInt8} (h : Cutted a f) : (65536 < a.length ↔ 65536 < f.length) ∧ (¬ 65536 < f.length → a = f) := by
  rcases h with rfl | ⟨h1, h2⟩
  · exact ⟨Iff.rfl, fun _ => rfl⟩
  · exact ⟨⟨fun _ => by omega, fun _ => h1⟩, fun h => by omega⟩
theorem outN_put (n : Nd) : Cutted (outN n []) (putU n) := by
  have := outN_cut n [] [] (.inl rfl)
  simpa using this
theorem printS_eq (n : Nd) : printS n = if rightD n 0 = false then ⟨#[]⟩ else if 65536 < (putU n).length then ⟨#[]⟩ else ⟨(putU n).toArray⟩ := by
  unfold printS
  have h := cut_len (outN_put n)
  by_cases hl : 65536 < (putU n).length
  · rw [if_pos (h.1.2 hl), if_pos hl]
  · rw [if_neg (fun x => hl (h.1.1 x)), if_neg hl, h.2 hl]
theorem printE_eq (n : Nd) : printE n = if rightD n 0 = false then 1 else if 65536 < (putU n).length then 2 else 0 := by
  unfold printE
  have h := cut_len (outN_put n)
  by_cases hl : 65536 < (putU n).length
  · rw [if_pos (h.1.2 hl), if_pos hl]
  · rw [if_neg (fun x => hl (h.1.1 x)), if_neg hl]
mutual
theorem putU_le : ∀ (n : Nd), goodN n → (putU n).length ≤ gN n
  | .mk k num t ks ns, hi => by
    unfold putU gN
    unfold goodN at hi
    have hq := quoteU_le t.toList
    rw [tl_len'] at hq
    have h4 := Lib.itoa_length_le num hi.1.1 hi.1.2
    have h6 := putL_le (k == 7) ks ns true hi.2.2.2.2
    repeat' split
    all_goals first | omega | (simp only [List.length_append, List.length_cons, List.length_nil]; omega)
theorem putL_le : ∀ (obj : Bool) (ks : List ByteArray) (ns : List Nd) (first : Bool), goodL ns → (putL obj ks ns first).length ≤ gL ks ns
  | obj, ks, [], first, hi => by unfold putL gL; simp
  | obj, ks, n :: ns, first, hi => by
    unfold putL gL
    unfold goodL at hi
    have h1 := putL_le obj ks.tail ns false hi.2
    have h2 := putU_le n hi.1
    have hq := quoteU_le (ks.headD ⟨#[]⟩).toList
    rw [tl_len'] at hq
    simp only [List.length_append]
    have e1 : (if first = true then ([] : List UInt8) else [44]).length ≤ 1 := by split <;> simp
    have e2 : (if obj = true then quoteU (ks.headD ⟨#[]⟩).toList ++ [58] else []).length ≤ 3 + 6 * (ks.headD ⟨#[]⟩).size := by
      split
      · simp only [List.length_append, List.length_cons, List.length_nil]; omega
      · simp
    omega
end
theorem putL_at (obj : Bool) (ks : List ByteArray) (ns : List Nd) (i : Nat) (n : Nd) (s : ByteArray) (first : Bool) (h : ns[i]? = some n) (hs : obj = true → ks[i]? = some s) :
    putL obj (ks.drop i) (ns.drop i) first = (if first = true then [] else [44]) ++ (if obj = true then quoteU s.toList ++ [58] else []) ++ putU n ++ putL obj (ks.drop (i + 1)) (ns.drop (i + 1)) false := by
  rw [List.drop_eq_getElem_cons (List.getElem?_eq_some_iff.1 h).1, (List.getElem?_eq_some_iff.1 h).2]
  conv => lhs; unfold putL
  rw [List.tail_drop]
  congr 3
  cases obj with
  | false => rfl
  | true =>
    have hs' := hs rfl
    rw [List.drop_eq_getElem_cons (List.getElem?_eq_some_iff.1 hs').1, (List.getElem?_eq_some_iff.1 hs').2]
    rfl
theorem rightLD_get (ns : List Nd) (deep : Int) (i : Nat) (n : Nd) (h : ns[i]? = some n) (hr : rightLD ns deep = true) : rightD n deep = true := by
  unfold rightLD at hr
  rw [rightL_all, List.all_eq_true] at hr
  exact hr n (List.mem_of_getElem? h)
end Go.Proofs.Ytnhoecmcbikcnaa
/-! Sizes of a value that is not great. -/
namespace Go.Proofs.Ytnhoecmcbikcnaa
open Go.RowKit Go.PlainAid
set_option linter.unusedVariables false
set_option linter.unusedSimpArgs false
theorem nd0_is (k : Int) (hk : I64 k) (w : World) (B : Nat) : NdIs w B (nd0 k) [.int .i64 k, .int .i64 0, .string ⟨#[]⟩, .slice none 0 0, .slice none 0 0] := by
  unfold nd0 NdIs
  exact ⟨none, 0, none, 0, [], rfl, Reads.none_, Reads.none_, (by unfold NdsIs; rfl), hk, by unfold I64; omega, by (show (0 : Nat) ≤ maxLen); exact Nat.zero_le _, by simp, by simp [maxLen], by simp [maxLen]⟩
theorem Blk.cells5 {w : World} {g : Nat} {t : TypeId} {a b c d e : Value} (h : Blk w g t #[a, b, c, d, e]) : w.cell? ⟨g, 0, none⟩ = some a ∧ w.cell? ⟨g, 1, none⟩ = some b ∧ w.cell? ⟨g, 2, none⟩ = some c ∧ w.cell? ⟨g, 3, none⟩ = some d ∧ w.cell? ⟨g, 4, none⟩ = some e :=
  ⟨h.cell 0, h.cell 1, h.cell 2, h.cell 3, h.cell 4⟩
mutual
/-- numbers that an int64 holds, texts of no great size, at every depth -/
def sizeOk : Nd → Prop
  | .mk k num t ks ns => (-9223372036854775808 ≤ num ∧ num ≤ 9223372036854775807) ∧ t.size ≤ 1000000000 ∧ (∀ s ∈ ks, s.size ≤ 1000000000) ∧ (ks.length ≤ 1000000 ∧ ns.length ≤ 1000000) ∧ sizeOkL ns
def sizeOkL : List Nd → Prop
  | [] => True
  | n :: ns => sizeOk n ∧ sizeOkL ns
end
mutual
theorem good_of : ∀ (n : Nd) (deep : Int), sizeOk n → rightD n deep = true → goodN n
  | .mk k num t ks ns, deep, h, hr => by
    unfold sizeOk at h
    obtain ⟨h1, h2, h3, _, h4⟩ := h
    unfold goodN
    rw [rightD_eq, Bool.and_eq_true] at hr
    obtain ⟨hb, hr⟩ := hr
    refine ⟨h1, fun hk => ?_, h2, h3, ?_⟩
    · subst hk
      simp at hr
      exact hr.1.2.1
    · by_cases h67 : k = 6 ∨ k = 7
      · refine goodL_of ns (deep + 1) h4 ?_
        simp only [Bool.or_eq_true, Bool.and_eq_true, beq_iff_eq, decide_eq_true_eq] at hr
        rcases h67 with rfl | rfl
        · simp at hr; exact hr.2
        · simp at hr; exact hr.2
      · have : ns = [] := by
          unfold bareF at hb
          simp only [Bool.and_eq_true, Bool.or_eq_true, beq_iff_eq] at hb
          have := hb.2
          rcases this with h | h
          · exact absurd h h67
          · exact List.eq_nil_of_length_eq_zero h
        subst this
        unfold goodL; trivial
theorem goodL_of : ∀ (ns : List Nd) (deep : Int), sizeOkL ns → rightLD ns deep = true → goodL ns
  | [], deep, h, hr => by unfold goodL; trivial
  | n :: ns, deep, h, hr => by
    unfold sizeOkL at h
    unfold goodL
    have h0 := rightLD_at (n :: ns) 0 n deep rfl
    rw [List.drop_zero, hr] at h0
    have h0 := (Bool.and_eq_true _ _).mp h0.symm
    exact ⟨good_of n deep h.1 h0.1, goodL_of ns deep h.2 (by simpa using h0.2)⟩
end
theorem tooLong_all {ks : List ByteArray} (h : tooLong ks = false) : ∀ s ∈ ks, s.size ≤ 2000 := by
  induction ks with
  | nil => simp
  | cons a ks ih =>
    simp only [tooLong, Bool.or_eq_false_iff, decide_eq_false_iff_not] at h
    intro s hs
    rcases List.mem_cons.1 hs with rfl | hs
    · omega
    · exact ih h.2 s hs
theorem weightL_ge : ∀ (ns : List Nd) (deep acc : Int), 0 ≤ deep → deep ≤ 41 → 0 ≤ acc → acc ≤ weightL ns deep acc
  | [], deep, acc, _, _, _ => by unfold weightL; omega
  | n :: ns, deep, acc, h0, h1, h2 => by
    unfold weightL
    split
    · have := weightN_le n deep h0 h1
      have := weightL_ge ns deep (acc + weightN n deep) h0 h1 (by omega)
      omega
    · omega
mutual
theorem gN_weight : ∀ (n : Nd) (deep : Int), 0 ≤ deep → deep ≤ 41 → weightN n deep < 3000 → (gN n : Int) ≤ 30000 * weightN n deep - 15000
  | .mk k m t ks ns, deep, h0, h1, h => by
    unfold weightN at h ⊢
    split at h
    · omega
    rename_i hn
    rw [if_neg hn]
    split at h
    · omega
    rename_i hk
    rw [if_neg hk]
    have hks := tooLong_all (ks := ks) (by simpa using hk)
    have := gL_weight ns ks (deep + 1) 1 (by omega) (by omega) (by omega) h hks
    unfold gN
    omega
theorem gL_weight : ∀ (ns : List Nd) (ks : List ByteArray) (deep acc : Int), 0 ≤ deep → deep ≤ 41 → 0 ≤ acc → weightL ns deep acc < 3000 → (∀ s ∈ ks, s.size ≤ 2000) → (gL ks ns : Int) ≤ 30000 * (weightL ns deep acc - acc)
  | [], ks, deep, acc, _, _, _, h, _ => by unfold weightL gL; omega
  | n :: ns, ks, deep, acc, h0, h1, h2, h, hk => by
    unfold weightL at h ⊢
    by_cases ha : acc < 3000
    · rw [if_pos ha] at h ⊢
      have hw := weightN_le n deep h0 h1
      have hge := weightL_ge ns deep (acc + weightN n deep) h0 h1 (by omega)
      have i1 := gN_weight n deep h0 h1 (by omega)
      have i2 := gL_weight ns ks.tail deep (acc + weightN n deep) h0 h1 (by omega) h (fun s hs => hk s (List.mem_of_mem_tail hs))
      have i3 : (ks.headD ⟨#[]⟩).size ≤ 2000 := by
        cases ks with
        | nil => exact (by decide : (0 : Nat) ≤ 2000)
        | cons a ks => exact hk a (by simp)
      unfold gL
      omega
    · rw [if_neg ha] at h; omega
end
mutual
theorem size_of_weight {w : World} {B : Nat} : ∀ (n : Nd) (cs : List Value) (deep : Int), NdIs w B n cs → 0 ≤ deep → deep ≤ 41 → weightN n deep < 3000 → sizeOk n
  | .mk k m t ks ns, cs, deep, hn, h0, h1, h => by
    unfold NdIs at hn
    obtain ⟨A, ck, A2, cc, xs, rfl, hks, hxs, hns, ik, im, ht, hkl, hk', hmm⟩ := hn
    unfold weightN at h
    split at h
    · omega
    rename_i hn
    split at h
    · omega
    rename_i hk
    have hks := tooLong_all (ks := ks) (by simpa using hk)
    unfold sizeOk
    exact ⟨im, by omega, fun s hs => by have := hks s hs; omega, ⟨by omega, by omega⟩, sizeL_of_weight ns xs (deep + 1) 1 hns (by omega) (by omega) (by omega) h⟩
theorem sizeL_of_weight {w : World} {B : Nat} : ∀ (ns : List Nd) (xs : List Value) (deep acc : Int), NdsIs w B ns xs → 0 ≤ deep → deep ≤ 41 → 0 ≤ acc → weightL ns deep acc < 3000 → sizeOkL ns
  | [], xs, deep, acc, hn, _, _, _, h => by unfold sizeOkL; trivial
  | n :: ns, xs, deep, acc, hn, h0, h1, h2, h => by
    unfold NdsIs at hn
    obtain ⟨cs, ys, rfl, hn1, hn2⟩ := hn
    unfold weightL at h
    by_cases ha : acc < 3000
    · rw [if_pos ha] at h
      have hw := weightN_le n deep h0 h1
      have hge := weightL_ge ns deep (acc + weightN n deep) h0 h1 (by omega)
      unfold sizeOkL
      exact ⟨size_of_weight n cs deep hn1 h0 h1 (by omega), sizeL_of_weight ns ys deep _ hn2 h0 h1 (by omega) h⟩
    · rw [if_neg ha] at h; omega
end
/-- a value that is not great -/
theorem not_great {w : World} {B : Nat} {n : Nd} {cs : List Value} (hn : NdIs w B n cs) (h : greatN n = false) : sizeOk n ∧ gN n ≤ 60000000 := by
  unfold greatN at h
  have h := of_decide_eq_false h
  have h1 := size_of_weight n cs 0 hn (by omega) (by omega) (by omega)
  have h2 := gN_weight n 0 (by omega) (by omega) (by omega)
  exact ⟨h1, by omega⟩
end Go.Proofs.Ytnhoecmcbikcnaa
/-! The walks of json's reader: failing, blanks, a text that may or must stand there, a digit. -/
namespace Go.Proofs.Ytnhoecmcbikcnaa
open Go.RowKit Go.PlainAid
set_option linter.unusedVariables false
set_option linter.unusedSimpArgs false
/-- a reader at a place -/
def RdSt (w : World) (rb : Nat) (s : ByteArray) (k : Nat) : Prop := Blk w rb 55 #[.string s, .int .i64 k, .int .i64 0]
/-- a reader's method is done: the rest is l -/
def RdTo (rb : Nat) (s : ByteArray) (l : List UInt8) (w w' : World) : Prop := ∃ k, k ≤ s.size ∧ s.toList.drop k = l ∧ RdSt w' rb s k ∧ w.grownBy w' (some rb)
/-- a reader has given up -/
def Failed (rb : Nat) (s : ByteArray) (c : Int) (w : World) (e : Ending) (w' : World) : Prop :=
  e = .panicked [{ v := .iface 75 (.agg #[]), recovered := false }] ∧ (∃ k : Int, Blk w' rb 55 #[.string s, .int .i64 k, .int .i64 c]) ∧ w.grownBy w' (some rb)
theorem grown_refl (w : World) (r : Option Nat) : w.grownBy w r := World.grownBy.refl w r
theorem grown_drewN {w w' : World} {r : Option Nat} (h : w.grownBy w' r) (n : Nat) : w.grownBy (w'.drewN n) r := ⟨h.os, h.tape, h.output, h.size, h.block⟩
theorem grown_drew {w w' : World} {r : Option Nat} (h : w.grownBy w' r) : w.grownBy w'.drew r := ⟨h.os, h.tape, h.output, h.size, h.block⟩
theorem grown_set {w w' : World} {g : Nat} (h : w.grownBy w' (some g)) (i : Nat) (v : Value) : w.grownBy (w'.setCell ⟨g, i, none⟩ v) (some g) :=
  ⟨h.os, h.tape, h.output, by have := h.size; simpa using this, fun k hk hne => by rw [Below.heap_setCell _ _ _ _ (fun e => hne (by rw [e]))]; exact h.block k hk hne⟩
theorem grown_alloc {w w' : World} {r : Option Nat} (h : w.grownBy w' r) (o : Obj) : w.grownBy (w'.alloc o) r := h.trans (World.grownBy_alloc w' o r)
theorem grown_below {w w' : World} {r : Option Nat} (k : Below w.heap.size w w') : w.grownBy w' r := ⟨k.os, k.tape, k.output, k.size, fun i hi _ => k.block i hi⟩
theorem Failed.from {rb : Nat} {s : ByteArray} {c : Int} {w w1 : World} {e : Ending} {w' : World} (h : Failed rb s c w1 e w') (k : w.grownBy w1 (some rb)) : Failed rb s c w e w' := ⟨h.1, h.2.1, k.trans h.2.2⟩
theorem RdTo.from {rb : Nat} {s : ByteArray} {l : List UInt8} {w w1 w' : World} (h : RdTo rb s l w1 w') (k : w.grownBy w1 (some rb)) : RdTo rb s l w w' := by
  obtain ⟨k', h1, h2, h3, h4⟩ := h
  exact ⟨k', h1, h2, h3, k.trans h4⟩
theorem drop_cons (s : ByteArray) (k : Nat) (h : k < s.size) : ∃ u : UInt8, bt s k = u.toNat ∧ s.toList.drop k = u :: s.toList.drop (k + 1) := by
  have h2 : k < s.toList.length := by rw [toList_len]; exact h
  exact ⟨s.toList[k], bt_eq s k _ (List.getElem?_eq_getElem h2), List.drop_eq_getElem_cons h2⟩
theorem drop_end (s : ByteArray) (k : Nat) (h : s.size ≤ k) : s.toList.drop k = [] := List.drop_eq_nil_of_le (by rw [toList_len]; exact h)
theorem Blk.cells3 {w : World} {g : Nat} {t : TypeId} {a b c : Value} (h : Blk w g t #[a, b, c]) : w.cell? ⟨g, 0, none⟩ = some a ∧ w.cell? ⟨g, 1, none⟩ = some b ∧ w.cell? ⟨g, 2, none⟩ = some c :=
  ⟨h.cell 0, h.cell 1, h.cell 2⟩
set_option maxRecDepth 100000 in
theorem fail_any (rb : Nat) (s : ByteArray) (k : Nat) (c : Int) (w : World) (h : RdSt w rb s k) : Calls Try.prog 26 #[.pointer (some ⟨rb, 0, none⟩), .int .i64 c] w (Failed rb s c w) := by
  obtain ⟨c0, c1, c2⟩ := h.cells3
  have f2 := h.frozen 2
  have HB := Lib.hid h
  clear h
  go_enter Try.func26, Try.ntmps26
  go_wp2
  exact ⟨rfl, rfl, ⟨k, HB.out.set_ 2 _⟩, grown_set (grown_refl _ _) 2 _⟩
end Go.Proofs.Ytnhoecmcbikcnaa
/-! The walks of json's reader: blanks, a text that may or must stand there, a digit. -/
namespace Go.Proofs.Ytnhoecmcbikcnaa
open Go.RowKit Go.PlainAid
set_option linter.unusedVariables false
set_option linter.unusedSimpArgs false
theorem blanksL_cons (u : UInt8) (l : List UInt8) : blanksL (u :: l) = if blankB u = true then blanksL l else u :: l := by
  unfold blanksL
  rw [List.dropWhile_cons]
theorem blankB_eq (u : UInt8) (z : Int) (h : z = u.toNat) : blankB u = (z == 32 || z == 9 || z == 10 || z == 13) := by
  have e : ∀ (c : UInt8) (n : Int), (c.toNat : Int) = n → (u == c) = (z == n) := fun c n hn => by
    rw [Bool.eq_iff_iff, beq_iff_eq, beq_iff_eq, h, ← hn]
    constructor
    · intro e; rw [e]
    · intro e; exact UInt8.toNat_inj.1 (by omega)
  unfold blankB
  rw [e 32 32 rfl, e 9 9 rfl, e 10 10 rfl, e 13 13 rfl]
set_option maxRecDepth 100000 in
set_option maxHeartbeats 2000000 in
theorem blanks_any (rb : Nat) (s : ByteArray) (k : Nat) (w : World) (h : RdSt w rb s k) (hk : k ≤ s.size) (hs : s.size ≤ 1000000) :
    Calls Try.prog 24 #[.pointer (some ⟨rb, 0, none⟩)] w fun e w' => e = .returned (.tuple #[]) ∧ RdTo rb s (blanksL (s.toList.drop k)) w w' := by
  obtain ⟨V, hV⟩ : ∃ V, V = blanksL (s.toList.drop k) := ⟨_, rfl⟩
  rw [← hV]
  have HV : Hid (V = blanksL (s.toList.drop k)) := hV
  have H0 : Hid (RdSt w rb s k) := h
  have hb := get_bt s
  clear h hV
  go_enter Try.func24, Try.ntmps24
  go_wp2_with fail
  go_loopg [] (s.size - k) (fun g wr => ∃ k : Nat, k ≤ s.size ∧ s.size - k ≤ g ∧ Hid (V = blanksL (s.toList.drop k)) ∧ Hid (RdSt wr rb s k) ∧ Hid (w.grownBy wr (some rb)))
  case atStart => exact ⟨k, hk, Nat.le_refl _, HV, H0, grown_refl _ _⟩
  case round =>
    clear HV H0 hk
    obtain ⟨k, hk, hg, hv, h0, hw⟩ := hrel
    obtain ⟨wo, rfl⟩ : ∃ wo : World, wo = wr := ⟨_, rfl⟩
    obtain ⟨c0, c1, c2⟩ := h0.out.cells3
    have f1 := h0.out.frozen 1
    by_cases hlt : k < s.size
    · obtain ⟨u, hu, hd⟩ := drop_cons s k hlt
      have HD := Lib.hid hd
      have hbl := blankB_eq u (bt s k) hu
      have i0 : (0 : Int) ≤ (k : Int) := by omega
      have i1 : (k : Int) < (s.size : Int) := by omega
      have HU := Lib.hid hu
      clear hd hu
      by_cases q32 : bt s k = 32
      · have HE : Hid (V = blanksL (s.toList.drop (k + 1))) := by show _ = _; rw [hv.out, HD.out, blanksL_cons, if_pos (by rw [hbl, q32]; rfl)]
        clear hbl
        go_wp2
        go_quiet (fail)
        go_wp2
        go_quiet (fail)
        go_wp2
        go_roundg (gk - 1)
        case measure => omega
        case rel => exact ⟨k + 1, by omega, by omega, HE, (by have := (h0.out).set_ 1 (.int .i64 ((k + 1 : Nat) : Int)); exact this), grown_set (by first | exact grown_drewN (grown_drewN hw.out _) _ | exact grown_drewN hw.out _) 1 _⟩
      have n32 : (bt s k == 32) = false := by rw [beq_eq_false_iff_ne]; exact q32
      by_cases q9 : bt s k = 9
      · have HE : Hid (V = blanksL (s.toList.drop (k + 1))) := by show _ = _; rw [hv.out, HD.out, blanksL_cons, if_pos (by rw [hbl, q9]; rfl)]
        clear hbl
        go_wp2
        go_quiet (fail)
        go_wp2
        go_quiet (fail)
        go_wp2
        go_roundg (gk - 1)
        case measure => omega
        case rel => exact ⟨k + 1, by omega, by omega, HE, (by have := (h0.out).set_ 1 (.int .i64 ((k + 1 : Nat) : Int)); exact this), grown_set (by first | exact grown_drewN (grown_drewN hw.out _) _ | exact grown_drewN hw.out _) 1 _⟩
      have n9 : (bt s k == 9) = false := by rw [beq_eq_false_iff_ne]; exact q9
      by_cases q10 : bt s k = 10
      · have HE : Hid (V = blanksL (s.toList.drop (k + 1))) := by show _ = _; rw [hv.out, HD.out, blanksL_cons, if_pos (by rw [hbl, q10]; rfl)]
        clear hbl
        go_wp2
        go_quiet (fail)
        go_wp2
        go_quiet (fail)
        go_wp2
        go_roundg (gk - 1)
        case measure => omega
        case rel => exact ⟨k + 1, by omega, by omega, HE, (by have := (h0.out).set_ 1 (.int .i64 ((k + 1 : Nat) : Int)); exact this), grown_set (by first | exact grown_drewN (grown_drewN hw.out _) _ | exact grown_drewN hw.out _) 1 _⟩
      have n10 : (bt s k == 10) = false := by rw [beq_eq_false_iff_ne]; exact q10
      by_cases q13 : bt s k = 13
      · have HE : Hid (V = blanksL (s.toList.drop (k + 1))) := by show _ = _; rw [hv.out, HD.out, blanksL_cons, if_pos (by rw [hbl, q13]; rfl)]
        clear hbl
        go_wp2
        go_quiet (fail)
        go_wp2
        go_quiet (fail)
        go_wp2
        go_roundg (gk - 1)
        case measure => omega
        case rel => exact ⟨k + 1, by omega, by omega, HE, (by have := (h0.out).set_ 1 (.int .i64 ((k + 1 : Nat) : Int)); exact this), grown_set (by first | exact grown_drewN (grown_drewN hw.out _) _ | exact grown_drewN hw.out _) 1 _⟩
      have n13 : (bt s k == 13) = false := by rw [beq_eq_false_iff_ne]; exact q13
      have HE : Hid (V = s.toList.drop k) := by show _ = _; rw [hv.out, HD.out, blanksL_cons, if_neg (by rw [hbl, n32, n9, n10, n13]; simp)]
      clear hbl
      go_wp2
      go_quiet (fail)
      go_wp2
      go_quiet (fail)
      go_wp2
      refine bodyPost_ret (results_none rfl _ _ _) rfl ?_
      exact ⟨rfl, k, hk, HE.out.symm, h0.out, by first | exact grown_drewN (grown_drewN hw.out _) _ | exact grown_drewN hw.out _⟩
    · have i1 : ¬ (k : Int) < (s.size : Int) := by omega
      have HE : Hid (V = s.toList.drop k) := by show _ = _; rw [hv.out, drop_end s k (by omega)]; rfl
      go_wp2
      go_quiet (fail)
      go_wp2
      go_end0
      exact ⟨rfl, k, hk, HE.out.symm, h0.out, grown_drewN hw.out _⟩
end Go.Proofs.Ytnhoecmcbikcnaa
/-! The walks of json's reader: a text that may or must stand there. -/
namespace Go.Proofs.Ytnhoecmcbikcnaa
open Go.RowKit Go.PlainAid
set_option linter.unusedVariables false
set_option linter.unusedSimpArgs false
theorem extract_take (s : ByteArray) (k n : Nat) : (s.extract k (k + n)).toList = (s.toList.drop k).take n := extract_toList s k n
set_option maxRecDepth 100000 in
set_option maxHeartbeats 2000000 in
theorem may_yes (rb : Nat) (s t : ByteArray) (k : Nat) (w : World) (h : RdSt w rb s k) (hk : k ≤ s.size) (hs : s.size ≤ 1000000) (hy : (s.toList.drop k).take t.size = t.toList) :
    Calls Try.prog 39 #[.pointer (some ⟨rb, 0, none⟩), .string t] w fun e w' => e = .returned (.bool true) ∧ RdTo rb s ((s.toList.drop k).drop t.size) w w' := by
  have H0 : Hid (RdSt w rb s k) := h
  have hkt : k + t.size ≤ s.size := by
    have := congrArg List.length hy
    rw [toList_len, List.length_take, List.length_drop, toList_len] at this
    omega
  have heq : (s.extract k (k + t.size)).toList = t.toList := by rw [extract_take]; exact hy
  obtain ⟨c0, c1, c2⟩ := h.cells3
  have f1 := h.frozen 1
  have d0 : ¬ ((s.size : Int) - (k : Int) < (t.size : Int)) := by omega
  have d1 : decide ((s.size : Int) - (k : Int) < (t.size : Int)) = false := decide_eq_false d0
  have e1 : ((s.extract k (k + t.size)).toList == t.toList) = true := by rw [beq_iff_eq]; exact heq
  have e2 : ((s.extract k (k + t.size)).toList != t.toList) = false := by rw [bne_eq_false_iff_eq]; exact heq
  have i0 : (0 : Int) ≤ (k : Int) := by omega
  have i1 : (k : Int) + (t.size : Int) ≤ (s.size : Int) := by omega
  have w1 : IntKind.i64.wrap ((s.size : Int) - (k : Int)) = (s.size : Int) - (k : Int) := IntWalk.i64_in _ (by omega)
  have w2 : IntKind.i64.wrap ((k : Int) + (t.size : Int)) = (k : Int) + (t.size : Int) := IntWalk.i64_in _ (by omega)
  have w3 : ((k : Int) + (t.size : Int)).toNat = k + t.size := by omega
  clear h hy heq
  go_enter Try.func39, Try.ntmps39
  go_wp2
  go_quiet (fail)
  clear w1 w2 w3
  go_wp2
  go_ret
  refine ⟨rfl, k + t.size, hkt, by rw [List.drop_drop], ?_, grown_set (grown_drewN (grown_refl _ _) _) 1 _⟩
  have := (H0.out).set_ 1 (.int .i64 ((k + t.size : Nat) : Int))
  rw [show ((k + t.size : Nat) : Int) = (k : Int) + (t.size : Int) by omega] at this
  unfold RdSt
  rw [show ((k + t.size : Nat) : Int) = (k : Int) + (t.size : Int) by omega]
  exact this
set_option maxRecDepth 100000 in
set_option maxHeartbeats 2000000 in
theorem may_no (rb : Nat) (s t : ByteArray) (k : Nat) (w : World) (h : RdSt w rb s k) (hk : k ≤ s.size) (hs : s.size ≤ 1000000) (hts : t.size ≤ 1000000) (hn : (s.toList.drop k).take t.size ≠ t.toList) :
    Calls Try.prog 39 #[.pointer (some ⟨rb, 0, none⟩), .string t] w fun e w' => e = .returned (.bool false) ∧ RdSt w' rb s k ∧ w.grownBy w' (some rb) := by
  have H0 : Hid (RdSt w rb s k) := h
  obtain ⟨c0, c1, c2⟩ := h.cells3
  have i0 : (0 : Int) ≤ (k : Int) := by omega
  have w1 : IntKind.i64.wrap ((s.size : Int) - (k : Int)) = (s.size : Int) - (k : Int) := IntWalk.i64_in _ (by omega)
  by_cases hkt : k + t.size ≤ s.size
  · have heq : (s.extract k (k + t.size)).toList ≠ t.toList := by rw [extract_take]; exact hn
    have d0 : ¬ ((s.size : Int) - (k : Int) < (t.size : Int)) := by omega
    have d1 : decide ((s.size : Int) - (k : Int) < (t.size : Int)) = false := decide_eq_false d0
    have e1 : ((s.extract k (k + t.size)).toList == t.toList) = false := by rw [beq_eq_false_iff_ne]; exact heq
    have e2 : ((s.extract k (k + t.size)).toList != t.toList) = true := by rw [bne_iff_ne]; exact heq
    have i1 : (k : Int) + (t.size : Int) ≤ (s.size : Int) := by omega
    have w2 : IntKind.i64.wrap ((k : Int) + (t.size : Int)) = (k : Int) + (t.size : Int) := IntWalk.i64_in _ (by omega)
    have w3 : ((k : Int) + (t.size : Int)).toNat = k + t.size := by omega
    clear h hn heq
    go_enter Try.func39, Try.ntmps39
    go_wp2
    go_quiet (fail)
    clear w1 w2 w3
    go_wp2
    go_ret
    exact ⟨rfl, H0.out, grown_drewN (grown_refl _ _) _⟩
  · have d0 : (s.size : Int) - (k : Int) < (t.size : Int) := by omega
    have d1 : decide ((s.size : Int) - (k : Int) < (t.size : Int)) = true := decide_eq_true d0
    clear h hn
    go_enter Try.func39, Try.ntmps39
    go_wp2
    go_quiet (fail)
    clear w1
    go_wp2
    go_ret
    exact ⟨rfl, H0.out, grown_drewN (grown_refl _ _) _⟩
/-- what must stand there stands there -/
theorem must_yes (rb : Nat) (s t : ByteArray) (k : Nat) (w : World) (h : RdSt w rb s k) (hk : k ≤ s.size) (hs : s.size ≤ 1000000) (hy : (s.toList.drop k).take t.size = t.toList) :
    Calls Try.prog 45 #[.pointer (some ⟨rb, 0, none⟩), .string t] w fun e w' => e = .returned (.tuple #[]) ∧ RdTo rb s ((s.toList.drop k).drop t.size) w w' := by
  have HM := Lib.hid (may_yes rb s t k w h hk hs hy)
  clear h hy
  go_enter Try.func45, Try.ntmps45
  go_wp2_with fail
  refine HM.out.mono ?_; rintro e w1 ⟨rfl, h1⟩
  have H1 := Lib.hid h1
  clear h1
  go_wp2_with fail
  go_end0
  exact ⟨rfl, H1.out⟩
theorem must_no (rb : Nat) (s t : ByteArray) (k : Nat) (w : World) (h : RdSt w rb s k) (hk : k ≤ s.size) (hs : s.size ≤ 1000000) (hts : t.size ≤ 1000000) (hn : (s.toList.drop k).take t.size ≠ t.toList) :
    Calls Try.prog 45 #[.pointer (some ⟨rb, 0, none⟩), .string t] w (Failed rb s 3 w) := by
  have HM := Lib.hid (may_no rb s t k w h hk hs hts hn)
  clear h hn
  go_enter Try.func45, Try.ntmps45
  go_wp2_with fail
  refine HM.out.mono ?_; rintro e w1 ⟨rfl, h1, g1⟩
  have H1 := Lib.hid h1
  have G1 := Lib.hid g1
  clear h1 g1
  go_wp2_with fail
  refine (fail_any rb s k 3 _ H1.out).mono ?_; rintro e w2 ⟨rfl, h2, g2⟩
  have H2 := Lib.hid h2
  have G2 := Lib.hid g2
  clear h2 g2
  go_wp2_with fail
  exact ⟨rfl, rfl, H2.out, G1.out.trans G2.out⟩
/-- whether a digit stands ahead -/
def digH (l : List UInt8) : Bool := match l with
  | [] => false
  | u :: _ => digB u
set_option maxRecDepth 100000 in
set_option maxHeartbeats 2000000 in
theorem digit_any (rb : Nat) (s : ByteArray) (k : Nat) (w : World) (h : RdSt w rb s k) (hk : k ≤ s.size) (hs : s.size ≤ 1000000) :
    Calls Try.prog 58 #[.pointer (some ⟨rb, 0, none⟩)] w fun e w' => e = .returned (.bool (digH (s.toList.drop k))) ∧ RdSt w' rb s k ∧ w.grownBy w' (some rb) := by
  have H0 : Hid (RdSt w rb s k) := h
  obtain ⟨c0, c1, c2⟩ := h.cells3
  have i0 : (0 : Int) ≤ (k : Int) := by omega
  have hb := get_bt s
  clear h
  by_cases hlt : k < s.size
  · obtain ⟨u, hu, hd⟩ := drop_cons s k hlt
    have i1 : (k : Int) < (s.size : Int) := by omega
    have d1 : decide ((k : Int) < (s.size : Int)) = true := decide_eq_true i1
    have b0 := bt_nonneg s k
    have b1 := bt_le s k
    rw [hd]
    by_cases q0 : 48 ≤ bt s k
    · have dq0 : decide (48 ≤ bt s k) = true := decide_eq_true q0
      by_cases q1 : bt s k ≤ 57
      · have dq1 : decide (bt s k ≤ 57) = true := decide_eq_true q1
        have HE : Hid (digH (u :: s.toList.drop (k + 1)) = true) := by show _ = _; unfold digH digB; exact decide_eq_true (by omega)
        generalize digH (u :: s.toList.drop (k + 1)) = V at *
        clear hu hd
        go_enter Try.func58, Try.ntmps58
        go_wp2
        go_quiet (fail)
        go_wp2
        go_ret
        exact ⟨by rw [HE.out]; rfl, H0.out, grown_drewN (grown_refl _ _) _⟩
      · have dq1 : decide (bt s k ≤ 57) = false := decide_eq_false q1
        have HE : Hid (digH (u :: s.toList.drop (k + 1)) = false) := by show _ = _; unfold digH digB; exact decide_eq_false (by omega)
        generalize digH (u :: s.toList.drop (k + 1)) = V at *
        clear hu hd
        go_enter Try.func58, Try.ntmps58
        go_wp2
        go_quiet (fail)
        go_wp2
        go_ret
        exact ⟨by rw [HE.out]; rfl, H0.out, grown_drewN (grown_refl _ _) _⟩
    · have dq0 : decide (48 ≤ bt s k) = false := decide_eq_false q0
      have HE : Hid (digH (u :: s.toList.drop (k + 1)) = false) := by show _ = _; unfold digH digB; exact decide_eq_false (by omega)
      generalize digH (u :: s.toList.drop (k + 1)) = V at *
      clear hu hd
      go_enter Try.func58, Try.ntmps58
      go_wp2
      go_quiet (fail)
      go_wp2
      go_ret
      exact ⟨by rw [HE.out]; rfl, H0.out, grown_drewN (grown_refl _ _) _⟩
  · have i1 : ¬ (k : Int) < (s.size : Int) := by omega
    have d1 : decide ((k : Int) < (s.size : Int)) = false := decide_eq_false i1
    have HE : Hid (digH (s.toList.drop k) = false) := by show _ = _; rw [drop_end s k (by omega)]; rfl
    generalize digH (s.toList.drop k) = V at *
    go_enter Try.func58, Try.ntmps58
    go_wp2
    go_quiet (fail)
    go_wp2
    go_ret
    exact ⟨by rw [HE.out]; rfl, H0.out, grown_drewN (grown_refl _ _) _⟩
end Go.Proofs.Ytnhoecmcbikcnaa
/-! Plain facts on reading a whole number. -/
namespace Go.Proofs.Ytnhoecmcbikcnaa
open Go.RowKit Go.PlainAid
set_option linter.unusedVariables false
set_option linter.unusedSimpArgs false
def AllDig (ds : List UInt8) : Prop := ∀ c ∈ ds, digB c = true
theorem digB_bd {c : UInt8} (h : digB c = true) : 48 ≤ c.toNat ∧ c.toNat ≤ 57 := by unfold digB at h; exact of_decide_eq_true h
theorem valD_app (n : Int) (a b : List UInt8) : valD n (a ++ b) = valD (valD n a) b := by unfold valD; rw [List.foldl_append]
theorem valD_snoc (n : Int) (a : List UInt8) (c : UInt8) : valD n (a ++ [c]) = valD n a * 10 + ((c.toNat : Int) - 48) := by rw [valD_app]; rfl
theorem valD_cons (n : Int) (c : UInt8) (a : List UInt8) : valD n (c :: a) = valD (n * 10 + ((c.toNat : Int) - 48)) a := rfl
theorem valD_ge : ∀ (a : List UInt8) (n : Int), 0 ≤ n → AllDig a → n ≤ valD n a
  | [], n, h, _ => by unfold valD; simp
  | c :: a, n, h, hd => by
    have h1 := digB_bd (hd c (by simp))
    have h2 := valD_ge a (n * 10 + ((c.toNat : Int) - 48)) (by omega) (fun x hx => hd x (by simp [hx]))
    rw [valD_cons]
    omega
theorem AllDig.snoc {a : List UInt8} {c : UInt8} (h : AllDig a) (hc : digB c = true) : AllDig (a ++ [c]) := by
  intro x hx
  rcases List.mem_append.1 hx with hx | hx
  · exact h x hx
  · simp at hx; subst hx; exact hc
theorem takeW_app {a b : List UInt8} (h : AllDig a) : (a ++ b).takeWhile digB = a ++ b.takeWhile digB := by
  induction a with
  | nil => rfl
  | cons c a ih =>
    rw [List.cons_append, List.takeWhile_cons, h c (by simp), if_pos rfl, ih (fun x hx => h x (by simp [hx]))]; rfl
theorem dropW_app {a b : List UInt8} (h : AllDig a) : (a ++ b).dropWhile digB = b.dropWhile digB := by
  induction a with
  | nil => rfl
  | cons c a ih =>
    rw [List.cons_append, List.dropWhile_cons, h c (by simp), if_pos rfl, ih (fun x hx => h x (by simp [hx]))]
theorem takeW_none {b : List UInt8} (h : digH b = false) : b.takeWhile digB = [] ∧ b.dropWhile digB = b := by
  cases b with
  | nil => exact ⟨rfl, rfl⟩
  | cons c b =>
    have h : digB c = false := h
    rw [List.takeWhile_cons, List.dropWhile_cons, h]
    exact ⟨rfl, rfl⟩
theorem takeW_all (b : List UInt8) : AllDig (b.takeWhile digB) := by
  intro c hc
  induction b with
  | nil => simp at hc
  | cons a b ih =>
    rw [List.takeWhile_cons] at hc
    split at hc
    · rename_i ha
      rcases List.mem_cons.1 hc with rfl | hc
      · exact ha
      · exact ih hc
    · simp at hc
theorem digH_cons {b : List UInt8} (h : digH b = true) : ∃ c t, b = c :: t ∧ digB c = true := by
  cases b with
  | nil => cases h
  | cons c t => exact ⟨c, t, rfl, h⟩
theorem numTail_none (neg : Bool) {l : List UInt8} (h : digH l = false) : numTail neg l = none := by
  unfold numTail
  rw [if_pos (.inl (takeW_none h).1)]
theorem numTail_big (neg : Bool) {ds rest : List UInt8} (hd : AllDig ds) (h : 9007199254740991 < valD 0 ds) : numTail neg (ds ++ rest) = none := by
  unfold numTail
  have h1 := valD_ge (rest.takeWhile digB) (valD 0 ds) (by have := valD_ge ds 0 (by omega) hd; omega) (takeW_all rest)
  have h2 : 9007199254740991 < valD 0 ((ds ++ rest).takeWhile digB) := by rw [takeW_app hd, valD_app]; omega
  rw [if_pos (.inr (.inr (.inl h2)))]
theorem valD_zero : ∀ (ds : List UInt8), AllDig ds → ds ≠ [] → valD 0 ds = 0 → ds.head? = some 48
  | [], _, h, _ => absurd rfl h
  | c :: a, hd, _, h => by
    have h1 := digB_bd (hd c (by simp))
    rw [valD_cons] at h
    have h2 := valD_ge a (0 * 10 + ((c.toNat : Int) - 48)) (by omega) (fun x hx => hd x (by simp [hx]))
    have : c.toNat = 48 := by omega
    show some c = some 48
    congr 1
    exact UInt8.toNat_inj.1 this
theorem numTail_zero (neg : Bool) {ds rest : List UInt8} (hd : AllDig ds) (hne : ds ≠ []) (h : valD 0 ds = 0) (hr : digH rest = true) : numTail neg (ds ++ rest) = none := by
  obtain ⟨c, t, rfl, hc⟩ := digH_cons hr
  unfold numTail
  have h1 := valD_zero ds hd hne h
  have h2 : (ds ++ c :: t).head? = some 48 := by
    cases ds with
    | nil => exact absurd rfl hne
    | cons a ds => exact h1
  have h3 : 1 < ((ds ++ c :: t).takeWhile digB).length := by
    rw [takeW_app hd, List.takeWhile_cons, hc, if_pos rfl, List.length_append, List.length_cons]
    have := List.length_pos_iff.2 hne
    omega
  rw [if_pos (.inr (.inl ⟨h3, h2⟩))]
/-- at the end of the digits -/
theorem numTail_end (neg : Bool) {ds rest : List UInt8} (hd : AllDig ds) (hne : ds ≠ []) (hr : digH rest = false) (hb : valD 0 ds ≤ 9007199254740991) (hz : 1 < ds.length → ds.head? ≠ some 48) :
    numTail neg (ds ++ rest) = if (neg = true ∧ valD 0 ds = 0) ∨ pointB rest = true then none else some (if neg = true then - valD 0 ds else valD 0 ds, rest) := by
  unfold numTail
  have h1 : (ds ++ rest).takeWhile digB = ds := by rw [takeW_app hd, (takeW_none hr).1, List.append_nil]
  have h2 : (ds ++ rest).dropWhile digB = rest := by rw [dropW_app hd, (takeW_none hr).2]
  have h3 : (ds ++ rest).head? = ds.head? := by cases ds with | nil => exact absurd rfl hne | cons a ds => rfl
  rw [h1, h2, h3]
  by_cases hc : (neg = true ∧ valD 0 ds = 0) ∨ pointB rest = true
  · rw [if_pos hc, if_pos (by rcases hc with hc | hc; exact .inr (.inr (.inr (.inl hc))); exact .inr (.inr (.inr (.inr hc))))]
  · rw [if_neg hc, if_neg]
    rintro (h | h | h | h | h)
    · exact hne h
    · exact hz h.1 h.2
    · omega
    · exact hc (.inl h)
    · exact hc (.inr h)
theorem pointB_take (l : List UInt8) : pointB l = (decide (l.take 1 = [46]) || decide (l.take 1 = [101]) || decide (l.take 1 = [69])) := by
  cases l with
  | nil => rfl
  | cons c l =>
    show (c == 46 || c == 101 || c == 69) = _
    simp only [List.take_succ_cons, List.take_zero, List.cons.injEq, and_true]
    rw [Bool.eq_iff_iff]
    simp
end Go.Proofs.Ytnhoecmcbikcnaa
/-! The walk of json's number. -/
namespace Go.Proofs.Ytnhoecmcbikcnaa
open Go.RowKit Go.PlainAid
set_option linter.unusedVariables false
set_option linter.unusedSimpArgs false
def NumEnd (rb : Nat) (s : ByteArray) (r : Option (Int × List UInt8)) (w : World) (e : Ending) (w' : World) : Prop :=
  match r with
  | none => Failed rb s 3 w e w'
  | some (n, l) => e = .returned (.agg #[.int .i64 4, .int .i64 n, .string ⟨#[]⟩, .slice none 0 0, .slice none 0 0]) ∧ RdTo rb s l w w'
theorem NumEnd.no {rb : Nat} {s : ByteArray} {r : Option (Int × List UInt8)} {w : World} {e : Ending} {w' : World} (hr : r = none) (h : Failed rb s 3 w e w') : NumEnd rb s r w e w' := by subst hr; exact h
theorem NumEnd.yes {rb : Nat} {s : ByteArray} {r : Option (Int × List UInt8)} {n : Int} {l : List UInt8} {w : World} {e : Ending} {w' : World} (hr : r = some (n, l))
    (h : e = .returned (.agg #[.int .i64 4, .int .i64 n, .string ⟨#[]⟩, .slice none 0 0, .slice none 0 0]) ∧ RdTo rb s l w w') : NumEnd rb s r w e w' := by subst hr; exact h
theorem RdSt.grown {w w' : World} {rb : Nat} {s : ByteArray} {k : Nat} (h : RdSt w rb s k) (hb : w.grownBy w' none) : RdSt w' rb s k := Blk.grown h hb (by simp)
theorem grown_new {w w' : World} {r : Option Nat} {g : Nat} (h : w.grownBy w' r) (hg : w.heap.size ≤ g) (i : Nat) (v : Value) : w.grownBy (w'.setCell ⟨g, i, none⟩ v) r :=
  ⟨h.os, h.tape, h.output, by have := h.size; simpa using this, fun k hk hne => by rw [Below.heap_setCell _ _ _ _ (by show k ≠ g; omega)]; exact h.block k hk hne⟩
theorem one_lit (c : UInt8) : (⟨#[c]⟩ : ByteArray).toList = [c] := by rw [ByteArray.toList_eq]
theorem ds_step {l ds rest : List UInt8} {u : UInt8} {t : List UInt8} (h : l = ds ++ rest) (hr : rest = u :: t) : l = (ds ++ [u]) ++ t := by rw [h, hr]; simp
set_option maxRecDepth 100000 in
set_option maxHeartbeats 4000000 in
theorem number_step (neg : Bool) (rb : Nat) (s : ByteArray) (k1 : Nat) (w : World) (hrb : rb < w.heap.size) (hk1 : k1 ≤ s.size) (hs : s.size ≤ 1000000)
    (HM : Hid (Calls Try.prog 39 #[.pointer (some ⟨rb, 0, none⟩), .string ⟨#[45]⟩] (w.alloc (.cells #[.int .i64 0, .int .i64 0, .string ⟨#[]⟩, .slice none 0 0, .slice none 0 0] 27)) fun e w' => e = .returned (.bool neg) ∧ RdSt w' rb s k1 ∧ (w.alloc (.cells #[.int .i64 0, .int .i64 0, .string ⟨#[]⟩, .slice none 0 0, .slice none 0 0] 27)).grownBy w' (some rb))) :
    Calls Try.prog 46 #[.pointer (some ⟨rb, 0, none⟩)] w (NumEnd rb s (numTail neg (s.toList.drop k1)) w) := by
  obtain ⟨V, hV⟩ : ∃ V, V = numTail neg (s.toList.drop k1) := ⟨_, rfl⟩
  rw [← hV]
  have HV : Hid (V = numTail neg (s.toList.drop k1)) := hV
  have hb := get_bt s
  clear hV
  have HA : Hid (w.grownBy (w.alloc (.cells #[.int .i64 0, .int .i64 0, .string ⟨#[]⟩, .slice none 0 0, .slice none 0 0] 27)) (some rb)) := World.grownBy_alloc w _ _
  have HY : Hid (Blk (w.alloc (.cells #[.int .i64 0, .int .i64 0, .string ⟨#[]⟩, .slice none 0 0, .slice none 0 0] 27)) w.heap.size 27 #[.int .i64 0, .int .i64 0, .string ⟨#[]⟩, .slice none 0 0, .slice none 0 0]) := Blk.new w _ _
  have hne : some w.heap.size ≠ some rb := by intro e; injection e with e; omega
  have HNE := Lib.hid hne
  clear hne
  cases hd : digH (s.toList.drop k1) with
  | false =>
    have HE : Hid (V = none) := by show _ = _; rw [HV.out, numTail_none _ hd]
    go_enter Try.func46, Try.ntmps46
    go_wp2_with fail
    refine HM.out.mono ?_; rintro e w1 ⟨rfl, h1, g1⟩
    have H1 := Lib.hid h1
    have G1 := Lib.hid (HA.out.trans g1)
    clear h1 g1
    go_wp2_with fail
    have HD := Lib.hid (digit_any rb s k1 w1 H1.out hk1 hs)
    rw [hd] at HD
    refine HD.out.mono ?_; rintro e w2 ⟨rfl, h2, g2⟩
    have H2 := Lib.hid h2
    have G2 := Lib.hid (G1.out.trans g2)
    clear h2 g2
    go_wp2_with fail
    refine (fail_any rb s k1 3 _ H2.out).mono ?_; rintro e w9 ⟨rfl, h9, g9⟩
    have H9 := Lib.hid h9
    have G9 := Lib.hid (G2.out.trans g9)
    clear h9 g9
    go_wp2_with fail
    exact ⟨rfl, NumEnd.no HE.out ⟨rfl, H9.out, G9.out⟩⟩
  | true =>
  have HDG := Lib.hid hd
  go_enter Try.func46, Try.ntmps46
  go_wp2_with fail
  refine HM.out.mono ?_; rintro e w1 ⟨rfl, h1, g1⟩
  have H1 := Lib.hid h1
  have G1 := Lib.hid (HA.out.trans g1)
  have Y1 := Lib.hid (HY.out.grown g1 HNE.out)
  clear h1 g1
  go_wp2_with fail
  have HD := Lib.hid (digit_any rb s k1 w1 H1.out hk1 hs)
  rw [hd] at HD
  clear hd
  refine HD.out.mono ?_; rintro e w2 ⟨rfl, h2, g2⟩
  have H2 := Lib.hid h2
  have G2 := Lib.hid (G1.out.trans g2)
  have Y2 := Lib.hid (Y1.out.grown g2 HNE.out)
  obtain ⟨c0, c1, c2⟩ := h2.cells3
  clear h2 g2
  go_wp2_with fail
  go_quiet (fail)
  have H3 : Hid (RdSt (w2.drewN nq) rb s k1) := H2.out
  have G3 : Hid (w.grownBy (w2.drewN nq) (some rb)) := grown_drewN G2.out _
  have Y3 : Hid (Blk (w2.drewN nq) w.heap.size 27 #[.int .i64 0, .int .i64 0, .string ⟨#[]⟩, .slice none 0 0, .slice none 0 0]) := Y2.out
  clear c0 c1 c2
  go_wp2_with fail
  go_loopg [4] (s.size - k1) (fun g t4 wr => ∃ (j : Nat) (ds : List UInt8) (N : Int), j ≤ s.size ∧ s.size - j ≤ g ∧ k1 + ds.length = j ∧ t4 = .int .i64 N ∧ Hid (s.toList.drop k1 = ds ++ s.toList.drop j) ∧ Hid (AllDig ds ∧ N = valD 0 ds ∧ N ≤ 9007199254740991 ∧ (1 < ds.length → ds.head? ≠ some 48) ∧ (ds ≠ [] → N ≠ 0 ∨ digH (s.toList.drop j) = false)) ∧
    Hid (RdSt wr rb s j) ∧ Hid (w.grownBy wr (some rb)) ∧ Hid (Blk wr w.heap.size 27 #[.int .i64 0, .int .i64 0, .string ⟨#[]⟩, .slice none 0 0, .slice none 0 0]))
  case atStart => exact ⟨k1, [], 0, hk1, Nat.le_refl _, rfl, rfl, (by show _ = _; rfl), (by refine ⟨fun x hx => ?_, rfl, ?_, ?_, ?_⟩; simp at hx; omega; simp; simp), H3, G3, Y3⟩
  case round =>
    clear H3 G3 Y3
    obtain ⟨j, ds, N, hj, hg, hjk, rfl, hl, hp, h0, hw, hy⟩ := hrel
    obtain ⟨wo, rfl⟩ : ∃ wo : World, wo = wr := ⟨_, rfl⟩
    have HDJ := Lib.hid (digit_any rb s j wo h0.out hj hs)
    cases hdj : digH (s.toList.drop j) with
    | true =>
      rw [hdj] at HDJ
      obtain ⟨u, t, hcu, hdu⟩ := digH_cons hdj
      have hlt : j < s.size := by
        rcases Nat.lt_or_ge j s.size with h | h
        · exact h
        · rw [drop_end s j h] at hcu; cases hcu
      obtain ⟨u', hu, hdr⟩ := drop_cons s j hlt
      have hcu2 := hdr.symm.trans hcu
      injection hcu2 with e1 e2
      subst e1; subst e2
      have bd := digB_bd hdu
      have hN0 : 0 ≤ N := by rw [hp.out.2.1]; exact valD_ge ds 0 (by omega) hp.out.1
      have hN1 : N ≤ 9007199254740991 := hp.out.2.2.1
      obtain ⟨M, hM⟩ : ∃ M, M = N * 10 + (bt s j - 48) := ⟨_, rfl⟩
      have HL2 : Hid (s.toList.drop k1 = (ds ++ [u']) ++ s.toList.drop (j + 1)) := ds_step hl.out hdr
      have HA2 : Hid (AllDig (ds ++ [u'])) := hp.out.1.snoc hdu
      have HM2 : Hid (M = valD 0 (ds ++ [u'])) := by show _ = _; rw [valD_snoc, ← hp.out.2.1, hM, hu]
      have hM0 : 0 ≤ M := by omega
      have hz2 : Hid (1 < (ds ++ [u']).length → (ds ++ [u']).head? ≠ some 48) := by
        intro h
        have hne : ds ≠ [] := by intro e; subst e; simp at h
        have h5 := hp.out.2.2.2.2 hne
        rw [hdj] at h5
        have h6 : N ≠ 0 := by rcases h5 with h5 | h5; exact h5; cases h5
        cases ds with
        | nil => exact absurd rfl hne
        | cons a ds =>
          show some a ≠ some 48
          intro e
          injection e with e
          by_cases hl1 : 1 < (a :: ds).length
          · exact hp.out.2.2.2.1 hl1 (by rw [e]; rfl)
          · have : ds = [] := by cases ds with | nil => rfl | cons b ds => simp at hl1
            subst this
            apply h6
            rw [hp.out.2.1, e]; rfl
      have x1 : IntKind.i64.wrap (N * 10) = N * 10 := IntWalk.i64_in _ (by omega)
      have x2 : IntKind.u8.wrap (bt s j - 48) = bt s j - 48 := wraps_u8 _ (by omega) (by omega)
      have x3 : IntKind.i64.wrap (bt s j - 48) = bt s j - 48 := IntWalk.i64_in _ (by omega)
      have x4 : IntKind.i64.wrap (N * 10 + (bt s j - 48)) = M := by rw [← hM]; exact IntWalk.i64_in _ (by omega)
      have i0 : (0 : Int) ≤ (j : Int) := by omega
      have i1 : (j : Int) < (s.size : Int) := by omega
      have hj1 : j + 1 ≤ s.size := by omega
      have HB : Hid (9007199254740991 < M ∨ M ≤ 9007199254740991) := by show _ ∨ _; omega
      have HX : Hid (0 ≤ bt s j - 48 ∧ bt s j - 48 < 256 ∧ 48 ≤ bt s j) := by show _ ∧ _; omega
      have hgg : s.size - (j + 1) ≤ gk - 1 := by omega
      have hg1 : 0 < gk := by omega
      have hjk2 : k1 + (ds ++ [u']).length = j + 1 := by rw [List.length_append]; simp; omega
      have HJK := Lib.hid hjk2
      have HNZ : Hid (M = 0 ∨ M ≠ 0) := by show _ ∨ _; omega
      clear hu hdr hcu hdu bd hN0 hN1 hM hM0 hjk hp hl hg hjk2
      go_wp2_with fail
      refine HDJ.out.mono ?_; rintro e w3 ⟨rfl, h3, g3⟩
      have H3 := Lib.hid h3
      have G3 := Lib.hid (hw.out.trans g3)
      have Y3 := Lib.hid (hy.out.grown g3 HNE.out)
      obtain ⟨c0, c1, c2⟩ := h3.cells3
      have f1 := h3.frozen 1
      clear h3 g3
      go_wp2_with fail
      go_quiet (fail)
      have H4 : Hid (RdSt ((w3.drewN nq).setCell ⟨rb, 1, none⟩ (.int .i64 ((j : Int) + 1))) rb s (j + 1)) := by
        have := (show Blk (w3.drewN nq) rb 55 #[.string s, .int .i64 j, .int .i64 0] from H3.out).set_ 1 (.int .i64 ((j + 1 : Nat) : Int))
        exact this
      have G4 : Hid (w.grownBy ((w3.drewN nq).setCell ⟨rb, 1, none⟩ (.int .i64 ((j : Int) + 1))) (some rb)) := grown_set (grown_drewN G3.out _) 1 _
      have Y4 : Hid (Blk ((w3.drewN nq).setCell ⟨rb, 1, none⟩ (.int .i64 ((j : Int) + 1))) w.heap.size 27 #[.int .i64 0, .int .i64 0, .string ⟨#[]⟩, .slice none 0 0, .slice none 0 0]) := (show Blk (w3.drewN nq) w.heap.size 27 #[.int .i64 0, .int .i64 0, .string ⟨#[]⟩, .slice none 0 0, .slice none 0 0] from Y3.out).far (by show w.heap.size ≠ rb; omega) _
      clear x1 x2 x3 x4
      by_cases hbig : 9007199254740991 < M
      · have dA : decide (9007199254740991 < M) = true := decide_eq_true hbig
        have HE : Hid (V = none) := by show _ = _; rw [HV.out, HL2.out]; exact numTail_big neg HA2.out (by rw [← HM2.out]; exact hbig)
        clear hbig
        go_wp2_with fail
        refine (fail_any rb s (j + 1) 3 _ H4.out).mono ?_; rintro e w9 ⟨rfl, h9, g9⟩
        have H9 := Lib.hid h9
        have G9 := Lib.hid (G4.out.trans g9)
        clear h9 g9
        go_wp2_with fail
        exact ⟨rfl, NumEnd.no HE.out ⟨rfl, H9.out, G9.out⟩⟩
      · have dA : decide (9007199254740991 < M) = false := decide_eq_false hbig
        have hMle : Hid (M ≤ 9007199254740991) := by show _ ≤ _; omega
        clear hbig
        have HD4 := Lib.hid (digit_any rb s (j + 1) _ H4.out hj1 hs)
        by_cases hM0 : M = 0
        · have e0 : (M == 0) = true := by rw [hM0]; rfl
          have HM0 := Lib.hid hM0
          clear hM0
          cases hd4 : digH (s.toList.drop (j + 1)) with
          | true =>
            rw [hd4] at HD4
            have HE : Hid (V = none) := by show _ = _; rw [HV.out, HL2.out]; exact numTail_zero neg HA2.out (by simp) (by rw [← HM2.out]; exact HM0.out) hd4
            clear hd4
            go_wp2_with fail
            refine HD4.out.mono ?_; rintro e w5 ⟨rfl, h5, g5⟩
            have H5 := Lib.hid h5
            have G5 := Lib.hid (G4.out.trans g5)
            clear h5 g5
            go_wp2_with fail
            refine (fail_any rb s (j + 1) 3 _ H5.out).mono ?_; rintro e w9 ⟨rfl, h9, g9⟩
            have H9 := Lib.hid h9
            have G9 := Lib.hid (G5.out.trans g9)
            clear h9 g9
            go_wp2_with fail
            exact ⟨rfl, NumEnd.no HE.out ⟨rfl, H9.out, G9.out⟩⟩
          | false =>
            rw [hd4] at HD4
            have HN2 : Hid (digH (s.toList.drop (j + 1)) = false) := hd4
            clear hd4
            go_wp2_with fail
            refine HD4.out.mono ?_; rintro e w5 ⟨rfl, h5, g5⟩
            have H5 := Lib.hid h5
            have G5 := Lib.hid (G4.out.trans g5)
            have Y5 := Lib.hid (Y4.out.grown g5 HNE.out)
            clear h5 g5
            go_wp2_with fail
            go_roundg (gk - 1)
            case measure => omega
            case rel => exact ⟨j + 1, ds ++ [u'], M, hj1, hgg, HJK.out, rfl, HL2, ⟨HA2.out, HM2.out, hMle.out, hz2.out, fun _ => .inr HN2.out⟩, H5, G5, Y5⟩
        · have e0 : (M == 0) = false := by rw [beq_eq_false_iff_ne]; exact hM0
          have HM0 := Lib.hid hM0
          clear hM0
          go_wp2_with fail
          go_roundg (gk - 1)
          case measure => omega
          case rel => exact ⟨j + 1, ds ++ [u'], M, hj1, hgg, HJK.out, rfl, HL2, ⟨HA2.out, HM2.out, hMle.out, hz2.out, fun _ => .inl HM0.out⟩, H4, G4, Y4⟩
    | false =>
      rw [hdj] at HDJ
      have hne : ds ≠ [] := by
        intro e
        have h5 := HDG.out
        rw [hl.out, e, List.nil_append, hdj] at h5
        cases h5
      have hkj : k1 < j := by have := List.length_pos_iff.2 hne; omega
      have hN0 : 0 ≤ N := by rw [hp.out.2.1]; exact valD_ge ds 0 (by omega) hp.out.1
      have hend := numTail_end neg hp.out.1 hne hdj (by rw [← hp.out.2.1]; exact hp.out.2.2.1) hp.out.2.2.2.1
      rw [← hl.out, ← HV.out, ← hp.out.2.1, pointB_take] at hend
      have HEND := Lib.hid hend
      have hNb : Hid (0 ≤ N ∧ N ≤ 9007199254740991) := ⟨hN0, hp.out.2.2.1⟩
      have hnw : IntKind.i64.wrap (-N) = -N := IntWalk.i64_in _ (by have := hNb.out; omega)
      have dkj : decide ((k1 : Int) < (j : Int)) = true := decide_eq_true (by omega)
      have dkj2 : decide (k1 < j) = true := decide_eq_true hkj
      have HNW := Lib.hid hnw
      clear hend hne hl hp hN0 hdj hg hjk hnw
      go_wp2_with fail
      refine HDJ.out.mono ?_; rintro e w3 ⟨rfl, h3, g3⟩
      have H3 := Lib.hid h3
      have G3 := Lib.hid (hw.out.trans g3)
      have Y3 := Lib.hid (hy.out.grown g3 HNE.out)
      clear h3 g3
      go_wp2_with fail
      by_cases p46 : (s.toList.drop j).take 1 = [46]
      · have HE : Hid (V = none) := by show _ = _; rw [HEND.out, if_pos (.inr (by rw [decide_eq_true p46]; simp))]
        refine (may_yes rb s ⟨#[46]⟩ j _ H3.out hj hs (by rw [one_lit]; exact p46)).mono ?_; rintro e w4 ⟨rfl, k4, hk4, hd4, h4, g4⟩
        have H4 := Lib.hid h4
        have G4 := Lib.hid (G3.out.trans g4)
        clear h4 g4
        go_wp2_with fail
        refine (fail_any rb s k4 3 _ H4.out).mono ?_; rintro e w9 ⟨rfl, h9, g9⟩
        have H9 := Lib.hid h9
        have G9 := Lib.hid (G4.out.trans g9)
        clear h9 g9
        go_wp2_with fail
        exact ⟨rfl, NumEnd.no HE.out ⟨rfl, H9.out, G9.out⟩⟩
      have P46 := Lib.hid p46
      refine (may_no rb s ⟨#[46]⟩ j _ H3.out hj hs (by decide) (by rw [one_lit]; exact p46)).mono ?_; rintro e w4 ⟨rfl, h4, g4⟩
      have H4 := Lib.hid h4
      have G4 := Lib.hid (G3.out.trans g4)
      have Y4 := Lib.hid (Y3.out.grown g4 HNE.out)
      clear p46
      clear h4 g4
      go_wp2_with fail
      by_cases p101 : (s.toList.drop j).take 1 = [101]
      · have HE : Hid (V = none) := by show _ = _; rw [HEND.out, if_pos (.inr (by rw [decide_eq_true p101]; simp))]
        refine (may_yes rb s ⟨#[101]⟩ j _ H4.out hj hs (by rw [one_lit]; exact p101)).mono ?_; rintro e w5 ⟨rfl, k5, hk5, hd5, h5, g5⟩
        have H5 := Lib.hid h5
        have G5 := Lib.hid (G4.out.trans g5)
        clear h5 g5
        go_wp2_with fail
        refine (fail_any rb s k5 3 _ H5.out).mono ?_; rintro e w9 ⟨rfl, h9, g9⟩
        have H9 := Lib.hid h9
        have G9 := Lib.hid (G5.out.trans g9)
        clear h9 g9
        go_wp2_with fail
        exact ⟨rfl, NumEnd.no HE.out ⟨rfl, H9.out, G9.out⟩⟩
      have P101 := Lib.hid p101
      refine (may_no rb s ⟨#[101]⟩ j _ H4.out hj hs (by decide) (by rw [one_lit]; exact p101)).mono ?_; rintro e w5 ⟨rfl, h5, g5⟩
      have H5 := Lib.hid h5
      have G5 := Lib.hid (G4.out.trans g5)
      have Y5 := Lib.hid (Y4.out.grown g5 HNE.out)
      clear p101
      clear h5 g5
      go_wp2_with fail
      by_cases p69 : (s.toList.drop j).take 1 = [69]
      · have HE : Hid (V = none) := by show _ = _; rw [HEND.out, if_pos (.inr (by rw [decide_eq_true p69]; simp))]
        refine (may_yes rb s ⟨#[69]⟩ j _ H5.out hj hs (by rw [one_lit]; exact p69)).mono ?_; rintro e w6 ⟨rfl, k6, hk6, hd6, h6, g6⟩
        have H6 := Lib.hid h6
        have G6 := Lib.hid (G5.out.trans g6)
        clear h6 g6
        go_wp2_with fail
        refine (fail_any rb s k6 3 _ H6.out).mono ?_; rintro e w9 ⟨rfl, h9, g9⟩
        have H9 := Lib.hid h9
        have G9 := Lib.hid (G6.out.trans g9)
        clear h9 g9
        go_wp2_with fail
        exact ⟨rfl, NumEnd.no HE.out ⟨rfl, H9.out, G9.out⟩⟩
      have P69 := Lib.hid p69
      refine (may_no rb s ⟨#[69]⟩ j _ H5.out hj hs (by decide) (by rw [one_lit]; exact p69)).mono ?_; rintro e w6 ⟨rfl, h6, g6⟩
      have H6 := Lib.hid h6
      have G6 := Lib.hid (G5.out.trans g6)
      have Y6 := Lib.hid (Y5.out.grown g6 HNE.out)
      clear p69
      obtain ⟨c0, c1, c2⟩ := h6.cells3
      clear h6 g6
      have HPB : Hid ((decide ((s.toList.drop j).take 1 = [46]) || decide ((s.toList.drop j).take 1 = [101]) || decide ((s.toList.drop j).take 1 = [69])) = false) := by
        show _ = _
        rw [decide_eq_false P46.out, decide_eq_false P101.out, decide_eq_false P69.out]; rfl
      cases neg with
      | true =>
        by_cases hz : N = 0
        · have e0 : (N == 0) = true := by rw [hz]; rfl
          have HE : Hid (V = none) := by show _ = _; rw [HEND.out, if_pos (.inl ⟨rfl, hz⟩)]
          clear hz
          go_wp2_with fail
          refine (fail_any rb s j 3 _ H6.out).mono ?_; rintro e w9 ⟨rfl, h9, g9⟩
          have H9 := Lib.hid h9
          have G9 := Lib.hid (G6.out.trans g9)
          clear h9 g9
          go_wp2_with fail
          exact ⟨rfl, NumEnd.no HE.out ⟨rfl, H9.out, G9.out⟩⟩
        · have e0 : (N == 0) = false := by rw [beq_eq_false_iff_ne]; exact hz
          have HZ := Lib.hid hz
          clear hz
          have HE : Hid (V = some ((-N), s.toList.drop j)) := by show _ = _; rw [HEND.out, if_neg (by rintro (h | h); exact HZ.out h.2; rw [HPB.out] at h; cases h)]; rfl
          obtain ⟨d0, d1, d2, d3, d4⟩ := Y6.out.cells5
          have f0 := Y6.out.frozen 0
          have f1 := Y6.out.frozen 1
          have f2 := Y6.out.frozen 2
          have f3 := Y6.out.frozen 3
          have f4 := Y6.out.frozen 4
          have hfin : Hid (Blk (((((w6.setCell ⟨w.heap.size, 0, none⟩ (.int .i64 4)).setCell ⟨w.heap.size, 1, none⟩ (.int .i64 (-N))).setCell ⟨w.heap.size, 2, none⟩ (.string ⟨#[]⟩)).setCell ⟨w.heap.size, 3, none⟩ (.slice none 0 0)).setCell ⟨w.heap.size, 4, none⟩ (.slice none 0 0)) w.heap.size 27 #[.int .i64 4, .int .i64 (-N), .string ⟨#[]⟩, .slice none 0 0, .slice none 0 0]) := (((((Y6.out.set_ 0 _).set_ 1 _).set_ 2 _).set_ 3 _).set_ 4 _)
          have hrd : Hid (RdSt (((((w6.setCell ⟨w.heap.size, 0, none⟩ (.int .i64 4)).setCell ⟨w.heap.size, 1, none⟩ (.int .i64 (-N))).setCell ⟨w.heap.size, 2, none⟩ (.string ⟨#[]⟩)).setCell ⟨w.heap.size, 3, none⟩ (.slice none 0 0)).setCell ⟨w.heap.size, 4, none⟩ (.slice none 0 0)) rb s j) := (((((show Blk w6 rb 55 #[.string s, .int .i64 j, .int .i64 0] from H6.out).far (by show rb ≠ w.heap.size; omega) _).far (by show rb ≠ w.heap.size; omega) _).far (by show rb ≠ w.heap.size; omega) _).far (by show rb ≠ w.heap.size; omega) _).far (by show rb ≠ w.heap.size; omega) _
          have hgr : Hid (w.grownBy (((((w6.setCell ⟨w.heap.size, 0, none⟩ (.int .i64 4)).setCell ⟨w.heap.size, 1, none⟩ (.int .i64 (-N))).setCell ⟨w.heap.size, 2, none⟩ (.string ⟨#[]⟩)).setCell ⟨w.heap.size, 3, none⟩ (.slice none 0 0)).setCell ⟨w.heap.size, 4, none⟩ (.slice none 0 0)) (some rb)) := grown_new (grown_new (grown_new (grown_new (grown_new G6.out (Nat.le_refl _) 0 _) (Nat.le_refl _) 1 _) (Nat.le_refl _) 2 _) (Nat.le_refl _) 3 _) (Nat.le_refl _) 4 _
          have HFIN := hfin.out
          have hnw := HNW.out
          go_wp2_with fail
          clear hfin d0 d1 d2 d3 d4 f0 f1 f2 f3 f4
          generalize (((((w6.setCell ⟨w.heap.size, 0, none⟩ (.int .i64 4)).setCell ⟨w.heap.size, 1, none⟩ (.int .i64 (-N))).setCell ⟨w.heap.size, 2, none⟩ (.string ⟨#[]⟩)).setCell ⟨w.heap.size, 3, none⟩ (.slice none 0 0)).setCell ⟨w.heap.size, 4, none⟩ (.slice none 0 0)) = WF at *
          obtain ⟨q0, q1, q2, q3, q4⟩ := HFIN.cells5
          refine bodyPost_ret (v := .agg #[.int .i64 4, .int .i64 (-N), .string ⟨#[]⟩, .slice none 0 0, .slice none 0 0]) (by simp [results, Try.results46, go_sem, q0, q1, q2, q3, q4]) rfl ?_
          exact NumEnd.yes HE.out ⟨rfl, j, hj, rfl, hrd.out, hgr.out⟩
      | false =>
        have HE : Hid (V = some (N, s.toList.drop j)) := by show _ = _; rw [HEND.out, if_neg (by rintro (h | h); cases h.1; rw [HPB.out] at h; cases h)]; rfl
        obtain ⟨d0, d1, d2, d3, d4⟩ := Y6.out.cells5
        have f0 := Y6.out.frozen 0
        have f1 := Y6.out.frozen 1
        have f2 := Y6.out.frozen 2
        have f3 := Y6.out.frozen 3
        have f4 := Y6.out.frozen 4
        have hfin : Hid (Blk (((((w6.setCell ⟨w.heap.size, 0, none⟩ (.int .i64 4)).setCell ⟨w.heap.size, 1, none⟩ (.int .i64 N)).setCell ⟨w.heap.size, 2, none⟩ (.string ⟨#[]⟩)).setCell ⟨w.heap.size, 3, none⟩ (.slice none 0 0)).setCell ⟨w.heap.size, 4, none⟩ (.slice none 0 0)) w.heap.size 27 #[.int .i64 4, .int .i64 N, .string ⟨#[]⟩, .slice none 0 0, .slice none 0 0]) := (((((Y6.out.set_ 0 _).set_ 1 _).set_ 2 _).set_ 3 _).set_ 4 _)
        have hrd : Hid (RdSt (((((w6.setCell ⟨w.heap.size, 0, none⟩ (.int .i64 4)).setCell ⟨w.heap.size, 1, none⟩ (.int .i64 N)).setCell ⟨w.heap.size, 2, none⟩ (.string ⟨#[]⟩)).setCell ⟨w.heap.size, 3, none⟩ (.slice none 0 0)).setCell ⟨w.heap.size, 4, none⟩ (.slice none 0 0)) rb s j) := (((((show Blk w6 rb 55 #[.string s, .int .i64 j, .int .i64 0] from H6.out).far (by show rb ≠ w.heap.size; omega) _).far (by show rb ≠ w.heap.size; omega) _).far (by show rb ≠ w.heap.size; omega) _).far (by show rb ≠ w.heap.size; omega) _).far (by show rb ≠ w.heap.size; omega) _
        have hgr : Hid (w.grownBy (((((w6.setCell ⟨w.heap.size, 0, none⟩ (.int .i64 4)).setCell ⟨w.heap.size, 1, none⟩ (.int .i64 N)).setCell ⟨w.heap.size, 2, none⟩ (.string ⟨#[]⟩)).setCell ⟨w.heap.size, 3, none⟩ (.slice none 0 0)).setCell ⟨w.heap.size, 4, none⟩ (.slice none 0 0)) (some rb)) := grown_new (grown_new (grown_new (grown_new (grown_new G6.out (Nat.le_refl _) 0 _) (Nat.le_refl _) 1 _) (Nat.le_refl _) 2 _) (Nat.le_refl _) 3 _) (Nat.le_refl _) 4 _
        have HFIN := hfin.out
        go_wp2_with fail
        clear hfin d0 d1 d2 d3 d4 f0 f1 f2 f3 f4
        generalize (((((w6.setCell ⟨w.heap.size, 0, none⟩ (.int .i64 4)).setCell ⟨w.heap.size, 1, none⟩ (.int .i64 N)).setCell ⟨w.heap.size, 2, none⟩ (.string ⟨#[]⟩)).setCell ⟨w.heap.size, 3, none⟩ (.slice none 0 0)).setCell ⟨w.heap.size, 4, none⟩ (.slice none 0 0)) = WF at *
        obtain ⟨q0, q1, q2, q3, q4⟩ := HFIN.cells5
        refine bodyPost_ret (v := .agg #[.int .i64 4, .int .i64 N, .string ⟨#[]⟩, .slice none 0 0, .slice none 0 0]) (by simp [results, Try.results46, go_sem, q0, q1, q2, q3, q4]) rfl ?_
        exact NumEnd.yes HE.out ⟨rfl, j, hj, rfl, hrd.out, hgr.out⟩
theorem numL_eq (l : List UInt8) : numL l = if l.take 1 = [45] then numTail true (l.drop 1) else numTail false l := by
  unfold numL
  cases l with
  | nil => rfl
  | cons c l => simp
theorem number_any (rb : Nat) (s : ByteArray) (k : Nat) (w : World) (h : RdSt w rb s k) (hk : k ≤ s.size) (hs : s.size ≤ 1000000) :
    Calls Try.prog 46 #[.pointer (some ⟨rb, 0, none⟩)] w (NumEnd rb s (numL (s.toList.drop k)) w) := by
  have hrb : rb < w.heap.size := h.lt
  have h1 : RdSt (w.alloc (.cells #[.int .i64 0, .int .i64 0, .string ⟨#[]⟩, .slice none 0 0, .slice none 0 0] 27)) rb s k := h.alloc _
  rw [numL_eq]
  by_cases p : (s.toList.drop k).take 1 = [45]
  · rw [if_pos p]
    have hm := may_yes rb s ⟨#[45]⟩ k _ h1 hk hs (by rw [one_lit]; exact p)
    have hkl : k < s.size := by
      rcases Nat.lt_or_ge k s.size with h | h
      · exact h
      · rw [drop_end s k h] at p; cases p
    have := number_step true rb s (k + 1) w hrb (by omega) hs (Lib.hid (hm.mono (by
      rintro e w' ⟨rfl, k', hk', hd, h2, g2⟩
      refine ⟨rfl, ?_, g2⟩
      have e1 : k' = k + 1 := by
        have e2 := congrArg List.length hd
        rw [List.length_drop, List.length_drop, List.length_drop, toList_len] at e2
        have : ({ data := #[45] } : ByteArray).size = 1 := rfl
        omega
      subst e1
      exact h2)))
    rw [List.drop_drop]
    exact this
  · rw [if_neg p]
    exact number_step false rb s k w hrb hk hs (Lib.hid (may_no rb s ⟨#[45]⟩ k _ h1 hk hs (by decide) (by rw [one_lit]; exact p)))
end Go.Proofs.Ytnhoecmcbikcnaa
/-! The walks of json's unit and point. -/
namespace Go.Proofs.Ytnhoecmcbikcnaa
open Go.RowKit Go.PlainAid
set_option linter.unusedVariables false
set_option linter.unusedSimpArgs false
def IntEnd (rb : Nat) (s : ByteArray) (r : Option (Int × List UInt8)) (w : World) (e : Ending) (w' : World) : Prop :=
  match r with
  | none => Failed rb s 3 w e w'
  | some (n, l) => e = .returned (.int .i64 n) ∧ RdTo rb s l w w'
theorem IntEnd.no {rb : Nat} {s : ByteArray} {r : Option (Int × List UInt8)} {w : World} {e : Ending} {w' : World} (hr : r = none) (h : Failed rb s 3 w e w') : IntEnd rb s r w e w' := by subst hr; exact h
theorem IntEnd.yes {rb : Nat} {s : ByteArray} {r : Option (Int × List UInt8)} {n : Int} {l : List UInt8} {w : World} {e : Ending} {w' : World} (hr : r = some (n, l)) (h : e = .returned (.int .i64 n) ∧ RdTo rb s l w w') : IntEnd rb s r w e w' := by subst hr; exact h
theorem hex_or (n d : Int) (h0 : 0 ≤ n) (h1 : n < 4294967296) (h2 : 0 ≤ d) (h3 : d < 16) : bits BinOp.or IntKind.i64 (n * 16) d = n * 16 + d := i64_join 4 _ _ (by omega) (by omega) (by omega) (by omega) (by omega) (by omega)
theorem pow_bd (i : Nat) (h : i ≤ 4) : (16 : Int) ^ i ≤ 65536 := by
  rcases (by omega : i = 0 ∨ i = 1 ∨ i = 2 ∨ i = 3 ∨ i = 4) with rfl | rfl | rfl | rfl | rfl <;> decide
set_option maxRecDepth 100000 in
set_option maxHeartbeats 4000000 in
theorem unit_any (rb : Nat) (s : ByteArray) (k : Nat) (w : World) (h : RdSt w rb s k) (hk : k ≤ s.size) (hs : s.size ≤ 1000000) :
    Calls Try.prog 69 #[.pointer (some ⟨rb, 0, none⟩)] w (IntEnd rb s (unitL 4 0 (s.toList.drop k)) w) := by
  obtain ⟨V, hV⟩ : ∃ V, V = unitL 4 0 (s.toList.drop k) := ⟨_, rfl⟩
  rw [← hV]
  have HV : Hid (V = unitL 4 0 (s.toList.drop k)) := hV
  have H0 := Lib.hid h
  have hb := get_bt s
  clear hV h
  go_enter Try.func69, Try.ntmps69
  go_wp2_with fail
  go_loopg [3, 5] 4 (fun g t3 t5 wr => ∃ (j i : Nat) (N : Int), j ≤ s.size ∧ i + g = 4 ∧ t5 = .int .i64 i ∧ t3 = .int .i64 N ∧ Hid (V = unitL g N (s.toList.drop j)) ∧ Hid (0 ≤ N ∧ N < 16 ^ i) ∧ Hid (RdSt wr rb s j) ∧ Hid (w.grownBy wr (some rb)))
  case atStart => exact ⟨k, 0, 0, hk, rfl, rfl, rfl, HV, (by show _ ∧ _; omega), H0, grown_refl _ _⟩
  case round =>
    clear HV H0
    obtain ⟨j, i, N, hj, hig, rfl, rfl, hv, hN, h0, hw⟩ := hrel
    obtain ⟨wo, rfl⟩ : ∃ wo : World, wo = wr := ⟨_, rfl⟩
    have hi4 : i ≤ 4 := by omega
    by_cases hlt : i < 4
    · have di : decide ((i : Int) < 4) = true := decide_eq_true (by omega)
      obtain ⟨c0, c1, c2⟩ := h0.out.cells3
      have f1 := h0.out.frozen 1
      have hpb := pow_bd i hi4
      have hgs : gk = (gk - 1) + 1 := by omega
      by_cases hjs : j < s.size
      · obtain ⟨u, hu, hd⟩ := drop_cons s j hjs
        have i0 : (0 : Int) ≤ (j : Int) := by omega
        have i1 : (j : Int) < (s.size : Int) := by omega
        have ne1 : ((j : Int) == (s.size : Int)) = false := by rw [beq_eq_false_iff_ne]; omega
        have b0 := bt_nonneg s j
        have b1 := bt_le s j
        have hj1 : j + 1 ≤ s.size := by omega
        have hig2 : (i + 1) + (gk - 1) = 4 := by omega
        have hN0 := hN.out.1
        have hN1 : N < 65536 := by have := hN.out.2; omega
        have hstep : ∀ d, hexD u = some d → V = unitL (gk - 1) (N * 16 + d) (s.toList.drop (j + 1)) := fun d hd2 => by
          rw [hv.out, hgs, hd]
          simp only [Nat.add_sub_cancel]
          conv => lhs; unfold unitL
          rw [hd2]
        have hno : hexD u = none → V = none := fun hd2 => by
          rw [hv.out, hgs, hd]
          conv => lhs; unfold unitL
          rw [hd2]
        have hbd2 : ∀ d, hexD u = some d → 0 ≤ N * 16 + d ∧ N * 16 + d < 16 ^ (i + 1) := fun d hd2 => by
          have h5 := hexD_bd hd2
          have h6 := hN.out.2
          rw [Int.pow_succ]
          omega
        have HSTEP := Lib.hid hstep
        have HNO := Lib.hid hno
        have HBD := Lib.hid hbd2
        have H4 : Hid (∀ n, RdSt ((wo.drewN n).setCell ⟨rb, 1, none⟩ (.int .i64 ((j : Int) + 1))) rb s (j + 1)) := fun n => by
          have := (show Blk (wo.drewN n) rb 55 #[.string s, .int .i64 j, .int .i64 0] from h0.out).set_ 1 (.int .i64 ((j + 1 : Nat) : Int))
          exact this
        have G4 : Hid (∀ n, w.grownBy ((wo.drewN n).setCell ⟨rb, 1, none⟩ (.int .i64 ((j : Int) + 1))) (some rb)) := fun n => grown_set (grown_drewN hw.out _) 1 _
        clear hd hstep hno hbd2 hgs hpb
        rcases (by omega : (0 ≤ bt s j ∧ bt s j ≤ 47) ∨ (48 ≤ bt s j ∧ bt s j ≤ 57) ∨ (58 ≤ bt s j ∧ bt s j ≤ 64) ∨ (65 ≤ bt s j ∧ bt s j ≤ 70) ∨ (71 ≤ bt s j ∧ bt s j ≤ 96) ∨ (97 ≤ bt s j ∧ bt s j ≤ 102) ∨ (103 ≤ bt s j ∧ bt s j ≤ 255)) with hr | hr | hr | hr | hr | hr | hr
        · have hd2 : hexD u = none := by unfold hexD; rw [if_neg (by omega), if_neg (by omega), if_neg (by omega)]
          have d48 : decide (48 ≤ bt s j) = false := decide_eq_false (by omega)
          have d57 : decide (bt s j ≤ 57) = true := decide_eq_true (by omega)
          have d97 : decide (97 ≤ bt s j) = false := decide_eq_false (by omega)
          have d102 : decide (bt s j ≤ 102) = true := decide_eq_true (by omega)
          have d65 : decide (65 ≤ bt s j) = false := decide_eq_false (by omega)
          have d70 : decide (bt s j ≤ 70) = true := decide_eq_true (by omega)
          have E1 := Lib.hid (HNO.out hd2)
          clear hd2 hu
          go_wp2_with fail
          go_quiet (fail)
          go_wp2_with fail
          go_quiet (fail)
          go_wp2_with fail
          refine (fail_any rb s (j + 1) 3 _ (H4.out _)).mono ?_; rintro e w9 ⟨rfl, h9, g9⟩
          have H9 := Lib.hid h9
          have G9 := Lib.hid ((G4.out _).trans g9)
          clear h9 g9
          go_wp2_with fail
          exact ⟨rfl, IntEnd.no E1.out ⟨rfl, H9.out, G9.out⟩⟩
        · have hd2 : hexD u = some (bt s j - 48) := by unfold hexD; rw [if_pos (by omega), hu]
          have d48 : decide (48 ≤ bt s j) = true := decide_eq_true (by omega)
          have d57 : decide (bt s j ≤ 57) = true := decide_eq_true (by omega)
          have d97 : decide (97 ≤ bt s j) = false := decide_eq_false (by omega)
          have d102 : decide (bt s j ≤ 102) = true := decide_eq_true (by omega)
          have d65 : decide (65 ≤ bt s j) = false := decide_eq_false (by omega)
          have d70 : decide (bt s j ≤ 70) = true := decide_eq_true (by omega)
          have e1 : V = unitL (gk - 1) (N * 16 + (bt s j - 48)) (s.toList.drop (j + 1)) := HSTEP.out _ hd2
          have e2 := HBD.out _ hd2
          have o1 := hex_or N (bt s j - 48) hN0 (by omega) (by omega) (by omega)
          have E1 := Lib.hid e1
          have E2 := Lib.hid e2
          have x1 : IntKind.u8.wrap (bt s j - 48) = bt s j - 48 := wraps_u8 _ (by omega) (by omega)
          clear hd2 e1 e2 hu
          go_wp2_with fail
          go_quiet (fail)
          go_wp2_with fail
          go_quiet (fail)
          go_wp2_with fail
          go_roundg (gk - 1)
          case measure => omega
          case rel => exact ⟨j + 1, i + 1, _, hj1, hig2, by go_num, rfl, E1, E2, H4.out _, G4.out _⟩
        · have hd2 : hexD u = none := by unfold hexD; rw [if_neg (by omega), if_neg (by omega), if_neg (by omega)]
          have d48 : decide (48 ≤ bt s j) = true := decide_eq_true (by omega)
          have d57 : decide (bt s j ≤ 57) = false := decide_eq_false (by omega)
          have d97 : decide (97 ≤ bt s j) = false := decide_eq_false (by omega)
          have d102 : decide (bt s j ≤ 102) = true := decide_eq_true (by omega)
          have d65 : decide (65 ≤ bt s j) = false := decide_eq_false (by omega)
          have d70 : decide (bt s j ≤ 70) = true := decide_eq_true (by omega)
          have E1 := Lib.hid (HNO.out hd2)
          clear hd2 hu
          go_wp2_with fail
          go_quiet (fail)
          go_wp2_with fail
          go_quiet (fail)
          go_wp2_with fail
          refine (fail_any rb s (j + 1) 3 _ (H4.out _)).mono ?_; rintro e w9 ⟨rfl, h9, g9⟩
          have H9 := Lib.hid h9
          have G9 := Lib.hid ((G4.out _).trans g9)
          clear h9 g9
          go_wp2_with fail
          exact ⟨rfl, IntEnd.no E1.out ⟨rfl, H9.out, G9.out⟩⟩
        · have hd2 : hexD u = some (bt s j - 65 + 10) := by unfold hexD; rw [if_neg (by omega), if_neg (by omega), if_pos (by omega), hu]; congr 1; omega
          have d48 : decide (48 ≤ bt s j) = true := decide_eq_true (by omega)
          have d57 : decide (bt s j ≤ 57) = false := decide_eq_false (by omega)
          have d97 : decide (97 ≤ bt s j) = false := decide_eq_false (by omega)
          have d102 : decide (bt s j ≤ 102) = true := decide_eq_true (by omega)
          have d65 : decide (65 ≤ bt s j) = true := decide_eq_true (by omega)
          have d70 : decide (bt s j ≤ 70) = true := decide_eq_true (by omega)
          have e1 : V = unitL (gk - 1) (N * 16 + (bt s j - 65 + 10)) (s.toList.drop (j + 1)) := HSTEP.out _ hd2
          have e2 := HBD.out _ hd2
          have o1 := hex_or N (bt s j - 65 + 10) hN0 (by omega) (by omega) (by omega)
          have E1 := Lib.hid e1
          have E2 := Lib.hid e2
          have x1 : IntKind.u8.wrap (bt s j - 65) = bt s j - 65 := wraps_u8 _ (by omega) (by omega)
          have x2 : IntKind.u8.wrap (bt s j - 65 + 10) = bt s j - 65 + 10 := wraps_u8 _ (by omega) (by omega)
          clear hd2 e1 e2 hu
          go_wp2_with fail
          go_quiet (fail)
          go_wp2_with fail
          go_quiet (fail)
          go_wp2_with fail
          go_roundg (gk - 1)
          case measure => omega
          case rel => exact ⟨j + 1, i + 1, _, hj1, hig2, by go_num, rfl, E1, E2, H4.out _, G4.out _⟩
        · have hd2 : hexD u = none := by unfold hexD; rw [if_neg (by omega), if_neg (by omega), if_neg (by omega)]
          have d48 : decide (48 ≤ bt s j) = true := decide_eq_true (by omega)
          have d57 : decide (bt s j ≤ 57) = false := decide_eq_false (by omega)
          have d97 : decide (97 ≤ bt s j) = false := decide_eq_false (by omega)
          have d102 : decide (bt s j ≤ 102) = true := decide_eq_true (by omega)
          have d65 : decide (65 ≤ bt s j) = true := decide_eq_true (by omega)
          have d70 : decide (bt s j ≤ 70) = false := decide_eq_false (by omega)
          have E1 := Lib.hid (HNO.out hd2)
          clear hd2 hu
          go_wp2_with fail
          go_quiet (fail)
          go_wp2_with fail
          go_quiet (fail)
          go_wp2_with fail
          refine (fail_any rb s (j + 1) 3 _ (H4.out _)).mono ?_; rintro e w9 ⟨rfl, h9, g9⟩
          have H9 := Lib.hid h9
          have G9 := Lib.hid ((G4.out _).trans g9)
          clear h9 g9
          go_wp2_with fail
          exact ⟨rfl, IntEnd.no E1.out ⟨rfl, H9.out, G9.out⟩⟩
        · have hd2 : hexD u = some (bt s j - 97 + 10) := by unfold hexD; rw [if_neg (by omega), if_pos (by omega), hu]; congr 1; omega
          have d48 : decide (48 ≤ bt s j) = true := decide_eq_true (by omega)
          have d57 : decide (bt s j ≤ 57) = false := decide_eq_false (by omega)
          have d97 : decide (97 ≤ bt s j) = true := decide_eq_true (by omega)
          have d102 : decide (bt s j ≤ 102) = true := decide_eq_true (by omega)
          have d65 : decide (65 ≤ bt s j) = true := decide_eq_true (by omega)
          have d70 : decide (bt s j ≤ 70) = false := decide_eq_false (by omega)
          have e1 : V = unitL (gk - 1) (N * 16 + (bt s j - 97 + 10)) (s.toList.drop (j + 1)) := HSTEP.out _ hd2
          have e2 := HBD.out _ hd2
          have o1 := hex_or N (bt s j - 97 + 10) hN0 (by omega) (by omega) (by omega)
          have E1 := Lib.hid e1
          have E2 := Lib.hid e2
          have x1 : IntKind.u8.wrap (bt s j - 97) = bt s j - 97 := wraps_u8 _ (by omega) (by omega)
          have x2 : IntKind.u8.wrap (bt s j - 97 + 10) = bt s j - 97 + 10 := wraps_u8 _ (by omega) (by omega)
          clear hd2 e1 e2 hu
          go_wp2_with fail
          go_quiet (fail)
          go_wp2_with fail
          go_quiet (fail)
          go_wp2_with fail
          go_roundg (gk - 1)
          case measure => omega
          case rel => exact ⟨j + 1, i + 1, _, hj1, hig2, by go_num, rfl, E1, E2, H4.out _, G4.out _⟩
        · have hd2 : hexD u = none := by unfold hexD; rw [if_neg (by omega), if_neg (by omega), if_neg (by omega)]
          have d48 : decide (48 ≤ bt s j) = true := decide_eq_true (by omega)
          have d57 : decide (bt s j ≤ 57) = false := decide_eq_false (by omega)
          have d97 : decide (97 ≤ bt s j) = true := decide_eq_true (by omega)
          have d102 : decide (bt s j ≤ 102) = false := decide_eq_false (by omega)
          have d65 : decide (65 ≤ bt s j) = true := decide_eq_true (by omega)
          have d70 : decide (bt s j ≤ 70) = false := decide_eq_false (by omega)
          have E1 := Lib.hid (HNO.out hd2)
          clear hd2 hu
          go_wp2_with fail
          go_quiet (fail)
          go_wp2_with fail
          go_quiet (fail)
          go_wp2_with fail
          refine (fail_any rb s (j + 1) 3 _ (H4.out _)).mono ?_; rintro e w9 ⟨rfl, h9, g9⟩
          have H9 := Lib.hid h9
          have G9 := Lib.hid ((G4.out _).trans g9)
          clear h9 g9
          go_wp2_with fail
          exact ⟨rfl, IntEnd.no E1.out ⟨rfl, H9.out, G9.out⟩⟩
      · have ne1 : ((j : Int) == (s.size : Int)) = true := by rw [beq_iff_eq]; omega
        have E1 : Hid (V = none) := by
          show _ = _
          rw [hv.out, hgs, drop_end s j (by omega)]
          conv => lhs; unfold unitL
        have H5 : Hid (∀ n, RdSt (wo.drewN n) rb s j) := fun n => h0.out
        have G5 : Hid (∀ n, w.grownBy (wo.drewN n) (some rb)) := fun n => grown_drewN hw.out n
        clear hpb hgs
        go_wp2_with fail
        go_quiet (fail)
        go_wp2_with fail
        refine (fail_any rb s j 3 _ (H5.out _)).mono ?_; rintro e w9 ⟨rfl, h9, g9⟩
        have H9 := Lib.hid h9
        have G9 := Lib.hid ((G5.out _).trans g9)
        clear h9 g9
        go_wp2_with fail
        exact ⟨rfl, IntEnd.no E1.out ⟨rfl, H9.out, G9.out⟩⟩
    · have di : decide ((i : Int) < 4) = false := decide_eq_false (by omega)
      obtain rfl : gk = 0 := by omega
      have E1 : Hid (V = some (N, s.toList.drop j)) := by show _ = _; rw [hv.out]; unfold unitL; rfl
      go_wp2_with fail
      go_ret
      exact IntEnd.yes E1.out ⟨rfl, j, hj, rfl, h0.out, hw.out⟩
end Go.Proofs.Ytnhoecmcbikcnaa
/-! The walk of json's point. -/
namespace Go.Proofs.Ytnhoecmcbikcnaa
open Go.RowKit Go.PlainAid
set_option linter.unusedVariables false
set_option linter.unusedSimpArgs false
theorem and1023 (x : Int) (h₀ : 0 ≤ x) (h₁ : x < 9223372036854775808) : bits .and .i64 x 1023 = x % 1024 := i64_mask 10 (by decide) x h₀ h₁
theorem two_lit : (⟨#[92, 117]⟩ : ByteArray).toList = [92, 117] := by rw [ByteArray.toList_eq]
set_option maxRecDepth 100000 in
set_option maxHeartbeats 4000000 in
theorem point_any (rb : Nat) (s : ByteArray) (k : Nat) (w : World) (h : RdSt w rb s k) (hk : k ≤ s.size) (hs : s.size ≤ 1000000) :
    Calls Try.prog 64 #[.pointer (some ⟨rb, 0, none⟩)] w (IntEnd rb s (pointL (s.toList.drop k)) w) := by
  obtain ⟨V, hV⟩ : ∃ V, V = pointL (s.toList.drop k) := ⟨_, rfl⟩
  rw [← hV]
  have hu1 := unit_any rb s k w h hk hs
  have hbd := unitL_bd 4 0 (s.toList.drop k)
  unfold pointL at hV
  cases hq : unitL 4 0 (s.toList.drop k) with
  | none =>
    rw [hq] at hu1 hV
    have E1 : Hid (V = none) := hV
    have HU1 := Lib.hid (show Calls Try.prog 69 #[.pointer (some ⟨rb, 0, none⟩)] w (Failed rb s 3 w) from hu1)
    clear hu1 hV hbd h hq
    go_enter Try.func64, Try.ntmps64
    go_wp2_with fail
    refine HU1.out.mono ?_; rintro e w9 ⟨rfl, h9, g9⟩
    have H9 := Lib.hid h9
    have G9 := Lib.hid g9
    clear h9 g9
    go_wp2_with fail
    exact ⟨rfl, IntEnd.no E1.out ⟨rfl, H9.out, G9.out⟩⟩
  | some p =>
    obtain ⟨n, r⟩ := p
    rw [hq] at hu1 hV
    have hbn := hbd n r (by omega) hq
    have n0 : 0 ≤ n := hbn.1
    have n1 : n < 65536 := by have := hbn.2; simpa using this
    replace hV : V = if n < 55296 ∨ 57343 < n then some (n, r) else if 56320 ≤ n then none else if r.take 2 = [92, 117] then
      (match unitL 4 0 (r.drop 2) with
      | none => none
      | some (low, r2) => if low < 56320 ∨ 57343 < low then none else some (65536 + (n % 1024) * 1024 + low % 1024, r2))
    else none := hV
    have HU1 := Lib.hid (show Calls Try.prog 69 #[.pointer (some ⟨rb, 0, none⟩)] w (fun e w' => e = .returned (.int .i64 n) ∧ RdTo rb s r w w') from hu1)
    have HV := Lib.hid hV
    clear hu1 hV hbd h hq hbn
    by_cases a : n < 55296
    · have E1 : Hid (V = some (n, r)) := by show _ = _; rw [HV.out, if_pos (.inl a)]
      go_enter Try.func64, Try.ntmps64
      go_wp2_with fail
      refine HU1.out.mono ?_; rintro e w1 ⟨rfl, k1, hk1, hd1, h1, g1⟩
      have H1 := Lib.hid h1
      have G1 := Lib.hid g1
      have D1 := Lib.hid hd1
      clear h1 g1 hd1
      go_wp2_with fail
      go_ret
      exact IntEnd.yes E1.out ⟨rfl, k1, hk1, D1.out, H1.out, G1.out⟩
    by_cases b : 57343 < n
    · have E1 : Hid (V = some (n, r)) := by show _ = _; rw [HV.out, if_pos (.inr b)]
      go_enter Try.func64, Try.ntmps64
      go_wp2_with fail
      refine HU1.out.mono ?_; rintro e w1 ⟨rfl, k1, hk1, hd1, h1, g1⟩
      have H1 := Lib.hid h1
      have G1 := Lib.hid g1
      have D1 := Lib.hid hd1
      clear h1 g1 hd1
      go_wp2_with fail
      go_ret
      exact IntEnd.yes E1.out ⟨rfl, k1, hk1, D1.out, H1.out, G1.out⟩
    by_cases c : 56320 ≤ n
    · have E1 : Hid (V = none) := by show _ = _; rw [HV.out, if_neg (by omega), if_pos c]
      go_enter Try.func64, Try.ntmps64
      go_wp2_with fail
      refine HU1.out.mono ?_; rintro e w1 ⟨rfl, k1, hk1, hd1, h1, g1⟩
      have H1 := Lib.hid h1
      have G1 := Lib.hid g1
      have D1 := Lib.hid hd1
      clear h1 g1 hd1
      go_wp2_with fail
      refine (fail_any rb s k1 3 _ H1.out).mono ?_; rintro e w9 ⟨rfl, h9, g9⟩
      have H9 := Lib.hid h9
      have G9 := Lib.hid (G1.out.trans g9)
      clear h9 g9
      go_wp2_with fail
      exact ⟨rfl, IntEnd.no E1.out ⟨rfl, H9.out, G9.out⟩⟩
    by_cases q : r.take 2 = [92, 117]
    case neg =>
      have E1 : Hid (V = none) := by show _ = _; rw [HV.out, if_neg (by omega), if_neg c, if_neg q]
      have HQ := Lib.hid q
      clear q
      go_enter Try.func64, Try.ntmps64
      go_wp2_with fail
      refine HU1.out.mono ?_; rintro e w1 ⟨rfl, k1, hk1, hd1, h1, g1⟩
      have H1 := Lib.hid h1
      have G1 := Lib.hid g1
      have D1 := Lib.hid hd1
      clear h1 g1 hd1
      go_wp2_with fail
      refine (must_no rb s ⟨#[92, 117]⟩ k1 _ H1.out hk1 hs (by decide) (by rw [D1.out, two_lit]; exact HQ.out)).mono ?_; rintro e w9 ⟨rfl, h9, g9⟩
      have H9 := Lib.hid h9
      have G9 := Lib.hid (G1.out.trans g9)
      clear h9 g9
      go_wp2_with fail
      exact ⟨rfl, IntEnd.no E1.out ⟨rfl, H9.out, G9.out⟩⟩
    have HQ := Lib.hid q
    clear q
    cases hq2 : unitL 4 0 (r.drop 2) with
    | none =>
      have E1 : Hid (V = none) := by show _ = _; rw [HV.out, if_neg (by omega), if_neg c, if_pos HQ.out, hq2]
      have HQ2 := Lib.hid hq2
      clear hq2
      go_enter Try.func64, Try.ntmps64
      go_wp2_with fail
      refine HU1.out.mono ?_; rintro e w1 ⟨rfl, k1, hk1, hd1, h1, g1⟩
      have H1 := Lib.hid h1
      have G1 := Lib.hid g1
      have D1 := Lib.hid hd1
      clear h1 g1 hd1
      go_wp2_with fail
      refine (must_yes rb s ⟨#[92, 117]⟩ k1 _ H1.out hk1 hs (by rw [D1.out, two_lit]; exact HQ.out)).mono ?_; rintro e w2 ⟨rfl, k2, hk2, hd2, h2, g2⟩
      have G2 := Lib.hid (G1.out.trans g2)
      have hu2 := unit_any rb s k2 w2 h2 hk2 hs
      rw [hd2, D1.out, show ({ data := #[92, 117] } : ByteArray).size = 2 from rfl, HQ2.out] at hu2
      have HU2 := Lib.hid (show Calls Try.prog 69 #[.pointer (some ⟨rb, 0, none⟩)] w2 (Failed rb s 3 w2) from hu2)
      clear hu2 h2 g2 hd2
      go_wp2_with fail
      refine HU2.out.mono ?_; rintro e w9 ⟨rfl, h9, g9⟩
      have H9 := Lib.hid h9
      have G9 := Lib.hid (G2.out.trans g9)
      clear h9 g9
      go_wp2_with fail
      exact ⟨rfl, IntEnd.no E1.out ⟨rfl, H9.out, G9.out⟩⟩
    | some p =>
      obtain ⟨m, r2⟩ := p
      have hbm := unitL_bd 4 0 (r.drop 2) m r2 (by omega) hq2
      have m0 : 0 ≤ m := hbm.1
      have m1 : m < 65536 := by have := hbm.2; simpa using this
      have HV2 : Hid (V = if m < 56320 ∨ 57343 < m then none else some (65536 + (n % 1024) * 1024 + m % 1024, r2)) := by show _ = _; rw [HV.out, if_neg (by omega), if_neg c, if_pos HQ.out, hq2]
      have HQ2 := Lib.hid hq2
      clear hq2 hbm HV
      have and1 := and1023 n n0 (by omega)
      have and2 := and1023 m m0 (by omega)
      have sh : 0 ≤ n % 1024 ∧ n % 1024 < 1024 := by omega
      have sh2 : 0 ≤ m % 1024 ∧ m % 1024 < 1024 := by omega
      by_cases x : m < 56320
      · have E1 : Hid (V = none) := by show _ = _; rw [HV2.out, if_pos (.inl x)]
        go_enter Try.func64, Try.ntmps64
        go_wp2_with fail
        refine HU1.out.mono ?_; rintro e w1 ⟨rfl, k1, hk1, hd1, h1, g1⟩
        have H1 := Lib.hid h1
        have G1 := Lib.hid g1
        have D1 := Lib.hid hd1
        clear h1 g1 hd1
        go_wp2_with fail
        refine (must_yes rb s ⟨#[92, 117]⟩ k1 _ H1.out hk1 hs (by rw [D1.out, two_lit]; exact HQ.out)).mono ?_; rintro e w2 ⟨rfl, k2, hk2, hd2, h2, g2⟩
        have G2 := Lib.hid (G1.out.trans g2)
        have hu2 := unit_any rb s k2 w2 h2 hk2 hs
        rw [hd2, D1.out, show ({ data := #[92, 117] } : ByteArray).size = 2 from rfl, HQ2.out] at hu2
        have HU2 := Lib.hid (show Calls Try.prog 69 #[.pointer (some ⟨rb, 0, none⟩)] w2 (fun e w' => e = .returned (.int .i64 m) ∧ RdTo rb s r2 w2 w') from hu2)
        clear hu2 h2 g2 hd2
        go_wp2_with fail
        refine HU2.out.mono ?_; rintro e w3 ⟨rfl, k3, hk3, hd3, h3, g3⟩
        have H3 := Lib.hid h3
        have G3 := Lib.hid (G2.out.trans g3)
        have D3 := Lib.hid hd3
        clear h3 g3 hd3
        go_wp2_with fail
        refine (fail_any rb s k3 3 _ H3.out).mono ?_; rintro e w9 ⟨rfl, h9, g9⟩
        have H9 := Lib.hid h9
        have G9 := Lib.hid (G3.out.trans g9)
        clear h9 g9
        go_wp2_with fail
        exact ⟨rfl, IntEnd.no E1.out ⟨rfl, H9.out, G9.out⟩⟩
      have y1 : ¬ m < 56320 := x
      clear x
      by_cases x : 57343 < m
      · have E1 : Hid (V = none) := by show _ = _; rw [HV2.out, if_pos (.inr x)]
        go_enter Try.func64, Try.ntmps64
        go_wp2_with fail
        refine HU1.out.mono ?_; rintro e w1 ⟨rfl, k1, hk1, hd1, h1, g1⟩
        have H1 := Lib.hid h1
        have G1 := Lib.hid g1
        have D1 := Lib.hid hd1
        clear h1 g1 hd1
        go_wp2_with fail
        refine (must_yes rb s ⟨#[92, 117]⟩ k1 _ H1.out hk1 hs (by rw [D1.out, two_lit]; exact HQ.out)).mono ?_; rintro e w2 ⟨rfl, k2, hk2, hd2, h2, g2⟩
        have G2 := Lib.hid (G1.out.trans g2)
        have hu2 := unit_any rb s k2 w2 h2 hk2 hs
        rw [hd2, D1.out, show ({ data := #[92, 117] } : ByteArray).size = 2 from rfl, HQ2.out] at hu2
        have HU2 := Lib.hid (show Calls Try.prog 69 #[.pointer (some ⟨rb, 0, none⟩)] w2 (fun e w' => e = .returned (.int .i64 m) ∧ RdTo rb s r2 w2 w') from hu2)
        clear hu2 h2 g2 hd2
        go_wp2_with fail
        refine HU2.out.mono ?_; rintro e w3 ⟨rfl, k3, hk3, hd3, h3, g3⟩
        have H3 := Lib.hid h3
        have G3 := Lib.hid (G2.out.trans g3)
        have D3 := Lib.hid hd3
        clear h3 g3 hd3
        go_wp2_with fail
        refine (fail_any rb s k3 3 _ H3.out).mono ?_; rintro e w9 ⟨rfl, h9, g9⟩
        have H9 := Lib.hid h9
        have G9 := Lib.hid (G3.out.trans g9)
        clear h9 g9
        go_wp2_with fail
        exact ⟨rfl, IntEnd.no E1.out ⟨rfl, H9.out, G9.out⟩⟩
      have y2 : ¬ 57343 < m := x
      clear x
      have E1 : Hid (V = some (65536 + (n % 1024) * 1024 + m % 1024, r2)) := by show _ = _; rw [HV2.out, if_neg (by omega)]
      go_enter Try.func64, Try.ntmps64
      go_wp2_with fail
      refine HU1.out.mono ?_; rintro e w1 ⟨rfl, k1, hk1, hd1, h1, g1⟩
      have H1 := Lib.hid h1
      have G1 := Lib.hid g1
      have D1 := Lib.hid hd1
      clear h1 g1 hd1
      go_wp2_with fail
      refine (must_yes rb s ⟨#[92, 117]⟩ k1 _ H1.out hk1 hs (by rw [D1.out, two_lit]; exact HQ.out)).mono ?_; rintro e w2 ⟨rfl, k2, hk2, hd2, h2, g2⟩
      have G2 := Lib.hid (G1.out.trans g2)
      have hu2 := unit_any rb s k2 w2 h2 hk2 hs
      rw [hd2, D1.out, show ({ data := #[92, 117] } : ByteArray).size = 2 from rfl, HQ2.out] at hu2
      have HU2 := Lib.hid (show Calls Try.prog 69 #[.pointer (some ⟨rb, 0, none⟩)] w2 (fun e w' => e = .returned (.int .i64 m) ∧ RdTo rb s r2 w2 w') from hu2)
      clear hu2 h2 g2 hd2
      go_wp2_with fail
      refine HU2.out.mono ?_; rintro e w3 ⟨rfl, k3, hk3, hd3, h3, g3⟩
      have H3 := Lib.hid h3
      have G3 := Lib.hid (G2.out.trans g3)
      have D3 := Lib.hid hd3
      clear h3 g3 hd3
      go_wp2_with fail
      go_ret
      exact IntEnd.yes E1.out ⟨rfl, k3, hk3, D3.out, H3.out, G3.out⟩
end Go.Proofs.Ytnhoecmcbikcnaa
/-! The walk of json's escape. -/
namespace Go.Proofs.Ytnhoecmcbikcnaa
open Go.RowKit Go.PlainAid
set_option linter.unusedVariables false
set_option linter.unusedSimpArgs false
def StrEnd (rb : Nat) (s : ByteArray) (r : Option (List UInt8 × List UInt8)) (w : World) (e : Ending) (w' : World) : Prop :=
  match r with
  | none => Failed rb s 3 w e w'
  | some (b, l) => e = .returned (.string ⟨b.toArray⟩) ∧ RdTo rb s l w w'
theorem StrEnd.no {rb : Nat} {s : ByteArray} {r : Option (List UInt8 × List UInt8)} {w : World} {e : Ending} {w' : World} (hr : r = none) (h : Failed rb s 3 w e w') : StrEnd rb s r w e w' := by subst hr; exact h
theorem StrEnd.yes {rb : Nat} {s : ByteArray} {r : Option (List UInt8 × List UInt8)} {b l : List UInt8} {w : World} {e : Ending} {w' : World} (hr : r = some (b, l)) (h : e = .returned (.string ⟨b.toArray⟩) ∧ RdTo rb s l w w') : StrEnd rb s r w e w' := by subst hr; exact h
theorem put_arr (n : Int) : put n = ⟨(putB n).toArray⟩ := by
  have := put_toList n
  rw [ByteArray.toList_eq] at this
  cases h : put n with
  | mk d => rw [h] at this; simp at this; rw [← this]
set_option maxRecDepth 100000 in
set_option maxHeartbeats 4000000 in
theorem escape_any (rb : Nat) (s : ByteArray) (k : Nat) (w : World) (h : RdSt w rb s k) (hk : k ≤ s.size) (hs : s.size ≤ 1000000) :
    Calls Try.prog 56 #[.pointer (some ⟨rb, 0, none⟩)] w (StrEnd rb s (escL (s.toList.drop k)) w) := by
  obtain ⟨V, hV⟩ : ∃ V, V = escL (s.toList.drop k) := ⟨_, rfl⟩
  rw [← hV]
  have hb := get_bt s
  have H0 := Lib.hid h
  obtain ⟨c0, c1, c2⟩ := h.cells3
  have f1 := h.frozen 1
  have i0 : (0 : Int) ≤ (k : Int) := by omega
  by_cases hlt : k < s.size
  case neg =>
    have ne1 : ((k : Int) == (s.size : Int)) = true := by rw [beq_iff_eq]; omega
    have E1 : Hid (V = none) := by show _ = _; rw [hV, drop_end s k (by omega)]; rfl
    have H5 : Hid (∀ n, RdSt (w.drewN n) rb s k) := fun n => h
    clear h hV
    go_enter Try.func56, Try.ntmps56
    go_wp2_with fail
    go_quiet (fail)
    go_wp2_with fail
    refine (fail_any rb s k 3 _ (H5.out _)).mono ?_; rintro e w9 ⟨rfl, h9, g9⟩
    have H9 := Lib.hid h9
    have G9 := Lib.hid ((grown_drewN (grown_refl _ _) _).trans g9)
    clear h9 g9
    go_wp2_with fail
    exact ⟨rfl, StrEnd.no E1.out ⟨rfl, H9.out, G9.out⟩⟩
  obtain ⟨u, hu, hd⟩ := drop_cons s k hlt
  have i1 : (k : Int) < (s.size : Int) := by omega
  have ne1 : ((k : Int) == (s.size : Int)) = false := by rw [beq_eq_false_iff_ne]; omega
  have b0 := bt_nonneg s k
  have b1 := bt_le s k
  have hj1 : k + 1 ≤ s.size := by omega
  rw [hd] at hV
  have HV := Lib.hid hV
  have HU := Lib.hid hu
  have HEQ : Hid (∀ (x : UInt8) (n : Int), (x.toNat : Int) = n → bt s k = n → u = x) := fun x n h1 h2 => UInt8.toNat_inj.1 (by omega)
  have HNE : Hid (∀ (x : UInt8) (n : Int), (x.toNat : Int) = n → ¬ bt s k = n → ¬ u = x) := fun x n h1 h2 h3 => h2 (by rw [hu, h3]; exact h1)
  have H4 : Hid (∀ n, RdSt ((w.drewN n).setCell ⟨rb, 1, none⟩ (.int .i64 ((k : Int) + 1))) rb s (k + 1)) := fun n => by
    have := (show Blk (w.drewN n) rb 55 #[.string s, .int .i64 k, .int .i64 0] from H0.out).set_ 1 (.int .i64 ((k + 1 : Nat) : Int))
    exact this
  have G4 : Hid (∀ n, w.grownBy ((w.drewN n).setCell ⟨rb, 1, none⟩ (.int .i64 ((k : Int) + 1))) (some rb)) := fun n => grown_set (grown_drewN (grown_refl _ _) _) 1 _
  clear hV hu hd h
  by_cases q34 : bt s k = 34
  · have E1 : Hid (V = some ([34], s.toList.drop (k + 1))) := by show _ = _; rw [HV.out]; unfold escL; simp only; rw [if_pos (.inl (HEQ.out 34 34 rfl q34)), HEQ.out 34 34 rfl q34]
    have hcv : ∀ n, (convert 22 9 (.slice (some ⟨w.heap.size, 0, none⟩) 1 1)).run Try.prog (((w.drewN n).setCell ⟨rb, 1, none⟩ (.int .i64 ((k : Int) + 1))).alloc (.cells #[.int .u8 34] 5)) = .ok (.string (strOfNums [34])) (((w.drewN n).setCell ⟨rb, 1, none⟩ (.int .i64 ((k : Int) + 1))).alloc (.cells #[.int .u8 34] 5)) := fun n => by
      have hc := conv1 (P := Try.prog) 22 9 5 Try.underlying22 Try.underlying5 Try.underlying9 ((w.drewN n).setCell ⟨rb, 1, none⟩ (.int .i64 ((k : Int) + 1))) 34 1
      rw [show ((w.drewN n).setCell ⟨rb, 1, none⟩ (.int .i64 ((k : Int) + 1))).heap.size = w.heap.size by simp] at hc
      exact hc
    go_enter Try.func56, Try.ntmps56
    go_wp2_with fail
    go_quiet (fail)
    go_wp2_with fail
    go_quiet (fail)
    go_wp2_with fail
    go_ret
    refine StrEnd.yes E1.out ⟨rfl, k + 1, hj1, rfl, ?_, ?_⟩
    · exact Blk.alloc (H4.out _) _
    · exact grown_alloc (G4.out _) _
  have n34 : (bt s k == 34) = false := by rw [beq_eq_false_iff_ne]; exact q34
  by_cases q92 : bt s k = 92
  · have E1 : Hid (V = some ([92], s.toList.drop (k + 1))) := by show _ = _; rw [HV.out]; unfold escL; simp only; rw [if_pos (.inr (.inl (HEQ.out 92 92 rfl q92))), HEQ.out 92 92 rfl q92]
    have hcv : ∀ n, (convert 22 9 (.slice (some ⟨w.heap.size, 0, none⟩) 1 1)).run Try.prog (((w.drewN n).setCell ⟨rb, 1, none⟩ (.int .i64 ((k : Int) + 1))).alloc (.cells #[.int .u8 92] 5)) = .ok (.string (strOfNums [92])) (((w.drewN n).setCell ⟨rb, 1, none⟩ (.int .i64 ((k : Int) + 1))).alloc (.cells #[.int .u8 92] 5)) := fun n => by
      have hc := conv1 (P := Try.prog) 22 9 5 Try.underlying22 Try.underlying5 Try.underlying9 ((w.drewN n).setCell ⟨rb, 1, none⟩ (.int .i64 ((k : Int) + 1))) 92 1
      rw [show ((w.drewN n).setCell ⟨rb, 1, none⟩ (.int .i64 ((k : Int) + 1))).heap.size = w.heap.size by simp] at hc
      exact hc
    go_enter Try.func56, Try.ntmps56
    go_wp2_with fail
    go_quiet (fail)
    go_wp2_with fail
    go_quiet (fail)
    go_wp2_with fail
    go_ret
    refine StrEnd.yes E1.out ⟨rfl, k + 1, hj1, rfl, ?_, ?_⟩
    · exact Blk.alloc (H4.out _) _
    · exact grown_alloc (G4.out _) _
  have n92 : (bt s k == 92) = false := by rw [beq_eq_false_iff_ne]; exact q92
  by_cases q47 : bt s k = 47
  · have E1 : Hid (V = some ([47], s.toList.drop (k + 1))) := by show _ = _; rw [HV.out]; unfold escL; simp only; rw [if_pos (.inr (.inr (HEQ.out 47 47 rfl q47))), HEQ.out 47 47 rfl q47]
    have hcv : ∀ n, (convert 22 9 (.slice (some ⟨w.heap.size, 0, none⟩) 1 1)).run Try.prog (((w.drewN n).setCell ⟨rb, 1, none⟩ (.int .i64 ((k : Int) + 1))).alloc (.cells #[.int .u8 47] 5)) = .ok (.string (strOfNums [47])) (((w.drewN n).setCell ⟨rb, 1, none⟩ (.int .i64 ((k : Int) + 1))).alloc (.cells #[.int .u8 47] 5)) := fun n => by
      have hc := conv1 (P := Try.prog) 22 9 5 Try.underlying22 Try.underlying5 Try.underlying9 ((w.drewN n).setCell ⟨rb, 1, none⟩ (.int .i64 ((k : Int) + 1))) 47 1
      rw [show ((w.drewN n).setCell ⟨rb, 1, none⟩ (.int .i64 ((k : Int) + 1))).heap.size = w.heap.size by simp] at hc
      exact hc
    go_enter Try.func56, Try.ntmps56
    go_wp2_with fail
    go_quiet (fail)
    go_wp2_with fail
    go_quiet (fail)
    go_wp2_with fail
    go_ret
    refine StrEnd.yes E1.out ⟨rfl, k + 1, hj1, rfl, ?_, ?_⟩
    · exact Blk.alloc (H4.out _) _
    · exact grown_alloc (G4.out _) _
  have n47 : (bt s k == 47) = false := by rw [beq_eq_false_iff_ne]; exact q47
  have HQ3 : Hid (¬ (u = 34 ∨ u = 92 ∨ u = 47)) := by rintro (h | h | h); exact HNE.out 34 34 rfl q34 h; exact HNE.out 92 92 rfl q92 h; exact HNE.out 47 47 rfl q47 h
  clear q34 q92 q47
  by_cases q98 : bt s k = 98
  · have E1 : Hid (V = some ([8], s.toList.drop (k + 1))) := by show _ = _; rw [HV.out]; unfold escL; simp only; rw [if_neg HQ3.out, if_pos (HEQ.out 98 98 rfl q98)]
    go_enter Try.func56, Try.ntmps56
    go_wp2_with fail
    go_quiet (fail)
    go_wp2_with fail
    go_quiet (fail)
    go_wp2_with fail
    go_ret
    exact StrEnd.yes E1.out ⟨rfl, k + 1, hj1, rfl, H4.out _, G4.out _⟩
  have n98 : (bt s k == 98) = false := by rw [beq_eq_false_iff_ne]; exact q98
  have Q98 := Lib.hid (HNE.out 98 98 rfl q98)
  clear q98
  by_cases q102 : bt s k = 102
  · have E1 : Hid (V = some ([12], s.toList.drop (k + 1))) := by show _ = _; rw [HV.out]; unfold escL; simp only; rw [if_neg HQ3.out, if_neg Q98.out, if_pos (HEQ.out 102 102 rfl q102)]
    go_enter Try.func56, Try.ntmps56
    go_wp2_with fail
    go_quiet (fail)
    go_wp2_with fail
    go_quiet (fail)
    go_wp2_with fail
    go_ret
    exact StrEnd.yes E1.out ⟨rfl, k + 1, hj1, rfl, H4.out _, G4.out _⟩
  have n102 : (bt s k == 102) = false := by rw [beq_eq_false_iff_ne]; exact q102
  have Q102 := Lib.hid (HNE.out 102 102 rfl q102)
  clear q102
  by_cases q110 : bt s k = 110
  · have E1 : Hid (V = some ([10], s.toList.drop (k + 1))) := by show _ = _; rw [HV.out]; unfold escL; simp only; rw [if_neg HQ3.out, if_neg Q98.out, if_neg Q102.out, if_pos (HEQ.out 110 110 rfl q110)]
    go_enter Try.func56, Try.ntmps56
    go_wp2_with fail
    go_quiet (fail)
    go_wp2_with fail
    go_quiet (fail)
    go_wp2_with fail
    go_ret
    exact StrEnd.yes E1.out ⟨rfl, k + 1, hj1, rfl, H4.out _, G4.out _⟩
  have n110 : (bt s k == 110) = false := by rw [beq_eq_false_iff_ne]; exact q110
  have Q110 := Lib.hid (HNE.out 110 110 rfl q110)
  clear q110
  by_cases q114 : bt s k = 114
  · have E1 : Hid (V = some ([13], s.toList.drop (k + 1))) := by show _ = _; rw [HV.out]; unfold escL; simp only; rw [if_neg HQ3.out, if_neg Q98.out, if_neg Q102.out, if_neg Q110.out, if_pos (HEQ.out 114 114 rfl q114)]
    go_enter Try.func56, Try.ntmps56
    go_wp2_with fail
    go_quiet (fail)
    go_wp2_with fail
    go_quiet (fail)
    go_wp2_with fail
    go_ret
    exact StrEnd.yes E1.out ⟨rfl, k + 1, hj1, rfl, H4.out _, G4.out _⟩
  have n114 : (bt s k == 114) = false := by rw [beq_eq_false_iff_ne]; exact q114
  have Q114 := Lib.hid (HNE.out 114 114 rfl q114)
  clear q114
  by_cases q116 : bt s k = 116
  · have E1 : Hid (V = some ([9], s.toList.drop (k + 1))) := by show _ = _; rw [HV.out]; unfold escL; simp only; rw [if_neg HQ3.out, if_neg Q98.out, if_neg Q102.out, if_neg Q110.out, if_neg Q114.out, if_pos (HEQ.out 116 116 rfl q116)]
    go_enter Try.func56, Try.ntmps56
    go_wp2_with fail
    go_quiet (fail)
    go_wp2_with fail
    go_quiet (fail)
    go_wp2_with fail
    go_ret
    exact StrEnd.yes E1.out ⟨rfl, k + 1, hj1, rfl, H4.out _, G4.out _⟩
  have n116 : (bt s k == 116) = false := by rw [beq_eq_false_iff_ne]; exact q116
  have Q116 := Lib.hid (HNE.out 116 116 rfl q116)
  clear q116
  by_cases q117 : bt s k = 117
  · have HV2 : Hid (V = match pointL (s.toList.drop (k + 1)) with
      | none => none
      | some (n, r2) => some (putB n, r2)) := by show _ = _; rw [HV.out]; unfold escL; simp only; rw [if_neg HQ3.out, if_neg Q98.out, if_neg Q102.out, if_neg Q110.out, if_neg Q114.out, if_neg Q116.out, if_pos (HEQ.out 117 117 rfl q117)]; rfl
    have HPT : Hid (∀ n, Calls Try.prog 64 #[.pointer (some ⟨rb, 0, none⟩)] ((w.drewN n).setCell ⟨rb, 1, none⟩ (.int .i64 ((k : Int) + 1))) (IntEnd rb s (pointL (s.toList.drop (k + 1))) ((w.drewN n).setCell ⟨rb, 1, none⟩ (.int .i64 ((k : Int) + 1))))) := fun n => point_any rb s (k + 1) _ (H4.out n) hj1 hs
    cases hq : pointL (s.toList.drop (k + 1)) with
    | none =>
      rw [hq] at HPT HV2
      have E1 : Hid (V = none) := HV2.out
      have HPT2 : Hid (∀ n, Calls Try.prog 64 #[.pointer (some ⟨rb, 0, none⟩)] ((w.drewN n).setCell ⟨rb, 1, none⟩ (.int .i64 ((k : Int) + 1))) (Failed rb s 3 ((w.drewN n).setCell ⟨rb, 1, none⟩ (.int .i64 ((k : Int) + 1))))) := HPT.out
      clear hq HPT HV2
      go_enter Try.func56, Try.ntmps56
      go_wp2_with fail
      go_quiet (fail)
      go_wp2_with fail
      go_quiet (fail)
      go_wp2_with fail
      refine (HPT2.out _).mono ?_; rintro e w9 ⟨rfl, h9, g9⟩
      have H9 := Lib.hid h9
      have G9 := Lib.hid ((G4.out _).trans g9)
      clear h9 g9
      go_wp2_with fail
      exact ⟨rfl, StrEnd.no E1.out ⟨rfl, H9.out, G9.out⟩⟩
    | some p =>
      obtain ⟨n, r⟩ := p
      rw [hq] at HPT HV2
      have E1 : Hid (V = some (putB n, r)) := HV2.out
      have HPT2 : Hid (∀ m, Calls Try.prog 64 #[.pointer (some ⟨rb, 0, none⟩)] ((w.drewN m).setCell ⟨rb, 1, none⟩ (.int .i64 ((k : Int) + 1))) (fun e w' => e = .returned (.int .i64 n) ∧ RdTo rb s r ((w.drewN m).setCell ⟨rb, 1, none⟩ (.int .i64 ((k : Int) + 1))) w')) := HPT.out
      have HPUT : Hid (∀ w', Calls Try.prog 63 #[.int .i64 n] w' fun e w'' => e = .returned (.string (put n)) ∧ Below w'.heap.size w' w'') := fun w' => put_any n w'
      clear hq HPT HV2
      go_enter Try.func56, Try.ntmps56
      go_wp2_with fail
      go_quiet (fail)
      go_wp2_with fail
      go_quiet (fail)
      go_wp2_with fail
      refine (HPT2.out _).mono ?_; rintro e w1 ⟨rfl, k1, hk1, hd1, h1, g1⟩
      have H1 := Lib.hid h1
      have G1 := Lib.hid ((G4.out _).trans g1)
      have D1 := Lib.hid hd1
      clear h1 g1 hd1
      go_wp2_with fail
      refine (HPUT.out _).mono ?_; rintro e w2 ⟨rfl, hw2⟩
      have H2 : Hid (RdSt w2 rb s k1) := H1.out.below hw2 H1.out.lt
      have G2 := Lib.hid (G1.out.trans (grown_below hw2))
      clear hw2
      go_wp2_with fail
      go_ret
      exact StrEnd.yes E1.out ⟨by rw [put_arr]; rfl, k1, hk1, D1.out, H2.out, G2.out⟩
  have n117 : (bt s k == 117) = false := by rw [beq_eq_false_iff_ne]; exact q117
  have E1 : Hid (V = none) := by show _ = _; rw [HV.out]; unfold escL; simp only; rw [if_neg HQ3.out, if_neg Q98.out, if_neg Q102.out, if_neg Q110.out, if_neg Q114.out, if_neg Q116.out, if_neg (HNE.out 117 117 rfl q117)]
  clear q117
  go_enter Try.func56, Try.ntmps56
  go_wp2_with fail
  go_quiet (fail)
  go_wp2_with fail
  go_quiet (fail)
  go_wp2_with fail
  refine (fail_any rb s (k + 1) 3 _ (H4.out _)).mono ?_; rintro e w9 ⟨rfl, h9, g9⟩
  have H9 := Lib.hid h9
  have G9 := Lib.hid ((G4.out _).trans g9)
  clear h9 g9
  go_wp2_with fail
  exact ⟨rfl, StrEnd.no E1.out ⟨rfl, H9.out, G9.out⟩⟩
end Go.Proofs.Ytnhoecmcbikcnaa
