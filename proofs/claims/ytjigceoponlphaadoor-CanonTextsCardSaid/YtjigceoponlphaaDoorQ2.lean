/- Texts of one seat, one behind the other: Text0, Text1, Text2, Wnode, Wkids, Wnod2, MapB, Keys, Bare, Right0, Right1, Right2, Cprint, Rq. No condition. -/
import Derived.Test.YtjigceoponlphaaDoorQ1
import Derived.Lib.ItoaNum
import Derived.Lib.ItoaLen
import Derived.Test.YtjigceoponlphaaDoorShelf
import Derived.Lib.AppendIntMem
import Derived.Deep.RegionWith
import Derived.Maps.OwnOps
import Derived.Maps.Views
import Derived.StringKeys
import Derived.Lib.OwnKind
import Derived.Deep.RegionLaw
import Derived.Deep.RegionHeld3
/-! Plain functions: what package text computes. -/
namespace Go.Proofs.YtjigceoponlphaaDoor
open Go.RowKit Go.PlainAid
set_option linter.unusedVariables false
set_option linter.unusedSimpArgs false
def foldN (c : Int) : Int := if 65 ≤ c ∧ c ≤ 90 then c + 32 else c
def foldZ (s : ByteArray) (n : Nat) : List Int := (List.range n).map fun j => foldN (bt s j)
def foldS (s : ByteArray) : ByteArray := strOfNums (foldZ s s.size)
theorem foldZ_succ (s : ByteArray) (n : Nat) : foldZ s (n + 1) = foldZ s n ++ [foldN (bt s n)] := by
  unfold foldZ; rw [List.range_succ, List.map_append]; rfl
theorem foldZ_len (s : ByteArray) (n : Nat) : (foldZ s n).length = n := by simp [foldZ]
theorem foldS_size (s : ByteArray) : (foldS s).size = s.size := by
  unfold foldS; rw [strOfNums_size, foldZ_len]
theorem foldN_up {c : Int} (h0 : 65 ≤ c) (h1 : c ≤ 90) : foldN c = c + 32 := by unfold foldN; rw [if_pos ⟨h0, h1⟩]
theorem foldN_no {c : Int} (h : c < 65 ∨ 90 < c) : foldN c = c := by unfold foldN; rw [if_neg (by omega)]
/-- a number in decimal digits -/
def digS (n : Int) : ByteArray := ⟨(Lib.itoa (max n 0)).toArray⟩
/-- the number that digits are -/
def numZ (s : ByteArray) : Nat → Int
  | 0 => 0
  | i + 1 => numZ s i * 10 + (bt s i - 48)
def digitsB (s : ByteArray) : Nat → Bool
  | 0 => true
  | i + 1 => digitsB s i && (decide (48 ≤ bt s i) && decide (bt s i ≤ 57))
def numB (s : ByteArray) : Int × Bool :=
  if s.size = 0 ∨ 10 < s.size ∨ (bt s 0 = 48 ∧ 1 < s.size) then (0, false)
  else if digitsB s s.size = false then (0, false) else if 4294967295 < numZ s s.size then (0, false) else (numZ s s.size, true)
theorem numZ_bound (s : ByteArray) : ∀ i, i ≤ 10 → digitsB s i = true → 0 ≤ numZ s i ∧ numZ s i < 10 ^ i := by
  intro i
  induction i with
  | zero => intro _ _; simp [numZ]
  | succ i ih =>
    intro hi hd
    simp only [digitsB, Bool.and_eq_true, decide_eq_true_eq] at hd
    obtain ⟨h1, h2, h3⟩ := hd
    have := ih (by omega) h1
    simp only [numZ]
    rw [show (10 : Int) ^ (i + 1) = 10 ^ i * 10 from Int.pow_succ ..]
    omega
theorem numZ_small (s : ByteArray) (i : Nat) (hi : i ≤ 10) (hd : digitsB s i = true) : 0 ≤ numZ s i ∧ numZ s i < 10000000000 := by
  have h := numZ_bound s i hi hd
  have hp := Nat.pow_le_pow_right (n := 10) (by omega) hi
  have : (10 : Int) ^ i ≤ 10 ^ 10 := by exact_mod_cast hp
  omega
def atomCh (c : Int) : Bool := decide (33 ≤ c) && decide (c ≤ 126) && !(c == 40 || c == 41 || c == 123 || c == 125 || c == 37 || c == 42 || c == 34 || c == 92 || c == 93)
def atomsB (s : ByteArray) : Nat → Bool
  | 0 => true
  | i + 1 => atomsB s i && atomCh (bt s i)
def atomB (s : ByteArray) : Bool := atomsB s s.size && !(s.size == 0)
def plainsB (s : ByteArray) : Nat → Bool
  | 0 => true
  | i + 1 => plainsB s i && (decide (32 ≤ bt s i) && decide (bt s i ≤ 126))
def plainB (s : ByteArray) : Bool := plainsB s s.size && decide (s.size ≤ 200)
def escN (c : Int) : List Int := if c = 34 ∨ c = 92 then [92, c] else [c]
def escZ (s : ByteArray) : Nat → List Int
  | 0 => [34]
  | i + 1 => escZ s i ++ escN (bt s i)
theorem escZ_len (s : ByteArray) : ∀ n, (escZ s n).length ≤ 1 + 2 * n
  | 0 => by simp [escZ]
  | n + 1 => by
    have := escZ_len s n
    simp only [escZ, List.length_append]
    unfold escN
    split <;> simp <;> omega
def strS (s : ByteArray) : ByteArray := if plainB s = true then strOfNums (escZ s s.size ++ [34]) else ⟨#[123]⟩ ++ digS s.size ++ ⟨#[125, 13, 10]⟩ ++ s
end Go.Proofs.YtjigceoponlphaaDoor
/-! The walks of package text: Fold, both. -/
namespace Go.Proofs.YtjigceoponlphaaDoor
open Go.RowKit Go.PlainAid
set_option linter.unusedVariables false
set_option linter.unusedSimpArgs false
end Go.Proofs.YtjigceoponlphaaDoor
/-! The walks of package text: Digits, both. -/
namespace Go.Proofs.YtjigceoponlphaaDoor
open Go.RowKit Go.PlainAid
set_option linter.unusedVariables false
set_option linter.unusedSimpArgs false
/-- the table that the library's Itoa reads lies as its initialiser lays it -/
def TabOK (w : World) : Prop := Lib.TabIs Tryd.prog w "internal/strconv.uint64pow10" .u64 Lib.pow10Tab
theorem TabOK.below {w w1 : World} (h : TabOK w) (hb : Below w.heap.size w w1) : TabOK w1 := ((Lib.tabBelow_of_tabIs h).on hb).here
theorem TabOK.drew {w : World} (h : TabOK w) : TabOK w.drew := h.below ((Below.refl _ _).drew)
theorem TabOK.alloc {w : World} (h : TabOK w) (o : Obj) : TabOK (w.alloc o) := h.below ((Below.refl _ _).alloc (Nat.le_refl _) o)
theorem conv1s (w : World) (a : Int) (c : Nat) : (convert 34 9 (.slice (some ⟨w.heap.size, 0, none⟩) 1 c)).run Tryd.prog (w.alloc (.cells #[.int .u8 a] 5)) = .ok (.string (strOfNums [a])) (w.alloc (.cells #[.int .u8 a] 5)) :=
  conv1 34 9 5 Tryd.underlying34 Tryd.underlying5 Tryd.underlying9 w a c
theorem conv1_keep {w w2 : World} {a : Int} (h : Below (w.alloc (.cells #[.int .u8 a] 5)).heap.size (w.alloc (.cells #[.int .u8 a] 5)) w2) :
    (convert 34 9 (.slice (some ⟨w.heap.size, 0, none⟩) 1 1)).run Tryd.prog w2 = .ok (.string (strOfNums [a])) w2 := by
  refine run_convert_bytes_arg w2 34 5 Tryd.underlying34 Tryd.underlying5 w.heap.size 0 1 1 [a] rfl (fun i hi => ?_) 9 Tryd.underlying9
  obtain rfl : i = 0 := by omega
  rw [Nat.add_zero, h.cell (by simp), World.cell?_alloc_mark]
  rfl
theorem conv1_keepD {w w2 : World} {a : Int} (h : Below ((w.alloc (.cells #[.int .u8 a] 5)).drew).heap.size ((w.alloc (.cells #[.int .u8 a] 5)).drew) w2) :
    (convert 34 9 (.slice (some ⟨w.heap.size, 0, none⟩) 1 1)).run Tryd.prog w2 = .ok (.string (strOfNums [a])) w2 :=
  conv1_keep (((Below.refl (w.alloc (.cells #[.int .u8 a] 5)).heap.size (w.alloc (.cells #[.int .u8 a] 5))).drew).trans h)
theorem conv1_drew (w : World) (a : Int) (c : Nat) : (convert 34 9 (.slice (some ⟨w.heap.size, 0, none⟩) 1 c)).run Tryd.prog (w.alloc (.cells #[.int .u8 a] 5)).drew = .ok (.string (strOfNums [a])) (w.alloc (.cells #[.int .u8 a] 5)).drew :=
  conv1 34 9 5 Tryd.underlying34 Tryd.underlying5 Tryd.underlying9 w.drew a c
theorem itoa_len (n : Int) (h0 : 0 ≤ n) (h1 : n ≤ 9223372036854775807) : (digS n).size ≤ 21 := by
  have := Lib.itoa_length_le n (by omega) (by omega)
  unfold digS
  rw [Int.max_eq_left h0]
  simpa [ByteArray.size] using this
theorem digS_neg (n : Int) (h : n < 0) : digS n = digS 0 := by
  unfold digS
  rw [Int.max_eq_right (by omega)]; rfl
theorem digS_one (n : Int) (h0 : 0 ≤ n) (h1 : n < 10) : digS n = strOfNums [48 + n] := by
  obtain ⟨k, rfl⟩ := Int.eq_ofNat_of_zero_le h0
  unfold digS Lib.itoa
  rw [Int.max_eq_left h0, if_neg (by omega), Int.toNat_natCast, Lib.decDigits_one (by omega)]
  have : (48 + (k : Int)).toNat = 48 + k := by omega
  simp [strOfNums, this]
theorem ba_ext' {a b : ByteArray} (h : a.toList = b.toList) : a = b := by
  rw [ByteArray.toList_eq, ByteArray.toList_eq] at h
  exact ByteArray.ext (Array.toList_inj.1 h)
theorem nums_toList (l : List Int) : (strOfNums l).toList = l.map fun n => UInt8.ofNat n.toNat := by rw [ByteArray.toList_eq]; exact strOfNums_data l
theorem digS_toList (n : Int) (h0 : 0 ≤ n) : (digS n).toList = Lib.decDigits n.toNat := by
  unfold digS Lib.itoa
  rw [Int.max_eq_left h0, if_neg (by omega), ByteArray.toList_eq]
theorem digS_more (n : Int) (h : 10 ≤ n) : digS n = digS (n / 10) ++ strOfNums [48 + n % 10] := by
  apply ba_ext'
  rw [app_toList, digS_toList n (by omega), digS_toList (n / 10) (by omega), nums_toList]
  rw [Lib.decDigits, dif_neg (by omega)]
  have e1 : (n / 10).toNat = n.toNat / 10 := by omega
  have e2 : (48 + n % 10).toNat = 48 + n.toNat % 10 := by omega
  rw [e1, List.map_cons, List.map_nil, e2]
end Go.Proofs.YtjigceoponlphaaDoor
/-! The walks of the writer's node and kids. -/
namespace Go.Proofs.YtjigceoponlphaaDoor
open Go.RowKit Go.PlainAid
set_option linter.unusedVariables false
set_option linter.unusedSimpArgs false
mutual
/-- what a writer holds behind a node, given what it holds ahead of it -/
def outN : Nd → List UInt8 → List UInt8
  | .mk k num t ks ns, acc =>
    if 65536 < acc.length then acc else if k = 1 then acc ++ [110, 117, 108, 108] else if k = 2 then acc ++ [102, 97, 108, 115, 101] else if k = 3 then acc ++ [116, 114, 117, 101]
    else if k = 4 then acc ++ Lib.itoa num else if k = 5 then acc ++ quoteU t.toList else if k = 6 then outL (k == 7) ks ns true (acc ++ [91]) ++ [93] else outL (k == 7) ks ns true (acc ++ [123]) ++ [125]
def outL : Bool → List ByteArray → List Nd → Bool → List UInt8 → List UInt8
  | _, _, [], _, acc => acc
  | obj, ks, n :: ns, first, acc => outL obj ks.tail ns false (outN n ((if first = true then acc else acc ++ [44]) ++ (if obj = true then quoteU (ks.headD ⟨#[]⟩).toList ++ [58] else [])))
end
mutual
/-- how much a node may add at most -/
def gN : Nd → Nat
  | .mk _ _ t ks ns => 40 + 6 * t.size + gL ks ns
def gL : List ByteArray → List Nd → Nat
  | _, [] => 0
  | ks, n :: ns => 10 + 6 * (ks.headD ⟨#[]⟩).size + gN n + gL ks.tail ns
end
theorem quoteU_le (t : List UInt8) : (quoteU t).length ≤ 2 + 6 * t.length := by
  unfold quoteU
  have := flat_le t
  simp only [List.length_append, List.length_cons, List.length_nil]; omega
theorem tl_len' (s : ByteArray) : s.toList.length = s.size := by rw [ByteArray.toList_eq]; simp
mutual
/-- an object has as many keys as kids, and a number that an int64 holds, at every depth -/
def goodN : Nd → Prop
  | .mk k num t ks ns => (-9223372036854775808 ≤ num ∧ num ≤ 9223372036854775807) ∧ (k = 7 → ks.length = ns.length) ∧ t.size ≤ 1000000000 ∧ (∀ s ∈ ks, s.size ≤ 1000000000) ∧ goodL ns
def goodL : List Nd → Prop
  | [] => True
  | n :: ns => goodN n ∧ goodL ns
end
mutual
theorem outN_le : ∀ (n : Nd) (acc : List UInt8), goodN n → (outN n acc).length ≤ acc.length + gN n
  | .mk k num t ks ns, acc, hi => by
    unfold outN gN
    unfold goodN at hi
    have hq := quoteU_le t.toList
    rw [tl_len'] at hq
    have h4 := Lib.itoa_length_le num hi.1.1 hi.1.2
    have h6 := outL_le (k == 7) ks ns true (acc ++ [91]) hi.2.2.2.2
    have h7 := outL_le (k == 7) ks ns true (acc ++ [123]) hi.2.2.2.2
    simp only [List.length_append, List.length_cons, List.length_nil] at h6 h7
    repeat' split
    all_goals first | omega | (simp only [List.length_append, List.length_cons, List.length_nil]; omega)
theorem outL_le : ∀ (obj : Bool) (ks : List ByteArray) (ns : List Nd) (first : Bool) (acc : List UInt8), goodL ns → (outL obj ks ns first acc).length ≤ acc.length + gL ks ns
  | obj, ks, [], first, acc, hi => by unfold outL gL; omega
  | obj, ks, n :: ns, first, acc, hi => by
    unfold outL gL
    unfold goodL at hi
    have h1 := outL_le obj ks.tail ns false (outN n ((if first = true then acc else acc ++ [44]) ++ (if obj = true then quoteU (ks.headD ⟨#[]⟩).toList ++ [58] else []))) hi.2
    have h2 := outN_le n ((if first = true then acc else acc ++ [44]) ++ (if obj = true then quoteU (ks.headD ⟨#[]⟩).toList ++ [58] else [])) hi.1
    have hq := quoteU_le (ks.headD ⟨#[]⟩).toList
    rw [tl_len'] at hq
    have h3 : ((if first = true then acc else acc ++ [44]) ++ (if obj = true then quoteU (ks.headD ⟨#[]⟩).toList ++ [58] else [])).length ≤ acc.length + 1 + (6 * (ks.headD ⟨#[]⟩).size + 3) := by
      rw [List.length_append]
      have a1 : (if first = true then acc else acc ++ [44]).length ≤ acc.length + 1 := by split <;> simp
      have a2 : (if obj = true then quoteU (ks.headD ⟨#[]⟩).toList ++ [58] else []).length ≤ 6 * (ks.headD ⟨#[]⟩).size + 3 := by
        split
        · rw [List.length_append, List.length_cons, List.length_nil]; omega
        · simp
      omega
    omega
end
theorem outL_at (obj : Bool) (ks : List ByteArray) (ns : List Nd) (i : Nat) (n : Nd) (s : ByteArray) (first : Bool) (acc : List UInt8) (h : ns[i]? = some n) (hs : obj = true → ks[i]? = some s) :
    outL obj (ks.drop i) (ns.drop i) first acc = outL obj (ks.drop (i + 1)) (ns.drop (i + 1)) false (outN n ((if first = true then acc else acc ++ [44]) ++ (if obj = true then quoteU s.toList ++ [58] else []))) := by
  rw [List.drop_eq_getElem_cons (List.getElem?_eq_some_iff.1 h).1, (List.getElem?_eq_some_iff.1 h).2]
  conv => lhs; unfold outL
  have ht : (ks.drop i).tail = ks.drop (i + 1) := by rw [List.tail_drop]
  rw [ht]
  cases obj with
  | false => rfl
  | true =>
    have hk := hs rfl
    have hh : (ks.drop i).headD ⟨#[]⟩ = s := by
      rw [List.drop_eq_getElem_cons (List.getElem?_eq_some_iff.1 hk).1, (List.getElem?_eq_some_iff.1 hk).2]; rfl
    rw [hh]
theorem gL_at (ks : List ByteArray) (ns : List Nd) (i : Nat) (n : Nd) (h : ns[i]? = some n) : gL (ks.drop i) (ns.drop i) = 10 + 6 * ((ks.drop i).headD ⟨#[]⟩).size + gN n + gL (ks.drop (i + 1)) (ns.drop (i + 1)) := by
  rw [List.drop_eq_getElem_cons (List.getElem?_eq_some_iff.1 h).1, (List.getElem?_eq_some_iff.1 h).2]
  conv => lhs; unfold gL
  rw [List.tail_drop]
theorem goodL_at (ns : List Nd) (i : Nat) (n : Nd) (h : ns[i]? = some n) (hg : goodL ns) : goodN n := by
  induction ns generalizing i with
  | nil => simp at h
  | cons a ns ih =>
    unfold goodL at hg
    cases i with
    | zero => simp at h; subst h; exact hg.1
    | succ i => exact ih i (by simpa using h) hg.2
/-- the library's table lies below block B -/
def TabAt (B : Nat) (w : World) : Prop := ∃ w0, TabOK w0 ∧ w0.heap.size ≤ B ∧ Below w0.heap.size w0 w
theorem TabAt.kept {B b : Nat} {w w' : World} (h : TabAt B w) (k : Kept B b w w') : TabAt B w' := by
  obtain ⟨w0, h1, h2, h3⟩ := h
  exact ⟨w0, h1, h2, h3.trans (k.1.mono h2)⟩
theorem TabAt.ok {B : Nat} {w : World} (h : TabAt B w) : TabOK w := by
  obtain ⟨w0, h1, h2, h3⟩ := h
  exact h1.below h3
theorem full_any (B b : Nat) (l : List UInt8) (w : World) (h : Bld B b (Lib.byteCells l) w) : Calls Tryd.prog 16 #[.pointer (some ⟨b, 0, none⟩)] w fun e w' => e = .returned (.bool (decide (65536 < l.length))) ∧ w = w' := by
  have hc := Len_any B b _ w h
  rw [Lib.byteCells_length] at hc
  have HC := Lib.hid hc
  clear hc
  have hd : decide ((65536 : Int) < (l.length : Int)) = decide (65536 < l.length) := by
    by_cases h : 65536 < l.length
    · rw [decide_eq_true h, decide_eq_true (by omega)]
    · rw [decide_eq_false h, decide_eq_false (by omega)]
  have HD := Lib.hid hd
  clear hd
  go_enter Tryd.func16, Tryd.ntmps16
  go_wp2_with fail
  refine HC.out.mono ?_; rintro e w1 ⟨rfl, hw⟩; obtain rfl : _ = w1 := hw
  go_wp2_with fail
  go_ret
  exact ⟨by rw [← HD.out]; simp, rfl⟩
end Go.Proofs.YtjigceoponlphaaDoor
/-! The walk of the writer's kids. -/
namespace Go.Proofs.YtjigceoponlphaaDoor
open Go.RowKit Go.PlainAid
set_option linter.unusedVariables false
set_option linter.unusedSimpArgs false
theorem Bld.alloc {B b : Nat} {bs : List Value} {w : World} (h : Bld B b bs w) (o : Obj) : Bld B b bs (w.alloc o) := by
  have go : ∀ p, Lib.BuilderAtF 44 5 B b p bs w → Lib.BuilderAtF 44 5 B b p bs (w.alloc o) := by
    rintro p ⟨hB, v, hb, ho, hn⟩
    exact ⟨hB, v, (Lib.alloc_old w o b (bldLt hb)).trans hb, ho.alloc o, hn⟩
  rcases h with h | h
  · exact .inl (go _ h)
  · exact .inr (go _ h)
theorem Bld.lt {B b : Nat} {bs : List Value} {w : World} (h : Bld B b bs w) : b < w.heap.size := by
  rcases h with ⟨_, v, hb, _⟩ | ⟨_, v, hb, _⟩ <;> exact bldLt hb
theorem Kept.alloc {B b : Nat} {w w' : World} (h : Kept B b w w') (hB : B ≤ w'.heap.size) (o : Obj) : Kept B b w (w'.alloc o) := ⟨h.1.alloc hB o, h.2.alloc o⟩
theorem Kept.blk {B b : Nat} {w w' : World} (h : Kept B b w w') {x : Nat} {cs : Array Value} (hx : Blk w x 25 cs) (hne : x ≠ b) : Blk w' x 25 cs :=
  h.2 x _ hx (by intro e; injection e with e; exact hne e) (fun c fz e => by injection e with _ e2; exact absurd e2 (by decide))
def NodeC (B b : Nat) (vs : Array Value) (l' : List UInt8) (w : World) : Prop :=
  Calls Tryd.prog 15 #[.pointer (some ⟨b, 0, none⟩), .agg vs] w fun e w' => e = .returned (.tuple #[]) ∧ Bld B b (Lib.byteCells l') w' ∧ Kept B b w w'
def NodeH (B b : Nat) (ns : List Nd) : Prop := ∀ (i : Nat) (n : Nd), ns[i]? = some n → ∀ (cs : List Value) (l : List UInt8) (w : World), NdIs w B n cs → Bld B b (Lib.byteCells l) w → TabAt B w → B ≤ w.heap.size → goodN n → l.length + gN n ≤ 100000000000000 → NodeC B b cs.toArray (outN n l) w
theorem Kept.reads {B b : Nat} {w w' : World} (h : Kept B b w w') {size n : Nat} {A : Option Addr} {xs : List Value} (hr : Reads w B size A n xs) : Reads w' B size A n xs := hr.keep fun p hp => h.1.cell hp
theorem Kept.nds {B b : Nat} {w w' : World} (h : Kept B b w w') {ns : List Nd} {xs : List Value} (hr : NdsIs w B ns xs) : NdsIs w' B ns xs := NdsIs.keep (fun p hp => h.1.cell hp) _ _ hr
theorem cell_str {B b : Nat} {w w' : World} {A : Option Addr} {ks : List ByteArray} (h : Reads w B 1 A ks.length (ks.map Value.string)) (k : Kept B b w w') {i : Nat} {s : ByteArray} (hs : ks[i]? = some s) : ∃ ad, A = some ad ∧ ad.block < B ∧ w'.cell? (ad.add i) = some (.string s) := by
  obtain ⟨ad, s', e, hb, hs', hc⟩ := (k.reads h).str (List.getElem?_eq_some_iff.1 hs).1
  rw [hs] at hs'
  injection hs' with hs'
  subst hs'
  exact ⟨ad, e, hb, hc⟩
set_option maxRecDepth 100000 in
set_option maxHeartbeats 3000000 in
theorem Wkids_any (k num : Int) (t : ByteArray) (ks : List ByteArray) (ns : List Nd) (A A2 : Option Addr) (ck cc : Nat) (xs : List Value) (B b : Nat) (lb rb : UInt8) (l : List UInt8) (w : World)
    (hks : Reads w B 1 A ks.length (ks.map Value.string)) (hxs : Reads w B 5 A2 ns.length xs) (hns : NdsIs w B ns xs) (hm : ns.length ≤ 9223372036854775807) (hkl : k = 7 → ks.length = ns.length) (hsz : ∀ s ∈ ks, s.size ≤ 1000000000) (hgl : goodL ns)
    (HIH : Hid (NodeH B b ns)) (hb : Bld B b (Lib.byteCells l) w) (hT : TabAt B w) (hB : B ≤ w.heap.size) (hlen : l.length + 2 + gL ks ns ≤ 100000000000000) :
    Calls Tryd.prog 27 #[.pointer (some ⟨b, 0, none⟩), .agg #[.int .i64 k, .int .i64 num, .string t, .slice A ks.length ck, .slice A2 ns.length cc], .int .u8 lb.toNat, .int .u8 rb.toNat] w
      fun e w' => e = .returned (.tuple #[]) ∧ Bld B b (Lib.byteCells (outL (k == 7) ks ns true (l ++ [lb]) ++ [rb])) w' ∧ Kept B b w w' := by
  have HKS := Lib.hid hks
  have HXS := Lib.hid hxs
  have HNS := Lib.hid hns
  have HSZ := Lib.hid hsz
  have HGL := Lib.hid hgl
  have HKL := Lib.hid hkl
  have hbl := hb.lt
  have K0 : Kept B b w (w.alloc (.cells #[.int .i64 k, .int .i64 num, .string t, .slice A ks.length ck, .slice A2 ns.length cc] 25)) := (Kept.refl _ _ _).alloc hB _
  have X0 : Blk (w.alloc (.cells #[.int .i64 k, .int .i64 num, .string t, .slice A ks.length ck, .slice A2 ns.length cc] 25)) w.heap.size 25 #[.int .i64 k, .int .i64 num, .string t, .slice A ks.length ck, .slice A2 ns.length cc] := Blk.new w _ _
  have HX0 := Lib.hid X0
  have HB0 := Lib.hid (hb.alloc (.cells #[.int .i64 k, .int .i64 num, .string t, .slice A ks.length ck, .slice A2 ns.length cc] 25))
  have HT := Lib.hid hT
  obtain ⟨V, hV⟩ : ∃ V, V = outL (k == 7) ks ns true (l ++ [lb]) := ⟨_, rfl⟩
  rw [← hV]
  have HV0 : Hid (V = outL (k == 7) (ks.drop 0) (ns.drop 0) (decide (0 = 0)) (l ++ [lb])) := hV
  have hg0 : gL ks ns = gL (ks.drop 0) (ns.drop 0) := rfl
  have HG0 := Lib.hid hg0
  clear hks hxs hns hsz hgl hkl hb X0 hT hV hg0
  go_enter Tryd.func27, Tryd.ntmps27
  go_wp2_with fail
  refine (wbyte B b l _ lb rfl _ HB0.out (by omega) (by first | omega | (simp; omega))).mono ?_; rintro e w1 ⟨rfl, n1, k1⟩
  have K1 := K0.trans k1
  have X1 := k1.blk HX0.out (by omega)
  have N1 := Lib.hid n1
  have z1 := K1.1.size
  have z2 : w.heap.size < w1.heap.size := X1.lt
  have c4 : w1.cell? ⟨w.heap.size, 4, none⟩ = some (.slice A2 ns.length cc) := X1.cell 4
  have HX1 := Lib.hid X1
  clear n1 k1 HB0 HX0 K0 X1
  go_wp2_with fail
  go_loopw [18] (fun t5 wr => ∃ (i : Nat) (X : List UInt8), i ≤ ns.length ∧ t5 = .int .i64 i ∧ Hid (V = outL (k == 7) (ks.drop i) (ns.drop i) (decide (i = 0)) X) ∧ Hid (Bld B b (Lib.byteCells X) wr) ∧ X.length + 1 + gL (ks.drop i) (ns.drop i) ≤ 100000000000000 ∧ Hid (Kept B b w wr) ∧ Hid (Blk wr w.heap.size 25 #[.int .i64 k, .int .i64 num, .string t, .slice A ks.length ck, .slice A2 ns.length cc]) ∧ w.heap.size < wr.heap.size) (fun t5 _ => ns.length - (intOf t5).toNat)
  case atStart => exact ⟨0, l ++ [lb], by omega, rfl, HV0, N1, by rw [← HG0.out]; simp; omega, K1, HX1, z2⟩
  case round =>
    clear K1 N1 z1 z2 c4 HX1 HV0 HG0
    obtain ⟨i, X, hi, rfl, hv, hbl2, hxl, hk, hx, hz⟩ := hrel
    obtain ⟨wo, rfl⟩ : ∃ wo : World, wo = wr := ⟨_, rfl⟩
    have c0 : wo.cell? ⟨w.heap.size, 0, none⟩ = some (.int .i64 k) := hx.out.cell 0
    have c3 : wo.cell? ⟨w.heap.size, 3, none⟩ = some (.slice A ks.length ck) := hx.out.cell 3
    by_cases hlt : i < ns.length
    · obtain ⟨ad, n, v0, v1, v2, v3, v4, rfl, hadb, hni, hnd, e0, e1, e2, e3, e4⟩ := (hk.out.reads HXS.out).nd (hk.out.nds HNS.out) hlt
      obtain ⟨x0, x1, x2, x3, x4, x5, x6, x7, x8, rfl, rfl, rfl, rfl, rfl⟩ := hnd.form
      have hgat := gL_at ks ns i n hni
      have hgood := goodL_at ns i n hni HGL.out
      have q1 : (ad.add (i * 5)).block < wo.heap.size := by rw [block_of_add]; omega
      have HND := Lib.hid hnd
      have HNI := Lib.hid hni
      have HGD := Lib.hid hgood
      have HGA := Lib.hid hgat
      clear hnd hni hgood hgat
      have hgo := HGA.out
      have KY : Kept B b wo (wo.alloc (.cells #[.int .i64 x0, .int .i64 x1, .string x2, .slice x3 x4 x5, .slice x6 x7 x8] 25)) := (Kept.refl _ _ _).alloc (by omega) _
      have YB : Hid (Blk (wo.alloc (.cells #[.int .i64 x0, .int .i64 x1, .string x2, .slice x3 x4 x5, .slice x6 x7 x8] 25)) wo.heap.size 25 #[.int .i64 x0, .int .i64 x1, .string x2, .slice x3 x4 x5, .slice x6 x7 x8]) := Blk.new wo _ _
      have HBY : Hid (Bld B b (Lib.byteCells X) (wo.alloc (.cells #[.int .i64 x0, .int .i64 x1, .string x2, .slice x3 x4 x5, .slice x6 x7 x8] 25))) := hbl2.out.alloc _
      have hbo := hbl2.out.lt
      by_cases h7 : k = 7
      · have hk7 : (k == 7) = true := by rw [beq_iff_eq]; exact h7
        have hik : i < ks.length := by rw [HKL.out h7]; exact hlt
        obtain ⟨s, hki⟩ : ∃ s, ks[i]? = some s := ⟨_, List.getElem?_eq_getElem hik⟩
        have hss := HSZ.out s (List.mem_of_getElem? hki)
        have hh : (ks.drop i).headD ⟨#[]⟩ = s := by rw [List.drop_eq_getElem_cons hik, (List.getElem?_eq_some_iff.1 hki).2]; rfl
        rw [hh] at hgo
        subst h7
        by_cases hi0 : i = 0
        · have g0 : decide ((0 : Int) < (i : Int)) = false := by simp; omega
          have g1 : decide (0 < i) = false := by simp; omega
          have g2 : ¬ (0 < i) := by omega
          have HI0 := Lib.hid hi0
          clear hi0
          obtain ⟨adk, rfl, hadk, hcl⟩ := cell_str HKS.out hk.out hki
          have q2 : (adk.add i).block < wo.heap.size := by rw [block_of_add]; omega
          have hcl2 : (wo.alloc (.cells #[.int .i64 x0, .int .i64 x1, .string x2, .slice x3 x4 x5, .slice x6 x7 x8] 25)).cell? (adk.add i) = some (.string s) := (KY.1.cell (by rw [block_of_add]; exact hadk)).trans hcl
          go_wp2_with fail
          refine (Wtext_any B b X s _ HBY.out (by first | omega | (simp only [List.length_append, List.length_cons, List.length_nil]; omega)) hss (by first | omega | (simp; omega))).mono ?_; rintro e w1 ⟨rfl, n1, k1⟩
          have M1 := Lib.hid n1
          have KK1 := KY.trans k1
          have Y1 : Hid (Blk w1 wo.heap.size 25 #[.int .i64 x0, .int .i64 x1, .string x2, .slice x3 x4 x5, .slice x6 x7 x8]) := k1.blk (YB.out) (by omega)
          have s1 := KK1.1.size
          clear n1 k1
          have y01 : w1.cell? ⟨wo.heap.size, 0, none⟩ = some (Value.int .i64 x0) := Y1.out.cell 0
          have y11 : w1.cell? ⟨wo.heap.size, 1, none⟩ = some (Value.int .i64 x1) := Y1.out.cell 1
          have y21 : w1.cell? ⟨wo.heap.size, 2, none⟩ = some (Value.string x2) := Y1.out.cell 2
          have y31 : w1.cell? ⟨wo.heap.size, 3, none⟩ = some (Value.slice x3 x4 x5) := Y1.out.cell 3
          have y41 : w1.cell? ⟨wo.heap.size, 4, none⟩ = some (Value.slice x6 x7 x8) := Y1.out.cell 4
          have HXX1 : Hid (Blk w1 w.heap.size 25 #[.int .i64 7, .int .i64 num, .string t, .slice (some adk) ks.length ck, .slice (some ad) ns.length cc]) := KK1.blk hx.out (by omega)
          have cc01 : w1.cell? ⟨w.heap.size, 0, none⟩ = some (.int .i64 7) := HXX1.out.cell 0
          have cc31 : w1.cell? ⟨w.heap.size, 3, none⟩ = some (.slice (some adk) ks.length ck) := HXX1.out.cell 3
          go_wp2_with fail
          refine (wbyte B b (X ++ quoteU s.toList) 58 58 rfl _ M1.out (by have := quoteU_le s.toList; rw [tl_len'] at this; simp only [List.length_append, List.length_cons, List.length_nil]; omega) (by omega)).mono ?_; rintro e w2 ⟨rfl, n2, k2⟩
          have M2 := Lib.hid n2
          have KK2 := KK1.trans k2
          have Y2 : Hid (Blk w2 wo.heap.size 25 #[.int .i64 x0, .int .i64 x1, .string x2, .slice x3 x4 x5, .slice x6 x7 x8]) := k2.blk (Y1.out) (by omega)
          have s2 := KK2.1.size
          clear n2 k2
          have y02 : w2.cell? ⟨wo.heap.size, 0, none⟩ = some (Value.int .i64 x0) := Y2.out.cell 0
          have y12 : w2.cell? ⟨wo.heap.size, 1, none⟩ = some (Value.int .i64 x1) := Y2.out.cell 1
          have y22 : w2.cell? ⟨wo.heap.size, 2, none⟩ = some (Value.string x2) := Y2.out.cell 2
          have y32 : w2.cell? ⟨wo.heap.size, 3, none⟩ = some (Value.slice x3 x4 x5) := Y2.out.cell 3
          have y42 : w2.cell? ⟨wo.heap.size, 4, none⟩ = some (Value.slice x6 x7 x8) := Y2.out.cell 4
          have HXX2 : Hid (Blk w2 w.heap.size 25 #[.int .i64 7, .int .i64 num, .string t, .slice (some adk) ks.length ck, .slice (some ad) ns.length cc]) := KK2.blk hx.out (by omega)
          have cc02 : w2.cell? ⟨w.heap.size, 0, none⟩ = some (.int .i64 7) := HXX2.out.cell 0
          have cc32 : w2.cell? ⟨w.heap.size, 3, none⟩ = some (.slice (some adk) ks.length ck) := HXX2.out.cell 3
          go_wp2_with fail
          have HNC := HIH.out i n HNI.out [.int .i64 x0, .int .i64 x1, .string x2, .slice x3 x4 x5, .slice x6 x7 x8] ((X ++ quoteU s.toList) ++ [58]) _ (NdIs.keep (fun p hp => KK2.1.cell hp) _ _ HND.out) M2.out ((HT.out.kept hk.out).kept KK2) (by omega) HGD.out (by have := quoteU_le s.toList; rw [tl_len'] at this; simp only [List.length_append, List.length_cons, List.length_nil]; omega)
          refine (HNC : Calls _ _ _ _ _).mono ?_; rintro e w9 ⟨rfl, n9, k9⟩
          have K9 := hk.out.trans (KK2.trans k9)
          have X9 : Blk w9 w.heap.size 25 #[.int .i64 7, .int .i64 num, .string t, .slice (some adk) ks.length ck, .slice (some ad) ns.length cc] := (KK2.trans k9).blk hx.out (by omega)
          have N9 := Lib.hid n9
          have HL9 := outN_le n ((X ++ quoteU s.toList) ++ [58]) HGD.out
          have z9 : w.heap.size < w9.heap.size := X9.lt
          have HK9 := Lib.hid K9
          have HX9 := Lib.hid X9
          clear K9 X9 n9 HNC
          have HVV : Hid (V = outL ((7 : Int) == 7) (ks.drop (i + 1)) (ns.drop (i + 1)) (decide (i + 1 = 0)) (outN n ((X ++ quoteU s.toList) ++ [58]))) := by
            show _ = _
            rw [hv.out, outL_at ((7 : Int) == 7) ks ns i n s _ _ HNI.out (fun _ => hki), hk7]
            have hi0 := HI0.out
            simp [hi0]
          have hln : (outN n ((X ++ quoteU s.toList) ++ [58])).length + 1 + gL (ks.drop (i + 1)) (ns.drop (i + 1)) ≤ 100000000000000 := by
            have := quoteU_le s.toList; rw [tl_len'] at this; simp only [List.length_append, List.length_cons, List.length_nil] at HL9; omega
          have HLN := Lib.hid hln
          clear HL9 hln
          go_wp2_with fail
          go_roundw
          case rel => exact ⟨i + 1, _, by omega, by go_num, HVV, N9, HLN.out, HK9, HX9, z9⟩
          case measure => simp [intOf]; omega
        · have g0 : decide ((0 : Int) < (i : Int)) = true := by simp; omega
          have g1 : decide (0 < i) = true := by simp; omega
          have g2 : (0 < i) := by omega
          have HI0 := Lib.hid hi0
          clear hi0
          go_wp2_with fail
          refine (wbyte B b X 44 44 rfl _ HBY.out (by omega) (by first | omega | (simp; omega))).mono ?_; rintro e w1 ⟨rfl, n1, k1⟩
          have M1 := Lib.hid n1
          have KK1 := KY.trans k1
          have Y1 : Hid (Blk w1 wo.heap.size 25 #[.int .i64 x0, .int .i64 x1, .string x2, .slice x3 x4 x5, .slice x6 x7 x8]) := k1.blk (YB.out) (by omega)
          have s1 := KK1.1.size
          clear n1 k1
          have y01 : w1.cell? ⟨wo.heap.size, 0, none⟩ = some (Value.int .i64 x0) := Y1.out.cell 0
          have y11 : w1.cell? ⟨wo.heap.size, 1, none⟩ = some (Value.int .i64 x1) := Y1.out.cell 1
          have y21 : w1.cell? ⟨wo.heap.size, 2, none⟩ = some (Value.string x2) := Y1.out.cell 2
          have y31 : w1.cell? ⟨wo.heap.size, 3, none⟩ = some (Value.slice x3 x4 x5) := Y1.out.cell 3
          have y41 : w1.cell? ⟨wo.heap.size, 4, none⟩ = some (Value.slice x6 x7 x8) := Y1.out.cell 4
          have HXX1 : Hid (Blk w1 w.heap.size 25 #[.int .i64 7, .int .i64 num, .string t, .slice A ks.length ck, .slice (some ad) ns.length cc]) := KK1.blk hx.out (by omega)
          have cc01 : w1.cell? ⟨w.heap.size, 0, none⟩ = some (.int .i64 7) := HXX1.out.cell 0
          have cc31 : w1.cell? ⟨w.heap.size, 3, none⟩ = some (.slice A ks.length ck) := HXX1.out.cell 3
          obtain ⟨adk, rfl, hadk, hcl⟩ := cell_str HKS.out (hk.out.trans KK1) hki
          go_wp2_with fail
          refine (Wtext_any B b (X ++ [44]) s _ M1.out (by first | omega | (simp only [List.length_append, List.length_cons, List.length_nil]; omega)) hss (by omega)).mono ?_; rintro e w2 ⟨rfl, n2, k2⟩
          have M2 := Lib.hid n2
          have KK2 := KK1.trans k2
          have Y2 : Hid (Blk w2 wo.heap.size 25 #[.int .i64 x0, .int .i64 x1, .string x2, .slice x3 x4 x5, .slice x6 x7 x8]) := k2.blk (Y1.out) (by omega)
          have s2 := KK2.1.size
          clear n2 k2
          have y02 : w2.cell? ⟨wo.heap.size, 0, none⟩ = some (Value.int .i64 x0) := Y2.out.cell 0
          have y12 : w2.cell? ⟨wo.heap.size, 1, none⟩ = some (Value.int .i64 x1) := Y2.out.cell 1
          have y22 : w2.cell? ⟨wo.heap.size, 2, none⟩ = some (Value.string x2) := Y2.out.cell 2
          have y32 : w2.cell? ⟨wo.heap.size, 3, none⟩ = some (Value.slice x3 x4 x5) := Y2.out.cell 3
          have y42 : w2.cell? ⟨wo.heap.size, 4, none⟩ = some (Value.slice x6 x7 x8) := Y2.out.cell 4
          have HXX2 : Hid (Blk w2 w.heap.size 25 #[.int .i64 7, .int .i64 num, .string t, .slice (some adk) ks.length ck, .slice (some ad) ns.length cc]) := KK2.blk hx.out (by omega)
          have cc02 : w2.cell? ⟨w.heap.size, 0, none⟩ = some (.int .i64 7) := HXX2.out.cell 0
          have cc32 : w2.cell? ⟨w.heap.size, 3, none⟩ = some (.slice (some adk) ks.length ck) := HXX2.out.cell 3
          go_wp2_with fail
          refine (wbyte B b ((X ++ [44]) ++ quoteU s.toList) 58 58 rfl _ M2.out (by have := quoteU_le s.toList; rw [tl_len'] at this; simp only [List.length_append, List.length_cons, List.length_nil]; omega) (by omega)).mono ?_; rintro e w3 ⟨rfl, n3, k3⟩
          have M3 := Lib.hid n3
          have KK3 := KK2.trans k3
          have Y3 : Hid (Blk w3 wo.heap.size 25 #[.int .i64 x0, .int .i64 x1, .string x2, .slice x3 x4 x5, .slice x6 x7 x8]) := k3.blk (Y2.out) (by omega)
          have s3 := KK3.1.size
          clear n3 k3
          have y03 : w3.cell? ⟨wo.heap.size, 0, none⟩ = some (Value.int .i64 x0) := Y3.out.cell 0
          have y13 : w3.cell? ⟨wo.heap.size, 1, none⟩ = some (Value.int .i64 x1) := Y3.out.cell 1
          have y23 : w3.cell? ⟨wo.heap.size, 2, none⟩ = some (Value.string x2) := Y3.out.cell 2
          have y33 : w3.cell? ⟨wo.heap.size, 3, none⟩ = some (Value.slice x3 x4 x5) := Y3.out.cell 3
          have y43 : w3.cell? ⟨wo.heap.size, 4, none⟩ = some (Value.slice x6 x7 x8) := Y3.out.cell 4
          have HXX3 : Hid (Blk w3 w.heap.size 25 #[.int .i64 7, .int .i64 num, .string t, .slice (some adk) ks.length ck, .slice (some ad) ns.length cc]) := KK3.blk hx.out (by omega)
          have cc03 : w3.cell? ⟨w.heap.size, 0, none⟩ = some (.int .i64 7) := HXX3.out.cell 0
          have cc33 : w3.cell? ⟨w.heap.size, 3, none⟩ = some (.slice (some adk) ks.length ck) := HXX3.out.cell 3
          go_wp2_with fail
          have HNC := HIH.out i n HNI.out [.int .i64 x0, .int .i64 x1, .string x2, .slice x3 x4 x5, .slice x6 x7 x8] (((X ++ [44]) ++ quoteU s.toList) ++ [58]) _ (NdIs.keep (fun p hp => KK3.1.cell hp) _ _ HND.out) M3.out ((HT.out.kept hk.out).kept KK3) (by omega) HGD.out (by have := quoteU_le s.toList; rw [tl_len'] at this; simp only [List.length_append, List.length_cons, List.length_nil]; omega)
          refine (HNC : Calls _ _ _ _ _).mono ?_; rintro e w9 ⟨rfl, n9, k9⟩
          have K9 := hk.out.trans (KK3.trans k9)
          have X9 : Blk w9 w.heap.size 25 #[.int .i64 7, .int .i64 num, .string t, .slice (some adk) ks.length ck, .slice (some ad) ns.length cc] := (KK3.trans k9).blk hx.out (by omega)
          have N9 := Lib.hid n9
          have HL9 := outN_le n (((X ++ [44]) ++ quoteU s.toList) ++ [58]) HGD.out
          have z9 : w.heap.size < w9.heap.size := X9.lt
          have HK9 := Lib.hid K9
          have HX9 := Lib.hid X9
          clear K9 X9 n9 HNC
          have HVV : Hid (V = outL ((7 : Int) == 7) (ks.drop (i + 1)) (ns.drop (i + 1)) (decide (i + 1 = 0)) (outN n (((X ++ [44]) ++ quoteU s.toList) ++ [58]))) := by
            show _ = _
            rw [hv.out, outL_at ((7 : Int) == 7) ks ns i n s _ _ HNI.out (fun _ => hki), hk7]
            have hi0 := HI0.out
            simp [hi0]
          have hln : (outN n (((X ++ [44]) ++ quoteU s.toList) ++ [58])).length + 1 + gL (ks.drop (i + 1)) (ns.drop (i + 1)) ≤ 100000000000000 := by
            have := quoteU_le s.toList; rw [tl_len'] at this; simp only [List.length_append, List.length_cons, List.length_nil] at HL9; omega
          have HLN := Lib.hid hln
          clear HL9 hln
          go_wp2_with fail
          go_roundw
          case rel => exact ⟨i + 1, _, by omega, by go_num, HVV, N9, HLN.out, HK9, HX9, z9⟩
          case measure => simp [intOf]; omega
      · have hk7 : (k == 7) = false := by rw [beq_eq_false_iff_ne]; exact h7
        by_cases hi0 : i = 0
        · have g0 : decide ((0 : Int) < (i : Int)) = false := by simp; omega
          have g1 : decide (0 < i) = false := by simp; omega
          have g2 : ¬ (0 < i) := by omega
          have HI0 := Lib.hid hi0
          clear hi0
          go_wp2_with fail
          have HNC := HIH.out i n HNI.out [.int .i64 x0, .int .i64 x1, .string x2, .slice x3 x4 x5, .slice x6 x7 x8] X _ (NdIs.keep (fun p hp => KY.1.cell hp) _ _ HND.out) HBY.out ((HT.out.kept hk.out).kept KY) (by first | omega | (simp; omega)) HGD.out (by first | omega | (simp only [List.length_append, List.length_cons, List.length_nil]; omega))
          refine (HNC : Calls _ _ _ _ _).mono ?_; rintro e w9 ⟨rfl, n9, k9⟩
          have K9 := hk.out.trans (KY.trans k9)
          have X9 : Blk w9 w.heap.size 25 #[.int .i64 k, .int .i64 num, .string t, .slice A ks.length ck, .slice (some ad) ns.length cc] := (KY.trans k9).blk hx.out (by omega)
          have N9 := Lib.hid n9
          have HL9 := outN_le n X HGD.out
          have z9 : w.heap.size < w9.heap.size := X9.lt
          have HK9 := Lib.hid K9
          have HX9 := Lib.hid X9
          clear K9 X9 n9 HNC
          have HVV : Hid (V = outL (k == 7) (ks.drop (i + 1)) (ns.drop (i + 1)) (decide (i + 1 = 0)) (outN n X)) := by
            show _ = _
            rw [hv.out, outL_at (k == 7) ks ns i n ⟨#[]⟩ _ _ HNI.out (fun h => by rw [hk7] at h; cases h), hk7]
            have hi0 := HI0.out
            simp [hi0]
          have hln : (outN n X).length + 1 + gL (ks.drop (i + 1)) (ns.drop (i + 1)) ≤ 100000000000000 := by
            first | omega | (simp only [List.length_append, List.length_cons, List.length_nil] at HL9; omega)
          have HLN := Lib.hid hln
          clear HL9 hln
          go_wp2_with fail
          go_roundw
          case rel => exact ⟨i + 1, _, by omega, by go_num, HVV, N9, HLN.out, HK9, HX9, z9⟩
          case measure => simp [intOf]; omega
        · have g0 : decide ((0 : Int) < (i : Int)) = true := by simp; omega
          have g1 : decide (0 < i) = true := by simp; omega
          have g2 : (0 < i) := by omega
          have HI0 := Lib.hid hi0
          clear hi0
          go_wp2_with fail
          refine (wbyte B b X 44 44 rfl _ HBY.out (by omega) (by first | omega | (simp; omega))).mono ?_; rintro e w1 ⟨rfl, n1, k1⟩
          have M1 := Lib.hid n1
          have KK1 := KY.trans k1
          have Y1 : Hid (Blk w1 wo.heap.size 25 #[.int .i64 x0, .int .i64 x1, .string x2, .slice x3 x4 x5, .slice x6 x7 x8]) := k1.blk (YB.out) (by omega)
          have s1 := KK1.1.size
          clear n1 k1
          have y01 : w1.cell? ⟨wo.heap.size, 0, none⟩ = some (Value.int .i64 x0) := Y1.out.cell 0
          have y11 : w1.cell? ⟨wo.heap.size, 1, none⟩ = some (Value.int .i64 x1) := Y1.out.cell 1
          have y21 : w1.cell? ⟨wo.heap.size, 2, none⟩ = some (Value.string x2) := Y1.out.cell 2
          have y31 : w1.cell? ⟨wo.heap.size, 3, none⟩ = some (Value.slice x3 x4 x5) := Y1.out.cell 3
          have y41 : w1.cell? ⟨wo.heap.size, 4, none⟩ = some (Value.slice x6 x7 x8) := Y1.out.cell 4
          have HXX1 : Hid (Blk w1 w.heap.size 25 #[.int .i64 k, .int .i64 num, .string t, .slice A ks.length ck, .slice (some ad) ns.length cc]) := KK1.blk hx.out (by omega)
          have cc01 : w1.cell? ⟨w.heap.size, 0, none⟩ = some (.int .i64 k) := HXX1.out.cell 0
          have cc31 : w1.cell? ⟨w.heap.size, 3, none⟩ = some (.slice A ks.length ck) := HXX1.out.cell 3
          go_wp2_with fail
          have HNC := HIH.out i n HNI.out [.int .i64 x0, .int .i64 x1, .string x2, .slice x3 x4 x5, .slice x6 x7 x8] (X ++ [44]) _ (NdIs.keep (fun p hp => KK1.1.cell hp) _ _ HND.out) M1.out ((HT.out.kept hk.out).kept KK1) (by omega) HGD.out (by first | omega | (simp only [List.length_append, List.length_cons, List.length_nil]; omega))
          refine (HNC : Calls _ _ _ _ _).mono ?_; rintro e w9 ⟨rfl, n9, k9⟩
          have K9 := hk.out.trans (KK1.trans k9)
          have X9 : Blk w9 w.heap.size 25 #[.int .i64 k, .int .i64 num, .string t, .slice A ks.length ck, .slice (some ad) ns.length cc] := (KK1.trans k9).blk hx.out (by omega)
          have N9 := Lib.hid n9
          have HL9 := outN_le n (X ++ [44]) HGD.out
          have z9 : w.heap.size < w9.heap.size := X9.lt
          have HK9 := Lib.hid K9
          have HX9 := Lib.hid X9
          clear K9 X9 n9 HNC
          have HVV : Hid (V = outL (k == 7) (ks.drop (i + 1)) (ns.drop (i + 1)) (decide (i + 1 = 0)) (outN n (X ++ [44]))) := by
            show _ = _
            rw [hv.out, outL_at (k == 7) ks ns i n ⟨#[]⟩ _ _ HNI.out (fun h => by rw [hk7] at h; cases h), hk7]
            have hi0 := HI0.out
            simp [hi0]
          have hln : (outN n (X ++ [44])).length + 1 + gL (ks.drop (i + 1)) (ns.drop (i + 1)) ≤ 100000000000000 := by
            first | omega | (simp only [List.length_append, List.length_cons, List.length_nil] at HL9; omega)
          have HLN := Lib.hid hln
          clear HL9 hln
          go_wp2_with fail
          go_roundw
          case rel => exact ⟨i + 1, _, by omega, by go_num, HVV, N9, HLN.out, HK9, HX9, z9⟩
          case measure => simp [intOf]; omega
    · have HE : Hid (V = X) := by
        show _ = _
        rw [hv.out, List.drop_eq_nil_of_le (show ns.length ≤ i by omega)]
        unfold outL; rfl
      have hlx : X.length + 1 ≤ 100000000000000 := by omega
      go_wp2_with fail
      refine (wbyte B b X _ rb rfl _ hbl2.out (by omega) (by omega)).mono ?_; rintro e w2 ⟨rfl, n2, k2⟩
      have N2 := Lib.hid n2
      clear n2
      go_wp2_with fail
      go_end0
      exact ⟨rfl, by rw [HE.out]; exact N2.out, hk.out.trans k2⟩
end Go.Proofs.YtjigceoponlphaaDoor
/-! The walk of the writer's node. -/
namespace Go.Proofs.YtjigceoponlphaaDoor
open Go.RowKit Go.PlainAid
set_option linter.unusedVariables false
set_option linter.unusedSimpArgs false
theorem Bld.old {B b : Nat} {bs : List Value} {w w' : World} (h : Bld B b bs w) (k : Below w.heap.size w w') : Bld B b bs w' := by
  have hg : w.grownBy w' none := ⟨k.os, k.tape, k.output, k.size, fun i hi _ => k.block i hi⟩
  have go : ∀ p, Lib.BuilderAtF 44 5 B b p bs w → Lib.BuilderAtF 44 5 B b p bs w' := by
    rintro p ⟨hB, v, hb, ho, hn⟩
    refine ⟨hB, v, ?_, ho.kept hg ?_, hn⟩
    · rw [← hb]; exact k.block _ (bldLt hb)
    · cases v.ownBlock with
      | none => exact .inl rfl
      | some x => exact .inr (by intro e; cases e)
  rcases h with h | h
  · exact .inl (go _ h)
  · exact .inr (go _ h)
theorem Kept.old {B b : Nat} {w w' : World} (k : Below w.heap.size w w') (hB : B ≤ w.heap.size) : Kept B b w w' :=
  ⟨k.mono hB, fun i o hi _ _ => (k.block i (bldLt hi)).trans hi⟩
theorem len_gL : ∀ (ns : List Nd) (ks : List ByteArray), 10 * ns.length ≤ gL ks ns
  | [], ks => by simp
  | n :: ns, ks => by
    unfold gL
    have := len_gL ns ks.tail
    simp only [List.length_cons]; omega
set_option maxRecDepth 100000 in
set_option maxHeartbeats 3000000 in
theorem Wnode_step (k num : Int) (t : ByteArray) (ks : List ByteArray) (ns : List Nd) (A A2 : Option Addr) (ck cc : Nat) (xs : List Value) (B b : Nat) (l : List UInt8) (w : World)
    (hks : Reads w B 1 A ks.length (ks.map Value.string)) (hxs : Reads w B 5 A2 ns.length xs) (hns : NdsIs w B ns xs) (hgd : goodN (.mk k num t ks ns))
    (HIH : Hid (NodeH B b ns)) (hb : Bld B b (Lib.byteCells l) w) (hT : TabAt B w) (hB : B ≤ w.heap.size) (hlen : l.length + gN (.mk k num t ks ns) ≤ 100000000000000) :
    Calls Tryd.prog 15 #[.pointer (some ⟨b, 0, none⟩), .agg #[.int .i64 k, .int .i64 num, .string t, .slice A ks.length ck, .slice A2 ns.length cc]] w
      fun e w' => e = .returned (.tuple #[]) ∧ Bld B b (Lib.byteCells (outN (.mk k num t ks ns) l)) w' ∧ Kept B b w w' := by
  unfold gN at hlen
  unfold goodN at hgd
  obtain ⟨hnum, hkl, hts, hsz, hgl⟩ := hgd
  have hlg := len_gL ns ks
  have K0 : Kept B b w (w.alloc (.cells #[.int .i64 k, .int .i64 num, .string t, .slice A ks.length ck, .slice A2 ns.length cc] 25)) := (Kept.refl _ _ _).alloc hB _
  have HB0 := Lib.hid (hb.alloc (.cells #[.int .i64 k, .int .i64 num, .string t, .slice A ks.length ck, .slice A2 ns.length cc] 25))
  have HT0 := Lib.hid (hT.kept K0)
  have HKS := Lib.hid (K0.reads hks)
  have HXS := Lib.hid (K0.reads hxs)
  have HNS := Lib.hid (K0.nds hns)
  have HK0 := Lib.hid K0
  have HSZ := Lib.hid hsz
  have HGL := Lib.hid hgl
  have HKL := Lib.hid hkl
  have HNM := Lib.hid hnum
  have hB0 : B ≤ (w.alloc (.cells #[.int .i64 k, .int .i64 num, .string t, .slice A ks.length ck, .slice A2 ns.length cc] 25)).heap.size := by simp; omega
  obtain ⟨V, hV⟩ : ∃ V, V = outN (.mk k num t ks ns) l := ⟨_, rfl⟩
  rw [← hV]
  have HV := Lib.hid hV
  clear hks hxs hns hsz hgl hkl hb hT hV K0 hnum
  by_cases hf : 65536 < l.length
  · have df : decide (65536 < l.length) = true := decide_eq_true hf
    have e : V = l := by rw [HV.out]; unfold outN; rw [if_pos hf]
    go_enter Tryd.func15, Tryd.ntmps15
    go_wp2_with fail
    refine (full_any B b l _ HB0.out).mono ?_; rintro e w1 ⟨rfl, hw⟩; obtain rfl : _ = w1 := hw
    go_wp2_with fail
    refine bodyPost_ret (results_none rfl _ _ _) rfl ?_
    exact ⟨rfl, by rw [e]; exact HB0.out, HK0.out⟩
  have df : decide (65536 < l.length) = false := decide_eq_false hf
  by_cases h1 : k = 1
  · subst h1
    have e : V = l ++ [110, 117, 108, 108] := by rw [HV.out]; unfold outN; rw [if_neg hf, if_pos rfl]
    go_enter Tryd.func15, Tryd.ntmps15
    go_wp2_with fail
    refine (full_any B b l _ HB0.out).mono ?_; rintro e w1 ⟨rfl, hw⟩; obtain rfl : _ = w1 := hw
    go_wp2_with fail
    refine (wstr B b l _ [110, 117, 108, 108] (by kernel_rfl) _ HB0.out (by simp; omega) hB0).mono ?_; rintro e w1 ⟨rfl, n1, k1⟩
    go_wp2_with fail
    go_end0
    exact ⟨rfl, by rw [e]; exact n1, HK0.out.trans k1⟩
  by_cases h2 : k = 2
  · subst h2
    have e : V = l ++ [102, 97, 108, 115, 101] := by rw [HV.out]; unfold outN; rw [if_neg hf, if_neg (by decide), if_pos rfl]
    go_enter Tryd.func15, Tryd.ntmps15
    go_wp2_with fail
    refine (full_any B b l _ HB0.out).mono ?_; rintro e w1 ⟨rfl, hw⟩; obtain rfl : _ = w1 := hw
    go_wp2_with fail
    refine (wstr B b l _ [102, 97, 108, 115, 101] (by kernel_rfl) _ HB0.out (by simp; omega) hB0).mono ?_; rintro e w1 ⟨rfl, n1, k1⟩
    go_wp2_with fail
    go_end0
    exact ⟨rfl, by rw [e]; exact n1, HK0.out.trans k1⟩
  by_cases h3 : k = 3
  · subst h3
    have e : V = l ++ [116, 114, 117, 101] := by rw [HV.out]; unfold outN; rw [if_neg hf, if_neg (by decide), if_neg (by decide), if_pos rfl]
    go_enter Tryd.func15, Tryd.ntmps15
    go_wp2_with fail
    refine (full_any B b l _ HB0.out).mono ?_; rintro e w1 ⟨rfl, hw⟩; obtain rfl : _ = w1 := hw
    go_wp2_with fail
    refine (wstr B b l _ [116, 114, 117, 101] (by kernel_rfl) _ HB0.out (by simp; omega) hB0).mono ?_; rintro e w1 ⟨rfl, n1, k1⟩
    go_wp2_with fail
    go_end0
    exact ⟨rfl, by rw [e]; exact n1, HK0.out.trans k1⟩
  by_cases h4 : k = 4
  · subst h4
    have e : V = l ++ Lib.itoa num := by rw [HV.out]; unfold outN; rw [if_neg hf, if_neg (by decide), if_neg (by decide), if_neg (by decide), if_pos rfl]
    have hil := Lib.itoa_length_le num HNM.out.1 HNM.out.2
    go_enter Tryd.func15, Tryd.ntmps15
    go_wp2_with fail
    refine (full_any B b l _ HB0.out).mono ?_; rintro e w1 ⟨rfl, hw⟩; obtain rfl : _ = w1 := hw
    have HQ : Hid (∀ W0 : World, TabOK W0 → Bld B b (Lib.byteCells l) W0 → B ≤ W0.heap.size → Calls Tryd.prog 25 #[.int .i64 num] W0 fun e w' => e = .returned (.string ⟨(Lib.itoa num).toArray⟩) ∧ Bld B b (Lib.byteCells l) w' ∧ Kept B b W0 w' ∧ B ≤ w'.heap.size) := by
      intro W0 q1 q2 q3
      refine (Tryd.strconv_Itoa num HNM.out.1 HNM.out.2 _ q1).mono ?_; rintro e w1 ⟨rfl, kk, os, rfl⟩
      have KO := Lib.below_grow _ W0 (Nat.le_refl _) kk os
      exact ⟨rfl, q2.old KO, Kept.old KO q3, Nat.le_trans q3 KO.size⟩
    have hBd : B ≤ (w.alloc (.cells #[.int .i64 4, .int .i64 num, .string t, .slice A ks.length ck, .slice A2 ns.length cc] 25)).drew.heap.size := hB0
    have hKd : Kept B b (w.alloc (.cells #[.int .i64 4, .int .i64 num, .string t, .slice A ks.length ck, .slice A2 ns.length cc] 25)) (w.alloc (.cells #[.int .i64 4, .int .i64 num, .string t, .slice A ks.length ck, .slice A2 ns.length cc] 25)).drew := Kept.old (Below.refl _ _).drew hB0
    go_wp2_with fail
    go_region_with (first
      | (go_at_call 25; (with_reducible first | refine (HQ.out _ HT0.out.ok HB0.out hB0).mono ?_ | refine (HQ.out _ HT0.out.ok.drew (HB0.out.old (Below.refl _ _).drew) hBd).mono ?_); rintro e w1 ⟨rfl, n0, k0, hB1⟩)
      | (go_at_call 24; refine (wstr B b l _ (Lib.itoa num) (by rw [ByteArray.toList_eq]) _ n0 (by omega) hB1).mono ?_; rintro e w2 ⟨rfl, n1, k1⟩))
    all_goals
      go_wp2_with fail
      go_end0
      exact ⟨rfl, by rw [e]; exact n1, by first | exact (HK0.out.trans k0).trans k1 | exact ((HK0.out.trans hKd).trans k0).trans k1⟩
  by_cases h5 : k = 5
  · subst h5
    have e : V = l ++ quoteU t.toList := by rw [HV.out]; unfold outN; rw [if_neg hf, if_neg (by decide), if_neg (by decide), if_neg (by decide), if_neg (by decide), if_pos rfl]
    go_enter Tryd.func15, Tryd.ntmps15
    go_wp2_with fail
    refine (full_any B b l _ HB0.out).mono ?_; rintro e w1 ⟨rfl, hw⟩; obtain rfl : _ = w1 := hw
    go_wp2_with fail
    refine (Wtext_any B b l t _ HB0.out (by omega) hts hB0).mono ?_; rintro e w1 ⟨rfl, n1, k1⟩
    go_wp2_with fail
    go_end0
    exact ⟨rfl, by rw [e]; exact n1, HK0.out.trans k1⟩
  by_cases h6 : k = 6
  · subst h6
    have e : V = outL ((6 : Int) == 7) ks ns true (l ++ [91]) ++ [93] := by rw [HV.out]; unfold outN; rw [if_neg hf, if_neg (by decide), if_neg (by decide), if_neg (by decide), if_neg (by decide), if_neg (by decide), if_pos rfl]
    go_enter Tryd.func15, Tryd.ntmps15
    go_wp2_with fail
    refine (full_any B b l _ HB0.out).mono ?_; rintro e w1 ⟨rfl, hw⟩; obtain rfl : _ = w1 := hw
    go_wp2_with fail
    refine (Wkids_any 6 num t ks ns A A2 ck cc xs B b 91 93 l _ HKS.out HXS.out HNS.out (by omega) HKL.out HSZ.out HGL.out HIH HB0.out HT0.out hB0 (by omega)).mono ?_; rintro e w1 ⟨rfl, n1, k1⟩
    go_wp2_with fail
    go_end0
    exact ⟨rfl, by rw [e]; exact n1, HK0.out.trans k1⟩
  have e : V = outL (k == 7) ks ns true (l ++ [123]) ++ [125] := by rw [HV.out]; unfold outN; rw [if_neg hf, if_neg h1, if_neg h2, if_neg h3, if_neg h4, if_neg h5, if_neg h6]
  go_enter Tryd.func15, Tryd.ntmps15
  go_wp2_with fail
  refine (full_any B b l _ HB0.out).mono ?_; rintro e w1 ⟨rfl, hw⟩; obtain rfl : _ = w1 := hw
  go_wp2_with fail
  refine (Wkids_any k num t ks ns A A2 ck cc xs B b 123 125 l _ HKS.out HXS.out HNS.out (by omega) HKL.out HSZ.out HGL.out HIH HB0.out HT0.out hB0 (by omega)).mono ?_; rintro e w1 ⟨rfl, n1, k1⟩
  go_wp2_with fail
  go_end0
  exact ⟨rfl, by rw [e]; exact n1, HK0.out.trans k1⟩
theorem Wnode_any : ∀ (m : Nat) (n : Nd), n.count ≤ m → ∀ (B b : Nat) (cs : List Value) (l : List UInt8) (w : World), NdIs w B n cs → Bld B b (Lib.byteCells l) w → TabAt B w → B ≤ w.heap.size → goodN n → l.length + gN n ≤ 100000000000000 → NodeC B b cs.toArray (outN n l) w := by
  intro m
  induction m with
  | zero => intro n hm; have := n.count_pos; omega
  | succ m ih =>
    intro n hm B b cs l w hn hb hT hB hg hl
    cases n with
    | mk k num t ks ns =>
      have h := hn
      unfold NdIs at h
      obtain ⟨A, ck, A2, cc, xs, rfl, hks, hxs, hns, _⟩ := h
      refine Wnode_step k num t ks ns A A2 ck cc xs B b l w hks hxs hns hg (Lib.hid ?_) hb hT hB hl
      intro i n hi cs l w h1 h2 h3 h4 h5 h6
      refine ih n ?_ B b cs l w h1 h2 h3 h4 h5 h6
      have := Nd.counts_get ns i n hi
      simp only [Nd.count] at hm; omega
end Go.Proofs.YtjigceoponlphaaDoor
/-! Look-ups in a call's own map whose elements are bools. -/
namespace Go.Proofs.YtjigceoponlphaaDoor
open Go.RowKit Go.PlainAid
open Go.Maps (Keyed)
set_option linter.unusedVariables false
set_option linter.unusedSimpArgs false
theorem plainElem_bool_inv {H : Type} {P : Program} {e : TypeId} (he : P.underlying e = some .bool) {v : Value} {z : DataW H × List MemPlace} (h : plainElem P e v = some z) : ∃ x, v = .bool x ∧ z = (.lit (.bool x), []) := by
  unfold plainElem at h
  rw [he] at h
  cases v <;> simp at h
  exact ⟨_, rfl, h.symm⟩
theorem lookup_bool {H : Type} {P : Program} {w : World} {k t e : TypeId} {b n : Nat} {D : DataW H} (h : w.ownsMap P k (plainElem P e) b n D) (K : Keyed P k) (ht : P.underlying t = some (.map k e)) (he : P.underlying e = some .bool) (hz : (zeroValue e).run P w = .ok (.bool false) w)
    {key : Value} {kl : Lit} (hkey : keyOf P k key = some kl) : ∃ c, (Instr.lookup t (.map (some b)) key false).run P w = .ok (.bool c) w ∧ D.atKey kl (.lit (.bool false)) = .lit (.bool c) := by
  obtain ⟨v, ps, hrun, hv⟩ := h.lookup K ht hz (plainElem_bool he false) hkey
  obtain ⟨c, rfl, hc⟩ := plainElem_bool_inv he hv
  simp only [Prod.mk.injEq] at hc
  exact ⟨c, hrun, hc.1⟩
theorem wpList_lookup_own_bool {H : Type} {P : Program} (w : World) {ops : Array Oper} {rest : List Oper} {o : Oper} {a : Act} {Q : Exit → Act → World → Prop}
    (hg : o.guard = none) (m x : Operand) (t : TypeId) (hop : o.op = Op.lookup t m x false)
    (k e : TypeId) (K : Keyed P k) (ht : P.underlying t = some (.map k e)) (he : P.underlying e = some .bool) (hz : (zeroValue e).run P w = .ok (.bool false) w) (b n : Nat) (D : DataW H)
    (hm : a.eval m = .map (some b)) (hown : w.ownsMap P k (plainElem P e) b n D) (key : Value) (kl : Lit) (hx : a.eval x = key) (hkey : keyOf P k key = some kl)
    (hK : ∀ c : Bool, D.atKey kl (.lit (.bool false)) = .lit (.bool c) → wpList P ops Q rest (a.put o.dst (.bool c)) w) :
    wpList P ops Q (o :: rest) a w := by
  refine wpList_plain hg fun K' hK' => ?_
  obtain ⟨c, hrun, hat⟩ := lookup_bool hown K ht he hz hkey
  unfold Oper.wp
  simp [execOp, hop, hm, hx, hrun, Result.andThen]
  exact hK' _ _ (hK c hat)
end Go.Proofs.YtjigceoponlphaaDoor
/-! The walk of keys: whether an object's keys may be. -/
namespace Go.Proofs.YtjigceoponlphaaDoor
open Go.RowKit Go.PlainAid
open Go.Maps (Keyed)
open Go.ChangeMaps Go.MapKept
set_option linter.unusedVariables false
set_option linter.unusedSimpArgs false
open Classical in
/-- whether keys may be: unlike ones, each valid -/
noncomputable def keysB (ks : List ByteArray) : Bool := decide (ks.Nodup ∧ ∀ s ∈ ks, validB s.toList = true)
theorem keysB_twice {ks : List ByteArray} {i : Nat} {s : ByteArray} (hs : ks[i]? = some s) (hm : s ∈ ks.take i) : keysB ks = false := by
  unfold keysB
  refine decide_eq_false fun ⟨hn, _⟩ => ?_
  rw [← List.take_append_drop i ks, List.nodup_append] at hn
  refine hn.2.2 s hm s ?_ rfl
  rw [List.drop_eq_getElem_cons (List.getElem?_eq_some_iff.1 hs).1, (List.getElem?_eq_some_iff.1 hs).2]
  exact List.mem_cons_self
theorem keysB_bad {ks : List ByteArray} {i : Nat} {s : ByteArray} (hs : ks[i]? = some s) (hm : validB s.toList = false) : keysB ks = false := by
  unfold keysB
  refine decide_eq_false fun ⟨_, h⟩ => ?_
  rw [h s (List.mem_of_getElem? hs)] at hm
  cases hm
theorem take_snoc {α : Type} {l : List α} {i : Nat} {s : α} (hs : l[i]? = some s) : l.take (i + 1) = l.take i ++ [s] := by
  rw [List.take_add_one, hs]; rfl
theorem keyLaw : Keyed Tryd.prog 9 := Maps.string_keyed Tryd.underlying9
theorem zeroBool (w : World) : (zeroValue 4).run Tryd.prog w = .ok (.bool false) w := by kernel_rfl
open Classical in
/-- a map that holds just the keys of a list -/
def Seen (l : List ByteArray) (D : DataW Nat) : Prop := ∀ s : ByteArray, D.atKey (.string s.data.toList) (.lit (.bool false)) = .lit (.bool (decide (s ∈ l)))
theorem seen_nil : Seen [] (.map []) := fun s => by simp [DataW.atKey]
theorem seen_put {l : List ByteArray} {D : DataW Nat} (h : Seen l D) (hm : Maps.IsMap D) (s : ByteArray) : Seen (l ++ [s]) (D.put (.string s.data.toList) (.lit (.bool true))) := by
  intro u
  by_cases e : u = s
  · subst e
    rw [Maps.atKey_put_same hm (by trivial)]
    simp
  · have hne : (Lit.string u.data.toList) ≠ .string s.data.toList := by
      intro h
      injection h with h
      apply e
      cases u; cases s; simp at h; rw [h]
    rw [Maps.atKey_put_other hne, h u]
    simp [e]
set_option maxRecDepth 100000 in
set_option maxHeartbeats 1000000 in
theorem keys_any (ks : List ByteArray) (A : Option Addr) (ck B : Nat) (w : World) (hks : Reads w B 1 A ks.length (ks.map Value.string)) (hsz : ∀ s ∈ ks, s.size ≤ 9223372036854775807) (hl : ks.length ≤ 9223372036854775807) (hB : B ≤ w.heap.size) :
    Calls Tryd.prog 40 #[.slice A ks.length ck] w fun e w' => e = .returned (.bool (keysB ks)) ∧ Below w.heap.size w w' := by
  have hmm := @run_makeMap Tryd.prog
  have HKS := Lib.hid hks
  have HSZ := Lib.hid hsz
  clear hks hsz
  go_enter Tryd.func40, Tryd.ntmps40
  go_wp2
  go_loopw [9] (fun t wr => ∃ (i : Nat) (D : DataW Nat), i ≤ ks.length ∧ t = .int .i64 i ∧ wr.ownsMap Tryd.prog 9 (plainElem Tryd.prog 4) w.heap.size i D ∧ Hid (Seen (ks.take i) D) ∧ Hid ((ks.take i).Nodup ∧ ∀ s ∈ ks.take i, validB s.toList = true) ∧ Below w.heap.size w wr)
    (fun t _ => ks.length - (intOf t).toNat)
  case atStart => exact ⟨0, _, Nat.zero_le _, rfl, World.ownsMap_made _ _ _ _, seen_nil, by constructor <;> simp, (Below.refl _ _).alloc (Nat.le_refl _) _⟩
  case round =>
    obtain ⟨i, D, hi, rfl, hown, hsn, hgd, hbw⟩ := hrel
    obtain ⟨wo, rfl⟩ : ∃ wo : World, wo = wr := ⟨_, rfl⟩
    by_cases hlt : i < ks.length
    · obtain ⟨ad, s, rfl, hadb, hks, hc⟩ := (HKS.out.keep fun p hp => hbw.cell (by omega)).str hlt
      have hss := HSZ.out s (List.mem_of_getElem? hks)
      have hkey : keyOf Tryd.prog 9 (.string s) = some (.string s.data.toList) := WideMaps.keyOf_string_mk Tryd.underlying9 (by unfold maxLen; omega)
      have HAT := Lib.hid (hsn.out s)
      have HS := Lib.hid hks
      clear hks
      by_cases hm : s ∈ ks.take i
      · have hv := keysB_twice HS.out hm
        go_wp2_with (first
          | (at_lookup; refine wpList_lookup_own_bool _ rfl _ _ 73 rfl 9 4 keyLaw Tryd.underlying73 Tryd.underlying4 (zeroBool _) w.heap.size i _ rfl hown _ _ rfl hkey ?_; intro c hat; obtain rfl : c = true := by (have h1 := HAT.out; rw [hat] at h1; simpa [hm] using h1))
          | fail)
        go_ret
        exact ⟨by rw [hv]; rfl, hbw⟩
      · have HV := Lib.hid (valid_any s wo (by omega))
        cases hvb : validB s.toList with
        | false =>
          have hv := keysB_bad HS.out hvb
          go_wp2_with (first
            | (at_lookup; refine wpList_lookup_own_bool _ rfl _ _ 73 rfl 9 4 keyLaw Tryd.underlying73 Tryd.underlying4 (zeroBool _) w.heap.size i _ rfl hown _ _ rfl hkey ?_; intro c hat; obtain rfl : c = false := by (have h1 := HAT.out; rw [hat] at h1; simpa [hm] using h1))
            | fail)
          refine HV.out.mono ?_; rintro e w1 ⟨rfl, hw1⟩
          rw [hvb]
          go_wp2_with fail
          go_ret
          exact ⟨by rw [hv]; rfl, hbw.trans (hw1.mono hbw.size)⟩
        | true =>
          go_wp2_with (first
            | (at_lookup; refine wpList_lookup_own_bool _ rfl _ _ 73 rfl 9 4 keyLaw Tryd.underlying73 Tryd.underlying4 (zeroBool _) w.heap.size i _ rfl hown _ _ rfl hkey ?_; intro c hat; obtain rfl : c = false := by (have h1 := HAT.out; rw [hat] at h1; simpa [hm] using h1))
            | fail)
          refine HV.out.mono ?_; rintro e w1 ⟨rfl, hw1⟩
          rw [hvb]
          have hg : wo.grownBy w1 none := ⟨hw1.os, hw1.tape, hw1.output, hw1.size, fun k hk _ => hw1.block k hk⟩
          have hown1 := hown.kept hg (by simp)
          have hb1 : Below w.heap.size w w1 := hbw.trans (hw1.mono hbw.size)
          go_wp2_with (first
            | (at_mapUpdate; refine wpList_mapUpdate_own _ rfl _ _ _ 73 rfl 9 4 keyLaw Tryd.underlying73 _ w.heap.size i _ rfl hown1 (by unfold maxLen; omega) _ _ _ rfl rfl hkey _ [] (plainElem_bool Tryd.underlying4 true) ?_; intro w2 hown2 hgrow2)
            | fail)
          go_roundw
          case rel =>
            refine ⟨i + 1, _, by omega, by go_num, hown2, ?_, ?_, hb1.grown hgrow2 hb1.size (fun j hj => by cases hj; exact Nat.le_refl _)⟩
            · rw [take_snoc HS.out]; exact seen_put hsn.out hown1.isMap s
            · rw [take_snoc HS.out]
              refine ⟨?_, ?_⟩
              · rw [List.nodup_append]
                refine ⟨hgd.out.1, by simp, ?_⟩
                intro a ha b hb e
                simp at hb
                subst hb; subst e; exact hm ha
              · intro u hu
                rw [List.mem_append] at hu
                rcases hu with hu | hu
                · exact hgd.out.2 u hu
                · simp at hu; subst hu; exact hvb
          case measure => simp [intOf]; omega
    · have hik : i = ks.length := by omega
      have hv : keysB ks = true := by
        unfold keysB
        have h := hgd.out
        rw [List.take_of_length_le (by omega)] at h
        exact decide_eq_true h
      go_wp2_with fail
      go_ret
      exact ⟨by rw [hv]; rfl, hbw⟩
end Go.Proofs.YtjigceoponlphaaDoor
/-! The walk of bare. -/
namespace Go.Proofs.YtjigceoponlphaaDoor
open Go.RowKit Go.PlainAid
set_option linter.unusedVariables false
set_option linter.unusedSimpArgs false
def bareF (k num : Int) (t : ByteArray) (a b : Nat) : Bool := (k == 4 || num == 0) && (k == 5 || decide (t = ⟨#[]⟩)) && (k == 7 || a == 0) && (k == 6 || k == 7 || b == 0)
set_option maxRecDepth 100000 in
set_option maxHeartbeats 1000000 in
theorem bare_any (k num : Int) (t : ByteArray) (A A2 : Option Addr) (a b ck cc : Nat) (w : World) :
    Calls Tryd.prog 38 #[.agg #[.int .i64 k, .int .i64 num, .string t, .slice A a ck, .slice A2 b cc]] w fun e w' => e = .returned (.bool (bareF k num t a b)) ∧ Below w.heap.size w w' := by
  have hW := Below.refl w.heap.size w
  obtain ⟨V, hV⟩ : ∃ V, V = bareF k num t a b := ⟨_, rfl⟩
  rw [← hV]
  by_cases h4 : k = 4
  · subst h4
    by_cases ht : t = ⟨#[]⟩
    case neg =>
      have ht2 : decide (t = ⟨#[]⟩) = false := decide_eq_false ht
      have ht3 : ¬ t.toList = [] := fun h => ht (by cases t with | mk d => rw [ByteArray.toList_eq] at h; simp at h; rw [h])
      have ht4 : t.toList.isEmpty = false := by simp [ht3]
      have e : V = false := by rw [hV]; simp [bareF, *]
      clear hV
      go_enter Tryd.func38, Tryd.ntmps38
      go_wp2_with fail
      go_ret
      exact ⟨by rw [e]; first | rfl | (simp; done) | (simp; omega), hW.alloc hW.size _⟩
    have ht3 : t.toList = [] := by rw [ht, ByteArray.toList_eq]
    have ht4 : t.toList.isEmpty = true := by rw [ht3]; rfl
    by_cases ha : a = 0
    case neg =>
      have ha2 : decide ((a : Int) = 0) = false := by simp; omega
      have e : V = false := by rw [hV]; simp [bareF, *]
      clear hV
      go_enter Tryd.func38, Tryd.ntmps38
      go_wp2_with fail
      go_ret
      exact ⟨by rw [e]; first | rfl | (simp; done) | (simp; omega), hW.alloc hW.size _⟩
    subst ha
    by_cases hb : b = 0
    case neg =>
      have hb2 : decide ((b : Int) = 0) = false := by simp; omega
      have e : V = false := by rw [hV]; simp [bareF, *]
      clear hV
      go_enter Tryd.func38, Tryd.ntmps38
      go_wp2_with fail
      go_ret
      exact ⟨by rw [e]; first | rfl | (simp; done) | (simp; omega), hW.alloc hW.size _⟩
    subst hb
    have e : V = true := by rw [hV]; simp [bareF, *]
    clear hV
    go_enter Tryd.func38, Tryd.ntmps38
    go_wp2_with fail
    go_ret
    exact ⟨by rw [e]; first | rfl | (simp; done) | (simp; omega), hW.alloc hW.size _⟩
  by_cases h5 : k = 5
  · subst h5
    by_cases hn : num = 0
    case neg =>
      have e : V = false := by rw [hV]; simp [bareF, *]
      clear hV
      go_enter Tryd.func38, Tryd.ntmps38
      go_wp2_with fail
      go_ret
      exact ⟨by rw [e]; first | rfl | (simp; done) | (simp; omega), hW.alloc hW.size _⟩
    subst hn
    by_cases ha : a = 0
    case neg =>
      have ha2 : decide ((a : Int) = 0) = false := by simp; omega
      have e : V = false := by rw [hV]; simp [bareF, *]
      clear hV
      go_enter Tryd.func38, Tryd.ntmps38
      go_wp2_with fail
      go_ret
      exact ⟨by rw [e]; first | rfl | (simp; done) | (simp; omega), hW.alloc hW.size _⟩
    subst ha
    by_cases hb : b = 0
    case neg =>
      have hb2 : decide ((b : Int) = 0) = false := by simp; omega
      have e : V = false := by rw [hV]; simp [bareF, *]
      clear hV
      go_enter Tryd.func38, Tryd.ntmps38
      go_wp2_with fail
      go_ret
      exact ⟨by rw [e]; first | rfl | (simp; done) | (simp; omega), hW.alloc hW.size _⟩
    subst hb
    have e : V = true := by rw [hV]; simp [bareF, *]
    clear hV
    go_enter Tryd.func38, Tryd.ntmps38
    go_wp2_with fail
    go_ret
    exact ⟨by rw [e]; first | rfl | (simp; done) | (simp; omega), hW.alloc hW.size _⟩
  by_cases h6 : k = 6
  · subst h6
    by_cases hn : num = 0
    case neg =>
      have e : V = false := by rw [hV]; simp [bareF, *]
      clear hV
      go_enter Tryd.func38, Tryd.ntmps38
      go_wp2_with fail
      go_ret
      exact ⟨by rw [e]; first | rfl | (simp; done) | (simp; omega), hW.alloc hW.size _⟩
    subst hn
    by_cases ht : t = ⟨#[]⟩
    case neg =>
      have ht2 : decide (t = ⟨#[]⟩) = false := decide_eq_false ht
      have ht3 : ¬ t.toList = [] := fun h => ht (by cases t with | mk d => rw [ByteArray.toList_eq] at h; simp at h; rw [h])
      have ht4 : t.toList.isEmpty = false := by simp [ht3]
      have e : V = false := by rw [hV]; simp [bareF, *]
      clear hV
      go_enter Tryd.func38, Tryd.ntmps38
      go_wp2_with fail
      go_ret
      exact ⟨by rw [e]; first | rfl | (simp; done) | (simp; omega), hW.alloc hW.size _⟩
    have ht3 : t.toList = [] := by rw [ht, ByteArray.toList_eq]
    have ht4 : t.toList.isEmpty = true := by rw [ht3]; rfl
    by_cases ha : a = 0
    case neg =>
      have ha2 : decide ((a : Int) = 0) = false := by simp; omega
      have e : V = false := by rw [hV]; simp [bareF, *]
      clear hV
      go_enter Tryd.func38, Tryd.ntmps38
      go_wp2_with fail
      go_ret
      exact ⟨by rw [e]; first | rfl | (simp; done) | (simp; omega), hW.alloc hW.size _⟩
    subst ha
    have e : V = true := by rw [hV]; simp [bareF, *]
    clear hV
    go_enter Tryd.func38, Tryd.ntmps38
    go_wp2_with fail
    go_ret
    exact ⟨by rw [e]; first | rfl | (simp; done) | (simp; omega), hW.alloc hW.size _⟩
  by_cases h7 : k = 7
  · subst h7
    by_cases hn : num = 0
    case neg =>
      have e : V = false := by rw [hV]; simp [bareF, *]
      clear hV
      go_enter Tryd.func38, Tryd.ntmps38
      go_wp2_with fail
      go_ret
      exact ⟨by rw [e]; first | rfl | (simp; done) | (simp; omega), hW.alloc hW.size _⟩
    subst hn
    by_cases ht : t = ⟨#[]⟩
    case neg =>
      have ht2 : decide (t = ⟨#[]⟩) = false := decide_eq_false ht
      have ht3 : ¬ t.toList = [] := fun h => ht (by cases t with | mk d => rw [ByteArray.toList_eq] at h; simp at h; rw [h])
      have ht4 : t.toList.isEmpty = false := by simp [ht3]
      have e : V = false := by rw [hV]; simp [bareF, *]
      clear hV
      go_enter Tryd.func38, Tryd.ntmps38
      go_wp2_with fail
      go_ret
      exact ⟨by rw [e]; first | rfl | (simp; done) | (simp; omega), hW.alloc hW.size _⟩
    have ht3 : t.toList = [] := by rw [ht, ByteArray.toList_eq]
    have ht4 : t.toList.isEmpty = true := by rw [ht3]; rfl
    have e : V = true := by rw [hV]; simp [bareF, *]
    clear hV
    go_enter Tryd.func38, Tryd.ntmps38
    go_wp2_with fail
    go_ret
    exact ⟨by rw [e]; first | rfl | (simp; done) | (simp; omega), hW.alloc hW.size _⟩
  by_cases hn : num = 0
  case neg =>
    have e : V = false := by rw [hV]; simp [bareF, *]
    clear hV
    go_enter Tryd.func38, Tryd.ntmps38
    go_wp2_with fail
    go_ret
    exact ⟨by rw [e]; first | rfl | (simp; done) | (simp; omega), hW.alloc hW.size _⟩
  subst hn
  by_cases ht : t = ⟨#[]⟩
  case neg =>
    have ht2 : decide (t = ⟨#[]⟩) = false := decide_eq_false ht
    have ht3 : ¬ t.toList = [] := fun h => ht (by cases t with | mk d => rw [ByteArray.toList_eq] at h; simp at h; rw [h])
    have ht4 : t.toList.isEmpty = false := by simp [ht3]
    have e : V = false := by rw [hV]; simp [bareF, *]
    clear hV
    go_enter Tryd.func38, Tryd.ntmps38
    go_wp2_with fail
    go_ret
    exact ⟨by rw [e]; first | rfl | (simp; done) | (simp; omega), hW.alloc hW.size _⟩
  have ht3 : t.toList = [] := by rw [ht, ByteArray.toList_eq]
  have ht4 : t.toList.isEmpty = true := by rw [ht3]; rfl
  by_cases ha : a = 0
  case neg =>
    have ha2 : decide ((a : Int) = 0) = false := by simp; omega
    have e : V = false := by rw [hV]; simp [bareF, *]
    clear hV
    go_enter Tryd.func38, Tryd.ntmps38
    go_wp2_with fail
    go_ret
    exact ⟨by rw [e]; first | rfl | (simp; done) | (simp; omega), hW.alloc hW.size _⟩
  subst ha
  by_cases hb : b = 0
  case neg =>
    have hb2 : decide ((b : Int) = 0) = false := by simp; omega
    have e : V = false := by rw [hV]; simp [bareF, *]
    clear hV
    go_enter Tryd.func38, Tryd.ntmps38
    go_wp2_with fail
    go_ret
    exact ⟨by rw [e]; first | rfl | (simp; done) | (simp; omega), hW.alloc hW.size _⟩
  subst hb
  have e : V = true := by rw [hV]; simp [bareF, *]
  clear hV
  go_enter Tryd.func38, Tryd.ntmps38
  go_wp2_with fail
  go_ret
  exact ⟨by rw [e]; first | rfl | (simp; done) | (simp; omega), hW.alloc hW.size _⟩
end Go.Proofs.YtjigceoponlphaaDoor
/-! Whether a node may stand within so many others: as a plain function. -/
namespace Go.Proofs.YtjigceoponlphaaDoor
open Go.RowKit Go.PlainAid
set_option linter.unusedVariables false
set_option linter.unusedSimpArgs false
mutual
/-- whether a node may stand within so many others -/
noncomputable def rightN (most : Int) (nest : Int) : Nd → Int → Bool
  | .mk k num t ks ns, deep => bareF k num t ks.length ns.length &&
    (k == 1 || k == 2 || k == 3 || (k == 4 && decide (-most ≤ num ∧ num ≤ most)) || (k == 5 && validB t.toList) ||
      ((k == 6 || k == 7) && decide (deep < nest) && (k == 6 || (decide (ks.length = ns.length) && keysB ks)) && rightL most nest ns (deep + 1)))
noncomputable def rightL (most : Int) (nest : Int) : List Nd → Int → Bool
  | [], _ => true
  | n :: ns, deep => rightN most nest n deep && rightL most nest ns deep
end
theorem rightL_all (most nest : Int) (ns : List Nd) (deep : Int) : rightL most nest ns deep = ns.all (fun n => rightN most nest n deep) := by
  induction ns with
  | nil => unfold rightL; rfl
  | cons n ns ih => unfold rightL; rw [ih]; rfl
theorem rightL_bad (most nest : Int) (ns : List Nd) (deep : Int) (i : Nat) (n : Nd) (h : ns[i]? = some n) (hb : rightN most nest n deep = false) : rightL most nest ns deep = false := by
  rw [rightL_all, List.all_eq_false]
  exact ⟨n, List.mem_of_getElem? h, by simp [hb]⟩
end Go.Proofs.YtjigceoponlphaaDoor
/-! The walk of canon's right. -/
namespace Go.Proofs.YtjigceoponlphaaDoor
open Go.RowKit Go.PlainAid
set_option linter.unusedVariables false
set_option linter.unusedSimpArgs false
noncomputable def rightD (n : Nd) (deep : Int) : Bool := rightN 9007199254740991 24 n deep
noncomputable def rightLD (ns : List Nd) (deep : Int) : Bool := rightL 9007199254740991 24 ns deep
theorem rightLD_nil (deep : Int) : rightLD [] deep = true := by unfold rightLD rightL; rfl
theorem rightLD_at (ns : List Nd) (i : Nat) (n : Nd) (deep : Int) (h : ns[i]? = some n) : rightLD (ns.drop i) deep = (rightD n deep && rightLD (ns.drop (i + 1)) deep) := by
  rw [List.drop_eq_getElem_cons (List.getElem?_eq_some_iff.1 h).1, (List.getElem?_eq_some_iff.1 h).2]
  unfold rightLD rightD
  conv => lhs; unfold rightL
def RightC (vs : Array Value) (deep : Int) (b : Bool) (w : World) : Prop := Calls Tryd.prog 23 #[.agg vs, .int .i64 deep] w (BoolBel b w)
def OddC (vs : Array Value) (p : Addr) (b : Bool) (w : World) : Prop := Calls Tryd.prog 42 #[.agg vs, .pointer (some p)] w (BoolBel b w)
set_option maxRecDepth 100000 in
set_option maxHeartbeats 1000000 in
theorem cright1_any (n : Nd) (cs : List Value) (w : World) (B : Nat) (deep : Int) (p : Addr) (hn : NdIs w B n cs) (hB : B ≤ w.heap.size) (hc : w.cell? p = some (.int .i64 deep)) (hp : p.block < w.heap.size) (d0 : 0 ≤ deep) (d1 : deep < 24)
    (HIH : Hid (∀ w', NdIs w' B n cs → B ≤ w'.heap.size → RightC cs.toArray (deep + 1) (rightD n (deep + 1)) w')) : OddC cs.toArray p (!rightD n (deep + 1)) w := by
  have hl := hn.len
  match cs, hl with
  | [v0, v1, v2, v3, v4], _ =>
    have hW := Below.refl w.heap.size w
    have HC : Hid (∀ w', Below w.heap.size w w' → RightC #[v0, v1, v2, v3, v4] (deep + 1) (rightD n (deep + 1)) w') := fun w' hb => HIH.out w' (hn.below (hb.mono hB)) (by have := hb.size; omega)
    obtain ⟨x0, x1, x2, x3, x4, x5, x6, x7, x8, rfl, rfl, rfl, rfl, rfl⟩ := hn.form
    show Calls Tryd.prog 42 #[.agg #[_, _, _, _, _], .pointer (some p)] w (BoolBel _ w)
    have hne : ¬ p.block = w.heap.size := by omega
    clear hn
    generalize rightD n (deep + 1) = V at *
    go_enter Tryd.func42, Tryd.ntmps42
    go_wp2_with fail
    refine (HC.out _ (hW.alloc (Nat.le_refl _) _)).mono ?_; rintro e w1 ⟨rfl, hw1⟩
    go_wp2_with fail
    go_ret
    exact ⟨rfl, nextA hW hw1⟩
def IdxPost (b : Bool) (w : World) (e : Ending) (w' : World) : Prop := ∃ v : Int, e = .returned (.int .i64 v) ∧ decide (0 ≤ v) = !b ∧ Below w.heap.size w w'
set_option maxRecDepth 100000 in
set_option maxHeartbeats 1000000 in
theorem sIndexFunc_right (ns : List Nd) (A : Option Addr) (cc : Nat) (xs : List Value) (w : World) (B : Nat) (deep : Int) (p : Addr) (hxs : Reads w B 5 A ns.length xs) (hns : NdsIs w B ns xs) (hB : B ≤ w.heap.size) (hk : ns.length ≤ 9223372036854775807)
    (hc : w.cell? p = some (.int .i64 deep)) (hp : p.block < w.heap.size) (d0 : 0 ≤ deep) (d1 : deep < 24)
    (HIH : Hid (∀ (i : Nat) (n : Nd) (cs : List Value) (w' : World), ns[i]? = some n → NdIs w' B n cs → B ≤ w'.heap.size → RightC cs.toArray (deep + 1) (rightD n (deep + 1)) w')) :
    Calls Tryd.prog 51 #[.slice A ns.length cc, .func (.func 42) #[] #[.pointer (some p)]] w (IdxPost (rightLD ns (deep + 1)) w) := by
  have hW := Below.refl w.heap.size w
  obtain ⟨V, hV⟩ : ∃ V, V = rightLD ns (deep + 1) := ⟨_, rfl⟩
  rw [← hV]
  have HV : Hid (V = rightLD (ns.drop 0) (deep + 1)) := hV
  have HXS := Lib.hid hxs
  have HNS := Lib.hid hns
  have HD : Hid (0 ≤ deep ∧ deep < 24) := ⟨d0, d1⟩
  have HC := Lib.hid hc
  clear hxs hns hV d0 d1 hc
  go_enter Tryd.func51, Tryd.ntmps51
  go_wp2_with fail
  go_loopw [8] (fun t wr => ∃ (i : Nat), i ≤ ns.length ∧ t = .int .i64 i ∧ Hid (V = rightLD (ns.drop i) (deep + 1)) ∧ Below w.heap.size w wr) (fun t _ => ns.length - (intOf t).toNat)
  case atStart => exact ⟨0, by omega, rfl, HV, hW⟩
  case round =>
    clear hW
    obtain ⟨i, hi, rfl, hv, hW⟩ := hrel
    obtain ⟨wo, rfl⟩ : ∃ wo : World, wo = wr := ⟨_, rfl⟩
    have hsz := hW.size
    by_cases hlt : i < ns.length
    · have hkeep : ∀ p : Addr, p.block < B → wo.cell? p = w.cell? p := fun p hp => hW.cell (by omega)
      obtain ⟨ad, n, v0, v1, v2, v3, v4, rfl, hadb, hni, hnd, e0, e1, e2, e3, e4⟩ := (HXS.out.keep hkeep).nd (NdsIs.keep hkeep _ _ HNS.out) hlt
      have HSTEP := Lib.hid (rightLD_at ns i n (deep + 1) hni)
      have HO : Hid (∀ w', Below wo.heap.size wo w' → OddC #[v0, v1, v2, v3, v4] p (!rightD n (deep + 1)) w') := fun w' hb =>
        cright1_any n [v0, v1, v2, v3, v4] w' B deep p (hnd.below (hb.mono (by omega))) (by have := hb.size; omega) ((hb.cell (by omega)).trans ((hW.cell hp).trans HC.out)) (by have := hb.size; omega) HD.out.1 HD.out.2
          (fun w'' h1 h2 => HIH.out i n [v0, v1, v2, v3, v4] w'' hni h1 h2)
      have HNI := Lib.hid hni
      clear hni hnd hkeep
      generalize rightD n (deep + 1) = b at *
      go_wp2_with fail
      refine (HO.out _ (Below.refl _ _)).mono ?_; rintro e w1 ⟨rfl, hw1⟩
      cases b with
      | false =>
        have HE : Hid (V = false) := by show _ = _; rw [hv.out, HSTEP.out]; rfl
        go_wp2_with fail
        go_ret
        exact ⟨_, rfl, by rw [HE.out]; simp, hW.trans (hw1.mono hsz)⟩
      | true =>
        have HE : Hid (V = rightLD (ns.drop (i + 1)) (deep + 1)) := by show _ = _; rw [hv.out, HSTEP.out]; rfl
        go_wp2_with fail
        go_roundw
        case rel => exact ⟨i + 1, by omega, by go_num, HE, hW.trans (hw1.mono hsz)⟩
        case measure => simp [intOf]; omega
    · have HE : Hid (V = true) := by
        show _ = _
        rw [hv.out, List.drop_eq_nil_of_le (by omega), rightLD_nil]
      go_wp2_with fail
      go_ret
      exact ⟨_, rfl, by rw [HE.out]; rfl, hW⟩
end Go.Proofs.YtjigceoponlphaaDoor
/-! The walk of canon's right: the induction. -/
namespace Go.Proofs.YtjigceoponlphaaDoor
open Go.RowKit Go.PlainAid
set_option linter.unusedVariables false
set_option linter.unusedSimpArgs false
set_option maxRecDepth 100000 in
set_option maxHeartbeats 1000000 in
theorem sContainsFunc_right (ns : List Nd) (A : Option Addr) (cc : Nat) (xs : List Value) (w : World) (B : Nat) (deep : Int) (p : Addr) (hxs : Reads w B 5 A ns.length xs) (hns : NdsIs w B ns xs) (hB : B ≤ w.heap.size) (hk : ns.length ≤ 9223372036854775807)
    (hc : w.cell? p = some (.int .i64 deep)) (hp : p.block < w.heap.size) (d0 : 0 ≤ deep) (d1 : deep < 24)
    (HIH : Hid (∀ (i : Nat) (n : Nd) (cs : List Value) (w' : World), ns[i]? = some n → NdIs w' B n cs → B ≤ w'.heap.size → RightC cs.toArray (deep + 1) (rightD n (deep + 1)) w')) :
    Calls Tryd.prog 41 #[.slice A ns.length cc, .func (.func 42) #[] #[.pointer (some p)]] w (BoolBel (!rightLD ns (deep + 1)) w) := by
  have HC := Lib.hid (sIndexFunc_right ns A cc xs w B deep p hxs hns hB hk hc hp d0 d1 HIH)
  clear hxs hns hc d0 d1 HIH
  generalize rightLD ns (deep + 1) = V at *
  go_enter Tryd.func41, Tryd.ntmps41
  go_wp2_with fail
  refine HC.out.mono ?_; rintro e w1 ⟨v, rfl, hv, hw1⟩
  go_wp2_with fail
  go_ret
  exact ⟨by first | rfl | (rw [← hv]), hw1⟩
def RightHyp (B : Nat) (ns : List Nd) : Prop := ∀ (i : Nat) (n : Nd) (cs : List Value) (w' : World) (deep : Int), ns[i]? = some n → NdIs w' B n cs → B ≤ w'.heap.size → 0 ≤ deep → deep ≤ 24 → RightC cs.toArray deep (rightD n deep) w'
set_option maxRecDepth 100000 in
set_option maxHeartbeats 3000000 in
theorem cright_step (k num : Int) (t : ByteArray) (ks : List ByteArray) (ns : List Nd) (A A2 : Option Addr) (ck cc : Nat) (xs : List Value) (w : World) (B : Nat) (deep : Int)
    (hks : Reads w B 1 A ks.length (ks.map Value.string)) (hxs : Reads w B 5 A2 ns.length xs) (hns : NdsIs w B ns xs) (ht : t.size ≤ 9223372036854775807) (hsz : ∀ s ∈ ks, s.size ≤ 9223372036854775807) (hk1 : ks.length ≤ 9223372036854775807) (hk2 : ns.length ≤ 9223372036854775807)
    (hB : B ≤ w.heap.size) (d0 : 0 ≤ deep) (d1 : deep ≤ 24) (HIH : Hid (RightHyp B ns)) :
    Calls Tryd.prog 23 #[.agg #[.int .i64 k, .int .i64 num, .string t, .slice A ks.length ck, .slice A2 ns.length cc], .int .i64 deep] w (BoolBel (rightD (.mk k num t ks ns) deep) w) := by
  have hW := Below.refl w.heap.size w
  have HV : Hid (rightD (.mk k num t ks ns) deep = (bareF k num t ks.length ns.length &&
    (k == 1 || k == 2 || k == 3 || (k == 4 && decide (-9007199254740991 ≤ num ∧ num ≤ 9007199254740991)) || (k == 5 && validB t.toList) ||
      ((k == 6 || k == 7) && decide (deep < 24) && (k == 6 || (decide (ks.length = ns.length) && keysB ks)) && rightLD ns (deep + 1))))) := by
    show _ = _
    unfold rightLD rightD
    conv => lhs; unfold rightN
  generalize rightD (.mk k num t ks ns) deep = V at *
  have hA : Below w.heap.size w ((w.alloc (.cells #[.int .i64 k, .int .i64 num, .string t, .slice A ks.length ck, .slice A2 ns.length cc] 25)).alloc (.cells #[.int .i64 deep] 3)) := (hW.alloc hW.size _).alloc (by simp) _
  have HKC : Hid (∀ w', Below w.heap.size w w' → Calls Tryd.prog 40 #[.slice A ks.length ck] w' fun e w'' => e = .returned (.bool (keysB ks)) ∧ Below w'.heap.size w' w'') := fun w' hb =>
    keys_any ks A ck B w' (hks.keep fun p hp => hb.cell (by omega)) hsz hk1 (by have := hb.size; omega)
  have HVC : Hid (∀ w' : World, Calls Tryd.prog 39 #[.string t] w' fun e w'' => e = .returned (.bool (validB t.toList)) ∧ Below w'.heap.size w' w'') := fun w' => valid_any t w' ht
  have HCC : Hid (∀ w' p, deep < 24 → Below w.heap.size w w' → w'.cell? p = some (.int .i64 deep) → p.block < w'.heap.size → Calls Tryd.prog 41 #[.slice A2 ns.length cc, .func (.func 42) #[] #[.pointer (some p)]] w' (BoolBel (!rightLD ns (deep + 1)) w')) := fun w' p hd hb hc hp =>
    sContainsFunc_right ns A2 cc xs w' B deep p (hxs.keep fun p hp => hb.cell (by omega)) (NdsIs.keep (fun p hp => hb.cell (by omega)) _ _ hns) (by have := hb.size; omega) hk2 hc hp d0 hd
      (fun i n cs w'' h1 h2 h3 => HIH.out i n cs w'' (deep + 1) h1 h2 h3 (by omega) (by omega))
  have HBC : Hid (∀ w' : World, Calls Tryd.prog 38 #[.agg #[.int .i64 k, .int .i64 num, .string t, .slice A ks.length ck, .slice A2 ns.length cc]] w' fun e w'' => e = .returned (.bool (bareF k num t ks.length ns.length)) ∧ Below w'.heap.size w' w'') := fun w' =>
    bare_any k num t A A2 ks.length ns.length ck cc w'
  clear hks hxs hns hsz HIH
  generalize hvl : validB t.toList = vl at *
  generalize hkb : keysB ks = kb at *
  generalize hrl : rightLD ns (deep + 1) = rl at *
  clear hvl hkb hrl
  cases hb : bareF k num t ks.length ns.length with
  | false =>
    have HE : Hid (V = false) := by show _ = _; rw [HV.out, hb]; rfl
    rw [hb] at HBC
    clear HV hb
    go_enter Tryd.func23, Tryd.ntmps23
    go_wp2_with fail
    refine (HBC.out _).mono ?_; rintro e w1 ⟨rfl, hw1⟩
    go_wp2_with fail
    go_ret
    exact ⟨by rw [HE.out]; rfl, hA.trans (hw1.mono (by simp; omega))⟩
  | true =>
  rw [hb] at HBC HV
  clear hb
  by_cases h1 : k = 1
  · subst h1
    have HE : Hid (V = true) := by show _ = _; rw [HV.out]; simp
    clear HV
    go_enter Tryd.func23, Tryd.ntmps23
    go_wp2_with fail
    refine (HBC.out _).mono ?_; rintro e w1 ⟨rfl, hw1⟩
    have hW1 := hA.trans (hw1.mono (by simp; omega))
    have c0 : w1.cell? ⟨w.heap.size, 0, none⟩ = some (.int .i64 1) := (hw1.cell (by simp; omega)).trans (by simp [go_sem])
    have c1 : w1.cell? ⟨w.heap.size, 1, none⟩ = some (.int .i64 num) := (hw1.cell (by simp; omega)).trans (by simp [go_sem])
    have c2 : w1.cell? ⟨w.heap.size, 2, none⟩ = some (.string t) := (hw1.cell (by simp; omega)).trans (by simp [go_sem])
    have c3 : w1.cell? ⟨w.heap.size, 3, none⟩ = some (.slice A ks.length ck) := (hw1.cell (by simp; omega)).trans (by simp [go_sem])
    have c4 : w1.cell? ⟨w.heap.size, 4, none⟩ = some (.slice A2 ns.length cc) := (hw1.cell (by simp; omega)).trans (by simp [go_sem])
    have cd : w1.cell? ⟨w.heap.size + 1, 0, none⟩ = some (.int .i64 deep) := (hw1.cell (by simp)).trans (by simp [go_sem])
    have hs1 : w.heap.size + 2 ≤ w1.heap.size := by have := hw1.size; simp at this; omega
    go_wp2_with fail
    go_ret
    exact ⟨by rw [HE.out]; rfl, hW1⟩
  by_cases h2 : k = 2
  · subst h2
    have HE : Hid (V = true) := by show _ = _; rw [HV.out]; simp
    clear HV
    go_enter Tryd.func23, Tryd.ntmps23
    go_wp2_with fail
    refine (HBC.out _).mono ?_; rintro e w1 ⟨rfl, hw1⟩
    have hW1 := hA.trans (hw1.mono (by simp; omega))
    have c0 : w1.cell? ⟨w.heap.size, 0, none⟩ = some (.int .i64 2) := (hw1.cell (by simp; omega)).trans (by simp [go_sem])
    have c1 : w1.cell? ⟨w.heap.size, 1, none⟩ = some (.int .i64 num) := (hw1.cell (by simp; omega)).trans (by simp [go_sem])
    have c2 : w1.cell? ⟨w.heap.size, 2, none⟩ = some (.string t) := (hw1.cell (by simp; omega)).trans (by simp [go_sem])
    have c3 : w1.cell? ⟨w.heap.size, 3, none⟩ = some (.slice A ks.length ck) := (hw1.cell (by simp; omega)).trans (by simp [go_sem])
    have c4 : w1.cell? ⟨w.heap.size, 4, none⟩ = some (.slice A2 ns.length cc) := (hw1.cell (by simp; omega)).trans (by simp [go_sem])
    have cd : w1.cell? ⟨w.heap.size + 1, 0, none⟩ = some (.int .i64 deep) := (hw1.cell (by simp)).trans (by simp [go_sem])
    have hs1 : w.heap.size + 2 ≤ w1.heap.size := by have := hw1.size; simp at this; omega
    go_wp2_with fail
    go_ret
    exact ⟨by rw [HE.out]; rfl, hW1⟩
  by_cases h3 : k = 3
  · subst h3
    have HE : Hid (V = true) := by show _ = _; rw [HV.out]; simp
    clear HV
    go_enter Tryd.func23, Tryd.ntmps23
    go_wp2_with fail
    refine (HBC.out _).mono ?_; rintro e w1 ⟨rfl, hw1⟩
    have hW1 := hA.trans (hw1.mono (by simp; omega))
    have c0 : w1.cell? ⟨w.heap.size, 0, none⟩ = some (.int .i64 3) := (hw1.cell (by simp; omega)).trans (by simp [go_sem])
    have c1 : w1.cell? ⟨w.heap.size, 1, none⟩ = some (.int .i64 num) := (hw1.cell (by simp; omega)).trans (by simp [go_sem])
    have c2 : w1.cell? ⟨w.heap.size, 2, none⟩ = some (.string t) := (hw1.cell (by simp; omega)).trans (by simp [go_sem])
    have c3 : w1.cell? ⟨w.heap.size, 3, none⟩ = some (.slice A ks.length ck) := (hw1.cell (by simp; omega)).trans (by simp [go_sem])
    have c4 : w1.cell? ⟨w.heap.size, 4, none⟩ = some (.slice A2 ns.length cc) := (hw1.cell (by simp; omega)).trans (by simp [go_sem])
    have cd : w1.cell? ⟨w.heap.size + 1, 0, none⟩ = some (.int .i64 deep) := (hw1.cell (by simp)).trans (by simp [go_sem])
    have hs1 : w.heap.size + 2 ≤ w1.heap.size := by have := hw1.size; simp at this; omega
    go_wp2_with fail
    go_ret
    exact ⟨by rw [HE.out]; rfl, hW1⟩
  by_cases h4 : k = 4
  · subst h4
    cases e1 : decide (-9007199254740991 ≤ num) with
    | false =>
      have HE : Hid (V = false) := by show _ = _; rw [HV.out]; (have h9 := of_decide_eq_false e1); simp; intro h; exact absurd h h9
      clear HV
      go_enter Tryd.func23, Tryd.ntmps23
      go_wp2_with fail
      refine (HBC.out _).mono ?_; rintro e w1 ⟨rfl, hw1⟩
      have hW1 := hA.trans (hw1.mono (by simp; omega))
      have c0 : w1.cell? ⟨w.heap.size, 0, none⟩ = some (.int .i64 4) := (hw1.cell (by simp; omega)).trans (by simp [go_sem])
      have c1 : w1.cell? ⟨w.heap.size, 1, none⟩ = some (.int .i64 num) := (hw1.cell (by simp; omega)).trans (by simp [go_sem])
      have c2 : w1.cell? ⟨w.heap.size, 2, none⟩ = some (.string t) := (hw1.cell (by simp; omega)).trans (by simp [go_sem])
      have c3 : w1.cell? ⟨w.heap.size, 3, none⟩ = some (.slice A ks.length ck) := (hw1.cell (by simp; omega)).trans (by simp [go_sem])
      have c4 : w1.cell? ⟨w.heap.size, 4, none⟩ = some (.slice A2 ns.length cc) := (hw1.cell (by simp; omega)).trans (by simp [go_sem])
      have cd : w1.cell? ⟨w.heap.size + 1, 0, none⟩ = some (.int .i64 deep) := (hw1.cell (by simp)).trans (by simp [go_sem])
      have hs1 : w.heap.size + 2 ≤ w1.heap.size := by have := hw1.size; simp at this; omega
      go_wp2_with fail
      go_ret
      exact ⟨by rw [HE.out]; rfl, hW1⟩
    | true =>
    cases e2 : decide (num ≤ 9007199254740991) with
    | false =>
      have HE : Hid (V = false) := by show _ = _; rw [HV.out]; (have h9 := of_decide_eq_false e2); simp; intro h; omega
      clear HV
      go_enter Tryd.func23, Tryd.ntmps23
      go_wp2_with fail
      refine (HBC.out _).mono ?_; rintro e w1 ⟨rfl, hw1⟩
      have hW1 := hA.trans (hw1.mono (by simp; omega))
      have c0 : w1.cell? ⟨w.heap.size, 0, none⟩ = some (.int .i64 4) := (hw1.cell (by simp; omega)).trans (by simp [go_sem])
      have c1 : w1.cell? ⟨w.heap.size, 1, none⟩ = some (.int .i64 num) := (hw1.cell (by simp; omega)).trans (by simp [go_sem])
      have c2 : w1.cell? ⟨w.heap.size, 2, none⟩ = some (.string t) := (hw1.cell (by simp; omega)).trans (by simp [go_sem])
      have c3 : w1.cell? ⟨w.heap.size, 3, none⟩ = some (.slice A ks.length ck) := (hw1.cell (by simp; omega)).trans (by simp [go_sem])
      have c4 : w1.cell? ⟨w.heap.size, 4, none⟩ = some (.slice A2 ns.length cc) := (hw1.cell (by simp; omega)).trans (by simp [go_sem])
      have cd : w1.cell? ⟨w.heap.size + 1, 0, none⟩ = some (.int .i64 deep) := (hw1.cell (by simp)).trans (by simp [go_sem])
      have hs1 : w.heap.size + 2 ≤ w1.heap.size := by have := hw1.size; simp at this; omega
      go_wp2_with fail
      go_ret
      exact ⟨by rw [HE.out]; rfl, hW1⟩
    | true =>
      have HE : Hid (V = true) := by show _ = _; rw [HV.out]; simp [(by simpa using e1 : -9007199254740991 ≤ num), (by simpa using e2 : num ≤ 9007199254740991)]
      clear HV
      go_enter Tryd.func23, Tryd.ntmps23
      go_wp2_with fail
      refine (HBC.out _).mono ?_; rintro e w1 ⟨rfl, hw1⟩
      have hW1 := hA.trans (hw1.mono (by simp; omega))
      have c0 : w1.cell? ⟨w.heap.size, 0, none⟩ = some (.int .i64 4) := (hw1.cell (by simp; omega)).trans (by simp [go_sem])
      have c1 : w1.cell? ⟨w.heap.size, 1, none⟩ = some (.int .i64 num) := (hw1.cell (by simp; omega)).trans (by simp [go_sem])
      have c2 : w1.cell? ⟨w.heap.size, 2, none⟩ = some (.string t) := (hw1.cell (by simp; omega)).trans (by simp [go_sem])
      have c3 : w1.cell? ⟨w.heap.size, 3, none⟩ = some (.slice A ks.length ck) := (hw1.cell (by simp; omega)).trans (by simp [go_sem])
      have c4 : w1.cell? ⟨w.heap.size, 4, none⟩ = some (.slice A2 ns.length cc) := (hw1.cell (by simp; omega)).trans (by simp [go_sem])
      have cd : w1.cell? ⟨w.heap.size + 1, 0, none⟩ = some (.int .i64 deep) := (hw1.cell (by simp)).trans (by simp [go_sem])
      have hs1 : w.heap.size + 2 ≤ w1.heap.size := by have := hw1.size; simp at this; omega
      go_wp2_with fail
      go_ret
      exact ⟨by rw [HE.out]; rfl, hW1⟩
  by_cases h5 : k = 5
  · subst h5
    have HE : Hid (V = vl) := by show _ = _; rw [HV.out]; simp
    clear HV
    go_enter Tryd.func23, Tryd.ntmps23
    go_wp2_with fail
    refine (HBC.out _).mono ?_; rintro e w1 ⟨rfl, hw1⟩
    have hW1 := hA.trans (hw1.mono (by simp; omega))
    have c0 : w1.cell? ⟨w.heap.size, 0, none⟩ = some (.int .i64 5) := (hw1.cell (by simp; omega)).trans (by simp [go_sem])
    have c1 : w1.cell? ⟨w.heap.size, 1, none⟩ = some (.int .i64 num) := (hw1.cell (by simp; omega)).trans (by simp [go_sem])
    have c2 : w1.cell? ⟨w.heap.size, 2, none⟩ = some (.string t) := (hw1.cell (by simp; omega)).trans (by simp [go_sem])
    have c3 : w1.cell? ⟨w.heap.size, 3, none⟩ = some (.slice A ks.length ck) := (hw1.cell (by simp; omega)).trans (by simp [go_sem])
    have c4 : w1.cell? ⟨w.heap.size, 4, none⟩ = some (.slice A2 ns.length cc) := (hw1.cell (by simp; omega)).trans (by simp [go_sem])
    have cd : w1.cell? ⟨w.heap.size + 1, 0, none⟩ = some (.int .i64 deep) := (hw1.cell (by simp)).trans (by simp [go_sem])
    have hs1 : w.heap.size + 2 ≤ w1.heap.size := by have := hw1.size; simp at this; omega
    go_wp2_with fail
    refine (HVC.out _).mono ?_; rintro e w2 ⟨rfl, hw2⟩
    go_wp2_with fail
    go_ret
    exact ⟨by rw [HE.out]; rfl, hW1.trans (hw2.mono hW1.size)⟩
  by_cases h6 : k = 6
  · subst h6
    by_cases hd : 24 ≤ deep
    · have hd' : ¬ deep < 24 := by omega
      have HE : Hid (V = false) := by show _ = _; rw [HV.out]; simp [hd']
      clear HV
      go_enter Tryd.func23, Tryd.ntmps23
      go_wp2_with fail
      refine (HBC.out _).mono ?_; rintro e w1 ⟨rfl, hw1⟩
      have hW1 := hA.trans (hw1.mono (by simp; omega))
      have c0 : w1.cell? ⟨w.heap.size, 0, none⟩ = some (.int .i64 6) := (hw1.cell (by simp; omega)).trans (by simp [go_sem])
      have c1 : w1.cell? ⟨w.heap.size, 1, none⟩ = some (.int .i64 num) := (hw1.cell (by simp; omega)).trans (by simp [go_sem])
      have c2 : w1.cell? ⟨w.heap.size, 2, none⟩ = some (.string t) := (hw1.cell (by simp; omega)).trans (by simp [go_sem])
      have c3 : w1.cell? ⟨w.heap.size, 3, none⟩ = some (.slice A ks.length ck) := (hw1.cell (by simp; omega)).trans (by simp [go_sem])
      have c4 : w1.cell? ⟨w.heap.size, 4, none⟩ = some (.slice A2 ns.length cc) := (hw1.cell (by simp; omega)).trans (by simp [go_sem])
      have cd : w1.cell? ⟨w.heap.size + 1, 0, none⟩ = some (.int .i64 deep) := (hw1.cell (by simp)).trans (by simp [go_sem])
      have hs1 : w.heap.size + 2 ≤ w1.heap.size := by have := hw1.size; simp at this; omega
      go_wp2_with fail
      go_ret
      exact ⟨by rw [HE.out]; rfl, hW1⟩
    · have hd' : deep < 24 := by omega
      have HE : Hid (V = rl) := by show _ = _; rw [HV.out]; simp [hd']
      clear HV
      go_enter Tryd.func23, Tryd.ntmps23
      go_wp2_with fail
      refine (HBC.out _).mono ?_; rintro e w1 ⟨rfl, hw1⟩
      have hW1 := hA.trans (hw1.mono (by simp; omega))
      have c0 : w1.cell? ⟨w.heap.size, 0, none⟩ = some (.int .i64 6) := (hw1.cell (by simp; omega)).trans (by simp [go_sem])
      have c1 : w1.cell? ⟨w.heap.size, 1, none⟩ = some (.int .i64 num) := (hw1.cell (by simp; omega)).trans (by simp [go_sem])
      have c2 : w1.cell? ⟨w.heap.size, 2, none⟩ = some (.string t) := (hw1.cell (by simp; omega)).trans (by simp [go_sem])
      have c3 : w1.cell? ⟨w.heap.size, 3, none⟩ = some (.slice A ks.length ck) := (hw1.cell (by simp; omega)).trans (by simp [go_sem])
      have c4 : w1.cell? ⟨w.heap.size, 4, none⟩ = some (.slice A2 ns.length cc) := (hw1.cell (by simp; omega)).trans (by simp [go_sem])
      have cd : w1.cell? ⟨w.heap.size + 1, 0, none⟩ = some (.int .i64 deep) := (hw1.cell (by simp)).trans (by simp [go_sem])
      have hs1 : w.heap.size + 2 ≤ w1.heap.size := by have := hw1.size; simp at this; omega
      go_wp2_with fail
      refine (HCC.out _ _ hd' hW1 cd (by simp; omega)).mono ?_; rintro e w2 ⟨rfl, hw2⟩
      go_wp2_with fail
      go_ret
      exact ⟨by rw [HE.out]; simp, hW1.trans (hw2.mono hW1.size)⟩
  by_cases h7 : k = 7
  · subst h7
    by_cases hd : 24 ≤ deep
    · have hd' : ¬ deep < 24 := by omega
      have HE : Hid (V = false) := by show _ = _; rw [HV.out]; simp [hd']
      clear HV
      go_enter Tryd.func23, Tryd.ntmps23
      go_wp2_with fail
      refine (HBC.out _).mono ?_; rintro e w1 ⟨rfl, hw1⟩
      have hW1 := hA.trans (hw1.mono (by simp; omega))
      have c0 : w1.cell? ⟨w.heap.size, 0, none⟩ = some (.int .i64 7) := (hw1.cell (by simp; omega)).trans (by simp [go_sem])
      have c1 : w1.cell? ⟨w.heap.size, 1, none⟩ = some (.int .i64 num) := (hw1.cell (by simp; omega)).trans (by simp [go_sem])
      have c2 : w1.cell? ⟨w.heap.size, 2, none⟩ = some (.string t) := (hw1.cell (by simp; omega)).trans (by simp [go_sem])
      have c3 : w1.cell? ⟨w.heap.size, 3, none⟩ = some (.slice A ks.length ck) := (hw1.cell (by simp; omega)).trans (by simp [go_sem])
      have c4 : w1.cell? ⟨w.heap.size, 4, none⟩ = some (.slice A2 ns.length cc) := (hw1.cell (by simp; omega)).trans (by simp [go_sem])
      have cd : w1.cell? ⟨w.heap.size + 1, 0, none⟩ = some (.int .i64 deep) := (hw1.cell (by simp)).trans (by simp [go_sem])
      have hs1 : w.heap.size + 2 ≤ w1.heap.size := by have := hw1.size; simp at this; omega
      go_wp2_with fail
      go_ret
      exact ⟨by rw [HE.out]; rfl, hW1⟩
    have hd' : deep < 24 := by omega
    by_cases hl : ks.length = ns.length
    case neg =>
      have n4 : ((ks.length : Int) != (ns.length : Int)) = true := by rw [bne_iff_ne]; omega
      have HE : Hid (V = false) := by show _ = _; rw [HV.out]; simp [hl]
      clear HV
      go_enter Tryd.func23, Tryd.ntmps23
      go_wp2_with fail
      refine (HBC.out _).mono ?_; rintro e w1 ⟨rfl, hw1⟩
      have hW1 := hA.trans (hw1.mono (by simp; omega))
      have c0 : w1.cell? ⟨w.heap.size, 0, none⟩ = some (.int .i64 7) := (hw1.cell (by simp; omega)).trans (by simp [go_sem])
      have c1 : w1.cell? ⟨w.heap.size, 1, none⟩ = some (.int .i64 num) := (hw1.cell (by simp; omega)).trans (by simp [go_sem])
      have c2 : w1.cell? ⟨w.heap.size, 2, none⟩ = some (.string t) := (hw1.cell (by simp; omega)).trans (by simp [go_sem])
      have c3 : w1.cell? ⟨w.heap.size, 3, none⟩ = some (.slice A ks.length ck) := (hw1.cell (by simp; omega)).trans (by simp [go_sem])
      have c4 : w1.cell? ⟨w.heap.size, 4, none⟩ = some (.slice A2 ns.length cc) := (hw1.cell (by simp; omega)).trans (by simp [go_sem])
      have cd : w1.cell? ⟨w.heap.size + 1, 0, none⟩ = some (.int .i64 deep) := (hw1.cell (by simp)).trans (by simp [go_sem])
      have hs1 : w.heap.size + 2 ≤ w1.heap.size := by have := hw1.size; simp at this; omega
      go_wp2_with fail
      go_ret
      exact ⟨by rw [HE.out]; rfl, hW1⟩
    have n4 : ((ks.length : Int) != (ns.length : Int)) = false := by rw [bne_eq_false_iff_eq]; omega
    cases kb with
    | false =>
      have hl2 : decide (ks.length = ns.length) = true := decide_eq_true hl
      clear hl
      have HE : Hid (V = false) := by show _ = _; rw [HV.out]; simp
      clear HV
      go_enter Tryd.func23, Tryd.ntmps23
      go_wp2_with fail
      refine (HBC.out _).mono ?_; rintro e w1 ⟨rfl, hw1⟩
      have hW1 := hA.trans (hw1.mono (by simp; omega))
      have c0 : w1.cell? ⟨w.heap.size, 0, none⟩ = some (.int .i64 7) := (hw1.cell (by simp; omega)).trans (by simp [go_sem])
      have c1 : w1.cell? ⟨w.heap.size, 1, none⟩ = some (.int .i64 num) := (hw1.cell (by simp; omega)).trans (by simp [go_sem])
      have c2 : w1.cell? ⟨w.heap.size, 2, none⟩ = some (.string t) := (hw1.cell (by simp; omega)).trans (by simp [go_sem])
      have c3 : w1.cell? ⟨w.heap.size, 3, none⟩ = some (.slice A ks.length ck) := (hw1.cell (by simp; omega)).trans (by simp [go_sem])
      have c4 : w1.cell? ⟨w.heap.size, 4, none⟩ = some (.slice A2 ns.length cc) := (hw1.cell (by simp; omega)).trans (by simp [go_sem])
      have cd : w1.cell? ⟨w.heap.size + 1, 0, none⟩ = some (.int .i64 deep) := (hw1.cell (by simp)).trans (by simp [go_sem])
      have hs1 : w.heap.size + 2 ≤ w1.heap.size := by have := hw1.size; simp at this; omega
      go_wp2_with fail
      refine (HKC.out _ hW1).mono ?_; rintro e w2 ⟨rfl, hw2⟩
      go_wp2_with fail
      go_ret
      exact ⟨by rw [HE.out]; rfl, hW1.trans (hw2.mono hW1.size)⟩
    | true =>
      have hl2 : decide (ks.length = ns.length) = true := decide_eq_true hl
      clear hl
      have HE : Hid (V = rl) := by show _ = _; rw [HV.out]; simp [hd', hl2]
      clear HV
      go_enter Tryd.func23, Tryd.ntmps23
      go_wp2_with fail
      refine (HBC.out _).mono ?_; rintro e w1 ⟨rfl, hw1⟩
      have hW1 := hA.trans (hw1.mono (by simp; omega))
      have c0 : w1.cell? ⟨w.heap.size, 0, none⟩ = some (.int .i64 7) := (hw1.cell (by simp; omega)).trans (by simp [go_sem])
      have c1 : w1.cell? ⟨w.heap.size, 1, none⟩ = some (.int .i64 num) := (hw1.cell (by simp; omega)).trans (by simp [go_sem])
      have c2 : w1.cell? ⟨w.heap.size, 2, none⟩ = some (.string t) := (hw1.cell (by simp; omega)).trans (by simp [go_sem])
      have c3 : w1.cell? ⟨w.heap.size, 3, none⟩ = some (.slice A ks.length ck) := (hw1.cell (by simp; omega)).trans (by simp [go_sem])
      have c4 : w1.cell? ⟨w.heap.size, 4, none⟩ = some (.slice A2 ns.length cc) := (hw1.cell (by simp; omega)).trans (by simp [go_sem])
      have cd : w1.cell? ⟨w.heap.size + 1, 0, none⟩ = some (.int .i64 deep) := (hw1.cell (by simp)).trans (by simp [go_sem])
      have hs1 : w.heap.size + 2 ≤ w1.heap.size := by have := hw1.size; simp at this; omega
      go_wp2_with fail
      refine (HKC.out _ hW1).mono ?_; rintro e w2 ⟨rfl, hw2⟩
      have hW2 := hW1.trans (hw2.mono hW1.size)
      have g4 : w2.cell? ⟨w.heap.size, 4, none⟩ = some (.slice A2 ns.length cc) := (hw2.cell (by simp; omega)).trans c4
      have gd : w2.cell? ⟨w.heap.size + 1, 0, none⟩ = some (.int .i64 deep) := (hw2.cell (by simp; omega)).trans cd
      have hs2 := hw2.size
      go_wp2_with fail
      refine (HCC.out _ _ hd' hW2 gd (by simp; omega)).mono ?_; rintro e w3 ⟨rfl, hw3⟩
      go_wp2_with fail
      go_ret
      exact ⟨by rw [HE.out]; simp, hW2.trans (hw3.mono hW2.size)⟩
  have HE : Hid (V = false) := by show _ = _; rw [HV.out]; simp [h1, h2, h3, h4, h5, h6, h7]
  clear HV
  go_enter Tryd.func23, Tryd.ntmps23
  go_wp2_with fail
  refine (HBC.out _).mono ?_; rintro e w1 ⟨rfl, hw1⟩
  have hW1 := hA.trans (hw1.mono (by simp; omega))
  have c0 : w1.cell? ⟨w.heap.size, 0, none⟩ = some (.int .i64 k) := (hw1.cell (by simp; omega)).trans (by simp [go_sem])
  have c1 : w1.cell? ⟨w.heap.size, 1, none⟩ = some (.int .i64 num) := (hw1.cell (by simp; omega)).trans (by simp [go_sem])
  have c2 : w1.cell? ⟨w.heap.size, 2, none⟩ = some (.string t) := (hw1.cell (by simp; omega)).trans (by simp [go_sem])
  have c3 : w1.cell? ⟨w.heap.size, 3, none⟩ = some (.slice A ks.length ck) := (hw1.cell (by simp; omega)).trans (by simp [go_sem])
  have c4 : w1.cell? ⟨w.heap.size, 4, none⟩ = some (.slice A2 ns.length cc) := (hw1.cell (by simp; omega)).trans (by simp [go_sem])
  have cd : w1.cell? ⟨w.heap.size + 1, 0, none⟩ = some (.int .i64 deep) := (hw1.cell (by simp)).trans (by simp [go_sem])
  have hs1 : w.heap.size + 2 ≤ w1.heap.size := by have := hw1.size; simp at this; omega
  go_wp2_with fail
  go_ret
  exact ⟨by rw [HE.out]; rfl, hW1⟩
theorem cright_any : ∀ (m : Nat) (n : Nd), n.count ≤ m → ∀ (B : Nat) (cs : List Value) (w : World) (deep : Int), NdIs w B n cs → B ≤ w.heap.size → 0 ≤ deep → deep ≤ 24 → RightC cs.toArray deep (rightD n deep) w := by
  intro m
  induction m with
  | zero => intro n hm; have := n.count_pos; omega
  | succ m ih =>
    intro n hm B cs w deep hn hB d0 d1
    cases n with
    | mk k num t ks ns =>
      unfold NdIs at hn
      obtain ⟨A, ck, A2, cc, xs, rfl, hks, hxs, hns, ik, inn, ht, hkl, hk, hmm⟩ := hn
      unfold maxLen at *
      refine cright_step k num t ks ns A A2 ck cc xs w B deep hks hxs hns ht hkl hk hmm hB d0 d1 ?_
      intro i n cs w' deep h1 h2 h3 h4 h5
      refine ih n ?_ B cs w' deep h2 h3 h4 h5
      have := Nd.counts_get ns i n h1
      simp only [Nd.count] at hm; omega
/-- canon's Right -/
theorem CRight_any (n : Nd) (cs : List Value) (w : World) (B : Nat) (hn : NdIs w B n cs) (hB : B ≤ w.heap.size) : Calls Tryd.prog 14 #[.agg cs.toArray] w (BoolBel (rightD n 0) w) := by
  have hl := hn.len
  have hW := Below.refl w.heap.size w
  match cs, hl with
  | [v0, v1, v2, v3, v4], _ =>
    have HC : Hid (∀ w', Below w.heap.size w w' → RightC #[v0, v1, v2, v3, v4] 0 (rightD n 0) w') := fun w' hb =>
      cright_any n.count n (Nat.le_refl _) B [v0, v1, v2, v3, v4] w' 0 (hn.below (hb.mono (by omega))) (by have := hb.size; omega) (by omega) (by omega)
    obtain ⟨x0, x1, x2, x3, x4, x5, x6, x7, x8, rfl, rfl, rfl, rfl, rfl⟩ := hn.form
    show Calls Tryd.prog 14 #[.agg #[_, _, _, _, _]] w (BoolBel _ w)
    clear hn
    generalize rightD n 0 = W at *
    go_enter Tryd.func14, Tryd.ntmps14
    go_wp2_with fail
    refine (HC.out _ (hW.alloc hW.size _)).mono ?_; rintro e w1 ⟨rfl, hw1⟩
    go_wp2_with fail
    go_ret
    exact ⟨rfl, nextA hW hw1⟩
end Go.Proofs.YtjigceoponlphaaDoor
/-! The walk of canon's Print. -/
namespace Go.Proofs.YtjigceoponlphaaDoor
open Go.RowKit Go.PlainAid
set_option linter.unusedVariables false
set_option linter.unusedSimpArgs false
noncomputable def printS (n : Nd) : ByteArray := if rightD n 0 = false then ⟨#[]⟩ else if 65536 < (outN n []).length then ⟨#[]⟩ else ⟨(outN n []).toArray⟩
noncomputable def printE (n : Nd) : Int := if rightD n 0 = false then 1 else if 65536 < (outN n []).length then 2 else 0
def StrErr (s : ByteArray) (k : Int) (w : World) (e : Ending) (w' : World) : Prop := e = .returned (.tuple #[.string s, .int .i64 k]) ∧ Below w.heap.size w w'
theorem decDigits_ne (u : Nat) : Lib.decDigits u ≠ [] := by
  unfold Lib.decDigits
  split <;> simp
theorem itoa_ne (n : Int) : Lib.itoa n ≠ [] := by
  unfold Lib.itoa
  split
  · simp
  · exact decDigits_ne _
theorem outN_ne (n : Nd) : outN n [] ≠ [] := by
  cases n
  unfold outN
  rw [if_neg (by simp)]
  repeat' split
  all_goals first | (simp; done) | (simp only [List.nil_append]; exact itoa_ne _) | (simp only [List.nil_append]; unfold quoteU; simp)
theorem TabAt.more {B B' : Nat} {w : World} (h : TabAt B w) (hB : B ≤ B') : TabAt B' w := by
  obtain ⟨w0, h1, h2, h3⟩ := h
  exact ⟨w0, h1, by omega, h3⟩
theorem Bld.fresh (w : World) (B : Nat) (hB : B ≤ w.heap.size) : Bld B w.heap.size (Lib.byteCells []) (w.alloc (.cells #[.pointer none, .slice none 0 0] 44)) := by
  refine .inl ⟨hB, .slice none 0 0, heap_alloc_new w _, ?_, by simp [Value.ownBlock]⟩
  exact World.ownsRowF_of (World.ownsRow_nil _ B 5 1)
set_option maxRecDepth 100000 in
set_option maxHeartbeats 1000000 in
theorem CPrint_any (n : Nd) (cs : List Value) (w : World) (B : Nat) (hn : NdIs w B n cs) (hB : B ≤ w.heap.size) (hT : TabAt B w) (hg : rightD n 0 = true → goodN n) (hs : gN n ≤ 10000000000000) :
    Calls Tryd.prog 8 #[.agg cs.toArray] w (StrErr (printS n) (printE n) w) := by
  have hl := hn.len
  have hW := Below.refl w.heap.size w
  match cs, hl with
  | [v0, v1, v2, v3, v4], _ =>
    have HR : Hid (∀ w', Below w.heap.size w w' → Calls Tryd.prog 14 #[.agg #[v0, v1, v2, v3, v4]] w' (BoolBel (rightD n 0) w')) := fun w' hb =>
      CRight_any n [v0, v1, v2, v3, v4] w' B (hn.below (hb.mono hB)) (by have := hb.size; omega)
    have HN : Hid (∀ w' b, rightD n 0 = true → Below w.heap.size w w' → Bld w.heap.size b (Lib.byteCells []) w' → NodeC w.heap.size b #[v0, v1, v2, v3, v4] (outN n []) w') := fun w' b hr hb hbl =>
      Wnode_any n.count n (Nat.le_refl _) w.heap.size b [v0, v1, v2, v3, v4] [] w' (NdIs.more hB _ _ (hn.below (hb.mono hB))) hbl
        (by obtain ⟨w0, h1, h2, h3⟩ := hT; exact ⟨w0, h1, by omega, h3.trans (hb.mono (by omega))⟩) hb.size (hg hr) (by simp; omega)
    have hne := outN_ne n
    have HPS : Hid (printS n = if rightD n 0 = false then ⟨#[]⟩ else if 65536 < (outN n []).length then ⟨#[]⟩ else ⟨(outN n []).toArray⟩) := rfl
    have HPE : Hid (printE n = if rightD n 0 = false then 1 else if 65536 < (outN n []).length then 2 else 0) := rfl
    obtain ⟨x0, x1, x2, x3, x4, x5, x6, x7, x8, rfl, rfl, rfl, rfl, rfl⟩ := hn.form
    show Calls Tryd.prog 8 #[.agg #[_, _, _, _, _]] w (StrErr _ _ w)
    clear hn hT hg hs
    have hA : Below w.heap.size w (w.alloc (.cells #[.int .i64 x0, .int .i64 x1, .string x2, .slice x3 x4 x5, .slice x6 x7 x8] 25)) := hW.alloc hW.size _
    have HNE := Lib.hid hne
    clear hne
    generalize printS n = S at *
    generalize printE n = E at *
    generalize rightD n 0 = R at *
    generalize outN n [] = O at *
    cases R with
    | false =>
      have e1 : Hid (S = ⟨#[]⟩) := by show _ = _; rw [HPS.out, if_pos rfl]
      have e2 : Hid (E = 1) := by show _ = _; rw [HPE.out, if_pos rfl]
      clear HPS HPE
      go_enter Tryd.func8, Tryd.ntmps8
      go_wp2_with fail
      refine (HR.out _ hA).mono ?_; rintro e w1 ⟨rfl, hw1⟩
      go_wp2_with fail
      go_ret2
      exact ⟨by rw [e1.out, e2.out]; rfl, hA.trans (hw1.mono (by simp))⟩
    | true =>
      have hdec : decide (65536 < O.length) = true ∨ decide (65536 < O.length) = false := by cases decide (65536 < O.length) <;> simp
      have main : ∀ b : Bool, decide (65536 < O.length) = b → Hid (S = if b = true then ⟨#[]⟩ else ⟨O.toArray⟩) → Hid (E = if b = true then 2 else 0) → Calls Tryd.prog 8 #[.agg #[.int .i64 x0, .int .i64 x1, .string x2, .slice x3 x4 x5, .slice x6 x7 x8]] w (StrErr S E w) := by
        intro b hb e1 e2
        have HF : Hid (∀ w' c, Bld w.heap.size c (Lib.byteCells O) w' → Calls Tryd.prog 16 #[.pointer (some ⟨c, 0, none⟩)] w' fun e w'' => e = .returned (.bool b) ∧ w' = w'') := fun w' c h => by
          have := full_any w.heap.size c O w' h
          rw [hb] at this; exact this
        clear HPS HPE hdec hb
        go_enter Tryd.func8, Tryd.ntmps8
        go_wp2_with fail
        refine (HR.out _ hA).mono ?_; rintro e w1 ⟨rfl, hw1⟩
        have hW1 : Below w.heap.size w w1 := hA.trans (hw1.mono (by simp))
        have hx1 : Blk w1 w.heap.size 25 #[.int .i64 x0, .int .i64 x1, .string x2, .slice x3 x4 x5, .slice x6 x7 x8] := (Blk.new w _ _).below hw1 (by simp)
        have hz1 : w.heap.size < w1.heap.size := by have := hw1.size; simp at this; omega
        have hxa : Hid (Blk (w1.alloc (.cells #[.pointer none, .slice none 0 0] 44)) w.heap.size 25 #[.int .i64 x0, .int .i64 x1, .string x2, .slice x3 x4 x5, .slice x6 x7 x8]) := hx1.alloc _
        have c0 := hx1.cell 0
        have c1 := hx1.cell 1
        have c2 := hx1.cell 2
        have c3 := hx1.cell 3
        have c4 := hx1.cell 4
        simp at c0 c1 c2 c3 c4
        have HB := Lib.hid (Bld.fresh w1 w.heap.size (by omega))
        have HWA := Lib.hid (hW1.alloc hW1.size (.cells #[.pointer none, .slice none 0 0] 44))
        clear hx1
        go_wp2_with fail
        have HNC := HN.out _ _ (by trivial) HWA.out HB.out
        refine (HNC : Calls _ _ _ _ _).mono ?_; rintro e w2 ⟨rfl, n2, k2⟩
        have N2 := Lib.hid n2
        have hW2 := HWA.out.trans k2.1
        clear n2 HNC c0 c1 c2 c3 c4
        go_wp2_with fail
        refine (HF.out _ _ N2.out).mono ?_; rintro e w3 ⟨rfl, hw⟩; obtain rfl : _ = w3 := hw
        cases b with
        | true =>
          go_wp2_with fail
          go_ret2
          exact ⟨by rw [e1.out, e2.out]; rfl, hW2⟩
        | false =>
          go_wp2_with fail
          refine (String_any w.heap.size _ O _ N2.out HNE.out).mono ?_; rintro e w4 ⟨rfl, hw4⟩
          go_wp2_with fail
          go_ret2
          exact ⟨by rw [e1.out, e2.out]; rfl, hW2.trans hw4⟩
      rcases hdec with hb | hb
      · exact main true hb (by show _ = _; rw [HPS.out, if_neg (by simp), if_pos (of_decide_eq_true hb)]; rfl) (by show _ = _; rw [HPE.out, if_neg (by simp), if_pos (of_decide_eq_true hb)]; rfl)
      · exact main false hb (by show _ = _; rw [HPS.out, if_neg (by simp), if_neg (of_decide_eq_false hb)]; rfl) (by show _ = _; rw [HPE.out, if_neg (by simp), if_neg (of_decide_eq_false hb)]; rfl)
end Go.Proofs.YtjigceoponlphaaDoor
/-! The walk of the reference's quote. -/
namespace Go.Proofs.YtjigceoponlphaaDoor
open Go.RowKit Go.PlainAid
set_option linter.unusedVariables false
set_option linter.unusedSimpArgs false
def nums (l : List UInt8) : List Int := l.map fun c => (c.toNat : Int)
theorem nums_app (a b : List UInt8) : nums (a ++ b) = nums a ++ nums b := by simp [nums]
theorem nums_len (a : List UInt8) : (nums a).length = a.length := by simp [nums]
theorem strOfNums_nums (l : List UInt8) : strOfNums (nums l) = ⟨l.toArray⟩ := by
  unfold strOfNums nums
  congr 1
  apply Array.ext'
  simp [Function.comp_def]
def OwnU (w : World) (B : Nat) (v : Value) (l : List UInt8) : Prop := OwnB w B v (nums l)
theorem OwnU.nil (w : World) (B : Nat) : OwnU w B (.slice none 0 0) [] := OwnB.nil w B
/-- blocks below B, and blocks above that are no rows of bytes, are as they were -/
def KU (B : Nat) (w w' : World) : Prop := Below B w w' ∧ Lib.OthersKept 5 none w w'
theorem KU.refl (B : Nat) (w : World) : KU B w w := ⟨Below.refl _ _, Lib.OthersKept.refl _ _ _⟩
theorem KU.trans {B : Nat} {w w1 w2 : World} (h : KU B w w1) (k : KU B w1 w2) : KU B w w2 := ⟨h.1.trans k.1, h.2.trans k.2⟩
theorem KU.old {B : Nat} {w w' : World} (k : Below w.heap.size w w') (hB : B ≤ w.heap.size) : KU B w w' :=
  ⟨k.mono hB, fun i o hi _ _ => (k.block i (bldLt hi)).trans hi⟩
theorem KU.alloc {B : Nat} {w w' : World} (h : KU B w w') (hB : B ≤ w'.heap.size) (o : Obj) : KU B w (w'.alloc o) := ⟨h.1.alloc hB o, h.2.alloc o⟩
theorem KU.blk {B : Nat} {w w' : World} (h : KU B w w') {x : Nat} {cs : Array Value} (hx : Blk w x 25 cs) : Blk w' x 25 cs :=
  h.2 x _ hx (by simp) (fun c fz e => by injection e with _ e2; exact absurd e2 (by decide))
theorem KU.of_grown {B : Nat} {w w' : World} {v : Value} {l : List UInt8} (h : OwnU w B v l) (hB : B ≤ w.heap.size) (hg : w.grownBy w' v.ownBlock) : KU B w w' :=
  ⟨(Below.refl _ _).grown hg hB (fun k hk => (World.ownsRow.lt h k hk).1), (Lib.OthersKept.refl _ _ w).grown hg (Lib.ownsRow_kind h)⟩
theorem OwnU.old {B : Nat} {v : Value} {l : List UInt8} {w w' : World} (h : OwnU w B v l) (k : Below w.heap.size w w') : OwnU w' B v l := by
  have hg : w.grownBy w' none := ⟨k.os, k.tape, k.output, k.size, fun i hi _ => k.block i hi⟩
  exact World.ownsRow.kept h hg (by cases v.ownBlock <;> simp)
theorem OwnU.conv {w : World} {B : Nat} {v : Value} {l : List UInt8} (h : OwnU w B v l) : (convert 34 9 v).run Tryd.prog w = .ok (.string ⟨l.toArray⟩) w := by
  rw [← strOfNums_nums]; exact OwnB.conv h
def OutIs (B : Nat) (l : List UInt8) (w : World) (e : Ending) (w' : World) : Prop := ∃ v', e = .returned v' ∧ OwnU w' B v' l ∧ KU B w w'
/-- the bytes of a string, appended -/
theorem wpList_pushS (w : World) {ops : Array Oper} {rest : List Oper} {o : Oper} {a : Act} {Q : Exit → Act → World → Prop} (hgd : o.guard = none) (s x : Operand)
    (ho : o.op = .call { callee := .builtin .append, args := #[s, x], argTypes := #[34, 9] })
    (B : Nat) (v : Value) (l : List UInt8) (hs : a.eval s = v) (hown : OwnU w B v l) (t : ByteArray) (hx : a.eval x = .string t) (m : List UInt8) (hm : t.toList = m)
    (hlim : l.length + m.length ≤ 120000000000000) (hB : B ≤ w.heap.size)
    (h : ∀ v' w', OwnU w' B v' (l ++ m) → KU B w w' → wpList Tryd.prog ops Q rest (a.put o.dst v') w') : wpList Tryd.prog ops Q (o :: rest) a w := by
  obtain ⟨i0, hi0, hz0, hz1, hz2⟩ := info_parts u8Info
  have hts : t.size = m.length := by rw [← hm]; exact (tl_len' t).symm
  refine Lib.wpList_append_own_string w hgd s x 34 9 ho B 5 i0 Tryd.underlying34 Tryd.underlying9 hi0 hz0 hz1 hz2 v (nums l).length _ hs hown t hx
    (by rw [nums_len]; simp only [maxLen]; omega) (by rw [nums_len]; omega) hB (fun v' w' h1 h2 _ => h v' w' ?_ (KU.of_grown hown hB h2))
  have e : (nums (l ++ m)).map (Value.int .u8) = (nums l).map (Value.int .u8) ++ Lib.strCells t := by
    rw [nums_app, List.map_append]
    congr 1
    subst hm
    rw [ByteArray.toList_eq]
    simp [nums, Lib.strCells]
  show w'.ownsRow B 5 1 v' (nums (l ++ m)).length ((nums (l ++ m)).map (Value.int .u8))
  rw [e, nums_app, List.length_append, nums_len m, ← hts]
  exact h1
/-- bytes that stand in the newest block, appended -/
theorem wpList_pushL (w : World) {ops : Array Oper} {rest : List Oper} {o : Oper} {a : Act} {Q : Exit → Act → World → Prop} (hgd : o.guard = none) (s x : Operand)
    (ho : o.op = .call { callee := .builtin .append, args := #[s, x], argTypes := #[34, 34] })
    (B : Nat) (v : Value) (l : List UInt8) (hs : a.eval s = v) (hown : OwnU w B v l) (m : List UInt8) (n : Nat) (hn : m.length = n) (cs : Array Value) (hcs : cs = ((nums m).map (Value.int .u8)).toArray) (hx : a.eval x = .slice (some ⟨w.heap.size, 0, none⟩) n n)
    (hlim : l.length + m.length ≤ 120000000000000) (hB : B ≤ w.heap.size)
    (h : ∀ v' w', OwnU w' B v' (l ++ m) → KU B w w' → wpList Tryd.prog ops Q rest (a.put o.dst v') w') : wpList Tryd.prog ops Q (o :: rest) a (w.alloc (.cells cs 5)) := by
  subst hn; subst hcs
  obtain ⟨i0, hi0, hz0, hz1, hz2⟩ := info_parts u8Info
  have hr : Reads (w.alloc (.cells ((nums m).map (Value.int .u8)).toArray 5)) (w.heap.size + 1) 1 (some ⟨w.heap.size, 0, none⟩) m.length ((nums m).map (Value.int .u8)) := by
    refine ⟨by simp [nums], fun _ => ⟨_, rfl, by simp, fun j u hu => ?_⟩⟩
    have e : (⟨w.heap.size, 0, none⟩ : Addr).add j = ⟨w.heap.size, j, none⟩ := by unfold Addr.add; split <;> simp_all
    rw [e, World.cell?_alloc_mark]
    simpa using hu
  refine wpList_plain hgd fun K hK => ?_
  obtain ⟨v', w', h1, h2, h3, _⟩ := run_append_any (P := Tryd.prog) (w.alloc (.cells ((nums m).map (Value.int .u8)).toArray 5)) B 34 o.type 5 i0 (.int .u8 0) 1 1 Tryd.underlying34 hi0 hz0 hz1 hz2 rfl (by omega) v (nums l).length _ (World.ownsRow.alloc hown _) (w.heap.size + 1) _ m.length m.length _ hr
    (fun u hu => by obtain ⟨n, _, rfl⟩ := List.mem_map.1 hu; rfl) (by rw [nums_len]; simp only [maxLen]; omega) (by rw [nums_len]; omega) (by simp; omega)
  unfold Oper.wp execOp
  simp only [ho, resolve, invoke, builtin, Sem.run_bind, Sem.run_pure, Result.andThen_ok, List.map_toArray, List.map_cons, List.map_nil, hs, hx, h1]
  refine hK _ _ (h v' w' ?_ (((KU.refl B w).alloc hB _).trans (KU.of_grown (World.ownsRow.alloc hown _) (by simp; omega) h3)))
  show w'.ownsRow B 5 1 v' (nums (l ++ m)).length ((nums (l ++ m)).map (Value.int .u8))
  rw [nums_app, List.map_append, List.length_append, nums_len m]
  exact h2
theorem reads_lit (w : World) (m : List UInt8) (cs : Array Value) (hcs : cs = ((nums m).map (Value.int .u8)).toArray) (n : Nat) (hn : m.length = n) : Reads (w.alloc (.cells cs 5)) (w.heap.size + 1) 1 (some ⟨w.heap.size, 0, none⟩) n ((nums m).map (Value.int .u8)) := by
  subst hcs; subst hn
  refine ⟨by simp [nums], fun _ => ⟨_, rfl, by simp, fun j u hu => ?_⟩⟩
  have e : (⟨w.heap.size, 0, none⟩ : Addr).add j = ⟨w.heap.size, j, none⟩ := by unfold Addr.add; split <;> simp_all
  rw [e, World.cell?_alloc_mark]
  simpa using hu
theorem run_pushK (w : World) (B : Nat) (v : Value) (l : List UInt8) (hown : OwnU w B v l) (R : Nat) (A : Option Addr) (n c : Nat) (m : List UInt8) (hr : Reads w R 1 A n ((nums m).map (Value.int .u8))) (ty : TypeId)
    (hlim : l.length + n ≤ 120000000000000) (hB : B ≤ w.heap.size) :
    ∃ v' w', (Builtin.append_ #[34, 34] ty #[v, .slice A n c]).run Tryd.prog w = .ok v' w' ∧ OwnU w' B v' (l ++ m) ∧ KU B w w' := by
  obtain ⟨i0, hi0, hz0, hz1, hz2⟩ := info_parts u8Info
  obtain ⟨v', w', h1, h2, h3, _⟩ := run_append_any (P := Tryd.prog) w B 34 ty 5 i0 (.int .u8 0) 1 1 Tryd.underlying34 hi0 hz0 hz1 hz2 rfl (by omega) v (nums l).length _ hown R A n c _ hr
    (fun u hu => by obtain ⟨n, _, rfl⟩ := List.mem_map.1 hu; rfl) (by rw [nums_len]; simp only [maxLen]; omega) (by rw [nums_len]; omega) hB
  have hm : m.length = n := by have := hr.1; simpa [nums] using this
  refine ⟨v', w', h1, ?_, KU.of_grown hown hB h3⟩
  show w'.ownsRow B 5 1 v' (nums (l ++ m)).length ((nums (l ++ m)).map (Value.int .u8))
  rw [nums_app, List.map_append, List.length_append, nums_len m, hm]
  exact h2
/-- the same as one step of a region that draws its order -/
theorem step_push {ops : Array Oper} {o : Oper} {a : Act} {w : World} {K : Act → World → Prop} {Q : Exit → Act → World → Prop} {E : Prop}
    (hg : o.guard = none) (s x : Operand) (hop : o.op = Op.call { callee := Callee.builtin Builtin.append, args := #[s, x], argTypes := #[34, 34] })
    (B : Nat) (v : Value) (l : List UInt8) (hs : a.eval s = v) (hown : OwnU w B v l) (R : Nat) (A : Option Addr) (n c : Nat) (m : List UInt8) (hx : a.eval x = .slice A n c) (hr : Reads w R 1 A n ((nums m).map (Value.int .u8)))
    (hlim : l.length + n ≤ 120000000000000) (hB : B ≤ w.heap.size)
    (hK : ∀ v' w', OwnU w' B v' (l ++ m) → KU B w w' → K (a.put o.dst v') w') :
    if Region.wanted o (yielded ops a.tmps) = true then Oper.wp Tryd.prog o a w K Q else E := by
  have hw : Region.wanted o (yielded ops a.tmps) = true := by simp [Region.wanted, hg]
  rw [if_pos hw]
  obtain ⟨v', w', h1, h2, h3⟩ := run_pushK w B v l hown R A n c m hr o.type hlim hB
  unfold Oper.wp execOp
  simp only [hop, resolve, invoke, builtin, Sem.run_bind, Sem.run_pure, Result.andThen_ok, List.map_toArray, List.map_cons, List.map_nil, hs, hx, h1]
  exact hK _ _ h2 h3
end Go.Proofs.YtjigceoponlphaaDoor
