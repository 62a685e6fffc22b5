/- Boxes: paths, and what stands under what, where no box is at the top. -/
import Derived.Test.YtlmelclfdafhbaaTreeB0
import Derived.Test.YtlmelclfdafhbaaText1
import Derived.Laws.OwnMore
import Derived.WalkMore
namespace Go.Proofs.Ytlmelclfdafhbaa
open Go.RowKit Go.PlainAid
set_option linter.unusedVariables false
set_option linter.unusedSimpArgs false
theorem own_lt {w : World} {base size n : Nat} {e : TypeId} {v : Value} {xs : List Value} (h : w.ownsRow base e size v n xs) {g : Nat} (hg : v.ownBlock = some g) : base ≤ g ∧ g < w.heap.size := World.ownsRow.lt h g hg
theorem own_old {w w' : World} {base size n : Nat} {e : TypeId} {v : Value} {xs : List Value} (h : w.ownsRow base e size v n xs) (k : Below w.heap.size w w') : w'.ownsRow base e size v n xs := by
  have hg : w.grownBy w' none := ⟨k.os, k.tape, k.output, k.size, fun i hi _ => k.block i hi⟩
  exact World.ownsRow.kept h hg (by cases v.ownBlock <;> simp)
theorem own_form {w : World} {base size n : Nat} {e : TypeId} {v : Value} {xs : List Value} (h : w.ownsRow base e size v n xs) : ∃ A c, v = .slice A n c := by
  rcases h.2 with ⟨rfl, hx⟩ | ⟨g, cap, cur, rfl, _⟩
  · rw [hx]; exact ⟨_, _, rfl⟩
  · exact ⟨_, _, rfl⟩
def sLen (v : Value) : Nat := match v with | .slice _ n _ => n | _ => 0
theorem strInfo : (Try.prog.info? 9).map (fun i => (i.zero, i.size, i.bytes)) = some (some (.string ⟨#[]⟩), 1, 16) := by kernel_rfl
/-- a text that stands in the newest block, appended to texts of the call's own -/
theorem wpList_pushStr (w : World) {ops : Array Oper} {rest : List Oper} {o : Oper} {a : Act} {Q : Exit → Act → World → Prop} (hgd : o.guard = none) (s x : Operand)
    (ho : o.op = .call { callee := .builtin .append, args := #[s, x], argTypes := #[29, 29] })
    (B : Nat) (v : Value) (n : Nat) (xs : List Value) (hs : a.eval s = v) (hown : w.ownsRow B 9 1 v n xs) (t : ByteArray)
    (hx : a.eval x = .slice (some ⟨w.heap.size, 0, none⟩) 1 1)
    (hlim : n + 1 ≤ 1000000000000) (hB : B ≤ w.heap.size)
    (h : ∀ v' w', w'.ownsRow B 9 1 v' (n + 1) (xs ++ [.string t]) → (w.alloc (.cells #[.string t] 9)).grownBy w' v.ownBlock → (v'.ownBlock = v.ownBlock ∨ ∃ g, v'.ownBlock = some g ∧ (w.alloc (.cells #[.string t] 9)).heap.size ≤ g) → wpList Try.prog ops Q rest (a.put o.dst v') w') :
    wpList Try.prog ops Q (o :: rest) a (w.alloc (.cells #[.string t] 9)) := by
  obtain ⟨i0, hi0, hz0, hz1, hz2⟩ := info_parts strInfo
  have hr : Reads (w.alloc (.cells #[.string t] 9)) (w.heap.size + 1) 1 (some ⟨w.heap.size, 0, none⟩) 1 [.string t] := by
    refine ⟨rfl, fun _ => ⟨_, rfl, by simp, fun j u hj => ?_⟩⟩
    have e : (⟨w.heap.size, 0, none⟩ : Addr).add j = ⟨w.heap.size, j, none⟩ := by unfold Addr.add; split <;> simp_all
    rw [e, World.cell?_alloc_mark]
    simpa using hj
  refine wpList_plain hgd fun K hK => ?_
  obtain ⟨v', w', h1, h2, h3, h4⟩ := run_append_any (P := Try.prog) _ B 29 o.type 9 i0 _ 1 16 Try.underlying29 hi0 hz0 hz1 hz2 rfl (by omega) v n _ (World.ownsRow.alloc hown _) (w.heap.size + 1) _ 1 1 _ hr
    (fun u hu => by simp at hu; rcases hu with rfl; rfl) (by simp only [maxLen]; omega) (by omega) (by simp; omega)
  unfold Oper.wp execOp
  simp only [ho, resolve, invoke, builtin, Sem.run_bind, Sem.run_pure, Result.andThen_ok, List.map_toArray, List.map_cons, List.map_nil, hs, hx, h1]
  refine hK _ _ (h v' w' h2 h3 ?_)
  rcases h4 with h4 | h4
  · exact .inl h4
  · exact .inr ⟨_, h4, Nat.le_refl _⟩
def PathIs (A : Option Addr) (n c : Nat) (id : Int) (S : ByteArray) (w : World) : Prop := Calls Try.prog 12 #[.slice A n c, .int .i64 id] w fun e w' => e = .returned (.string S) ∧ Below w.heap.size w w'
def UnderIs (A : Option Addr) (n c : Nat) (id top : Int) (v : Bool) (w : World) : Prop := Calls Try.prog 13 #[.slice A n c, .int .i64 id, .int .i64 top] w fun e w' => e = .returned (.bool v) ∧ Below w.heap.size w w'
set_option maxHeartbeats 2000000 in
theorem path_none (l : List Bx) (A : Option Addr) (n c : Nat) (id : Int) (w : World) (hn : n = l.length) (hl : n ≤ 1000000) (hx : BoxAt w A l) (hp : ∀ b ∈ l, b.par ≠ 0) : PathIs A n c id ⟨#[]⟩ w := by
  have HX := Lib.hid hx
  have HN := Lib.hid hn
  have HP := Lib.hid hp
  have HW := Lib.hid (Below.refl w.heap.size w)
  clear hx hn hp
  unfold PathIs
  go_enter Try.func12, Try.ntmps12
  go_wp2_with fail
  go_step3
  go_wp2_with fail
  go_step3
  go_wp2_with fail
  go_loopw [1, 5] (fun t1 t5 wr => ∃ (m : Nat) (i : Int) (A' : Option Addr) (c' : Nat) (xs : List Value), m ≤ n ∧ t1 = .int .i64 i ∧ t5 = .slice A' m c' ∧ Hid (wr.ownsRow w.heap.size 9 1 (.slice A' m c') m xs) ∧ Hid (Below w.heap.size w wr)) (fun _ t5 _ => n - sLen t5)
  case atStart => exact ⟨0, id, none, 0, [], by omega, rfl, rfl, World.ownsRow_nil _ _ _ _, HW⟩
  case round =>
    obtain ⟨m, i, A', c', xs, hm, rfl, rfl, ho, hw⟩ := hrel
    have hf := tfind_any l A n c i wr HN.out hl (HX.out.below hw.out)
    unfold FindIs at hf
    rcases fnd_bd l i 0 with h | ⟨j, b, h1, h2, h3⟩
    · rw [h] at hf
      have HF := Lib.hid hf
      clear hf h
      go_wp2_with fail
      refine (HF.out : Calls _ _ _ _ _).mono ?_; rintro e w2 ⟨rfl, hw2⟩
      have hW := nextB hw.out hw2
      clear HF
      go_wp2_with fail
      rw [Exit.noGoto_ret]
      go_ret
      exact ⟨rfl, hW⟩
    · rw [h1, Nat.zero_add] at hf
      have HF := Lib.hid hf
      have hjl : j < n := by have := (List.getElem?_eq_some_iff.1 h2).1; have := HN.out; omega
      have hpar := HP.out b (List.mem_of_getElem? h2)
      obtain ⟨g, rfl, hg, q0, q1, q2, q3, q4, q5⟩ := HX.out j b h2
      have HQ1 := Lib.hid q1
      have HQ2 := Lib.hid q2
      clear hf h1 h2 h3 q0 q1 q2 q3 q4 q5
      by_cases hmn : m = n
      · subst hmn
        go_wp2_with fail
        refine (HF.out : Calls _ _ _ _ _).mono ?_; rintro e w2 ⟨rfl, hw2⟩
        have hW := nextB hw.out hw2
        clear HF
        go_wp2_with fail
        rw [Exit.noGoto_ret]
        go_ret
        exact ⟨rfl, hW⟩
      · have hmB : ((m : Int) == (n : Int)) = false := by rw [beq_eq_false_iff_ne]; omega
        have hj0 : ¬ (j : Int) < 0 := by omega
        have hpB : (b.par == 0) = false := by rw [beq_eq_false_iff_ne]; exact hpar
        go_wp2_with fail
        refine (HF.out : Calls _ _ _ _ _).mono ?_; rintro e w2 ⟨rfl, hw2⟩
        have hW := Lib.hid (nextB hw.out hw2)
        have HO := Lib.hid (own_old ho.out hw2)
        have f1 : w2.cell? ⟨g, j * 6 + 1, none⟩ = some (.string b.name) := by rw [hW.out.cell (p := ⟨g, j * 6 + 1, none⟩) hg]; exact HQ1.out
        clear HF ho hw hw2
        go_wp2_with (at_builtin; refine wpList_pushStr _ rfl _ _ rfl w.heap.size _ m xs rfl HO.out b.name rfl (by omega) hW.out.size ?_; intro v' w3 ho3 hg3 hv3; obtain ⟨Av, cv, rfl⟩ := own_form ho3; have HO3 := Lib.hid ho3; have f2 : w3.cell? ⟨g, j * 6 + 2, none⟩ = some (.int .i64 b.par) := by { rw [World.cell?_of_block (hg3.block g (by have := hW.out.size; simp; omega) (fun e => by have := (own_lt HO.out e.symm).1; omega)), World.cell?_alloc_lt _ _ _ (by have := hW.out.size; show g < _; omega), hW.out.cell (p := ⟨g, j * 6 + 2, none⟩) hg]; exact HQ2.out }; have HW3 : Hid (Below w.heap.size w w3) := (hW.out.alloc hW.out.size _).grown hg3 (by have := hW.out.size; simp; omega) (fun g' hg' => (own_lt HO.out hg').1); clear ho3 hg3 hv3)
        exact ⟨⟨m + 1, b.par, Av, cv, _, by omega, rfl, rfl, HO3, HW3⟩, by simp [sLen]; omega⟩
set_option maxHeartbeats 2000000 in
theorem under_none (l : List Bx) (A : Option Addr) (n c : Nat) (id top : Int) (w : World) (hn : n = l.length) (hl : n ≤ 1000000) (hx : BoxAt w A l) (hid : id ≠ top) (hp : ∀ b ∈ l, b.par ≠ top) : UnderIs A n c id top false w := by
  have HX := Lib.hid hx
  have HN := Lib.hid hn
  have HP := Lib.hid hp
  have HW := Lib.hid (Below.refl w.heap.size w)
  have HI := Lib.hid hid
  have nw : IntKind.i64.wrap ((n : Int) + 1) = (n : Int) + 1 := IntWalk.i64_in _ (by omega)
  clear hx hn hp hid
  unfold UnderIs
  go_enter Try.func13, Try.ntmps13
  go_wp2_with fail
  go_loopw [1, 11] (fun t1 t11 wr => ∃ (m : Nat) (i : Int), m ≤ n + 1 ∧ t1 = .int .i64 i ∧ t11 = .int .i64 m ∧ Hid (i ≠ top) ∧ Hid (Below w.heap.size w wr)) (fun _ t11 _ => n + 1 - (intOf t11).toNat)
  case atStart => exact ⟨0, id, by omega, rfl, rfl, HI, HW⟩
  case round =>
    obtain ⟨m, i, hm, rfl, rfl, hi, hw⟩ := hrel
    have hiB : (i == top) = false := by rw [beq_eq_false_iff_ne]; exact hi.out
    by_cases hlt : m < n + 1
    · have hlti : (m : Int) < (n : Int) + 1 := by omega
      have hf := tfind_any l A n c i wr HN.out hl (HX.out.below hw.out)
      unfold FindIs at hf
      rcases fnd_bd l i 0 with h | ⟨j, b, h1, h2, h3⟩
      · rw [h] at hf
        have HF := Lib.hid hf
        clear hf h
        go_wp2_with fail
        refine (HF.out : Calls _ _ _ _ _).mono ?_; rintro e w2 ⟨rfl, hw2⟩
        have hW := nextB hw.out hw2
        clear HF
        go_wp2_with fail
        go_ret
        exact ⟨rfl, hW⟩
      · rw [h1, Nat.zero_add] at hf
        have HF := Lib.hid hf
        have hjl : j < n := by have := (List.getElem?_eq_some_iff.1 h2).1; have := HN.out; omega
        have hpar := Lib.hid (HP.out b (List.mem_of_getElem? h2))
        obtain ⟨g, rfl, hg, q0, q1, q2, q3, q4, q5⟩ := HX.out j b h2
        have HQ2 := Lib.hid q2
        have hj0 : ¬ (j : Int) < 0 := by omega
        clear hf h1 h2 h3 q0 q1 q2 q3 q4 q5
        go_wp2_with fail
        refine (HF.out : Calls _ _ _ _ _).mono ?_; rintro e w2 ⟨rfl, hw2⟩
        have hW := Lib.hid (nextB hw.out hw2)
        have f2 : w2.cell? ⟨g, j * 6 + 2, none⟩ = some (.int .i64 b.par) := by rw [hW.out.cell (p := ⟨g, j * 6 + 2, none⟩) hg]; exact HQ2.out
        clear HF hw hw2
        go_wp2_with fail
        go_roundw
        case rel => exact ⟨m + 1, b.par, by omega, rfl, by go_num, hpar, hW⟩
        case measure => simp [intOf]; omega
    · have hlti : ¬ (m : Int) < (n : Int) + 1 := by omega
      have hW := hw.out
      go_wp2_with fail
      go_ret
      exact ⟨rfl, hW⟩
end Go.Proofs.Ytlmelclfdafhbaa
