/- Words, contracts and walks of the law RingIsNew, in one text. -/
import Derived.Test.YtcbejpmmlcdhnaaProg
import Derived.Test.YtcbejpmmlcdhnaaWMore
import Derived.Test.YtcbejpmmlcdhnaaWTab
import Derived.Below
import Derived.Deep.Draws
import Derived.Deep.AppendLies
import Derived.Maps.AppendAt
import Derived.OwnWalk
import Derived.Laws.BytesArg
import Derived.Laws.MakeOwn
import Derived.Laws.OwnMore
import Derived.Deep.OwnRows
import Derived.Tactics
import Derived.Lib.ConvBytes
import Derived.Laws.Slices
import Derived.WalkKit
import Derived.KernelRfl
import Derived.RowKit3
import Derived.Deep.LoopGhost
import Derived.Deep.QuietTactic
import Derived.BigQuiet
import Derived.WideLaws
import Derived.Deep.DeepCutAuto
import Derived.Deep.CutBlock
import Derived.Deep.RegionHeld3
import Derived.Laws.Rows
import Derived.Lib.AppendStr
import Derived.ArgAppend
import Derived.Laws.IdiomCopy
import Derived.OrdersHeld
import Derived.Laws.BitsLemmas
import Derived.RowKit
import Derived.Outline
import Derived.Test.YtcbejpmmlcdhnaaPWx0
import Derived.Test.YtcbejpmmlcdhnaaPWx3
import Derived.Test.YtcbejpmmlcdhnaaPWx5
import Derived.RangeFuncNested
import Derived.RangeFuncBound
import Derived.RangeFuncCalls
import Derived.RangeFuncLeaves
import Derived.OwnWalkIn
import Derived.TacticsInMore
import Derived.LoopNIn
import Derived.LoopIn
namespace Go.Proofs.Ytcbejpmmlcdhnaa.PW
open Go.RowKit Go.Proofs.YtcbejpmmlcdhnaaW.PrintWords Go.Proofs.YtcbejpmmlcdhnaaW.PrintLast Go.Proofs.YtcbejpmmlcdhnaaW.PrintMore
set_option linter.unusedVariables false
section
variable {P : Program} {ops : Array Oper} {o : Oper} {a : Act} {Q : Exit → Act → World → Prop} {rest : List Oper} {W : World}
def Stop (p : Prop) : Prop := p
theorem stop_builtin {b : Builtin} {xs : Array Operand} {ts : Array TypeId} (_ho : o.op = .call { callee := .builtin b, args := xs, argTypes := ts }) (_hb : b ≠ .len) (h : Stop (wpList P ops Q (o :: rest) a W)) : wpList P ops Q (o :: rest) a W := h
theorem stop_append {xs : Array Operand} {ts : Array TypeId} (_ho : o.op = .call { callee := .builtin .append, args := xs, argTypes := ts }) (h : Stop (wpList P ops Q (o :: rest) a W)) : wpList P ops Q (o :: rest) a W := h
theorem stop_copy {xs : Array Operand} {ts : Array TypeId} (_ho : o.op = .call { callee := .builtin .copy, args := xs, argTypes := ts }) (h : Stop (wpList P ops Q (o :: rest) a W)) : wpList P ops Q (o :: rest) a W := h
theorem stop_make {t : TypeId} {x y : Operand} (_ho : o.op = .makeSlice t x y) (h : Stop (wpList P ops Q (o :: rest) a W)) : wpList P ops Q (o :: rest) a W := h
theorem stop_lit {t : TypeId} {n : Nat} {ps : Array (Nat × Operand)} (_ho : o.op = .buildSlice t n ps) (h : Stop (wpList P ops Q (o :: rest) a W)) : wpList P ops Q (o :: rest) a W := h
theorem stop_slice {t : TypeId} {x : Operand} {l h' m : Option Operand} (_ho : o.op = .slice t x l h' m) (h : Stop (wpList P ops Q (o :: rest) a W)) : wpList P ops Q (o :: rest) a W := h
theorem stop_store {t : TypeId} {p v : Operand} (_ho : o.op = .store t p v) (h : Stop (wpList P ops Q (o :: rest) a W)) : wpList P ops Q (o :: rest) a W := h
end
end Go.Proofs.Ytcbejpmmlcdhnaa.PW
namespace Go.Proofs.Ytcbejpmmlcdhnaa.PW
open Go.RowKit Go.Proofs.YtcbejpmmlcdhnaaW.PrintWords Go.Proofs.YtcbejpmmlcdhnaaW.PrintLast Go.Proofs.YtcbejpmmlcdhnaaW.PrintMore
set_option linter.unusedVariables false
set_option linter.unusedSimpArgs false

theorem floor_nil (w : World) : Calls Try.prog 20 #[.pointer none] w fun e w' => e = .returned (.tuple #[.int .i64 0, .int .i64 0]) ∧ w' = w := by
  go_enter Try.func20, Try.ntmps20
  go_wp2
  go_ret2
  exact ⟨rfl, rfl⟩
theorem floor_C (b : Nat) (fl o : Int) (w : World) (hf : w.cell? ⟨b, 385, none⟩ = some (.int .i64 fl)) (ho : w.cell? ⟨b, 388, none⟩ = some (.int .i64 o)) :
    Calls Try.prog 20 #[.pointer (some ⟨b, 0, none⟩)] w fun e w' => e = .returned (.tuple #[.int .i64 fl, .int .i64 o]) ∧ Drawn0 w w' := by
  go_enter Try.func20, Try.ntmps20
  go_wp2
  go_quiet (fail)
  go_wp2
  go_ret2
  exact ⟨rfl, ⟨⟨_, rfl⟩⟩⟩
theorem rem_run (s room : Nat) (h : 0 < room) (hs : s ≤ 4294967296) : ∀ W : World, (binOp .rem 3 (.int .i64 (s : Int)) (.int .i64 (room : Int))).run Try.prog W = .ok (.int .i64 ((s % room : Nat) : Int)) W := by
  intro W
  have h1 : (s : Int).tmod (room : Int) = ((s % room : Nat) : Int) := by rw [Int.tmod_eq_emod_of_nonneg (by omega)]; rfl
  have h2 : s % room ≤ s := Nat.mod_le _ _
  have h3 : IntKind.i64.wrap ((s % room : Nat) : Int) = ((s % room : Nat) : Int) := IntWalk.i64_in _ (by omega)
  have h4 : (room : Int) ≠ 0 := by omega
  simp [binOp, go_sem, h1, h4]
  omega
def rg36.T1 : Bool × List (List Nat × List Nat) := (true, [([], []), ([], []), ([], []), ([2], [2]), ([3], [3]), ([4], [4]), ([1, 5], [1, 5]), ([0], [0]), ([7], [7]), ([8, 6], [6, 8]), ([9, 0, 1, 2, 3, 4, 5, 6, 7, 8, 9], [9])])
def rg36.B1 : List Nat := [0, 0, 0, 4, 12, 28, 62, 1, 129, 511, 1023]
theorem rg36.tab1 : rtab .any (opsOf Try.f36 1) = rg36.T1 := by kernel_rfl
theorem rg36.bits1 : waitsOk rg36.T1.2 rg36.B1 = true := by kernel_rfl
theorem at_C (b room s k : Nat) (w : World) (hr : w.cell? ⟨b, 384, none⟩ = some (.int .i64 (room : Int))) (h0 : 0 < room) (h1 : room ≤ 64) (h3 : s ≤ 4294967296) (hk : s % room = k) :
    Calls Try.prog 36 #[.pointer (some ⟨b, 0, none⟩), .int .i64 (s : Int)] w fun e w' => e = .returned (.pointer (some ⟨b, k * 6, none⟩)) ∧ Drawn0 w w' := by
  have hk1 : k < 64 := by have := Nat.mod_lt s h0; omega
  have hk2 : (k : Int) < 64 := by omega
  have hne : ¬ (room = 0) := by omega
  have htm : (s : Int).tmod (room : Int) = (k : Int) := by rw [← hk, Int.tmod_eq_emod_of_nonneg (by omega)]; rfl
  have hnn : (0 : Int) ≤ (k : Int) := by omega
  clear hk
  go_enter Try.func36, Try.ntmps36
  go_wp2
  have hrd : w.drew.cell? ⟨b, 384, none⟩ = some (.int .i64 (room : Int)) := hr
  refine start_ (n := 11) (S := fun w' => w'.cell? ⟨b, 384, none⟩ = some (.int .i64 (room : Int))) (ds := []) #[false, false, false, false, false, false, false, false, false, false, false] (by kernel_rfl) rfl rfl (hrd) (fun hHeld => ?_)
  refine with_tabW rg36.tab1 rg36.bits1 (fun HT_ HW_ => ?_)
  refine pure_ (i := 0) (N := some 5) (v := ?_) (a' := ?_) #[true, false, false, false, false, false, false, false, false, false, false] rfl rfl (any_of HT_.out (by kernel_rfl)) (fun _ _ _ h => h) (Or.inl ⟨by rfl, ?_⟩) ?_ ?_
  rotate_left
  · intro w'
    go_simp
    with_reducible rfl
  rotate_left
  · simp only [Act.put, List.setIfInBounds_toArray, List.set_cons_zero, List.set_cons_succ, i64_w, i32_w]
    rfl
  refine pure_ (i := 1) (N := some 6) (v := ?_) (a' := ?_) #[true, true, false, false, false, false, false, false, false, false, false] rfl rfl (any_of HT_.out (by kernel_rfl)) (fun _ _ _ h => h) (Or.inl ⟨by rfl, ?_⟩) ?_ ?_
  rotate_left
  · intro w'
    go_simp
    with_reducible rfl
  rotate_left
  · simp only [Act.put, List.setIfInBounds_toArray, List.set_cons_zero, List.set_cons_succ, i64_w, i32_w]
    rfl
  refine pure_ (i := 2) (N := some 7) (v := ?_) (a' := ?_) #[true, true, true, false, false, false, false, false, false, false, false] rfl rfl (any_of HT_.out (by kernel_rfl)) (fun _ _ _ h => h) (Or.inl ⟨by rfl, ?_⟩) ?_ ?_
  rotate_left
  · intro w'
    go_simp
    with_reducible rfl
  rotate_left
  · simp only [Act.put, List.setIfInBounds_toArray, List.set_cons_zero, List.set_cons_succ, i64_w, i32_w]
    rfl
  refine pure_ (i := 3) (N := some 8) (v := ?_) (a' := ?_) #[true, true, true, true, false, false, false, false, false, false, false] rfl rfl (any_of HT_.out (by kernel_rfl)) (fun _ _ _ h => h) (Or.inl ⟨by rfl, ?_⟩) ?_ ?_
  rotate_left
  · intro w'
    go_simp
    with_reducible rfl
  rotate_left
  · simp only [Act.put, List.setIfInBounds_toArray, List.set_cons_zero, List.set_cons_succ, i64_w, i32_w]
    rfl
  refine pure_ (i := 4) (N := some 9) (v := ?_) (a' := ?_) #[true, true, true, true, true, false, false, false, false, false, false] rfl rfl (any_of HT_.out (by kernel_rfl)) (fun _ _ _ h => h) (Or.inl ⟨by rfl, ?_⟩) ?_ ?_
  rotate_left
  · intro w'
    go_simp
    with_reducible rfl
  rotate_left
  · simp only [Act.put, List.setIfInBounds_toArray, List.set_cons_zero, List.set_cons_succ, i64_w, i32_w]
    rfl
  refine pure_ (i := 7) (N := some 12) (v := ?_) (a' := ?_) #[true, true, true, true, true, false, false, true, false, false, false] rfl rfl (any_of HT_.out (by kernel_rfl)) (fun _ _ _ h => h) (Or.inl ⟨by rfl, ?_⟩) ?_ ?_
  rotate_left
  · intro w'
    go_simp
    with_reducible rfl
  rotate_left
  · simp only [Act.put, List.setIfInBounds_toArray, List.set_cons_zero, List.set_cons_succ, i64_w, i32_w]
    rfl
  refine pure_ (i := 8) (N := some 13) (v := ?_) (a' := ?_) #[true, true, true, true, true, false, false, true, true, false, false] rfl rfl (any_of HT_.out (by kernel_rfl)) (fun _ _ _ h => h) (Or.inl ⟨by rfl, ?_⟩) ?_ ?_
  rotate_left
  · intro w'
    go_simp
    with_reducible rfl
  rotate_left
  · simp only [Act.put, List.setIfInBounds_toArray, List.set_cons_zero, List.set_cons_succ, i64_w, i32_w]
    rfl
  refine take_ (i := 5) (N := some 10) (v := ?_) (a' := ?_) #[true, true, true, true, true, true, false, true, true, false, false] rfl rfl (take_ofW HT_.out HW_.out (by kernel_rfl)) (fun _ _ _ h => h) (Or.inl ⟨by rfl, ?_⟩) hHeld ?_ ?_
  rotate_left
  · intro w' s0
    go_simp
    with_reducible rfl
  rotate_left
  · simp only [Act.put, List.setIfInBounds_toArray, List.set_cons_zero, List.set_cons_succ, i64_w, i32_w]
    rfl
  refine pure_ (i := 6) (N := some 11) (v := ?_) (a' := ?_) #[true, true, true, true, true, true, true, true, true, false, false] rfl rfl (any_of HT_.out (by kernel_rfl)) (fun _ _ _ h => h) (Or.inl ⟨by rfl, ?_⟩) ?_ ?_
  rotate_left
  · intro w'
    go_simp
    with_reducible rfl
  rotate_left
  · simp only [Act.put, List.setIfInBounds_toArray, List.set_cons_zero, List.set_cons_succ, i64_w, i32_w]
    rfl
  refine pure_ (i := 9) (N := some 14) (v := ?_) (a' := ?_) #[true, true, true, true, true, true, true, true, true, true, false] rfl rfl (any_of HT_.out (by kernel_rfl)) (fun _ _ _ h => h) (Or.inl ⟨by rfl, ?_⟩) ?_ ?_
  rotate_left
  · intro w'
    go_simp
    with_reducible rfl
  rotate_left
  · simp only [Act.put, List.setIfInBounds_toArray, List.set_cons_zero, List.set_cons_succ, i64_w, i32_w]
    rfl
  refine pure_ (i := 10) (N := some 4) (v := ?_) (a' := ?_) #[true, true, true, true, true, true, true, true, true, true, true] rfl rfl (any_of HT_.out (by kernel_rfl)) (fun _ _ _ h => h) (Or.inl ⟨by rfl, ?_⟩) ?_ ?_
  rotate_left
  · intro w'
    go_simp
    with_reducible rfl
  rotate_left
  · simp only [Act.put, List.setIfInBounds_toArray, List.set_cons_zero, List.set_cons_succ, i64_w, i32_w]
    rfl
  refine done_ (done_of HT_.out (by kernel_rfl)) ?_
  go_wp2
  go_ret
  exact ⟨rfl, ⟨⟨1, rfl⟩⟩⟩
theorem last_nil (w : World) : Calls Try.prog 15 #[.pointer none] w fun e w' => e = .returned (.tuple #[.int .i64 0, .int .i64 0]) ∧ Drawn0 w w' := by
  go_enter Try.func15, Try.ntmps15
  go_wp2
  go_quiet (fail)
  go_wp2_with fail
  refine (floor_nil _).mono ?_
  rintro e w1 ⟨rfl, rfl⟩
  go_wp2
  go_ret2
  exact ⟨rfl, ⟨⟨_, rfl⟩⟩⟩
theorem last_none (b : Nat) (fl o : Int) (w : World) (hf : w.cell? ⟨b, 385, none⟩ = some (.int .i64 fl)) (hl : w.cell? ⟨b, 386, none⟩ = some (.int .i64 fl)) (ho : w.cell? ⟨b, 388, none⟩ = some (.int .i64 o)) :
    Calls Try.prog 15 #[.pointer (some ⟨b, 0, none⟩)] w fun e w' => e = .returned (.tuple #[.int .i64 fl, .int .i64 o]) ∧ Drawn0 w w' := by
  have HF := Aside0.mk hf
  have HO := Aside0.mk ho
  go_enter Try.func15, Try.ntmps15
  go_wp2
  go_quiet (fail)
  go_wp2_with fail
  refine (floor_C b fl o (w.drewN nq) HF.out HO.out).mono ?_
  rintro e w1 ⟨rfl, hd⟩
  go_wp2
  go_ret2
  exact ⟨rfl, by obtain ⟨⟨n, rfl⟩⟩ := hd; exact (Drawn0.mk ⟨_, rfl⟩ : Drawn0 w (w.drewN _)).step n⟩
def rg15.T3 : Bool × List (List Nat × List Nat) := (true, [([], []), ([0], [0]), ([1], [1]), ([2], [2]), ([], []), ([], []), ([5], [5]), ([6], [6]), ([7], [7]), ([4, 8], [4, 8]), ([9], [9]), ([10], [10]), ([11], [11]), ([3, 9, 0, 1, 2, 3], [3]), ([12, 13, 0, 1, 2, 3, 4, 5, 6, 7, 8, 9, 10, 11, 12, 13], [12])])
def rg15.B3 : List Nat := [0, 1, 3, 7, 0, 0, 32, 96, 224, 496, 1008, 2032, 4080, 1023, 16383]
theorem rg15.tab3 : rtab .any (opsOf Try.f15 3) = rg15.T3 := by kernel_rfl
theorem rg15.bits3 : waitsOk rg15.T3.2 rg15.B3 = true := by kernel_rfl
theorem last_C (b room fl l k : Nat) (v : Int) (w : World) (hr : w.cell? ⟨b, 384, none⟩ = some (.int .i64 (room : Int))) (hf : w.cell? ⟨b, 385, none⟩ = some (.int .i64 (fl : Int))) (hl : w.cell? ⟨b, 386, none⟩ = some (.int .i64 (l : Int)))
    (hv : w.cell? ⟨b, k * 6 + 1, none⟩ = some (.int .i64 v)) (h0 : 0 < room) (h1 : room ≤ 64) (h3 : l ≤ 4294967296) (hk : l % room = k) (hne : fl ≠ l) :
    Calls Try.prog 15 #[.pointer (some ⟨b, 0, none⟩)] w fun e w' => e = .returned (.tuple #[.int .i64 (l : Int), .int .i64 v]) ∧ Drawn0 w w' := by
  have HR := Aside0.mk hr
  have HV := Aside0.mk hv
  have HK := Aside0.mk hk
  have hlf : ((l : Int) == (fl : Int)) = false := beq_eq_false_iff_ne.mpr (by omega)
  clear hk
  go_enter Try.func15, Try.ntmps15
  go_wp2
  go_quiet (fail)
  obtain ⟨W, hW⟩ : ∃ W, W = w.drewN nq := ⟨_, rfl⟩
  rw [← hW]
  have hlW : W.drew.cell? ⟨b, 386, none⟩ = some (.int .i64 (l : Int)) := by rw [hW]; exact hl
  have hvW : W.drew.cell? ⟨b, k * 6 + 1, none⟩ = some (.int .i64 v) := by rw [hW]; exact hv
  have HRW := Aside0.mk (show W.drew.cell? ⟨b, 384, none⟩ = some (.int .i64 (room : Int)) by rw [hW]; exact hr)
  have HW := Aside0.mk hW
  clear hW
  go_wp2
  refine start_ (n := 15) (S := fun w' => w'.cell? ⟨b, 386, none⟩ = some (.int .i64 (l : Int)) ∧ w'.cell? ⟨b, k * 6 + 1, none⟩ = some (.int .i64 v)) (ds := []) #[false, false, false, false, false, false, false, false, false, false, false, false, false, false, false] (by kernel_rfl) rfl rfl ⟨hlW, hvW⟩ (fun hHeld => ?_)
  refine with_tabW rg15.tab3 rg15.bits3 (fun HT_ HW_ => ?_)
  refine pure_ (i := 0) (N := some 21) (v := ?_) (a' := ?_) #[true, false, false, false, false, false, false, false, false, false, false, false, false, false, false] rfl rfl (any_of HT_.out (by kernel_rfl)) (fun _ _ _ h => h) (Or.inl ⟨by rfl, ?_⟩) ?_ ?_
  rotate_left
  · intro w'
    go_simp
    with_reducible rfl
  rotate_left
  · simp only [Act.put, List.setIfInBounds_toArray, List.set_cons_zero, List.set_cons_succ, i64_w, i32_w]
    rfl
  refine pure_ (i := 1) (N := some 22) (v := ?_) (a' := ?_) #[true, true, false, false, false, false, false, false, false, false, false, false, false, false, false] rfl rfl (any_of HT_.out (by kernel_rfl)) (fun _ _ _ h => h) (Or.inl ⟨by rfl, ?_⟩) ?_ ?_
  rotate_left
  · intro w'
    go_simp
    with_reducible rfl
  rotate_left
  · simp only [Act.put, List.setIfInBounds_toArray, List.set_cons_zero, List.set_cons_succ, i64_w, i32_w]
    rfl
  refine pure_ (i := 2) (N := some 23) (v := ?_) (a' := ?_) #[true, true, true, false, false, false, false, false, false, false, false, false, false, false, false] rfl rfl (any_of HT_.out (by kernel_rfl)) (fun _ _ _ h => h) (Or.inl ⟨by rfl, ?_⟩) ?_ ?_
  rotate_left
  · intro w'
    go_simp
    with_reducible rfl
  rotate_left
  · simp only [Act.put, List.setIfInBounds_toArray, List.set_cons_zero, List.set_cons_succ, i64_w, i32_w]
    rfl
  refine pure_ (i := 4) (N := some 25) (v := ?_) (a' := ?_) #[true, true, true, false, true, false, false, false, false, false, false, false, false, false, false] rfl rfl (any_of HT_.out (by kernel_rfl)) (fun _ _ _ h => h) (Or.inl ⟨by rfl, ?_⟩) ?_ ?_
  rotate_left
  · intro w'
    go_simp
    with_reducible rfl
  rotate_left
  · simp only [Act.put, List.setIfInBounds_toArray, List.set_cons_zero, List.set_cons_succ, i64_w, i32_w]
    rfl
  refine pure_ (i := 5) (N := some 26) (v := ?_) (a' := ?_) #[true, true, true, false, true, true, false, false, false, false, false, false, false, false, false] rfl rfl (any_of HT_.out (by kernel_rfl)) (fun _ _ _ h => h) (Or.inl ⟨by rfl, ?_⟩) ?_ ?_
  rotate_left
  · intro w'
    go_simp
    with_reducible rfl
  rotate_left
  · simp only [Act.put, List.setIfInBounds_toArray, List.set_cons_zero, List.set_cons_succ, i64_w, i32_w]
    rfl
  refine pure_ (i := 6) (N := some 27) (v := ?_) (a' := ?_) #[true, true, true, false, true, true, true, false, false, false, false, false, false, false, false] rfl rfl (any_of HT_.out (by kernel_rfl)) (fun _ _ _ h => h) (Or.inl ⟨by rfl, ?_⟩) ?_ ?_
  rotate_left
  · intro w'
    go_simp
    with_reducible rfl
  rotate_left
  · simp only [Act.put, List.setIfInBounds_toArray, List.set_cons_zero, List.set_cons_succ, i64_w, i32_w]
    rfl
  refine pure_ (i := 7) (N := some 28) (v := ?_) (a' := ?_) #[true, true, true, false, true, true, true, true, false, false, false, false, false, false, false] rfl rfl (any_of HT_.out (by kernel_rfl)) (fun _ _ _ h => h) (Or.inl ⟨by rfl, ?_⟩) ?_ ?_
  rotate_left
  · intro w'
    go_simp
    with_reducible rfl
  rotate_left
  · simp only [Act.put, List.setIfInBounds_toArray, List.set_cons_zero, List.set_cons_succ, i64_w, i32_w]
    rfl
  refine take_ (i := 3) (N := some 24) (v := ?_) (a' := ?_) #[true, true, true, true, true, true, true, true, false, false, false, false, false, false, false] rfl rfl (take_ofW HT_.out HW_.out (by kernel_rfl)) (fun _ _ _ h => h) (Or.inl ⟨by rfl, ?_⟩) hHeld ?_ ?_
  rotate_left
  · rintro w' ⟨s0, s1⟩
    go_simp
    with_reducible rfl
  rotate_left
  · simp only [Act.put, List.setIfInBounds_toArray, List.set_cons_zero, List.set_cons_succ, i64_w, i32_w]
    rfl
  refine take_ (i := 8) (N := some 29) (v := ?_) (a' := ?_) #[true, true, true, true, true, true, true, true, true, false, false, false, false, false, false] rfl rfl (take_ofW HT_.out HW_.out (by kernel_rfl)) (fun _ _ _ h => h) (Or.inl ⟨by rfl, ?_⟩) hHeld ?_ ?_
  rotate_left
  · rintro w' ⟨s0, s1⟩
    go_simp
    with_reducible rfl
  rotate_left
  · simp only [Act.put, List.setIfInBounds_toArray, List.set_cons_zero, List.set_cons_succ, i64_w, i32_w]
    rfl
  refine one_ (i := 9) (N := some 30) #[true, true, true, true, true, true, true, true, true, true, false, false, false, false, false] rfl rfl (one_of HT_.out (by kernel_rfl)) (by decide) (fun K hK => ?_)
  refine goes_ Try.func36 (by kernel_rfl) rfl #[.pointer (some ⟨b, 0, none⟩), .int .i64 (l : Int)] (by rfl) rfl rfl (by simp only [List.map_toArray, List.map_cons, List.map_nil]; rfl) ?_
  with_reducible refine (at_C b room l k _ HRW.out h0 h1 h3 HK.out).mono ?_
  rintro e w3 ⟨rfl, ⟨⟨m, rfl⟩⟩⟩
  refine ⟨_, rfl, ?_⟩
  refine hK.out _ _ ⟨hlW, hvW⟩ (fun hHeld => ?_)
  clear hK K
  refine norm_ (a' := ?_) ?_ ?_
  rotate_left
  · show Act.put _ (some 30) _ = _
    simp only [Act.put, List.setIfInBounds_toArray, List.set_cons_zero, List.set_cons_succ, i64_w, i32_w]
    rfl
  refine pure_ (i := 10) (N := some 31) (v := ?_) (a' := ?_) #[true, true, true, true, true, true, true, true, true, true, true, false, false, false, false] rfl rfl (any_of HT_.out (by kernel_rfl)) (fun _ _ _ h => h) (Or.inl ⟨by rfl, ?_⟩) ?_ ?_
  rotate_left
  · intro w'
    go_simp
    with_reducible rfl
  rotate_left
  · simp only [Act.put, List.setIfInBounds_toArray, List.set_cons_zero, List.set_cons_succ, i64_w, i32_w]
    rfl
  refine pure_ (i := 11) (N := some 32) (v := ?_) (a' := ?_) #[true, true, true, true, true, true, true, true, true, true, true, true, false, false, false] rfl rfl (any_of HT_.out (by kernel_rfl)) (fun _ _ _ h => h) (Or.inl ⟨by rfl, ?_⟩) ?_ ?_
  rotate_left
  · intro w'
    go_simp
    with_reducible rfl
  rotate_left
  · simp only [Act.put, List.setIfInBounds_toArray, List.set_cons_zero, List.set_cons_succ, i64_w, i32_w]
    rfl
  refine pure_ (i := 13) (N := some 2) (v := ?_) (a' := ?_) #[true, true, true, true, true, true, true, true, true, true, true, true, false, true, false] rfl rfl (any_of HT_.out (by kernel_rfl)) (fun _ _ _ h => h) (Or.inl ⟨by rfl, ?_⟩) ?_ ?_
  rotate_left
  · intro w'
    go_simp
    with_reducible rfl
  rotate_left
  · simp only [Act.put, List.setIfInBounds_toArray, List.set_cons_zero, List.set_cons_succ, i64_w, i32_w]
    rfl
  refine take_ (i := 12) (N := some 33) (v := ?_) (a' := ?_) #[true, true, true, true, true, true, true, true, true, true, true, true, true, true, false] rfl rfl (take_ofW HT_.out HW_.out (by kernel_rfl)) (fun _ _ _ h => h) (Or.inl ⟨by rfl, ?_⟩) hHeld ?_ ?_
  rotate_left
  · rintro w' ⟨s0, s1⟩
    go_simp
    with_reducible rfl
  rotate_left
  · simp only [Act.put, List.setIfInBounds_toArray, List.set_cons_zero, List.set_cons_succ, i64_w, i32_w]
    rfl
  refine pure_ (i := 14) (N := some 3) (v := ?_) (a' := ?_) #[true, true, true, true, true, true, true, true, true, true, true, true, true, true, true] rfl rfl (any_of HT_.out (by kernel_rfl)) (fun _ _ _ h => h) (Or.inl ⟨by rfl, ?_⟩) ?_ ?_
  rotate_left
  · intro w'
    go_simp
    with_reducible rfl
  rotate_left
  · simp only [Act.put, List.setIfInBounds_toArray, List.set_cons_zero, List.set_cons_succ, i64_w, i32_w]
    rfl
  refine done_ (done_of HT_.out (by kernel_rfl)) ?_
  go_wp2
  go_ret2
  exact ⟨rfl, ((Drawn0.mk ⟨_, HW.out⟩ : Drawn0 w W).step 1).step m⟩
end Go.Proofs.Ytcbejpmmlcdhnaa.PW
namespace Go.Proofs.Ytcbejpmmlcdhnaa.PW
open Go.RowKit Go.Proofs.YtcbejpmmlcdhnaaW.PrintWords Go.Proofs.YtcbejpmmlcdhnaaW.PrintLast Go.Proofs.YtcbejpmmlcdhnaaW.PrintMore
set_option linter.unusedVariables false
set_option linter.unusedSimpArgs false

/-- What between answers. -/
def btw (h l s : Int) : Int := if s < h then 63 else if l < s then 61 else 0
theorem between_nil (s : Int) (w : World) : Calls Try.prog 39 #[.pointer none, .int .i64 s] w fun e w' => e = .returned (.int .i64 (btw 0 0 s)) ∧ w' = w := by
  unfold btw
  by_cases h1 : s < 0
  · rw [if_pos h1]
    go_enter Try.func39, Try.ntmps39
    go_wp2
    go_ret
    exact ⟨rfl, rfl⟩
  · rw [if_neg h1]
    by_cases h2 : 0 < s
    · rw [if_pos h2]
      go_enter Try.func39, Try.ntmps39
      go_wp2
      go_ret
      exact ⟨rfl, rfl⟩
    · rw [if_neg h2]
      go_enter Try.func39, Try.ntmps39
      go_wp2
      go_ret
      exact ⟨rfl, rfl⟩
theorem between_C (b : Nat) (h l s : Int) (w : World) (hh : w.cell? ⟨b, 387, none⟩ = some (.int .i64 h)) (hl : w.cell? ⟨b, 386, none⟩ = some (.int .i64 l)) : Calls Try.prog 39 #[.pointer (some ⟨b, 0, none⟩), .int .i64 s] w fun e w' => e = .returned (.int .i64 (btw h l s)) ∧ Drawn0 w w' := by
  unfold btw
  by_cases h1 : s < h
  · rw [if_pos h1]
    go_enter Try.func39, Try.ntmps39
    go_wp2
    go_quiet (fail)
    go_wp2
    go_ret
    exact ⟨rfl, ⟨⟨_, rfl⟩⟩⟩
  · rw [if_neg h1]
    by_cases h2 : l < s
    · rw [if_pos h2]
      go_enter Try.func39, Try.ntmps39
      go_wp2
      go_quiet (fail)
      go_wp2
      go_ret
      exact ⟨rfl, ⟨⟨_, rfl⟩⟩⟩
    · rw [if_neg h2]
      go_enter Try.func39, Try.ntmps39
      go_wp2
      go_quiet (fail)
      go_wp2
      go_ret
      exact ⟨rfl, ⟨⟨_, rfl⟩⟩⟩
theorem hold_nil (s : Int) (w : World) : Calls Try.prog 17 #[.pointer none, .int .i64 s] w fun e w' => e = .returned (.int .i64 (btw 0 0 s)) ∧ w' = w := by
  by_cases h0 : btw 0 0 s = 0
  · go_enter Try.func17, Try.ntmps17
    go_wp2_with fail
    refine (between_nil s _).mono ?_
    rintro e w1 ⟨rfl, rfl⟩
    rw [h0]
    go_wp2
    go_ret
    exact ⟨by rw [h0]; rfl, rfl⟩
  · obtain ⟨r, hr⟩ : ∃ r, r = btw 0 0 s := ⟨_, rfl⟩
    rw [← hr] at h0
    have hb : (r == 0) = false := beq_eq_false_iff_ne.mpr h0
    have HR := Aside0.mk hr
    rw [← hr]
    clear hr
    go_enter Try.func17, Try.ntmps17
    go_wp2_with fail
    refine (between_nil s _).mono ?_
    rintro e w1 ⟨rfl, rfl⟩
    rw [← HR.out]
    go_wp2
    go_ret
    exact ⟨rfl, rfl⟩
/-- Hold and Cut set one cell where between lets them. -/
def setIf (w : World) (b o : Nat) (r s : Int) : World := if r = 0 then w.setCell ⟨b, o, none⟩ (.int .i64 s) else w
theorem hold_C (b : Nat) (h l s : Int) (w : World) (hh : w.cell? ⟨b, 387, none⟩ = some (.int .i64 h)) (hl : w.cell? ⟨b, 386, none⟩ = some (.int .i64 l)) (hz : w.frozen? ⟨b, 387, none⟩ = false) : Calls Try.prog 17 #[.pointer (some ⟨b, 0, none⟩), .int .i64 s] w fun e w' => e = .returned (.int .i64 (btw h l s)) ∧ ∃ n, w' = setIf (w.drewN n) b 387 (btw h l s) s := by
  have HH := Aside0.mk hh
  have HL := Aside0.mk hl
  by_cases h0 : btw h l s = 0
  · go_enter Try.func17, Try.ntmps17
    go_wp2_with fail
    refine (between_C b h l s _ HH.out HL.out).mono ?_
    rintro e w1 ⟨rfl, ⟨⟨n, rfl⟩⟩⟩
    have hh1 : (w.drewN n).cell? ⟨b, 387, none⟩ = some (.int .i64 h) := HH.out
    have hz1 : (w.drewN n).frozen? ⟨b, 387, none⟩ = false := hz
    rw [h0]
    go_wp2
    go_ret
    exact ⟨by rw [h0]; rfl, n, by rw [setIf, if_pos h0]⟩
  · obtain ⟨r, hr⟩ : ∃ r, r = btw h l s := ⟨_, rfl⟩
    rw [← hr] at h0
    have hb : (r == 0) = false := beq_eq_false_iff_ne.mpr h0
    have HR := Aside0.mk hr
    rw [← hr]
    clear hr
    go_enter Try.func17, Try.ntmps17
    go_wp2_with fail
    refine (between_C b h l s _ HH.out HL.out).mono ?_
    rintro e w1 ⟨rfl, ⟨⟨n, rfl⟩⟩⟩
    rw [← HR.out]
    go_wp2
    go_ret
    exact ⟨rfl, n, by rw [setIf, if_neg h0]⟩
theorem cut_nil (s : Int) (w : World) : Calls Try.prog 31 #[.pointer none, .int .i64 s] w fun e w' => e = .returned (.int .i64 (btw 0 0 s)) ∧ w' = w := by
  by_cases h0 : btw 0 0 s = 0
  · go_enter Try.func31, Try.ntmps31
    go_wp2_with fail
    refine (between_nil s _).mono ?_
    rintro e w1 ⟨rfl, rfl⟩
    rw [h0]
    go_wp2
    go_ret
    exact ⟨by rw [h0]; rfl, rfl⟩
  · obtain ⟨r, hr⟩ : ∃ r, r = btw 0 0 s := ⟨_, rfl⟩
    rw [← hr] at h0
    have hb : (r == 0) = false := beq_eq_false_iff_ne.mpr h0
    have HR := Aside0.mk hr
    rw [← hr]
    clear hr
    go_enter Try.func31, Try.ntmps31
    go_wp2_with fail
    refine (between_nil s _).mono ?_
    rintro e w1 ⟨rfl, rfl⟩
    rw [← HR.out]
    go_wp2
    go_ret
    exact ⟨rfl, rfl⟩
theorem cut_C (b : Nat) (h l s : Int) (w : World) (hh : w.cell? ⟨b, 387, none⟩ = some (.int .i64 h)) (hl : w.cell? ⟨b, 386, none⟩ = some (.int .i64 l)) (hz : w.frozen? ⟨b, 386, none⟩ = false) : Calls Try.prog 31 #[.pointer (some ⟨b, 0, none⟩), .int .i64 s] w fun e w' => e = .returned (.int .i64 (btw h l s)) ∧ ∃ n, w' = setIf (w.drewN n) b 386 (btw h l s) s := by
  have HH := Aside0.mk hh
  have HL := Aside0.mk hl
  by_cases h0 : btw h l s = 0
  · go_enter Try.func31, Try.ntmps31
    go_wp2_with fail
    refine (between_C b h l s _ HH.out HL.out).mono ?_
    rintro e w1 ⟨rfl, ⟨⟨n, rfl⟩⟩⟩
    have hh1 : (w.drewN n).cell? ⟨b, 386, none⟩ = some (.int .i64 l) := HL.out
    have hz1 : (w.drewN n).frozen? ⟨b, 386, none⟩ = false := hz
    rw [h0]
    go_wp2
    go_ret
    exact ⟨by rw [h0]; rfl, n, by rw [setIf, if_pos h0]⟩
  · obtain ⟨r, hr⟩ : ∃ r, r = btw h l s := ⟨_, rfl⟩
    rw [← hr] at h0
    have hb : (r == 0) = false := beq_eq_false_iff_ne.mpr h0
    have HR := Aside0.mk hr
    rw [← hr]
    clear hr
    go_enter Try.func31, Try.ntmps31
    go_wp2_with fail
    refine (between_C b h l s _ HH.out HL.out).mono ?_
    rintro e w1 ⟨rfl, ⟨⟨n, rfl⟩⟩⟩
    rw [← HR.out]
    go_wp2
    go_ret
    exact ⟨rfl, n, by rw [setIf, if_neg h0]⟩
end Go.Proofs.Ytcbejpmmlcdhnaa.PW
namespace Go.Proofs.Ytcbejpmmlcdhnaa.PW
open Go.RowKit Go.Proofs.YtcbejpmmlcdhnaaW.PrintWords Go.Proofs.YtcbejpmmlcdhnaaW.PrintLast Go.Proofs.YtcbejpmmlcdhnaaW.PrintMore
set_option linter.unusedVariables false
set_option linter.unusedSimpArgs false

def isB (v : Int) : Bool := decide (0 ≤ v ∧ v ≤ 2147483647)
theorem is_C (v : Int) (w : World) : Calls Try.prog 37 #[.int .i64 v] w fun e w' => e = .returned (.bool (isB v)) ∧ w' = w := by
  unfold isB
  by_cases h1 : 0 ≤ v
  · by_cases h2 : v ≤ 2147483647
    · go_enter Try.func37, Try.ntmps37
      go_wp2
      go_ret
      exact ⟨by simp [h1, h2], rfl⟩
    · go_enter Try.func37, Try.ntmps37
      go_wp2
      go_ret
      exact ⟨by simp [h2], rfl⟩
  · go_enter Try.func37, Try.ntmps37
    go_wp2
    go_ret
    exact ⟨by simp; omega, rfl⟩
theorem new_room (room fl o : Int) (w : World) (h : room < 1 ∨ 64 < room) : Calls Try.prog 18 #[.int .i64 room, .int .i64 fl, .int .i64 o] w fun e w' => e = .returned (.tuple #[.pointer none, .int .i64 1]) ∧ w' = w := by
  by_cases h1 : room < 1
  · go_enter Try.func18, Try.ntmps18
    go_wp2
    go_ret2
    exact ⟨rfl, rfl⟩
  · have h2 : 64 < room := by omega
    go_enter Try.func18, Try.ntmps18
    go_wp2
    go_ret2
    exact ⟨rfl, rfl⟩
/-- A ring's cells before anything is put in. -/
def zero66 : Array Value := ((List.replicate 64 ([Value.int .i64 0, .int .i64 0, .int .i64 0, .int .i64 0, .int .i64 0, .slice none 0 0] : List Value)).flatten ++ ([Value.int .i64 0, .int .i64 0, .int .i64 0, .int .i64 0, .int .i64 0] : List Value)).toArray
/-- A ring as New makes it. -/
def ring66 (room fl la ho o : Int) : Array Value := ((((zero66.setIfInBounds 384 (.int .i64 room)).setIfInBounds 385 (.int .i64 fl)).setIfInBounds 386 (.int .i64 la)).setIfInBounds 387 (.int .i64 ho)).setIfInBounds 388 (.int .i64 o)
theorem zero66_size : zero66.size = 389 := by kernel_rfl
theorem zero66_run : ∀ W : World, (zeroValue 66).run Try.prog W = .ok (.agg zero66) W := fun W => by kernel_rfl
set_option maxRecDepth 100000 in
theorem new_C (room fl o : Int) (w : World) (h1 : 1 ≤ room) (h2 : room ≤ 64) (hf : isB fl = true) (ho : isB o = true) : Calls Try.prog 18 #[.int .i64 room, .int .i64 fl, .int .i64 o] w fun e w' => e = .returned (.tuple #[.pointer (some ⟨w.heap.size, 0, none⟩), .int .i64 0]) ∧ w' = w.alloc (.cells (ring66 room fl fl fl o) 66) := by
  have hz := zero66_run
  have hzs := zero66_size
  obtain ⟨Z, hZ⟩ : ∃ Z, Z = zero66 := ⟨_, rfl⟩
  rw [← hZ] at hz hzs
  have HZ := Aside0.mk hZ
  clear hZ
  go_enter Try.func18, Try.ntmps18
  go_wp2_with fail
  refine (is_C fl _).mono ?_
  rintro e w1 ⟨rfl, rfl⟩
  rw [hf]
  go_wp2_with fail
  refine (is_C o _).mono ?_
  rintro e w1 ⟨rfl, rfl⟩
  rw [ho]
  go_wp2
  go_ret2
  rw [HZ.out]
  exact ⟨rfl, rfl⟩
theorem new_num (room fl o : Int) (w : World) (h1 : 1 ≤ room) (h2 : room ≤ 64) (hf : (isB fl && isB o) = false) : Calls Try.prog 18 #[.int .i64 room, .int .i64 fl, .int .i64 o] w fun e w' => e = .returned (.tuple #[.pointer none, .int .i64 3]) ∧ w' = w := by
  cases hfl : isB fl with
  | false =>
    go_enter Try.func18, Try.ntmps18
    go_wp2_with fail
    refine (is_C fl _).mono ?_
    rintro e w1 ⟨rfl, rfl⟩
    rw [hfl]
    go_wp2
    go_ret2
    exact ⟨rfl, rfl⟩
  | true =>
    have ho : isB o = false := by rw [hfl] at hf; simpa using hf
    go_enter Try.func18, Try.ntmps18
    go_wp2_with fail
    refine (is_C fl _).mono ?_
    rintro e w1 ⟨rfl, rfl⟩
    rw [hfl]
    go_wp2_with fail
    refine (is_C o _).mono ?_
    rintro e w1 ⟨rfl, rfl⟩
    rw [ho]
    go_wp2
    go_ret2
    exact ⟨rfl, rfl⟩
/-- What a fresh ring's cells are. -/
theorem ring66_cells (room fl la ho o : Int) : (ring66 room fl la ho o)[384]? = some (.int .i64 room) ∧ (ring66 room fl la ho o)[385]? = some (.int .i64 fl) ∧ (ring66 room fl la ho o)[386]? = some (.int .i64 la) ∧ (ring66 room fl la ho o)[387]? = some (.int .i64 ho) ∧ (ring66 room fl la ho o)[388]? = some (.int .i64 o) := by
  have hz := zero66_size
  unfold ring66
  refine ⟨?_, ?_, ?_, ?_, ?_⟩ <;> simp [Array.getElem?_setIfInBounds, hz]
end Go.Proofs.Ytcbejpmmlcdhnaa.PW
namespace Go.Proofs.Ytcbejpmmlcdhnaa.PW
open Go.RowKit Go.Proofs.YtcbejpmmlcdhnaaW.PrintWords Go.Proofs.YtcbejpmmlcdhnaaW.PrintLast Go.Proofs.YtcbejpmmlcdhnaaW.PrintMore
set_option linter.unusedVariables false
set_option linter.unusedSimpArgs false

theorem eq31_some (ad : Addr) (n c : Nat) : ∀ W : World, (binOp .eql 31 (.slice (some ad) n c) (.slice none 0 0)).run Try.prog W = .ok (.bool false) W := fun W => by kernel_rfl
theorem eq31_none (n c : Nat) : ∀ W : World, (binOp .eql 31 (.slice none n c) (.slice none 0 0)).run Try.prog W = .ok (.bool true) W := fun W => by kernel_rfl
set_option maxRecDepth 100000 in
theorem clone_nil (w : World) (n c : Nat) : Calls Try.prog 38 #[.slice none n c] w fun e w' => e = .returned (.slice none 0 0) ∧ w' = w := by
  have he := eq31_none n c
  go_enter Try.func38, Try.ntmps38
  go_wp2
  go_ret
  exact ⟨rfl, rfl⟩
end Go.Proofs.Ytcbejpmmlcdhnaa.PW
namespace Go.Proofs.Ytcbejpmmlcdhnaa.PW
open Go.RowKit Go.Proofs.YtcbejpmmlcdhnaaW.PrintWords Go.Proofs.YtcbejpmmlcdhnaaW.PrintLast Go.Proofs.YtcbejpmmlcdhnaaW.PrintMore
set_option linter.unusedVariables false
set_option linter.unusedSimpArgs false

theorem R_empty {α : Type} (d : Kd α) (e : Nat) (w : World) : d.R e (w.alloc (.cells #[] e)) w.heap.size (fun _ => True) (.slice (some ⟨w.heap.size, 0, none⟩) 0 0) [] :=
  ⟨fun _ _ => trivial, [], ⟨by simp, .inr ⟨w.heap.size, 0, #[], rfl, Nat.le_refl _, (by show (w.heap.push _)[w.heap.size]? = _; simp), Nat.le_refl _, Nat.zero_le _, by simp, by simp⟩⟩, ⟨by simp, fun j p hj => by simp at hj⟩⟩
set_option maxRecDepth 100000 in
theorem clone_some (ad : Addr) (n c : Nat) (l : List S55) (w : World) (hn : l.length = n) (hr : Kd.C k55 w (some ad) n l) (hm : n ≤ 2513169434843) : Calls Try.prog 38 #[.slice (some ad) n c] w fun e w' => ∃ v, e = .returned v ∧ Kd.R k55 55 w' w.heap.size (fun _ => True) v l ∧ Below w.heap.size w w' := by
  have HR := Aside0.mk hr
  have HN := Aside0.mk hn
  have he := eq31_some ad n c
  clear hr hn
  go_enter Try.func38, Try.ntmps38
  go_wp2_with (with_reducible refine stop_append rfl ?_)
  refine Kd.R_append_rows k55 (Rr := k55.K (w.alloc (.cells #[] 55))) (w0 := w) w.heap.size rfl (.tmp 5) (.tmp 6) 31 55 (.agg #[(.int .i64 0), (.string ⟨#[]⟩), (.string ⟨#[]⟩), (.int .i64 0), (.int .i64 0)]) 56 rfl Try.underlying31 info55 rfl (by decide) (by decide) _ [] l (some ad) n c (fun _ => True) (fun _ => False) rfl rfl (R_empty k55 55 w) ?_ (fun x cs h => by rw [k55_open h]; exact k55_mkM _ _ _ _) (fun k hk => hk.elim) (fun k hk => trivial) (below_alloc (Below.refl _ _) _) (by simp) (by simp; omega) ?_
  · have := Kd.C_alloc HR.out (.cells #[] 55)
    rw [← HN.out] at this ⊢
    exact this
  intro v1 w1 ho hb hg hat
  rw [List.nil_append] at ho
  have H1 := Aside0.mk ho
  have H2 := Aside0.mk hb
  clear ho hb hg hat
  go_wp2
  go_ret
  exact ⟨_, rfl, H1.out, H2.out⟩
theorem clone_C (A : Option Addr) (n c : Nat) (l : List S55) (w : World) (hn : l.length = n) (hr : Kd.C k55 w A n l) (hm : n ≤ 2513169434843) : Calls Try.prog 38 #[.slice A n c] w fun e w' => ∃ A2 c2, e = .returned (.slice A2 n c2) ∧ Kd.R k55 55 w' w.heap.size (fun _ => True) (.slice A2 n c2) l ∧ Below w.heap.size w w' := by
  have hmain : Calls Try.prog 38 #[.slice A n c] w fun e w' => ∃ v, e = .returned v ∧ Kd.R k55 55 w' w.heap.size (fun _ => True) v l ∧ Below w.heap.size w w' := by
    cases A with
    | some ad => exact clone_some ad n c l w hn hr hm
    | none =>
      have h0 : l = [] := by
        rcases Nat.eq_zero_or_pos n with h0 | h0
        · exact List.eq_nil_of_length_eq_zero (hn.trans h0)
        · obtain ⟨ad, h, _⟩ := hr.2.2 h0
          cases h
      subst h0
      refine (clone_nil w n c).mono ?_
      rintro e w1 ⟨rfl, rfl⟩
      exact ⟨_, rfl, Kd.R_nil _ _ _ _ _, Below.refl _ _⟩
  refine hmain.mono ?_
  rintro e w1 ⟨v, rfl, hv, hb⟩
  obtain ⟨A2, c2, rfl⟩ := Kd.R_slice hv
  rw [hn] at hv ⊢
  exact ⟨A2, c2, rfl, hv, hb⟩
end Go.Proofs.Ytcbejpmmlcdhnaa.PW
namespace Go.Proofs.Ytcbejpmmlcdhnaa.PW
open Go.RowKit Go.Proofs.YtcbejpmmlcdhnaaW.PrintWords Go.Proofs.YtcbejpmmlcdhnaaW.PrintLast Go.Proofs.YtcbejpmmlcdhnaaW.PrintMore
set_option linter.unusedVariables false
set_option linter.unusedSimpArgs false

/-- An entry. -/
abbrev Ent := S33
/-- The six cells of entry k. -/
def EntAt (W : World) (base : Nat) (ok : Nat → Prop) (C : Array Value) (k : Nat) (x : Ent) : Prop :=
  C[k * 6]? = some (.int .i64 x.f0) ∧ C[k * 6 + 1]? = some (.int .i64 x.f1) ∧ C[k * 6 + 2]? = some (.int .i64 x.f2) ∧ C[k * 6 + 3]? = some (.int .i64 x.f3) ∧ C[k * 6 + 4]? = some (.int .i64 x.f4) ∧
    ∃ v, C[k * 6 + 5]? = some v ∧ Kd.R k55 55 W base ok v x.f5
/-- A ring in block b. -/
def RingAt (W : World) (base : Nat) (ok : Nat → Prop) (b : Nat) (room fl la ho o : Int) (E : Nat → Ent) : Prop :=
  base ≤ b ∧ ok b ∧ ∃ C : Array Value, W.heap[b]? = some (.cells C 66 (0, 0)) ∧ C.size = 389 ∧ C[384]? = some (.int .i64 room) ∧ C[385]? = some (.int .i64 fl) ∧ C[386]? = some (.int .i64 la) ∧ C[387]? = some (.int .i64 ho) ∧ C[388]? = some (.int .i64 o) ∧
    ∀ k, k < 64 → EntAt W base (fun j => ok j ∧ j ≠ b) C k (E k)
section
variable {W W' : World} {base b : Nat} {ok ok' : Nat → Prop} {room fl la ho o : Int} {E : Nat → Ent}
theorem RingAt_mono (h : RingAt W base ok b room fl la ho o E) (hk : ∀ k, ok k → ok' k) : RingAt W base ok' b room fl la ho o E := by
  obtain ⟨h1, h2, C, h3, h4, h5, h6, h7, h8, h9, h10⟩ := h
  refine ⟨h1, hk b h2, C, h3, h4, h5, h6, h7, h8, h9, fun k hk' => ?_⟩
  obtain ⟨e1, e2, e3, e4, e5, v, e6, e7⟩ := h10 k hk'
  exact ⟨e1, e2, e3, e4, e5, v, e6, Kd.R_mono e7 (fun j hj => ⟨hk j hj.1, hj.2⟩)⟩
theorem RingAt_step (h : RingAt W base ok b room fl la ho o E) (hm : ∀ k, ok k → k < W.heap.size → W'.heap[k]? = W.heap[k]?) : RingAt W' base ok b room fl la ho o E := by
  obtain ⟨h1, h2, C, h3, h4, h5, h6, h7, h8, h9, h10⟩ := h
  refine ⟨h1, h2, C, (hm b h2 (Array.getElem?_eq_some_iff.1 h3).1).trans h3, h4, h5, h6, h7, h8, h9, fun k hk' => ?_⟩
  obtain ⟨e1, e2, e3, e4, e5, v, e6, e7⟩ := h10 k hk'
  exact ⟨e1, e2, e3, e4, e5, v, e6, Kd.R_step e7 (fun j hj => hm j hj.1)⟩
theorem RingAt_cells (h : RingAt W base ok b room fl la ho o E) : W.cell? ⟨b, 384, none⟩ = some (.int .i64 room) ∧ W.cell? ⟨b, 385, none⟩ = some (.int .i64 fl) ∧ W.cell? ⟨b, 386, none⟩ = some (.int .i64 la) ∧ W.cell? ⟨b, 387, none⟩ = some (.int .i64 ho) ∧ W.cell? ⟨b, 388, none⟩ = some (.int .i64 o) := by
  obtain ⟨h1, h2, C, h3, h4, h5, h6, h7, h8, h9, h10⟩ := h
  exact ⟨(blk_cell h3 384).trans h5, (blk_cell h3 385).trans h6, (blk_cell h3 386).trans h7, (blk_cell h3 387).trans h8, (blk_cell h3 388).trans h9⟩
theorem RingAt_hold (h : RingAt W base ok b room fl la ho o E) (x : Int) : RingAt (W.setCell ⟨b, 387, none⟩ (.int .i64 x)) base ok b room fl la x o E := by
  obtain ⟨h1, h2, C, h3, h4, h5, h6, h7, h8, h9, h10⟩ := h
  refine ⟨h1, h2, C.setIfInBounds 387 (.int .i64 x), blk_set h3 387 (.int .i64 x), by simp [h4], ?_, ?_, ?_, ?_, ?_, fun k hk' => ?_⟩
  · first | (rw [Array.getElem?_setIfInBounds, if_neg (by decide)]; assumption) | (rw [Array.getElem?_setIfInBounds, if_pos rfl, if_pos (by omega)])
  · first | (rw [Array.getElem?_setIfInBounds, if_neg (by decide)]; assumption) | (rw [Array.getElem?_setIfInBounds, if_pos rfl, if_pos (by omega)])
  · first | (rw [Array.getElem?_setIfInBounds, if_neg (by decide)]; assumption) | (rw [Array.getElem?_setIfInBounds, if_pos rfl, if_pos (by omega)])
  · first | (rw [Array.getElem?_setIfInBounds, if_neg (by decide)]; assumption) | (rw [Array.getElem?_setIfInBounds, if_pos rfl, if_pos (by omega)])
  · first | (rw [Array.getElem?_setIfInBounds, if_neg (by decide)]; assumption) | (rw [Array.getElem?_setIfInBounds, if_pos rfl, if_pos (by omega)])
  · obtain ⟨e1, e2, e3, e4, e5, v, e6, e7⟩ := h10 k hk'
    have hs : ∀ j, j < 384 → (C.setIfInBounds 387 (.int .i64 x))[j]? = C[j]? := fun j hj => by rw [Array.getElem?_setIfInBounds, if_neg (by omega)]
    exact ⟨(hs _ (by omega)).trans e1, (hs _ (by omega)).trans e2, (hs _ (by omega)).trans e3, (hs _ (by omega)).trans e4, (hs _ (by omega)).trans e5, v, (hs _ (by omega)).trans e6, Kd.R_step e7 (fun j hj _ => Below.heap_setCell W _ _ j hj.2)⟩
theorem RingAt_last (h : RingAt W base ok b room fl la ho o E) (x : Int) : RingAt (W.setCell ⟨b, 386, none⟩ (.int .i64 x)) base ok b room fl x ho o E := by
  obtain ⟨h1, h2, C, h3, h4, h5, h6, h7, h8, h9, h10⟩ := h
  refine ⟨h1, h2, C.setIfInBounds 386 (.int .i64 x), blk_set h3 386 (.int .i64 x), by simp [h4], ?_, ?_, ?_, ?_, ?_, fun k hk' => ?_⟩
  · first | (rw [Array.getElem?_setIfInBounds, if_neg (by decide)]; assumption) | (rw [Array.getElem?_setIfInBounds, if_pos rfl, if_pos (by omega)])
  · first | (rw [Array.getElem?_setIfInBounds, if_neg (by decide)]; assumption) | (rw [Array.getElem?_setIfInBounds, if_pos rfl, if_pos (by omega)])
  · first | (rw [Array.getElem?_setIfInBounds, if_neg (by decide)]; assumption) | (rw [Array.getElem?_setIfInBounds, if_pos rfl, if_pos (by omega)])
  · first | (rw [Array.getElem?_setIfInBounds, if_neg (by decide)]; assumption) | (rw [Array.getElem?_setIfInBounds, if_pos rfl, if_pos (by omega)])
  · first | (rw [Array.getElem?_setIfInBounds, if_neg (by decide)]; assumption) | (rw [Array.getElem?_setIfInBounds, if_pos rfl, if_pos (by omega)])
  · obtain ⟨e1, e2, e3, e4, e5, v, e6, e7⟩ := h10 k hk'
    have hs : ∀ j, j < 384 → (C.setIfInBounds 386 (.int .i64 x))[j]? = C[j]? := fun j hj => by rw [Array.getElem?_setIfInBounds, if_neg (by omega)]
    exact ⟨(hs _ (by omega)).trans e1, (hs _ (by omega)).trans e2, (hs _ (by omega)).trans e3, (hs _ (by omega)).trans e4, (hs _ (by omega)).trans e5, v, (hs _ (by omega)).trans e6, Kd.R_step e7 (fun j hj _ => Below.heap_setCell W _ _ j hj.2)⟩
theorem RingAt_floor (h : RingAt W base ok b room fl la ho o E) (x : Int) : RingAt (W.setCell ⟨b, 385, none⟩ (.int .i64 x)) base ok b room x la ho o E := by
  obtain ⟨h1, h2, C, h3, h4, h5, h6, h7, h8, h9, h10⟩ := h
  refine ⟨h1, h2, C.setIfInBounds 385 (.int .i64 x), blk_set h3 385 (.int .i64 x), by simp [h4], ?_, ?_, ?_, ?_, ?_, fun k hk' => ?_⟩
  · first | (rw [Array.getElem?_setIfInBounds, if_neg (by decide)]; assumption) | (rw [Array.getElem?_setIfInBounds, if_pos rfl, if_pos (by omega)])
  · first | (rw [Array.getElem?_setIfInBounds, if_neg (by decide)]; assumption) | (rw [Array.getElem?_setIfInBounds, if_pos rfl, if_pos (by omega)])
  · first | (rw [Array.getElem?_setIfInBounds, if_neg (by decide)]; assumption) | (rw [Array.getElem?_setIfInBounds, if_pos rfl, if_pos (by omega)])
  · first | (rw [Array.getElem?_setIfInBounds, if_neg (by decide)]; assumption) | (rw [Array.getElem?_setIfInBounds, if_pos rfl, if_pos (by omega)])
  · first | (rw [Array.getElem?_setIfInBounds, if_neg (by decide)]; assumption) | (rw [Array.getElem?_setIfInBounds, if_pos rfl, if_pos (by omega)])
  · obtain ⟨e1, e2, e3, e4, e5, v, e6, e7⟩ := h10 k hk'
    have hs : ∀ j, j < 384 → (C.setIfInBounds 385 (.int .i64 x))[j]? = C[j]? := fun j hj => by rw [Array.getElem?_setIfInBounds, if_neg (by omega)]
    exact ⟨(hs _ (by omega)).trans e1, (hs _ (by omega)).trans e2, (hs _ (by omega)).trans e3, (hs _ (by omega)).trans e4, (hs _ (by omega)).trans e5, v, (hs _ (by omega)).trans e6, Kd.R_step e7 (fun j hj _ => Below.heap_setCell W _ _ j hj.2)⟩
theorem RingAt_of (h : RingAt W base ok b room fl la ho o E) (x : Int) : RingAt (W.setCell ⟨b, 388, none⟩ (.int .i64 x)) base ok b room fl la ho x E := by
  obtain ⟨h1, h2, C, h3, h4, h5, h6, h7, h8, h9, h10⟩ := h
  refine ⟨h1, h2, C.setIfInBounds 388 (.int .i64 x), blk_set h3 388 (.int .i64 x), by simp [h4], ?_, ?_, ?_, ?_, ?_, fun k hk' => ?_⟩
  · first | (rw [Array.getElem?_setIfInBounds, if_neg (by decide)]; assumption) | (rw [Array.getElem?_setIfInBounds, if_pos rfl, if_pos (by omega)])
  · first | (rw [Array.getElem?_setIfInBounds, if_neg (by decide)]; assumption) | (rw [Array.getElem?_setIfInBounds, if_pos rfl, if_pos (by omega)])
  · first | (rw [Array.getElem?_setIfInBounds, if_neg (by decide)]; assumption) | (rw [Array.getElem?_setIfInBounds, if_pos rfl, if_pos (by omega)])
  · first | (rw [Array.getElem?_setIfInBounds, if_neg (by decide)]; assumption) | (rw [Array.getElem?_setIfInBounds, if_pos rfl, if_pos (by omega)])
  · first | (rw [Array.getElem?_setIfInBounds, if_neg (by decide)]; assumption) | (rw [Array.getElem?_setIfInBounds, if_pos rfl, if_pos (by omega)])
  · obtain ⟨e1, e2, e3, e4, e5, v, e6, e7⟩ := h10 k hk'
    have hs : ∀ j, j < 384 → (C.setIfInBounds 388 (.int .i64 x))[j]? = C[j]? := fun j hj => by rw [Array.getElem?_setIfInBounds, if_neg (by omega)]
    exact ⟨(hs _ (by omega)).trans e1, (hs _ (by omega)).trans e2, (hs _ (by omega)).trans e3, (hs _ (by omega)).trans e4, (hs _ (by omega)).trans e5, v, (hs _ (by omega)).trans e6, Kd.R_step e7 (fun j hj _ => Below.heap_setCell W _ _ j hj.2)⟩
end
end Go.Proofs.Ytcbejpmmlcdhnaa.PW
namespace Go.Proofs.Ytcbejpmmlcdhnaa.PW
open Go.RowKit Go.Proofs.YtcbejpmmlcdhnaaW.PrintWords Go.Proofs.YtcbejpmmlcdhnaaW.PrintLast Go.Proofs.YtcbejpmmlcdhnaaW.PrintMore
set_option linter.unusedVariables false
set_option linter.unusedSimpArgs false

/-- All but the blocks of S (and what is new) is as it was. -/
structure Frm (w w' : World) (S : Nat → Prop) : Prop where
  os : w'.os = w.os
  tape : w'.tape = w.tape
  output : w'.output = w.output
  size : w.heap.size ≤ w'.heap.size
  block : ∀ k, k < w.heap.size → ¬ S k → w'.heap[k]? = w.heap[k]?
section
variable {w w1 w2 : World} {S S1 S2 : Nat → Prop}
theorem Frm.refl (w : World) (S : Nat → Prop) : Frm w w S := ⟨rfl, rfl, rfl, Nat.le_refl _, fun _ _ _ => rfl⟩
theorem Frm.mono (h : Frm w w1 S) (hs : ∀ k, S k → k < w.heap.size → S1 k) : Frm w w1 S1 := ⟨h.os, h.tape, h.output, h.size, fun k hk hn => h.block k hk (fun hS => hn (hs k hS hk))⟩
theorem Frm.then_ (h : Frm w w1 S) (k : Frm w1 w2 S1) (hs : ∀ k, S1 k → k < w.heap.size → S k) : Frm w w2 S :=
  ⟨k.os.trans h.os, k.tape.trans h.tape, k.output.trans h.output, Nat.le_trans h.size k.size, fun i hi hn => (k.block i (Nat.lt_of_lt_of_le hi h.size) (fun h1 => hn (hs i h1 hi))).trans (h.block i hi hn)⟩
theorem Frm.of_below (h : Below w.heap.size w w1) (S : Nat → Prop) : Frm w w1 S := ⟨h.os, h.tape, h.output, h.size, fun k hk _ => h.block k hk⟩
theorem Frm.of_grown {row : Option Nat} (h : w.grownBy w1 row) (hs : ∀ k, row = some k → S k) : Frm w w1 S := ⟨h.os, h.tape, h.output, h.size, fun k hk hn => h.block k hk (fun e => hn (hs k e.symm))⟩
theorem Frm.set_ (h : Frm w w1 S) {p : Addr} (hp : S p.block ∨ w.heap.size ≤ p.block) (u : Value) : Frm w (w1.setCell p u) S :=
  ⟨h.os, h.tape, h.output, by simpa [World.setCell] using h.size, fun k hk hn => (Below.heap_setCell w1 p u k (fun e => hp.elim (fun h2 => hn (e ▸ h2)) (fun h2 => by omega))).trans (h.block k hk hn)⟩
theorem Frm.below {B : Nat} (h : Frm w w1 S) (hs : ∀ k, S k → k < w.heap.size → B ≤ k) (hB : B ≤ w.heap.size) : Below B w w1 := ⟨h.os, h.tape, h.output, h.size, fun k hk => h.block k (by omega) (fun h2 => by have := hs k h2 (by omega); omega)⟩
theorem Frm.drew (h : Frm w w1 S) : Frm w w1.drew S := ⟨h.os, h.tape, h.output, h.size, h.block⟩
theorem Frm.drewN (h : Frm w w1 S) (n : Nat) : Frm w (w1.drewN n) S := ⟨h.os, h.tape, h.output, h.size, h.block⟩
theorem Frm.alloc (h : Frm w w1 S) (o : Obj) : Frm w (w1.alloc o) S := h.then_ (Frm.of_below (below_alloc (Below.refl _ _) o) (fun _ => False)) (fun _ hk => hk.elim)
theorem Frm.step (h : Frm w w1 S) (k : Below w1.heap.size w1 w2) : Frm w w2 S := h.then_ (Frm.of_below k (fun _ => False)) (fun _ hk => hk.elim)
theorem Frm.blk {g : Nat} {o : Obj} (h : Frm w w1 S) (hb : w.heap[g]? = some o) (hn : ¬ S g) : w1.heap[g]? = some o := (h.block g (blk_lt hb) hn).trans hb
end
section
variable {α : Type} {d : Kd α} {e base : Nat} {ok S : Nat → Prop} {w w1 : World} {v : Value} {xs : List α}
theorem R_frm (h : d.R e w base ok v xs) (hf : Frm w w1 S) (hn : ∀ k, ok k → ¬ S k) : d.R e w1 base ok v xs := Kd.R_step h (fun k hk hlt => hf.block k hlt (hn k hk))
theorem S_frm (h : Kd.S d e w base ok v xs) (hf : Frm w w1 S) (hn : ∀ k, ok k → ¬ S k) : Kd.S d e w1 base ok v xs := Kd.S_step h (fun k hk hlt => hf.block k hlt (hn k hk))
end
/-- A ring: its room, its floor's stamp and view, its hold, its entries. -/
structure RS where
  room : Nat
  fl : Nat
  o : Int
  ho : Nat
  l : List S33
def RS.la (s : RS) : Nat := s.fl + s.l.length
def RS.lv (s : RS) : Int := match s.l.getLast? with
  | none => s.o
  | some e => e.f1
def RS.zero : RS := ⟨0, 0, 0, 0, []⟩
def opsOk (e : S33) : Prop := e.f5.length ≤ 2513169434843
/-- The numbers are as they must be. -/
def RS.ok (s : RS) : Prop := s.room ≤ 64 ∧ s.l.length ≤ s.room ∧ s.fl ≤ s.ho ∧ s.ho ≤ s.la ∧ s.la ≤ 2147483647 ∧ ∀ e ∈ s.l, opsOk e
def ptr (p : Option Nat) : Value := .pointer (p.map fun b => ⟨b, 0, none⟩)
/-- A ring in memory (none: the nil ring). -/
def RingIs (W : World) (base : Nat) (ok : Nat → Prop) (p : Option Nat) (s : RS) : Prop := s.ok ∧ match p with
  | none => s = RS.zero
  | some b => ∃ E, RingAt W base ok b s.room s.fl s.la s.ho s.o E ∧ ∀ i, i < s.l.length → some (E ((s.fl + 1 + i) % s.room)) = s.l[i]?
section
variable {W W' : World} {base b : Nat} {ok ok' : Nat → Prop} {p : Option Nat} {s : RS}
theorem RingIs_mono (h : RingIs W base ok p s) (hk : ∀ k, ok k → ok' k) : RingIs W base ok' p s := by
  cases p with
  | none => exact h
  | some b => obtain ⟨h1, E, h2, h3⟩ := h; exact ⟨h1, E, RingAt_mono h2 hk, h3⟩
theorem RingIs_step (h : RingIs W base ok p s) (hm : ∀ k, ok k → k < W.heap.size → W'.heap[k]? = W.heap[k]?) : RingIs W' base ok p s := by
  cases p with
  | none => exact h
  | some b => obtain ⟨h1, E, h2, h3⟩ := h; exact ⟨h1, E, RingAt_step h2 hm, h3⟩
theorem RingIs_frm {S : Nat → Prop} (h : RingIs W base ok p s) (hf : Frm W W' S) (hn : ∀ k, ok k → ¬ S k) : RingIs W' base ok p s := RingIs_step h (fun k hk hlt => hf.block k hlt (hn k hk))
theorem RingIs_below (h : RingIs W base ok p s) (hf : Below W.heap.size W W') : RingIs W' base ok p s := RingIs_step h (fun k _ hlt => hf.block k hlt)
theorem RingAt_frozen {room fl la ho o : Int} {E : Nat → Ent} (h : RingAt W base ok b room fl la ho o E) (i : Nat) : W.frozen? ⟨b, i, none⟩ = false := by
  obtain ⟨h1, h2, C, h3, h4, h5, h6, h7, h8, h9, h10⟩ := h
  exact blk_frozen h3 i
theorem RingAt_view {room fl la ho o : Int} {E : Nat → Ent} (h : RingAt W base ok b room fl la ho o E) (k : Nat) (hk : k < 64) : W.cell? ⟨b, k * 6 + 1, none⟩ = some (.int .i64 (E k).f1) := by
  obtain ⟨h1, h2, C, h3, h4, h5, h6, h7, h8, h9, h10⟩ := h
  exact (blk_cell h3 _).trans (h10 k hk).2.1
theorem RS.last_of {s : RS} (hn : s.l ≠ []) : ∃ x, s.l.getLast? = some x ∧ s.l[s.l.length - 1]? = some x ∧ s.lv = x.f1 := by
  cases h : s.l.getLast? with
  | none => exact absurd (List.getLast?_eq_none_iff.1 h) hn
  | some x => exact ⟨x, rfl, by rw [← List.getLast?_eq_getElem?]; exact h, by simp [RS.lv, h]⟩
end
theorem floor_R {W : World} {base : Nat} {ok : Nat → Prop} {p : Option Nat} {s : RS} (h : RingIs W base ok p s) :
    Calls Try.prog 20 #[ptr p] W fun e w' => e = .returned (.tuple #[.int .i64 (s.fl : Int), .int .i64 s.o]) ∧ Drawn0 W w' := by
  cases p with
  | none =>
    obtain ⟨_, rfl⟩ := h
    refine (floor_nil W).mono ?_
    rintro e w1 ⟨rfl, rfl⟩
    exact ⟨rfl, Drawn0.refl _⟩
  | some b =>
    obtain ⟨h1, E, h2, h3⟩ := h
    obtain ⟨c1, c2, c3, c4, c5⟩ := RingAt_cells h2
    exact floor_C b _ _ W c2 c5
theorem last_R {W : World} {base : Nat} {ok : Nat → Prop} {p : Option Nat} {s : RS} (h : RingIs W base ok p s) :
    Calls Try.prog 15 #[ptr p] W fun e w' => e = .returned (.tuple #[.int .i64 (s.la : Int), .int .i64 s.lv]) ∧ Drawn0 W w' := by
  cases p with
  | none =>
    obtain ⟨_, rfl⟩ := h
    exact last_nil W
  | some b =>
    obtain ⟨h1, E, h2, h3⟩ := h
    obtain ⟨c1, c2, c3, c4, c5⟩ := RingAt_cells h2
    by_cases hn : s.l = []
    · have hla : s.la = s.fl := by simp [RS.la, hn]
      have hlv : s.lv = s.o := by simp [RS.lv, hn]
      rw [hla, hlv]
      exact last_none b _ _ W c2 (by rw [hla] at c3; exact c3) c5
    · obtain ⟨x, hx1, hx2, hx3⟩ := RS.last_of hn
      have hpos : 0 < s.l.length := List.length_pos_iff.2 hn
      obtain ⟨r1, r2, r3, r4, r5, r6⟩ := h1
      have hE := h3 (s.l.length - 1) (by omega)
      rw [hx2, show s.fl + 1 + (s.l.length - 1) = s.la by simp only [RS.la]; omega] at hE
      have hE : E (s.la % s.room) = x := Option.some.inj hE
      have hm := Nat.mod_lt s.la (show 0 < s.room by omega)
      rw [hx3, ← hE]
      exact last_C b s.room s.fl s.la _ _ W c1 c2 c3 (RingAt_view h2 _ (by omega)) (by omega) (by omega) (by omega) rfl (by simp only [RS.la]; omega)
/-- What Hold and Cut do. -/
def RS.code (s : RS) (n : Int) : Int := btw s.ho s.la n
def RS.hold (s : RS) (n : Int) : RS := if s.code n = 0 then { s with ho := n.toNat } else s
def RS.cut (s : RS) (n : Int) : RS := if s.code n = 0 then { s with l := s.l.take (n.toNat - s.fl) } else s
theorem btw_zero {h l s : Int} : btw h l s = 0 ↔ h ≤ s ∧ s ≤ l := by
  unfold btw
  split
  · simp; omega
  · split
    · simp; omega
    · simp; omega
/-- Only one block of a ring is written by a call. -/
def own1 (p : Option Nat) (k : Nat) : Prop := p = some k
theorem hold_R {W : World} {base : Nat} {ok : Nat → Prop} {p : Option Nat} {s : RS} (n : Int) (h : RingIs W base ok p s) :
    Calls Try.prog 17 #[ptr p, .int .i64 n] W fun e w' => e = .returned (.int .i64 (s.code n)) ∧ RingIs w' base ok p (s.hold n) ∧ Frm W w' (own1 p) := by
  cases p with
  | none =>
    obtain ⟨h1, rfl⟩ := h
    refine (hold_nil n W).mono ?_
    rintro e w1 ⟨rfl, rfl⟩
    have : RS.hold RS.zero n = RS.zero := by
      unfold RS.hold
      split
      · rename_i h2
        obtain ⟨h3, h4⟩ := btw_zero.1 h2
        have : n = 0 := by simp [RS.zero, RS.la] at h3 h4; omega
        subst this
        rfl
      · rfl
    exact ⟨rfl, ⟨by rw [this]; exact h1, this⟩, Frm.refl _ _⟩
  | some b =>
    obtain ⟨h1, E, h2, h3⟩ := h
    obtain ⟨c1, c2, c3, c4, c5⟩ := RingAt_cells h2
    refine (hold_C b _ _ n W c4 c3 (RingAt_frozen h2 _)).mono ?_
    rintro e w1 ⟨rfl, m, rfl⟩
    refine ⟨rfl, ?_⟩
    have hdr : RingAt (W.drewN m) base ok b s.room s.fl s.la s.ho s.o E := RingAt_step h2 (fun _ _ _ => rfl)
    unfold RS.hold setIf RS.code
    split
    · rename_i h4
      obtain ⟨h5, h6⟩ := btw_zero.1 h4
      obtain ⟨r1, r2, r3, r4, r5, r6⟩ := h1
      have hn : ((n.toNat : Nat) : Int) = n := by omega
      refine ⟨⟨⟨r1, r2, by show s.fl ≤ n.toNat; omega, by show n.toNat ≤ s.la; omega, r5, r6⟩, E, ?_, h3⟩, ?_⟩
      · have := RingAt_hold hdr n
        rw [← hn] at this
        exact hn ▸ this
      · exact Frm.set_ (p := ⟨b, 387, none⟩) ((Frm.refl W (own1 (some b))).drewN m) (.inl (show own1 (some b) b from rfl)) _
    · exact ⟨⟨h1, E, hdr, h3⟩, (Frm.refl W _).drewN m⟩
theorem cut_R {W : World} {base : Nat} {ok : Nat → Prop} {p : Option Nat} {s : RS} (n : Int) (h : RingIs W base ok p s) :
    Calls Try.prog 31 #[ptr p, .int .i64 n] W fun e w' => e = .returned (.int .i64 (s.code n)) ∧ RingIs w' base ok p (s.cut n) ∧ Frm W w' (own1 p) := by
  cases p with
  | none =>
    obtain ⟨h1, rfl⟩ := h
    refine (cut_nil n W).mono ?_
    rintro e w1 ⟨rfl, rfl⟩
    have : RS.cut RS.zero n = RS.zero := by
      unfold RS.cut
      split <;> simp [RS.zero]
    exact ⟨rfl, ⟨by rw [this]; exact h1, this⟩, Frm.refl _ _⟩
  | some b =>
    obtain ⟨h1, E, h2, h3⟩ := h
    obtain ⟨c1, c2, c3, c4, c5⟩ := RingAt_cells h2
    refine (cut_C b _ _ n W c4 c3 (RingAt_frozen h2 _)).mono ?_
    rintro e w1 ⟨rfl, m, rfl⟩
    refine ⟨rfl, ?_⟩
    have hdr : RingAt (W.drewN m) base ok b s.room s.fl s.la s.ho s.o E := RingAt_step h2 (fun _ _ _ => rfl)
    unfold RS.cut setIf RS.code
    split
    · rename_i h4
      obtain ⟨h5, h6⟩ := btw_zero.1 h4
      obtain ⟨r1, r2, r3, r4, r5, r6⟩ := h1
      have hla : s.la = s.fl + s.l.length := rfl
      have hlen : (s.l.take (n.toNat - s.fl)).length = n.toNat - s.fl := by rw [List.length_take]; omega
      have hnl : s.fl + (s.l.take (n.toNat - s.fl)).length = n.toNat := by omega
      have hn : ((n.toNat : Nat) : Int) = n := by omega
      refine ⟨⟨⟨r1, by show (s.l.take (n.toNat - s.fl)).length ≤ s.room; omega, r3, by show s.ho ≤ s.fl + (s.l.take (n.toNat - s.fl)).length; omega, by show s.fl + (s.l.take (n.toNat - s.fl)).length ≤ _; omega, fun e he => r6 e (List.mem_of_mem_take he)⟩, E, ?_, ?_⟩, ?_⟩
      · have := RingAt_last hdr n
        simp only [RS.la, hnl]
        rw [hn]
        exact this
      · intro i hi
        have hi : i < (s.l.take (n.toNat - s.fl)).length := hi
        have : (s.l.take (n.toNat - s.fl))[i]? = s.l[i]? := List.getElem?_take_of_lt (by omega)
        exact (h3 i (by omega)).trans this.symm
      · exact Frm.set_ (p := ⟨b, 386, none⟩) ((Frm.refl W (own1 (some b))).drewN m) (.inl (show own1 (some b) b from rfl)) _
    · exact ⟨⟨h1, E, hdr, h3⟩, (Frm.refl W _).drewN m⟩
end Go.Proofs.Ytcbejpmmlcdhnaa.PW
namespace Go.Proofs.Ytcbejpmmlcdhnaa.PW
open Go.RowKit Go.Proofs.YtcbejpmmlcdhnaaW.PrintWords Go.Proofs.YtcbejpmmlcdhnaaW.PrintLast Go.Proofs.YtcbejpmmlcdhnaaW.PrintMore
set_option linter.unusedVariables false
set_option linter.unusedSimpArgs false

section
variable {W : World} {base : Nat} {ok : Nat → Prop} {p : Option Nat} {s : RS}
set_option maxRecDepth 100000 in
theorem append_max (h : RingIs W base ok p s) (a0 a1 a2 a3 a4 : Int) (v : Value) (hb : ((s.la : Int) == 2147483647) = true) :
    Calls Try.prog 16 #[ptr p, .agg #[.int .i64 a0, .int .i64 a1, .int .i64 a2, .int .i64 a3, .int .i64 a4, v]] W fun e w' => e = .returned (.int .i64 3) ∧ Below W.heap.size W w' := by
  have H := Aside0.mk h
  clear h
  go_enter Try.func16, Try.ntmps16
  go_wp2_with fail
  refine (last_R (RingIs_below H.out (below_alloc (Below.refl _ _) _))).mono ?_
  rintro e w1 ⟨rfl, ⟨⟨n1, rfl⟩⟩⟩
  go_wp2
  go_ret
  exact ⟨rfl, pw_below_drewN (below_alloc (Below.refl _ _) _) _⟩
set_option maxRecDepth 100000 in
theorem append_view (h : RingIs W base ok p s) (a0 a1 a2 a3 a4 : Int) (v : Value) (hb : ((s.la : Int) == 2147483647) = false) (hb2 : isB a1 = false) :
    Calls Try.prog 16 #[ptr p, .agg #[.int .i64 a0, .int .i64 a1, .int .i64 a2, .int .i64 a3, .int .i64 a4, v]] W fun e w' => e = .returned (.int .i64 3) ∧ Below W.heap.size W w' := by
  have H := Aside0.mk h
  clear h
  go_enter Try.func16, Try.ntmps16
  go_wp2_with fail
  refine (last_R (RingIs_below H.out (below_alloc (Below.refl _ _) _))).mono ?_
  rintro e w1 ⟨rfl, ⟨⟨n1, rfl⟩⟩⟩
  go_wp2_with fail
  refine (is_C a1 _).mono ?_
  rintro e w1 ⟨rfl, rfl⟩
  rw [hb2]
  go_wp2
  go_ret
  exact ⟨rfl, pw_below_drewN (below_alloc (Below.refl _ _) _) _⟩
set_option maxRecDepth 100000 in
theorem append_gap (h : RingIs W base ok p s) (a0 a1 a2 a3 a4 : Int) (v : Value) (hb : ((s.la : Int) == 2147483647) = false) (hb2 : isB a1 = true) (hb3 : (a0 != (s.la : Int) + 1) = true) (hlt : (s.la : Int) ≤ 2147483647) :
    Calls Try.prog 16 #[ptr p, .agg #[.int .i64 a0, .int .i64 a1, .int .i64 a2, .int .i64 a3, .int .i64 a4, v]] W fun e w' => e = .returned (.int .i64 61) ∧ Below W.heap.size W w' := by
  have H := Aside0.mk h
  clear h
  go_enter Try.func16, Try.ntmps16
  go_wp2_with fail
  refine (last_R (RingIs_below H.out (below_alloc (Below.refl _ _) _))).mono ?_
  rintro e w1 ⟨rfl, ⟨⟨n1, rfl⟩⟩⟩
  go_wp2_with fail
  refine (is_C a1 _).mono ?_
  rintro e w1 ⟨rfl, rfl⟩
  rw [hb2]
  go_wp2
  go_ret
  exact ⟨rfl, pw_below_drewN (below_alloc (Below.refl _ _) _) _⟩
set_option maxRecDepth 100000 in
theorem append_arg (h : RingIs W base ok p s) (a0 a1 a2 a3 a4 : Int) (v : Value) (hb : ((s.la : Int) == 2147483647) = false) (hb2 : isB a1 = true) (hb3 : (a0 != (s.la : Int) + 1) = false) (hb4 : decide (a1 < s.lv) = true) (hlt : (s.la : Int) ≤ 2147483647) :
    Calls Try.prog 16 #[ptr p, .agg #[.int .i64 a0, .int .i64 a1, .int .i64 a2, .int .i64 a3, .int .i64 a4, v]] W fun e w' => e = .returned (.int .i64 1) ∧ Below W.heap.size W w' := by
  have H := Aside0.mk h
  clear h
  go_enter Try.func16, Try.ntmps16
  go_wp2_with fail
  refine (last_R (RingIs_below H.out (below_alloc (Below.refl _ _) _))).mono ?_
  rintro e w1 ⟨rfl, ⟨⟨n1, rfl⟩⟩⟩
  go_wp2_with fail
  refine (is_C a1 _).mono ?_
  rintro e w1 ⟨rfl, rfl⟩
  rw [hb2]
  go_wp2
  go_ret
  exact ⟨rfl, pw_below_drewN (below_alloc (Below.refl _ _) _) _⟩
end
end Go.Proofs.Ytcbejpmmlcdhnaa.PW
namespace Go.Proofs.Ytcbejpmmlcdhnaa.PW
open Go.RowKit Go.Proofs.YtcbejpmmlcdhnaaW.PrintWords Go.Proofs.YtcbejpmmlcdhnaaW.PrintLast Go.Proofs.YtcbejpmmlcdhnaaW.PrintMore
set_option linter.unusedVariables false
set_option linter.unusedSimpArgs false

section
variable {W : World} {base : Nat} {ok : Nat → Prop} {b : Nat} {s : RS}
set_option maxRecDepth 100000 in
theorem append_nil (h : RingIs W base ok none s) (a0 a1 a2 a3 a4 : Int) (v : Value) (hb : ((s.la : Int) == 2147483647) = false) (hb2 : isB a1 = true) (hb3 : (a0 != (s.la : Int) + 1) = false) (hb4 : decide (a1 < s.lv) = false) (hlt : (s.la : Int) ≤ 2147483647) :
    Calls Try.prog 16 #[.pointer none, .agg #[.int .i64 a0, .int .i64 a1, .int .i64 a2, .int .i64 a3, .int .i64 a4, v]] W fun e w' => e = .returned (.int .i64 62) ∧ Below W.heap.size W w' := by
  have H := Aside0.mk h
  clear h
  go_enter Try.func16, Try.ntmps16
  go_wp2_with fail
  refine (last_R (p := none) (RingIs_below H.out (below_alloc (Below.refl _ _) _))).mono ?_
  rintro e w1 ⟨rfl, ⟨⟨n1, rfl⟩⟩⟩
  go_wp2_with fail
  refine (is_C a1 _).mono ?_
  rintro e w1 ⟨rfl, rfl⟩
  rw [hb2]
  go_wp2
  go_quiet (fail)
  go_wp2
  go_ret
  exact ⟨rfl, pw_below_drewN (pw_below_drewN (below_alloc (Below.refl _ _) _) _) _⟩
set_option maxRecDepth 100000 in
theorem append_room (h : RingIs W base ok (some b) s) (a0 a1 a2 a3 a4 : Int) (v : Value) (hb : ((s.la : Int) == 2147483647) = false) (hb2 : isB a1 = true) (hb3 : (a0 != (s.la : Int) + 1) = false) (hb4 : decide (a1 < s.lv) = false) (hlt : (s.la : Int) ≤ 2147483647) (hf : (s.l.length == s.room) = true) (hg : decide (s.ho ≤ s.fl) = true) :
    Calls Try.prog 16 #[.pointer (some ⟨b, 0, none⟩), .agg #[.int .i64 a0, .int .i64 a1, .int .i64 a2, .int .i64 a3, .int .i64 a4, v]] W fun e w' => e = .returned (.int .i64 62) ∧ Below W.heap.size W w' := by
  obtain ⟨_, E, hR, _⟩ := id h
  obtain ⟨c1, c2, c3, c4, c5⟩ := RingAt_cells hR
  have hbl : b < W.heap.size := World.block_lt_of_cell? W ⟨b, 384, none⟩ c1
  have H := Aside0.mk h
  clear h
  go_enter Try.func16, Try.ntmps16
  go_wp2_with fail
  refine (last_R (p := some b) (RingIs_below H.out (below_alloc (Below.refl _ _) _))).mono ?_
  rintro e w1 ⟨rfl, ⟨⟨n1, rfl⟩⟩⟩
  go_wp2_with fail
  refine (is_C a1 _).mono ?_
  rintro e w1 ⟨rfl, rfl⟩
  rw [hb2]
  have d1 : ((W.alloc (.cells #[Value.int IntKind.i64 a0, Value.int IntKind.i64 a1, Value.int IntKind.i64 a2, Value.int IntKind.i64 a3, Value.int IntKind.i64 a4, v] 33)).drewN n1).cell? ⟨b, 384, none⟩ = some (.int .i64 (s.room : Int)) := (World.cell?_alloc_lt _ _ _ hbl).trans c1
  have d2 : ((W.alloc (.cells #[Value.int IntKind.i64 a0, Value.int IntKind.i64 a1, Value.int IntKind.i64 a2, Value.int IntKind.i64 a3, Value.int IntKind.i64 a4, v] 33)).drewN n1).cell? ⟨b, 385, none⟩ = some (.int .i64 (s.fl : Int)) := (World.cell?_alloc_lt _ _ _ hbl).trans c2
  have d3 : ((W.alloc (.cells #[Value.int IntKind.i64 a0, Value.int IntKind.i64 a1, Value.int IntKind.i64 a2, Value.int IntKind.i64 a3, Value.int IntKind.i64 a4, v] 33)).drewN n1).cell? ⟨b, 386, none⟩ = some (.int .i64 (s.la : Int)) := (World.cell?_alloc_lt _ _ _ hbl).trans c3
  have d4 : ((W.alloc (.cells #[Value.int IntKind.i64 a0, Value.int IntKind.i64 a1, Value.int IntKind.i64 a2, Value.int IntKind.i64 a3, Value.int IntKind.i64 a4, v] 33)).drewN n1).cell? ⟨b, 387, none⟩ = some (.int .i64 (s.ho : Int)) := (World.cell?_alloc_lt _ _ _ hbl).trans c4
  have f1 : ((s.la : Int) - (s.fl : Int) == (s.room : Int)) = true := by
    have := eq_of_beq hf
    rw [beq_iff_eq]
    simp only [RS.la]
    omega
  have f2 : decide ((s.ho : Int) ≤ (s.fl : Int)) = true := by
    have := of_decide_eq_true hg
    exact decide_eq_true (by omega)
  have f3 : IntKind.i64.wrap ((s.la : Int) - (s.fl : Int)) = (s.la : Int) - (s.fl : Int) := IntWalk.i64_in _ (by simp only [RS.la] at hlt ⊢; omega)
  clear hf f2
  have hg2 := of_decide_eq_true hg
  go_wp2
  go_quiet (fail)
  go_wp2
  go_ret
  exact ⟨rfl, pw_below_drewN (pw_below_drewN (below_alloc (Below.refl _ _) _) _) _⟩
end
end Go.Proofs.Ytcbejpmmlcdhnaa.PW
namespace Go.Proofs.Ytcbejpmmlcdhnaa.PW
open Go.RowKit Go.Proofs.YtcbejpmmlcdhnaaW.PrintWords Go.Proofs.YtcbejpmmlcdhnaaW.PrintLast Go.Proofs.YtcbejpmmlcdhnaaW.PrintMore
set_option linter.unusedVariables false
set_option linter.unusedSimpArgs false

section
variable {W : World} {base : Nat} {ok : Nat → Prop} {b : Nat} {s : RS}
theorem skip_store {P : Program} {ops : Array Oper} {oi : Oper} {a : Act} {W : World} {K : Act → World → Prop} {Q : Exit → Act → World → Prop} (hw : Region.wanted oi (yielded ops a.tmps) = true) (hN : oi.dst = none) (t : TypeId) (p x : Operand) (ho : oi.op = .store t p x) {g o' : Nat} {e : TypeId} {cur : Array Value}
    (u : Value) (seg : List Value) (haddr : a.eval p = .pointer (some ⟨g, o', none⟩)) (hx : a.eval x = u) (hb : W.heap[g]? = some (.cells cur e (0, 0))) (hu : u.cells.toList = seg) (ht : (P.info? t).map (·.size) = some seg.length) (hfit : o' + seg.length ≤ cur.size) (h1 : ∀ q ∈ seg, q.oneCell' = true)
    (h : K a (W.setCells g o' seg)) : if Region.wanted oi (yielded ops a.tmps) = true then Oper.wp P oi a W K Q else K (a.put none undef) W := by
  have hrun := run_store_run (o := o') t u seg hb hu ht hfit h1
  refine skip_ (w1 := W.setCells g o' seg) hw hN ?_ h
  unfold execOp
  simp only [ho, haddr, hx, Sem.run_bind, Sem.run_pure, Result.andThen_ok, hrun]
theorem wpList_store {P : Program} {ops : Array Oper} {o : Oper} {rest : List Oper} {a : Act} {W : World} {Q : Exit → Act → World → Prop} (hgd : o.guard = none) (hN : o.dst = none) (t : TypeId) (p x : Operand) (ho : o.op = .store t p x) {g o' : Nat} {e : TypeId} {cur : Array Value}
    (u : Value) (seg : List Value) (haddr : a.eval p = .pointer (some ⟨g, o', none⟩)) (hx : a.eval x = u) (hb : W.heap[g]? = some (.cells cur e (0, 0))) (hu : u.cells.toList = seg) (ht : (P.info? t).map (·.size) = some seg.length) (hfit : o' + seg.length ≤ cur.size) (h1 : ∀ q ∈ seg, q.oneCell' = true)
    (h : wpList P ops Q rest a (W.setCells g o' seg)) : wpList P ops Q (o :: rest) a W := by
  have hrun := run_store_run (o := o') t u seg hb hu ht hfit h1
  refine wpList_plain hgd fun K hK => ?_
  unfold Oper.wp execOp
  simp only [ho, haddr, hx, Sem.run_bind, Sem.run_pure, Result.andThen_ok, hrun]
  show K (a.put o.dst undef) _
  rw [hN]
  exact hK _ _ h
theorem Frm.setCells {w w1 : World} {S : Nat → Prop} (h : Frm w w1 S) {g : Nat} (hg : S g ∨ w.heap.size ≤ g) (o : Nat) (vs : List Value) : Frm w (w1.setCells g o vs) S := by
  obtain ⟨h1, h2, h3, h4⟩ := setCells_same g vs o w1
  exact ⟨h1.trans h.os, h2.trans h.tape, h3.trans h.output, by rw [h4]; exact h.size, fun k hk hn => (setCells_far vs o k (fun e => hg.elim (fun h5 => hn (e ▸ h5)) (fun h5 => by omega))).trans (h.block k hk hn)⟩
theorem mod_ne {a b r : Nat} (h : a < b) (h2 : b - a < r) : a % r ≠ b % r := by
  intro e
  have h3 := Nat.sub_mod_eq_zero_of_mod_eq e.symm
  rw [Nat.mod_eq_of_lt h2] at h3
  omega
theorem size33 : (Try.prog.info? 33).map (·.size) = some 6 := by kernel_rfl
theorem RingAt_putS {room fl la ho o : Int} {E : Nat → Ent} {v : Value} {x : S33} {k : Nat} {seg : List Value} (hs : seg.length = 6) (s0 : seg[0]? = some (.int .i64 x.f0)) (s1 : seg[1]? = some (.int .i64 x.f1)) (s2 : seg[2]? = some (.int .i64 x.f2)) (s3 : seg[3]? = some (.int .i64 x.f3)) (s4 : seg[4]? = some (.int .i64 x.f4)) (s5 : seg[5]? = some v)
    (h : RingAt W base ok b room fl la ho o E) (hk : k < 64) (hv : Kd.R k55 55 W base (fun j => ok j ∧ j ≠ b) v x.f5) : RingAt (W.setCells b (k * 6) seg) base ok b room fl la ho o (fun j => if j = k then x else E j) := by
  obtain ⟨h1, h2, C, h3, h4, h5, h6, h7, h8, h9, h10⟩ := h
  obtain ⟨cur, k1, k2, k3⟩ := setCells_row seg (k * 6) W C h3 (by omega)
  have hl : (C.toList.take (k * 6)).length = k * 6 := by rw [List.length_take, Array.length_toList]; omega
  have hout : ∀ j, (j < k * 6 ∨ k * 6 + 6 ≤ j) → cur[j]? = C[j]? := by
    intro j hj
    rw [← Array.getElem?_toList, k3, ← Array.getElem?_toList]
    rcases hj with hj | hj
    · rw [List.append_assoc, List.getElem?_append_left (by omega), List.getElem?_take_of_lt hj]
    · rw [List.getElem?_append_right (by rw [List.length_append, hl]; omega), List.getElem?_drop, List.length_append, hl, hs]
      congr 1
      omega
  have hin : ∀ j, j < 6 → cur[k * 6 + j]? = seg[j]? := by
    intro j hj
    rw [← Array.getElem?_toList, k3]
    rw [List.append_assoc, List.getElem?_append_right (by omega), hl, List.getElem?_append_left (by omega)]
    congr 1
    omega
  have hfar : ∀ j, j ≠ b → (W.setCells b (k * 6) seg).heap[j]? = W.heap[j]? := fun j hj => setCells_far _ _ j hj
  refine ⟨h1, h2, cur, k1, k2.trans h4, (hout _ (by omega)).trans h5, (hout _ (by omega)).trans h6, (hout _ (by omega)).trans h7, (hout _ (by omega)).trans h8, (hout _ (by omega)).trans h9, fun j hj => ?_⟩
  by_cases hjk : j = k
  · subst hjk
    show EntAt _ _ _ cur j (if j = j then x else E j)
    rw [if_pos rfl]
    exact ⟨(hin 0 (by omega)).trans s0, (hin 1 (by omega)).trans s1, (hin 2 (by omega)).trans s2, (hin 3 (by omega)).trans s3, (hin 4 (by omega)).trans s4, v, (hin 5 (by omega)).trans s5, Kd.R_step hv (fun i hi _ => hfar i hi.2)⟩
  · show EntAt _ _ _ cur j (if j = k then x else E j)
    rw [if_neg hjk]
    obtain ⟨e1, e2, e3, e4, e5, u, e6, e7⟩ := h10 j hj
    exact ⟨(hout _ (by omega)).trans e1, (hout _ (by omega)).trans e2, (hout _ (by omega)).trans e3, (hout _ (by omega)).trans e4, (hout _ (by omega)).trans e5, u, (hout _ (by omega)).trans e6, Kd.R_step e7 (fun i hi _ => hfar i hi.2)⟩
theorem RingAt_put {room fl la ho o : Int} {E : Nat → Ent} {v : Value} {x : S33} {k : Nat} (h : RingAt W base ok b room fl la ho o E) (hk : k < 64) (hv : Kd.R k55 55 W base (fun j => ok j ∧ j ≠ b) v x.f5) :
    RingAt (W.setCells b (k * 6) [.int .i64 x.f0, .int .i64 x.f1, .int .i64 x.f2, .int .i64 x.f3, .int .i64 x.f4, v]) base ok b room fl la ho o (fun j => if j = k then x else E j) :=
  RingAt_putS rfl rfl rfl rfl rfl rfl rfl h hk hv
theorem RingAt_old {room fl la ho o : Int} {E : Nat → Ent} (h : RingAt W base ok b room fl la ho o E) : RingAt W base (fun k => ok k ∧ k < W.heap.size) b room fl la ho o E := by
  obtain ⟨h1, h2, C, h3, h4, h5, h6, h7, h8, h9, h10⟩ := h
  refine ⟨h1, ⟨h2, blk_lt h3⟩, C, h3, h4, h5, h6, h7, h8, h9, fun k hk' => ?_⟩
  obtain ⟨e1, e2, e3, e4, e5, v, e6, e7⟩ := h10 k hk'
  exact ⟨e1, e2, e3, e4, e5, v, e6, Kd.R_mono (Kd.R_bound e7) (fun j hj => ⟨⟨hj.1.1, hj.2.2.1⟩, hj.1.2⟩)⟩
theorem RingAt_blk {room fl la ho o : Int} {E : Nat → Ent} (h : RingAt W base ok b room fl la ho o E) : ∃ C : Array Value, W.heap[b]? = some (.cells C 66 (0, 0)) ∧ C.size = 389 := by
  obtain ⟨h1, h2, C, h3, h4, h5⟩ := h
  exact ⟨C, h3, h4⟩
end
end Go.Proofs.Ytcbejpmmlcdhnaa.PW
namespace Go.Proofs.Ytcbejpmmlcdhnaa.PW
open Go.RowKit Go.Proofs.YtcbejpmmlcdhnaaW.PrintWords Go.Proofs.YtcbejpmmlcdhnaaW.PrintLast Go.Proofs.YtcbejpmmlcdhnaaW.PrintMore
set_option linter.unusedVariables false
set_option linter.unusedSimpArgs false
def rg16.T15 : Bool × List (List Nat × List Nat) := (true, [([], []), ([], []), ([1], [1]), ([2], [2]), ([3], [3]), ([0, 4], [0, 4]), ([], []), ([5, 0, 1, 2, 3, 4, 5, 6], [5]), ([7, 6, 5, 0, 1, 2, 3, 4, 5, 6], [6, 7])])
def rg16.B15 : List Nat := [0, 0, 2, 6, 14, 31, 0, 127, 255]
theorem rg16.tab15 : rtab .any (opsOf Try.f16 15) = rg16.T15 := by kernel_rfl
theorem rg16.bits15 : waitsOk rg16.T15.2 rg16.B15 = true := by kernel_rfl

/-- A list that stands through whatever turns the ring alone. -/
def Live (W : World) (p : Option Nat) (A : Option Addr) (n : Nat) (l : List S55) : Prop := ∀ W', Frm W W' (own1 p) → Kd.C k55 W' A n l
section
variable {W : World} {base : Nat} {ok : Nat → Prop} {b : Nat} {s : RS}
set_option maxHeartbeats 4000000 in
set_option maxRecDepth 100000 in
theorem append_ok (h : RingIs W base ok (some b) s) (x : S33) (A : Option Addr) (n c : Nat) (hn : x.f5.length = n) (hC : Live W (some b) A n x.f5) (hm : n ≤ 2513169434843) (hfresh : ∀ k, W.heap.size ≤ k → ok k)
    (hb : ((s.la : Int) == 2147483647) = false) (hb2 : isB x.f1 = true) (hb3 : (x.f0 != (s.la : Int) + 1) = false) (hb4 : decide (x.f1 < s.lv) = false) (hlt : (s.la : Int) ≤ 2147483647) (hf : (s.l.length == s.room) = false) :
    Calls Try.prog 16 #[.pointer (some ⟨b, 0, none⟩), .agg #[.int .i64 x.f0, .int .i64 x.f1, .int .i64 x.f2, .int .i64 x.f3, .int .i64 x.f4, .slice A n c]] W fun e w' => e = .returned (.int .i64 0) ∧ RingIs w' base ok (some b) { s with l := s.l ++ [x] } ∧ Frm W w' (own1 (some b)) := by
  obtain ⟨hO, E, hR, hE⟩ := id h
  obtain ⟨c1, c2, c3, c4, c5⟩ := RingAt_cells hR
  have hbl : b < W.heap.size := World.block_lt_of_cell? W ⟨b, 384, none⟩ c1
  have f1 : ((s.la : Int) - (s.fl : Int) == (s.room : Int)) = false := by
    have := ne_of_beq_false hf
    rw [beq_eq_false_iff_ne]
    simp only [RS.la]
    omega
  have f3 : IntKind.i64.wrap ((s.la : Int) - (s.fl : Int)) = (s.la : Int) - (s.fl : Int) := IntWalk.i64_in _ (by simp only [RS.la] at hlt ⊢; omega)
  have HO := Aside0.mk hO
  have HR := Aside0.mk hR
  have HE := Aside0.mk hE
  have HC := Aside0.mk hC
  have HN := Aside0.mk hn
  have H := Aside0.mk h
  have HCC := Aside0.mk (And.intro c1 (And.intro c2 (And.intro c3 (And.intro c4 c5))))
  have HF := Aside0.mk hf
  clear hO hR hE hC hn h c1 c2 c3 c4 c5 hf
  go_enter Try.func16, Try.ntmps16
  go_wp2_with fail
  refine (last_R (p := some b) (RingIs_below H.out (below_alloc (Below.refl _ _) _))).mono ?_
  rintro e w1 ⟨rfl, ⟨⟨n1, rfl⟩⟩⟩
  go_wp2_with fail
  refine (is_C x.f1 _).mono ?_
  rintro e w1 ⟨rfl, rfl⟩
  rw [hb2]
  obtain ⟨w1, hw1⟩ : ∃ w1, w1 = (W.alloc (.cells #[Value.int IntKind.i64 x.f0, Value.int IntKind.i64 x.f1, Value.int IntKind.i64 x.f2, Value.int IntKind.i64 x.f3, Value.int IntKind.i64 x.f4, .slice A n c] 33)).drewN n1 := ⟨_, rfl⟩
  rw [← hw1]
  have hF1 : Frm W w1 (own1 (some b)) := by rw [hw1]; exact ((Frm.refl W _).alloc _).drewN _
  have hR1 : RingAt w1 base (fun k => ok k ∧ k < W.heap.size) b s.room s.fl s.la s.ho s.o E := RingAt_step (RingAt_old HR.out) (fun k _ hk => by rw [hw1]; exact (pw_below_drewN (below_alloc (Below.refl W.heap.size W) _) _).block k hk)
  have hbox : w1.heap[W.heap.size]? = some (.cells #[Value.int IntKind.i64 x.f0, Value.int IntKind.i64 x.f1, Value.int IntKind.i64 x.f2, Value.int IntKind.i64 x.f3, Value.int IntKind.i64 x.f4, .slice A n c] 33) := by rw [hw1]; exact heap_alloc_new W _
  obtain ⟨d1, d2, d3, d4, d5⟩ := RingAt_cells hR1
  have g0 : w1.cell? ⟨W.heap.size, 0, none⟩ = some (.int .i64 x.f0) := (blk_cell hbox 0).trans rfl
  have g1 : w1.cell? ⟨W.heap.size, 1, none⟩ = some (.int .i64 x.f1) := (blk_cell hbox 1).trans rfl
  have g5 : w1.cell? ⟨W.heap.size, 5, none⟩ = some (.slice A n c) := (blk_cell hbox 5).trans rfl
  have HF1 := Aside0.mk hF1
  have HR1 := Aside0.mk hR1
  have HBOX := Aside0.mk hbox
  clear hw1 hF1 hR1 hbox
  go_wp2
  go_quiet (fail)
  go_wp2
  go_quiet (fail)
  go_wp2_with fail
  refine (clone_C A n c x.f5 _ HN.out ?_ hm).mono ?_
  · exact HC.out _ (HF1.out.drewN _)
  rintro e w2 ⟨A2, cc2, rfl, hv, hB2⟩
  have hbox2 : w2.heap[W.heap.size]? = some (.cells #[Value.int IntKind.i64 x.f0, Value.int IntKind.i64 x.f1, Value.int IntKind.i64 x.f2, Value.int IntKind.i64 x.f3, Value.int IntKind.i64 x.f4, .slice A n c] 33) := (hB2.block _ (blk_lt HBOX.out)).trans HBOX.out
  have k5 : w2.cell? ⟨W.heap.size, 5, none⟩ = some (.slice A n c) := (blk_cell hbox2 5).trans rfl
  have z5 : w2.frozen? ⟨W.heap.size, 5, none⟩ = false := blk_frozen hbox2 5
  have HV := Aside0.mk hv
  have HB2 := Aside0.mk hB2
  have hR2 : RingAt w2 base (fun k => ok k ∧ k < W.heap.size) b s.room s.fl s.la s.ho s.o E := RingAt_step (RingAt_step HR1.out (fun _ _ _ => rfl)) (fun k _ hk => hB2.block k hk)
  obtain ⟨q1, q2, q3, q4, q5⟩ := RingAt_cells hR2
  have hne : b ≠ W.heap.size := by omega
  have hne2 : ¬ (W.heap.size = b) := by omega
  have zb : w2.frozen? ⟨b, 386, none⟩ = false := RingAt_frozen hR2 386
  clear hv hB2
  go_wp2
  obtain ⟨N1, hN1⟩ : ∃ N1 : Nat, N1 = s.la + 1 := ⟨_, rfl⟩
  have hcast : (s.la : Int) + 1 = (N1 : Int) := by omega
  rw [hcast]
  have hA1 : 0 < s.room := by
    obtain ⟨r1, r2, r3, r4, r5, r6⟩ := HO.out
    have := ne_of_beq_false HF.out
    omega
  have hA2 : s.room ≤ 64 := HO.out.1
  have hA3 : N1 ≤ 4294967296 := by omega
  obtain ⟨kk, hkk⟩ : ∃ kk, kk = N1 % s.room := ⟨_, rfl⟩
  have hkl : kk < 64 := by have := Nat.mod_lt N1 hA1; omega
  have HK := Aside0.mk hkk.symm
  have HN1 := Aside0.mk hN1
  clear hkk hN1
  have hbox3 : ((w2.setCell ⟨W.heap.size, 5, none⟩ (.slice A2 n cc2)).setCell ⟨b, 386, none⟩ (.int .i64 (N1 : Int))).heap[W.heap.size]? = some (.cells #[Value.int IntKind.i64 x.f0, Value.int IntKind.i64 x.f1, Value.int IntKind.i64 x.f2, Value.int IntKind.i64 x.f3, Value.int IntKind.i64 x.f4, .slice A2 n cc2] 33) := by
    refine blk_far ?_ (by simpa using hne2) _
    simpa using blk_set hbox2 5 (.slice A2 n cc2)
  have t3 : ((w2.setCell ⟨W.heap.size, 5, none⟩ (.slice A2 n cc2)).setCell ⟨b, 386, none⟩ (.int .i64 (N1 : Int))).cell? ⟨b, 386, none⟩ = some (.int .i64 (N1 : Int)) := by
    exact World.cell?_setCell_same _ _ _ (show (w2.setCell ⟨W.heap.size, 5, none⟩ (.slice A2 n cc2)).cell? ⟨b, 386, none⟩ = some _ from (World.cell?_setCell_other _ _ _ _ (by simp [hne2])).trans q3)
  have t1 : ((w2.setCell ⟨W.heap.size, 5, none⟩ (.slice A2 n cc2)).setCell ⟨b, 386, none⟩ (.int .i64 (N1 : Int))).cell? ⟨b, 384, none⟩ = some (.int .i64 (s.room : Int)) := by
    exact (World.cell?_setCell_other _ _ _ _ (by simp)).trans ((World.cell?_setCell_other _ _ _ _ (by simp [hne2])).trans q1)
  have hR3 : RingAt ((w2.setCell ⟨W.heap.size, 5, none⟩ (.slice A2 n cc2)).setCell ⟨b, 386, none⟩ (.int .i64 (N1 : Int))) base (fun k => ok k ∧ k < W.heap.size) b s.room s.fl N1 s.ho s.o E := RingAt_last (RingAt_step hR2 (fun k hk hlt => Below.heap_setCell w2 _ _ k (fun e => by have h1 : k = W.heap.size := e; have := hk.2; omega))) _
  obtain ⟨w3, hw3⟩ : ∃ w3, w3 = ((w2.setCell ⟨W.heap.size, 5, none⟩ (.slice A2 n cc2)).setCell ⟨b, 386, none⟩ (.int .i64 (N1 : Int))) := ⟨_, rfl⟩
  rw [← hw3] at hbox3 t3 t1 hR3 ⊢
  obtain ⟨cur, hcur, hcsz⟩ := RingAt_blk hR3
  have HCUR := Aside0.mk (And.intro hcur hcsz)
  have HR3 := Aside0.mk hR3
  clear hR3 hcur hcsz hR2
  have HW3 := Aside0.mk hw3
  clear hw3
  have m0 : w3.drew.cell? ⟨W.heap.size, 0, none⟩ = some (.int .i64 x.f0) := (blk_cell hbox3 0).trans rfl
  have m1 : w3.drew.cell? ⟨W.heap.size, 1, none⟩ = some (.int .i64 x.f1) := (blk_cell hbox3 1).trans rfl
  have m2 : w3.drew.cell? ⟨W.heap.size, 2, none⟩ = some (.int .i64 x.f2) := (blk_cell hbox3 2).trans rfl
  have m3 : w3.drew.cell? ⟨W.heap.size, 3, none⟩ = some (.int .i64 x.f3) := (blk_cell hbox3 3).trans rfl
  have m4 : w3.drew.cell? ⟨W.heap.size, 4, none⟩ = some (.int .i64 x.f4) := (blk_cell hbox3 4).trans rfl
  have m5 : w3.drew.cell? ⟨W.heap.size, 5, none⟩ = some (.slice A2 n cc2) := (blk_cell hbox3 5).trans rfl
  have t3' : w3.drew.cell? ⟨b, 386, none⟩ = some (.int .i64 (N1 : Int)) := t3
  have t1' : Aside0 (w3.drew.cell? ⟨b, 384, none⟩ = some (.int .i64 (s.room : Int))) := ⟨t1⟩
  refine start_ (n := 9) (S := fun w' => w'.cell? ⟨b, 386, none⟩ = some (.int .i64 (N1 : Int)) ∧ w'.cell? ⟨W.heap.size, 0, none⟩ = some (.int .i64 x.f0) ∧ w'.cell? ⟨W.heap.size, 1, none⟩ = some (.int .i64 x.f1) ∧ w'.cell? ⟨W.heap.size, 2, none⟩ = some (.int .i64 x.f2) ∧ w'.cell? ⟨W.heap.size, 3, none⟩ = some (.int .i64 x.f3) ∧ w'.cell? ⟨W.heap.size, 4, none⟩ = some (.int .i64 x.f4) ∧ w'.cell? ⟨W.heap.size, 5, none⟩ = some (.slice A2 n cc2)) (ds := [8]) #[false, false, false, false, false, false, false, false, false] (by kernel_rfl) rfl rfl ⟨t3', m0, m1, m2, m3, m4, m5⟩ (fun hHeld => ?_)
  refine with_tabW rg16.tab15 rg16.bits15 (fun HT_ HW_ => ?_)
  refine pure_ (i := 0) (N := some 106) (v := ?_) (a' := ?_) #[true, false, false, false, false, false, false, false, false] rfl rfl (any_of HT_.out (by kernel_rfl)) (fun _ _ _ h => h) (Or.inl ⟨by rfl, ?_⟩) ?_ ?_
  rotate_left
  · intro w'
    go_simp
    with_reducible rfl
  rotate_left
  · simp only [Act.put, List.setIfInBounds_toArray, List.set_cons_zero, List.set_cons_succ, i64_w, i32_w]
    rfl
  refine pure_ (i := 1) (N := some 107) (v := ?_) (a' := ?_) #[true, true, false, false, false, false, false, false, false] rfl rfl (any_of HT_.out (by kernel_rfl)) (fun _ _ _ h => h) (Or.inl ⟨by rfl, ?_⟩) ?_ ?_
  rotate_left
  · intro w'
    go_simp
    with_reducible rfl
  rotate_left
  · simp only [Act.put, List.setIfInBounds_toArray, List.set_cons_zero, List.set_cons_succ, i64_w, i32_w]
    rfl
  refine pure_ (i := 2) (N := some 108) (v := ?_) (a' := ?_) #[true, true, true, false, false, false, false, false, false] rfl rfl (any_of HT_.out (by kernel_rfl)) (fun _ _ _ h => h) (Or.inl ⟨by rfl, ?_⟩) ?_ ?_
  rotate_left
  · intro w'
    go_simp
    with_reducible rfl
  rotate_left
  · simp only [Act.put, List.setIfInBounds_toArray, List.set_cons_zero, List.set_cons_succ, i64_w, i32_w]
    rfl
  refine pure_ (i := 3) (N := some 109) (v := ?_) (a' := ?_) #[true, true, true, true, false, false, false, false, false] rfl rfl (any_of HT_.out (by kernel_rfl)) (fun _ _ _ h => h) (Or.inl ⟨by rfl, ?_⟩) ?_ ?_
  rotate_left
  · intro w'
    go_simp
    with_reducible rfl
  rotate_left
  · simp only [Act.put, List.setIfInBounds_toArray, List.set_cons_zero, List.set_cons_succ, i64_w, i32_w]
    rfl
  refine take_ (i := 4) (N := some 110) (v := ?_) (a' := ?_) #[true, true, true, true, true, false, false, false, false] rfl rfl (take_ofW HT_.out HW_.out (by kernel_rfl)) (fun _ _ _ h => h) (Or.inl ⟨by rfl, ?_⟩) hHeld ?_ ?_
  rotate_left
  · rintro w' ⟨s0, s1, s2, s3, s4, s5, s6⟩
    go_simp
    with_reducible rfl
  rotate_left
  · simp only [Act.put, List.setIfInBounds_toArray, List.set_cons_zero, List.set_cons_succ, i64_w, i32_w]
    rfl
  refine take_ (i := 6) (N := some 112) (v := ?_) (a' := ?_) #[true, true, true, true, true, false, true, false, false] rfl rfl (take_ofW HT_.out HW_.out (by kernel_rfl)) (fun _ _ _ h => h) (Or.inl ⟨by rfl, ?_⟩) hHeld ?_ ?_
  rotate_left
  · rintro w' ⟨s0, s1, s2, s3, s4, s5, s6⟩
    go_simp
    with_reducible rfl
  rotate_left
  · simp only [Act.put, List.setIfInBounds_toArray, List.set_cons_zero, List.set_cons_succ, i64_w, i32_w]
    rfl
  refine one_ (i := 5) (N := some 111) #[true, true, true, true, true, true, true, false, false] rfl rfl (one_of HT_.out (by kernel_rfl)) (by decide) (fun K hK => ?_)
  refine goes_ Try.func36 (by kernel_rfl) rfl #[.pointer (some ⟨b, 0, none⟩), .int .i64 (N1 : Int)] (by rfl) rfl rfl (by simp only [List.map_toArray, List.map_cons, List.map_nil]; rfl) ?_
  with_reducible refine (at_C b s.room N1 _ _ t1'.out hA1 hA2 hA3 HK.out).mono ?_
  rintro e w4 ⟨rfl, ⟨⟨m, rfl⟩⟩⟩
  refine ⟨_, rfl, ?_⟩
  refine hK.out _ _ ⟨t3', m0, m1, m2, m3, m4, m5⟩ (fun hHeld => ?_)
  clear hK K
  refine norm_ (a' := ?_) ?_ ?_
  rotate_left
  · show Act.put _ (some 111) _ = _
    simp only [Act.put, List.setIfInBounds_toArray, List.set_cons_zero, List.set_cons_succ, i64_w, i32_w]
    rfl
  refine pure_ (i := 7) (N := some 113) (v := ?_) (a' := ?_) #[true, true, true, true, true, true, true, true, false] rfl rfl (any_of HT_.out (by kernel_rfl)) (fun _ _ _ h => h) (Or.inl ⟨by rfl, ?_⟩) ?_ ?_
  rotate_left
  · intro w'
    go_simp
    with_reducible rfl
  rotate_left
  · simp only [Act.put, List.setIfInBounds_toArray, List.set_cons_zero, List.set_cons_succ, i64_w, i32_w]
    rfl
  refine last_ (i := 8) (N := none) #[true, true, true, true, true, true, true, true, true] rfl rfl (one_of HT_.out (by kernel_rfl)) (by decide) (fun K hK => ?_)
  refine skip_store (by rfl) rfl 33 (.tmp 113) (.tmp 112) rfl (.agg #[.int .i64 x.f0, .int .i64 x.f1, .int .i64 x.f2, .int .i64 x.f3, .int .i64 x.f4, .slice A2 n cc2]) [.int .i64 x.f0, .int .i64 x.f1, .int .i64 x.f2, .int .i64 x.f3, .int .i64 x.f4, .slice A2 n cc2] rfl rfl HCUR.out.1 rfl size33 (by show kk * 6 + 6 ≤ _; have := HCUR.out.2; omega) (by simp [Value.oneCell']) ?_
  refine hK.out _ _ ?_
  clear hK K
  refine done_ (done_of HT_.out (by kernel_rfl)) ?_
  go_wp2
  go_ret
  have hb1 : W.heap.size + 1 ≤ w1.heap.size := blk_lt HBOX.out
  have hV2 := Kd.R_mono (Kd.R_bound HV.out) (ok' := fun k => W.heap.size + 1 ≤ k) (fun k hk => Nat.le_trans hb1 hk.2.1)
  have hbase : base ≤ W.heap.size := Nat.le_of_lt (Nat.lt_of_le_of_lt HR.out.1 hbl)
  have hV3 : Kd.R k55 55 w3 base (fun k => W.heap.size + 1 ≤ k) (.slice A2 n cc2) x.f5 := by
    rw [HW3.out]
    exact Kd.R_far (Kd.R_far (Kd.R_lower hV2 (show base ≤ w1.heap.size by omega)) (fun k hk e => by have h1 : k = W.heap.size := e; omega) _) (fun k hk e => by have h1 : k = b := e; omega) _
  have hF3 : Frm W w3 (own1 (some b)) := by
    rw [HW3.out]
    exact Frm.set_ (p := ⟨b, 386, none⟩) (Frm.set_ (p := ⟨W.heap.size, 5, none⟩) ((HF1.out.drewN _).step HB2.out) (.inr (Nat.le_refl _)) _) (.inl (show own1 (some b) b from rfl)) _
  have hA : (s.l ++ [x]).length = s.l.length + 1 := by simp
  have hroom : s.l.length < s.room := by
    have := ne_of_beq_false HF.out
    have := HO.out.2.1
    omega
  have hla : N1 = s.fl + s.l.length + 1 := HN1.out
  have hE2 : ∀ i, i < s.l.length → some (E ((s.fl + 1 + i) % s.room)) = s.l[i]? := HE.out
  obtain ⟨r1, r2, r3, r4, r5, r6⟩ := HO.out
  refine ⟨rfl, ⟨⟨r1, ?_, r3, ?_, ?_, ?_⟩, fun j => if j = kk then x else E j, ?_, ?_⟩, ?_⟩
  · show (s.l ++ [x]).length ≤ s.room
    omega
  · show s.ho ≤ s.fl + (s.l ++ [x]).length
    simp only [RS.la] at r4
    omega
  · show s.fl + (s.l ++ [x]).length ≤ 2147483647
    have := ne_of_beq_false hb
    simp only [RS.la] at this r5
    omega
  · intro e he
    rcases List.mem_append.1 he with he | he
    · exact r6 e he
    · obtain rfl := List.mem_singleton.1 he
      show e.f5.length ≤ _
      have := HN.out
      omega
  · have hla2 : ((RS.la { s with l := s.l ++ [x] } : Nat) : Int) = (N1 : Int) := by simp only [RS.la]; omega
    rw [hla2]
    refine RingAt_put ?_ hkl ?_
    · exact RingAt_step (RingAt_mono HR3.out (fun k hk => hk.1)) (fun _ _ _ => rfl)
    · exact Kd.R_step (Kd.R_mono hV3 (fun k hk => ⟨hfresh k (by omega), by omega⟩)) (fun _ _ _ => rfl)
  · intro i hi
    have hi : i < (s.l ++ [x]).length := hi
    show some (if (s.fl + 1 + i) % s.room = kk then x else E ((s.fl + 1 + i) % s.room)) = (s.l ++ [x])[i]?
    by_cases hil : i < s.l.length
    · have hne3 : (s.fl + 1 + i) % s.room ≠ kk := by
        rw [← HK.out]
        exact mod_ne (by omega) (by omega)
      rw [if_neg hne3, List.getElem?_append_left hil]
      exact hE2 i hil
    · have hil2 : i = s.l.length := by omega
      have hk3 : (s.fl + 1 + i) % s.room = kk := by
        rw [← HK.out]
        congr 1
        omega
      rw [if_pos hk3, List.getElem?_append_right (by omega), hil2]
      simp
  · have hF4 : Frm W (w3.drew.drewN m) (own1 (some b)) := hF3.drew.drewN m
    have hF5 := Frm.setCells (g := b) hF4 (.inl (show own1 (some b) b from rfl)) (kk * 6) [.int .i64 x.f0, .int .i64 x.f1, .int .i64 x.f2, .int .i64 x.f3, .int .i64 x.f4, .slice A2 n cc2]
    exact hF5
end
end Go.Proofs.Ytcbejpmmlcdhnaa.PW
namespace Go.Proofs.Ytcbejpmmlcdhnaa.PW
open Go.RowKit Go.Proofs.YtcbejpmmlcdhnaaW.PrintWords Go.Proofs.YtcbejpmmlcdhnaaW.PrintLast Go.Proofs.YtcbejpmmlcdhnaaW.PrintMore
set_option linter.unusedVariables false
set_option linter.unusedSimpArgs false

section
variable {W : World} {base : Nat} {ok : Nat → Prop} {b : Nat} {s : RS}
set_option maxHeartbeats 4000000 in
set_option maxRecDepth 100000 in
theorem append_full (h : RingIs W base ok (some b) s) (x : S33) (A : Option Addr) (n c : Nat) (hn : x.f5.length = n) (hC : Live W (some b) A n x.f5) (hm : n ≤ 2513169434843) (hfresh : ∀ k, W.heap.size ≤ k → ok k)
    (hb : ((s.la : Int) == 2147483647) = false) (hb2 : isB x.f1 = true) (hb3 : (x.f0 != (s.la : Int) + 1) = false) (hb4 : decide (x.f1 < s.lv) = false) (hlt : (s.la : Int) ≤ 2147483647) (hf : (s.l.length == s.room) = true) (hg : s.fl < s.ho) (y : S33) (hy : s.l[0]? = some y) :
    Calls Try.prog 16 #[.pointer (some ⟨b, 0, none⟩), .agg #[.int .i64 x.f0, .int .i64 x.f1, .int .i64 x.f2, .int .i64 x.f3, .int .i64 x.f4, .slice A n c]] W fun e w' => e = .returned (.int .i64 0) ∧ RingIs w' base ok (some b) { s with fl := s.fl + 1, o := y.f1, l := s.l.drop 1 ++ [x] } ∧ Frm W w' (own1 (some b)) := by
  obtain ⟨hO, E, hR, hE⟩ := id h
  obtain ⟨c1, c2, c3, c4, c5⟩ := RingAt_cells hR
  have hbl : b < W.heap.size := World.block_lt_of_cell? W ⟨b, 384, none⟩ c1
  have f1 : ((s.la : Int) - (s.fl : Int) == (s.room : Int)) = true := by
    have := eq_of_beq hf
    rw [beq_iff_eq]
    simp only [RS.la]
    omega
  have hg2 : decide (s.ho ≤ s.fl) = false := decide_eq_false (by omega)
  have f3 : IntKind.i64.wrap ((s.la : Int) - (s.fl : Int)) = (s.la : Int) - (s.fl : Int) := IntWalk.i64_in _ (by simp only [RS.la] at hlt ⊢; omega)
  have HO := Aside0.mk hO
  have HR := Aside0.mk hR
  have HE := Aside0.mk hE
  have HC := Aside0.mk hC
  have HN := Aside0.mk hn
  have H := Aside0.mk h
  have HCC := Aside0.mk (And.intro c1 (And.intro c2 (And.intro c3 (And.intro c4 c5))))
  have HF := Aside0.mk hf
  clear hO hR hE hC hn h c1 c2 c3 c4 c5 hf
  go_enter Try.func16, Try.ntmps16
  go_wp2_with fail
  refine (last_R (p := some b) (RingIs_below H.out (below_alloc (Below.refl _ _) _))).mono ?_
  rintro e w1 ⟨rfl, ⟨⟨n1, rfl⟩⟩⟩
  go_wp2_with fail
  refine (is_C x.f1 _).mono ?_
  rintro e w1 ⟨rfl, rfl⟩
  rw [hb2]
  obtain ⟨w1, hw1⟩ : ∃ w1, w1 = (W.alloc (.cells #[Value.int IntKind.i64 x.f0, Value.int IntKind.i64 x.f1, Value.int IntKind.i64 x.f2, Value.int IntKind.i64 x.f3, Value.int IntKind.i64 x.f4, .slice A n c] 33)).drewN n1 := ⟨_, rfl⟩
  rw [← hw1]
  have hF1 : Frm W w1 (own1 (some b)) := by rw [hw1]; exact ((Frm.refl W _).alloc _).drewN _
  have hR1 : RingAt w1 base (fun k => ok k ∧ k < W.heap.size) b s.room s.fl s.la s.ho s.o E := RingAt_step (RingAt_old HR.out) (fun k _ hk => by rw [hw1]; exact (pw_below_drewN (below_alloc (Below.refl W.heap.size W) _) _).block k hk)
  have hbox : w1.heap[W.heap.size]? = some (.cells #[Value.int IntKind.i64 x.f0, Value.int IntKind.i64 x.f1, Value.int IntKind.i64 x.f2, Value.int IntKind.i64 x.f3, Value.int IntKind.i64 x.f4, .slice A n c] 33) := by rw [hw1]; exact heap_alloc_new W _
  obtain ⟨d1, d2, d3, d4, d5⟩ := RingAt_cells hR1
  have g0 : w1.cell? ⟨W.heap.size, 0, none⟩ = some (.int .i64 x.f0) := (blk_cell hbox 0).trans rfl
  have g1 : w1.cell? ⟨W.heap.size, 1, none⟩ = some (.int .i64 x.f1) := (blk_cell hbox 1).trans rfl
  have g5 : w1.cell? ⟨W.heap.size, 5, none⟩ = some (.slice A n c) := (blk_cell hbox 5).trans rfl
  have HF1 := Aside0.mk hF1
  have HR1 := Aside0.mk hR1
  have HBOX := Aside0.mk hbox
  clear hw1 hF1 hR1 hbox
  have zf := RingAt_frozen HR1.out 385
  have hfl : (s.fl : Int) ≤ 2147483647 := by simp only [RS.la] at hlt; omega
  have hA1 : 0 < s.room := by
    obtain ⟨r1, r2, r3, r4, r5, r6⟩ := HO.out
    have := eq_of_beq HF.out
    have := (List.getElem?_eq_some_iff.1 hy).1
    omega
  have hA2 : s.room ≤ 64 := HO.out.1
  have HY := Aside0.mk hy
  clear hy
  go_wp2
  go_quiet (fail)
  obtain ⟨nq1, hq1⟩ : ∃ n1, n1 = nq := ⟨_, rfl⟩
  rw [← hq1]
  clear hq1
  go_wp2
  go_quiet (fail)
  go_wp2_with fail
  obtain ⟨N0, hN0⟩ : ∃ N0 : Nat, N0 = s.fl + 1 := ⟨_, rfl⟩
  have hcast0 : (s.fl : Int) + 1 = (N0 : Int) := by omega
  rw [hcast0]
  have HRA := Aside0.mk (RingAt_floor (RingAt_step HR1.out (fun _ _ _ => rfl) : RingAt (w1.drewN (nq1 + nq)) base (fun k => ok k ∧ k < W.heap.size) b s.room s.fl s.la s.ho s.o E) (N0 : Int))
  obtain ⟨wA, hwA⟩ : ∃ wA, wA = (w1.drewN (nq1 + nq)).setCell ⟨b, 385, none⟩ (.int .i64 (N0 : Int)) := ⟨_, rfl⟩
  rw [← hwA] at HRA ⊢
  have hFA : Frm W wA (own1 (some b)) := by rw [hwA]; exact Frm.set_ (p := ⟨b, 385, none⟩) (HF1.out.drewN _) (.inl (show own1 (some b) b from rfl)) _
  have hboxA : wA.heap[W.heap.size]? = some (.cells #[Value.int IntKind.i64 x.f0, Value.int IntKind.i64 x.f1, Value.int IntKind.i64 x.f2, Value.int IntKind.i64 x.f3, Value.int IntKind.i64 x.f4, .slice A n c] 33) := by rw [hwA]; exact blk_far (w := w1.drewN (nq1 + nq)) HBOX.out (show W.heap.size ≠ b by omega) _
  obtain ⟨a1, a2, a3, a4, a5⟩ := RingAt_cells HRA.out
  have hA3' : N0 ≤ 4294967296 := by omega
  obtain ⟨k0, hk0⟩ : ∃ k0, k0 = N0 % s.room := ⟨_, rfl⟩
  have hk0l : k0 < 64 := by have := Nat.mod_lt N0 hA1; omega
  have hy0 : (E k0).f1 = y.f1 := by
    have h3 := HE.out 0 (List.getElem?_eq_some_iff.1 HY.out).1
    rw [HY.out, Nat.add_zero, ← hN0, ← hk0] at h3
    rw [Option.some.inj h3]
  have v1 := RingAt_view HRA.out k0 hk0l
  rw [hy0] at v1
  have zo := RingAt_frozen HRA.out 388
  have HK0 := Aside0.mk hk0.symm
  have HFA := Aside0.mk hFA
  have HBOXA := Aside0.mk hboxA
  have hbA5 : wA.cell? ⟨W.heap.size, 5, none⟩ = some (.slice A n c) := (blk_cell hboxA 5).trans rfl
  have hnb : ¬ (b = W.heap.size) := by omega
  have HN0 := Aside0.mk hN0
  clear hk0 hFA hboxA hy0 hwA hN0 hcast0 d1 d2 d3 d4 d5 g0 g1 g5
  refine (at_C b s.room N0 k0 _ a1 hA1 hA2 hA3' HK0.out).mono ?_
  rintro e wB ⟨rfl, ⟨⟨mB, rfl⟩⟩⟩
  go_wp2_with fail
  have HRB := Aside0.mk (RingAt_of (RingAt_step HRA.out (fun _ _ _ => rfl) : RingAt (wA.drewN mB) base (fun k => ok k ∧ k < W.heap.size) b s.room N0 s.la s.ho s.o E) y.f1)
  have hboxB : ((wA.drewN mB).setCell ⟨b, 388, none⟩ (.int .i64 y.f1)).heap[W.heap.size]? = some (.cells #[Value.int IntKind.i64 x.f0, Value.int IntKind.i64 x.f1, Value.int IntKind.i64 x.f2, Value.int IntKind.i64 x.f3, Value.int IntKind.i64 x.f4, .slice A n c] 33) := blk_far (w := wA.drewN mB) HBOXA.out (show W.heap.size ≠ b by omega) _
  have hFB : Frm W ((wA.drewN mB).setCell ⟨b, 388, none⟩ (.int .i64 y.f1)) (own1 (some b)) := Frm.set_ (p := ⟨b, 388, none⟩) (HFA.out.drewN _) (.inl (show own1 (some b) b from rfl)) _
  clear HBOX HF1 HR1 hbA5 a1 a2 a3 a4 a5 v1 zo HFA HBOXA HRA
  obtain ⟨wC, hwC⟩ : ∃ wC, wC = (wA.drewN mB).setCell ⟨b, 388, none⟩ (.int .i64 y.f1) := ⟨_, rfl⟩
  rw [← hwC] at HRB hboxB hFB ⊢
  clear hwC
  have HBOX := Aside0.mk hboxB
  have HF1 := Aside0.mk hFB
  have HR1 := HRB
  clear hboxB hFB HRB
  refine (clone_C A n c x.f5 _ HN.out ?_ hm).mono ?_
  · exact HC.out _ HF1.out
  rintro e w2 ⟨A2, cc2, rfl, hv, hB2⟩
  have hbox2 : w2.heap[W.heap.size]? = some (.cells #[Value.int IntKind.i64 x.f0, Value.int IntKind.i64 x.f1, Value.int IntKind.i64 x.f2, Value.int IntKind.i64 x.f3, Value.int IntKind.i64 x.f4, .slice A n c] 33) := (hB2.block _ (blk_lt HBOX.out)).trans HBOX.out
  have k5 : w2.cell? ⟨W.heap.size, 5, none⟩ = some (.slice A n c) := (blk_cell hbox2 5).trans rfl
  have z5 : w2.frozen? ⟨W.heap.size, 5, none⟩ = false := blk_frozen hbox2 5
  have HV := Aside0.mk hv
  have HB2 := Aside0.mk hB2
  have hR2 : RingAt w2 base (fun k => ok k ∧ k < W.heap.size) b s.room N0 s.la s.ho y.f1 E := RingAt_step (RingAt_step HR1.out (fun _ _ _ => rfl)) (fun k _ hk => hB2.block k hk)
  obtain ⟨q1, q2, q3, q4, q5⟩ := RingAt_cells hR2
  have hne : b ≠ W.heap.size := by omega
  have hne2 : ¬ (W.heap.size = b) := by omega
  have zb : w2.frozen? ⟨b, 386, none⟩ = false := RingAt_frozen hR2 386
  clear hv hB2
  go_wp2
  obtain ⟨N1, hN1⟩ : ∃ N1 : Nat, N1 = s.la + 1 := ⟨_, rfl⟩
  have hcast : (s.la : Int) + 1 = (N1 : Int) := by omega
  rw [hcast]
  have hA3 : N1 ≤ 4294967296 := by omega
  obtain ⟨kk, hkk⟩ : ∃ kk, kk = N1 % s.room := ⟨_, rfl⟩
  have hkl : kk < 64 := by have := Nat.mod_lt N1 hA1; omega
  have HK := Aside0.mk hkk.symm
  have HN1 := Aside0.mk hN1
  clear hkk hN1
  have hbox3 : ((w2.setCell ⟨W.heap.size, 5, none⟩ (.slice A2 n cc2)).setCell ⟨b, 386, none⟩ (.int .i64 (N1 : Int))).heap[W.heap.size]? = some (.cells #[Value.int IntKind.i64 x.f0, Value.int IntKind.i64 x.f1, Value.int IntKind.i64 x.f2, Value.int IntKind.i64 x.f3, Value.int IntKind.i64 x.f4, .slice A2 n cc2] 33) := by
    refine blk_far ?_ (by simpa using hne2) _
    simpa using blk_set hbox2 5 (.slice A2 n cc2)
  have t3 : ((w2.setCell ⟨W.heap.size, 5, none⟩ (.slice A2 n cc2)).setCell ⟨b, 386, none⟩ (.int .i64 (N1 : Int))).cell? ⟨b, 386, none⟩ = some (.int .i64 (N1 : Int)) := by
    exact World.cell?_setCell_same _ _ _ (show (w2.setCell ⟨W.heap.size, 5, none⟩ (.slice A2 n cc2)).cell? ⟨b, 386, none⟩ = some _ from (World.cell?_setCell_other _ _ _ _ (by simp [hne2])).trans q3)
  have t1 : ((w2.setCell ⟨W.heap.size, 5, none⟩ (.slice A2 n cc2)).setCell ⟨b, 386, none⟩ (.int .i64 (N1 : Int))).cell? ⟨b, 384, none⟩ = some (.int .i64 (s.room : Int)) := by
    exact (World.cell?_setCell_other _ _ _ _ (by simp)).trans ((World.cell?_setCell_other _ _ _ _ (by simp [hne2])).trans q1)
  have hR3 : RingAt ((w2.setCell ⟨W.heap.size, 5, none⟩ (.slice A2 n cc2)).setCell ⟨b, 386, none⟩ (.int .i64 (N1 : Int))) base (fun k => ok k ∧ k < W.heap.size) b s.room N0 N1 s.ho y.f1 E := RingAt_last (RingAt_step hR2 (fun k hk hlt => Below.heap_setCell w2 _ _ k (fun e => by have h1 : k = W.heap.size := e; have := hk.2; omega))) _
  obtain ⟨w3, hw3⟩ : ∃ w3, w3 = ((w2.setCell ⟨W.heap.size, 5, none⟩ (.slice A2 n cc2)).setCell ⟨b, 386, none⟩ (.int .i64 (N1 : Int))) := ⟨_, rfl⟩
  rw [← hw3] at hbox3 t3 t1 hR3 ⊢
  obtain ⟨cur, hcur, hcsz⟩ := RingAt_blk hR3
  have HCUR := Aside0.mk (And.intro hcur hcsz)
  have HR3 := Aside0.mk hR3
  clear hR3 hcur hcsz hR2
  have HW3 := Aside0.mk hw3
  clear hw3
  have m0 : w3.drew.cell? ⟨W.heap.size, 0, none⟩ = some (.int .i64 x.f0) := (blk_cell hbox3 0).trans rfl
  have m1 : w3.drew.cell? ⟨W.heap.size, 1, none⟩ = some (.int .i64 x.f1) := (blk_cell hbox3 1).trans rfl
  have m2 : w3.drew.cell? ⟨W.heap.size, 2, none⟩ = some (.int .i64 x.f2) := (blk_cell hbox3 2).trans rfl
  have m3 : w3.drew.cell? ⟨W.heap.size, 3, none⟩ = some (.int .i64 x.f3) := (blk_cell hbox3 3).trans rfl
  have m4 : w3.drew.cell? ⟨W.heap.size, 4, none⟩ = some (.int .i64 x.f4) := (blk_cell hbox3 4).trans rfl
  have m5 : w3.drew.cell? ⟨W.heap.size, 5, none⟩ = some (.slice A2 n cc2) := (blk_cell hbox3 5).trans rfl
  have t3' : w3.drew.cell? ⟨b, 386, none⟩ = some (.int .i64 (N1 : Int)) := t3
  have t1' : Aside0 (w3.drew.cell? ⟨b, 384, none⟩ = some (.int .i64 (s.room : Int))) := ⟨t1⟩
  refine start_ (n := 9) (S := fun w' => w'.cell? ⟨b, 386, none⟩ = some (.int .i64 (N1 : Int)) ∧ w'.cell? ⟨W.heap.size, 0, none⟩ = some (.int .i64 x.f0) ∧ w'.cell? ⟨W.heap.size, 1, none⟩ = some (.int .i64 x.f1) ∧ w'.cell? ⟨W.heap.size, 2, none⟩ = some (.int .i64 x.f2) ∧ w'.cell? ⟨W.heap.size, 3, none⟩ = some (.int .i64 x.f3) ∧ w'.cell? ⟨W.heap.size, 4, none⟩ = some (.int .i64 x.f4) ∧ w'.cell? ⟨W.heap.size, 5, none⟩ = some (.slice A2 n cc2)) (ds := [8]) #[false, false, false, false, false, false, false, false, false] (by kernel_rfl) rfl rfl ⟨t3', m0, m1, m2, m3, m4, m5⟩ (fun hHeld => ?_)
  refine pure_ (i := 0) (N := some 106) (v := ?_) (a' := ?_) #[true, false, false, false, false, false, false, false, false] rfl rfl (by kernel_rfl) (fun _ _ _ h => h) (Or.inl ⟨by rfl, ?_⟩) ?_ ?_
  rotate_left
  · intro w'
    go_simp
    with_reducible rfl
  rotate_left
  · simp only [Act.put, List.setIfInBounds_toArray, List.set_cons_zero, List.set_cons_succ, i64_w, i32_w]
    rfl
  refine pure_ (i := 1) (N := some 107) (v := ?_) (a' := ?_) #[true, true, false, false, false, false, false, false, false] rfl rfl (by kernel_rfl) (fun _ _ _ h => h) (Or.inl ⟨by rfl, ?_⟩) ?_ ?_
  rotate_left
  · intro w'
    go_simp
    with_reducible rfl
  rotate_left
  · simp only [Act.put, List.setIfInBounds_toArray, List.set_cons_zero, List.set_cons_succ, i64_w, i32_w]
    rfl
  refine pure_ (i := 2) (N := some 108) (v := ?_) (a' := ?_) #[true, true, true, false, false, false, false, false, false] rfl rfl (by kernel_rfl) (fun _ _ _ h => h) (Or.inl ⟨by rfl, ?_⟩) ?_ ?_
  rotate_left
  · intro w'
    go_simp
    with_reducible rfl
  rotate_left
  · simp only [Act.put, List.setIfInBounds_toArray, List.set_cons_zero, List.set_cons_succ, i64_w, i32_w]
    rfl
  refine pure_ (i := 3) (N := some 109) (v := ?_) (a' := ?_) #[true, true, true, true, false, false, false, false, false] rfl rfl (by kernel_rfl) (fun _ _ _ h => h) (Or.inl ⟨by rfl, ?_⟩) ?_ ?_
  rotate_left
  · intro w'
    go_simp
    with_reducible rfl
  rotate_left
  · simp only [Act.put, List.setIfInBounds_toArray, List.set_cons_zero, List.set_cons_succ, i64_w, i32_w]
    rfl
  refine take_ (i := 4) (N := some 110) (v := ?_) (a' := ?_) #[true, true, true, true, true, false, false, false, false] rfl rfl (by kernel_rfl) (fun _ _ _ h => h) (Or.inl ⟨by rfl, ?_⟩) hHeld ?_ ?_
  rotate_left
  · rintro w' ⟨s0, s1, s2, s3, s4, s5, s6⟩
    go_simp
    with_reducible rfl
  rotate_left
  · simp only [Act.put, List.setIfInBounds_toArray, List.set_cons_zero, List.set_cons_succ, i64_w, i32_w]
    rfl
  refine take_ (i := 6) (N := some 112) (v := ?_) (a' := ?_) #[true, true, true, true, true, false, true, false, false] rfl rfl (by kernel_rfl) (fun _ _ _ h => h) (Or.inl ⟨by rfl, ?_⟩) hHeld ?_ ?_
  rotate_left
  · rintro w' ⟨s0, s1, s2, s3, s4, s5, s6⟩
    go_simp
    with_reducible rfl
  rotate_left
  · simp only [Act.put, List.setIfInBounds_toArray, List.set_cons_zero, List.set_cons_succ, i64_w, i32_w]
    rfl
  refine one_ (i := 5) (N := some 111) #[true, true, true, true, true, true, true, false, false] rfl rfl (by kernel_rfl) (by decide) (fun K hK => ?_)
  refine goes_ Try.func36 (by kernel_rfl) rfl #[.pointer (some ⟨b, 0, none⟩), .int .i64 (N1 : Int)] (by rfl) rfl rfl (by simp only [List.map_toArray, List.map_cons, List.map_nil]; rfl) ?_
  with_reducible refine (at_C b s.room N1 _ _ t1'.out hA1 hA2 hA3 HK.out).mono ?_
  rintro e w4 ⟨rfl, ⟨⟨m, rfl⟩⟩⟩
  refine ⟨_, rfl, ?_⟩
  refine hK.out _ _ ⟨t3', m0, m1, m2, m3, m4, m5⟩ (fun hHeld => ?_)
  clear hK K
  refine norm_ (a' := ?_) ?_ ?_
  rotate_left
  · show Act.put _ (some 111) _ = _
    simp only [Act.put, List.setIfInBounds_toArray, List.set_cons_zero, List.set_cons_succ, i64_w, i32_w]
    rfl
  refine pure_ (i := 7) (N := some 113) (v := ?_) (a' := ?_) #[true, true, true, true, true, true, true, true, false] rfl rfl (by kernel_rfl) (fun _ _ _ h => h) (Or.inl ⟨by rfl, ?_⟩) ?_ ?_
  rotate_left
  · intro w'
    go_simp
    with_reducible rfl
  rotate_left
  · simp only [Act.put, List.setIfInBounds_toArray, List.set_cons_zero, List.set_cons_succ, i64_w, i32_w]
    rfl
  refine last_ (i := 8) (N := none) #[true, true, true, true, true, true, true, true, true] rfl rfl (by kernel_rfl) (by decide) (fun K hK => ?_)
  refine skip_store (by rfl) rfl 33 (.tmp 113) (.tmp 112) rfl (.agg #[.int .i64 x.f0, .int .i64 x.f1, .int .i64 x.f2, .int .i64 x.f3, .int .i64 x.f4, .slice A2 n cc2]) [.int .i64 x.f0, .int .i64 x.f1, .int .i64 x.f2, .int .i64 x.f3, .int .i64 x.f4, .slice A2 n cc2] rfl rfl HCUR.out.1 rfl size33 (by show kk * 6 + 6 ≤ _; have := HCUR.out.2; omega) (by simp [Value.oneCell']) ?_
  refine hK.out _ _ ?_
  clear hK K
  refine done_ (by kernel_rfl) ?_
  go_wp2
  go_ret
  have hb1 : W.heap.size + 1 ≤ wC.heap.size := blk_lt HBOX.out
  have hV2 := Kd.R_mono (Kd.R_bound HV.out) (ok' := fun k => W.heap.size + 1 ≤ k) (fun k hk => Nat.le_trans hb1 hk.2.1)
  have hbase : base ≤ W.heap.size := Nat.le_of_lt (Nat.lt_of_le_of_lt HR.out.1 hbl)
  have hV3 : Kd.R k55 55 w3 base (fun k => W.heap.size + 1 ≤ k) (.slice A2 n cc2) x.f5 := by
    rw [HW3.out]
    exact Kd.R_far (Kd.R_far (Kd.R_lower hV2 (show base ≤ wC.heap.size by omega)) (fun k hk e => by have h1 : k = W.heap.size := e; omega) _) (fun k hk e => by have h1 : k = b := e; omega) _
  have hF3 : Frm W w3 (own1 (some b)) := by
    rw [HW3.out]
    exact Frm.set_ (p := ⟨b, 386, none⟩) (Frm.set_ (p := ⟨W.heap.size, 5, none⟩) (HF1.out.step HB2.out) (.inr (Nat.le_refl _)) _) (.inl (show own1 (some b) b from rfl)) _
  have hroom : s.l.length = s.room := eq_of_beq HF.out
  have hA : (s.l.drop 1 ++ [x]).length = s.l.length := by rw [List.length_append, List.length_drop, List.length_singleton]; omega
  have hla : N1 = s.fl + s.l.length + 1 := HN1.out
  have hE2 : ∀ i, i < s.l.length → some (E ((s.fl + 1 + i) % s.room)) = s.l[i]? := HE.out
  obtain ⟨r1, r2, r3, r4, r5, r6⟩ := HO.out
  refine ⟨rfl, ⟨⟨r1, ?_, ?_, ?_, ?_, ?_⟩, fun j => if j = kk then x else E j, ?_, ?_⟩, ?_⟩
  · show (s.l.drop 1 ++ [x]).length ≤ s.room
    omega
  · show s.fl + 1 ≤ s.ho
    omega
  · show s.ho ≤ s.fl + 1 + (s.l.drop 1 ++ [x]).length
    simp only [RS.la] at r4
    omega
  · show s.fl + 1 + (s.l.drop 1 ++ [x]).length ≤ 2147483647
    have := ne_of_beq_false hb
    simp only [RS.la] at this r5
    omega
  · intro e he
    rcases List.mem_append.1 he with he | he
    · exact r6 e (List.mem_of_mem_drop he)
    · obtain rfl := List.mem_singleton.1 he
      show e.f5.length ≤ _
      have := HN.out
      omega
  · have hla2 : ((RS.la { s with fl := s.fl + 1, o := y.f1, l := s.l.drop 1 ++ [x] } : Nat) : Int) = (N1 : Int) := by
      show ((s.fl + 1 + (s.l.drop 1 ++ [x]).length : Nat) : Int) = _
      omega
    have hfl2 : ((s.fl + 1 : Nat) : Int) = (N0 : Int) := by rw [HN0.out]
    rw [hla2]
    show RingAt _ base ok b s.room ((s.fl + 1 : Nat) : Int) N1 s.ho y.f1 _
    rw [hfl2]
    refine RingAt_put ?_ hkl ?_
    · exact RingAt_step (RingAt_mono HR3.out (fun k hk => hk.1)) (fun _ _ _ => rfl)
    · exact Kd.R_step (Kd.R_mono hV3 (fun k hk => ⟨hfresh k (by omega), by omega⟩)) (fun _ _ _ => rfl)
  · intro i hi
    have hi : i < (s.l.drop 1 ++ [x]).length := hi
    show some (if (s.fl + 1 + 1 + i) % s.room = kk then x else E ((s.fl + 1 + 1 + i) % s.room)) = (s.l.drop 1 ++ [x])[i]?
    by_cases hil : i + 1 < s.l.length
    · have hne3 : (s.fl + 1 + 1 + i) % s.room ≠ kk := by
        rw [← HK.out]
        exact mod_ne (by omega) (by omega)
      rw [if_neg hne3, List.getElem?_append_left (by rw [List.length_drop]; omega), List.getElem?_drop, show s.fl + 1 + 1 + i = s.fl + 1 + (1 + i) by omega]
      exact hE2 (1 + i) (by omega)
    · have hil2 : i + 1 = s.l.length := by omega
      have hk3 : (s.fl + 1 + 1 + i) % s.room = kk := by
        rw [← HK.out]
        congr 1
        omega
      rw [if_pos hk3, List.getElem?_append_right (by rw [List.length_drop]; omega), List.length_drop, show i - (s.l.length - 1) = 0 by omega]
      rfl
  · have hF4 : Frm W (w3.drew.drewN m) (own1 (some b)) := hF3.drew.drewN m
    have hF5 := Frm.setCells (g := b) hF4 (.inl (show own1 (some b) b from rfl)) (kk * 6) [.int .i64 x.f0, .int .i64 x.f1, .int .i64 x.f2, .int .i64 x.f3, .int .i64 x.f4, .slice A2 n cc2]
    exact hF5
end
end Go.Proofs.Ytcbejpmmlcdhnaa.PW
namespace Go.Proofs.Ytcbejpmmlcdhnaa.PW
open Go.RowKit Go.Proofs.YtcbejpmmlcdhnaaW.PrintWords Go.Proofs.YtcbejpmmlcdhnaaW.PrintLast Go.Proofs.YtcbejpmmlcdhnaaW.PrintMore
set_option linter.unusedVariables false
set_option linter.unusedSimpArgs false

def RS.push (s : RS) (x : S33) : RS := if s.l.length = s.room then { s with fl := s.fl + 1, o := (s.l.getD 0 z33).f1, l := s.l.drop 1 ++ [x] } else { s with l := s.l ++ [x] }
/-- What Append answers. -/
def RS.acode (s : RS) (x : S33) : Int := if s.la = 2147483647 ∨ isB x.f1 = false then 3 else if x.f0 ≠ (s.la : Int) + 1 then 61 else if x.f1 < s.lv then 1 else if s.l.length = s.room ∧ s.ho ≤ s.fl then 62 else 0
def RS.app (s : RS) (x : S33) : RS := if s.acode x = 0 then s.push x else s
def entV (x : S33) (v : Value) : Value := .agg #[.int .i64 x.f0, .int .i64 x.f1, .int .i64 x.f2, .int .i64 x.f3, .int .i64 x.f4, v]
theorem append_R {W : World} {base : Nat} {ok : Nat → Prop} {p : Option Nat} {s : RS} (h : RingIs W base ok p s) (x : S33) (A : Option Addr) (n c : Nat) (hn : x.f5.length = n) (hC : Live W p A n x.f5) (hm : opsOk x) (hfresh : ∀ k, W.heap.size ≤ k → ok k) :
    Calls Try.prog 16 #[ptr p, entV x (.slice A n c)] W fun e w' => e = .returned (.int .i64 (s.acode x)) ∧ RingIs w' base ok p (s.app x) ∧ Frm W w' (own1 p) := by
  have hlt : (s.la : Int) ≤ 2147483647 := by have := h.1.2.2.2.2.1; omega
  have hkeep : ∀ {r : Int}, s.acode x = r → r ≠ 0 → (Calls Try.prog 16 #[ptr p, entV x (.slice A n c)] W fun e w' => e = .returned (.int .i64 r) ∧ Below W.heap.size W w') →
      Calls Try.prog 16 #[ptr p, entV x (.slice A n c)] W fun e w' => e = .returned (.int .i64 (s.acode x)) ∧ RingIs w' base ok p (s.app x) ∧ Frm W w' (own1 p) := by
    intro r hr h0 hc
    refine hc.mono ?_
    rintro e w1 ⟨rfl, hb⟩
    have : s.app x = s := by unfold RS.app; rw [hr, if_neg h0]
    rw [hr, this]
    exact ⟨rfl, RingIs_below h hb, Frm.of_below hb _⟩
  by_cases h1 : s.la = 2147483647
  · exact hkeep (r := 3) (by unfold RS.acode; rw [if_pos (.inl h1)]) (by decide) (append_max h _ _ _ _ _ _ (by rw [h1]; rfl))
  have b1 : ((s.la : Int) == 2147483647) = false := beq_eq_false_iff_ne.mpr (by omega)
  cases h2 : isB x.f1 with
  | false => exact hkeep (r := 3) (by unfold RS.acode; rw [if_pos (.inr h2)]) (by decide) (append_view h _ _ _ _ _ _ b1 h2)
  | true =>
    have hn1 : ¬ (s.la = 2147483647 ∨ isB x.f1 = false) := by rw [h2]; simp [h1]
    by_cases h3 : x.f0 = (s.la : Int) + 1
    · have b3 : (x.f0 != (s.la : Int) + 1) = false := bne_eq_false_iff_eq.mpr h3
      have hn3 : ¬ (x.f0 ≠ (s.la : Int) + 1) := fun h => h h3
      by_cases h4 : x.f1 < s.lv
      · exact hkeep (r := 1) (by unfold RS.acode; rw [if_neg hn1, if_neg hn3, if_pos h4]) (by decide) (append_arg h _ _ _ _ _ _ b1 h2 b3 (decide_eq_true h4) hlt)
      · have b4 : decide (x.f1 < s.lv) = false := decide_eq_false h4
        by_cases h5 : s.l.length = s.room ∧ s.ho ≤ s.fl
        · refine hkeep (r := 62) (by unfold RS.acode; rw [if_neg hn1, if_neg hn3, if_neg h4, if_pos h5]) (by decide) ?_
          cases p with
          | none => exact append_nil h _ _ _ _ _ _ b1 h2 b3 b4 hlt
          | some b => exact append_room h _ _ _ _ _ _ b1 h2 b3 b4 hlt (beq_iff_eq.mpr h5.1) (decide_eq_true h5.2)
        · have hr : s.acode x = 0 := by unfold RS.acode; rw [if_neg hn1, if_neg hn3, if_neg h4, if_neg h5]
          have happ : s.app x = s.push x := by unfold RS.app; rw [if_pos hr]
          rw [hr, happ]
          cases p with
          | none =>
            obtain ⟨_, rfl⟩ := h
            exact absurd ⟨rfl, Nat.le_refl _⟩ h5
          | some b =>
            unfold RS.push
            by_cases h6 : s.l.length = s.room
            · rw [if_pos h6]
              have h7 : s.fl < s.ho := Nat.lt_of_not_le (fun h8 => h5 ⟨h6, h8⟩)
              have h8 : 0 < s.l.length := by
                obtain ⟨r1, r2, r3, r4, r5, r6⟩ := h.1
                simp only [RS.la] at r4
                omega
              refine append_full h x A n c hn hC (by rw [← hn]; exact hm) hfresh b1 h2 b3 b4 hlt (beq_iff_eq.mpr h6) h7 _ ?_
              rw [List.getD_eq_getElem?_getD, List.getElem?_eq_getElem h8]
              rfl
            · rw [if_neg h6]
              exact append_ok h x A n c hn hC (by rw [← hn]; exact hm) hfresh b1 h2 b3 b4 hlt (beq_eq_false_iff_ne.mpr h6)
    · exact hkeep (r := 61) (by unfold RS.acode; rw [if_neg hn1, if_pos h3]) (by decide) (append_gap h _ _ _ _ _ _ b1 h2 (bne_iff_ne.mpr h3) hlt)
end Go.Proofs.Ytcbejpmmlcdhnaa.PW
namespace Go.Proofs.Ytcbejpmmlcdhnaa.PW
open Go.RowKit Go.Proofs.YtcbejpmmlcdhnaaW.PrintWords Go.Proofs.YtcbejpmmlcdhnaaW.PrintLast Go.Proofs.YtcbejpmmlcdhnaaW.PrintMore
set_option linter.unusedVariables false
set_option linter.unusedSimpArgs false

theorem size31 : (Try.prog.info? 31).map (·.size) = some 1 := by kernel_rfl
theorem szA (W : World) (o : Obj) : (W.alloc o).heap.size = W.heap.size + 1 := by show (W.heap.push o).size = _; rw [Array.size_push]
theorem blk_full {w : World} {g : Nat} {e : TypeId} {cur : Array Value} (vs : List Value) (h : w.heap[g]? = some (.cells cur e (0, 0))) (hs : cur.size = vs.length) : (w.setCells g 0 vs).heap[g]? = some (.cells vs.toArray e (0, 0)) := by
  obtain ⟨c, h1, h2, h3⟩ := setCells_row vs 0 w cur h (by omega)
  rw [h1]
  have : c = vs.toArray := by
    apply Array.ext'
    rw [h3]
    simp [← hs]
  rw [this]
theorem blkA (W : World) (o o2 : Obj) : ((W.alloc o).alloc o2).heap[W.heap.size]? = some o := (Below.block (below_alloc (Below.refl (W.alloc o).heap.size _) o2) _ (by rw [szA]; omega)).trans (heap_alloc_new W o)
theorem blkB (W : World) (o o2 : Obj) : ((W.alloc o).alloc o2).heap[W.heap.size + 1]? = some o2 := by rw [← szA W o]; exact heap_alloc_new _ _
set_option maxHeartbeats 4000000 in
set_option maxRecDepth 100000 in
theorem own_C (x : S33) (A : Option Addr) (n c : Nat) (W : World) (hn : x.f5.length = n) (hC : Kd.C k55 W A n x.f5) (hm : opsOk x) :
    Calls Try.prog 42 #[entV x (.slice A n c)] W fun e w' => ∃ A2 c2, e = .returned (entV x (.slice A2 n c2)) ∧ Kd.R k55 55 w' W.heap.size (fun _ => True) (.slice A2 n c2) x.f5 ∧ Below W.heap.size W w' := by
  have HC := Aside0.mk hC
  have HN := Aside0.mk hn
  have HM := Aside0.mk (show n ≤ 2513169434843 from by rw [← hn]; exact hm)
  clear hC hn hm
  unfold entV
  go_enter Try.func42, Try.ntmps42
  go_wp2_with fail
  have hB0 : Below W.heap.size W ((W.alloc (.cells #[.int .i64 x.f0, .int .i64 x.f1, .int .i64 x.f2, .int .i64 x.f3, .int .i64 x.f4, .slice A n c] 33)).alloc (.cells #[.int .i64 0, .int .i64 0, .int .i64 0, .int .i64 0, .int .i64 0, .slice none 0 0] 33)) := below_alloc (below_alloc (Below.refl _ _) _) _
  refine (clone_C A n c x.f5 _ HN.out (Kd.C_below HC.out hB0) HM.out).mono ?_
  rintro e w2 ⟨A2, c2, rfl, hv, hB2⟩
  have g1 : w2.heap[W.heap.size]? = some (.cells #[.int .i64 x.f0, .int .i64 x.f1, .int .i64 x.f2, .int .i64 x.f3, .int .i64 x.f4, .slice A n c] 33) := (hB2.block _ (by rw [szA, szA]; omega)).trans (blkA _ _ _)
  have g2 : w2.heap[W.heap.size + 1]? = some (.cells #[.int .i64 0, .int .i64 0, .int .i64 0, .int .i64 0, .int .i64 0, .slice none 0 0] 33) := (hB2.block _ (by rw [szA, szA]; omega)).trans (blkB _ _ _)
  have HV := Aside0.mk hv
  have HB := Aside0.mk (below_step hB0 hB2)
  have HS := Aside0.mk (show W.heap.size + 2 ≤ w2.heap.size by have := hB2.size; rw [szA, szA] at this; omega)
  have HBL := Aside0.mk hB2
  have c5 : w2.cell? ⟨W.heap.size, 5, none⟩ = some (.slice A n c) := (blk_cell g1 5).trans rfl
  have z5 : w2.frozen? ⟨W.heap.size, 5, none⟩ = false := blk_frozen g1 5
  have G1 := Aside0.mk g1
  have G2 := Aside0.mk g2
  clear hv hB0 hB2 g1 g2
  go_wp2_with (with_reducible refine stop_store rfl ?_)
  refine wpList_store rfl rfl 31 (.tmp 6) (.tmp 5) rfl (.slice A2 n c2) [.slice A2 n c2] rfl rfl G1.out rfl size31 (by show 5 + 1 ≤ 6; omega) (by simp [Value.oneCell']) ?_
  have g1' : (w2.setCells W.heap.size 5 [.slice A2 n c2]).heap[W.heap.size]? = some (.cells #[.int .i64 x.f0, .int .i64 x.f1, .int .i64 x.f2, .int .i64 x.f3, .int .i64 x.f4, .slice A2 n c2] 33) := by simpa [World.setCells] using blk_set G1.out 5 (.slice A2 n c2)
  have g2' : (w2.setCells W.heap.size 5 [.slice A2 n c2]).heap[W.heap.size + 1]? = some (.cells #[.int .i64 0, .int .i64 0, .int .i64 0, .int .i64 0, .int .i64 0, .slice none 0 0] 33) := (setCells_far _ _ _ (by omega)).trans G2.out
  have HV3 := Aside0.mk (Kd.R_step (Kd.R_mono (Kd.R_bound HV.out) (ok' := fun k => W.heap.size + 2 ≤ k) (fun k hk => by have := hk.2.1; rw [szA, szA] at this; omega)) (fun k hk _ => setCells_far [.slice A2 n c2] 5 (g := W.heap.size) k (by omega)))
  have HB3 := Aside0.mk (HB.out.trans (Frm.below (B := W.heap.size) (Frm.setCells (Frm.refl w2 (fun k => k = W.heap.size)) (.inl rfl) 5 [.slice A2 n c2]) (fun k hk _ => by have : k = W.heap.size := hk; omega) (by have := HS.out; omega)))
  obtain ⟨w3, hw3⟩ : ∃ w3, w3 = w2.setCells W.heap.size 5 [.slice A2 n c2] := ⟨_, rfl⟩
  rw [← hw3] at g1' g2' HV3 HB3 ⊢
  have m0 : w3.cell? ⟨W.heap.size, 0, none⟩ = some (.int .i64 x.f0) := (blk_cell g1' 0).trans rfl
  have m1 : w3.cell? ⟨W.heap.size, 1, none⟩ = some (.int .i64 x.f1) := (blk_cell g1' 1).trans rfl
  have m2 : w3.cell? ⟨W.heap.size, 2, none⟩ = some (.int .i64 x.f2) := (blk_cell g1' 2).trans rfl
  have m3 : w3.cell? ⟨W.heap.size, 3, none⟩ = some (.int .i64 x.f3) := (blk_cell g1' 3).trans rfl
  have m4 : w3.cell? ⟨W.heap.size, 4, none⟩ = some (.int .i64 x.f4) := (blk_cell g1' 4).trans rfl
  have m5 : w3.cell? ⟨W.heap.size, 5, none⟩ = some (.slice A2 n c2) := (blk_cell g1' 5).trans rfl
  have G3 := Aside0.mk g2'
  have HS3 := Aside0.mk (show W.heap.size + 2 ≤ w3.heap.size by rw [hw3, (setCells_same _ _ _ _).2.2.2]; exact HS.out)
  clear hw3 g1' g2' c5 z5
  go_wp2_with (with_reducible refine stop_store rfl ?_)
  refine wpList_store rfl rfl 33 (.tmp 2) (.tmp 7) rfl (.agg #[.int .i64 x.f0, .int .i64 x.f1, .int .i64 x.f2, .int .i64 x.f3, .int .i64 x.f4, .slice A2 n c2]) [.int .i64 x.f0, .int .i64 x.f1, .int .i64 x.f2, .int .i64 x.f3, .int .i64 x.f4, .slice A2 n c2] rfl rfl G3.out rfl size33 (by show 0 + 6 ≤ 6; omega) (by simp [Value.oneCell']) ?_
  have g3 := blk_full [.int .i64 x.f0, .int .i64 x.f1, .int .i64 x.f2, .int .i64 x.f3, .int .i64 x.f4, .slice A2 n c2] G3.out rfl
  have HV4 := Aside0.mk (Kd.R_step HV3.out (fun k hk _ => setCells_far [.int .i64 x.f0, .int .i64 x.f1, .int .i64 x.f2, .int .i64 x.f3, .int .i64 x.f4, .slice A2 n c2] 0 (g := W.heap.size + 1) k (by omega)))
  have HB4 := Aside0.mk (HB3.out.trans (Frm.below (B := W.heap.size) (Frm.setCells (Frm.refl w3 (fun k => k = W.heap.size + 1)) (.inl rfl) 0 [.int .i64 x.f0, .int .i64 x.f1, .int .i64 x.f2, .int .i64 x.f3, .int .i64 x.f4, .slice A2 n c2]) (fun k hk _ => by have : k = W.heap.size + 1 := hk; omega) (by have := HS3.out; omega)))
  obtain ⟨w4, hw4⟩ : ∃ w4, w4 = w3.setCells (W.heap.size + 1) 0 [.int .i64 x.f0, .int .i64 x.f1, .int .i64 x.f2, .int .i64 x.f3, .int .i64 x.f4, .slice A2 n c2] := ⟨_, rfl⟩
  rw [← hw4] at g3 HV4 HB4 ⊢
  have G4 := Aside0.mk g3
  clear hw4 g3 m0 m1 m2 m3 m4 m5
  go_wp2
  refine bodyPost_ret (results_cell_row rfl _ _ (W.heap.size + 1) 33 _ (0, 0) _ rfl G4.out Try.underlying33 rfl (by kernel_rfl)) rfl ?_
  refine ⟨A2, c2, rfl, Kd.R_mono (Kd.R_lower HV4.out ?_) (fun _ _ => trivial), HB4.out⟩
  rw [szA, szA]
  omega
end Go.Proofs.Ytcbejpmmlcdhnaa.PW
namespace Go.Proofs.Ytcbejpmmlcdhnaa.PW
open Go.RowKit Go.Proofs.YtcbejpmmlcdhnaaW.PrintWords Go.Proofs.YtcbejpmmlcdhnaaW.PrintLast Go.Proofs.YtcbejpmmlcdhnaaW.PrintMore
set_option linter.unusedVariables false
set_option linter.unusedSimpArgs false

theorem results_cell_tmp {P : Program} {fn : Func} {p q : Tmp} {ty : TypeId} (h : fn.results = #[.cell p ty, .tmp q]) (tmps : Array Value) (w : World) (g : Nat) (t : TypeId) (cs : Array Value) (fr : Nat × Nat) (d : TypeDesc) (v : Value)
    (hp : tmps.getD p undef = .pointer (some ⟨g, 0, none⟩)) (hq : tmps.getD q undef = v) (hg : w.heap[g]? = some (.cells cs t fr))
    (hu : P.underlying ty = some d) (hd : (match d with | .struct _ | .array _ _ => true | _ => false) = true) (hi : (P.info? ty).map (·.size) = some cs.size) :
    (results fn tmps).run P w = .ok (.tuple #[.agg cs, v]) w := by
  have hp' : tmps[p]?.getD undef = .pointer (some ⟨g, 0, none⟩) := by simpa using hp
  have hq' : tmps[q]?.getD undef = v := by simpa using hq
  simp [results, h, hp', hq', asAddr, run_loadVar_row w g t ty cs fr d hg hu hd hi]
def RS.atc (s : RS) (n : Int) : Int := if n ≤ (s.fl : Int) then 60 else if (s.la : Int) < n then 61 else 0
def RS.at (s : RS) (n : Int) : S33 := if s.atc n = 0 then s.l.getD (n - s.fl - 1).toNat z33 else z33
section
variable {W : World} {base : Nat} {ok : Nat → Prop} {p : Option Nat} {s : RS}
abbrev zeroCells : Array Value := #[.int .i64 0, .int .i64 0, .int .i64 0, .int .i64 0, .int .i64 0, .slice none 0 0]
abbrev zeroList : List Value := [.int .i64 0, .int .i64 0, .int .i64 0, .int .i64 0, .int .i64 0, .slice none 0 0]
set_option maxHeartbeats 4000000 in
set_option maxRecDepth 100000 in
theorem at_old (h : RingIs W base ok p s) (n : Int) (hle : decide (n ≤ (s.fl : Int)) = true) :
    Calls Try.prog 23 #[ptr p, .int .i64 n] W fun e w' => e = .returned (.tuple #[entV z33 (.slice none 0 0), .int .i64 60]) ∧ Below W.heap.size W w' := by
  have H := Aside0.mk h
  clear h
  go_enter Try.func23, Try.ntmps23
  go_wp2_with fail
  refine (floor_R (RingIs_below H.out (below_alloc (Below.refl _ _) _))).mono ?_
  rintro e w1 ⟨rfl, ⟨⟨n1, rfl⟩⟩⟩
  go_wp2_with fail
  refine (last_R (RingIs_below (RingIs_below H.out (below_alloc (Below.refl _ _) _)) (pw_below_drewN (Below.refl _ _) _))).mono ?_
  rintro e w1 ⟨rfl, ⟨⟨n2, rfl⟩⟩⟩
  have hb0 : ((W.alloc (.cells zeroCells 33)).drewN (n1 + n2)).heap[W.heap.size]? = some (.cells zeroCells 33) := heap_alloc_new _ _
  have HB0 := Aside0.mk hb0
  clear hb0
  go_wp2_with (with_reducible refine stop_store rfl ?_)
  refine wpList_store rfl rfl 33 (.tmp 4) (.tmp 24) rfl (.agg zeroCells) zeroList rfl rfl HB0.out rfl size33 (by show 0 + 6 ≤ 6; omega) (by simp [Value.oneCell']) ?_
  have g3 := blk_full zeroList HB0.out rfl
  have hB : Below W.heap.size W (((W.alloc (.cells zeroCells 33)).drewN (n1 + n2)).setCells W.heap.size 0 zeroList) :=
    Frm.below (Frm.setCells (((Frm.refl W (fun k => k = W.heap.size)).alloc _).drewN _) (.inl rfl) 0 zeroList) (fun k hk _ => by have : k = W.heap.size := hk; omega) (Nat.le_refl _)
  obtain ⟨w4, hw4⟩ : ∃ w4, w4 = ((W.alloc (.cells zeroCells 33)).drewN (n1 + n2)).setCells W.heap.size 0 zeroList := ⟨_, rfl⟩
  rw [← hw4] at g3 hB ⊢
  have G4 := Aside0.mk g3
  have HB := Aside0.mk hB
  clear hw4 g3 hB
  go_wp2
  refine bodyPost_ret (results_cell_tmp rfl _ _ W.heap.size 33 _ (0, 0) _ _ rfl rfl G4.out Try.underlying33 rfl (by kernel_rfl)) rfl ?_
  exact ⟨rfl, HB.out⟩
set_option maxHeartbeats 4000000 in
set_option maxRecDepth 100000 in
theorem at_gap (h : RingIs W base ok p s) (n : Int) (hle : decide (n ≤ (s.fl : Int)) = false) (hgt : decide ((s.la : Int) < n) = true) :
    Calls Try.prog 23 #[ptr p, .int .i64 n] W fun e w' => e = .returned (.tuple #[entV z33 (.slice none 0 0), .int .i64 61]) ∧ Below W.heap.size W w' := by
  have H := Aside0.mk h
  clear h
  go_enter Try.func23, Try.ntmps23
  go_wp2_with fail
  refine (floor_R (RingIs_below H.out (below_alloc (Below.refl _ _) _))).mono ?_
  rintro e w1 ⟨rfl, ⟨⟨n1, rfl⟩⟩⟩
  go_wp2_with fail
  refine (last_R (RingIs_below (RingIs_below H.out (below_alloc (Below.refl _ _) _)) (pw_below_drewN (Below.refl _ _) _))).mono ?_
  rintro e w1 ⟨rfl, ⟨⟨n2, rfl⟩⟩⟩
  have hb0 : ((W.alloc (.cells zeroCells 33)).drewN (n1 + n2)).heap[W.heap.size]? = some (.cells zeroCells 33) := heap_alloc_new _ _
  have HB0 := Aside0.mk hb0
  clear hb0
  go_wp2_with (with_reducible refine stop_store rfl ?_)
  refine wpList_store rfl rfl 33 (.tmp 4) (.tmp 29) rfl (.agg zeroCells) zeroList rfl rfl HB0.out rfl size33 (by show 0 + 6 ≤ 6; omega) (by simp [Value.oneCell']) ?_
  have g3 := blk_full zeroList HB0.out rfl
  have hB : Below W.heap.size W (((W.alloc (.cells zeroCells 33)).drewN (n1 + n2)).setCells W.heap.size 0 zeroList) :=
    Frm.below (Frm.setCells (((Frm.refl W (fun k => k = W.heap.size)).alloc _).drewN _) (.inl rfl) 0 zeroList) (fun k hk _ => by have : k = W.heap.size := hk; omega) (Nat.le_refl _)
  obtain ⟨w4, hw4⟩ : ∃ w4, w4 = ((W.alloc (.cells zeroCells 33)).drewN (n1 + n2)).setCells W.heap.size 0 zeroList := ⟨_, rfl⟩
  rw [← hw4] at g3 hB ⊢
  have G4 := Aside0.mk g3
  have HB := Aside0.mk hB
  clear hw4 g3 hB
  go_wp2
  refine bodyPost_ret (results_cell_tmp rfl _ _ W.heap.size 33 _ (0, 0) _ _ rfl rfl G4.out Try.underlying33 rfl (by kernel_rfl)) rfl ?_
  exact ⟨rfl, HB.out⟩
set_option maxHeartbeats 4000000 in
set_option maxRecDepth 100000 in
theorem at_ok {b : Nat} (h : RingIs W base ok (some b) s) (n : Nat) (hle : decide ((n : Int) ≤ (s.fl : Int)) = false) (hgt : decide ((s.la : Int) < (n : Int)) = false) (y : S33) (hy : s.l[n - s.fl - 1]? = some y) :
    Calls Try.prog 23 #[.pointer (some ⟨b, 0, none⟩), .int .i64 n] W fun e w' => ∃ A2 c2, e = .returned (.tuple #[entV y (.slice A2 y.f5.length c2), .int .i64 0]) ∧ Kd.R k55 55 w' W.heap.size (fun _ => True) (.slice A2 y.f5.length c2) y.f5 ∧ Below W.heap.size W w' := by
  have hle2 := of_decide_eq_false hle
  have hgt2 := of_decide_eq_false hgt
  have hfl : s.fl < n := by omega
  have hnla : n ≤ s.la := by omega
  obtain ⟨⟨r1, r2, r3, r4, r5, r6⟩, E, hR, hE⟩ := id h
  have hlen : n - s.fl - 1 < s.l.length := (List.getElem?_eq_some_iff.1 hy).1
  have hroom : 0 < s.room := by omega
  have hEy : E (n % s.room) = y := by
    have h1 := hE (n - s.fl - 1) hlen
    rw [hy, show s.fl + 1 + (n - s.fl - 1) = n by omega] at h1
    exact Option.some.inj h1
  obtain ⟨kk, hkk⟩ : ∃ kk, kk = n % s.room := ⟨_, rfl⟩
  rw [← hkk] at hEy
  have hk64 : kk < 64 := by have := Nat.mod_lt n hroom; omega
  have hym : opsOk y := r6 y (List.mem_of_getElem? hy)
  obtain ⟨q1, q2, C, q3, q4, q5, q6, q7, q8, q9, q10⟩ := id hR
  obtain ⟨e0, e1, e2, e3, e4, v, e5, hv⟩ := q10 kk hk64
  rw [hEy] at e0 e1 e2 e3 e4 hv
  obtain ⟨A, c, rfl, hlc, hC⟩ := Kd.R_reads hv
  have hbl : b < W.heap.size := blk_lt q3
  obtain ⟨m, hm⟩ : ∃ m, m = y.f5.length := ⟨_, rfl⟩
  rw [← hm] at e5 hC ⊢
  have H := Aside0.mk h
  have HC := Aside0.mk hC
  have HM := Aside0.mk hm
  have HK := Aside0.mk hkk.symm
  have HYM := Aside0.mk hym
  have HCELL := Aside0.mk (And.intro q5 (And.intro ((blk_cell q3 _).trans e0) (And.intro ((blk_cell q3 _).trans e1) (And.intro ((blk_cell q3 _).trans e2) (And.intro ((blk_cell q3 _).trans e3) (And.intro ((blk_cell q3 _).trans e4) ((blk_cell q3 _).trans e5)))))))
  have HQ := Aside0.mk q3
  have hn32 : n ≤ 4294967296 := by omega
  clear hy hR hE h hEy q5 q6 q7 q8 q9 q10 e0 e1 e2 e3 e4 e5 hv hC hm hkk hlc q3 hle2 hgt2
  go_enter Try.func23, Try.ntmps23
  go_wp2_with fail
  refine (floor_R (p := some b) (RingIs_below H.out (below_alloc (Below.refl _ _) _))).mono ?_
  rintro e w1 ⟨rfl, ⟨⟨n1, rfl⟩⟩⟩
  go_wp2_with fail
  refine (last_R (p := some b) (RingIs_below (RingIs_below H.out (below_alloc (Below.refl _ _) _)) (pw_below_drewN (Below.refl _ _) _))).mono ?_
  rintro e w1 ⟨rfl, ⟨⟨n2, rfl⟩⟩⟩
  have hB0 : Below W.heap.size W ((W.alloc (.cells zeroCells 33)).drewN (n1 + n2)) := pw_below_drewN (below_alloc (Below.refl _ _) _) _
  have hb0 : ((W.alloc (.cells zeroCells 33)).drewN (n1 + n2)).heap[W.heap.size]? = some (.cells zeroCells 33) := heap_alloc_new _ _
  obtain ⟨w1, hw1⟩ : ∃ w1, w1 = (W.alloc (.cells zeroCells 33)).drewN (n1 + n2) := ⟨_, rfl⟩
  rw [← hw1] at hB0 hb0
  have d0 : w1.cell? ⟨b, 384, none⟩ = some (.int .i64 (s.room : Int)) := pw_cell_below hB0 ((blk_cell HQ.out 384).trans HCELL.out.1)
  have v0 : w1.cell? ⟨b, kk * 6, none⟩ = some (.int .i64 y.f0) := pw_cell_below hB0 HCELL.out.2.1
  have v1 : w1.cell? ⟨b, kk * 6 + 1, none⟩ = some (.int .i64 y.f1) := pw_cell_below hB0 HCELL.out.2.2.1
  have v2 : w1.cell? ⟨b, kk * 6 + 2, none⟩ = some (.int .i64 y.f2) := pw_cell_below hB0 HCELL.out.2.2.2.1
  have v3 : w1.cell? ⟨b, kk * 6 + 3, none⟩ = some (.int .i64 y.f3) := pw_cell_below hB0 HCELL.out.2.2.2.2.1
  have v4 : w1.cell? ⟨b, kk * 6 + 4, none⟩ = some (.int .i64 y.f4) := pw_cell_below hB0 HCELL.out.2.2.2.2.2.1
  have v5 : w1.cell? ⟨b, kk * 6 + 5, none⟩ = some (.slice A m c) := pw_cell_below hB0 HCELL.out.2.2.2.2.2.2
  have HB0 := Aside0.mk hB0
  have HBX := Aside0.mk hb0
  have HW1 := Aside0.mk hw1
  clear hB0 hb0 hw1
  go_wp2_with fail
  rw [← HW1.out]
  refine (at_C b s.room n kk _ d0 hroom r1 hn32 HK.out).mono ?_
  rintro e w2 ⟨rfl, ⟨⟨mm, rfl⟩⟩⟩
  go_wp2_with fail
  refine (own_C y A m c _ HM.out.symm (Kd.C_below (Kd.C_below HC.out HB0.out) (pw_below_drewN (Below.refl _ _) _)) HYM.out).mono ?_
  rintro e w2 ⟨A2, c2, rfl, hv2, hB2⟩
  have hb2 : w2.heap[W.heap.size]? = some (.cells zeroCells 33) := (hB2.block _ (blk_lt HBX.out)).trans HBX.out
  have HV2 := Aside0.mk hv2
  have HB2 := Aside0.mk (below_step HB0.out (below_step (pw_below_drewN (Below.refl w1.heap.size w1) _) hB2))
  have HBX2 := Aside0.mk hb2
  have HLT := Aside0.mk (blk_lt HBX.out)
  unfold entV
  clear hv2 hB2 hb2 v0 v1 v2 v3 v4 v5 d0 HBX
  go_wp2_with (with_reducible refine stop_store rfl ?_)
  refine wpList_store rfl rfl 33 (.tmp 4) (.tmp 35) rfl (.agg #[.int .i64 y.f0, .int .i64 y.f1, .int .i64 y.f2, .int .i64 y.f3, .int .i64 y.f4, .slice A2 m c2]) [.int .i64 y.f0, .int .i64 y.f1, .int .i64 y.f2, .int .i64 y.f3, .int .i64 y.f4, .slice A2 m c2] rfl rfl HBX2.out rfl size33 (by show 0 + 6 ≤ 6; omega) (by simp [Value.oneCell']) ?_
  have g3 := blk_full [.int .i64 y.f0, .int .i64 y.f1, .int .i64 y.f2, .int .i64 y.f3, .int .i64 y.f4, .slice A2 m c2] HBX2.out rfl
  have hB : Below W.heap.size W (w2.setCells W.heap.size 0 [.int .i64 y.f0, .int .i64 y.f1, .int .i64 y.f2, .int .i64 y.f3, .int .i64 y.f4, .slice A2 m c2]) :=
    Frm.below (Frm.setCells (Frm.of_below HB2.out (fun k => k = W.heap.size)) (.inl rfl) 0 [.int .i64 y.f0, .int .i64 y.f1, .int .i64 y.f2, .int .i64 y.f3, .int .i64 y.f4, .slice A2 m c2]) (fun k hk _ => by have : k = W.heap.size := hk; omega) (Nat.le_refl _)
  have hV : Kd.R k55 55 (w2.setCells W.heap.size 0 [.int .i64 y.f0, .int .i64 y.f1, .int .i64 y.f2, .int .i64 y.f3, .int .i64 y.f4, .slice A2 m c2]) W.heap.size (fun _ => True) (.slice A2 m c2) y.f5 :=
    Kd.R_mono (Kd.R_lower (Kd.R_step (Kd.R_mono (Kd.R_bound HV2.out) (ok' := fun k => W.heap.size < k) (fun k hk => by have h1 := hk.2.1; have h2 := HLT.out; exact Nat.lt_of_lt_of_le h2 h1)) (fun k hk _ => setCells_far _ _ k (by omega))) (show W.heap.size ≤ w1.heap.size from Nat.le_of_lt HLT.out)) (fun _ _ => trivial)
  obtain ⟨w4, hw4⟩ : ∃ w4, w4 = w2.setCells W.heap.size 0 [.int .i64 y.f0, .int .i64 y.f1, .int .i64 y.f2, .int .i64 y.f3, .int .i64 y.f4, .slice A2 m c2] := ⟨_, rfl⟩
  rw [← hw4] at g3 hB hV ⊢
  have G4 := Aside0.mk g3
  have HB := Aside0.mk hB
  have HV := Aside0.mk hV
  clear hw4 g3 hB hV
  go_wp2
  refine bodyPost_ret (results_cell_tmp rfl _ _ W.heap.size 33 _ (0, 0) _ _ rfl rfl G4.out Try.underlying33 rfl (by kernel_rfl)) rfl ?_
  exact ⟨A2, c2, rfl, HV.out, HB.out⟩
theorem at_R (h : RingIs W base ok p s) (n : Int) :
    Calls Try.prog 23 #[ptr p, .int .i64 n] W fun e w' => ∃ A2 c2, e = .returned (.tuple #[entV (s.at n) (.slice A2 (s.at n).f5.length c2), .int .i64 (s.atc n)]) ∧ Kd.R k55 55 w' W.heap.size (fun _ => True) (.slice A2 (s.at n).f5.length c2) (s.at n).f5 ∧ Below W.heap.size W w' := by
  by_cases h1 : n ≤ (s.fl : Int)
  · have hc : s.atc n = 60 := if_pos h1
    have ha : s.at n = z33 := by unfold RS.at; rw [hc]; rfl
    rw [hc, ha]
    refine (at_old h n (decide_eq_true h1)).mono ?_
    rintro e w1 ⟨rfl, hb⟩
    exact ⟨none, 0, rfl, Kd.R_nil _ _ _ _ _, hb⟩
  · by_cases h2 : (s.la : Int) < n
    · have hc : s.atc n = 61 := by unfold RS.atc; rw [if_neg h1, if_pos h2]
      have ha : s.at n = z33 := by unfold RS.at; rw [hc]; rfl
      rw [hc, ha]
      refine (at_gap h n (decide_eq_false h1) (decide_eq_true h2)).mono ?_
      rintro e w1 ⟨rfl, hb⟩
      exact ⟨none, 0, rfl, Kd.R_nil _ _ _ _ _, hb⟩
    · have hc : s.atc n = 0 := by unfold RS.atc; rw [if_neg h1, if_neg h2]
      have ha : s.at n = s.l.getD (n - s.fl - 1).toNat z33 := by unfold RS.at; rw [if_pos hc]
      obtain ⟨m, rfl⟩ : ∃ m : Nat, n = m := ⟨n.toNat, by omega⟩
      have hidx : ((m : Int) - s.fl - 1).toNat = m - s.fl - 1 := by omega
      have hlt : m - s.fl - 1 < s.l.length := by simp only [RS.la] at h2; omega
      rw [hc, ha, hidx]
      cases p with
      | none =>
        obtain ⟨_, rfl⟩ := h
        exact absurd hlt (by simp [RS.zero])
      | some b =>
        refine at_ok h m (decide_eq_false h1) (decide_eq_false h2) _ ?_
        rw [List.getD_eq_getElem?_getD, List.getElem?_eq_getElem hlt]
        rfl
end
end Go.Proofs.Ytcbejpmmlcdhnaa.PW
namespace Go.Proofs.Ytcbejpmmlcdhnaa.PW
open Go.RowKit Go.Proofs.YtcbejpmmlcdhnaaW.PrintWords Go.Proofs.YtcbejpmmlcdhnaaW.PrintLast Go.Proofs.YtcbejpmmlcdhnaaW.PrintMore
attribute [local go_sem] max2_int min2_int max_two min_two max_three min_three max_four min_four   -- for this text's walks alone
set_option linter.unusedVariables false
set_option linter.unusedSimpArgs false
def rg53.T6 : Bool × List (List Nat × List Nat) := (true, [([], []), ([0], [0]), ([1], [1]), ([], []), ([], []), ([], []), ([2, 3, 4, 5], [2, 3, 4, 5]), ([], []), ([7], [7]), ([8], [8]), ([], []), ([], []), ([9, 10, 11], [9, 10, 11]), ([6, 0, 1, 2, 3, 4, 5, 6], [6]), ([12, 13, 0, 1, 2, 3, 4, 5, 6, 7, 8, 9, 10, 11, 12, 13], [12])])
def rg53.B6 : List Nat := [0, 1, 3, 0, 0, 0, 63, 0, 128, 384, 0, 0, 3968, 127, 16383]
theorem rg53.tab6 : rtab .any (opsOf Try.f53 6) = rg53.T6 := by kernel_rfl
theorem rg53.bits6 : waitsOk rg53.T6.2 rg53.B6 = true := by kernel_rfl

section
variable {W : World} {base : Nat} {ok : Nat → Prop} {p : Option Nat} {s : RS}
theorem run_none (v : Value) (a n : Int) (W : World) (hn : decide (n ≤ 0) = true) : Calls Try.prog 53 #[v, .int .i64 a, .int .i64 n] W fun e w' => e = .returned (.tuple #[.slice none 0 0, .slice none 0 0]) ∧ w' = W := by
  go_enter Try.func53, Try.ntmps53
  go_wp2
  go_ret2
  exact ⟨rfl, rfl⟩
theorem arrLen64 : Try.prog.arrayLen 64 = 64 := by kernel_rfl
theorem und64 : Try.prog.underlying 64 = some (.array (Try.prog.arrayLen 64) (Try.prog.elem 64)) := by kernel_rfl
theorem size_elem64 (W : World) : (sizeOf (Try.prog.elem 64)).run Try.prog W = .ok 6 W := by kernel_rfl
theorem slice64 (b i n : Nat) (k : Int) (hk : k = (i : Int) + (n : Int)) (h64 : i + n ≤ 64) (h0 : 0 < n ∨ i = 0) (W : World) :
    (Instr.sliceAt 64 (.pointer (some ⟨b, 0, none⟩)) (some (.int .i64 (i : Int))) (some (.int .i64 k)) (some (.int .i64 k))).run Try.prog W = .ok (.slice (some ⟨b, i * 6, none⟩) n n) W := by
  rw [run_sliceAt_array_lhm W 64 _ und64 .i64 .i64 .i64 (i : Int) k k (by omega) (by omega) (Int.le_refl _) (by rw [arrLen64]; omega), size_elem64]
  have e1 : (i : Int).toNat = i := by simp
  have e2 : k.toNat = i + n := by omega
  show Result.ok (slicedAt _ _ _ _ 6) W = _
  rw [e1, e2]
  unfold slicedAt
  rw [Nat.add_sub_cancel_left]
  by_cases h : i + n = i
  · have hi : i = 0 := by omega
    subst hi
    rw [if_pos h]
  · rw [if_neg h]
    simp [Addr.add]
    omega
set_option maxHeartbeats 4000000 in
set_option maxRecDepth 100000 in
theorem run_one (b room a n i : Nat) (w : World) (hr : w.cell? ⟨b, 384, none⟩ = some (.int .i64 (room : Int))) (h0 : 0 < room) (h1 : room ≤ 64) (ha : a ≤ 4294967296) (hn0 : 0 < n) (hn : n ≤ room) (hi : (a + 1) % room = i) (hk : i + n ≤ room) :
    Calls Try.prog 53 #[.pointer (some ⟨b, 0, none⟩), .int .i64 (a : Int), .int .i64 (n : Int)] w fun e w' => e = .returned (.tuple #[.slice (some ⟨b, i * 6, none⟩) n n, .slice (some ⟨b, 0, none⟩) 0 0]) ∧ Drawn0 w w' := by
  have hi1 : i < room := by have := Nat.mod_lt (a + 1) h0; omega
  have hne : ¬ (room = 0) := by omega
  have htm : ((a : Int) + 1).tmod (room : Int) = (i : Int) := by
    rw [← hi, show (a : Int) + 1 = ((a + 1 : Nat) : Int) by omega, Int.tmod_eq_emod_of_nonneg (by omega)]
    rfl
  have hd : decide ((n : Int) ≤ 0) = false := decide_eq_false (by omega)
  have hs1 : (i : Int) + (n : Int) - (i : Int) = (n : Int) := by omega
  have hs2 : (n : Int) - (n : Int) = 0 := by omega
  have hsl : ∀ W, (Instr.sliceAt 64 (.pointer (some ⟨b, 0, none⟩)) (some (.int .i64 (i : Int))) (some (.int .i64 ((i : Int) + (n : Int)))) (some (.int .i64 ((i : Int) + (n : Int))))).run Try.prog W = .ok (.slice (some ⟨b, i * 6, none⟩) n n) W := slice64 b i n _ rfl (by omega) (.inl hn0)
  clear hi
  go_enter Try.func53, Try.ntmps53
  go_wp2
  refine start_ (n := 15) (S := fun w' => True) (ds := []) #[false, false, false, false, false, false, false, false, false, false, false, false, false, false, false] (by kernel_rfl) rfl rfl trivial (fun hHeld => ?_)
  refine with_tabW rg53.tab6 rg53.bits6 (fun HT_ HW_ => ?_)
  refine pure_ (i := 0) (N := some 33) (v := ?_) (a' := ?_) #[true, false, false, false, false, false, false, false, false, false, false, false, false, false, false] rfl rfl (any_of HT_.out (by kernel_rfl)) (fun _ _ _ h => h) (Or.inl ⟨by rfl, ?_⟩) ?_ ?_
  rotate_left
  · intro w'
    go_simp
    with_reducible rfl
  rotate_left
  · simp only [Act.put, List.setIfInBounds_toArray, List.set_cons_zero, List.set_cons_succ, i64_w, i32_w]
    rfl
  refine pure_ (i := 1) (N := some 34) (v := ?_) (a' := ?_) #[true, true, false, false, false, false, false, false, false, false, false, false, false, false, false] rfl rfl (any_of HT_.out (by kernel_rfl)) (fun _ _ _ h => h) (Or.inl ⟨by rfl, ?_⟩) ?_ ?_
  rotate_left
  · intro w'
    go_simp
    with_reducible rfl
  rotate_left
  · simp only [Act.put, List.setIfInBounds_toArray, List.set_cons_zero, List.set_cons_succ, i64_w, i32_w]
    rfl
  refine pure_ (i := 2) (N := some 35) (v := ?_) (a' := ?_) #[true, true, true, false, false, false, false, false, false, false, false, false, false, false, false] rfl rfl (any_of HT_.out (by kernel_rfl)) (fun _ _ _ h => h) (Or.inl ⟨by rfl, ?_⟩) ?_ ?_
  rotate_left
  · intro w'
    go_simp
    with_reducible rfl
  rotate_left
  · simp only [Act.put, List.setIfInBounds_toArray, List.set_cons_zero, List.set_cons_succ, i64_w, i32_w]
    rfl
  refine pure_ (i := 3) (N := some 36) (v := ?_) (a' := ?_) #[true, true, true, true, false, false, false, false, false, false, false, false, false, false, false] rfl rfl (any_of HT_.out (by kernel_rfl)) (fun _ _ _ h => h) (Or.inl ⟨by rfl, ?_⟩) ?_ ?_
  rotate_left
  · intro w'
    go_simp
    with_reducible rfl
  rotate_left
  · simp only [Act.put, List.setIfInBounds_toArray, List.set_cons_zero, List.set_cons_succ, i64_w, i32_w]
    rfl
  refine pure_ (i := 4) (N := some 37) (v := ?_) (a' := ?_) #[true, true, true, true, true, false, false, false, false, false, false, false, false, false, false] rfl rfl (any_of HT_.out (by kernel_rfl)) (fun _ _ _ h => h) (Or.inl ⟨by rfl, ?_⟩) ?_ ?_
  rotate_left
  · intro w'
    go_simp
    with_reducible rfl
  rotate_left
  · simp only [Act.put, List.setIfInBounds_toArray, List.set_cons_zero, List.set_cons_succ, i64_w, i32_w]
    rfl
  refine pure_ (i := 5) (N := some 38) (v := ?_) (a' := ?_) #[true, true, true, true, true, true, false, false, false, false, false, false, false, false, false] rfl rfl (any_of HT_.out (by kernel_rfl)) (fun _ _ _ h => h) (Or.inl ⟨by rfl, ?_⟩) ?_ ?_
  rotate_left
  · intro w'
    go_simp
    with_reducible rfl
  rotate_left
  · simp only [Act.put, List.setIfInBounds_toArray, List.set_cons_zero, List.set_cons_succ, i64_w, i32_w]
    rfl
  refine pure_ (i := 6) (N := some 39) (v := ?_) (a' := ?_) #[true, true, true, true, true, true, true, false, false, false, false, false, false, false, false] rfl rfl (any_of HT_.out (by kernel_rfl)) (fun _ _ _ h => h) (Or.inl ⟨by rfl, ?_⟩) ?_ ?_
  rotate_left
  · intro w'
    go_simp
    with_reducible rfl
  rotate_left
  · simp only [Act.put, List.setIfInBounds_toArray, List.set_cons_zero, List.set_cons_succ, i64_w, i32_w]
    rfl
  refine pure_ (i := 7) (N := some 40) (v := ?_) (a' := ?_) #[true, true, true, true, true, true, true, true, false, false, false, false, false, false, false] rfl rfl (any_of HT_.out (by kernel_rfl)) (fun _ _ _ h => h) (Or.inl ⟨by rfl, ?_⟩) ?_ ?_
  rotate_left
  · intro w'
    go_simp
    with_reducible rfl
  rotate_left
  · simp only [Act.put, List.setIfInBounds_toArray, List.set_cons_zero, List.set_cons_succ, i64_w, i32_w]
    rfl
  refine pure_ (i := 8) (N := some 41) (v := ?_) (a' := ?_) #[true, true, true, true, true, true, true, true, true, false, false, false, false, false, false] rfl rfl (any_of HT_.out (by kernel_rfl)) (fun _ _ _ h => h) (Or.inl ⟨by rfl, ?_⟩) ?_ ?_
  rotate_left
  · intro w'
    go_simp
    with_reducible rfl
  rotate_left
  · simp only [Act.put, List.setIfInBounds_toArray, List.set_cons_zero, List.set_cons_succ, i64_w, i32_w]
    rfl
  refine pure_ (i := 9) (N := some 42) (v := ?_) (a' := ?_) #[true, true, true, true, true, true, true, true, true, true, false, false, false, false, false] rfl rfl (any_of HT_.out (by kernel_rfl)) (fun _ _ _ h => h) (Or.inl ⟨by rfl, ?_⟩) ?_ ?_
  rotate_left
  · intro w'
    go_simp
    with_reducible rfl
  rotate_left
  · simp only [Act.put, List.setIfInBounds_toArray, List.set_cons_zero, List.set_cons_succ, i64_w, i32_w]
    rfl
  refine pure_ (i := 10) (N := some 43) (v := ?_) (a' := ?_) #[true, true, true, true, true, true, true, true, true, true, true, false, false, false, false] rfl rfl (any_of HT_.out (by kernel_rfl)) (fun _ _ _ h => h) (Or.inl ⟨by rfl, ?_⟩) ?_ ?_
  rotate_left
  · intro w'
    go_simp
    with_reducible rfl
  rotate_left
  · simp only [Act.put, List.setIfInBounds_toArray, List.set_cons_zero, List.set_cons_succ, i64_w, i32_w]
    rfl
  refine pure_ (i := 11) (N := some 44) (v := ?_) (a' := ?_) #[true, true, true, true, true, true, true, true, true, true, true, true, false, false, false] rfl rfl (any_of HT_.out (by kernel_rfl)) (fun _ _ _ h => h) (Or.inl ⟨by rfl, ?_⟩) ?_ ?_
  rotate_left
  · intro w'
    go_simp
    with_reducible rfl
  rotate_left
  · simp only [Act.put, List.setIfInBounds_toArray, List.set_cons_zero, List.set_cons_succ, i64_w, i32_w]
    rfl
  refine pure_ (i := 12) (N := some 45) (v := ?_) (a' := ?_) #[true, true, true, true, true, true, true, true, true, true, true, true, true, false, false] rfl rfl (any_of HT_.out (by kernel_rfl)) (fun _ _ _ h => h) (Or.inl ⟨by rfl, ?_⟩) ?_ ?_
  rotate_left
  · intro w'
    go_simp
    with_reducible rfl
  rotate_left
  · simp only [Act.put, List.setIfInBounds_toArray, List.set_cons_zero, List.set_cons_succ, i64_w, i32_w]
    rfl
  refine pure_ (i := 13) (N := some 6) (v := ?_) (a' := ?_) #[true, true, true, true, true, true, true, true, true, true, true, true, true, true, false] rfl rfl (any_of HT_.out (by kernel_rfl)) (fun _ _ _ h => h) (Or.inl ⟨by rfl, ?_⟩) ?_ ?_
  rotate_left
  · intro w'
    go_simp
    with_reducible rfl
  rotate_left
  · simp only [Act.put, List.setIfInBounds_toArray, List.set_cons_zero, List.set_cons_succ, i64_w, i32_w]
    rfl
  refine pure_ (i := 14) (N := some 7) (v := ?_) (a' := ?_) #[true, true, true, true, true, true, true, true, true, true, true, true, true, true, true] rfl rfl (any_of HT_.out (by kernel_rfl)) (fun _ _ _ h => h) (Or.inl ⟨by rfl, ?_⟩) ?_ ?_
  rotate_left
  · intro w'
    go_simp
    with_reducible rfl
  rotate_left
  · simp only [Act.put, List.setIfInBounds_toArray, List.set_cons_zero, List.set_cons_succ, i64_w, i32_w]
    rfl
  refine done_ (done_of HT_.out (by kernel_rfl)) ?_
  go_wp2
  go_ret2
  exact ⟨rfl, ⟨⟨1, rfl⟩⟩⟩
set_option maxHeartbeats 4000000 in
set_option maxRecDepth 100000 in
theorem run_two (b room a n i k1 r : Nat) (w : World) (hr : w.cell? ⟨b, 384, none⟩ = some (.int .i64 (room : Int))) (h0 : 0 < room) (h1 : room ≤ 64) (ha : a ≤ 4294967296) (hn0 : 0 < n) (hn : n ≤ room) (hi : (a + 1) % room = i) (hk : room < i + n) (hk1 : room = i + k1) (hr1 : n = k1 + r) :
    Calls Try.prog 53 #[.pointer (some ⟨b, 0, none⟩), .int .i64 (a : Int), .int .i64 (n : Int)] w fun e w' => e = .returned (.tuple #[.slice (some ⟨b, i * 6, none⟩) k1 k1, .slice (some ⟨b, 0, none⟩) r r]) ∧ Drawn0 w w' := by
  have hi1 : i < room := by have := Nat.mod_lt (a + 1) h0; omega
  have hne : ¬ (room = 0) := by omega
  have htm : ((a : Int) + 1).tmod (room : Int) = (i : Int) := by
    rw [← hi, show (a : Int) + 1 = ((a + 1 : Nat) : Int) by omega, Int.tmod_eq_emod_of_nonneg (by omega)]
    rfl
  have hd : decide ((n : Int) ≤ 0) = false := decide_eq_false (by omega)
  have hs1 : (n : Int) - ((room : Int) - (i : Int)) = (r : Int) := by omega
  have hsl : ∀ W, (Instr.sliceAt 64 (.pointer (some ⟨b, 0, none⟩)) (some (.int .i64 (i : Int))) (some (.int .i64 (room : Int))) (some (.int .i64 (room : Int)))).run Try.prog W = .ok (.slice (some ⟨b, i * 6, none⟩) k1 k1) W := slice64 b i k1 _ (by omega) (by omega) (.inl (by omega))
  have hsr : ∀ W, (Instr.sliceAt 64 (.pointer (some ⟨b, 0, none⟩)) (some (.int .i64 0)) (some (.int .i64 (r : Int))) (some (.int .i64 (r : Int)))).run Try.prog W = .ok (.slice (some ⟨b, 0, none⟩) r r) W := fun W => by
    have := slice64 b 0 r _ rfl (by omega) (.inr rfl) W
    simpa using this
  clear hi hk1 hr1
  go_enter Try.func53, Try.ntmps53
  go_wp2
  refine start_ (n := 15) (S := fun w' => True) (ds := []) #[false, false, false, false, false, false, false, false, false, false, false, false, false, false, false] (by kernel_rfl) rfl rfl trivial (fun hHeld => ?_)
  refine with_tabW rg53.tab6 rg53.bits6 (fun HT_ HW_ => ?_)
  refine pure_ (i := 0) (N := some 33) (v := ?_) (a' := ?_) #[true, false, false, false, false, false, false, false, false, false, false, false, false, false, false] rfl rfl (any_of HT_.out (by kernel_rfl)) (fun _ _ _ h => h) (Or.inl ⟨by rfl, ?_⟩) ?_ ?_
  rotate_left
  · intro w'
    go_simp
    with_reducible rfl
  rotate_left
  · simp only [Act.put, List.setIfInBounds_toArray, List.set_cons_zero, List.set_cons_succ, i64_w, i32_w]
    rfl
  refine pure_ (i := 1) (N := some 34) (v := ?_) (a' := ?_) #[true, true, false, false, false, false, false, false, false, false, false, false, false, false, false] rfl rfl (any_of HT_.out (by kernel_rfl)) (fun _ _ _ h => h) (Or.inl ⟨by rfl, ?_⟩) ?_ ?_
  rotate_left
  · intro w'
    go_simp
    with_reducible rfl
  rotate_left
  · simp only [Act.put, List.setIfInBounds_toArray, List.set_cons_zero, List.set_cons_succ, i64_w, i32_w]
    rfl
  refine pure_ (i := 2) (N := some 35) (v := ?_) (a' := ?_) #[true, true, true, false, false, false, false, false, false, false, false, false, false, false, false] rfl rfl (any_of HT_.out (by kernel_rfl)) (fun _ _ _ h => h) (Or.inl ⟨by rfl, ?_⟩) ?_ ?_
  rotate_left
  · intro w'
    go_simp
    with_reducible rfl
  rotate_left
  · simp only [Act.put, List.setIfInBounds_toArray, List.set_cons_zero, List.set_cons_succ, i64_w, i32_w]
    rfl
  refine pure_ (i := 3) (N := some 36) (v := ?_) (a' := ?_) #[true, true, true, true, false, false, false, false, false, false, false, false, false, false, false] rfl rfl (any_of HT_.out (by kernel_rfl)) (fun _ _ _ h => h) (Or.inl ⟨by rfl, ?_⟩) ?_ ?_
  rotate_left
  · intro w'
    go_simp
    with_reducible rfl
  rotate_left
  · simp only [Act.put, List.setIfInBounds_toArray, List.set_cons_zero, List.set_cons_succ, i64_w, i32_w]
    rfl
  refine pure_ (i := 4) (N := some 37) (v := ?_) (a' := ?_) #[true, true, true, true, true, false, false, false, false, false, false, false, false, false, false] rfl rfl (any_of HT_.out (by kernel_rfl)) (fun _ _ _ h => h) (Or.inl ⟨by rfl, ?_⟩) ?_ ?_
  rotate_left
  · intro w'
    go_simp
    with_reducible rfl
  rotate_left
  · simp only [Act.put, List.setIfInBounds_toArray, List.set_cons_zero, List.set_cons_succ, i64_w, i32_w]
    rfl
  refine pure_ (i := 5) (N := some 38) (v := ?_) (a' := ?_) #[true, true, true, true, true, true, false, false, false, false, false, false, false, false, false] rfl rfl (any_of HT_.out (by kernel_rfl)) (fun _ _ _ h => h) (Or.inl ⟨by rfl, ?_⟩) ?_ ?_
  rotate_left
  · intro w'
    go_simp
    with_reducible rfl
  rotate_left
  · simp only [Act.put, List.setIfInBounds_toArray, List.set_cons_zero, List.set_cons_succ, i64_w, i32_w]
    rfl
  refine pure_ (i := 6) (N := some 39) (v := ?_) (a' := ?_) #[true, true, true, true, true, true, true, false, false, false, false, false, false, false, false] rfl rfl (any_of HT_.out (by kernel_rfl)) (fun _ _ _ h => h) (Or.inl ⟨by rfl, ?_⟩) ?_ ?_
  rotate_left
  · intro w'
    go_simp
    with_reducible rfl
  rotate_left
  · simp only [Act.put, List.setIfInBounds_toArray, List.set_cons_zero, List.set_cons_succ, i64_w, i32_w]
    rfl
  refine pure_ (i := 7) (N := some 40) (v := ?_) (a' := ?_) #[true, true, true, true, true, true, true, true, false, false, false, false, false, false, false] rfl rfl (any_of HT_.out (by kernel_rfl)) (fun _ _ _ h => h) (Or.inl ⟨by rfl, ?_⟩) ?_ ?_
  rotate_left
  · intro w'
    go_simp
    with_reducible rfl
  rotate_left
  · simp only [Act.put, List.setIfInBounds_toArray, List.set_cons_zero, List.set_cons_succ, i64_w, i32_w]
    rfl
  refine pure_ (i := 8) (N := some 41) (v := ?_) (a' := ?_) #[true, true, true, true, true, true, true, true, true, false, false, false, false, false, false] rfl rfl (any_of HT_.out (by kernel_rfl)) (fun _ _ _ h => h) (Or.inl ⟨by rfl, ?_⟩) ?_ ?_
  rotate_left
  · intro w'
    go_simp
    with_reducible rfl
  rotate_left
  · simp only [Act.put, List.setIfInBounds_toArray, List.set_cons_zero, List.set_cons_succ, i64_w, i32_w]
    rfl
  refine pure_ (i := 9) (N := some 42) (v := ?_) (a' := ?_) #[true, true, true, true, true, true, true, true, true, true, false, false, false, false, false] rfl rfl (any_of HT_.out (by kernel_rfl)) (fun _ _ _ h => h) (Or.inl ⟨by rfl, ?_⟩) ?_ ?_
  rotate_left
  · intro w'
    go_simp
    with_reducible rfl
  rotate_left
  · simp only [Act.put, List.setIfInBounds_toArray, List.set_cons_zero, List.set_cons_succ, i64_w, i32_w]
    rfl
  refine pure_ (i := 10) (N := some 43) (v := ?_) (a' := ?_) #[true, true, true, true, true, true, true, true, true, true, true, false, false, false, false] rfl rfl (any_of HT_.out (by kernel_rfl)) (fun _ _ _ h => h) (Or.inl ⟨by rfl, ?_⟩) ?_ ?_
  rotate_left
  · intro w'
    go_simp
    with_reducible rfl
  rotate_left
  · simp only [Act.put, List.setIfInBounds_toArray, List.set_cons_zero, List.set_cons_succ, i64_w, i32_w]
    rfl
  refine pure_ (i := 11) (N := some 44) (v := ?_) (a' := ?_) #[true, true, true, true, true, true, true, true, true, true, true, true, false, false, false] rfl rfl (any_of HT_.out (by kernel_rfl)) (fun _ _ _ h => h) (Or.inl ⟨by rfl, ?_⟩) ?_ ?_
  rotate_left
  · intro w'
    go_simp
    with_reducible rfl
  rotate_left
  · simp only [Act.put, List.setIfInBounds_toArray, List.set_cons_zero, List.set_cons_succ, i64_w, i32_w]
    rfl
  refine pure_ (i := 12) (N := some 45) (v := ?_) (a' := ?_) #[true, true, true, true, true, true, true, true, true, true, true, true, true, false, false] rfl rfl (any_of HT_.out (by kernel_rfl)) (fun _ _ _ h => h) (Or.inl ⟨by rfl, ?_⟩) ?_ ?_
  rotate_left
  · intro w'
    go_simp
    with_reducible rfl
  rotate_left
  · simp only [Act.put, List.setIfInBounds_toArray, List.set_cons_zero, List.set_cons_succ, i64_w, i32_w]
    rfl
  refine pure_ (i := 13) (N := some 6) (v := ?_) (a' := ?_) #[true, true, true, true, true, true, true, true, true, true, true, true, true, true, false] rfl rfl (any_of HT_.out (by kernel_rfl)) (fun _ _ _ h => h) (Or.inl ⟨by rfl, ?_⟩) ?_ ?_
  rotate_left
  · intro w'
    go_simp
    with_reducible rfl
  rotate_left
  · simp only [Act.put, List.setIfInBounds_toArray, List.set_cons_zero, List.set_cons_succ, i64_w, i32_w]
    rfl
  refine pure_ (i := 14) (N := some 7) (v := ?_) (a' := ?_) #[true, true, true, true, true, true, true, true, true, true, true, true, true, true, true] rfl rfl (any_of HT_.out (by kernel_rfl)) (fun _ _ _ h => h) (Or.inl ⟨by rfl, ?_⟩) ?_ ?_
  rotate_left
  · intro w'
    go_simp
    with_reducible rfl
  rotate_left
  · simp only [Act.put, List.setIfInBounds_toArray, List.set_cons_zero, List.set_cons_succ, i64_w, i32_w]
    rfl
  refine done_ (done_of HT_.out (by kernel_rfl)) ?_
  go_wp2
  go_ret2
  exact ⟨rfl, ⟨⟨1, rfl⟩⟩⟩
end
end Go.Proofs.Ytcbejpmmlcdhnaa.PW
namespace Go.Proofs.Ytcbejpmmlcdhnaa.PW
open Go.RowKit Go.Proofs.YtcbejpmmlcdhnaaW.PrintWords Go.Proofs.YtcbejpmmlcdhnaaW.PrintLast Go.Proofs.YtcbejpmmlcdhnaaW.PrintMore
set_option linter.unusedVariables false
set_option linter.unusedSimpArgs false

theorem wpList_val {P : Program} {ops : Array Oper} {o : Oper} {rest : List Oper} {a : Act} {W w1 : World} {v : Value} {Q : Exit → Act → World → Prop} (hgd : o.guard = none) (hrun : (execOp a.eval o).run P W = .ok (.value v) w1)
    (h : wpList P ops Q rest (a.put o.dst v) w1) : wpList P ops Q (o :: rest) a W := by
  refine wpList_plain hgd fun K hK => ?_
  unfold Oper.wp
  rw [hrun]
  exact hK _ _ h
theorem run_copy_sz {P : Program} (w : World) (dT sT ty elem : TypeId) (b o dLen dCap : Nat) (a : Addr) (sLen sCap s : Nat) (cs : List Value)
    (hu : P.underlying dT = some (.slice elem)) (hs : (P.info? elem).map (·.size) = some s) (hn : cs.length = Nat.min sLen dLen * s)
    (hsrc : ∀ j v, cs[j]? = some v → w.cell? (a.add j) = some v) (hc : ∀ j, j < cs.length → (w.cell? ⟨b, o + j, none⟩).isSome = true) (hf : ∀ j, j < cs.length → w.frozen? ⟨b, o + j, none⟩ = false) (h1 : ∀ v ∈ cs, v.oneCell' = true) :
    (Builtin.copy_ #[dT, sT] ty #[.slice (some ⟨b, o, none⟩) dLen dCap, .slice (some a) sLen sCap]).run P w = .ok (goInt (Nat.min sLen dLen)) (w.setCells b o cs) := by
  have hl := run_loadCells_list (P := P) w a cs hsrc
  have hst := run_storeCells_cells (P := P) b o cs 0 w (by simpa using hc) (by simpa using hf) h1
  cases hq : P.info? elem with
  | none => simp [hq] at hs
  | some i =>
    have hi : i.size = s := by simpa [hq] using hs
    simp [Builtin.copy_, run_underlying hu, Builtin.lenOf, Builtin.firstCells, sizeOf, typeInfo, hq, hi, ← hn, hl, hst]
theorem run_copy_no {P : Program} (w : World) (dT sT ty elem : TypeId) (d a : Option Addr) (dLen dCap sLen sCap s : Nat) (hu : P.underlying dT = some (.slice elem)) (hs : (P.info? elem).map (·.size) = some s) (hn : Nat.min sLen dLen = 0) :
    (Builtin.copy_ #[dT, sT] ty #[.slice d dLen dCap, .slice a sLen sCap]).run P w = .ok (goInt 0) w := by
  cases hq : P.info? elem with
  | none => simp [hq] at hs
  | some i =>
    have hl : ∀ (x : Addr), (loadCells x 0).run P w = .ok #[] w := fun x => by simpa using run_loadCells_list (P := P) w x [] (by simp)
    cases d <;> cases a <;> simp [Builtin.copy_, run_underlying hu, Builtin.lenOf, Builtin.firstCells, sizeOf, typeInfo, hq, hn, storeCells, hl]
/-- A make of n entries. -/
theorem run_make33 {o : Oper} {a : Act} (w : World) (x y : Operand) (ho : o.op = .makeSlice 25 x y) (n : Nat) (hn : n ≤ 1000) (hx : a.eval x = .int .i64 (n : Int)) (hy : a.eval y = .int .i64 (n : Int)) :
    ∃ cur : Array Value, cur.size = n * 6 ∧ (execOp a.eval o).run Try.prog w = .ok (.value (.slice (some ⟨w.heap.size, 0, none⟩) n n)) (w.alloc (.cells cur 33)) := by
  obtain ⟨i, hi, hz⟩ := Option.map_eq_some_iff.1 info33
  simp only [Prod.mk.injEq] at hz
  obtain ⟨hz0, hz1, hz2⟩ := hz
  have hr := run_make (P := Try.prog) w 25 33 i _ Try.underlying25 hi hz0 .i64 .i64 (n : Int) (n : Int) (by omega) (Int.le_refl _) (by rw [hz2]; omega) (by omega)
  refine ⟨madeCells (Value.agg #[(.int .i64 0), (.int .i64 0), (.int .i64 0), (.int .i64 0), (.int .i64 0), (.slice none 0 0)]).cells ((n : Int).toNat * i.size), by rw [size_madeCells, hz1, Int.toNat_natCast], ?_⟩
  unfold execOp
  simp only [ho, hx, hy, Sem.run_bind, Sem.run_pure, Result.andThen_ok, hr, Int.toNat_natCast]
/-- The cells of entry number j. -/
def cells6 (x : S33) (v : Value) : List Value := [.int .i64 x.f0, .int .i64 x.f1, .int .i64 x.f2, .int .i64 x.f3, .int .i64 x.f4, v]
theorem cells6_len (x : S33) (v : Value) : (cells6 x v).length = 6 := rfl
theorem flat6 {rows : List (List Value)} (h : ∀ r ∈ rows, r.length = 6) : rows.flatten.length = rows.length * 6 := by
  induction rows with
  | nil => rfl
  | cons r rs ih =>
    rw [List.flatten_cons, List.length_append, h r (by simp), ih (fun x hx => h x (by simp [hx])), List.length_cons]
    omega
theorem flat6_get {rows : List (List Value)} (h : ∀ r ∈ rows, r.length = 6) {j : Nat} {r : List Value} (hr : rows[j]? = some r) : (rows.flatten.drop (j * 6)).take 6 = r := by
  induction rows generalizing j with
  | nil => simp at hr
  | cons r0 rs ih =>
    have h0 : r0.length = 6 := h r0 (by simp)
    cases j with
    | zero =>
      simp only [List.getElem?_cons_zero, Option.some.injEq] at hr
      subst hr
      rw [List.flatten_cons, Nat.zero_mul, List.drop_zero, List.take_append_of_le_length (by omega), List.take_of_length_le (by omega)]
    | succ j =>
      rw [List.getElem?_cons_succ] at hr
      rw [List.flatten_cons, List.drop_append, List.drop_eq_nil_of_le (by omega), List.nil_append, show (j + 1) * 6 - r0.length = j * 6 by omega]
      exact ih (fun x hx => h x (by simp [hx])) hr
end Go.Proofs.Ytcbejpmmlcdhnaa.PW
namespace Go.Proofs.Ytcbejpmmlcdhnaa.PW
open Go.RowKit Go.Proofs.YtcbejpmmlcdhnaaW.PrintWords Go.Proofs.YtcbejpmmlcdhnaaW.PrintLast Go.Proofs.YtcbejpmmlcdhnaaW.PrintMore
set_option linter.unusedVariables false
set_option linter.unusedSimpArgs false

/-- Rows of cells that say entries, whose lists of ops can be read. -/
def Rows (w : World) (L : List S33) (rows : List (List Value)) : Prop :=
  rows.length = L.length ∧ ∀ (t : Nat) (x : S33), L[t]? = some x → ∃ A c, rows[t]? = some (cells6 x (.slice A x.f5.length c)) ∧ x.f5.length ≤ c ∧ Kd.C k55 w A x.f5.length x.f5
theorem Rows.nil (w : World) : Rows w [] [] := ⟨rfl, fun t x h => by simp at h⟩
theorem Rows.six {w : World} {L : List S33} {rows : List (List Value)} (h : Rows w L rows) : ∀ r ∈ rows, r.length = 6 := by
  intro r hr
  obtain ⟨t, ht⟩ := List.getElem?_of_mem hr
  have hlt : t < L.length := by rw [← h.1]; exact (List.getElem?_eq_some_iff.1 ht).1
  obtain ⟨A, c, h2, _⟩ := h.2 t _ (List.getElem?_eq_getElem hlt)
  rw [ht] at h2
  rw [Option.some.inj h2]
  rfl
theorem Rows.one {w : World} {L : List S33} {rows : List (List Value)} (h : Rows w L rows) : ∀ r ∈ rows, ∀ u ∈ r, u.oneCell' = true := by
  intro r hr
  obtain ⟨t, ht⟩ := List.getElem?_of_mem hr
  have hlt : t < L.length := by rw [← h.1]; exact (List.getElem?_eq_some_iff.1 ht).1
  obtain ⟨A, c, h2, _⟩ := h.2 t _ (List.getElem?_eq_getElem hlt)
  rw [ht] at h2
  rw [Option.some.inj h2]
  simp [cells6, Value.oneCell']
theorem Rows.below {w w1 : World} {L : List S33} {rows : List (List Value)} (h : Rows w L rows) (hb : Below w.heap.size w w1) : Rows w1 L rows :=
  ⟨h.1, fun t x hx => by obtain ⟨A, c, h1, h2, h3⟩ := h.2 t x hx; exact ⟨A, c, h1, h2, Kd.C_below h3 hb⟩⟩
theorem run_flat (l : List Value) (i : Nat) : ∀ k, (i + k) * 6 ≤ l.length → ((List.range k).map fun t => (l.drop ((i + t) * 6)).take 6).flatten = (l.drop (i * 6)).take (k * 6)
  | 0, _ => by simp
  | k + 1, h => by
    rw [List.range_succ, List.map_append, List.flatten_append, run_flat l i k (by omega)]
    simp only [List.map_cons, List.map_nil, List.flatten_cons, List.flatten_nil, List.append_nil]
    rw [show (k + 1) * 6 = k * 6 + 6 by omega, List.take_add, List.drop_drop, show i * 6 + k * 6 = (i + k) * 6 by omega]
theorem mod_step {a t room i : Nat} (h0 : 0 < room) (hi : (a + 1) % room = i) (ht : i + t < room) : (a + 1 + t) % room = i + t := by
  rw [Nat.add_mod, hi, Nat.mod_eq_of_lt (show t < room by omega), Nat.mod_eq_of_lt ht]
theorem mod_wrap {a t room i : Nat} (h0 : 0 < room) (hi : (a + 1) % room = i) (ht : room ≤ i + t) (ht2 : i + t < 2 * room) : (a + 1 + t) % room = i + t - room := by
  have hir : i < room := by rw [← hi]; exact Nat.mod_lt _ h0
  rw [← Nat.mod_add_mod, hi, Nat.mod_eq_sub_mod ht, Nat.mod_eq_of_lt (by omega)]
/-- What run's pieces hold. -/
theorem run_R {W : World} {base : Nat} {ok : Nat → Prop} {b : Nat} {s : RS} (h : RingIs W base ok (some b) s) (a n : Nat) (hfl : s.fl ≤ a) (hn0 : 0 < n) (hla : a + n ≤ s.la) :
    ∃ (o1 k1 r : Nat) (rows : List (List Value)), k1 + r = n ∧ Rows W ((s.l.drop (a - s.fl)).take n) rows ∧ (∀ j v, (rows.take k1).flatten[j]? = some v → W.cell? ⟨b, o1 + j, none⟩ = some v) ∧ (∀ j v, (rows.drop k1).flatten[j]? = some v → W.cell? ⟨b, 0 + j, none⟩ = some v) ∧
      ∀ w, Drawn0 W w → Calls Try.prog 53 #[.pointer (some ⟨b, 0, none⟩), .int .i64 (a : Int), .int .i64 (n : Int)] w fun e w' => e = .returned (.tuple #[.slice (some ⟨b, o1, none⟩) k1 k1, .slice (some ⟨b, 0, none⟩) r r]) ∧ Drawn0 w w' := by
  obtain ⟨⟨r1, r2, r3, r4, r5, r6⟩, E, hR, hE⟩ := h
  have hlen : n ≤ s.l.length := by simp only [RS.la] at hla; omega
  have h0 : 0 < s.room := by omega
  obtain ⟨i, hi⟩ : ∃ i, (a + 1) % s.room = i := ⟨_, rfl⟩
  have hir : i < s.room := by rw [← hi]; exact Nat.mod_lt _ h0
  have c1 := (RingAt_cells hR).1
  obtain ⟨q1, q2, C, q3, q4, q5, q6, q7, q8, q9, q10⟩ := id hR
  have hL : ∀ (t : Nat) (x : S33), ((s.l.drop (a - s.fl)).take n)[t]? = some x → t < n ∧ E ((a + 1 + t) % s.room) = x := by
    intro t x hx
    have ht : t < n := by
      have := (List.getElem?_eq_some_iff.1 hx).1
      rw [List.length_take] at this
      omega
    refine ⟨ht, ?_⟩
    rw [List.getElem?_take_of_lt ht, List.getElem?_drop] at hx
    have h1 := hE (a - s.fl + t) (List.getElem?_eq_some_iff.1 hx).1
    rw [hx, show s.fl + 1 + (a - s.fl + t) = a + 1 + t by omega] at h1
    exact Option.some.inj h1
  have hLl : ((s.l.drop (a - s.fl)).take n).length = n := by rw [List.length_take, List.length_drop]; simp only [RS.la] at hla; omega
  have hrow : ∀ k, k < 64 → ∃ A c, (C.toList.drop (k * 6)).take 6 = cells6 (E k) (.slice A (E k).f5.length c) ∧ (E k).f5.length ≤ c ∧ Kd.C k55 W A (E k).f5.length (E k).f5 := by
    intro k hk
    obtain ⟨e0, e1, e2, e3, e4, v, e5, hv⟩ := q10 k hk
    obtain ⟨A, c, rfl, hlc, hC⟩ := Kd.R_reads hv
    refine ⟨A, c, ?_, hlc, hC⟩
    apply List.ext_getElem?
    intro j
    by_cases hj : j < 6
    · rw [List.getElem?_take_of_lt hj, List.getElem?_drop, Array.getElem?_toList]
      match j, hj with
      | 0, _ => exact e0
      | 1, _ => exact e1
      | 2, _ => exact e2
      | 3, _ => exact e3
      | 4, _ => exact e4
      | 5, _ => exact e5
    · rw [List.getElem?_eq_none (by rw [List.length_take]; omega), List.getElem?_eq_none (by rw [cells6_len]; omega)]
  have hcell : ∀ j, W.cell? ⟨b, j, none⟩ = C.toList[j]? := fun j => by rw [blk_cell q3 j, Array.getElem?_toList]
  have hCl : C.toList.length = 389 := by rw [Array.length_toList]; exact q4
  by_cases hfit : i + n ≤ s.room
  · refine ⟨i * 6, n, 0, (List.range n).map fun t => (C.toList.drop ((i + t) * 6)).take 6, by omega, ⟨by rw [hLl]; simp, ?_⟩, ?_, ?_, ?_⟩
    · intro t x hx
      obtain ⟨ht, hx2⟩ := hL t x hx
      rw [mod_step h0 hi (by omega)] at hx2
      obtain ⟨A, c, g1, g2, g3⟩ := hrow (i + t) (by omega)
      rw [hx2] at g1 g2 g3
      refine ⟨A, c, ?_, g2, g3⟩
      rw [List.getElem?_map, List.getElem?_range ht]
      exact congrArg some g1
    · intro j v hj
      rw [List.take_of_length_le (by simp), run_flat _ _ _ (by omega)] at hj
      have hj2 : j < n * 6 := by
        have := (List.getElem?_eq_some_iff.1 hj).1
        rw [List.length_take] at this
        omega
      rw [List.getElem?_take_of_lt hj2, List.getElem?_drop] at hj
      rw [hcell]
      exact hj
    · intro j v hj
      rw [List.drop_of_length_le (by simp)] at hj
      simp at hj
    · intro w hw
      obtain ⟨m, rfl⟩ := hw.out
      exact run_one b s.room a n i _ c1 h0 r1 (by simp only [RS.la] at *; omega) hn0 (by omega) hi hfit
  · obtain ⟨k1, hk1⟩ : ∃ k1, s.room = i + k1 := ⟨s.room - i, by omega⟩
    obtain ⟨r, hr⟩ : ∃ r, n = k1 + r := ⟨n - k1, by omega⟩
    have hAl : ((List.range k1).map fun t => (C.toList.drop ((i + t) * 6)).take 6).length = k1 := by simp
    refine ⟨i * 6, k1, r, ((List.range k1).map fun t => (C.toList.drop ((i + t) * 6)).take 6) ++ ((List.range r).map fun t => (C.toList.drop ((0 + t) * 6)).take 6), by omega, ⟨by rw [hLl]; simp; omega, ?_⟩, ?_, ?_, ?_⟩
    · intro t x hx
      obtain ⟨ht, hx2⟩ := hL t x hx
      by_cases htk : t < k1
      · rw [mod_step h0 hi (by omega)] at hx2
        obtain ⟨A, c, g1, g2, g3⟩ := hrow (i + t) (by omega)
        rw [hx2] at g1 g2 g3
        refine ⟨A, c, ?_, g2, g3⟩
        rw [List.getElem?_append_left (by omega), List.getElem?_map, List.getElem?_range htk]
        exact congrArg some g1
      · rw [mod_wrap h0 hi (by omega) (by omega), show i + t - s.room = 0 + (t - k1) by omega] at hx2
        obtain ⟨A, c, g1, g2, g3⟩ := hrow (0 + (t - k1)) (by omega)
        rw [hx2] at g1 g2 g3
        refine ⟨A, c, ?_, g2, g3⟩
        rw [List.getElem?_append_right (by omega), hAl, List.getElem?_map, List.getElem?_range (by omega)]
        exact congrArg some g1
    · intro j v hj
      rw [List.take_append_of_le_length (by omega), List.take_of_length_le (by omega), run_flat _ _ _ (by omega)] at hj
      have hj2 : j < k1 * 6 := by
        have := (List.getElem?_eq_some_iff.1 hj).1
        rw [List.length_take] at this
        omega
      rw [List.getElem?_take_of_lt hj2, List.getElem?_drop] at hj
      rw [hcell]
      exact hj
    · intro j v hj
      rw [List.drop_append_of_le_length (by omega), List.drop_of_length_le (by omega), List.nil_append, run_flat _ _ _ (by omega)] at hj
      have hj2 : j < r * 6 := by
        have := (List.getElem?_eq_some_iff.1 hj).1
        rw [List.length_take] at this
        omega
      rw [List.getElem?_take_of_lt hj2, List.getElem?_drop] at hj
      rw [hcell]
      rw [Nat.zero_mul] at hj
      exact hj
    · intro w hw
      obtain ⟨m, rfl⟩ := hw.out
      exact run_two b s.room a n i k1 r _ c1 h0 r1 (by simp only [RS.la] at *; omega) hn0 (by omega) hi (by omega) hk1 hr
end Go.Proofs.Ytcbejpmmlcdhnaa.PW
namespace Go.Proofs.Ytcbejpmmlcdhnaa.PW
open Go.RowKit Go.Proofs.YtcbejpmmlcdhnaaW.PrintWords Go.Proofs.YtcbejpmmlcdhnaaW.PrintLast Go.Proofs.YtcbejpmmlcdhnaaW.PrintMore
set_option linter.unusedVariables false
set_option linter.unusedSimpArgs false

theorem seg_other {l seg : List Value} {i j : Nat} (hs : seg.length = 6) (hl : i * 6 + 6 ≤ l.length) (hij : j ≠ i) : ((l.take (i * 6) ++ seg ++ l.drop (i * 6 + 6)).drop (j * 6)).take 6 = (l.drop (j * 6)).take 6 := by
  have h1 : (l.take (i * 6)).length = i * 6 := by rw [List.length_take]; omega
  apply List.ext_getElem?
  intro t
  by_cases ht : t < 6
  · rw [List.getElem?_take_of_lt ht, List.getElem?_take_of_lt ht, List.getElem?_drop, List.getElem?_drop]
    rcases Nat.lt_or_gt_of_ne hij with h | h
    · rw [List.append_assoc, List.getElem?_append_left (by omega), List.getElem?_take_of_lt (by omega)]
    · rw [List.getElem?_append_right (by rw [List.length_append]; omega), List.getElem?_drop, List.length_append, h1, hs]
      congr 1
      omega
  · rw [List.getElem?_eq_none (by rw [List.length_take]; omega), List.getElem?_eq_none (by rw [List.length_take]; omega)]
theorem seg_same {l seg : List Value} {i : Nat} (hs : seg.length = 6) (hl : i * 6 + 6 ≤ l.length) : ((l.take (i * 6) ++ seg ++ l.drop (i * 6 + 6)).drop (i * 6)).take 6 = seg := by
  have h1 : (l.take (i * 6)).length = i * 6 := by rw [List.length_take]; omega
  rw [List.append_assoc, List.drop_left' h1, List.take_left' hs]
/-- Behind i rounds. -/
def OutInv (g N : Nat) (L : List S33) (rows : List (List Value)) (i : Nat) (W : World) : Prop :=
  ∃ (f : Nat → Nat) (cur : Array Value), W.heap[g]? = some (.cells cur 33 (0, 0)) ∧ cur.size = N * 6 ∧ ∀ (j : Nat) (x : S33), L[j]? = some x →
    (j < i → k33.M W g (fun k => g < k ∧ f k = j) x ((cur.toList.drop (j * 6)).take 6)) ∧ (i ≤ j → rows[j]? = some ((cur.toList.drop (j * 6)).take 6))
section
variable {g N i : Nat} {L : List S33} {rows : List (List Value)} {W W1 : World}
theorem OutInv_start {cur : Array Value} (hb : W.heap[g]? = some (.cells cur 33 (0, 0))) (hs : cur.size = N * 6) (hc : cur.toList = rows.flatten) (h6 : ∀ r ∈ rows, r.length = 6) (hl : rows.length = L.length) : OutInv g N L rows 0 W := by
  refine ⟨fun _ => 0, cur, hb, hs, fun j x hx => ⟨fun h => absurd h (by omega), fun _ => ?_⟩⟩
  have hj : j < rows.length := by rw [hl]; exact (List.getElem?_eq_some_iff.1 hx).1
  rw [hc, flat6_get h6 (List.getElem?_eq_getElem hj)]
  exact List.getElem?_eq_getElem hj
theorem OutInv_step (h : OutInv g N L rows i W) (hN : L.length = N) (hb : Below W.heap.size W W1) {x : S33} (hx : L[i]? = some x) {v : Value} (hv : Kd.R k55 55 W1 W.heap.size (fun _ => True) v x.f5) : OutInv g N L rows (i + 1) (W1.setCells g (i * 6) (cells6 x v)) := by
  obtain ⟨f, cur, h1, h2, h3⟩ := h
  have hlt := blk_lt h1
  have hiN : i < N := by rw [← hN]; exact (List.getElem?_eq_some_iff.1 hx).1
  obtain ⟨c, k1, k2, k3⟩ := setCells_row (cells6 x v) (i * 6) W1 cur ((hb.block g hlt).trans h1) (by rw [cells6_len]; omega)
  rw [cells6_len] at k3
  have hl : i * 6 + 6 ≤ cur.toList.length := by rw [Array.length_toList]; omega
  refine ⟨fun k => if k < W.heap.size then f k else i, c, k1, k2.trans h2, fun j y hy => ?_⟩
  by_cases hji : j = i
  · subst hji
    obtain rfl : x = y := by rw [hx] at hy; exact Option.some.inj hy
    refine ⟨fun _ => ?_, fun h => absurd h (by omega)⟩
    rw [k3, seg_same (cells6_len _ _) hl]
    refine k33_mkM _ _ _ _ (Kd.R_step (Kd.R_mono (Kd.R_lower (Kd.R_bound hv) (Nat.le_of_lt hlt)) (fun k hk => ?_)) (fun k hk _ => setCells_far _ _ k (by omega)))
    have := hk.2.1
    exact ⟨by omega, if_neg (by omega)⟩
  · rw [k3, seg_other (cells6_len _ _) hl hji]
    obtain ⟨h4, h5⟩ := h3 j y hy
    refine ⟨fun hj => ?_, fun hj => h5 (by omega)⟩
    have hM := h4 (by omega)
    refine k33.M_mono (fun k hk => ?_) (k33.M_move (w1 := W1.setCells g (i * 6) (cells6 x v)) (fun k hk => ?_) (k33.M_bound hM))
    · exact ⟨hk.1.1, by show (if k < W.heap.size then f k else i) = j; rw [if_pos hk.2.2.1]; exact hk.1.2⟩
    · exact (setCells_far _ _ k (by omega)).trans (hb.block k hk.2.2.1)
theorem OutInv_end (h : OutInv g N L rows N W) (hN : L.length = N) (hN64 : N ≤ 64) {base : Nat} (hg : base ≤ g) : Kd.S k33 33 W base (fun _ => True) (.slice (some ⟨g, 0, none⟩) N N) L := by
  obtain ⟨f, cur, h1, h2, h3⟩ := h
  refine ⟨f, fun _ _ => trivial, cur.toList, ⟨?_, .inr ⟨g, N, cur, ?_, hg, h1, ?_, ?_, h2, ?_⟩⟩, ?_, ?_⟩
  · rw [Array.length_toList, h2, List.length_zipIdx, hN]
    rfl
  · rw [List.length_zipIdx, hN]
  · rw [List.length_zipIdx, hN]
    exact Nat.le_refl _
  · unfold maxLen
    omega
  · rw [List.length_zipIdx, hN]
    exact List.take_of_length_le (by rw [Array.length_toList, h2]; exact Nat.le_refl _)
  · rw [Array.length_toList, h2, List.length_zipIdx, hN]
    rfl
  · intro j p hp
    rw [List.getElem?_zipIdx] at hp
    obtain ⟨x, hx, rfl⟩ := Option.map_eq_some_iff.1 hp
    have hj : j < N := by rw [← hN]; exact (List.getElem?_eq_some_iff.1 hx).1
    have hM := (h3 j x hx).1 hj
    refine k33.M_lower hg (k33.M_mono (fun k hk => ?_) hM)
    refine ⟨⟨trivial, ?_⟩, ?_⟩
    · intro e
      have : k = g := by simpa [Value.ownBlock] using e
      omega
    · simpa using hk.2
end
end Go.Proofs.Ytcbejpmmlcdhnaa.PW
namespace Go.Proofs.Ytcbejpmmlcdhnaa.PW
open Go.RowKit Go.Proofs.YtcbejpmmlcdhnaaW.PrintWords Go.Proofs.YtcbejpmmlcdhnaaW.PrintLast Go.Proofs.YtcbejpmmlcdhnaaW.PrintMore
set_option linter.unusedVariables false
set_option linter.unusedSimpArgs false

theorem copy6 (w : World) (ty : TypeId) (g o dLen dCap : Nat) (A : Option Addr) (sLen sCap : Nat) (cs : List Value) {cur : Array Value} (hn : cs.length = sLen * 6) (hle : sLen ≤ dLen) (hsrc : ∀ j v, cs[j]? = some v → ∃ ad, A = some ad ∧ w.cell? (ad.add j) = some v)
    (hb : w.heap[g]? = some (.cells cur 33 (0, 0))) (hfit : o + cs.length ≤ cur.size) (h1 : ∀ v ∈ cs, v.oneCell' = true) :
    (Builtin.copy_ #[25, 25] ty #[.slice (some ⟨g, o, none⟩) dLen dCap, .slice A sLen sCap]).run Try.prog w = .ok (.int .i64 (sLen : Int)) (w.setCells g o cs) := by
  rcases Nat.eq_zero_or_pos sLen with h0 | h0
  · subst h0
    have : cs = [] := List.eq_nil_of_length_eq_zero (by omega)
    subst this
    exact run_copy_no w 25 25 ty 33 _ _ _ _ _ _ 6 Try.underlying25 size33 (Nat.zero_min _)
  · obtain ⟨ad, rfl, _⟩ := hsrc 0 _ (List.getElem?_eq_getElem (by omega))
    have hmin : Nat.min sLen dLen = sLen := Nat.min_eq_left hle
    have := run_copy_sz w 25 25 ty 33 g o dLen dCap ad sLen sCap 6 cs Try.underlying25 size33 (by rw [hmin]; exact hn) (fun j v hj => by obtain ⟨ad2, e, h⟩ := hsrc j v hj; cases e; exact h)
      (fun j hj => by rw [blk_cell hb]; simp; omega) (fun j _ => blk_frozen hb _) h1
    rw [hmin] at this
    exact this
theorem wpList_make33 {ops : Array Oper} {o : Oper} {rest : List Oper} {a : Act} {W : World} {Q : Exit → Act → World → Prop} (hgd : o.guard = none) (x y : Operand) (ho : o.op = .makeSlice 25 x y) (n : Nat) (hn : n ≤ 1000) (hx : a.eval x = .int .i64 (n : Int)) (hy : a.eval y = .int .i64 (n : Int))
    (h : ∀ cur : Array Value, cur.size = n * 6 → wpList Try.prog ops Q rest (a.put o.dst (.slice (some ⟨W.heap.size, 0, none⟩) n n)) (W.alloc (.cells cur 33))) : wpList Try.prog ops Q (o :: rest) a W := by
  obtain ⟨cur, hc, hr⟩ := run_make33 (a := a) W x y ho n hn hx hy
  exact wpList_val hgd hr (h cur hc)
theorem elem25 : Try.prog.underlying 25 = some (.slice (Try.prog.elem 25)) := by kernel_rfl
theorem size_elem25 (W : World) : (sizeOf (Try.prog.elem 25)).run Try.prog W = .ok 6 W := by kernel_rfl
/-- l[k:] of a row of n places. -/
theorem wpList_tail25 {ops : Array Oper} {o : Oper} {rest : List Oper} {a : Act} {W : World} {Q : Exit → Act → World → Prop} (hgd : o.guard = none) (x y : Operand) (ho : o.op = .slice 25 x (some y) none none) (g k r n : Nat) (hn : n = k + r) (hx : a.eval x = .slice (some ⟨g, 0, none⟩) n n) (hy : a.eval y = .int .i64 (k : Int))
    (h : wpList Try.prog ops Q rest (a.put o.dst (.slice (some ⟨g, if r = 0 then 0 else k * 6, none⟩) r r)) W) : wpList Try.prog ops Q (o :: rest) a W := by
  refine wpList_val hgd ?_ h
  unfold execOp
  simp only [ho, hx, hy, Option.map_some, Option.map_none, run_sliceAt_slice W 25 _ _ _ _ elem25, Sem.run_bind, Sem.run_pure, Result.andThen_ok, run_slice_l W 25 (some ⟨g, 0, none⟩) n n elem25 .i64 (k : Int) (by omega) (by omega), size_elem25, sliced, Int.toNat_natCast]
  by_cases hr : r = 0
  · simp [hr, hn]
  · have : ¬ (n = k) := by omega
    have e : n - k = r := by omega
    simp [hr, this, e, Addr.add]
    omega
theorem wpList_cpy {P : Program} {W w' : World} {ops : Array Oper} {rest : List Oper} {o : Oper} {a : Act} {Q : Exit → Act → World → Prop} (hgd : o.guard = none) (d s : Operand) (t t' : TypeId)
    (ho : o.op = .call { callee := .builtin .copy, args := #[d, s], argTypes := #[t, t'] }) (v u : Value) (hd : a.eval d = v) (hs : a.eval s = u) {v' : Value}
    (hr : (Builtin.copy_ #[t, t'] o.type #[v, u]).run P W = .ok v' w') (h : wpList P ops Q rest (a.put o.dst v') w') : wpList P ops Q (o :: rest) a W := by
  refine wpList_val hgd ?_ h
  unfold execOp
  simp only [ho, resolve, invoke, builtin, Sem.run_bind, Sem.run_pure, Result.andThen_ok, List.map_toArray, List.map_cons, List.map_nil, hd, hs, hr]
theorem splice6 (X Y D : List Value) (p q : Nat) (hX : X.length = p) (hY : Y.length = q) (hD : D.length = q) : (X ++ D).take p ++ Y ++ (X ++ D).drop (p + q) = X ++ Y := by
  subst hX
  rw [List.take_left, List.drop_of_length_le (by rw [List.length_append, hD]; omega), List.append_nil]
section
variable {W : World}
set_option maxHeartbeats 4000000 in
set_option maxRecDepth 100000 in
theorem out_W (vp : Value) (a n0 : Int) (A1 A2 : Option Addr) (k1 r c1 c2 N : Nat) (L : List S33) (rows : List (List Value)) (hN : N = k1 + r) (hN64 : N ≤ 64) (hL : L.length = N) (hRows : Rows W L rows)
    (hs1 : ∀ j v, (rows.take k1).flatten[j]? = some v → ∃ ad, A1 = some ad ∧ W.cell? (ad.add j) = some v) (hs2 : ∀ j v, (rows.drop k1).flatten[j]? = some v → ∃ ad, A2 = some ad ∧ W.cell? (ad.add j) = some v)
    (hops : ∀ x ∈ L, opsOk x)
    (hrun : ∀ w, Drawn0 W w → Calls Try.prog 53 #[vp, .int .i64 a, .int .i64 n0] w fun e w' => e = .returned (.tuple #[.slice A1 k1 c1, .slice A2 r c2]) ∧ Drawn0 w w') :
    Calls Try.prog 34 #[vp, .int .i64 a, .int .i64 n0] W fun e w' => e = .returned (.slice (some ⟨W.heap.size, 0, none⟩) N N) ∧ Kd.S k33 33 w' W.heap.size (fun _ => True) (.slice (some ⟨W.heap.size, 0, none⟩) N N) L ∧ Below W.heap.size W w' := by
  have HN := Aside0.mk hN
  have hk1 : k1 ≤ N := by omega
  have hr64 : r ≤ N := by omega
  have HL := Aside0.mk hL
  have HR := Aside0.mk hRows
  have H1 := Aside0.mk hs1
  have H2 := Aside0.mk hs2
  have HO := Aside0.mk hops
  have HRUN := Aside0.mk hrun
  have hsum : (k1 : Int) + (r : Int) = (N : Int) := by omega
  clear hN hL hRows hs1 hs2 hops hrun
  go_enter Try.func34, Try.ntmps34
  go_wp2_with fail
  refine (HRUN.out _ (Drawn0.refl _)).mono ?_
  rintro e w1 ⟨rfl, ⟨⟨m, rfl⟩⟩⟩
  go_wp2_with (with_reducible refine stop_make rfl ?_)
  refine wpList_make33 rfl (.tmp 22) (.tmp 22) rfl N (by omega) rfl rfl ?_
  intro cur hcur
  have g0 : ((W.drewN m).alloc (.cells cur 33)).heap[W.heap.size]? = some (.cells cur 33) := heap_alloc_new (W.drewN m) _
  have hB1 : Below W.heap.size W ((W.drewN m).alloc (.cells cur 33)) := below_alloc (pw_below_drewN (Below.refl _ _) _) _
  have hlt1 : W.heap.size < ((W.drewN m).alloc (.cells cur 33)).heap.size := blk_lt g0
  obtain ⟨w1, hw1⟩ : ∃ w1, w1 = (W.drewN m).alloc (.cells cur 33) := ⟨_, rfl⟩
  rw [← hw1] at g0 hB1 hlt1 ⊢
  have G0 := Aside0.mk g0
  have HB1 := Aside0.mk hB1
  have HCUR := Aside0.mk hcur
  have HS1 := Aside0.mk hlt1
  clear hw1 g0 hB1 hcur hlt1
  go_wp2_with (with_reducible refine stop_copy rfl ?_)
  have hA : (rows.take k1).flatten.length = k1 * 6 := by
    rw [flat6 (fun x hx => HR.out.six x (List.mem_of_mem_take hx)), List.length_take, HR.out.1, HL.out, Nat.min_eq_left hk1]
  have hB : (rows.drop k1).flatten.length = r * 6 := by
    rw [flat6 (fun x hx => HR.out.six x (List.mem_of_mem_drop hx)), List.length_drop, HR.out.1, HL.out]
    congr 1
    have := HN.out
    omega
  have hone1 : ∀ v ∈ (rows.take k1).flatten, v.oneCell' = true := by
    intro v hv
    obtain ⟨x, hx, hv⟩ := List.mem_flatten.1 hv
    exact HR.out.one x (List.mem_of_mem_take hx) v hv
  have hone2 : ∀ v ∈ (rows.drop k1).flatten, v.oneCell' = true := by
    intro v hv
    obtain ⟨x, hx, hv⟩ := List.mem_flatten.1 hv
    exact HR.out.one x (List.mem_of_mem_drop hx) v hv
  have hcopy1 := copy6 w1 3 W.heap.size 0 N N A1 k1 c1 (rows.take k1).flatten hA hk1 (fun j v hj => by obtain ⟨ad, e, h⟩ := H1.out j v hj; exact ⟨ad, e, pw_cell_below HB1.out h⟩) G0.out (by rw [hA, HCUR.out]; omega) hone1
  refine wpList_cpy rfl (.tmp 25) (.tmp 26) 25 25 rfl _ _ rfl rfl hcopy1 ?_
  obtain ⟨cur2, k2, k3, k4⟩ := setCells_row (rows.take k1).flatten 0 w1 cur G0.out (by rw [hA, HCUR.out]; omega)
  have hB2 : Below W.heap.size W (w1.setCells W.heap.size 0 (rows.take k1).flatten) := Frm.below (Frm.setCells (Frm.of_below HB1.out (fun k => k = W.heap.size)) (.inl rfl) 0 _) (fun k hk _ => by have : k = W.heap.size := hk; omega) (Nat.le_refl _)
  obtain ⟨w2, hw2⟩ : ∃ w2, w2 = w1.setCells W.heap.size 0 (rows.take k1).flatten := ⟨_, rfl⟩
  rw [← hw2] at k2 hB2 ⊢
  have G2 := Aside0.mk k2
  have HB2 := Aside0.mk hB2
  have HC2 := Aside0.mk (And.intro k3 k4)
  clear hcopy1 hw2 k2 hB2 k3 k4 G0 HB1
  go_wp2_with (with_reducible refine stop_slice rfl ?_)
  refine wpList_tail25 rfl (.tmp 24) (.tmp 27) rfl W.heap.size k1 r N HN.out rfl rfl ?_
  obtain ⟨o2, ho2⟩ : ∃ o2, o2 = if r = 0 then 0 else k1 * 6 := ⟨_, rfl⟩
  rw [← ho2]
  have HO2 := Aside0.mk ho2
  clear ho2
  go_wp2_with (with_reducible refine stop_copy rfl ?_)
  have hfit2 : o2 + (rows.drop k1).flatten.length ≤ cur2.size := by
    rw [hB, HO2.out, HC2.out.1, HCUR.out]
    have := HN.out
    split <;> omega
  have hcopy2 := copy6 w2 3 W.heap.size o2 r r A2 r c2 (rows.drop k1).flatten hB (Nat.le_refl _) (fun j v hj => by obtain ⟨ad, e, h⟩ := H2.out j v hj; exact ⟨ad, e, pw_cell_below HB2.out h⟩) G2.out hfit2 hone2
  refine wpList_cpy rfl (.tmp 28) (.tmp 29) 25 25 rfl _ _ rfl rfl hcopy2 ?_
  obtain ⟨cur3, k2, k3, k4⟩ := setCells_row (rows.drop k1).flatten o2 w2 cur2 G2.out hfit2
  have hB3 : Below W.heap.size W (w2.setCells W.heap.size o2 (rows.drop k1).flatten) := Frm.below (Frm.setCells (Frm.of_below HB2.out (fun k => k = W.heap.size)) (.inl rfl) o2 _) (fun k hk _ => by have : k = W.heap.size := hk; omega) (Nat.le_refl _)
  obtain ⟨w3, hw3⟩ : ∃ w3, w3 = w2.setCells W.heap.size o2 (rows.drop k1).flatten := ⟨_, rfl⟩
  rw [← hw3] at k2 hB3 ⊢
  have hcells : cur3.toList = rows.flatten := by
    have h1 := HC2.out.2
    rw [List.take_zero, List.nil_append, Nat.zero_add, hA] at h1
    have hd : (cur.toList.drop (k1 * 6)).length = r * 6 := by rw [List.length_drop, Array.length_toList, HCUR.out, HN.out]; omega
    rw [k4, h1, hB]
    by_cases hr0 : r = 0
    · have e2 : (rows.drop k1).flatten = [] := List.eq_nil_of_length_eq_zero (by omega)
      have e3 : cur.toList.drop (k1 * 6) = [] := List.eq_nil_of_length_eq_zero (by omega)
      have e4 : rows.take k1 = rows := List.take_of_length_le (by rw [HR.out.1, HL.out, HN.out]; omega)
      rw [e2, e3, e4, HO2.out, if_pos hr0, hr0]
      simp
    · rw [HO2.out, if_neg hr0, splice6 _ _ _ _ _ hA hB hd, ← List.flatten_append, List.take_append_drop]
  have hcsz : cur3.size = N * 6 := by rw [k3, HC2.out.1, HCUR.out]
  have G3 := Aside0.mk k2
  have HB3 := Aside0.mk hB3
  have HC3 := Aside0.mk (And.intro hcsz hcells)
  clear hcopy2 hw3 k2 hB3 k3 k4 G2 HB2 HC2 hcells hcsz hone1 hone2 hA hB hfit2 HO2 H1 H2 HCUR HRUN HS1
  go_wp2
  have HI := Aside0.mk (OutInv_start G3.out HC3.out.1 HC3.out.2 HR.out.six (by rw [HR.out.1]))
  clear G3 HC3
  go_loopw [10, 33] (fun v10 v33 wr => ∃ k : Nat, k ≤ N ∧ v33 = .int .i64 (k : Int) ∧ Aside0 (OutInv W.heap.size N L rows k wr) ∧ Aside0 (Below W.heap.size W wr)) (fun _ v33 _ => N - (intOf v33).toNat)
  case atStart => exact ⟨0, Nat.zero_le _, rfl, HI, HB3⟩
  case round =>
    obtain ⟨k, hk, rfl, HV, HB⟩ := hrel
    by_cases hlt : k < N
    · have hd : decide ((k : Int) < (N : Int)) = true := decide_eq_true (by omega)
      obtain ⟨f, cr, g1, g2, g3⟩ := HV.out
      have hx := List.getElem?_eq_getElem (show k < L.length by rw [HL.out]; exact hlt)
      obtain ⟨x, hx'⟩ : ∃ x, x = L[k]'(by rw [HL.out]; exact hlt) := ⟨_, rfl⟩
      rw [← hx'] at hx
      have hrow := (g3 k x hx).2 (Nat.le_refl _)
      obtain ⟨A, c, q1, q2, q3⟩ := HR.out.2 k x hx
      rw [hrow] at q1
      have q1 := Option.some.inj q1
      have hcell : ∀ j, j < 6 → wr.cell? ⟨W.heap.size, k * 6 + j, none⟩ = (cells6 x (.slice A x.f5.length c))[j]? := by
        intro j hj
        rw [blk_cell g1, ← q1, List.getElem?_take_of_lt hj, List.getElem?_drop, Array.getElem?_toList]
      obtain ⟨m5, hm5⟩ : ∃ m5, m5 = x.f5.length := ⟨_, rfl⟩
      rw [← hm5] at hcell q3
      have v0 : wr.cell? ⟨W.heap.size, k * 6, none⟩ = some (.int .i64 x.f0) := hcell 0 (by omega)
      have v1 : wr.cell? ⟨W.heap.size, k * 6 + 1, none⟩ = some (.int .i64 x.f1) := hcell 1 (by omega)
      have v2 : wr.cell? ⟨W.heap.size, k * 6 + 2, none⟩ = some (.int .i64 x.f2) := hcell 2 (by omega)
      have v3 : wr.cell? ⟨W.heap.size, k * 6 + 3, none⟩ = some (.int .i64 x.f3) := hcell 3 (by omega)
      have v4 : wr.cell? ⟨W.heap.size, k * 6 + 4, none⟩ = some (.int .i64 x.f4) := hcell 4 (by omega)
      have v5 : wr.cell? ⟨W.heap.size, k * 6 + 5, none⟩ = some (.slice A m5 c) := hcell 5 (by omega)
      have HX := Aside0.mk hx
      have HC := Aside0.mk (Kd.C_below q3 HB.out)
      have HM := Aside0.mk hm5
      have HG := Aside0.mk (And.intro g1 g2)
      clear hx hx' hrow q1 q2 q3 g1 g2 g3 hcell hm5
      go_wp2_with fail
      refine (own_C x A m5 c _ HM.out.symm HC.out (HO.out x (List.mem_of_getElem? HX.out))).mono ?_
      rintro e w4 ⟨A4, c4, rfl, hv4, hb4⟩
      unfold entV
      have hg4 := (hb4.block _ (blk_lt HG.out.1)).trans HG.out.1
      have HV4 := Aside0.mk hv4
      have HB4 := Aside0.mk hb4
      have HG4 := Aside0.mk hg4
      clear hv4 hb4 hg4 v0 v1 v2 v3 v4 v5
      go_wp2_with (with_reducible refine stop_store rfl ?_)
      refine wpList_store rfl rfl 33 (.tmp 43) (.tmp 42) rfl (.agg #[.int .i64 x.f0, .int .i64 x.f1, .int .i64 x.f2, .int .i64 x.f3, .int .i64 x.f4, .slice A4 m5 c4]) (cells6 x (.slice A4 m5 c4)) rfl rfl HG4.out rfl size33 (by rw [cells6_len, HG.out.2]; omega) (by simp [cells6, Value.oneCell']) ?_
      have HI5 := Aside0.mk (OutInv_step HV.out HL.out HB4.out HX.out HV4.out)
      have HB5 := Aside0.mk (show Below W.heap.size W (w4.setCells W.heap.size (k * 6) (cells6 x (.slice A4 m5 c4))) from Frm.below (Frm.setCells (Frm.of_below (below_step HB.out HB4.out) (fun k => k = W.heap.size)) (.inl rfl) _ _) (fun k hk _ => by have : k = W.heap.size := hk; omega) (Nat.le_refl _))
      obtain ⟨w5, hw5⟩ : ∃ w5, w5 = w4.setCells W.heap.size (k * 6) (cells6 x (.slice A4 m5 c4)) := ⟨_, rfl⟩
      rw [← hw5] at HI5 HB5 ⊢
      clear hw5 HV4 HB4 HG4 HV HB HG
      go_wp2
      go_roundw
      case rel => exact ⟨k + 1, by omega, by go_num, HI5, HB5⟩
      case measure => simp [intOf]; omega
    · have hd : decide ((k : Int) < (N : Int)) = false := decide_eq_false (by omega)
      have hkN : k = N := by omega
      have HS := Aside0.mk (OutInv_end (hkN ▸ HV.out) HL.out hN64 (Nat.le_refl _))
      clear hkN
      go_wp2
      go_ret
      exact ⟨rfl, HS.out, HB.out⟩
end
end Go.Proofs.Ytcbejpmmlcdhnaa.PW
namespace Go.Proofs.Ytcbejpmmlcdhnaa.PW
open Go.RowKit Go.Proofs.YtcbejpmmlcdhnaaW.PrintWords Go.Proofs.YtcbejpmmlcdhnaaW.PrintLast Go.Proofs.YtcbejpmmlcdhnaaW.PrintMore
attribute [local go_sem] max2_int min2_int max_two min_two max_three min_three max_four min_four   -- for this text's walks alone
set_option linter.unusedVariables false
set_option linter.unusedSimpArgs false

section
variable {W : World} {base : Nat} {ok : Nat → Prop} {p : Option Nat} {s : RS}
theorem out_none (vp : Value) (a n : Int) (hn : n ≤ 0) (W : World) :
    Calls Try.prog 34 #[vp, .int .i64 a, .int .i64 n] W fun e w' => e = .returned (.slice (some ⟨W.heap.size, 0, none⟩) 0 0) ∧ Kd.S k33 33 w' W.heap.size (fun _ => True) (.slice (some ⟨W.heap.size, 0, none⟩) 0 0) [] ∧ Below W.heap.size W w' :=
  out_W vp a n none none 0 0 0 0 0 [] [] rfl (by omega) rfl (Rows.nil _) (fun j v h => by simp at h) (fun j v h => by simp at h) (fun x h => by simp at h) (fun w _ => (run_none vp a n w (decide_eq_true hn)).mono (fun e w1 h => ⟨h.1, h.2 ▸ Drawn0.refl _⟩))
theorem out_some {b : Nat} (h : RingIs W base ok (some b) s) (a n : Nat) (hfl : s.fl ≤ a) (hn0 : 0 < n) (hla : a + n ≤ s.la) :
    Calls Try.prog 34 #[.pointer (some ⟨b, 0, none⟩), .int .i64 (a : Int), .int .i64 (n : Int)] W fun e w' => e = .returned (.slice (some ⟨W.heap.size, 0, none⟩) n n) ∧ Kd.S k33 33 w' W.heap.size (fun _ => True) (.slice (some ⟨W.heap.size, 0, none⟩) n n) ((s.l.drop (a - s.fl)).take n) ∧ Below W.heap.size W w' := by
  obtain ⟨o1, k1, r, rows, h1, h2, h3, h4, h5⟩ := run_R h a n hfl hn0 hla
  have hadd : ∀ o j, (⟨b, o, none⟩ : Addr).add j = ⟨b, o + j, none⟩ := fun o j => by unfold Addr.add; split <;> simp_all
  have hl : s.l.length ≤ s.room := h.1.2.1
  have hr : s.room ≤ 64 := h.1.1
  refine out_W _ _ _ (some ⟨b, o1, none⟩) (some ⟨b, 0, none⟩) k1 r k1 r n _ rows h1.symm (by simp only [RS.la] at hla; omega) ?_ h2 (fun j v hj => ⟨_, rfl, by rw [hadd]; exact h3 j v hj⟩) (fun j v hj => ⟨_, rfl, by rw [hadd]; exact h4 j v hj⟩) ?_ h5
  · rw [List.length_take, List.length_drop]
    simp only [RS.la] at hla
    omega
  · intro x hx
    exact h.1.2.2.2.2.2 x (List.mem_of_mem_drop (List.mem_of_mem_take hx))
theorem out_R (h : RingIs W base ok p s) (a n : Int) (hc : n ≤ 0 ∨ (s.fl : Int) ≤ a ∧ a + n ≤ (s.la : Int)) :
    Calls Try.prog 34 #[ptr p, .int .i64 a, .int .i64 n] W fun e w' => e = .returned (.slice (some ⟨W.heap.size, 0, none⟩) n.toNat n.toNat) ∧ Kd.S k33 33 w' W.heap.size (fun _ => True) (.slice (some ⟨W.heap.size, 0, none⟩) n.toNat n.toNat) ((s.l.drop (a.toNat - s.fl)).take n.toNat) ∧ Below W.heap.size W w' := by
  by_cases hn : n ≤ 0
  · have : n.toNat = 0 := by omega
    rw [this, List.take_zero]
    exact out_none _ a n hn W
  · obtain ⟨h1, h2⟩ := hc.resolve_left hn
    obtain ⟨a, rfl⟩ : ∃ k : Nat, a = k := ⟨a.toNat, by omega⟩
    obtain ⟨n, rfl⟩ : ∃ k : Nat, n = k := ⟨n.toNat, by omega⟩
    rw [Int.toNat_natCast, Int.toNat_natCast]
    cases p with
    | none =>
      obtain ⟨_, rfl⟩ := h
      simp [RS.zero, RS.la] at h1 h2
      omega
    | some b => exact out_some h a n (by omega) (by omega) (by omega)
def RS.afc (s : RS) (a m : Int) : Int := if m < 0 ∨ 64 < m then 1 else if a < (s.fl : Int) then 60 else if (s.la : Int) < a then 61 else 0
def RS.after (s : RS) (a m : Int) : List S33 := if s.afc a m = 0 then (s.l.drop (a.toNat - s.fl)).take m.toNat else []
set_option maxHeartbeats 4000000 in
set_option maxRecDepth 100000 in
theorem after_bad (h : RingIs W base ok p s) (a m : Int) (hm : m < 0 ∨ 64 < m) :
    Calls Try.prog 24 #[ptr p, .int .i64 a, .int .i64 m] W fun e w' => e = .returned (.tuple #[.slice none 0 0, .int .i64 1]) ∧ Below W.heap.size W w' := by
  have H := Aside0.mk h
  clear h
  rcases hm with hm | hm
  · go_enter Try.func24, Try.ntmps24
    go_wp2_with fail
    refine (floor_R H.out).mono ?_
    rintro e w1 ⟨rfl, ⟨⟨n1, rfl⟩⟩⟩
    go_wp2_with fail
    refine (last_R (RingIs_below H.out (pw_below_drewN (Below.refl _ _) _))).mono ?_
    rintro e w1 ⟨rfl, ⟨⟨n2, rfl⟩⟩⟩
    go_wp2
    go_ret2
    exact ⟨rfl, pw_below_drewN (Below.refl _ _) _⟩
  · go_enter Try.func24, Try.ntmps24
    go_wp2_with fail
    refine (floor_R H.out).mono ?_
    rintro e w1 ⟨rfl, ⟨⟨n1, rfl⟩⟩⟩
    go_wp2_with fail
    refine (last_R (RingIs_below H.out (pw_below_drewN (Below.refl _ _) _))).mono ?_
    rintro e w1 ⟨rfl, ⟨⟨n2, rfl⟩⟩⟩
    go_wp2
    go_ret2
    exact ⟨rfl, pw_below_drewN (Below.refl _ _) _⟩
set_option maxHeartbeats 4000000 in
set_option maxRecDepth 100000 in
theorem after_old (h : RingIs W base ok p s) (a m : Int) (hm : 0 ≤ m) (hm2 : m ≤ 64) (ha : decide (a < (s.fl : Int)) = true) :
    Calls Try.prog 24 #[ptr p, .int .i64 a, .int .i64 m] W fun e w' => e = .returned (.tuple #[.slice none 0 0, .int .i64 60]) ∧ Below W.heap.size W w' := by
  have H := Aside0.mk h
  clear h
  go_enter Try.func24, Try.ntmps24
  go_wp2_with fail
  refine (floor_R H.out).mono ?_
  rintro e w1 ⟨rfl, ⟨⟨n1, rfl⟩⟩⟩
  go_wp2_with fail
  refine (last_R (RingIs_below H.out (pw_below_drewN (Below.refl _ _) _))).mono ?_
  rintro e w1 ⟨rfl, ⟨⟨n2, rfl⟩⟩⟩
  go_wp2
  go_ret2
  exact ⟨rfl, pw_below_drewN (Below.refl _ _) _⟩
set_option maxHeartbeats 4000000 in
set_option maxRecDepth 100000 in
theorem after_gap (h : RingIs W base ok p s) (a m : Int) (hm : 0 ≤ m) (hm2 : m ≤ 64) (ha : decide (a < (s.fl : Int)) = false) (hl : decide ((s.la : Int) < a) = true) :
    Calls Try.prog 24 #[ptr p, .int .i64 a, .int .i64 m] W fun e w' => e = .returned (.tuple #[.slice none 0 0, .int .i64 61]) ∧ Below W.heap.size W w' := by
  have H := Aside0.mk h
  clear h
  go_enter Try.func24, Try.ntmps24
  go_wp2_with fail
  refine (floor_R H.out).mono ?_
  rintro e w1 ⟨rfl, ⟨⟨n1, rfl⟩⟩⟩
  go_wp2_with fail
  refine (last_R (RingIs_below H.out (pw_below_drewN (Below.refl _ _) _))).mono ?_
  rintro e w1 ⟨rfl, ⟨⟨n2, rfl⟩⟩⟩
  go_wp2
  go_ret2
  exact ⟨rfl, pw_below_drewN (Below.refl _ _) _⟩
set_option maxHeartbeats 4000000 in
set_option maxRecDepth 100000 in
theorem after_ok (h : RingIs W base ok p s) (a : Nat) (m k : Int) (hm : 0 ≤ m) (hm2 : m ≤ 64) (ha : decide ((a : Int) < (s.fl : Int)) = false) (hl : decide ((s.la : Int) < (a : Int)) = false) (hla : (s.la : Int) ≤ 2147483647) (hk : min m ((s.la : Int) - (a : Int)) = k) :
    Calls Try.prog 24 #[ptr p, .int .i64 a, .int .i64 m] W fun e w' => e = .returned (.tuple #[.slice (some ⟨W.heap.size, 0, none⟩) k.toNat k.toNat, .int .i64 0]) ∧ Kd.S k33 33 w' W.heap.size (fun _ => True) (.slice (some ⟨W.heap.size, 0, none⟩) k.toNat k.toNat) ((s.l.drop (a - s.fl)).take k.toNat) ∧ Below W.heap.size W w' := by
  have H := Aside0.mk h
  have hle1 : ¬ ((a : Int) < (s.fl : Int)) := of_decide_eq_false ha
  have hle2 : ¬ ((s.la : Int) < (a : Int)) := of_decide_eq_false hl
  have HK := Aside0.mk hk
  clear h hk
  go_enter Try.func24, Try.ntmps24
  go_wp2_with fail
  refine (floor_R H.out).mono ?_
  rintro e w1 ⟨rfl, ⟨⟨n1, rfl⟩⟩⟩
  go_wp2_with fail
  refine (last_R (RingIs_below H.out (pw_below_drewN (Below.refl _ _) _))).mono ?_
  rintro e w1 ⟨rfl, ⟨⟨n2, rfl⟩⟩⟩
  by_cases hmin : (s.la : Int) - (a : Int) < m
  · have hkv : k = (s.la : Int) - (a : Int) := by have := HK.out; omega
    go_wp2_with fail
    refine (out_R (RingIs_below H.out (pw_below_drewN (Below.refl _ _) _)) _ _ (.inr ⟨by omega, by omega⟩)).mono ?_
    rintro e w2 ⟨rfl, hs, hb⟩
    have HS := Aside0.mk hs
    have HB := Aside0.mk (below_then (pw_below_drewN (Below.refl W.heap.size W) _) (Nat.le_refl _) hb)
    clear hs hb
    rw [← hkv] at HS ⊢
    clear hkv
    go_wp2
    go_ret2
    exact ⟨rfl, HS.out, HB.out⟩
  · have hkv : k = m := by have := HK.out; omega
    subst hkv
    go_wp2_with fail
    refine (out_R (RingIs_below H.out (pw_below_drewN (Below.refl _ _) _)) _ _ (.inr ⟨by omega, by omega⟩)).mono ?_
    rintro e w2 ⟨rfl, hs, hb⟩
    have HS := Aside0.mk hs
    have HB := Aside0.mk (below_then (pw_below_drewN (Below.refl W.heap.size W) _) (Nat.le_refl _) hb)
    clear hs hb
    go_wp2
    go_ret2
    exact ⟨rfl, HS.out, HB.out⟩
theorem after_R (h : RingIs W base ok p s) (a m : Int) :
    Calls Try.prog 24 #[ptr p, .int .i64 a, .int .i64 m] W fun e w' => ∃ A c, e = .returned (.tuple #[.slice A (s.after a m).length c, .int .i64 (s.afc a m)]) ∧ Kd.S k33 33 w' W.heap.size (fun _ => True) (.slice A (s.after a m).length c) (s.after a m) ∧ (s.after a m).length ≤ c ∧ Below W.heap.size W w' := by
  have hbad : ∀ {r : Int}, s.afc a m = r → r ≠ 0 → (Calls Try.prog 24 #[ptr p, .int .i64 a, .int .i64 m] W fun e w' => e = .returned (.tuple #[.slice none 0 0, .int .i64 r]) ∧ Below W.heap.size W w') →
      Calls Try.prog 24 #[ptr p, .int .i64 a, .int .i64 m] W fun e w' => ∃ A c, e = .returned (.tuple #[.slice A (s.after a m).length c, .int .i64 (s.afc a m)]) ∧ Kd.S k33 33 w' W.heap.size (fun _ => True) (.slice A (s.after a m).length c) (s.after a m) ∧ (s.after a m).length ≤ c ∧ Below W.heap.size W w' := by
    intro r hr h0 hc
    refine hc.mono ?_
    rintro e w1 ⟨rfl, hb⟩
    have : s.after a m = [] := by unfold RS.after; rw [hr, if_neg h0]
    rw [hr, this]
    exact ⟨none, 0, rfl, Kd.S_nil _ _ _ _ _, Nat.le_refl _, hb⟩
  by_cases h1 : m < 0 ∨ 64 < m
  · exact hbad (if_pos h1) (by decide) (after_bad h a m h1)
  · by_cases h2 : a < (s.fl : Int)
    · exact hbad (by unfold RS.afc; rw [if_neg h1, if_pos h2]) (by decide) (after_old h a m (by omega) (by omega) (decide_eq_true h2))
    · by_cases h3 : (s.la : Int) < a
      · exact hbad (by unfold RS.afc; rw [if_neg h1, if_neg h2, if_pos h3]) (by decide) (after_gap h a m (by omega) (by omega) (decide_eq_false h2) (decide_eq_true h3))
      · have hc : s.afc a m = 0 := by unfold RS.afc; rw [if_neg h1, if_neg h2, if_neg h3]
        have hla := h.1.2.2.2.2.1
        obtain ⟨n, rfl⟩ : ∃ k : Nat, a = k := ⟨a.toNat, by omega⟩
        have hl : s.after n m = (s.l.drop (n - s.fl)).take (min m ((s.la : Int) - (n : Int))).toNat := by
          unfold RS.after
          rw [if_pos hc, Int.toNat_natCast]
          apply List.take_eq_take_iff.2
          rw [List.length_drop]
          simp only [RS.la] at *
          omega
        have hlen : (s.after n m).length = (min m ((s.la : Int) - (n : Int))).toNat := by
          rw [hl, List.length_take, List.length_drop]
          simp only [RS.la] at *
          omega
        rw [hc, hlen]
        refine (after_ok h n m _ (by omega) (by omega) (decide_eq_false h2) (decide_eq_false h3) (by omega) rfl).mono ?_
        rintro e w1 ⟨rfl, hs, hb⟩
        rw [← hl] at hs
        exact ⟨_, _, rfl, hs, Nat.le_refl _, hb⟩
end
end Go.Proofs.Ytcbejpmmlcdhnaa.PW
namespace Go.Proofs.Ytcbejpmmlcdhnaa.PW
open Go.RowKit Go.Proofs.YtcbejpmmlcdhnaaW.PrintWords Go.Proofs.YtcbejpmmlcdhnaaW.PrintLast Go.Proofs.YtcbejpmmlcdhnaaW.PrintMore
set_option linter.unusedVariables false
set_option linter.unusedSimpArgs false

theorem zero66_at {k j : Nat} (hk : k < 64) (hj : j < 6) : zero66[k * 6 + j]? = zeroList[j]? := by
  have h6 : ∀ r ∈ List.replicate 64 (zeroList : List Value), r.length = 6 := fun r hr => by rw [List.eq_of_mem_replicate hr]; rfl
  have hl : (List.replicate 64 (zeroList : List Value)).flatten.length = 384 := by rw [flat6 h6, List.length_replicate]
  have h := flat6_get h6 (j := k) (r := zeroList) (by rw [List.getElem?_replicate, if_pos hk])
  unfold zero66
  rw [List.getElem?_toArray, List.getElem?_append_left (by rw [hl]; omega), ← h, List.getElem?_take_of_lt hj, List.getElem?_drop]
theorem ring66_at (room fl la ho o : Int) {k j : Nat} (hk : k < 64) (hj : j < 6) : (ring66 room fl la ho o)[k * 6 + j]? = zeroList[j]? := by
  unfold ring66
  rw [Array.getElem?_setIfInBounds, if_neg (by omega), Array.getElem?_setIfInBounds, if_neg (by omega), Array.getElem?_setIfInBounds, if_neg (by omega), Array.getElem?_setIfInBounds, if_neg (by omega), Array.getElem?_setIfInBounds, if_neg (by omega)]
  exact zero66_at hk hj
theorem ring66_size (room fl la ho o : Int) : (ring66 room fl la ho o).size = 389 := by simp [ring66, zero66_size]
theorem RingAt_new {W : World} {base b : Nat} {ok : Nat → Prop} {room fl la ho o : Int} (hb : base ≤ b) (hok : ok b) (hh : W.heap[b]? = some (.cells (ring66 room fl la ho o) 66 (0, 0))) : RingAt W base ok b room fl la ho o (fun _ => z33) := by
  obtain ⟨c1, c2, c3, c4, c5⟩ := ring66_cells room fl la ho o
  refine ⟨hb, hok, _, hh, ring66_size _ _ _ _ _, c1, c2, c3, c4, c5, fun k hk => ?_⟩
  exact ⟨ring66_at _ _ _ _ _ hk (j := 0) (by omega), ring66_at _ _ _ _ _ hk (j := 1) (by omega), ring66_at _ _ _ _ _ hk (j := 2) (by omega), ring66_at _ _ _ _ _ hk (j := 3) (by omega), ring66_at _ _ _ _ _ hk (j := 4) (by omega), _, ring66_at _ _ _ _ _ hk (j := 5) (by omega), Kd.R_nil _ _ _ _ _⟩
def RS.new (room fl : Nat) (o : Int) : RS := ⟨room, fl, o, fl, []⟩
theorem new_R {W : World} {base : Nat} {ok : Nat → Prop} (room fl : Nat) (o : Int) (h1 : 1 ≤ room) (h2 : room ≤ 64) (hf : fl ≤ 2147483647) (ho : isB o = true) (hbase : base ≤ W.heap.size) (hok : ok W.heap.size) :
    Calls Try.prog 18 #[.int .i64 (room : Int), .int .i64 (fl : Int), .int .i64 o] W fun e w' => e = .returned (.tuple #[.pointer (some ⟨W.heap.size, 0, none⟩), .int .i64 0]) ∧ RingIs w' base ok (some W.heap.size) (RS.new room fl o) ∧ Below W.heap.size W w' := by
  refine (new_C (room : Int) (fl : Int) o W (by omega) (by omega) (by unfold isB; exact decide_eq_true (by omega)) ho).mono ?_
  rintro e w1 ⟨rfl, rfl⟩
  refine ⟨rfl, ⟨⟨h2, Nat.zero_le _, Nat.le_refl _, ?_, ?_, fun e he => by simp [RS.new] at he⟩, fun _ => z33, ?_, fun i hi => by simp [RS.new] at hi⟩, below_alloc (Below.refl _ _) _⟩
  · simp [RS.new, RS.la]
  · simpa [RS.new, RS.la] using hf
  · exact RingAt_new hbase hok (heap_alloc_new W _)
theorem Live_nil (W : World) (p : Option Nat) : Live W p none 0 [] := fun W' _ => ⟨rfl, by omega, fun h => absurd h (by omega)⟩
theorem new_bad {W : World} (room fl o : Int) (h : room < 1 ∨ 64 < room) : Calls Try.prog 18 #[.int .i64 room, .int .i64 fl, .int .i64 o] W fun e w' => e = .returned (.tuple #[.pointer none, .int .i64 1]) ∧ w' = W := new_room room fl o W h
set_option maxHeartbeats 4000000 in
set_option maxRecDepth 100000 in
theorem begins_R (W : World) : Calls Try.prog 10 #[] W fun e w' => e = .returned (.bool true) ∧ Below W.heap.size W w' := by
  go_enter Try.func10, Try.ntmps10
  go_wp2_with fail
  refine (new_R (base := W.heap.size) (ok := fun _ => True) 2 5 3 (by omega) (by omega) (by omega) (by decide) (Nat.le_refl _) trivial).mono ?_
  rintro e w1 ⟨rfl, hr, hb⟩
  have HR1 := Aside0.mk hr
  have HB1 := Aside0.mk hb
  clear hr hb
  go_wp2_with fail
  refine (new_bad 0 (-1) 0 (by omega)).mono ?_
  rintro e w2 ⟨rfl, rfl⟩
  go_wp2_with fail
  refine (new_bad 65 0 (-1) (by omega)).mono ?_
  rintro e w2 ⟨rfl, rfl⟩
  go_wp2_with fail
  refine (append_R (p := some W.heap.size) HR1.out ⟨6, 3, 0, 0, 0, []⟩ none 0 0 rfl (Live_nil _ _) (Nat.zero_le _) (fun _ _ => trivial)).mono ?_
  rintro e w2 ⟨rfl, hr, hf⟩
  rw [show (RS.new 2 5 3).acode ⟨6, 3, 0, 0, 0, []⟩ = 0 by decide]
  have HR2 := Aside0.mk hr
  have HF2 := Aside0.mk hf
  clear hr hf
  go_wp2_with fail
  refine (append_R (p := some W.heap.size) HR2.out ⟨7, 4, 0, 0, 0, []⟩ none 0 0 rfl (Live_nil _ _) (Nat.zero_le _) (fun _ _ => trivial)).mono ?_
  rintro e w3 ⟨rfl, hr, hf⟩
  rw [show (RS.app (RS.new 2 5 3) ⟨6, 3, 0, 0, 0, []⟩).acode ⟨7, 4, 0, 0, 0, []⟩ = 0 by decide]
  have HR3 := Aside0.mk hr
  have HF3 := Aside0.mk hf
  clear hr hf
  go_wp2_with fail
  refine (append_R (p := some W.heap.size) HR3.out ⟨8, 4, 0, 0, 0, []⟩ none 0 0 rfl (Live_nil _ _) (Nat.zero_le _) (fun _ _ => trivial)).mono ?_
  rintro e w4 ⟨rfl, hr, hf⟩
  rw [show (RS.app (RS.app (RS.new 2 5 3) ⟨6, 3, 0, 0, 0, []⟩) ⟨7, 4, 0, 0, 0, []⟩).acode ⟨8, 4, 0, 0, 0, []⟩ = 62 by decide]
  have HR4 := Aside0.mk hr
  have HF4 := Aside0.mk hf
  clear hr hf
  go_wp2_with fail
  refine (hold_R (p := some W.heap.size) 6 HR4.out).mono ?_
  rintro e w5 ⟨rfl, hr, hf⟩
  rw [show (RS.app (RS.app (RS.app (RS.new 2 5 3) ⟨6, 3, 0, 0, 0, []⟩) ⟨7, 4, 0, 0, 0, []⟩) ⟨8, 4, 0, 0, 0, []⟩).code 6 = 0 by decide]
  have HR5 := Aside0.mk hr
  have HF5 := Aside0.mk hf
  clear hr hf
  go_wp2_with fail
  refine (append_R (p := some W.heap.size) HR5.out ⟨8, 4, 0, 0, 0, []⟩ none 0 0 rfl (Live_nil _ _) (Nat.zero_le _) (fun _ _ => trivial)).mono ?_
  rintro e w6 ⟨rfl, hr, hf⟩
  rw [show (RS.hold (RS.app (RS.app (RS.app (RS.new 2 5 3) ⟨6, 3, 0, 0, 0, []⟩) ⟨7, 4, 0, 0, 0, []⟩) ⟨8, 4, 0, 0, 0, []⟩) 6).acode ⟨8, 4, 0, 0, 0, []⟩ = 0 by decide]
  have HR6 := Aside0.mk hr
  have HF6 := Aside0.mk hf
  clear hr hf
  go_wp2_with fail
  refine (floor_R (p := some W.heap.size) HR6.out).mono ?_
  rintro e w7 ⟨rfl, ⟨⟨n7, rfl⟩⟩⟩
  rw [show ((RS.app (RS.hold (RS.app (RS.app (RS.app (RS.new 2 5 3) ⟨6, 3, 0, 0, 0, []⟩) ⟨7, 4, 0, 0, 0, []⟩) ⟨8, 4, 0, 0, 0, []⟩) 6) ⟨8, 4, 0, 0, 0, []⟩).fl : Nat) = 6 by decide, show (RS.app (RS.hold (RS.app (RS.app (RS.app (RS.new 2 5 3) ⟨6, 3, 0, 0, 0, []⟩) ⟨7, 4, 0, 0, 0, []⟩) ⟨8, 4, 0, 0, 0, []⟩) 6) ⟨8, 4, 0, 0, 0, []⟩).o = 3 by decide]
  go_wp2_with fail
  refine (last_R (p := some W.heap.size) (RingIs_below HR6.out (pw_below_drewN (Below.refl _ _) _))).mono ?_
  rintro e w8 ⟨rfl, ⟨⟨n8, rfl⟩⟩⟩
  rw [show ((RS.app (RS.hold (RS.app (RS.app (RS.app (RS.new 2 5 3) ⟨6, 3, 0, 0, 0, []⟩) ⟨7, 4, 0, 0, 0, []⟩) ⟨8, 4, 0, 0, 0, []⟩) 6) ⟨8, 4, 0, 0, 0, []⟩).la : Nat) = 8 by decide, show (RS.app (RS.hold (RS.app (RS.app (RS.app (RS.new 2 5 3) ⟨6, 3, 0, 0, 0, []⟩) ⟨7, 4, 0, 0, 0, []⟩) ⟨8, 4, 0, 0, 0, []⟩) 6) ⟨8, 4, 0, 0, 0, []⟩).lv = 4 by decide]
  have hF : Frm W w6 (fun k => W.heap.size ≤ k) := ((((((Frm.of_below HB1.out _).then_ HF2.out (fun k hk _ => Nat.le_of_eq (Option.some.inj hk))).then_ HF3.out (fun k hk _ => Nat.le_of_eq (Option.some.inj hk))).then_ HF4.out (fun k hk _ => Nat.le_of_eq (Option.some.inj hk))).then_ HF5.out (fun k hk _ => Nat.le_of_eq (Option.some.inj hk))).then_ HF6.out (fun k hk _ => Nat.le_of_eq (Option.some.inj hk)))
  have HF := Aside0.mk (Frm.below (hF.drewN (n7 + n8)) (fun k hk _ => hk) (Nat.le_refl _))
  clear hF
  go_wp2
  go_ret
  exact ⟨rfl, HF.out⟩
end Go.Proofs.Ytcbejpmmlcdhnaa.PW
namespace Go.Proofs.Ytcbejpmmlcdhnaa.PW
open Go.RowKit Go.Proofs.YtcbejpmmlcdhnaaW.PrintWords Go.Proofs.YtcbejpmmlcdhnaaW.PrintLast Go.Proofs.YtcbejpmmlcdhnaaW.PrintMore
set_option linter.unusedVariables false
set_option linter.unusedSimpArgs false

/-- The entry number i of a ring that was filled. -/
def fent (i : Nat) : S33 := ⟨i, ((i / 3 : Nat) : Int), 1, 5, i, [⟨i, ⟨#[47, 97]⟩, ⟨#[]⟩, 0, 0⟩, ⟨(i : Int) + 1, ⟨#[]⟩, ⟨#[]⟩, 0, 0⟩]⟩
/-- A ring with n entries put in. -/
def fillS (room n : Nat) : RS := ⟨room, n - room, (((n - room) / 3 : Nat) : Int), n, (List.range (min n room)).map fun t => fent (n - room + 1 + t)⟩
theorem fillS_len (room n : Nat) : (fillS room n).l.length = min n room := by simp [fillS]
theorem fillS_la (room n : Nat) : (fillS room n).la = n := by
  unfold RS.la
  rw [fillS_len]
  show n - room + min n room = n
  omega
theorem fillS_lv (room n : Nat) (h : 1 ≤ room) : (fillS room n).lv = ((n / 3 : Nat) : Int) := by
  unfold RS.lv
  rcases Nat.eq_zero_or_pos n with h0 | h0
  · subst h0
    simp [fillS]
  · have hl : (fillS room n).l.getLast? = some (fent n) := by
      rw [List.getLast?_eq_getElem?, fillS_len]
      show ((List.range (min n room)).map fun t => fent (n - room + 1 + t))[min n room - 1]? = _
      rw [List.getElem?_map, List.getElem?_range (by omega)]
      show some (fent (n - room + 1 + (min n room - 1))) = _
      congr 2
      omega
    rw [hl]
    rfl
theorem fillS_acode (room n : Nat) (h : 1 ≤ room) (hn : n ≤ 200) : (fillS room n).acode (fent (n + 1)) = 0 := by
  unfold RS.acode
  rw [fillS_la, fillS_lv _ _ h, fillS_len]
  have hb : isB (fent (n + 1)).f1 = true := by
    unfold isB fent
    exact decide_eq_true (by show (0 : Int) ≤ (((n + 1) / 3 : Nat) : Int) ∧ (((n + 1) / 3 : Nat) : Int) ≤ 2147483647; omega)
  rw [hb, if_neg (by simp; omega), if_neg (by simp [fent]), if_neg (by show ¬ ((((n + 1) / 3 : Nat) : Int) < _); omega), if_neg]
  rintro ⟨h1, h2⟩
  have h2 : n ≤ n - room := h2
  have h1 : min n room = room := h1
  omega
theorem fillS_step (room n : Nat) (h : 1 ≤ room) (hn : n ≤ 200) : ((fillS room n).app (fent (n + 1))).hold ((n + 1 : Nat) : Int) = fillS room (n + 1) ∧ ((fillS room n).app (fent (n + 1))).code ((n + 1 : Nat) : Int) = 0 := by
  have happ : (fillS room n).app (fent (n + 1)) = { fillS room (n + 1) with ho := n } := by
    unfold RS.app
    rw [if_pos (fillS_acode room n h hn)]
    unfold RS.push
    rw [fillS_len]
    by_cases hf : min n room = room
    · rw [if_pos (show min n room = (fillS room n).room from hf)]
      have hnr : room ≤ n := by omega
      have h0 : (fillS room n).l.getD 0 z33 = fent (n - room + 1) := by
        show ((List.range (min n room)).map fun t => fent (n - room + 1 + t)).getD 0 z33 = _
        rw [List.getD_eq_getElem?_getD, List.getElem?_map, List.getElem?_range (by omega)]
        rfl
      have hl : (fillS room n).l.drop 1 ++ [fent (n + 1)] = (fillS room (n + 1)).l := by
        apply List.ext_getElem?
        intro t
        show (((List.range (min n room)).map fun t => fent (n - room + 1 + t)).drop 1 ++ [fent (n + 1)])[t]? = ((List.range (min (n + 1) room)).map fun t => fent (n + 1 - room + 1 + t))[t]?
        have hlen : (((List.range (min n room)).map fun t => fent (n - room + 1 + t)).drop 1).length = room - 1 := by simp; omega
        rcases Nat.lt_trichotomy t (room - 1) with ht | ht | ht
        · rw [List.getElem?_append_left (by omega), List.getElem?_drop, List.getElem?_map, List.getElem?_map, List.getElem?_range (by omega), List.getElem?_range (by omega)]
          show some (fent _) = some (fent _)
          congr 2
          omega
        · rw [List.getElem?_append_right (by omega), hlen, ht, Nat.sub_self, List.getElem?_map, List.getElem?_range (by omega)]
          show some (fent _) = some (fent _)
          congr 2
          omega
        · rw [List.getElem?_eq_none (by rw [List.length_append, hlen, List.length_singleton]; omega), List.getElem?_eq_none (by simp; omega)]
      rw [h0, hl]
      show RS.mk room (n - room + 1) (((n - room + 1) / 3 : Nat) : Int) n _ = RS.mk room (n + 1 - room) (((n + 1 - room) / 3 : Nat) : Int) n _
      rw [show n + 1 - room = n - room + 1 by omega]
    · rw [if_neg (show ¬ min n room = (fillS room n).room from hf)]
      have hnr : n < room := by omega
      have hl : (fillS room n).l ++ [fent (n + 1)] = (fillS room (n + 1)).l := by
        show ((List.range (min n room)).map fun t => fent (n - room + 1 + t)) ++ [fent (n + 1)] = ((List.range (min (n + 1) room)).map fun t => fent (n + 1 - room + 1 + t))
        rw [show n - room = 0 by omega, show n + 1 - room = 0 by omega, show min n room = n by omega, show min (n + 1) room = n + 1 by omega, List.range_succ, List.map_append]
        simp only [List.map_cons, List.map_nil]
        congr 3
        omega
      rw [hl]
      show RS.mk room (n - room) (((n - room) / 3 : Nat) : Int) n _ = RS.mk room (n + 1 - room) (((n + 1 - room) / 3 : Nat) : Int) n _
      rw [show n - room = 0 by omega, show n + 1 - room = 0 by omega]
  have hc : ((fillS room n).app (fent (n + 1))).code ((n + 1 : Nat) : Int) = 0 := by
    rw [happ]
    unfold RS.code
    rw [btw_zero]
    show ((n : Nat) : Int) ≤ _ ∧ _ ≤ ((fillS room (n + 1)).la : Int)
    rw [fillS_la]
    omega
  refine ⟨?_, hc⟩
  unfold RS.hold
  rw [if_pos hc, happ]
  rfl
set_option maxHeartbeats 4000000 in
set_option maxRecDepth 100000 in
theorem filled_R (W : World) (room n : Nat) (h1 : 1 ≤ room) (h2 : room ≤ 64) (hn : n ≤ 200) :
    Calls Try.prog 11 #[.int .i64 (room : Int), .int .i64 (n : Int)] W fun e w' => e = .returned (.pointer (some ⟨W.heap.size, 0, none⟩)) ∧ RingIs w' W.heap.size (fun _ => True) (some W.heap.size) (fillS room n) ∧ Below W.heap.size W w' := by
  go_enter Try.func11, Try.ntmps11
  go_wp2_with fail
  refine (new_R (base := W.heap.size) (ok := fun _ => True) room 0 0 h1 h2 (by omega) (by decide) (Nat.le_refl _) trivial).mono ?_
  rintro e w1 ⟨rfl, hr, hb⟩
  have e0 : RS.new room 0 0 = fillS room 0 := by
    unfold RS.new fillS
    simp
  rw [e0] at hr
  have HR := Aside0.mk hr
  have HF := Aside0.mk (Frm.of_below hb (fun k => W.heap.size ≤ k))
  clear hr hb e0
  go_wp2
  go_loopw [7, 8, 9] (fun v7 v8 v9 wr => ∃ k : Nat, k ≤ n ∧ v7 = .int .i64 ((k : Int) + 1) ∧ Aside0 (RingIs wr W.heap.size (fun _ => True) (some W.heap.size) (fillS room k)) ∧ Aside0 (Frm W wr (fun k => W.heap.size ≤ k))) (fun v7 _ _ _ => n + 1 - (intOf v7).toNat)
  case atStart => exact ⟨0, Nat.zero_le _, rfl, HR, HF⟩
  case round =>
    obtain ⟨k, hk, rfl, HK, HFK⟩ := hrel
    by_cases hlt : k < n
    · have hd : decide ((k : Int) + 1 ≤ (n : Int)) = true := decide_eq_true (by omega)
      go_wp2_with fail
      obtain ⟨N1, hN1⟩ : ∃ N1 : Nat, N1 = k + 1 := ⟨_, rfl⟩
      rw [show (k : Int) + 1 = (N1 : Int) by omega, show (N1 : Int) / 3 = ((N1 / 3 : Nat) : Int) from rfl]
      obtain ⟨X, hX⟩ : ∃ X : Array Value, X = #[.int .i64 (N1 : Int), .string ⟨#[47, 97]⟩, .string ⟨#[]⟩, .int .i64 0, .int .i64 0, .int .i64 ((N1 : Int) + 1), .string ⟨#[]⟩, .string ⟨#[]⟩, .int .i64 0, .int .i64 0] := ⟨_, rfl⟩
      rw [← hX]
      have hb : (wr.alloc (.cells X 55)).heap[wr.heap.size]? = some (.cells X 55) := heap_alloc_new _ _
      have hlive : Live (wr.alloc (.cells X 55)) (some W.heap.size) (some ⟨wr.heap.size, 0, none⟩) 2 (fent N1).f5 := by
        intro W' hf
        have hb' : W'.heap[wr.heap.size]? = some (.cells X 55) := (hf.block _ (by rw [szA]; omega) (fun e => by
          have h3 : W.heap.size = wr.heap.size := Option.some.inj e
          obtain ⟨_, E, hR, _⟩ := HK.out
          exact absurd (show W.heap.size < wr.heap.size from World.block_lt_of_cell? wr ⟨W.heap.size, 384, none⟩ (RingAt_cells hR).1) (by rw [h3]; exact Nat.lt_irrefl _))).trans hb
        refine ⟨rfl, by omega, fun _ => ⟨_, rfl, fun j p hp => ?_⟩⟩
        have hadd : ∀ i, (⟨wr.heap.size, 0, none⟩ : Addr).add i = ⟨wr.heap.size, i, none⟩ := fun i => by unfold Addr.add; split <;> simp_all
        match j, hp with
        | 0, hp =>
          obtain rfl := Option.some.inj hp
          refine ⟨_, rfl, k55_mk _ _, fun i u hu => ?_⟩
          rw [hadd, blk_cell hb', hX]
          match i, hu with
          | 0, hu => exact hu
          | 1, hu => exact hu
          | 2, hu => exact hu
          | 3, hu => exact hu
          | 4, hu => exact hu
          | (i + 5), hu => simp at hu
        | 1, hp =>
          obtain rfl := Option.some.inj hp
          refine ⟨_, rfl, k55_mk _ _, fun i u hu => ?_⟩
          rw [hadd, blk_cell hb', hX]
          match i, hu with
          | 0, hu => exact hu
          | 1, hu => exact hu
          | 2, hu => exact hu
          | 3, hu => exact hu
          | 4, hu => exact hu
          | (i + 5), hu => simp at hu
        | (j + 2), hp => simp [fent] at hp
      refine (append_R (p := some W.heap.size) (RingIs_below HK.out (below_alloc (Below.refl _ _) _)) (fent N1) (some ⟨wr.heap.size, 0, none⟩) 2 2 rfl hlive (by show 2 ≤ _; omega) (fun _ _ => trivial)).mono ?_
      rintro e w3 ⟨rfl, hr3, hf3⟩
      have hac : (fillS room k).acode (fent N1) = 0 := by rw [hN1]; exact fillS_acode room k h1 (by omega)
      have hstep : ((fillS room k).app (fent N1)).hold (N1 : Int) = fillS room N1 ∧ ((fillS room k).app (fent N1)).code (N1 : Int) = 0 := by rw [hN1]; exact fillS_step room k h1 (by omega)
      rw [hac]
      have HST := Aside0.mk hstep
      have HR3 := Aside0.mk hr3
      have HF3 := Aside0.mk (show Frm W w3 (fun k => W.heap.size ≤ k) from (HFK.out.alloc _).then_ hf3 (fun k hk _ => Nat.le_of_eq (Option.some.inj hk)))
      have HN1 := Aside0.mk hN1
      have hN200 : N1 ≤ 200 := by omega
      clear hlive hb hX hN1 hac hstep hr3 hf3
      go_wp2_with fail
      refine (hold_R (p := some W.heap.size) (N1 : Int) HR3.out).mono ?_
      rintro e w4 ⟨rfl, hr4, hf4⟩
      rw [HST.out.2]
      rw [HST.out.1] at hr4
      have HR4 := Aside0.mk hr4
      have HF4 := Aside0.mk (HF3.out.then_ hf4 (fun k hk _ => Nat.le_of_eq (Option.some.inj hk)))
      clear hr4 hf4
      go_wp2
      go_roundw
      case rel => exact ⟨N1, by have := HN1.out; omega, by go_num, HR4, HF4⟩
      case measure => have := HN1.out; simp [intOf]; omega
    · have hd : decide ((k : Int) + 1 ≤ (n : Int)) = false := decide_eq_false (by omega)
      have hkn : k = n := by omega
      rw [hkn] at HK
      have HB := Aside0.mk (Frm.below (B := W.heap.size) HFK.out (fun k hk _ => hk) (Nat.le_refl _))
      clear hkn
      go_wp2
      go_ret
      exact ⟨rfl, HK.out, HB.out⟩
end Go.Proofs.Ytcbejpmmlcdhnaa.PW
namespace Go.Proofs.Ytcbejpmmlcdhnaa.PW
open Go.RowKit Go.Proofs.YtcbejpmmlcdhnaaW.PrintWords Go.Proofs.YtcbejpmmlcdhnaaW.PrintLast Go.Proofs.YtcbejpmmlcdhnaaW.PrintMore
set_option linter.unusedVariables false
set_option linter.unusedSimpArgs false

theorem wrap_succ (i : Nat) (h : i < 4611686018427387904) : wrap64 ((i : Int) + 1) = ((i + 1 : Nat) : Int) := by unfold wrap64; omega
theorem sameOps_l0 (l : List S55) (hl : l.length ≤ 4611686018427387904) : ∀ (d i k : Nat), l.length - i = d → i ≤ l.length → d < k → heraldlaw6_sameOps.l0 k l l (i : Int) = some true
  | 0, i, k + 1, h, hi, _ => by
    unfold heraldlaw6_sameOps.l0
    rw [if_neg (by omega)]
  | d + 1, i, k + 1, h, hi, hk => by
    unfold heraldlaw6_sameOps.l0
    rw [if_pos (by omega), if_pos (by omega), if_pos (by omega), if_neg (by simp), wrap_succ i (by omega)]
    exact sameOps_l0 l hl d (i + 1) k (by omega) (by omega) (by omega)
theorem same_f (x : S33) (k : Nat) (hx : opsOk x) (hk : x.f5.length < k) : heraldlaw6_same.f k x.f0 x.f1 x.f2 x.f3 x.f4 x.f5 x.f0 x.f1 x.f2 x.f3 x.f4 x.f5 = some true := by
  unfold heraldlaw6_same.f heraldlaw6_sameOps.f
  unfold opsOk at hx
  rw [if_pos rfl, if_pos rfl, if_pos rfl, if_pos rfl, if_pos rfl, if_pos rfl, show (0 : Int) = ((0 : Nat) : Int) from rfl, sameOps_l0 x.f5 (by omega) x.f5.length 0 k (by omega) (by omega) hk]
  rfl
theorem sameAll_l0 (L : List S33) (M : Nat) (hM : ∀ x ∈ L, x.f5.length ≤ M ∧ opsOk x) (hL : L.length ≤ 4611686018427387904) : ∀ (d i k : Nat), L.length - i = d → i ≤ L.length → d + M + 1 < k → heraldlaw6_sameAll.l0 k L L (i : Int) = some true
  | 0, i, k + 1, h, hi, _ => by
    unfold heraldlaw6_sameAll.l0
    rw [if_neg (by omega)]
  | d + 1, i, k + 1, h, hi, hk => by
    unfold heraldlaw6_sameAll.l0
    have hmem : rd_T33 L (i : Int) ∈ L := by
      unfold rd_T33
      rw [Int.toNat_natCast, List.getD_eq_getElem?_getD, List.getElem?_eq_getElem (by omega)]
      exact List.getElem_mem _
    obtain ⟨h1, h2⟩ := hM _ hmem
    rw [if_pos (by omega), if_pos (by omega), if_pos (by omega), same_f _ k h2 (by omega)]
    show (if true = true then heraldlaw6_sameAll.l0 k L L (wrap64 ((i : Int) + 1)) else some false) = some true
    rw [if_pos rfl, wrap_succ i (by omega)]
    exact sameAll_l0 L M hM hL d (i + 1) k (by omega) (by omega) (by omega)
theorem ops_bound (L : List S33) : ∃ M, ∀ x ∈ L, x.f5.length ≤ M := by
  induction L with
  | nil => exact ⟨0, fun x h => by cases h⟩
  | cons y ys ih =>
    obtain ⟨M, h⟩ := ih
    refine ⟨max M y.f5.length, fun x hx => ?_⟩
    rcases List.mem_cons.1 hx with rfl | hx
    · exact Nat.le_max_right _ _
    · exact Nat.le_trans (h x hx) (Nat.le_max_left _ _)
theorem sameAll_f (L : List S33) (hM : ∀ x ∈ L, opsOk x) (hL : L.length ≤ 4611686018427387904) : ∃ k, heraldlaw6_sameAll.f k L L = some true := by
  obtain ⟨M, h⟩ := ops_bound L
  refine ⟨L.length + M + 2, ?_⟩
  unfold heraldlaw6_sameAll.f
  rw [if_pos rfl]
  exact sameAll_l0 L M (fun x hx => ⟨h x hx, hM x hx⟩) hL L.length 0 _ (by omega) (by omega) (by omega)
theorem take_rd55 (l : List S55) (i : Nat) (h : i < l.length) : l.take (i + 1) = l.take i ++ [rd_T55 l (i : Int)] := by
  unfold rd_T55
  rw [Int.toNat_natCast, List.getD_eq_getElem?_getD, List.getElem?_eq_getElem h, List.take_add_one, List.getElem?_eq_getElem h]
  rfl
theorem ops_l0 (l : List S55) (hl : l.length ≤ 2513169434843) : ∀ (d i k : Nat), l.length - i = d → i ≤ l.length → d < k → heraldref6_Ops.l0 k l (l.take i) (i : Int) = some l
  | 0, i, k + 1, h, hi, _ => by
    unfold heraldref6_Ops.l0
    rw [if_neg (by omega), List.take_of_length_le (by omega)]
  | d + 1, i, k + 1, h, hi, hk => by
    unfold heraldref6_Ops.l0
    rw [if_pos (by omega), if_pos (by omega), if_pos (by rw [List.length_take]; omega), wrap_succ i (by omega), ← take_rd55 l i (by omega)]
    exact ops_l0 l hl d (i + 1) k (by omega) (by omega) (by omega)
theorem ops_f (l : List S55) (hl : l.length ≤ 2513169434843) : heraldref6_Ops.f (l.length + 1) l = some l := by
  unfold heraldref6_Ops.f
  exact ops_l0 l hl l.length 0 _ (by omega) (by omega) (by omega)
/-- same of equal entries. -/
theorem same_T (x : S33) (A A' : Option Addr) (n c c' : Nat) (w : World) (hn : x.f5.length = n) (hx : opsOk x) (h1 : Kd.C k55 w A n x.f5) (h2 : n ≤ c) (h3 : Kd.C k55 w A' n x.f5) (h4 : n ≤ c') :
    Calls Try.prog 14 #[entV x (.slice A n c), entV x (.slice A' n c')] w fun e w' => e = .returned (.bool true) ∧ Below w.heap.size w w' := by
  subst hn
  exact heraldlaw6_same.calls (x.f5.length + 1) x.f0 x.f1 x.f2 x.f3 x.f4 A c x.f5 x.f0 x.f1 x.f2 x.f3 x.f4 A' c' x.f5 true w h1 h2 h3 h4 (same_f x _ hx (by omega))
/-- sameAll of equal lists. -/
theorem sameAll_T (L : List S33) (A A' : Option Addr) (n c c' : Nat) (w : World) (hn : L.length = n) (hx : ∀ x ∈ L, opsOk x) (hN : n ≤ 4611686018427387904) (h1 : Kd.C k33 w A n L) (h2 : n ≤ c) (h3 : Kd.C k33 w A' n L) (h4 : n ≤ c') :
    Calls Try.prog 22 #[.slice A n c, .slice A' n c'] w fun e w' => e = .returned (.bool true) ∧ Below w.heap.size w w' := by
  subst hn
  obtain ⟨k, hk⟩ := sameAll_f L hx hN
  exact heraldlaw6_sameAll.calls k A c L A' c' L true w h1 h2 h3 h4 hk
/-- twin: an entry with a list of its own. -/
theorem twin_R (x : S33) (A : Option Addr) (n c : Nat) (w : World) (hn : x.f5.length = n) (hx : opsOk x) (h1 : Kd.C k55 w A n x.f5) (h2 : n ≤ c) :
    Calls Try.prog 21 #[entV x (.slice A n c)] w fun e w' => ∃ A2 c2, e = .returned (entV x (.slice A2 n c2)) ∧ Kd.R k55 55 w' w.heap.size (fun _ => True) (.slice A2 n c2) x.f5 ∧ n ≤ c2 ∧ Below w.heap.size w w' := by
  subst hn
  refine (heraldlaw6_twin.calls (x.f5.length + 1) x.f0 x.f1 x.f2 x.f3 x.f4 A c x.f5 x.f0 x.f1 x.f2 x.f3 x.f4 x.f5 w h1 h2 (by unfold heraldlaw6_twin.f; rw [ops_f _ hx]; rfl)).mono ?_
  rintro e w' ⟨v, rfl, hv, hb⟩
  obtain ⟨A2, c2, rfl, hl, _⟩ := Kd.R_reads hv
  exact ⟨A2, c2, rfl, hv, hl, hb⟩
end Go.Proofs.Ytcbejpmmlcdhnaa.PW
namespace Go.Proofs.Ytcbejpmmlcdhnaa.PW
open Go.RowKit Go.Proofs.YtcbejpmmlcdhnaaW.PrintWords Go.Proofs.YtcbejpmmlcdhnaaW.PrintLast Go.Proofs.YtcbejpmmlcdhnaaW.PrintMore
set_option linter.unusedVariables false
set_option linter.unusedSimpArgs false

/-- I speaks of cells, none of them in T, and abides new blocks and the turn of a block from B on that is no cells; what is new, and what it spoke not of, may be barred from then on. -/
def TOwn {σ : Type} (B : Nat) (I : (Nat → Prop) → σ → World → Prop) : Prop :=
  ∀ T s W W' row T', I T s W → W.grownBy W' row → (∀ r, row = some r → B ≤ r ∧ ∃ o : Obj, W.heap[r]? = some o ∧ o.isCells = false) → (∀ k, T' k → T k ∨ (W.heap.size ≤ k ∧ k < W'.heap.size)) → I T' s W'
section
variable {σ : Type} {B B' : Nat} {I : (Nat → Prop) → σ → World → Prop} {T T' : Nat → Prop} {s : σ} {W : World}
theorem TOwn.weak (h : TOwn B I) (hB : B ≤ B') : TOwn B' I := fun T s W W' row T' hs hg hr hT => h T s W W' row T' hs hg (fun r e => ⟨Nat.le_trans hB (hr r e).1, (hr r e).2⟩) hT
theorem TOwn.alloc (h : TOwn B I) (o : Obj) (hs : I T s W) (hT : ∀ k, T' k → T k ∨ k = W.heap.size) : I T' s (W.alloc o) := h T s W _ none T' hs (World.grownBy_alloc W o none) (fun r e => by cases e) (fun k hk => (hT k hk).imp_right (fun e => by rw [World.size_alloc]; omega))
theorem TOwn.drew (h : TOwn B I) (hs : I T s W) : I T s W.drew := h T s W W.drew none T hs ⟨rfl, rfl, rfl, Nat.le_refl _, fun _ _ _ => rfl⟩ (fun r e => by cases e) (fun k hk => .inl hk)
theorem TOwn.less (h : TOwn B I) (hs : I T s W) (hT : ∀ k, T' k → T k) : I T' s W := h T s W W none T' hs ⟨rfl, rfl, rfl, Nat.le_refl _, fun _ _ _ => rfl⟩ (fun r e => by cases e) (fun k hk => .inl (hT k hk))
theorem TOwn.putObj (h : TOwn B I) {l : Nat} {o : Obj} (o' : Obj) (hs : I T s W) (hB : B ≤ l) (hl : W.heap[l]? = some o) (ho : o.isCells = false) : I T s (W.putObj l o') :=
  h T s W _ (some l) T hs (grownBy_putObj' W l o') (fun r e => by cases e; exact ⟨hB, o, hl, ho⟩) (fun k hk => .inl hk)
end
/-- How the body of a round may be left. -/
def strPost (T : Nat → Prop) (good : World → Prop) (Ix : Code → World → Prop) (W : World) : Exit → Act → World → Prop
  | .normal, _, W' => (∀ k, T k → W'.heap[k]? = W.heap[k]?) ∧ good W'
  | .ret, _, W' => (∀ k, T k → W'.heap[k]? = W.heap[k]?) ∧ Ix .ret W'
  | .exit id, _, W' => (∀ k, T k → W'.heap[k]? = W.heap[k]?) ∧ Ix (.exit id) W'
  | .goto t, _, W' => (∀ k, T k → W'.heap[k]? = W.heap[k]?) ∧ Ix (.goto t) W'
  | .panic _, _, _ => False
  | .outgrown, _, _ => False

theorem OwnFrom.weak {β : Type} {B B' : Nat} {I : β → World → Prop} (h : OwnFrom B I) (hB : B ≤ B') : OwnFrom B' I := fun s W W' row hs hg hr => h s W W' row hs hg (fun r e => ⟨Nat.le_trans hB (hr r e).1, (hr r e).2⟩)
/-- In a round an operation that is no defer is carried out as everywhere (the wide fence). -/
theorem wpListIn_of {P : Program} {ops : Array Oper} {Q : Exit → Act → World → Prop} {n : Nat} (l₀ : Nat) : ∀ (L : List Oper) (a : Act) (w : World), ¬ LetsOut Q → (∀ o ∈ L, ∀ c, o.op ≠ .defer c) → wpList P ops Q L a w → wpListIn (Fence.wide.inRound l₀) n P ops Q L a w := by
  intro L
  induction L with
  | nil => intro a w _ _ h; exact h
  | cons o L ih =>
    intro a w hno hd h
    have hd' : ∀ o ∈ L, ∀ c, o.op ≠ .defer c := fun o ho => hd o (List.mem_cons_of_mem _ ho)
    unfold wpListIn
    unfold wpList at h
    split
    · rename_i hw
      rw [if_pos hw] at h
      refine ⟨fun _ _ => trivial, ?_⟩
      have hs : o.semAt (Fence.wide.inRound l₀).round a.eval = execOp a.eval o := Oper.semAt_some l₀ _ _ (hd o List.mem_cons_self)
      rw [hs]
      replace h := h.resolve_right (fun h2 => hno h2.2)
      unfold Oper.wp at h
      revert h
      cases hr : (execOp a.eval o).run P w with
      | ok x w' =>
        cases x with
        | value v => intro h; exact ih _ _ hno hd' h
        | skip => intro h; exact ih _ _ hno hd' h
        | defer d => intro h; exact ih _ _ hno hd' h
        | enter f args =>
          intro h
          refine ⟨fun h => by simp [Fence.wide, Fence.inRound] at h, CallsIn.inRound l₀ (callsIn_wide.2 (Calls.mono h ?_))⟩
          rintro (v | c | _) w'' h2
          · exact ih _ _ hno hd' h2
          · exact h2
          · exact h2
        | row r args => intro h; exact ⟨fun h => by simp [Fence.wide, Fence.inRound] at h, fun c cs _ => let ⟨v, w', r, s⟩ := h c cs; ⟨v, w', ih _ _ hno hd' r, stepsIn_wide.2 s⟩⟩
        | _ => intro h; exact h.elim
      | halt e w' =>
        cases e with
        | panic v => intro h; exact h
        | _ => intro h; exact h.elim
    · rename_i hw
      rw [if_neg hw] at h
      exact ⟨fun _ _ => trivial, ih _ _ hno hd' h⟩

/-- One operation that yields a value, under a wide fence. -/
theorem listIn_value {P : Program} {ops : Array Oper} {Q : Exit → Act → World → Prop} {n : Nat} {r : Option Nat} {o : Oper} {rest : List Oper} {a : Act} {W W1 : World} {v : Value} (hgd : o.guard = none) (hnd : ∀ c, o.op ≠ .defer c) (hrun : (execOp a.eval o).run P W = .ok (.value v) W1)
    (h : wpListIn { Fence.wide with round := r } n P ops Q rest (a.put o.dst v) W1) : wpListIn { Fence.wide with round := r } n P ops Q (o :: rest) a W := by
  refine wpListIn_plain hgd fun K hK => ⟨fun _ _ => trivial, ?_⟩
  have hs : o.semAt r a.eval = execOp a.eval o := by
    cases r with
    | none => rfl
    | some l₀ => exact Oper.semAt_some l₀ _ _ hnd
  show o.uponIn _ n P a K Q ((o.semAt r a.eval).run P W)
  rw [hs, hrun]
  exact hK _ _ h
/-- A call of yield, under a wide fence. -/
theorem listIn_yield {P : Program} {ops : Array Oper} {Q : Exit → Act → World → Prop} {r : Option Nat} {o : Oper} {rest : List Oper} {a : Act} {W : World} {R : Ending → World → Prop} {l : Nat} (x y : Operand) (ts : Array TypeId) (hgd : o.guard = none) (ho : o.op = .call { callee := .value x, args := #[y], argTypes := ts })
    (hx : a.eval x = .func (.yield l) #[] #[]) {v : Value} (hy : a.eval y = v) (hY : YieldAt Fence.wide 0 P l #[v] W R)
    (h : ∀ v W', R (.returned v) W' → wpListIn { Fence.wide with round := r } 0 P ops Q rest (a.put o.dst v) W') (hp : ∀ c W', ¬ R (.panicked c) W') (hg : ∀ W', ¬ R .outgrown W') : wpListIn { Fence.wide with round := r } 0 P ops Q (o :: rest) a W := by
  refine wpListIn_plain hgd fun K hK => ⟨fun _ _ => trivial, ?_⟩
  have hs : o.semAt r a.eval = execOp a.eval o := by
    cases r with
    | none => rfl
    | some l₀ => exact Oper.semAt_some l₀ _ _ (by rw [ho]; simp)
  obtain ⟨fn, tmps, assign, body, hrun, hR⟩ := hY
  have hrun2 : (execOp a.eval o).run P W = .ok (.round l fn tmps assign body) W := by
    unfold execOp
    simp [ho, resolve, invoke, hx, hy, Deferred.ofValue, hrun, Sem.run_bind, Result.andThen]
  show o.uponIn _ 0 P a K Q ((o.semAt r a.eval).run P W)
  rw [hs, hrun2]
  refine ⟨fun h => by simp [Fence.wide] at h, RoundIn.mono (F := { Fence.wide with round := r }) hR ?_⟩
  rintro (v | c | _) W' hr
  · exact hK _ _ (h v W' hr)
  · exact (hp _ _ hr).elim
  · exact (hg _ hr).elim

theorem OwnFrom.drew {β : Type} {B : Nat} {I : β → World → Prop} (h : OwnFrom B I) {s : β} {W : World} (hs : I s W) : I s W.drew := h s W W.drew none hs ⟨rfl, rfl, rfl, Nat.le_refl _, fun _ _ _ => rfl⟩ (fun r e => by cases e)

/-- A plain region in a round (the wide fence). -/
theorem region_round {P : Program} {id : Nat} {L : List Oper} {Q : Exit → Act → World → Prop} {a : Act} {w : World} (l₀ : Nat) (hno : ¬ LetsOut Q) (hd : ∀ o ∈ L, ∀ c, o.op ≠ .defer c) (h : wpList P L.toArray Q L a w) : (Code.region id L.toArray false).wpIn (Fence.wide.inRound l₀) 0 P Q a w :=
  wpIn_region_lit (wpListIn_of l₀ L a w hno hd h)

/-- One operation, in a round. -/
theorem operIn_of {P : Program} {Q : Exit → Act → World → Prop} {n : Nat} (l₀ : Nat) {o : Oper} {a : Act} {w : World} {K K' : Act → World → Prop} (hd : ∀ c, o.op ≠ .defer c) (hK : ∀ a w, K a w → K' a w) (h : o.wp P a w K Q) : o.wpIn (Fence.wide.inRound l₀) n P a w K' Q := by
  refine ⟨fun _ _ => trivial, ?_⟩
  have hs : o.semAt (Fence.wide.inRound l₀).round a.eval = execOp a.eval o := Oper.semAt_some l₀ _ _ hd
  rw [hs]
  unfold Oper.wp at h
  revert h
  cases hr : (execOp a.eval o).run P w with
  | ok x w' =>
    cases x with
    | value v => intro h; exact hK _ _ h
    | skip => intro h; exact hK _ _ h
    | defer d => intro h; exact hK _ _ h
    | enter f args =>
      intro h
      refine ⟨fun h => by simp [Fence.wide, Fence.inRound] at h, CallsIn.inRound l₀ (callsIn_wide.2 (Calls.mono h ?_))⟩
      rintro (v | c | _) w'' h2
      · exact hK _ _ h2
      · exact h2
      · exact h2
    | row r args => intro h; exact ⟨fun h => by simp [Fence.wide, Fence.inRound] at h, fun c cs _ => let ⟨v, w', r, s⟩ := h c cs; ⟨v, w', hK _ _ r, stepsIn_wide.2 s⟩⟩
    | _ => intro h; exact h.elim
  | halt e w' =>
    cases e with
    | panic v => intro h; exact h
    | _ => intro h; exact h.elim
theorem wpAnyIn_of {P : Program} {md : Region.Mode} {ops : Array Oper} {Q : Exit → Act → World → Prop} {n : Nat} (l₀ : Nat) (hno : ¬ LetsOut Q) (hd : ∀ o ∈ ops, ∀ c, o.op ≠ .defer c) : ∀ (fuel : Nat) (listed : Array Bool) (a : Act) (w : World), wpAny P md ops Q fuel listed a w → wpAnyIn (Fence.wide.inRound l₀) n P md ops Q fuel listed a w := by
  intro fuel
  induction fuel with
  | zero => intro listed a w h; exact h
  | succ fuel ih =>
    intro listed a w h
    refine ⟨h.1, fun i hi => ?_⟩
    have h2 := h.2 i hi
    unfold wpOp at h2
    unfold wpOpIn
    cases ho : ops[i]? with
    | none => rw [ho] at h2; exact ih _ _ _ h2
    | some o =>
      rw [ho] at h2
      simp only at h2 ⊢
      split
      · rename_i hw
        rw [if_pos hw] at h2
        exact operIn_of l₀ (hd o (Array.mem_of_getElem? ho)) (fun a w => ih _ a w) (h2.resolve_right (fun h3 => hno h3.2))
      · rename_i hw
        rw [if_neg hw] at h2
        exact ⟨fun _ _ => trivial, ih _ _ _ h2⟩
theorem startIn_ {P : Program} {ops : Array Oper} {Q : Exit → Act → World → Prop} {S : World → Prop} {ds : List Nat} {id n : Nat} {a : Act} {w : World} (l₀ : Nat) (hno : ¬ LetsOut Q) (hd : ∀ o ∈ ops, ∀ c, o.op ≠ .defer c) (l : Array Bool) (hm : P.follows .mixedOrders = true) (hn : ops.size = n) (hl : Array.replicate n false = l) (hS : S w.drew)
    (h : S w.drew → wpAnyLast P .any ops Q S ds n l a w.drew) : (Code.region id ops true).wpIn (Fence.wide.inRound l₀) 0 P Q a w := by
  subst hn
  subst hl
  exact wpIn_region_any hm (wpAnyIn_of l₀ hno hd _ _ _ _ (wpAny_of_last _ _ _ _ (h hS)))

end Go.Proofs.Ytcbejpmmlcdhnaa.PW
namespace Go.Proofs.Ytcbejpmmlcdhnaa.PW
open Go.RowKit Go.Proofs.YtcbejpmmlcdhnaaW.PrintWords Go.Proofs.YtcbejpmmlcdhnaaW.PrintLast Go.Proofs.YtcbejpmmlcdhnaaW.PrintMore
set_option linter.unusedVariables false
set_option linter.unusedSimpArgs false

/-- What a round is handed: entry y, its list of ops in blocks okx, which nobody else has. -/
def Handed (n0 : Nat) (T : Nat → Prop) (y : S33) (A : Option Addr) (c : Nat) (okx : Nat → Prop) (W : World) : Prop :=
  Kd.R k55 55 W n0 okx (.slice A y.f5.length c) y.f5 ∧ (∀ j, okx j → ¬ T j ∧ n0 ≤ j ∧ j < W.heap.size)
/-- An iterator that hands the entries of L on, each in new memory: function g, whose captured variable is block Bn. -/
def ItRing (P : Program) (g Bn : Nat) (L : List S33) (W : World) : Prop :=
  ∀ (l : Nat) (J : (Nat → Prop) → Nat → World → Prop) (Jx : World → Prop) (T0 : Nat → Prop), TOwn W.heap.size J → OwnFrom W.heap.size (fun (_ : Unit) => Jx) → (∀ j, T0 j → j < W.heap.size) →
    (∀ T k y A c okx W1, (∀ j, T0 j → T j) → (∀ j, T j → j < W1.heap.size) → L[k]? = some y → J (fun j => T j ∨ okx j) k W1 → Handed W.heap.size T y A c okx W1 →
      YieldAt Fence.wide 0 P l #[entV y (.slice A y.f5.length c)] W1 fun e W' => ((e = .returned (.bool true) ∧ J T (k + 1) W') ∨ (e = .returned (.bool false) ∧ Jx W')) ∧ ∀ j, T j → W.heap.size ≤ j → j < W1.heap.size → W'.heap[j]? = W1.heap[j]?) →
    J T0 0 W →
    Calls P g #[.func (.yield l) #[] #[], .pointer (some ⟨Bn, 0, none⟩)] W fun e W' => (∃ v, e = .returned v) ∧ (J T0 L.length W' ∨ Jx W')
variable {P : Program}
/-- The loop over such an iterator, in a frame that is no round. -/
theorem rangeRing {g : Operand} {ps : Array Tmp} {assign body : Code} {Q : Exit → Act → World → Prop} {a : Act} {w : World} {gf Bn : Nat} (va : Tmp) (L : List S33)
    (hg : a.eval g = .func (.func gf) #[] #[.pointer (some ⟨Bn, 0, none⟩)]) (eg : ∀ args w, (callFunc gf args).run P w = .ok (.enter gf args) w)
    (hps : ps.size = 1)
    (I : (Nat → Prop) → Nat → World → Prop) (Ix : Code → World → Prop) (T0 : Nat → Prop) (hI : TOwn w.heap.size I) (hIx : ∀ c, OwnFrom w.heap.size (fun (_ : Unit) => Ix c)) (h0 : I T0 0 w) (hT0 : ∀ j, T0 j → j < w.heap.size)
    (hit : ∀ T W, I T 0 W → ItRing P gf Bn L W)
    (hassign : ∀ (l : Nat) (y : S33) (A : Option Addr) (c : Nat) (W : World) (K : Act → World → Prop), K { tmps := ((ps.zip #[entV y (.slice A y.f5.length c)]).foldl (fun t (p, v) => t.setIfInBounds p v) a.tmps).setIfInBounds va (.pointer (some ⟨W.heap.size, 0, none⟩)), defers := [] } (W.alloc (.cells (cells6 y (.slice A y.f5.length c)).toArray 33)) →
      assign.wpIn (Fence.wide.inRound l) 0 P (Exit.then K (fun _ _ _ => False)) { tmps := (ps.zip #[entV y (.slice A y.f5.length c)]).foldl (fun t (p, v) => t.setIfInBounds p v) a.tmps, defers := [] } W)
    (hbody : ∀ (T : Nat → Prop) (l k : Nat) (y : S33) (A : Option Addr) (c : Nat) (okx : Nat → Prop) (B : Nat) (W : World), (∀ k, T0 k → T k) → (∀ j, T j → j < W.heap.size) → T l → w.heap.size ≤ l → (∃ r, W.heap[l]? = some (.loop r)) → L[k]? = some y → I (fun j => T j ∨ okx j) k W → Handed w.heap.size T y A c okx W →
      w.heap.size ≤ B → W.heap[B]? = some (.cells (cells6 y (.slice A y.f5.length c)).toArray 33 (0, 0)) →
      body.wpIn (Fence.wide.inRound l) 0 P (strPost (fun k => T k ∧ w.heap.size ≤ k) (fun W' => I T (k + 1) W') Ix W) { tmps := ((ps.zip #[entV y (.slice A y.f5.length c)]).foldl (fun t (p, v) => t.setIfInBounds p v) a.tmps).setIfInBounds va (.pointer (some ⟨B, 0, none⟩)), defers := [] } W)
    (hdone : ∀ (D : Nat) (W : World), w.heap.size ≤ D → I T0 L.length W → W.heap[D]? = some (.deferred (some [])) → Q .normal { a with defers := { target := .collected D, args := #[] } :: a.defers } W)
    (hstop : ∀ (D : Nat) (c : Code) (W : World), w.heap.size ≤ D → Ix c W → W.heap[D]? = some (.deferred (some [])) → c.wp P Q { a with defers := { target := .collected D, args := #[] } :: a.defers } W) :
    (Code.rangeFunc g ps assign body).wp P Q a w := by
  refine (wpIn_wide (n := 0)).1 ?_
  refine wpIn_rangeFunc ?_
  intro fn hfn
  show ∃ (l : Nat) (mark : List Deferred) (w₁ : World) (d : Deferred) (w₁' : World) (f : FuncId) (args : Array Value) (w₂ : World),
      (Instr.enterLoop fn a.tmps ps assign body none).run P w = .ok (l, mark) w₁ ∧ _
  obtain ⟨rec, hrec⟩ : ∃ rec : LoopState → Option Code → Loop, rec = fun st pe => { state := st, pending := pe, fn, tmps := a.tmps, params := ps, assign, body, defers := w.heap.size } := ⟨_, rfl⟩
  obtain ⟨W1, hW1⟩ : ∃ W1, (w.alloc (.deferred (some []))).alloc (.loop (rec .ready none)) = W1 := ⟨_, rfl⟩
  have hs1 : W1.heap.size = w.heap.size + 2 := by rw [← hW1]; simp
  have hL1 : W1.heap[w.heap.size + 1]? = some (.loop (rec .ready none)) := by
    rw [← hW1]; have := World.alloc_heap_new (w.alloc (.deferred (some []))) (.loop (rec .ready none)); rwa [World.size_alloc] at this
  have hK1 : W1.heap[w.heap.size]? = some (.deferred (some [])) := by
    rw [← hW1]; exact (Below.heap_alloc _ _ _ (by simp)).trans (World.alloc_heap_new w _)
  obtain ⟨T1, hT1⟩ : ∃ T1 : Nat → Prop, T1 = fun k => T0 k ∨ k = w.heap.size ∨ k = w.heap.size + 1 := ⟨_, rfl⟩
  have hI1 : I T1 0 W1 := by rw [← hW1, hT1]; exact hI.alloc (T := fun k => T0 k ∨ k = w.heap.size) _ (hI.alloc _ h0 (fun k hk => hk)) (fun k hk => by simp only [World.size_alloc]; rcases hk with h | h | h; exact .inl (.inl h); exact .inl (.inr h); exact .inr h)
  refine ⟨w.heap.size + 1, [{ target := .collected w.heap.size, args := #[] }], W1, { target := .fn (.func gf) #[.pointer (some ⟨Bn, 0, none⟩)], args := #[.func (.yield (w.heap.size + 1)) #[] #[]] }, W1, gf,
    #[.func (.yield (w.heap.size + 1)) #[] #[]] ++ #[.pointer (some ⟨Bn, 0, none⟩)], W1, ?_, ?_, ?_, ?_, fun h => by simp [Fence.wide] at h, ?_⟩
  · rw [← hW1, hrec]; exact run_enterLoop_outer _ _ _ _ _
  · simp only [resolve, hg]
    simp [go_sem]
  · intro f' hf'; trivial
  · simp [invoke, go_sem, eg]
  · have hR : ∀ {A B : World} {row : Option Nat} {k : Nat} {o : Obj}, A.grownBy B row → (∀ r, row = some r → W1.heap.size ≤ r ∧ ∃ o : Obj, A.heap[r]? = some o ∧ o.isCells = false) → k < w.heap.size + 2 → A.heap[k]? = some o → B.heap[k]? = some o :=
      fun hg' hr hk ho => (hg'.block _ (blk_lt ho) (fun e => by have := (hr _ e.symm).1; omega)).trans ho
    refine (callsIn_wide.2 (hit T1 W1 hI1 (w.heap.size + 1)
      (fun T s W => I T s W ∧ W.heap[w.heap.size + 1]? = some (.loop (rec .ready none)) ∧ W.heap[w.heap.size]? = some (.deferred (some [])))
      (fun W => ∃ c, Ix c W ∧ W.heap[w.heap.size + 1]? = some (.loop (rec .done (some c))) ∧ W.heap[w.heap.size]? = some (.deferred (some []))) T1
      (fun T s A B row T' hs hg' hr hT => ⟨TOwn.weak hI (by omega) T s A B row T' hs.1 hg' hr hT, hR hg' hr (by omega) hs.2.1, hR hg' hr (by omega) hs.2.2⟩)
      (fun s A B row hs hg' hr => by
        obtain ⟨c, hc, hl, hk⟩ := hs
        exact ⟨c, OwnFrom.weak (hIx c) (by omega) () A B row hc hg' hr, hR hg' hr (by omega) hl, hR hg' hr (by omega) hk⟩)
      (fun j hj => by rw [hT1] at hj; rcases hj with h | h | h <;> first | (have := hT0 j h; omega) | omega) ?_ ⟨hI1, hL1, hK1⟩)).mono ?_
    · -- ONE ROUND
      rintro T s y A c okx W hT0' hTlt hy0 ⟨hi, hl, hk⟩ hhand
      have hTl : T (w.heap.size + 1) := hT0' _ (by rw [hT1]; exact .inr (.inr rfl))
      have hTd : T w.heap.size := hT0' _ (by rw [hT1]; exact .inr (.inl rfl))
      have hTT : ∀ k, T0 k → T k := fun k hk => hT0' k (by rw [hT1]; exact .inl hk)
      have hlt : w.heap.size + 1 < W.heap.size := (Array.getElem?_eq_some_iff.1 hl).1
      have hy := run_yield (P := P) (args := #[entV y (.slice A y.f5.length c)]) hl (by rw [hrec]; simp [hps])
      rw [hrec] at hy
      refine ⟨fn, _, assign, body, hy, roundIn_of_wpIn hfn (hassign _ y A c W _ ?_)⟩
      obtain ⟨WB, hWB⟩ : ∃ WB, WB = W.alloc (.cells (cells6 y (.slice A y.f5.length c)).toArray 33) := ⟨_, rfl⟩
      rw [← hWB]
      have hBb : Below W.heap.size W WB := by rw [hWB]; exact below_alloc (Below.refl _ _) _
      have hlB : WB.heap[w.heap.size + 1]? = some (.loop (rec .ready none)) := (hBb.block _ hlt).trans hl
      have hkB : WB.heap[w.heap.size]? = some (.deferred (some [])) := (hBb.block _ (by omega)).trans hk
      have hnB : WB.heap[W.heap.size]? = some (.cells (cells6 y (.slice A y.f5.length c)).toArray 33 (0, 0)) := by rw [hWB]; exact heap_alloc_new _ _
      have hiB : I (fun j => T j ∨ okx j) s WB := by rw [hWB]; exact hI.alloc _ hi (fun k hk => .inl hk)
      have hltB : w.heap.size + 1 < WB.heap.size := blk_lt hlB
      refine ⟨_, run_beginRound hlB (by rw [hrec]), ?_⟩
      have hl2 : (WB.putObj (w.heap.size + 1) (.loop { rec .ready none with state := .busy })).heap[w.heap.size + 1]? = some (.loop { rec .ready none with state := .busy }) := World.putObj_heap_same hltB
      have hk2 : (WB.putObj (w.heap.size + 1) (.loop { rec .ready none with state := .busy })).heap[w.heap.size]? = some (.deferred (some [])) := (World.putObj_heap_other (by omega)).trans hkB
      have hn2 : (WB.putObj (w.heap.size + 1) (.loop { rec .ready none with state := .busy })).heap[W.heap.size]? = some (.cells (cells6 y (.slice A y.f5.length c)).toArray 33 (0, 0)) := (World.putObj_heap_other (by omega)).trans hnB
      have hsz2 : (WB.putObj (w.heap.size + 1) (.loop { rec .ready none with state := .busy })).heap.size = WB.heap.size := by simp [World.putObj]
      have hhand2 : Handed w.heap.size T y A c okx (WB.putObj (w.heap.size + 1) (.loop { rec .ready none with state := .busy })) := by
        obtain ⟨h1, h2⟩ := hhand
        refine ⟨Kd.R_lower (Kd.R_step h1 (fun k hk hlt2 => ?_)) (by omega), fun j hj => ⟨(h2 j hj).1, by have := (h2 j hj).2.1; omega, by rw [hsz2]; exact Nat.lt_of_lt_of_le (h2 j hj).2.2 hBb.size⟩⟩
        exact (World.putObj_heap_other (fun e => (h2 k hk).1 (by rw [e]; exact hTl))).trans (hBb.block k hlt2)
      refine wpIn_mono (hbody T _ s y A c okx W.heap.size _ hTT (fun j hj => by rw [hsz2]; exact Nat.lt_of_lt_of_le (hTlt j hj) hBb.size) hTl (by omega) ⟨_, hl2⟩ hy0 (hI.putObj _ hiB (by omega) hlB rfl) hhand2 (by omega) hn2) ?_
      have fin : ∀ (jump : Option Code) (W3 : World), (∀ k, T k ∧ w.heap.size ≤ k → W3.heap[k]? = (WB.putObj (w.heap.size + 1) (.loop { rec .ready none with state := .busy })).heap[k]?) →
          (Instr.endRound (w.heap.size + 1) jump).run P W3 = .ok (.bool jump.isNone) (W3.putObj (w.heap.size + 1) (.loop (rec (if jump.isNone then .ready else .done) jump))) ∧
          W3.heap[w.heap.size + 1]? = some (.loop { rec .ready none with state := .busy }) ∧
          (W3.putObj (w.heap.size + 1) (.loop (rec (if jump.isNone then .ready else .done) jump))).heap[w.heap.size + 1]? = some (.loop (rec (if jump.isNone then .ready else .done) jump)) ∧
          (W3.putObj (w.heap.size + 1) (.loop (rec (if jump.isNone then .ready else .done) jump))).heap[w.heap.size]? = some (.deferred (some [])) ∧
          (∀ k, T k → W1.heap.size ≤ k → k < W.heap.size → (W3.putObj (w.heap.size + 1) (.loop (rec (if jump.isNone then .ready else .done) jump))).heap[k]? = W.heap[k]?) := fun jump W3 hk3 => by
        have hl3 := (hk3 _ ⟨hTl, by omega⟩).trans hl2
        have := run_endRound (P := P) jump hl3
        rw [hrec] at this ⊢
        exact ⟨this, by rw [hrec] at hl3; exact hl3, World.putObj_heap_same (Array.getElem?_eq_some_iff.1 hl3).1, (World.putObj_heap_other (by omega)).trans ((hk3 _ ⟨hTd, Nat.le_refl _⟩).trans hk2), fun k hTk hsz hkW => (World.putObj_heap_other (by omega)).trans ((hk3 k ⟨hTk, by omega⟩).trans ((World.putObj_heap_other (by omega)).trans (hBb.block k hkW)))⟩
      rintro e a3 W3 hp
      cases e with
      | normal =>
        obtain ⟨hk3, hi3⟩ := hp
        obtain ⟨hr, hl3, hl4, hk4, hT4⟩ := fin none W3 hk3
        exact ⟨_, _, hr, .inl ⟨rfl, hI.putObj _ hi3 (by omega) hl3 rfl, hl4, hk4⟩, hT4⟩
      | ret =>
        obtain ⟨hk3, hi3⟩ := hp
        obtain ⟨hr, hl3, hl4, hk4, hT4⟩ := fin (some .ret) W3 hk3
        exact ⟨_, _, hr, .inr ⟨rfl, .ret, (hIx _).putObj (s := ()) _ hi3 (by omega) hl3 rfl, hl4, hk4⟩, hT4⟩
      | exit id =>
        obtain ⟨hk3, hi3⟩ := hp
        obtain ⟨hr, hl3, hl4, hk4, hT4⟩ := fin (some (.exit id)) W3 hk3
        exact ⟨_, _, hr, .inr ⟨rfl, .exit id, (hIx _).putObj (s := ()) _ hi3 (by omega) hl3 rfl, hl4, hk4⟩, hT4⟩
      | goto t =>
        obtain ⟨hk3, hi3⟩ := hp
        obtain ⟨hr, hl3, hl4, hk4, hT4⟩ := fin (some (.goto t)) W3 hk3
        exact ⟨_, _, hr, .inr ⟨rfl, .goto t, (hIx _).putObj (s := ()) _ hi3 (by omega) hl3 rfl, hl4, hk4⟩, hT4⟩
      | panic ch => exact hp.elim
      | outgrown => exact hp.elim
    · -- BEHIND THE ITERATOR
      rintro e W2 ⟨⟨v, rfl⟩, (⟨hi, hl, hk⟩ | ⟨c, hi, hl, hk⟩)⟩
      · exact ⟨none, _, by have := run_endLoop (P := P) hl (by rw [hrec]; simp); rw [hrec] at this; exact this, hdone _ _ (Nat.le_refl _) (hI.less (hI.putObj _ hi (by omega) hl rfl) (fun k hk => by rw [hT1]; exact .inl hk)) ((World.putObj_heap_other (by omega)).trans hk)⟩
      · exact ⟨some c, _, by have := run_endLoop (P := P) hl (by rw [hrec]; simp); rw [hrec] at this; exact this, (wpIn_wide (n := 0)).2 (hstop _ c _ (Nat.le_refl _) ((hIx c).putObj (s := ()) _ hi (by omega) hl rfl) ((World.putObj_heap_other (by omega)).trans hk))⟩
/-- The loop over such an iterator, within a round of loop l₀. -/
theorem rangeRingIn {g : Operand} {ps : Array Tmp} {assign body : Code} {Q : Exit → Act → World → Prop} {a : Act} {w : World} {gf Bn l₀ : Nat} (hl₀ : ∃ r, w.heap[l₀]? = some (.loop r)) (va : Tmp) (L : List S33)
    (hg : a.eval g = .func (.func gf) #[] #[.pointer (some ⟨Bn, 0, none⟩)]) (eg : ∀ args w, (callFunc gf args).run P w = .ok (.enter gf args) w)
    (hps : ps.size = 1)
    (I : (Nat → Prop) → Nat → World → Prop) (Ix : Code → World → Prop) (T0 : Nat → Prop) (hI : TOwn w.heap.size I) (hIx : ∀ c, OwnFrom w.heap.size (fun (_ : Unit) => Ix c)) (h0 : I T0 0 w) (hT0 : ∀ j, T0 j → j < w.heap.size)
    (hit : ∀ T W, I T 0 W → ItRing P gf Bn L W)
    (hassign : ∀ (l : Nat) (y : S33) (A : Option Addr) (c : Nat) (W : World) (K : Act → World → Prop), K { tmps := ((ps.zip #[entV y (.slice A y.f5.length c)]).foldl (fun t (p, v) => t.setIfInBounds p v) a.tmps).setIfInBounds va (.pointer (some ⟨W.heap.size, 0, none⟩)), defers := [] } (W.alloc (.cells (cells6 y (.slice A y.f5.length c)).toArray 33)) →
      assign.wpIn (Fence.wide.inRound l) 0 P (Exit.then K (fun _ _ _ => False)) { tmps := (ps.zip #[entV y (.slice A y.f5.length c)]).foldl (fun t (p, v) => t.setIfInBounds p v) a.tmps, defers := [] } W)
    (hbody : ∀ (T : Nat → Prop) (l k : Nat) (y : S33) (A : Option Addr) (c : Nat) (okx : Nat → Prop) (B : Nat) (W : World), (∀ k, T0 k → T k) → (∀ j, T j → j < W.heap.size) → T l → w.heap.size ≤ l → (∃ r, W.heap[l]? = some (.loop r)) → L[k]? = some y → I (fun j => T j ∨ okx j) k W → Handed w.heap.size T y A c okx W →
      w.heap.size ≤ B → W.heap[B]? = some (.cells (cells6 y (.slice A y.f5.length c)).toArray 33 (0, 0)) →
      body.wpIn (Fence.wide.inRound l) 0 P (strPost (fun k => T k ∧ w.heap.size ≤ k) (fun W' => I T (k + 1) W') Ix W) { tmps := ((ps.zip #[entV y (.slice A y.f5.length c)]).foldl (fun t (p, v) => t.setIfInBounds p v) a.tmps).setIfInBounds va (.pointer (some ⟨B, 0, none⟩)), defers := [] } W)
    (hdone : ∀ (W : World), I T0 L.length W → Q .normal a W)
    (hstop : ∀ (c : Code) (W : World), Ix c W → c.wpIn (Fence.wide.inRound l₀) 0 P Q a W) :
    (Code.rangeFunc g ps assign body).wpIn (Fence.wide.inRound l₀) 0 P Q a w := by
  obtain ⟨r₀, hl₀⟩ := hl₀
  refine wpIn_rangeFunc ?_
  intro fn hfn
  show ∃ (l : Nat) (mark : List Deferred) (w₁ : World) (d : Deferred) (w₁' : World) (f : FuncId) (args : Array Value) (w₂ : World),
      (Instr.enterLoop fn a.tmps ps assign body (some l₀)).run P w = .ok (l, mark) w₁ ∧ _
  obtain ⟨rec, hrec⟩ : ∃ rec : LoopState → Option Code → Loop, rec = fun st pe => { state := st, pending := pe, fn, tmps := a.tmps, params := ps, assign, body, defers := r₀.defers } := ⟨_, rfl⟩
  obtain ⟨W1, hW1⟩ : ∃ W1, w.alloc (.loop (rec .ready none)) = W1 := ⟨_, rfl⟩
  have hs1 : W1.heap.size = w.heap.size + 1 := by rw [← hW1]; simp
  have hL1 : W1.heap[w.heap.size]? = some (.loop (rec .ready none)) := by rw [← hW1]; exact World.alloc_heap_new w _
  obtain ⟨T1, hT1⟩ : ∃ T1 : Nat → Prop, T1 = fun k => T0 k ∨ k = w.heap.size := ⟨_, rfl⟩
  have hI1 : I T1 0 W1 := by rw [← hW1, hT1]; exact hI.alloc _ h0 (fun k hk => hk)
  refine ⟨w.heap.size, [], W1, { target := .fn (.func gf) #[.pointer (some ⟨Bn, 0, none⟩)], args := #[.func (.yield (w.heap.size)) #[] #[]] }, W1, gf,
    #[.func (.yield (w.heap.size)) #[] #[]] ++ #[.pointer (some ⟨Bn, 0, none⟩)], W1, ?_, ?_, ?_, ?_, fun h => by simp [Fence.wide, Fence.inRound] at h, ?_⟩
  · rw [← hW1, hrec]; exact run_enterLoop_inner hl₀ _ _ _ _ _
  · simp only [resolve, hg]
    simp [go_sem]
  · intro f' hf'; trivial
  · simp [invoke, go_sem, eg]
  · have hR : ∀ {A B : World} {row : Option Nat} {k : Nat} {o : Obj}, A.grownBy B row → (∀ r, row = some r → W1.heap.size ≤ r ∧ ∃ o : Obj, A.heap[r]? = some o ∧ o.isCells = false) → k < W1.heap.size → A.heap[k]? = some o → B.heap[k]? = some o :=
      fun hg' hr hk ho => (hg'.block _ (blk_lt ho) (fun e => by have := (hr _ e.symm).1; omega)).trans ho
    refine CallsIn.inRound l₀ ((callsIn_wide.2 (hit T1 W1 hI1 (w.heap.size)
      (fun T s W => I T s W ∧ W.heap[w.heap.size]? = some (.loop (rec .ready none)))
      (fun W => ∃ c, Ix c W ∧ W.heap[w.heap.size]? = some (.loop (rec .done (some c)))) T1
      (fun T s A B row T' hs hg' hr hT => ⟨TOwn.weak hI (by omega) T s A B row T' hs.1 hg' hr hT, hR hg' hr (by omega) hs.2⟩)
      (fun s A B row hs hg' hr => by
        obtain ⟨c, hc, hl⟩ := hs
        exact ⟨c, OwnFrom.weak (hIx c) (by omega) () A B row hc hg' hr, hR hg' hr (by omega) hl⟩)
      (fun j hj => by rw [hT1] at hj; rcases hj with h | h <;> first | (have := hT0 j h; omega) | omega) ?_ ⟨hI1, hL1⟩)).mono ?_)
    · -- ONE ROUND
      rintro T s y A c okx W hT0' hTlt hy0 ⟨hi, hl⟩ hhand
      have hTl : T (w.heap.size) := hT0' _ (by rw [hT1]; exact .inr rfl)
      have hTT : ∀ k, T0 k → T k := fun k hk => hT0' k (by rw [hT1]; exact .inl hk)
      have hlt : w.heap.size < W.heap.size := (Array.getElem?_eq_some_iff.1 hl).1
      have hy := run_yield (P := P) (args := #[entV y (.slice A y.f5.length c)]) hl (by rw [hrec]; simp [hps])
      rw [hrec] at hy
      refine ⟨fn, _, assign, body, hy, roundIn_of_wpIn hfn (hassign _ y A c W _ ?_)⟩
      obtain ⟨WB, hWB⟩ : ∃ WB, WB = W.alloc (.cells (cells6 y (.slice A y.f5.length c)).toArray 33) := ⟨_, rfl⟩
      rw [← hWB]
      have hBb : Below W.heap.size W WB := by rw [hWB]; exact below_alloc (Below.refl _ _) _
      have hlB : WB.heap[w.heap.size]? = some (.loop (rec .ready none)) := (hBb.block _ hlt).trans hl
      have hnB : WB.heap[W.heap.size]? = some (.cells (cells6 y (.slice A y.f5.length c)).toArray 33 (0, 0)) := by rw [hWB]; exact heap_alloc_new _ _
      have hiB : I (fun j => T j ∨ okx j) s WB := by rw [hWB]; exact hI.alloc _ hi (fun k hk => .inl hk)
      have hltB : w.heap.size < WB.heap.size := blk_lt hlB
      refine ⟨_, run_beginRound hlB (by rw [hrec]), ?_⟩
      have hl2 : (WB.putObj (w.heap.size) (.loop { rec .ready none with state := .busy })).heap[w.heap.size]? = some (.loop { rec .ready none with state := .busy }) := World.putObj_heap_same hltB
      have hn2 : (WB.putObj (w.heap.size) (.loop { rec .ready none with state := .busy })).heap[W.heap.size]? = some (.cells (cells6 y (.slice A y.f5.length c)).toArray 33 (0, 0)) := (World.putObj_heap_other (by omega)).trans hnB
      have hsz2 : (WB.putObj (w.heap.size) (.loop { rec .ready none with state := .busy })).heap.size = WB.heap.size := by simp [World.putObj]
      have hhand2 : Handed w.heap.size T y A c okx (WB.putObj (w.heap.size) (.loop { rec .ready none with state := .busy })) := by
        obtain ⟨h1, h2⟩ := hhand
        refine ⟨Kd.R_lower (Kd.R_step h1 (fun k hk hlt2 => ?_)) (by omega), fun j hj => ⟨(h2 j hj).1, by have := (h2 j hj).2.1; omega, by rw [hsz2]; exact Nat.lt_of_lt_of_le (h2 j hj).2.2 hBb.size⟩⟩
        exact (World.putObj_heap_other (fun e => (h2 k hk).1 (by rw [e]; exact hTl))).trans (hBb.block k hlt2)
      refine wpIn_mono (hbody T _ s y A c okx W.heap.size _ hTT (fun j hj => by rw [hsz2]; exact Nat.lt_of_lt_of_le (hTlt j hj) hBb.size) hTl (by omega) ⟨_, hl2⟩ hy0 (hI.putObj _ hiB (by omega) hlB rfl) hhand2 (by omega) hn2) ?_
      have fin : ∀ (jump : Option Code) (W3 : World), (∀ k, T k ∧ w.heap.size ≤ k → W3.heap[k]? = (WB.putObj (w.heap.size) (.loop { rec .ready none with state := .busy })).heap[k]?) →
          (Instr.endRound (w.heap.size) jump).run P W3 = .ok (.bool jump.isNone) (W3.putObj (w.heap.size) (.loop (rec (if jump.isNone then .ready else .done) jump))) ∧
          W3.heap[w.heap.size]? = some (.loop { rec .ready none with state := .busy }) ∧
          (W3.putObj (w.heap.size) (.loop (rec (if jump.isNone then .ready else .done) jump))).heap[w.heap.size]? = some (.loop (rec (if jump.isNone then .ready else .done) jump)) ∧
          (∀ k, T k → W1.heap.size ≤ k → k < W.heap.size → (W3.putObj (w.heap.size) (.loop (rec (if jump.isNone then .ready else .done) jump))).heap[k]? = W.heap[k]?) := fun jump W3 hk3 => by
        have hl3 := (hk3 _ ⟨hTl, by omega⟩).trans hl2
        have := run_endRound (P := P) jump hl3
        rw [hrec] at this ⊢
        exact ⟨this, by rw [hrec] at hl3; exact hl3, World.putObj_heap_same (Array.getElem?_eq_some_iff.1 hl3).1, fun k hTk hsz hkW => (World.putObj_heap_other (by omega)).trans ((hk3 k ⟨hTk, by omega⟩).trans ((World.putObj_heap_other (by omega)).trans (hBb.block k hkW)))⟩
      rintro e a3 W3 hp
      cases e with
      | normal =>
        obtain ⟨hk3, hi3⟩ := hp
        obtain ⟨hr, hl3, hl4, hT4⟩ := fin none W3 hk3
        exact ⟨_, _, hr, .inl ⟨rfl, hI.putObj _ hi3 (by omega) hl3 rfl, hl4⟩, hT4⟩
      | ret =>
        obtain ⟨hk3, hi3⟩ := hp
        obtain ⟨hr, hl3, hl4, hT4⟩ := fin (some .ret) W3 hk3
        exact ⟨_, _, hr, .inr ⟨rfl, .ret, (hIx _).putObj (s := ()) _ hi3 (by omega) hl3 rfl, hl4⟩, hT4⟩
      | exit id =>
        obtain ⟨hk3, hi3⟩ := hp
        obtain ⟨hr, hl3, hl4, hT4⟩ := fin (some (.exit id)) W3 hk3
        exact ⟨_, _, hr, .inr ⟨rfl, .exit id, (hIx _).putObj (s := ()) _ hi3 (by omega) hl3 rfl, hl4⟩, hT4⟩
      | goto t =>
        obtain ⟨hk3, hi3⟩ := hp
        obtain ⟨hr, hl3, hl4, hT4⟩ := fin (some (.goto t)) W3 hk3
        exact ⟨_, _, hr, .inr ⟨rfl, .goto t, (hIx _).putObj (s := ()) _ hi3 (by omega) hl3 rfl, hl4⟩, hT4⟩
      | panic ch => exact hp.elim
      | outgrown => exact hp.elim
    · -- BEHIND THE ITERATOR
      rintro e W2 ⟨⟨v, rfl⟩, (⟨hi, hl⟩ | ⟨c, hi, hl⟩)⟩
      · exact ⟨none, _, by have := run_endLoop (P := P) hl (by rw [hrec]; simp); rw [hrec] at this; exact this, hdone _ (hI.less (hI.putObj _ hi (by omega) hl rfl) (fun k hk => by rw [hT1]; exact .inl hk))⟩
      · exact ⟨some c, _, by have := run_endLoop (P := P) hl (by rw [hrec]; simp); rw [hrec] at this; exact this, hstop c _ ((hIx c).putObj (s := ()) _ hi (by omega) hl rfl)⟩
theorem rangeRingIn_exit {g : Operand} {ps : Array Tmp} {assign body : Code} {Q : Exit → Act → World → Prop} {a : Act} {w : World} {gf Bn l₀ : Nat} (hl₀ : ∃ r, w.heap[l₀]? = some (.loop r)) (va : Tmp) (L : List S33)
    (hg : a.eval g = .func (.func gf) #[] #[.pointer (some ⟨Bn, 0, none⟩)]) (eg : ∀ args w, (callFunc gf args).run P w = .ok (.enter gf args) w)
    (hps : ps.size = 1)
    (I : (Nat → Prop) → Nat → World → Prop) (id : Nat) (R : World → Prop) (T0 : Nat → Prop) (hI : TOwn w.heap.size I) (hIx : OwnFrom w.heap.size (fun (_ : Unit) => R)) (h0 : I T0 0 w) (hT0 : ∀ j, T0 j → j < w.heap.size)
    (hit : ∀ T W, I T 0 W → ItRing P gf Bn L W)
    (hassign : ∀ (l : Nat) (y : S33) (A : Option Addr) (c : Nat) (W : World) (K : Act → World → Prop), K { tmps := ((ps.zip #[entV y (.slice A y.f5.length c)]).foldl (fun t (p, v) => t.setIfInBounds p v) a.tmps).setIfInBounds va (.pointer (some ⟨W.heap.size, 0, none⟩)), defers := [] } (W.alloc (.cells (cells6 y (.slice A y.f5.length c)).toArray 33)) →
      assign.wpIn (Fence.wide.inRound l) 0 P (Exit.then K (fun _ _ _ => False)) { tmps := (ps.zip #[entV y (.slice A y.f5.length c)]).foldl (fun t (p, v) => t.setIfInBounds p v) a.tmps, defers := [] } W)
    (hbody : ∀ (T : Nat → Prop) (l k : Nat) (y : S33) (A : Option Addr) (c : Nat) (okx : Nat → Prop) (B : Nat) (W : World), (∀ k, T0 k → T k) → (∀ j, T j → j < W.heap.size) → T l → w.heap.size ≤ l → (∃ r, W.heap[l]? = some (.loop r)) → L[k]? = some y → I (fun j => T j ∨ okx j) k W → Handed w.heap.size T y A c okx W →
      w.heap.size ≤ B → W.heap[B]? = some (.cells (cells6 y (.slice A y.f5.length c)).toArray 33 (0, 0)) →
      body.wpIn (Fence.wide.inRound l) 0 P (strPost (fun k => T k ∧ w.heap.size ≤ k) (fun W' => I T (k + 1) W') (fun c W => c = .exit id ∧ R W) W) { tmps := ((ps.zip #[entV y (.slice A y.f5.length c)]).foldl (fun t (p, v) => t.setIfInBounds p v) a.tmps).setIfInBounds va (.pointer (some ⟨B, 0, none⟩)), defers := [] } W)
    (hend : ∀ (W : World), I T0 L.length W → R W) (hexit : ∀ (W : World), Q .normal a W → (Code.exit id).wpIn (Fence.wide.inRound l₀) 0 P Q a W) (hrest : ∀ (W : World), R W → Q .normal a W) :
    (Code.rangeFunc g ps assign body).wpIn (Fence.wide.inRound l₀) 0 P Q a w :=
  rangeRingIn hl₀ va L hg eg hps I (fun c W => c = .exit id ∧ R W) T0 hI (fun c s A B row hs hg hr => ⟨hs.1, hIx s A B row hs.2 hg hr⟩) h0 hT0 hit hassign hbody (fun W h => hrest W (hend W h)) (fun c W h => by obtain ⟨rfl, h⟩ := h; exact hexit W (hrest W h))
end Go.Proofs.Ytcbejpmmlcdhnaa.PW
