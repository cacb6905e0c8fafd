/- Small words for proofs by hand: stops of the walk at single operations, and bytes that the call owns. -/
import Derived.Test.YtdbniihjkiecbaaProg
import Derived.Below
import Derived.Deep.Draws
import Derived.Deep.AppendLies
import Derived.Maps.AppendAt
import Derived.OwnWalk
import Derived.Laws.BytesArg
import Derived.Laws.MakeOwn
import Derived.Laws.OwnMore
import Derived.Deep.OwnRows
import Derived.Tactics
import Derived.Lib.ConvBytes
import Derived.Laws.Slices
import Derived.WalkKit
import Derived.KernelRfl
import Derived.RowKit3
import Derived.Deep.LoopGhost
import Derived.Deep.QuietTactic
import Derived.BigQuiet
import Derived.WideLaws
import Derived.Deep.DeepCutAuto
import Derived.Deep.CutBlock
import Derived.Deep.RegionHeld3
import Derived.Laws.Rows
import Derived.Lib.AppendStr
import Derived.ArgAppend
import Derived.Laws.IdiomCopy
import Derived.OrdersHeld
import Derived.Laws.BitsLemmas
import Derived.RowKit
import Derived.Test.YtdbniihjkiecbaaWWords
import Derived.Test.YtdbniihjkiecbaaWLast
import Derived.Test.YtdbniihjkiecbaaWTab
import Derived.Test.YtdbniihjkiecbaaWApart
import Derived.Test.YtdbniihjkiecbaaWFoot
import Derived.Test.YtdbniihjkiecbaaWKept
import Derived.Test.YtdbniihjkiecbaaWShare
import Derived.Test.YtdbniihjkiecbaaWN
import Derived.Test.YtdbniihjkiecbaaWEqStruct
import Derived.Test.YtdbniihjkiecbaaWRepsOne
import Derived.Test.YtdbniihjkiecbaaWGuard
import Derived.Test.YtdbniihjkiecbaaWMore
import Derived.Laws.CopyOwn
import Derived.Lib.SlBytesConst
namespace Go.Proofs.Ytdbniihjkiecbaa.PW
open Go.RowKit Go.Proofs.YtdbniihjkiecbaaW.PrintWords Go.Proofs.YtdbniihjkiecbaaW.PrintLast Go.Proofs.YtdbniihjkiecbaaW.PrintMore
set_option linter.unusedVariables false

theorem drop_rd (l : List Int) (k : Nat) (h : k < l.length) : l.drop k = rd l k :: l.drop (k + 1) := by
  rw [List.drop_eq_getElem_cons h]; simp [rd, h]
/-- The walk stands still at what is wrapped so. -/
def Stop (p : Prop) : Prop := p
theorem Stop.go {p : Prop} (h : p) : Stop p := h

theorem info5' : (Try.prog.info? 5).map (fun i => (i.zero, i.size, i.bytes)) = some (some (.int .u8 0), 1, 1) := by kernel_rfl

section
variable {P : Program} {ops : Array Oper} {o : Oper} {a : Act} {Q : Exit → Act → World → Prop} {rest : List Oper} {W : World}
theorem stop_append {xs : Array Operand} {ts : Array TypeId} (_ho : o.op = .call { callee := .builtin .append, args := xs, argTypes := ts }) (h : Stop (wpList P ops Q (o :: rest) a W)) : wpList P ops Q (o :: rest) a W := h
theorem stop_copy {xs : Array Operand} {ts : Array TypeId} (_ho : o.op = .call { callee := .builtin .copy, args := xs, argTypes := ts }) (h : Stop (wpList P ops Q (o :: rest) a W)) : wpList P ops Q (o :: rest) a W := h
theorem stop_make {t : TypeId} {x y : Operand} (_ho : o.op = .makeSlice t x y) (h : Stop (wpList P ops Q (o :: rest) a W)) : wpList P ops Q (o :: rest) a W := h
theorem stop_slice {t : TypeId} {x : Operand} {l h' m : Option Operand} (_ho : o.op = .slice t x l h' m) (h : Stop (wpList P ops Q (o :: rest) a W)) : wpList P ops Q (o :: rest) a W := h
theorem stop_store {t : TypeId} {p v : Operand} (_ho : o.op = .store t p v) (h : Stop (wpList P ops Q (o :: rest) a W)) : wpList P ops Q (o :: rest) a W := h
end

/-- Bytes that are read: n of them at A. -/
abbrev C8 (w : World) (A : Option Addr) (n : Nat) (l : List Int) : Prop := Kd.C (Kd.int .u8) w A n l
/-- Bytes of the call's own, in a block from base on. -/
abbrev R8 (w : World) (base : Nat) (v : Value) (l : List Int) : Prop := Kd.R (Kd.int .u8) 5 w base (fun _ => True) v l

section
variable {ops : Array Oper} {o : Oper} {a : Act} {Q : Exit → Act → World → Prop} {rest : List Oper} {W : World}
/-- append(s, x...) of bytes. -/
theorem app8 (w0 : World) (base : Nat) (hgd : o.guard = none) (s x : Operand) (ho : o.op = .call { callee := .builtin .append, args := #[s, x], argTypes := #[29, 29] })
    {v : Value} {A : Option Addr} {m c : Nat} {xs ys : List Int} (hs : a.eval s = v) (hx : a.eval x = .slice A m c) (HO : R8 W base v xs) (HR : C8 W A m ys)
    (HB : Below base w0 W) (hbase : base ≤ W.heap.size) (hl : xs.length + m ≤ 140737488355328)
    (h : ∀ v1 w1, R8 w1 base v1 (xs ++ ys) → Below base w0 w1 → W.grownBy w1 v.ownBlock → (v1.ownBlock = v.ownBlock ∨ ∃ b, v1.ownBlock = some b ∧ W.heap.size ≤ b) → wpList Try.prog ops Q rest (a.put o.dst v1) w1) :
    Stop (wpList Try.prog ops Q (o :: rest) a W) :=
  Kd.R_append_rows (Kd.int .u8) (w0 := w0) base hgd s x 29 5 (.int .u8 0) 1 ho Try.underlying29 info5' rfl (by decide) (by omega) v xs ys A m c (fun _ => True) (fun _ => False) hs hx HO HR
    (fun _ _ h => h) (fun _ h => h.elim) (fun _ _ => trivial) HB hbase (by omega) h
/-- make([]byte, n) -/
theorem mkn8 (w0 : World) (base : Nat) (hgd : o.guard = none) {N : Tmp} (hd : o.dst = some N) (l c : Operand) (ho : o.op = .makeSlice 29 l c) {C : Int} (hl : a.eval l = .int .i64 C) (hc : a.eval c = .int .i64 C) (h0 : 0 ≤ C) (hC : C ≤ 281474976710656)
    (HB : Below base w0 W) (hbase : base ≤ W.heap.size)
    (h : ∀ v1 w1, R8 w1 base v1 (List.replicate C.toNat 0) → Below base w0 w1 → W.grownBy w1 none → (∃ b, v1.ownBlock = some b ∧ W.heap.size ≤ b) → wpList Try.prog ops Q rest (a.put o.dst v1) w1) :
    Stop (wpList Try.prog ops Q (o :: rest) a W) :=
  Kd.R_make (Kd.int .u8) base 5 hgd hd 29 l c ho C hl hc Try.underlying29 (.int .u8 0) 1 info5' rfl (by decide) (by omega) (0 : Int) (ok := fun _ => True) (okp := fun _ => True) rfl (fun _ h => h) trivial h0 (by omega) HB hbase h
end

theorem R8_own {w : World} {base : Nat} {v : Value} {l : List Int} (h : R8 w base v l) : w.ownsRow base 5 1 v l.length (encs (Value.int .u8) l) := Kd.own_of_R h
theorem own_R8 {w : World} {base : Nat} {v : Value} {l : List Int} (h : w.ownsRow base 5 1 v l.length (encs (Value.int .u8) l)) : R8 w base v l := Kd.R_of_own h (fun _ _ => trivial)
theorem info5_size : (Try.prog.info? 5).map (·.size) = some 1 := by kernel_rfl
section
variable {ops : Array Oper} {o : Oper} {a : Act} {Q : Exit → Act → World → Prop} {rest : List Oper} {W : World}
end

section
variable {ops : Array Oper} {o : Oper} {a : Act} {Q : Exit → Act → World → Prop} {rest : List Oper} {W : World}
theorem run_stop {v : Value} {w1 : World} (hgd : o.guard = none) (hrun : (execOp a.eval o).run Try.prog W = .ok (.value v) w1) (h : wpList Try.prog ops Q rest (a.put o.dst v) w1) : Stop (wpList Try.prog ops Q (o :: rest) a W) := by
  refine wpList_plain hgd fun K hK => ?_
  unfold Oper.wp
  rw [hrun]
  exact hK _ _ h
theorem hu29 : Try.prog.underlying 29 = some (.slice (Try.prog.elem 29)) := by
  have hel : Try.prog.elem 29 = 5 := by simp [Program.elem, Try.underlying29]
  rw [hel]; exact Try.underlying29
/-- xs[j:] of bytes that are read. -/
theorem from8 (hgd : o.guard = none) (x lo : Operand) (ho : o.op = .slice 29 x (some lo) none none) {A : Option Addr} {n c : Nat} {xs : List Int} {j : Int} {kl : IntKind} (hx : a.eval x = .slice A n c) (hlo : a.eval lo = .int kl j) (h0 : 0 ≤ j) (h1 : j ≤ n) (hc : n ≤ c)
    (HR : C8 W A n xs) (h : ∀ A', C8 W A' (n - j.toNat) (xs.drop j.toNat) → wpList Try.prog ops Q rest (a.put o.dst (.slice A' (n - j.toNat) (c - j.toNat))) W) : Stop (wpList Try.prog ops Q (o :: rest) a W) := by
  obtain ⟨i0, hi, hzz⟩ := Option.map_eq_some_iff.1 info5'
  simp only [Prod.mk.injEq] at hzz
  have hrun := cut_from (P := Try.prog) 29 5 kl Try.underlying29 hi 1 hzz.2.1 A n c j h0 h1 W
  obtain rfl : xs.length = n := HR.1
  have hd := Kd.C_drop (m := j.toNat) HR (by omega) hc
  rw [List.length_drop] at hd
  refine run_stop hgd ?_ (h _ hd)
  have e := run_sliceAt_slice (P := Try.prog) (w := W) 29 (.slice A xs.length c) (some (.int kl j)) none none hu29
  simp [execOp, ho, hx, hlo, e, hrun, Result.andThen, show (Kd.int .u8).sz = 1 from rfl]
/-- xs[:j] of bytes, up to the capacity. -/
theorem to8 (hgd : o.guard = none) (x hi : Operand) (ho : o.op = .slice 29 x none (some hi) none) {A : Option Addr} {n c : Nat} {j : Int} {kh : IntKind} (hx : a.eval x = .slice A n c) (hhi : a.eval hi = .int kh j) (h0 : 0 ≤ j) (h1 : j ≤ c)
    (h : wpList Try.prog ops Q rest (a.put o.dst (.slice A j.toNat c)) W) : Stop (wpList Try.prog ops Q (o :: rest) a W) := by
  obtain ⟨i0, hi, hzz⟩ := Option.map_eq_some_iff.1 info5'
  simp only [Prod.mk.injEq] at hzz
  have hel : Try.prog.elem 29 = 5 := by simp [Program.elem, Try.underlying29]
  have ha : (A.map fun x => x.add 0) = A := by cases A <;> simp [Addr.add]
  have hrun := run_slice_h W 29 A n c hu29 kh j h0 h1
  rw [hel] at hrun
  refine run_stop hgd ?_ h
  have e := run_sliceAt_slice (P := Try.prog) (w := W) 29 (.slice A n c) none (some (.int kh j)) none hu29
  simp [execOp, ho, hx, hhi, e, hrun, sizeOf, typeInfo, hi, hzz.2.1, sliced, ha, Result.andThen]
end
section
variable {ops : Array Oper} {o : Oper} {a : Act} {Q : Exit → Act → World → Prop} {rest : List Oper} {W : World}
theorem stop_convert {P : Program} {s d : TypeId} {x : Operand} (_ho : o.op = .convert s d x) (h : Stop (wpList P ops Q (o :: rest) a W)) : wpList P ops Q (o :: rest) a W := h
/-- xs[lo:hi] of bytes that are read. -/
theorem mid8 (hgd : o.guard = none) (x lo hi : Operand) (ho : o.op = .slice 29 x (some lo) (some hi) none) {A : Option Addr} {n c : Nat} {xs : List Int} {j k : Int} {kl kh : IntKind} (hx : a.eval x = .slice A n c) (hlo : a.eval lo = .int kl j) (hhi : a.eval hi = .int kh k) (h0 : 0 ≤ j) (h1 : j ≤ k) (h2 : k ≤ n) (hc : n ≤ c)
    (HR : C8 W A n xs) (h : ∀ A', C8 W A' (k.toNat - j.toNat) ((xs.take k.toNat).drop j.toNat) → wpList Try.prog ops Q rest (a.put o.dst (.slice A' (k.toNat - j.toNat) (c - j.toNat))) W) : Stop (wpList Try.prog ops Q (o :: rest) a W) := by
  obtain ⟨i0, hi, hzz⟩ := Option.map_eq_some_iff.1 info5'
  simp only [Prod.mk.injEq] at hzz
  have hrun := cut_mid (P := Try.prog) 29 5 kl kh Try.underlying29 hi 1 hzz.2.1 A n c j k h0 h1 h2 hc W
  obtain rfl : xs.length = n := HR.1
  have hd := Kd.C_mid (lo := j.toNat) (hi := k.toNat) HR (by omega) (by omega) hc
  rw [List.length_drop, List.length_take, Nat.min_eq_left (by omega)] at hd
  refine run_stop hgd ?_ (h _ hd)
  have e := run_sliceAt_slice (P := Try.prog) (w := W) 29 (.slice A xs.length c) (some (.int kl j)) (some (.int kh k)) none hu29
  simp [execOp, ho, hx, hlo, hhi, e, hrun, Result.andThen, show (Kd.int .u8).sz = 1 from rfl]
/-- string(xs). -/
theorem str8 (hgd : o.guard = none) (x : Operand) (ho : o.op = .convert 29 9 x) {A : Option Addr} {n c : Nat} {xs : List Int} (hx : a.eval x = .slice A n c)
    (HR : C8 W A n xs) (h : wpList Try.prog ops Q rest (a.put o.dst (.string (strOfNums xs))) W) : Stop (wpList Try.prog ops Q (o :: rest) a W) := by
  have hrun := Kd.C_string (P := Try.prog) (src := 29) (dst := 9) (e := 5) (c := c) Try.underlying29 Try.underlying5 Try.underlying9 HR
  refine run_stop hgd ?_ h
  simp [execOp, ho, hx, hrun, Result.andThen]
end

/-- What xs[j:] is, in every world, under one name for its address. -/
theorem cutf8 {A : Option Addr} {n c : Nat} {xs : List Int} (j : Nat) (hj : j ≤ n) (hc : n ≤ c) :
    ∃ A', (∀ W : World, (Instr.slice 29 (.slice A n c) (some (.int .i64 (j : Int))) none none).run Try.prog W = .ok (.slice A' (n - j) (c - j)) W) ∧ ∀ W : World, C8 W A n xs → C8 W A' (n - j) (xs.drop j) := by
  obtain ⟨i0, hi, hzz⟩ := Option.map_eq_some_iff.1 info5'
  simp only [Prod.mk.injEq] at hzz
  have hrun := cut_from (P := Try.prog) 29 5 .i64 Try.underlying29 hi 1 hzz.2.1 A n c (j : Int) (by omega) (by omega)
  refine ⟨_, hrun, fun W HR => ?_⟩
  obtain rfl : xs.length = n := HR.1
  have hd := Kd.C_drop (m := j) HR hj hc
  rw [List.length_drop] at hd
  rw [Int.toNat_natCast]
  exact hd
theorem cutt8 {A : Option Addr} {n c : Nat} {xs : List Int} (j : Nat) (hj : j ≤ n) (hc : n ≤ c) :
    (∀ W : World, (Instr.slice 29 (.slice A n c) none (some (.int .i64 (j : Int))) none).run Try.prog W = .ok (.slice A j c) W) ∧ ∀ W : World, C8 W A n xs → C8 W A j (xs.take j) := by
  obtain ⟨i0, hi, hzz⟩ := Option.map_eq_some_iff.1 info5'
  have hrun := cut_to (P := Try.prog) 29 5 .i64 Try.underlying29 hi A n c (j : Int) (by omega) (by omega) hc
  refine ⟨fun W => by have := hrun W; rw [Int.toNat_natCast] at this; exact this, fun W HR => ?_⟩
  obtain rfl : xs.length = n := HR.1
  have hd := Kd.C_take (m := j) HR hj
  rw [List.length_take, Nat.min_eq_left hj] at hd
  exact hd

section
variable {ops : Array Oper} {o : Oper} {a : Act} {Q : Exit → Act → World → Prop} {rest : List Oper} {W : World}
end

section
variable {ops : Array Oper} {o : Oper} {a : Act} {Q : Exit → Act → World → Prop} {rest : List Oper} {W : World}
end
end Go.Proofs.Ytdbniihjkiecbaa.PW
