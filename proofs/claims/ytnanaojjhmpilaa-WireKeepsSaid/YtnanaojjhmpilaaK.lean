/- Small words for proofs by hand: stops of the walk at single operations, and bytes that the call owns. -/
import Derived.Test.YtnanaojjhmpilaaProg
import Derived.Below
import Derived.Deep.Draws
import Derived.Deep.AppendLies
import Derived.Maps.AppendAt
import Derived.OwnWalk
import Derived.Laws.BytesArg
import Derived.Laws.MakeOwn
import Derived.Laws.OwnMore
import Derived.Deep.OwnRows
import Derived.Tactics
import Derived.Lib.ConvBytes
import Derived.Laws.Slices
import Derived.WalkKit
import Derived.KernelRfl
import Derived.RowKit3
import Derived.Deep.LoopGhost
import Derived.Deep.QuietTactic
import Derived.BigQuiet
import Derived.WideLaws
import Derived.Deep.DeepCutAuto
import Derived.Deep.CutBlock
import Derived.Deep.RegionHeld3
import Derived.Laws.Rows
import Derived.Lib.AppendStr
import Derived.ArgAppend
import Derived.Laws.IdiomCopy
import Derived.OrdersHeld
import Derived.Laws.BitsLemmas
import Derived.RowKit
import Derived.Test.YtnanaojjhmpilaaWWords
import Derived.Test.YtnanaojjhmpilaaWLast
import Derived.Test.YtnanaojjhmpilaaWTab
import Derived.Test.YtnanaojjhmpilaaWFour
import Derived.Test.YtnanaojjhmpilaaWQPut
import Derived.Test.YtnanaojjhmpilaaWApart
import Derived.Test.YtnanaojjhmpilaaWArr
import Derived.Test.YtnanaojjhmpilaaWZeros
import Derived.Test.YtnanaojjhmpilaaWFoot
import Derived.Test.YtnanaojjhmpilaaWKept
import Derived.Test.YtnanaojjhmpilaaWShare
import Derived.Test.YtnanaojjhmpilaaWN
import Derived.Test.YtnanaojjhmpilaaWFootNe
import Derived.Test.YtnanaojjhmpilaaWAt
import Derived.Test.YtnanaojjhmpilaaWEqStruct
import Derived.Test.YtnanaojjhmpilaaWRepsOne
import Derived.Test.YtnanaojjhmpilaaWInv
import Derived.Test.YtnanaojjhmpilaaWInvWords
import Derived.Test.YtnanaojjhmpilaaWGuard
import Derived.Test.YtnanaojjhmpilaaWNEv
import Derived.Test.YtnanaojjhmpilaaWMore
import Derived.Laws.CopyOwn
import Derived.Lib.SlBytesConst
namespace Go.Proofs.Ytnanaojjhmpilaa.PW
open Go.RowKit Go.Proofs.YtnanaojjhmpilaaW.PrintWords Go.Proofs.YtnanaojjhmpilaaW.PrintLast Go.Proofs.YtnanaojjhmpilaaW.PrintMore
set_option linter.unusedVariables false

theorem drop_rd (l : List Int) (k : Nat) (h : k < l.length) : l.drop k = rd l k :: l.drop (k + 1) := by
  rw [List.drop_eq_getElem_cons h]; simp [rd, h]
/-- The walk stands still at what is wrapped so. -/
def Stop (p : Prop) : Prop := p
theorem Stop.go {p : Prop} (h : p) : Stop p := h

theorem info5' : (Try.prog.info? 5).map (fun i => (i.zero, i.size, i.bytes)) = some (some (.int .u8 0), 1, 1) := by kernel_rfl

section
variable {P : Program} {ops : Array Oper} {o : Oper} {a : Act} {Q : Exit → Act → World → Prop} {rest : List Oper} {W : World}
theorem stop_builtin {b : Builtin} {xs : Array Operand} {ts : Array TypeId} (_ho : o.op = .call { callee := .builtin b, args := xs, argTypes := ts }) (_hb : b ≠ .len) (h : Stop (wpList P ops Q (o :: rest) a W)) : wpList P ops Q (o :: rest) a W := h
theorem stop_append {xs : Array Operand} {ts : Array TypeId} (_ho : o.op = .call { callee := .builtin .append, args := xs, argTypes := ts }) (h : Stop (wpList P ops Q (o :: rest) a W)) : wpList P ops Q (o :: rest) a W := h
theorem stop_copy {xs : Array Operand} {ts : Array TypeId} (_ho : o.op = .call { callee := .builtin .copy, args := xs, argTypes := ts }) (h : Stop (wpList P ops Q (o :: rest) a W)) : wpList P ops Q (o :: rest) a W := h
theorem stop_make {t : TypeId} {x y : Operand} (_ho : o.op = .makeSlice t x y) (h : Stop (wpList P ops Q (o :: rest) a W)) : wpList P ops Q (o :: rest) a W := h
theorem stop_lit {t : TypeId} {n : Nat} {ps : Array (Nat × Operand)} (_ho : o.op = .buildSlice t n ps) (h : Stop (wpList P ops Q (o :: rest) a W)) : wpList P ops Q (o :: rest) a W := h
theorem stop_slice {t : TypeId} {x : Operand} {l h' m : Option Operand} (_ho : o.op = .slice t x l h' m) (h : Stop (wpList P ops Q (o :: rest) a W)) : wpList P ops Q (o :: rest) a W := h
theorem stop_store {t : TypeId} {p v : Operand} (_ho : o.op = .store t p v) (h : Stop (wpList P ops Q (o :: rest) a W)) : wpList P ops Q (o :: rest) a W := h
end

/-- Bytes that are read: n of them at A. -/
abbrev C8 (w : World) (A : Option Addr) (n : Nat) (l : List Int) : Prop := Kd.C (Kd.int .u8) w A n l
/-- Bytes of the call's own, in a block from base on. -/
abbrev R8 (w : World) (base : Nat) (v : Value) (l : List Int) : Prop := Kd.R (Kd.int .u8) 5 w base (fun _ => True) v l

section
variable {ops : Array Oper} {o : Oper} {a : Act} {Q : Exit → Act → World → Prop} {rest : List Oper} {W : World}
/-- append(s, x...) of bytes. -/
theorem app8 (w0 : World) (base : Nat) (hgd : o.guard = none) (s x : Operand) (ho : o.op = .call { callee := .builtin .append, args := #[s, x], argTypes := #[22, 22] })
    {v : Value} {A : Option Addr} {m c : Nat} {xs ys : List Int} (hs : a.eval s = v) (hx : a.eval x = .slice A m c) (HO : R8 W base v xs) (HR : C8 W A m ys)
    (HB : Below base w0 W) (hbase : base ≤ W.heap.size) (hl : xs.length + m ≤ 140737488355328)
    (h : ∀ v1 w1, R8 w1 base v1 (xs ++ ys) → Below base w0 w1 → W.grownBy w1 v.ownBlock → (v1.ownBlock = v.ownBlock ∨ ∃ b, v1.ownBlock = some b ∧ W.heap.size ≤ b) → wpList Try.prog ops Q rest (a.put o.dst v1) w1) :
    Stop (wpList Try.prog ops Q (o :: rest) a W) :=
  Kd.R_append_rows (Kd.int .u8) (w0 := w0) base hgd s x 22 5 (.int .u8 0) 1 ho Try.underlying22 info5' rfl (by decide) (by omega) v xs ys A m c (fun _ => True) (fun _ => False) hs hx HO HR
    (fun _ _ h => h) (fun _ h => h.elim) (fun _ _ => trivial) HB hbase (by omega) h
/-- make([]byte, 0, n) -/
theorem mk8 (w0 : World) (base : Nat) (hgd : o.guard = none) (l c : Operand) (ho : o.op = .makeSlice 22 l c) {C : Int} (hl : a.eval l = .int .i64 0) (hc : a.eval c = .int .i64 C) (h0 : 0 ≤ C) (hC : C ≤ 281474976710656)
    (HB : Below base w0 W) (hbase : base ≤ W.heap.size)
    (h : ∀ v1 w1, R8 w1 base v1 [] → Below base w0 w1 → W.grownBy w1 none → (∃ b, v1.ownBlock = some b ∧ W.heap.size ≤ b) → wpList Try.prog ops Q rest (a.put o.dst v1) w1) :
    Stop (wpList Try.prog ops Q (o :: rest) a W) := by
  obtain ⟨i0, hi, hzz⟩ := Option.map_eq_some_iff.1 info5'
  simp only [Prod.mk.injEq] at hzz
  obtain ⟨hz0, hz1, hz2⟩ := hzz
  refine wpList_make_own W hgd l c 22 ho W.heap.size 5 i0 _ 1 Try.underlying22 hi hz0 hz1 .i64 .i64 C C.toNat hl hc (by omega) (by rw [hz2]; omega) (by simp only [maxLen]; omega) (Nat.le_refl _) ?_
  intro w' hown hg
  exact h _ w' ⟨fun _ _ => trivial, [], own_less hown hbase, Reps.none _ _⟩ (HB.grown hg hbase (by simp)) hg ⟨_, rfl, Nat.le_refl _⟩
/-- make([]byte, n) -/
theorem mkn8 (w0 : World) (base : Nat) (hgd : o.guard = none) {N : Tmp} (hd : o.dst = some N) (l c : Operand) (ho : o.op = .makeSlice 22 l c) {C : Int} (hl : a.eval l = .int .i64 C) (hc : a.eval c = .int .i64 C) (h0 : 0 ≤ C) (hC : C ≤ 281474976710656)
    (HB : Below base w0 W) (hbase : base ≤ W.heap.size)
    (h : ∀ v1 w1, R8 w1 base v1 (List.replicate C.toNat 0) → Below base w0 w1 → W.grownBy w1 none → (∃ b, v1.ownBlock = some b ∧ W.heap.size ≤ b) → wpList Try.prog ops Q rest (a.put o.dst v1) w1) :
    Stop (wpList Try.prog ops Q (o :: rest) a W) :=
  Kd.R_make (Kd.int .u8) base 5 hgd hd 22 l c ho C hl hc Try.underlying22 (.int .u8 0) 1 info5' rfl (by decide) (by omega) (0 : Int) (ok := fun _ => True) (okp := fun _ => True) rfl (fun _ h => h) trivial h0 (by omega) HB hbase h
/-- []byte{..}: the list is told by its cells. -/
theorem lit8 (w0 : World) (base : Nat) (hgd : o.guard = none) {N : Tmp} (hd : o.dst = some N) (xs : List Int)
    (hrun : (execOp a.eval o).run Try.prog W = .ok (.value (.slice (some ⟨W.heap.size, 0, none⟩) xs.length xs.length)) (W.alloc (.cells (nums .u8 xs).toArray 5)))
    (HB : Below base w0 W) (hbase : base ≤ W.heap.size) (hm : xs.length ≤ 9223372036854775807)
    (h : ∀ v1 w1, R8 w1 base v1 xs → Below base w0 w1 → W.grownBy w1 none → (∃ b, v1.ownBlock = some b ∧ W.heap.size ≤ b) → wpList Try.prog ops Q rest (a.put o.dst v1) w1) :
    Stop (wpList Try.prog ops Q (o :: rest) a W) :=
  Kd.R_lit (Kd.int .u8) (w0 := w0) base 5 hgd hd (xs := xs) (inner := nums .u8 xs) (ok := fun _ => True) (okp := fun _ => True) hrun (Kd.reps_scalar (enc := Value.int .u8) xs) (fun _ h => h) trivial HB hbase hm h
end

theorem R8_own {w : World} {base : Nat} {v : Value} {l : List Int} (h : R8 w base v l) : w.ownsRow base 5 1 v l.length (encs (Value.int .u8) l) := Kd.own_of_R h
theorem own_R8 {w : World} {base : Nat} {v : Value} {l : List Int} (h : w.ownsRow base 5 1 v l.length (encs (Value.int .u8) l)) : R8 w base v l := Kd.R_of_own h (fun _ _ => trivial)
theorem info5_size : (Try.prog.info? 5).map (·.size) = some 1 := by kernel_rfl
section
variable {ops : Array Oper} {o : Oper} {a : Act} {Q : Exit → Act → World → Prop} {rest : List Oper} {W : World}
/-- copy(d, s) of bytes, d whole a row of the call's own. -/
theorem copy8 (w0 : World) (base : Nat) (hgd : o.guard = none) (d s : Operand) (ho : o.op = .call { callee := .builtin .copy, args := #[d, s], argTypes := #[22, 22] })
    {v : Value} {A : Option Addr} {m c : Nat} {xs ys : List Int} (hd : a.eval d = v) (hs : a.eval s = .slice A m c) (HO : R8 W base v xs) (HR : C8 W A m ys)
    (HB : Below base w0 W)
    (h : ∀ w1, R8 w1 base v (ys.take xs.length ++ xs.drop m) → Below base w0 w1 → W.grownBy w1 v.ownBlock → wpList Try.prog ops Q rest (a.put o.dst (goInt (min m xs.length : Nat))) w1) :
    Stop (wpList Try.prog ops Q (o :: rest) a W) := by
  have hO := R8_own HO
  have hR := Kd.reads_of_C (enc := Value.int .u8) (d := (0 : Int)) (h1 := fun _ => rfl) HR
  obtain ⟨hl, hmax, hcell⟩ := hR
  obtain ⟨h1, h2⟩ := hO
  rcases h2 with ⟨rfl, hn⟩ | ⟨g, cap, cur, rfl, hg, hh, hnc, hcap, hsz, hcur⟩
  · obtain rfl : xs = [] := List.eq_nil_of_length_eq_zero hn
    refine wpList_copy_nothing hgd d s 22 22 ho 5 Try.underlying22 info5_size none A 0 0 m c hd hs (by simp) ?_
    have := h W (by simpa using HO) HB ⟨rfl, rfl, rfl, Nat.le_refl _, fun _ _ _ => rfl⟩
    simpa using this
  · have hlen : ((encs (Value.int .u8) ys).take (min m xs.length)).length = min m xs.length := by rw [List.length_take, encs_length]; omega
    have hcur2 : cur.toList.take xs.length = encs (Value.int .u8) xs := by simpa using hcur
    have e2 : encs (Value.int .u8) (ys.take xs.length ++ xs.drop m) = (encs (Value.int .u8) ys).take xs.length ++ (encs (Value.int .u8) xs).drop m := by simp [encs, List.map_take, List.map_drop]
    have l1 : (encs (Value.int .u8) ys).length = m := by rw [encs_length]; exact hl
    by_cases h0 : min m xs.length = 0
    · refine wpList_copy_nothing hgd d s 22 22 ho 5 Try.underlying22 info5_size _ A xs.length cap m c hd hs h0 ?_
      have e3 : ys.take xs.length ++ xs.drop m = xs := by
        rcases Nat.eq_zero_or_pos m with h | h
        · subst h; obtain rfl := List.eq_nil_of_length_eq_zero hl; simp
        · obtain rfl : xs = [] := List.eq_nil_of_length_eq_zero (by omega); simp
      have := h W (by rw [e3]; exact HO) HB ⟨rfl, rfl, rfl, Nat.le_refl _, fun _ _ _ => rfl⟩
      rw [h0] at this
      exact this
    · obtain ⟨ad, rfl, hc⟩ := hcell (by omega)
      have hrow : (cur.toList.take 0 ++ ((encs (Value.int .u8) ys).take (min m xs.length) ++ cur.toList.drop (0 + ((encs (Value.int .u8) ys).take (min m xs.length)).length))).toArray.size = cap * 1 := by
        simp [l1]; omega
      refine wpList_copy_own hgd d s 22 22 ho 5 Try.underlying22 info5_size g 0 xs.length cap ad m c hd hs cur 5 hh ((encs (Value.int .u8) ys).take (min m xs.length)) (by rw [hlen]) ?_ (by rw [hlen]; omega) ?_ ?_
      · intro j u hu
        obtain ⟨hj, hju⟩ := List.getElem?_eq_some_iff.1 hu
        rw [hlen] at hj
        rw [hc j (by omega), ← hju]
        have : j < ys.length := by omega
        simp [encs, this]
      · intro u hu
        have hu' := List.mem_of_mem_take hu
        simp only [encs, List.mem_map] at hu'
        obtain ⟨z, _, rfl⟩ := hu'
        rfl
      · have hset := setRow_heap W g cur (cur.toList.take 0 ++ ((encs (Value.int .u8) ys).take (min m xs.length) ++ cur.toList.drop (0 + ((encs (Value.int .u8) ys).take (min m xs.length)).length))).toArray 5 (0, 0) hh
        rw [hlen] at hset ⊢
        refine h _ (own_R8 ⟨by simp [encs_length], .inr ⟨g, cap, _, ?_, hg, hset, by simp; omega, hcap, by rw [hlen] at hrow; exact hrow, ?_⟩⟩) (below_setRow HB hg _) ⟨rfl, rfl, rfl, by simp [World.setRow], fun k hk hne => setRow_other W g k _ (fun e => hne (by rw [← e]; rfl))⟩
        · congr 1; simp; omega
        · have e1 : (ys.take xs.length ++ xs.drop m).length = xs.length := by simp; omega
          rw [e1, e2, ← hcur2]
          apply List.ext_getElem?
          intro j
          simp only [List.take_zero, List.nil_append, Nat.zero_add, Nat.mul_one, List.getElem?_take, List.getElem?_append, List.getElem?_drop, List.length_take, l1]
          by_cases hj : j < xs.length
          · rw [if_pos hj]
            by_cases hj2 : j < m
            · rw [if_pos (by omega), if_pos (by omega), if_pos (by omega), if_pos (by omega)]
            · rw [if_neg (by omega), if_neg (by omega), if_pos (by omega)]
              congr 1; omega
          · rw [if_neg hj, if_neg (by omega), if_neg (by omega)]
end

section
variable {ops : Array Oper} {o : Oper} {a : Act} {Q : Exit → Act → World → Prop} {rest : List Oper} {W : World}
theorem run_stop {v : Value} {w1 : World} (hgd : o.guard = none) (hrun : (execOp a.eval o).run Try.prog W = .ok (.value v) w1) (h : wpList Try.prog ops Q rest (a.put o.dst v) w1) : Stop (wpList Try.prog ops Q (o :: rest) a W) := by
  refine wpList_plain hgd fun K hK => ?_
  unfold Oper.wp
  rw [hrun]
  exact hK _ _ h
theorem hu22 : Try.prog.underlying 22 = some (.slice (Try.prog.elem 22)) := by
  have hel : Try.prog.elem 22 = 5 := by simp [Program.elem, Try.underlying22]
  rw [hel]; exact Try.underlying22
/-- xs[j:] of bytes that are read. -/
theorem from8 (hgd : o.guard = none) (x lo : Operand) (ho : o.op = .slice 22 x (some lo) none none) {A : Option Addr} {n c : Nat} {xs : List Int} {j : Int} {kl : IntKind} (hx : a.eval x = .slice A n c) (hlo : a.eval lo = .int kl j) (h0 : 0 ≤ j) (h1 : j ≤ n) (hc : n ≤ c)
    (HR : C8 W A n xs) (h : ∀ A', C8 W A' (n - j.toNat) (xs.drop j.toNat) → wpList Try.prog ops Q rest (a.put o.dst (.slice A' (n - j.toNat) (c - j.toNat))) W) : Stop (wpList Try.prog ops Q (o :: rest) a W) := by
  obtain ⟨i0, hi, hzz⟩ := Option.map_eq_some_iff.1 info5'
  simp only [Prod.mk.injEq] at hzz
  have hrun := cut_from (P := Try.prog) 22 5 kl Try.underlying22 hi 1 hzz.2.1 A n c j h0 h1 W
  obtain rfl : xs.length = n := HR.1
  have hd := Kd.C_drop (m := j.toNat) HR (by omega) hc
  rw [List.length_drop] at hd
  refine run_stop hgd ?_ (h _ hd)
  have e := run_sliceAt_slice (P := Try.prog) (w := W) 22 (.slice A xs.length c) (some (.int kl j)) none none hu22
  simp [execOp, ho, hx, hlo, e, hrun, Result.andThen, show (Kd.int .u8).sz = 1 from rfl]
/-- xs[:j] of bytes, up to the capacity. -/
theorem to8 (hgd : o.guard = none) (x hi : Operand) (ho : o.op = .slice 22 x none (some hi) none) {A : Option Addr} {n c : Nat} {j : Int} {kh : IntKind} (hx : a.eval x = .slice A n c) (hhi : a.eval hi = .int kh j) (h0 : 0 ≤ j) (h1 : j ≤ c)
    (h : wpList Try.prog ops Q rest (a.put o.dst (.slice A j.toNat c)) W) : Stop (wpList Try.prog ops Q (o :: rest) a W) := by
  obtain ⟨i0, hi, hzz⟩ := Option.map_eq_some_iff.1 info5'
  simp only [Prod.mk.injEq] at hzz
  have hel : Try.prog.elem 22 = 5 := by simp [Program.elem, Try.underlying22]
  have ha : (A.map fun x => x.add 0) = A := by cases A <;> simp [Addr.add]
  have hrun := run_slice_h W 22 A n c hu22 kh j h0 h1
  rw [hel] at hrun
  refine run_stop hgd ?_ h
  have e := run_sliceAt_slice (P := Try.prog) (w := W) 22 (.slice A n c) none (some (.int kh j)) none hu22
  simp [execOp, ho, hx, hhi, e, hrun, sizeOf, typeInfo, hi, hzz.2.1, sliced, ha, Result.andThen]
end
section
variable {ops : Array Oper} {o : Oper} {a : Act} {Q : Exit → Act → World → Prop} {rest : List Oper} {W : World}
theorem stop_convert {P : Program} {s d : TypeId} {x : Operand} (_ho : o.op = .convert s d x) (h : Stop (wpList P ops Q (o :: rest) a W)) : wpList P ops Q (o :: rest) a W := h
/-- xs[lo:hi] of bytes that are read. -/
theorem mid8 (hgd : o.guard = none) (x lo hi : Operand) (ho : o.op = .slice 22 x (some lo) (some hi) none) {A : Option Addr} {n c : Nat} {xs : List Int} {j k : Int} {kl kh : IntKind} (hx : a.eval x = .slice A n c) (hlo : a.eval lo = .int kl j) (hhi : a.eval hi = .int kh k) (h0 : 0 ≤ j) (h1 : j ≤ k) (h2 : k ≤ n) (hc : n ≤ c)
    (HR : C8 W A n xs) (h : ∀ A', C8 W A' (k.toNat - j.toNat) ((xs.take k.toNat).drop j.toNat) → wpList Try.prog ops Q rest (a.put o.dst (.slice A' (k.toNat - j.toNat) (c - j.toNat))) W) : Stop (wpList Try.prog ops Q (o :: rest) a W) := by
  obtain ⟨i0, hi, hzz⟩ := Option.map_eq_some_iff.1 info5'
  simp only [Prod.mk.injEq] at hzz
  have hrun := cut_mid (P := Try.prog) 22 5 kl kh Try.underlying22 hi 1 hzz.2.1 A n c j k h0 h1 h2 hc W
  obtain rfl : xs.length = n := HR.1
  have hd := Kd.C_mid (lo := j.toNat) (hi := k.toNat) HR (by omega) (by omega) hc
  rw [List.length_drop, List.length_take, Nat.min_eq_left (by omega)] at hd
  refine run_stop hgd ?_ (h _ hd)
  have e := run_sliceAt_slice (P := Try.prog) (w := W) 22 (.slice A xs.length c) (some (.int kl j)) (some (.int kh k)) none hu22
  simp [execOp, ho, hx, hlo, hhi, e, hrun, Result.andThen, show (Kd.int .u8).sz = 1 from rfl]
/-- string(xs). -/
theorem str8 (hgd : o.guard = none) (x : Operand) (ho : o.op = .convert 22 9 x) {A : Option Addr} {n c : Nat} {xs : List Int} (hx : a.eval x = .slice A n c)
    (HR : C8 W A n xs) (h : wpList Try.prog ops Q rest (a.put o.dst (.string (strOfNums xs))) W) : Stop (wpList Try.prog ops Q (o :: rest) a W) := by
  have hrun := Kd.C_string (P := Try.prog) (src := 22) (dst := 9) (e := 5) (c := c) Try.underlying22 Try.underlying5 Try.underlying9 HR
  refine run_stop hgd ?_ h
  simp [execOp, ho, hx, hrun, Result.andThen]
end

/-- What xs[j:] is, in every world, under one name for its address. -/
theorem cutf8 {A : Option Addr} {n c : Nat} {xs : List Int} (j : Nat) (hj : j ≤ n) (hc : n ≤ c) :
    ∃ A', (∀ W : World, (Instr.slice 22 (.slice A n c) (some (.int .i64 (j : Int))) none none).run Try.prog W = .ok (.slice A' (n - j) (c - j)) W) ∧ ∀ W : World, C8 W A n xs → C8 W A' (n - j) (xs.drop j) := by
  obtain ⟨i0, hi, hzz⟩ := Option.map_eq_some_iff.1 info5'
  simp only [Prod.mk.injEq] at hzz
  have hrun := cut_from (P := Try.prog) 22 5 .i64 Try.underlying22 hi 1 hzz.2.1 A n c (j : Int) (by omega) (by omega)
  refine ⟨_, hrun, fun W HR => ?_⟩
  obtain rfl : xs.length = n := HR.1
  have hd := Kd.C_drop (m := j) HR hj hc
  rw [List.length_drop] at hd
  rw [Int.toNat_natCast]
  exact hd
theorem cutt8 {A : Option Addr} {n c : Nat} {xs : List Int} (j : Nat) (hj : j ≤ n) (hc : n ≤ c) :
    (∀ W : World, (Instr.slice 22 (.slice A n c) none (some (.int .i64 (j : Int))) none).run Try.prog W = .ok (.slice A j c) W) ∧ ∀ W : World, C8 W A n xs → C8 W A j (xs.take j) := by
  obtain ⟨i0, hi, hzz⟩ := Option.map_eq_some_iff.1 info5'
  have hrun := cut_to (P := Try.prog) 22 5 .i64 Try.underlying22 hi A n c (j : Int) (by omega) (by omega) hc
  refine ⟨fun W => by have := hrun W; rw [Int.toNat_natCast] at this; exact this, fun W HR => ?_⟩
  obtain rfl : xs.length = n := HR.1
  have hd := Kd.C_take (m := j) HR hj
  rw [List.length_take, Nat.min_eq_left hj] at hd
  exact hd

/-- The bytes of a row that was just laid, whatever its mark. -/
theorem C_lit (W : World) (xs : List Int) (m : Nat × Nat) (hm : xs.length ≤ 9223372036854775807) :
    C8 (W.alloc (.cells (nums .u8 xs).toArray 5 m)) (some ⟨W.heap.size, 0, none⟩) xs.length xs := by
  refine Kd.C_of_reads (enc := Value.int .u8) (d := (0 : Int)) (h1 := fun _ => rfl) ⟨rfl, hm, fun hn => ⟨_, rfl, fun j hj => ?_⟩⟩
  have hb : (W.alloc (.cells (nums .u8 xs).toArray 5 m)).heap[W.heap.size]? = some (.cells (nums .u8 xs).toArray 5 m) := by show (W.heap.push _)[W.heap.size]? = _; simp
  rw [add_plain, cell_of_row _ _ _ _ _ _ hb]
  simp [nums, hj]
theorem size_alloc1 (W : World) (o : Obj) : (W.alloc o).heap.size = W.heap.size + 1 := by show (W.heap.push o).size = _; simp

section
variable {ops : Array Oper} {o : Oper} {a : Act} {Q : Exit → Act → World → Prop} {rest : List Oper} {W : World}
theorem run_stopw {v : Value} {w1 : World} (hw : Region.wanted o (yielded ops a.tmps) = true) (hrun : (execOp a.eval o).run Try.prog W = .ok (.value v) w1) (h : wpList Try.prog ops Q rest (a.put o.dst v) w1) : Stop (wpList Try.prog ops Q (o :: rest) a W) := by
  refine wpList_step (fun K hK => ?_)
  rw [if_pos hw]
  unfold Oper.wp
  rw [hrun]
  exact hK _ _ h
/-- string(xs), where a guard stands ahead. -/
theorem str8w (hw : Region.wanted o (yielded ops a.tmps) = true) (x : Operand) (ho : o.op = .convert 22 9 x) {A : Option Addr} {n c : Nat} {xs : List Int} (hx : a.eval x = .slice A n c)
    (HR : C8 W A n xs) (h : wpList Try.prog ops Q rest (a.put o.dst (.string (strOfNums xs))) W) : Stop (wpList Try.prog ops Q (o :: rest) a W) := by
  have hrun := Kd.C_string (P := Try.prog) (src := 22) (dst := 9) (e := 5) (c := c) Try.underlying22 Try.underlying5 Try.underlying9 HR
  refine run_stopw hw ?_ h
  simp [execOp, ho, hx, hrun, Result.andThen]
end

section
variable {ops : Array Oper} {o : Oper} {a : Act} {Q : Exit → Act → World → Prop} {rest : List Oper} {W : World}
theorem mid8w (hw : Region.wanted o (yielded ops a.tmps) = true) (x lo hi : Operand) (ho : o.op = .slice 22 x (some lo) (some hi) none) {A : Option Addr} {n c : Nat} {xs : List Int} {j k : Int} {kl kh : IntKind} (hx : a.eval x = .slice A n c) (hlo : a.eval lo = .int kl j) (hhi : a.eval hi = .int kh k) (h0 : 0 ≤ j) (h1 : j ≤ k) (h2 : k ≤ n) (hc : n ≤ c)
    (HR : C8 W A n xs) (h : ∀ A', C8 W A' (k.toNat - j.toNat) ((xs.take k.toNat).drop j.toNat) → wpList Try.prog ops Q rest (a.put o.dst (.slice A' (k.toNat - j.toNat) (c - j.toNat))) W) : Stop (wpList Try.prog ops Q (o :: rest) a W) := by
  obtain ⟨i0, hi, hzz⟩ := Option.map_eq_some_iff.1 info5'
  simp only [Prod.mk.injEq] at hzz
  have hrun := cut_mid (P := Try.prog) 22 5 kl kh Try.underlying22 hi 1 hzz.2.1 A n c j k h0 h1 h2 hc W
  obtain rfl : xs.length = n := HR.1
  have hd := Kd.C_mid (lo := j.toNat) (hi := k.toNat) HR (by omega) (by omega) hc
  rw [List.length_drop, List.length_take, Nat.min_eq_left (by omega)] at hd
  refine run_stopw hw ?_ (h _ hd)
  have e := run_sliceAt_slice (P := Try.prog) (w := W) 22 (.slice A xs.length c) (some (.int kl j)) (some (.int kh k)) none hu22
  simp [execOp, ho, hx, hlo, hhi, e, hrun, Result.andThen, show (Kd.int .u8).sz = 1 from rfl]
theorem from8w (hw : Region.wanted o (yielded ops a.tmps) = true) (x lo : Operand) (ho : o.op = .slice 22 x (some lo) none none) {A : Option Addr} {n c : Nat} {xs : List Int} {j : Int} {kl : IntKind} (hx : a.eval x = .slice A n c) (hlo : a.eval lo = .int kl j) (h0 : 0 ≤ j) (h1 : j ≤ n) (hc : n ≤ c)
    (HR : C8 W A n xs) (h : ∀ A', C8 W A' (n - j.toNat) (xs.drop j.toNat) → wpList Try.prog ops Q rest (a.put o.dst (.slice A' (n - j.toNat) (c - j.toNat))) W) : Stop (wpList Try.prog ops Q (o :: rest) a W) := by
  obtain ⟨i0, hi, hzz⟩ := Option.map_eq_some_iff.1 info5'
  simp only [Prod.mk.injEq] at hzz
  have hrun := cut_from (P := Try.prog) 22 5 kl Try.underlying22 hi 1 hzz.2.1 A n c j h0 h1 W
  obtain rfl : xs.length = n := HR.1
  have hd := Kd.C_drop (m := j.toNat) HR (by omega) hc
  rw [List.length_drop] at hd
  refine run_stopw hw ?_ (h _ hd)
  have e := run_sliceAt_slice (P := Try.prog) (w := W) 22 (.slice A xs.length c) (some (.int kl j)) none none hu22
  simp [execOp, ho, hx, hlo, e, hrun, Result.andThen, show (Kd.int .u8).sz = 1 from rfl]
theorem to8w (hw : Region.wanted o (yielded ops a.tmps) = true) (x hi : Operand) (ho : o.op = .slice 22 x none (some hi) none) {A : Option Addr} {n c : Nat} {j : Int} {kh : IntKind} (hx : a.eval x = .slice A n c) (hhi : a.eval hi = .int kh j) (h0 : 0 ≤ j) (h1 : j ≤ c)
    (h : wpList Try.prog ops Q rest (a.put o.dst (.slice A j.toNat c)) W) : Stop (wpList Try.prog ops Q (o :: rest) a W) := by
  obtain ⟨i0, hi, hzz⟩ := Option.map_eq_some_iff.1 info5'
  simp only [Prod.mk.injEq] at hzz
  have hel : Try.prog.elem 22 = 5 := by simp [Program.elem, Try.underlying22]
  have ha : (A.map fun x => x.add 0) = A := by cases A <;> simp [Addr.add]
  have hrun := run_slice_h W 22 A n c hu22 kh j h0 h1
  rw [hel] at hrun
  refine run_stopw hw ?_ h
  have e := run_sliceAt_slice (P := Try.prog) (w := W) 22 (.slice A n c) none (some (.int kh j)) none hu22
  simp [execOp, ho, hx, hhi, e, hrun, sizeOf, typeInfo, hi, hzz.2.1, sliced, ha, Result.andThen]
end
end Go.Proofs.Ytnanaojjhmpilaa.PW
