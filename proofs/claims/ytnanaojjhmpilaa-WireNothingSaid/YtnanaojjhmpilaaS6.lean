/- Streams: what a call keeps; a stream in memory; decide as one contract. -/
import Derived.Test.YtnanaojjhmpilaaS5
namespace Go.Proofs.Ytnanaojjhmpilaa.PW
open Go.RowKit Go.Proofs.YtnanaojjhmpilaaW.PrintWords Go.Proofs.YtnanaojjhmpilaaW.PrintLast Go.Proofs.YtnanaojjhmpilaaW.PrintMore
set_option linter.unusedVariables false
set_option linter.unusedSimpArgs false

/-- All but the blocks of S (and what is new) is as it was. -/
structure Frm (w w' : World) (S : Nat → Prop) : Prop where
  os : w'.os = w.os
  tape : w'.tape = w.tape
  output : w'.output = w.output
  size : w.heap.size ≤ w'.heap.size
  block : ∀ k, k < w.heap.size → ¬ S k → w'.heap[k]? = w.heap[k]?
section
variable {w w1 w2 : World} {S S1 S2 : Nat → Prop}
theorem Frm.refl (w : World) (S : Nat → Prop) : Frm w w S := ⟨rfl, rfl, rfl, Nat.le_refl _, fun _ _ _ => rfl⟩
theorem Frm.mono (h : Frm w w1 S) (hs : ∀ k, S k → k < w.heap.size → S1 k) : Frm w w1 S1 := ⟨h.os, h.tape, h.output, h.size, fun k hk hn => h.block k hk (fun hS => hn (hs k hS hk))⟩
theorem Frm.then_ (h : Frm w w1 S) (k : Frm w1 w2 S1) (hs : ∀ k, S1 k → k < w.heap.size → S k) : Frm w w2 S :=
  ⟨k.os.trans h.os, k.tape.trans h.tape, k.output.trans h.output, Nat.le_trans h.size k.size, fun i hi hn => (k.block i (Nat.lt_of_lt_of_le hi h.size) (fun h1 => hn (hs i h1 hi))).trans (h.block i hi hn)⟩
theorem Frm.of_below (h : Below w.heap.size w w1) (S : Nat → Prop) : Frm w w1 S := ⟨h.os, h.tape, h.output, h.size, fun k hk _ => h.block k hk⟩
theorem Frm.of_grown {row : Option Nat} (h : w.grownBy w1 row) (hs : ∀ k, row = some k → S k) : Frm w w1 S := ⟨h.os, h.tape, h.output, h.size, fun k hk hn => h.block k hk (fun e => hn (hs k e.symm))⟩
theorem Frm.set_ (h : Frm w w1 S) {p : Addr} (hp : S p.block ∨ w.heap.size ≤ p.block) (u : Value) : Frm w (w1.setCell p u) S :=
  ⟨h.os, h.tape, h.output, by simpa [World.setCell] using h.size, fun k hk hn => (Below.heap_setCell w1 p u k (fun e => hp.elim (fun h2 => hn (e ▸ h2)) (fun h2 => by omega))).trans (h.block k hk hn)⟩
theorem Frm.below {B : Nat} (h : Frm w w1 S) (hs : ∀ k, S k → k < w.heap.size → B ≤ k) (hB : B ≤ w.heap.size) : Below B w w1 := ⟨h.os, h.tape, h.output, h.size, fun k hk => h.block k (by omega) (fun h2 => by have := hs k h2 (by omega); omega)⟩
theorem Frm.drew (h : Frm w w1 S) : Frm w w1.drew S := ⟨h.os, h.tape, h.output, h.size, h.block⟩
theorem Frm.alloc (h : Frm w w1 S) (o : Obj) : Frm w (w1.alloc o) S := h.then_ (Frm.of_below (below_alloc (Below.refl _ _) o) (fun _ => False)) (fun _ hk => hk.elim)
theorem Frm.step (h : Frm w w1 S) (k : Below w1.heap.size w1 w2) : Frm w w2 S := h.then_ (Frm.of_below k (fun _ => False)) (fun _ hk => hk.elim)
theorem Frm.blk {g : Nat} {o : Obj} (h : Frm w w1 S) (hb : w.heap[g]? = some o) (hn : ¬ S g) : w1.heap[g]? = some o := (h.block g (blk_lt hb) hn).trans hb
end
section
variable {α : Type} {d : Kd α} {e base : Nat} {ok S : Nat → Prop} {w w1 : World} {v : Value} {xs : List α}
theorem R_frm (h : d.R e w base ok v xs) (hf : Frm w w1 S) (hn : ∀ k, ok k → ¬ S k) : d.R e w1 base ok v xs := Kd.R_step h (fun k hk hlt => hf.block k hlt (hn k hk))
theorem SQ_frm (h : SQ d e w base ok v xs) (hf : Frm w w1 S) (hn : ∀ k, ok k → ¬ S k) : SQ d e w1 base ok v xs := SQ_step h (fun k hk hlt => hf.block k hlt (hn k hk))
end
/-- A stream in block b: the undecided bytes, the bodies that nobody asked for, how many bytes were skipped. -/
def Strm (w : World) (base : Nat) (ok : Nat → Prop) (b : Nat) (op : List Int) (fs : List (List Int)) (sk : Nat) : Prop :=
  base ≤ b ∧ ok b ∧ ∃ vo vf okf, w.heap[b]? = some (.cells #[vo, vf, .int .i64 (sk : Int)] 53 (0, 0)) ∧ Kd.R (Kd.int .u8) 5 w base (fun k => ok k ∧ k ≠ b ∧ ¬ okf k) vo op ∧
    SQ (Kd.slice 5 (Kd.int .u8)) 22 w base okf vf fs ∧ ∀ k, okf k → ok k ∧ k ≠ b
section
variable {w w1 : World} {base b sk : Nat} {ok ok' S : Nat → Prop} {op : List Int} {fs : List (List Int)}
theorem Strm_mono (h : Strm w base ok b op fs sk) (hok : ∀ k, ok k → ok' k) : Strm w base ok' b op fs sk := by
  obtain ⟨h1, h2, vo, vf, okf, h3, h4, h5, h6⟩ := h
  exact ⟨h1, hok b h2, vo, vf, okf, h3, Kd.R_mono h4 (fun k hk => ⟨hok k hk.1, hk.2⟩), h5, fun k hk => ⟨hok k (h6 k hk).1, (h6 k hk).2⟩⟩
theorem Strm_bound (h : Strm w base ok b op fs sk) : Strm w base (fun k => ok k ∧ base ≤ k ∧ k < w.heap.size) b op fs sk := by
  obtain ⟨h1, h2, vo, vf, okf, h3, h4, h5, h6⟩ := h
  exact ⟨h1, ⟨h2, h1, blk_lt h3⟩, vo, vf, _, h3, Kd.R_mono (Kd.R_bound h4) (fun k hk => ⟨⟨hk.1.1, hk.2.1, hk.2.2.1⟩, hk.1.2.1, fun h7 => hk.1.2.2 h7.1⟩), SQ_bound h5, fun k hk => ⟨⟨(h6 k hk.1).1, hk.2.1, hk.2.2.1⟩, (h6 k hk.1).2⟩⟩
theorem Strm_step (h : Strm w base ok b op fs sk) (hm : ∀ k, ok k → k < w.heap.size → w1.heap[k]? = w.heap[k]?) : Strm w1 base ok b op fs sk := by
  obtain ⟨h1, h2, vo, vf, okf, h3, h4, h5, h6⟩ := h
  exact ⟨h1, h2, vo, vf, okf, (hm b h2 (blk_lt h3)).trans h3, Kd.R_step h4 (fun k hk => hm k hk.1), SQ_step h5 (fun k hk => hm k (h6 k hk).1), h6⟩
theorem Strm_frm (h : Strm w base ok b op fs sk) (hf : Frm w w1 S) (hn : ∀ k, ok k → ¬ S k) : Strm w1 base ok b op fs sk := Strm_step h (fun k hk hlt => hf.block k hlt (hn k hk))
theorem Strm_below (h : Strm w base ok b op fs sk) (hf : Below w.heap.size w w1) : Strm w1 base ok b op fs sk := Strm_step h (fun k hk hlt => hf.block k hlt)
end
/-- How far what is decided goes, what comes of it. -/
def adv : Dec → Nat
  | .wait => 0
  | .skip => 1
  | .body k => k + 14
def bodOf (R : List Int) : Dec → List (List Int)
  | .body k => [(R.drop 10).take k]
  | _ => []
def skOf : Dec → Nat
  | .skip => 1
  | _ => 0
theorem told_adv {l : List Int} {k : Nat} {B : List (List Int)} {sk : Nat} (h : Told l k B sk) {D : Dec} (hd : dec (l.drop k) = D) : Told l (k + adv D) (B ++ bodOf (l.drop k) D) (sk + skOf D) := by
  cases D with
  | wait => simpa [adv, bodOf, skOf] using h
  | skip => simpa [adv, bodOf, skOf] using told_skip h hd
  | body n => simpa [adv, bodOf, skOf, Nat.add_assoc] using told_body h hd
theorem adv_le {R : List Int} {D : Dec} (hd : dec R = D) : adv D ≤ R.length := by
  cases D with
  | wait => simp [adv]
  | skip => have := dec_skip hd; simp only [adv]; omega
  | body n => simpa [adv] using (dec_body hd).1
theorem adv_pos {D : Dec} (h : D ≠ .wait) : 0 < adv D := by
  cases D with
  | wait => exact absurd rfl h
  | skip => simp [adv]
  | body n => simp [adv]
theorem bodOf_le (R : List Int) (D : Dec) : (bodOf R D).length + skOf D ≤ adv D := by
  cases D <;> simp [bodOf, skOf, adv]

/-- decide of bytes R: the stream's block holds vo, vf, sk. -/
theorem decide_S (b base : Nat) (vo vf : Value) (A0 : Option Addr) (c0 n sk : Nat) (R : List Int) (fs : List (List Int)) (okf : Nat → Prop) (w : World) (hn : R.length = n) (hr : C8 w A0 n R) (hc : n ≤ c0) (hok : bytesOk R = true) (hm : n ≤ 1000000) (hsk : sk ≤ 1000000000)
    (hb : w.heap[b]? = some (.cells #[vo, vf, .int .i64 (sk : Int)] 53 (0, 0))) (hq : SQ (Kd.slice 5 (Kd.int .u8)) 22 w base okf vf fs) (hfl : fs.length ≤ 1000000) (hbase : base ≤ w.heap.size) (hbf : ∀ k, okf k → k ≠ b) {D : Dec} (hD : dec R = D) :
    Calls Try.prog 61 #[.pointer (some ⟨b, 0, none⟩), .slice A0 n c0] w fun e w' => e = .returned (.int .i64 ((adv D : Nat) : Int)) ∧ ∃ vf1,
      w'.heap[b]? = some (.cells #[vo, vf1, .int .i64 ((sk + skOf D : Nat) : Int)] 53 (0, 0)) ∧ SQ (Kd.slice 5 (Kd.int .u8)) 22 w' base (fun k => okf k ∨ w.heap.size ≤ k) vf1 (fs ++ bodOf R D) ∧ Frm w w' (fun k => k = b ∨ okf k) := by
  have hlt := blk_lt hb
  by_cases hnb : ∀ k, dec R ≠ .body k
  · refine (decide_rest b A0 c0 n sk R w hn hr hc hok hm hsk (blk_cell hb 2) (blk_frozen hb 2) hnb).mono ?_
    rintro e w' (⟨h1, rfl, h3⟩ | ⟨h1, rfl, w1, h3, rfl⟩)
    · obtain rfl : Dec.wait = D := h1.symm.trans hD
      refine ⟨rfl, vf, (h3.block b hlt).trans hb, ?_, Frm.of_below h3 _⟩
      simp only [bodOf, List.append_nil]
      exact SQ_mono (SQ_step hq (fun k _ hk => h3.block k hk)) (fun k hk => .inl hk)
    · obtain rfl : Dec.skip = D := h1.symm.trans hD
      have hb1 := (h3.block b hlt).trans hb
      refine ⟨rfl, vf, by simpa [skOf] using blk_set hb1 2 (.int .i64 ((sk + 1 : Nat) : Int)), ?_, (Frm.of_below h3 _).set_ (.inl (.inl rfl)) _⟩
      simp only [bodOf, List.append_nil]
      exact SQ_mono (SQ_step (SQ_step hq (fun k _ hk => h3.block k hk)) (fun k hk _ => Below.heap_setCell w1 _ _ k (hbf k hk))) (fun k hk => .inl hk)
  · obtain ⟨kn, hk⟩ : ∃ kn, dec R = .body kn := Classical.byContradiction fun h => hnb fun k hk => h ⟨k, hk⟩
    obtain rfl : Dec.body kn = D := hk.symm.trans hD
    refine (decide_body b base vf A0 c0 n kn R fs okf w hn hr hc hok hm (blk_cell hb 1) (blk_frozen hb 1) hq hfl hbase hbf hk).mono ?_
    rintro e w' ⟨rfl, f1, w1, rfl, hq1, hg⟩
    have hb1 := blk_grown hb hg (fun e => hbf b (SQ_ok hq b e.symm) rfl)
    refine ⟨rfl, f1, by simpa [skOf] using blk_set hb1 1 f1, ?_, (Frm.of_grown hg (fun k hk => .inr (SQ_ok hq k hk))).set_ (.inl (.inl rfl)) _⟩
    exact SQ_step hq1 (fun k hk _ => Below.heap_setCell w1 _ _ k (fun e => hk.elim (fun h => hbf k h e) (fun h => by simp only at e; omega)))
/-- copy(d, s) of bytes: its run. -/
theorem copy8_run {W : World} (w0 : World) (base : Nat) (ty : TypeId) {v : Value} {A : Option Addr} {m c : Nat} {xs ys : List Int} (HO : R8 W base v xs) (HR : C8 W A m ys) (HB : Below base w0 W) :
    ∃ w1, (Builtin.copy_ #[22, 22] ty #[v, .slice A m c]).run Try.prog W = .ok (goInt (min m xs.length : Nat)) w1 ∧ R8 w1 base v (ys.take xs.length ++ xs.drop m) ∧ Below base w0 w1 ∧ W.grownBy w1 v.ownBlock := by
  have hO := R8_own HO
  have hR := Kd.reads_of_C (enc := Value.int .u8) (d := (0 : Int)) (h1 := fun _ => rfl) HR
  obtain ⟨hl, hmax, hcell⟩ := hR
  obtain ⟨h1, h2⟩ := hO
  rcases h2 with ⟨rfl, hn⟩ | ⟨g, cap, cur, rfl, hg, hh, hnc, hcap, hsz, hcur⟩
  · obtain rfl : xs = [] := List.eq_nil_of_length_eq_zero hn
    exact ⟨W, by simpa using run_copy_none (P := Try.prog) W 22 22 ty 5 none A 0 0 m c Try.underlying22 info5_size (by simp), by simpa using HO, HB, ⟨rfl, rfl, rfl, Nat.le_refl _, fun _ _ _ => rfl⟩⟩
  · have hlen : ((encs (Value.int .u8) ys).take (min m xs.length)).length = min m xs.length := by rw [List.length_take, encs_length]; omega
    have hcur2 : cur.toList.take xs.length = encs (Value.int .u8) xs := by simpa using hcur
    have e2 : encs (Value.int .u8) (ys.take xs.length ++ xs.drop m) = (encs (Value.int .u8) ys).take xs.length ++ (encs (Value.int .u8) xs).drop m := by simp [encs, List.map_take, List.map_drop]
    have l1 : (encs (Value.int .u8) ys).length = m := by rw [encs_length]; exact hl
    by_cases h0 : min m xs.length = 0
    · have e3 : ys.take xs.length ++ xs.drop m = xs := by
        rcases Nat.eq_zero_or_pos m with h | h
        · subst h; obtain rfl := List.eq_nil_of_length_eq_zero hl; simp
        · obtain rfl : xs = [] := List.eq_nil_of_length_eq_zero (by omega); simp
      refine ⟨W, ?_, by rw [e3]; exact HO, HB, ⟨rfl, rfl, rfl, Nat.le_refl _, fun _ _ _ => rfl⟩⟩
      rw [h0]
      exact run_copy_none (P := Try.prog) W 22 22 ty 5 _ A xs.length cap m c Try.underlying22 info5_size h0
    · obtain ⟨ad, rfl, hc⟩ := hcell (by omega)
      have hrow : (cur.toList.take 0 ++ (encs (Value.int .u8) ys).take (min m xs.length) ++ cur.toList.drop (0 + ((encs (Value.int .u8) ys).take (min m xs.length)).length)).toArray.size = cap * 1 := by
        simp [l1]; omega
      have hrun := run_copy_row (P := Try.prog) W 22 22 ty 5 g 0 xs.length cap ad m c cur 5 ((encs (Value.int .u8) ys).take (min m xs.length)) Try.underlying22 info5_size hh (by rw [hlen]) (by
        intro j u hu
        obtain ⟨hj, hju⟩ := List.getElem?_eq_some_iff.1 hu
        rw [hlen] at hj
        rw [hc j (by omega), ← hju]
        have : j < ys.length := by omega
        simp [encs, this]) (by rw [hlen]; omega) (by
        intro u hu
        have hu' := List.mem_of_mem_take hu
        simp only [encs, List.mem_map] at hu'
        obtain ⟨z, _, rfl⟩ := hu'
        rfl)
      have hset := setRow_heap W g cur (cur.toList.take 0 ++ (encs (Value.int .u8) ys).take (min m xs.length) ++ cur.toList.drop (0 + ((encs (Value.int .u8) ys).take (min m xs.length)).length)).toArray 5 (0, 0) hh
      rw [hlen] at hset hrun
      refine ⟨_, hrun, own_R8 ⟨by simp [encs_length], .inr ⟨g, cap, _, ?_, hg, hset, by simp; omega, hcap, by rw [hlen] at hrow; exact hrow, ?_⟩⟩, below_setRow HB hg _, ⟨rfl, rfl, rfl, by simp [World.setRow], fun k hk hne => setRow_other W g k _ (fun e => hne (by rw [← e]; rfl))⟩⟩
      · congr 1; simp; omega
      · have e1 : (ys.take xs.length ++ xs.drop m).length = xs.length := by simp; omega
        rw [e1, e2, ← hcur2]
        apply List.ext_getElem?
        intro j
        simp only [List.take_zero, List.nil_append, Nat.zero_add, Nat.mul_one, List.getElem?_take, List.getElem?_append, List.getElem?_drop, List.length_take, l1]
        by_cases hj : j < xs.length
        · rw [if_pos hj]
          by_cases hj2 : j < m
          · rw [if_pos (by omega), if_pos (by omega), if_pos (by omega), if_pos (by omega)]
          · rw [if_neg (by omega), if_neg (by omega), if_pos (by omega)]
            congr 1; omega
        · rw [if_neg hj, if_neg (by omega), if_neg (by omega)]
/-- .. as a step of a region that draws its order. -/
theorem copy8_step {ops : Array Oper} {o : Oper} {a : Act} {Q : Exit → Act → World → Prop} {K : Act → World → Prop} {N : Option Tmp} {W : World} (w0 : World) (base : Nat) (hw : Region.wanted o (yielded ops a.tmps) = true) (hN : o.dst = N) (d s : Operand) (ho : o.op = .call { callee := .builtin .copy, args := #[d, s], argTypes := #[22, 22] })
    {v : Value} {A : Option Addr} {m c : Nat} {xs ys : List Int} (hd : a.eval d = v) (hs : a.eval s = .slice A m c) (HO : R8 W base v xs) (HR : C8 W A m ys)
    (HB : Below base w0 W)
    (h : ∀ w1, R8 w1 base v (ys.take xs.length ++ xs.drop m) → Below base w0 w1 → W.grownBy w1 v.ownBlock → K (a.put N (goInt (min m xs.length : Nat))) w1) :
    if Region.wanted o (yielded ops a.tmps) = true then Oper.wp Try.prog o a W K Q else K (a.put N undef) W := by
  obtain ⟨w1, hrun, h1, h2, h3⟩ := copy8_run w0 base o.type HO HR HB
  refine value_ hw hN ?_ (h w1 h1 h2 h3)
  have hrun2 : Sem.run Try.prog (Builtin.copy_ #[22, 22] o.type #[v, Value.slice A m c]) W = Result.ok (goInt ↑(min m xs.length)) w1 := hrun
  simp [execOp, ho, resolve, invoke, builtin, hd, hs, hrun2, Result.andThen]
end Go.Proofs.Ytnanaojjhmpilaa.PW
