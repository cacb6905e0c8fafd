/- The machine's side of functions, in one namespace: each function's call comes to what its Lean function tells. -/
import Derived.Test.YtdbniihjkiecbaaPWx0
import Derived.Test.YtdbniihjkiecbaaPWx2
import Derived.Test.YtdbniihjkiecbaaPWx18
namespace Go.Proofs.Ytdbniihjkiecbaa.PW
open Go.RowKit Go.Proofs.YtdbniihjkiecbaaW.PrintWords Go.Proofs.YtdbniihjkiecbaaW.PrintLast Go.Proofs.YtdbniihjkiecbaaW.PrintMore
attribute [local go_sem] max2_int min2_int max_two min_two max_three min_three max_four min_four   -- for this text's walks alone
set_option linter.unusedVariables false
set_option linter.unusedSimpArgs false

attribute [local go_sem high] eqA40
/-! ### heraldlaw7_wholeEntry: function 13 -/
/-! ### heraldlaw7_num: function 14 -/
def heraldlaw7_num.f (a0 : Int) : Option (Int) := some a0
set_option maxHeartbeats 8000000 in
set_option maxRecDepth 100000 in
theorem heraldlaw7_num.calls (a0 : Int) (r : Int) (w : World) (h : heraldlaw7_num.f a0 = some r) :
    Calls Try.prog 14 #[.int .i64 a0] w fun e w' => e = .returned (.int .i64 r) ∧ Drawn0 w w' := by
  have H : (some a0) = some r := h
  clear h
  obtain rfl := Option.some.inj H
  go_enter Try.func14, Try.ntmps14
  go_wp2; go_ret
  exact ⟨by first | rfl | (simp; done) | (simp [*]; done), by repeat (first | exact Drawn0.refl _ | apply Drawn0.step)⟩

/-! ### heraldlaw7_bytes: function 15 -/
-- NOT PRINTED: function 35 (journal_Walk)

-- NOT PRINTED: function 36 (journal_known)

-- NOT PRINTED: function 20 (journal_Recover)

/-- A state of type 53 at block g of W; what its slices lead to came in by w0. -/
def IsS53 (w0 W : World) (g : Nat) (f0 : Int) (f1 : Int) (f2 : Int) (f3 : Int) (f4 : Int) (f5 : Int) (f6 : ByteArray) (f7 : List (S24)) (f8 : Int) : Prop := ∃ A7 c7, W.heap[g]? = some (.cells #[.int .i64 f0, .int .i64 f1, .int .i64 f2, .int .i64 f3, .int .i64 f4, .int .i64 f5, .string f6, .slice A7 f7.length c7, .int .i64 f8] 53 (0, 0)) ∧ w0.heap.size ≤ g ∧ Kd.C k24 w0 A7 f7.length f7
theorem IsS53.grown {w0 W : World} {g : Nat} {f0 : Int} {f1 : Int} {f2 : Int} {f3 : Int} {f4 : Int} {f5 : Int} {f6 : ByteArray} {f7 : List (S24)} {f8 : Int} {W1 : World} {row : Option Nat} (h : IsS53 w0 W g f0 f1 f2 f3 f4 f5 f6 f7 f8) (hw : W.grownBy W1 row) (hne : some g ≠ row) : IsS53 w0 W1 g f0 f1 f2 f3 f4 f5 f6 f7 f8 := by
  obtain ⟨A7, c7, hb, hg, hr7⟩ := h
  exact ⟨A7, c7, blk_grown hb hw hne, hg, hr7⟩
theorem IsS53.kept {w0 W : World} {g : Nat} {f0 : Int} {f1 : Int} {f2 : Int} {f3 : Int} {f4 : Int} {f5 : Int} {f6 : ByteArray} {f7 : List (S24)} {f8 : Int} {W1 : World} {S : Nat → Prop} (h : IsS53 w0 W g f0 f1 f2 f3 f4 f5 f6 f7 f8) (hk : Kept W W1 S) (hne : ¬ S g) : IsS53 w0 W1 g f0 f1 f2 f3 f4 f5 f6 f7 f8 := by
  obtain ⟨A7, c7, hb, hg, hr7⟩ := h
  exact ⟨A7, c7, blk_kept hb hk hne, hg, hr7⟩
theorem IsS53.below {w0 W : World} {g : Nat} {f0 : Int} {f1 : Int} {f2 : Int} {f3 : Int} {f4 : Int} {f5 : Int} {f6 : ByteArray} {f7 : List (S24)} {f8 : Int} {W1 : World} (h : IsS53 w0 W g f0 f1 f2 f3 f4 f5 f6 f7 f8) (hw : Below W.heap.size W W1) : IsS53 w0 W1 g f0 f1 f2 f3 f4 f5 f6 f7 f8 := h.grown (grown_of_below hw none) (by simp)
theorem IsS53.alloc {w0 W : World} {g : Nat} {f0 : Int} {f1 : Int} {f2 : Int} {f3 : Int} {f4 : Int} {f5 : Int} {f6 : ByteArray} {f7 : List (S24)} {f8 : Int} (h : IsS53 w0 W g f0 f1 f2 f3 f4 f5 f6 f7 f8) (o : Obj) : IsS53 w0 (W.alloc o) g f0 f1 f2 f3 f4 f5 f6 f7 f8 := h.below (below_alloc (Below.refl _ _) o)
theorem IsS53.drewN {w0 W : World} {g : Nat} {f0 : Int} {f1 : Int} {f2 : Int} {f3 : Int} {f4 : Int} {f5 : Int} {f6 : ByteArray} {f7 : List (S24)} {f8 : Int} (h : IsS53 w0 W g f0 f1 f2 f3 f4 f5 f6 f7 f8) (m : Nat) : IsS53 w0 (W.drewN m) g f0 f1 f2 f3 f4 f5 f6 f7 f8 := h
theorem IsS53.drew {w0 W : World} {g : Nat} {f0 : Int} {f1 : Int} {f2 : Int} {f3 : Int} {f4 : Int} {f5 : Int} {f6 : ByteArray} {f7 : List (S24)} {f8 : Int} (h : IsS53 w0 W g f0 f1 f2 f3 f4 f5 f6 f7 f8) : IsS53 w0 W.drew g f0 f1 f2 f3 f4 f5 f6 f7 f8 := h
theorem IsS53.at_ {w0 W : World} {g : Nat} {f0 : Int} {f1 : Int} {f2 : Int} {f3 : Int} {f4 : Int} {f5 : Int} {f6 : ByteArray} {f7 : List (S24)} {f8 : Int} {w' : World} {m : Nat} (hq : W.drewN m = w') (h : IsS53 w0 W g f0 f1 f2 f3 f4 f5 f6 f7 f8) : IsS53 w0 w' g f0 f1 f2 f3 f4 f5 f6 f7 f8 := by subst hq; exact IsS53.drewN h m
theorem IsS53.apart {w0 W : World} {g : Nat} {f0 : Int} {f1 : Int} {f2 : Int} {f3 : Int} {f4 : Int} {f5 : Int} {f6 : ByteArray} {f7 : List (S24)} {f8 : Int} {α : Type} {d : Kd α} {e : Nat} {base : Nat} {ok : Nat → Prop} {v : Value} {xs : List α} (h : IsS53 w0 W g f0 f1 f2 f3 f4 f5 f6 f7 f8) (ho : d.R e W base ok v xs) (ht : ∀ q, q ∈ e :: d.E → q ≠ 53) : d.R e W base (fun k => ok k ∧ k ≠ g) v xs := by
  obtain ⟨A7, c7, hb, hg, hr7⟩ := h
  exact Kd.R_types ho hb ht
theorem IsS53.lt {w0 W : World} {g : Nat} {f0 : Int} {f1 : Int} {f2 : Int} {f3 : Int} {f4 : Int} {f5 : Int} {f6 : ByteArray} {f7 : List (S24)} {f8 : Int} (h : IsS53 w0 W g f0 f1 f2 f3 f4 f5 f6 f7 f8) : g < W.heap.size := by
  obtain ⟨A7, c7, hb, hg, hr7⟩ := h
  exact blk_lt hb
/-! ### journal_last: function 62 -/
-- NOT PRINTED: function 37 (journal_may)

-- NOT PRINTED: function 22 (journal_Compact)

-- NOT PRINTED: function 16 (heraldlaw7_known)

-- NOT PRINTED: function 3 (heraldlaw7_JournalEncodes)

-- NOT PRINTED: function 17 (heraldlaw7_written)

-- NOT PRINTED: function 18 (heraldlaw7_walked)

end Go.Proofs.Ytdbniihjkiecbaa.PW
