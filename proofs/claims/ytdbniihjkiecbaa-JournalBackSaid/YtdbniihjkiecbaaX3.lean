/- Words, contracts and walks of the law JournalBack, in one text. -/
import Derived.Test.YtdbniihjkiecbaaX1
import Derived.Test.YtdbniihjkiecbaaX2
import Derived.Test.YtdbniihjkiecbaaRows
import Derived.WalkKit
import Derived.ProofKit
import Derived.OpenShut
import Derived.ChangeOld
import Derived.Below
import Derived.SizedLaws
import Derived.Deep.Slices
namespace Go.Proofs.Ytdbniihjkiecbaa.PW
open Go.RowKit Go.Proofs.YtdbniihjkiecbaaW.PrintWords Go.Proofs.YtdbniihjkiecbaaW.PrintLast Go.Proofs.YtdbniihjkiecbaaW.PrintMore
set_option linter.unusedVariables false
set_option linter.unusedSimpArgs false
attribute [local go_sem] Oper.semAt_some

/-- While records are gathered: L.take k in the row that block n0 + 3 holds. -/
def WI (w0 : World) (A : Option Addr) (n c : Nat) (K : Int) (L : List JR) (T : Nat → Prop) (k : Nat) (W : World) : Prop :=
  ∃ v okr, Kd.R kJ 28 W w0.heap.size okr v (L.take k) ∧ W.heap[w0.heap.size]? = some (.cells #[.int .i64 K] 3 (0, 0)) ∧ W.heap[w0.heap.size + 1]? = some (.cells #[.slice none 0 0] 43 (0, 0)) ∧ W.heap[w0.heap.size + 2]? = some (.cells #[.bool false] 4 (0, 0)) ∧
    W.heap[w0.heap.size + 3]? = some (.cells #[v] 43 (0, 0)) ∧ W.heap[w0.heap.size + 4]? = some (.cells #[.slice A n c] 29 (0, 0)) ∧ (∀ j, okr j → w0.heap.size + 5 ≤ j ∧ ¬ T j ∧ Celly W j) ∧ Below w0.heap.size w0 W ∧ (k = 0 ∨ (k : Int) < K)
theorem WI_own (w0 : World) (A : Option Addr) (n c : Nat) (K : Int) (L : List JR) : TOwn (w0.heap.size + 5) (WI w0 A n c K L) := by
  rintro T k W W' row T' ⟨v, okr, h1, h2, h3, h4, h5, h6, h7, h8, h9⟩ hg hr hT
  refine ⟨v, okr, Kd.R_step h1 (fun j hj _ => celly_grown (h7 j hj).2.2 hg hr), blk_celly h2 hg hr, blk_celly h3 hg hr, blk_celly h4 hg hr, blk_celly h5 hg hr, blk_celly h6 hg hr, fun j hj => ⟨(h7 j hj).1, fun hx => ?_, (h7 j hj).2.2.grown hg hr⟩, h8.grown hg h8.size (fun r e => by have := (hr r e).1; omega), h9⟩
  rcases hT j hx with h | h
  · exact (h7 j hj).2.1 h
  · have := (h7 j hj).2.2.lt
    omega
/-- Behind the loop's break. -/
def WX (w0 : World) (K : Int) (L : List JR) (W : World) : Prop :=
  ∃ v okr, Kd.R kJ 28 W w0.heap.size okr v (L.take K.toNat) ∧ W.heap[w0.heap.size + 1]? = some (.cells #[.slice none 0 0] 43 (0, 0)) ∧ W.heap[w0.heap.size + 2]? = some (.cells #[.bool false] 4 (0, 0)) ∧
    W.heap[w0.heap.size + 3]? = some (.cells #[v] 43 (0, 0)) ∧ (∀ j, okr j → w0.heap.size + 5 ≤ j ∧ Celly W j) ∧ Below w0.heap.size w0 W
theorem WX_own (w0 : World) (K : Int) (L : List JR) : ∀ (W W' : World) (row : Option Nat), WX w0 K L W → W.grownBy W' row → (∀ r, row = some r → w0.heap.size + 5 ≤ r ∧ ∃ o : Obj, W.heap[r]? = some o ∧ o.isCells = false) → WX w0 K L W' := by
  rintro W W' row ⟨v, okr, h1, h3, h4, h5, h7, h8⟩ hg hr
  exact ⟨v, okr, Kd.R_step h1 (fun j hj _ => celly_grown (h7 j hj).2 hg hr), blk_celly h3 hg hr, blk_celly h4 hg hr, blk_celly h5 hg hr, fun j hj => ⟨(h7 j hj).1, (h7 j hj).2.grown hg hr⟩, h8.grown hg h8.size (fun r e => by have := (hr r e).1; omega)⟩
theorem kJ_nil (W : World) : Kd.C kJ W none 0 [] := ⟨rfl, by omega, fun h => absurd h (by omega)⟩
theorem eqF (f : FuncId) (xs : Array Value) : ∀ W : World, (binOp .eql 74 (.func (.func f) #[] xs) .nilFunc).run Try.prog W = .ok (.bool false) W := fun W => by kernel_rfl
theorem results18_row (tmps : Array Value) (w : World) (p q : Nat) (v : Value) (b : Bool) (h4 : tmps[4]? = some (.pointer (some ⟨p, 0, none⟩))) (h5 : tmps[5]? = some (.pointer (some ⟨q, 0, none⟩))) (c4 : w.cell? ⟨p, 0, none⟩ = some v) (c5 : w.cell? ⟨q, 0, none⟩ = some (.bool b)) (hv : ∃ A n c, v = .slice A n c) :
    (results Try.f18 tmps).run Try.prog w = .ok (.tuple #[v, .bool b]) w := by
  obtain ⟨A, n, c, rfl⟩ := hv
  have hl4 : (loadVar 43 ⟨p, 0, none⟩).run Try.prog w = .ok (.slice A n c) w := by simp [go_sem, c4]
  have hl5 : (loadVar 4 ⟨q, 0, none⟩).run Try.prog w = .ok (.bool b) w := by simp [go_sem, c5]
  simp [results, Try.results18, h4, h5, asAddr, hl4, hl5, Sem.run_bind, Sem.run_pure, Result.andThen_ok]
set_option maxHeartbeats 16000000 in
set_option maxRecDepth 100000 in
theorem walked_R (w : World) (A : Option Addr) (n c : Nat) (lb : List Int) (L : List JR) (K : Int) (hn : lb.length = n) (hc : n ≤ c) (hmx : n ≤ 1000000000) (hC : C8 w A n lb) (hWk : Walks lb 0 0 L) (hLn : L.length ≤ 1000000000) :
    Calls Try.prog 18 #[.slice A n c, .int .i64 K] w fun e w' => ∃ B m cb, e = .returned (.tuple #[.slice B m cb, .bool true]) ∧ (L.take K.toNat).length = m ∧ m ≤ cb ∧ Kd.C kJ w' B m (L.take K.toNat) ∧ Below w.heap.size w w' := by
  have HN := Aside0.mk hn
  have HC := Aside0.mk hC
  have HCC := Aside0.mk hc
  have HM := Aside0.mk hmx
  have HW := Aside0.mk hWk
  have HLN := Aside0.mk hLn
  have hu28 := Try.underlying28
  have hu26 := Try.underlying26
  have hu24 := Try.underlying24
  clear hC hc hn hmx hWk hLn
  refine (callsIn_wide (n := 0)).1 (callsIn_of_wp_marks Try.func18 rfl trivial ?_)
  refine (wpIn_wide (n := 0)).2 ?_
  simp only [Try.ntmps18, List.size_toArray, List.length_cons, List.length_nil, Nat.reduceAdd, Nat.reduceSub, Array.replicate_succ, Array.replicate_zero, List.push_toArray, List.append_toArray, List.nil_append, List.cons_append]
  go_wp2_with fail
  refine (Walk_C A n c _).mono ?_
  rintro e w1 ⟨rfl, rfl⟩
  obtain ⟨w1, hw1⟩ : ∃ w1, w1 = ((((w.alloc (.cells #[.int .i64 K] 3)).alloc (.cells #[.slice none 0 0] 43)).alloc (.cells #[.bool false] 4)).alloc (.cells #[.slice none 0 0] 43)).alloc (.cells #[.slice A n c] 29) := ⟨_, rfl⟩
  have hsz : ((((w.alloc (.cells #[.int .i64 K] 3)).alloc (.cells #[.slice none 0 0] 43)).alloc (.cells #[.bool false] 4)).alloc (.cells #[.slice none 0 0] 43)).heap.size = w.heap.size + 4 := by rw [szA, szA, szA, szA]
  obtain ⟨b0, b1, b2, b3, b4, b5, b6⟩ := blk5 w _ _ _ _ _ hw1
  rw [← hw1, hsz]
  have HB := Aside0.mk (And.intro b0 (And.intro b1 (And.intro b2 (And.intro b3 (And.intro b4 (And.intro b5 b6))))))
  clear hw1 hsz b0 b1 b2 b3 b4 b5 b6
  have hI0 : WI w A n c K L (fun _ => False) 0 w1 := ⟨.slice none 0 0, fun _ => False, Kd.R_nil _ _ _ _ _, HB.out.1, HB.out.2.1, HB.out.2.2.1, HB.out.2.2.2.1, HB.out.2.2.2.2.1, fun j hj => hj.elim, HB.out.2.2.2.2.2.2, .inl rfl⟩
  obtain ⟨b, hb⟩ : ∃ b, b = w.heap.size := ⟨_, rfl⟩
  have he := eqF 59 #[.pointer (some ⟨b + 4, 0, none⟩)]
  rw [← hb]
  have HBW := Aside0.mk hb
  have k0 : w1.cell? ⟨b, 0, none⟩ = some (.int .i64 K) := by rw [hb]; exact (blk_cell HB.out.1 0).trans rfl
  clear hb
  by_cases hK : K < 1
  · have d1 : decide (K < 1) = true := decide_eq_true hK
    have f1 : w1.heap[b + 1]? = some (.cells #[.slice none 0 0] 43 (0, 0)) := by rw [HBW.out]; exact HB.out.2.1
    have f2 : w1.heap[b + 2]? = some (.cells #[.bool false] 4 (0, 0)) := by rw [HBW.out]; exact HB.out.2.2.1
    have c1 := (blk_cell f1 0).trans rfl
    have z1 := blk_frozen f1 0
    have c2 := (blk_cell f2 0).trans rfl
    have z2 := blk_frozen f2 0
    go_wp2_with fail
    obtain ⟨wy, hwy⟩ : ∃ wy, wy = w1.setCell ⟨b + 1, 0, none⟩ (.slice none 0 0) := ⟨_, rfl⟩
    obtain ⟨wz, hwz⟩ : ∃ wz, wz = wy.setCell ⟨b + 2, 0, none⟩ (.bool true) := ⟨_, rfl⟩
    have e1 : (w1.setCell ⟨b + 1, 0, none⟩ (.slice none 0 0)).setCell ⟨b + 1 + 1, 0, none⟩ (.bool true) = wz := by rw [hwz, hwy]
    rw [e1]
    have g1 : wz.heap[b + 1]? = some (.cells #[.slice none 0 0] 43 (0, 0)) := by rw [hwz, hwy]; exact blk_far (blk_put f1 0 _ rfl) (by simp only; omega) _
    have g2 : wz.heap[b + 2]? = some (.cells #[.bool true] 4 (0, 0)) := by rw [hwz, hwy]; exact blk_put (blk_far f2 (by simp only; omega) _) 0 _ rfl
    have hbz : Below w.heap.size w wz := by
      have hbw := HBW.out
      rw [hwz, hwy]
      exact (HB.out.2.2.2.2.2.2.setCell (p := ⟨b + 1, 0, none⟩) (by simp only; omega) _).setCell (p := ⟨b + 2, 0, none⟩) (by simp only; omega) _
    have hK0 : K.toNat = 0 := by omega
    exact ⟨_, results18_row _ _ (b + 1) (b + 2) _ _ rfl rfl ((blk_cell g1 0).trans rfl) ((blk_cell g2 0).trans rfl) ⟨_, _, _, rfl⟩, none, 0, 0, rfl, by rw [hK0]; rfl, Nat.le_refl _, by rw [hK0]; exact kJ_nil wz, hbz⟩
  · have d1 : decide (K < 1) = false := decide_eq_false hK
    go_wp2
    clear k0
    refine rangeWalk (gf := 59) (Bn := b + 4) (fun k y A' c' B => { tmps := #[.slice A n c, .int .i64 K, undef, .pointer (some ⟨b, 0, none⟩), .pointer (some ⟨b + 1, 0, none⟩), .pointer (some ⟨b + 2, 0, none⟩), .pointer (some ⟨b + 3, 0, none⟩), .func (.func 59) #[] #[.pointer (some ⟨b + 4, 0, none⟩)], .int .i64 ((k : Int) + 1), .pointer (some ⟨B, 0, none⟩), .slice A n c, .func (.func 59) #[] #[.pointer (some ⟨b + 4, 0, none⟩)], .func (.func 59) #[] #[.pointer (some ⟨b + 4, 0, none⟩)], .bool false, .int .i64 K, .bool false, .func (.func 59) #[] #[.pointer (some ⟨b + 4, 0, none⟩)], .int .i64 ((k : Int) + 1), .agg (y.cells A' c'), undef, undef, undef, undef, undef, undef, undef, undef, undef, undef, undef, undef, undef, undef], defers := [] }) (fun W => C8 W A n lb) L rfl (enters_ Try.func59 (by kernel_rfl) rfl) rfl (WI w A n c K L) (fun cd W => cd = .exit 0 ∧ WX w K L W) (fun _ => False) ?hI ?hIx ?h0 ?hT0 ?hD ?hit ?assign ?body ?done ?stop
    case hI => exact TOwn.weak (WI_own w A n c K L) (by have := HB.out.2.2.2.2.2.1; omega)
    case hIx => exact fun cd s X Y row hs hg hr => ⟨hs.1, WX_own w K L X Y row hs.2 hg (fun r e => ⟨by have := (hr r e).1; have := HB.out.2.2.2.2.2.1; omega, (hr r e).2⟩)⟩
    case h0 => exact hI0
    case hT0 => exact fun j hj => hj.elim
    case hD => exact fun T k W h => by obtain ⟨v, okr, _, _, _, _, _, _, _, h8, _⟩ := h; exact Kd.C_below HC.out h8
    case hit =>
      rintro T W ⟨v, okr, h1, h2, h3, h4, h5, h6, h7, h8, h9⟩
      exact it59 _ A n c lb L W HN.out HCC.out HM.out HW.out (by rw [HBW.out]; exact blk_cell h6 0)
    case assign =>
      intro l k y A' c' W Kc hKc
      simp only [List.zip_toArray, List.zip_cons_cons, List.zip_nil_left, List.zip_nil_right, List.foldl_toArray, List.foldl_toArray', List.foldl_cons, List.foldl_nil, sx1, sx2, sx3] at hKc ⊢
      refine wpIn_seq ?_
      refine region_round l (by rintro ⟨a, w, h⟩; exact h) (by simp) ?_
      go_wp2
      refine region_round l (by rintro ⟨a, w, h⟩; exact h) (by simp) ?_
      go_wp2
      exact hKc
    case body =>
      rintro T l k y A' c' okx B W hT hTlt hTl hle hloop hy ⟨v, okr, h1, h2, h3, h4, h5, h6, h7, h8, h9⟩ ⟨hR, hokx⟩ hBle hbx
      have hs5 : w1.heap.size = b + 5 := by rw [HBW.out]; exact HB.out.2.2.2.2.2.1
      rw [hs5] at hle hR hokx hBle
      rw [← HBW.out] at h2 h3 h4 h5 h6 h7
      simp only [List.zip_toArray, List.zip_cons_cons, List.zip_nil_left, List.zip_nil_right, List.foldl_toArray, List.foldl_toArray', List.foldl_cons, List.foldl_nil, sx1, sx2, sx3]
      obtain ⟨A1, c1, rfl⟩ := Kd.R_slice h1
      obtain ⟨m1, hm1⟩ : ∃ m1, m1 = (L.take k).length := ⟨_, rfl⟩
      rw [← hm1] at h1 h5
      have hkl : k < L.length := (List.getElem?_eq_some_iff.1 hy).1
      have htk : L.take (k + 1) = L.take k ++ [y] := by
        rw [List.take_add_one, hy]
        rfl
      have hmk : m1 = k := by rw [hm1, List.length_take]; omega
      have FK := Aside0.mk hkl
      have FTK := Aside0.mk htk
      have FMK := Aside0.mk hmk
      have F1 := Aside0.mk h1
      have F2 := Aside0.mk h2
      have F3 := Aside0.mk h3
      have F4 := Aside0.mk h4
      have F5 := Aside0.mk h5
      have F6 := Aside0.mk h6
      have F7 := Aside0.mk h7
      have F8 := Aside0.mk h8
      have F9 := Aside0.mk h9
      have FR := Aside0.mk hR
      have FX := Aside0.mk hokx
      have FT := Aside0.mk hTlt
      have FBL := Aside0.mk hBle
      obtain ⟨m5, hm5⟩ : ∃ m5, m5 = y.ops.length := ⟨_, rfl⟩
      have hbx2 : W.heap[B]? = some (.cells (recCells y.kd y.s y.v y.k y.se y.rq A' m5 c' y.vn y.vp y.vb y.st y.of y.x) 28 (0, 0)) := by rw [hm5]; exact hbx
      have FM5 := Aside0.mk hm5
      have c4 : W.cell? ⟨b + 3, 0, none⟩ = some (.slice A1 m1 c1) := (blk_cell F5.out 0).trans rfl
      have z4 := blk_frozen F5.out 0
      have u0 := (blk_cell hbx2 0).trans rfl
      have u1 := (blk_cell hbx2 1).trans rfl
      have u2 := (blk_cell hbx2 2).trans rfl
      have u3 := (blk_cell hbx2 3).trans rfl
      have u4 := (blk_cell hbx2 4).trans rfl
      have u5 := (blk_cell hbx2 5).trans rfl
      have u6 := (blk_cell hbx2 6).trans rfl
      have u7 := (blk_cell hbx2 7).trans rfl
      have u8 := (blk_cell hbx2 8).trans rfl
      have u9 := (blk_cell hbx2 9).trans rfl
      have u10 := (blk_cell hbx2 10).trans rfl
      have u11 := (blk_cell hbx2 11).trans rfl
      have u12 := (blk_cell hbx2 12).trans rfl
      clear h1 h2 h3 h4 h5 h6 h7 h8 h9 hR hokx hTlt hbx hbx2 hy hs5 hI0 hkl htk hmk hm1 hm5 hBle
      refine wpIn_block ?_
      refine wpIn_seq ?_
      refine region_round l (by rintro ⟨a, w, h⟩; exact h) (by simp) ?_
      go_wp2_with (with_reducible refine stop_append rfl ?_)
      refine Kd.R_append kJ (w0 := w) w.heap.size rfl (.tmp 19) (.tmp 21) 43 28 zeroRec 128 rfl u43 infoJ rfl (by decide) (by decide) (.slice A1 m1 c1) (L.take k) y (recL y (.slice A' m5 c')) (fun j => okr j ∨ okx j ∨ W.heap.size ≤ j) okx rfl rfl
        (kJ_mkM _ _ _ _ (by rw [FM5.out]; exact Kd.R_lower FR.out (by have := HBW.out; omega))) (fun j hj => ⟨.inr (.inl hj), fun e => (F7.out j (F1.out.1 j e.symm)).2.1 (.inr hj)⟩) (fun j hj => .inr (.inr hj)) (Kd.R_mono F1.out (fun j hj => .inl hj)) F8.out F8.out.size (by rw [List.length_take]; have := HLN.out; omega) ?_
      intro v1 w2 ho hb hg hat
      rw [← FTK.out] at ho
      obtain ⟨A2, c2, rfl⟩ := Kd.R_slice ho
      obtain ⟨nn, hnn⟩ : ∃ nn, nn = (L.take (k + 1)).length := ⟨_, rfl⟩
      have hnk : (nn : Int) = (k : Int) + 1 := by have := FK.out; rw [hnn, List.length_take]; omega
      rw [← hnn] at ho ⊢
      have hne : ∀ i, i < 5 → some (b + i) ≠ (Value.slice A1 m1 c1).ownBlock := fun i hi e => by
        have := (F7.out _ (F1.out.1 _ e.symm)).1
        omega
      have hb3 := blk_grown F5.out hg (hne 3 (by omega))
      have c61 : w2.cell? ⟨b + 3, 0, none⟩ = some (.slice A1 m1 c1) := (blk_cell hb3 0).trans rfl
      have z61 := blk_frozen hb3 0
      have G1 := Aside0.mk ho
      have G2 := Aside0.mk hg
      have G3 := Aside0.mk hb3
      have G4 := Aside0.mk (And.intro (blk_grown F2.out hg (hne 0 (by omega))) (And.intro (blk_grown F3.out hg (hne 1 (by omega))) (And.intro (blk_grown F4.out hg (hne 2 (by omega))) (blk_grown F6.out hg (hne 4 (by omega))))))
      have G5 := Aside0.mk hb
      have GN := Aside0.mk hnn
      have GK := Aside0.mk hnk
      clear ho hb hg hat hb3 c4 z4 u0 u1 u2 u3 u4 u5 u6 u7 u8 u9 u10 u11 u12 hnn hne hnk
      go_wp2
      obtain ⟨W2, hW2⟩ : ∃ W2, W2 = w2.setCell ⟨b + 3, 0, none⟩ (.slice A2 nn c2) := ⟨_, rfl⟩
      rw [← hW2]
      have hb5 : W2.heap[b + 3]? = some (.cells #[.slice A2 nn c2] 43 (0, 0)) := by rw [hW2]; exact blk_put G3.out 0 _ rfl
      have hfar : ∀ j, j ≠ b + 3 → W2.heap[j]? = w2.heap[j]? := fun j hj => by rw [hW2]; exact Below.heap_setCell w2 _ _ j hj
      have hbw := HBW.out
      have hW5 : b + 5 ≤ W.heap.size := by
        have h1 := blk_lt F6.out
        omega
      have hrow : Kd.R kJ 28 W2 w.heap.size (fun j => (okr j ∨ okx j ∨ W.heap.size ≤ j) ∧ Celly w2 j ∧ j ≠ b + 3 ∧ b + 5 ≤ j) (.slice A2 nn c2) (L.take (k + 1)) := by
        refine Kd.R_step (Kd.R_mono (R_celly G1.out) (fun j hj => ⟨hj.1, hj.2.2, ?_, ?_⟩)) (fun j hj _ => hfar j hj.2.2.1)
        · rcases hj.1 with h | h | h
          · have := (F7.out j h).1
            omega
          · have := (FX.out j h).2.1
            omega
          · omega
        · rcases hj.1 with h | h | h
          · exact (F7.out j h).1
          · exact (FX.out j h).2.1
          · omega
      have hcel : ∀ j, ((okr j ∨ okx j ∨ W.heap.size ≤ j) ∧ Celly w2 j ∧ j ≠ b + 3 ∧ b + 5 ≤ j) → b + 5 ≤ j ∧ ¬ T j ∧ Celly W2 j := by
        intro j hj
        refine ⟨hj.2.2.2, fun hT => ?_, ?_⟩
        · rcases hj.1 with h | h | h
          · exact (F7.out j h).2.1 (.inl hT)
          · exact (FX.out j h).1 hT
          · have := FT.out j hT
            omega
        · obtain ⟨cs, q, hc⟩ := hj.2.1
          exact ⟨cs, q, (hfar j hj.2.2.1).trans hc⟩
      have hbel : Below w.heap.size w W2 := by
        rw [hW2]
        exact below_set G5.out (by omega)
      have hTk : ∀ j, T j ∧ w1.heap.size ≤ j → W2.heap[j]? = W.heap[j]? := fun j hj => by
        have h4 := HB.out.2.2.2.2.2.1
        exact (hfar j (by omega)).trans (G2.out.block j (FT.out j hj.1) (fun e => (F7.out j (F1.out.1 j e.symm)).2.1 (.inl hj.1)))
      have c62 : W2.cell? ⟨b + 3, 0, none⟩ = some (.slice A2 nn c2) := (blk_cell hb5 0).trans rfl
      have gb : W2.heap[b]? = some (.cells #[.int .i64 K] 3 (0, 0)) := (hfar _ (by omega)).trans (by have := G4.out.1; exact this)
      have g1 : W2.heap[b + 1]? = some (.cells #[.slice none 0 0] 43 (0, 0)) := (hfar _ (by omega)).trans G4.out.2.1
      have g2 : W2.heap[b + 2]? = some (.cells #[.bool false] 4 (0, 0)) := (hfar _ (by omega)).trans G4.out.2.2.1
      have g4 : W2.heap[b + 4]? = some (.cells #[.slice A n c] 29 (0, 0)) := (hfar _ (by omega)).trans G4.out.2.2.2
      have k0 : W2.cell? ⟨b, 0, none⟩ = some (.int .i64 K) := (blk_cell gb 0).trans rfl
      have HROW := Aside0.mk hrow
      have HCEL := Aside0.mk hcel
      have HBEL := Aside0.mk hbel
      have HTK := Aside0.mk hTk
      have HGB := Aside0.mk (And.intro gb (And.intro g1 (And.intro g2 (And.intro hb5 g4))))
      have q1 : (((k : Int) + 1) == (nn : Int)) = true := by rw [GK.out]; simp
      have q2 : decide (((k : Int) + 1) = (nn : Int)) = true := decide_eq_true GK.out.symm
      have q3 : (((k : Int) + 1) != (nn : Int)) = false := by rw [GK.out]; simp
      clear hW2 hfar hrow hcel hbel hTk gb g1 g2 hb5 g4 c61 z61 hbw hW5
      refine wpIn_seq ?_
      refine wpIn_seq ?_
      refine region_round l (by rintro ⟨a, w, h⟩; exact h) (by simp) ?_
      go_wp2
      refine wpIn_cond_false (by rfl) ?_
      refine wpIn_skip ?_
      simp only [Exit.then]
      refine wpIn_seq ?_
      refine region_round l (by rintro ⟨a, w, h⟩; exact h) (by simp) ?_
      by_cases hKK : (nn : Int) = K
      · have e1 : ((nn : Int) == K) = true := by rw [hKK]; simp
        have e2 : decide ((nn : Int) = K) = true := decide_eq_true hKK
        go_wp2
        refine wpIn_cond_true (by rfl) ?_
        refine wpIn_exit ?_
        show (∀ k, T k ∧ w1.heap.size ≤ k → W2.heap[k]? = W.heap[k]?) ∧ Code.exit 0 = Code.exit 0 ∧ WX w K L W2
        have hbw := HBW.out
        have hk1 : K.toNat = k + 1 := by have := GK.out; omega
        refine ⟨HTK.out, rfl, _, _, by rw [hk1]; exact HROW.out, ?_, ?_, ?_, fun j hj => ?_, HBEL.out⟩
        · rw [← hbw]; exact HGB.out.2.1
        · rw [← hbw]; exact HGB.out.2.2.1
        · rw [← hbw]; exact HGB.out.2.2.2.1
        · rw [← hbw]; exact ⟨(HCEL.out j hj).1, (HCEL.out j hj).2.2⟩
      · have e1 : ((nn : Int) == K) = false := by simpa using hKK
        have e2 : decide ((nn : Int) = K) = false := decide_eq_false hKK
        go_wp2
        refine wpIn_cond_false (by rfl) ?_
        refine wpIn_skip ?_
        show (∀ k, T k ∧ w1.heap.size ≤ k → W2.heap[k]? = W.heap[k]?) ∧ WI w A n c K L T (k + 1) W2
        have hbw := HBW.out
        refine ⟨HTK.out, _, _, HROW.out, ?_, ?_, ?_, ?_, ?_, fun j hj => ?_, HBEL.out, .inr ?_⟩
        · rw [← hbw]; exact HGB.out.1
        · rw [← hbw]; exact HGB.out.2.1
        · rw [← hbw]; exact HGB.out.2.2.1
        · rw [← hbw]; exact HGB.out.2.2.2.1
        · rw [← hbw]; exact HGB.out.2.2.2.2
        · rw [← hbw]; exact HCEL.out j hj
        · have h9 := F9.out
          have := GK.out
          have := FMK.out
          omega
    case done =>
      rintro D W hD ⟨v, okr, h1, h2, h3, h4, h5, h6, h7, h8, h9⟩ hK2
      have hX : WX w K L W := by
        refine ⟨v, okr, ?_, h3, h4, h5, fun j hj => ⟨(h7 j hj).1, (h7 j hj).2.2⟩, h8⟩
        have e : L.take K.toNat = L.take L.length := by
          rw [List.take_length]
          exact List.take_of_length_le (by omega)
        rw [e]
        exact h1
      clear h1 h2 h3 h4 h5 h6 h7 h8 h9
      obtain ⟨v, okr, h1, h3, h4, h5, h7, h8⟩ := hX
      rw [← HBW.out] at h3 h4 h5
      obtain ⟨A1, c1, rfl⟩ := Kd.R_slice h1
      obtain ⟨nn, hnn⟩ : ∃ nn, nn = (L.take K.toNat).length := ⟨_, rfl⟩
      rw [← hnn] at h1 h5
      have hb5 : b + 5 ≤ D := by have := HB.out.2.2.2.2.2.1; have := HBW.out; omega
      have F1 := Aside0.mk h1
      have F3 := Aside0.mk h3
      have F4 := Aside0.mk h4
      have F5 := Aside0.mk h5
      have F7 := Aside0.mk h7
      have F8 := Aside0.mk h8
      have FD := Aside0.mk hK2
      have FB := Aside0.mk hb5
      have FN := Aside0.mk hnn
      have c1' := (blk_cell F3.out 0).trans rfl
      have z1' := blk_frozen F3.out 0
      have c2' := (blk_cell F4.out 0).trans rfl
      have z2' := blk_frozen F4.out 0
      have c3' := (blk_cell F5.out 0).trans rfl
      clear h1 h3 h4 h5 h7 h8 hK2 hb5 hI0 hD hnn
      go_wp2
      obtain ⟨wy, hwy⟩ : ∃ wy, wy = W.setCell ⟨b + 1, 0, none⟩ (.slice A1 nn c1) := ⟨_, rfl⟩
      obtain ⟨wz, hwz⟩ : ∃ wz, wz = wy.setCell ⟨b + 2, 0, none⟩ (.bool true) := ⟨_, rfl⟩
      have e1 : (W.setCell ⟨b + 1, 0, none⟩ (.slice A1 nn c1)).setCell ⟨b + 2, 0, none⟩ (.bool true) = wz := by rw [hwz, hwy]
      rw [e1]
      have hbw := HBW.out
      have hdb := FB.out
      have hfar : ∀ j, j ≠ b + 1 → j ≠ b + 2 → wz.heap[j]? = W.heap[j]? := fun j hj1 hj2 => by rw [hwz, hwy, Below.heap_setCell _ _ _ j hj2, Below.heap_setCell _ _ _ j hj1]
      have g1 : wz.heap[b + 1]? = some (.cells #[.slice A1 nn c1] 43 (0, 0)) := by rw [hwz, hwy]; exact blk_far (blk_put F3.out 0 _ rfl) (by simp only; omega) _
      have g2 : wz.heap[b + 2]? = some (.cells #[.bool true] 4 (0, 0)) := by rw [hwz, hwy]; exact blk_put (blk_far F4.out (by simp only; omega) _) 0 _ rfl
      have gD : wz.heap[D]? = some (.deferred (some [])) := (hfar D (by omega) (by omega)).trans FD.out
      have hbz : Below w.heap.size w wz := by
        rw [hwz, hwy]
        exact (F8.out.setCell (p := ⟨b + 1, 0, none⟩) (by simp only; omega) _).setCell (p := ⟨b + 2, 0, none⟩) (by simp only; omega) _
      refine ⟨by simp, .inl ⟨_, _, rfl, run_takeDeferred gD, ?_⟩⟩
      have p1 : (wz.putObj D (.deferred none)).heap[b + 1]? = some (.cells #[.slice A1 nn c1] 43 (0, 0)) := (World.putObj_heap_other (by omega)).trans g1
      have p2 : (wz.putObj D (.deferred none)).heap[b + 2]? = some (.cells #[.bool true] 4 (0, 0)) := (World.putObj_heap_other (by omega)).trans g2
      have hrow : Kd.R kJ 28 (wz.putObj D (.deferred none)) w.heap.size okr (.slice A1 nn c1) (L.take K.toNat) := by
        refine Kd.R_step F1.out (fun j hj _ => ?_)
        have h7 := F7.out j hj
        have hne : j ≠ D := fun e => by
          obtain ⟨cs, q, hc⟩ := h7.2
          have h8 := FD.out
          rw [← e, hc] at h8
          cases h8
        exact (World.putObj_heap_other hne).trans (hfar j (by have := h7.1; omega) (by have := h7.1; omega))
      obtain ⟨A9, c9, e9, l9, C9⟩ := Kd.R_reads hrow
      injection e9 with e91 e92 e93
      subst e91
      subst e93
      exact ⟨_, results18_row _ _ (b + 1) (b + 2) _ _ rfl rfl ((blk_cell p1 0).trans rfl) ((blk_cell p2 0).trans rfl) ⟨_, _, _, rfl⟩, _, nn, _, rfl, FN.out.symm, by rw [FN.out]; exact l9, by rw [FN.out]; exact C9, hbz.grown (grownBy_putObj' _ D _) hbz.size (fun r e => by cases e; omega)⟩
    case stop =>
      rintro D cd W hD ⟨rfl, hX⟩ hK2
      refine wp_exit ?_
      obtain ⟨v, okr, h1, h3, h4, h5, h7, h8⟩ := hX
      rw [← HBW.out] at h3 h4 h5
      obtain ⟨A1, c1, rfl⟩ := Kd.R_slice h1
      obtain ⟨nn, hnn⟩ : ∃ nn, nn = (L.take K.toNat).length := ⟨_, rfl⟩
      rw [← hnn] at h1 h5
      have hb5 : b + 5 ≤ D := by have := HB.out.2.2.2.2.2.1; have := HBW.out; omega
      have F1 := Aside0.mk h1
      have F3 := Aside0.mk h3
      have F4 := Aside0.mk h4
      have F5 := Aside0.mk h5
      have F7 := Aside0.mk h7
      have F8 := Aside0.mk h8
      have FD := Aside0.mk hK2
      have FB := Aside0.mk hb5
      have FN := Aside0.mk hnn
      have c1' := (blk_cell F3.out 0).trans rfl
      have z1' := blk_frozen F3.out 0
      have c2' := (blk_cell F4.out 0).trans rfl
      have z2' := blk_frozen F4.out 0
      have c3' := (blk_cell F5.out 0).trans rfl
      clear h1 h3 h4 h5 h7 h8 hK2 hb5 hI0 hD hnn
      go_wp2
      obtain ⟨wy, hwy⟩ : ∃ wy, wy = W.setCell ⟨b + 1, 0, none⟩ (.slice A1 nn c1) := ⟨_, rfl⟩
      obtain ⟨wz, hwz⟩ : ∃ wz, wz = wy.setCell ⟨b + 2, 0, none⟩ (.bool true) := ⟨_, rfl⟩
      have e1 : (W.setCell ⟨b + 1, 0, none⟩ (.slice A1 nn c1)).setCell ⟨b + 2, 0, none⟩ (.bool true) = wz := by rw [hwz, hwy]
      rw [e1]
      have hbw := HBW.out
      have hdb := FB.out
      have hfar : ∀ j, j ≠ b + 1 → j ≠ b + 2 → wz.heap[j]? = W.heap[j]? := fun j hj1 hj2 => by rw [hwz, hwy, Below.heap_setCell _ _ _ j hj2, Below.heap_setCell _ _ _ j hj1]
      have g1 : wz.heap[b + 1]? = some (.cells #[.slice A1 nn c1] 43 (0, 0)) := by rw [hwz, hwy]; exact blk_far (blk_put F3.out 0 _ rfl) (by simp only; omega) _
      have g2 : wz.heap[b + 2]? = some (.cells #[.bool true] 4 (0, 0)) := by rw [hwz, hwy]; exact blk_put (blk_far F4.out (by simp only; omega) _) 0 _ rfl
      have gD : wz.heap[D]? = some (.deferred (some [])) := (hfar D (by omega) (by omega)).trans FD.out
      have hbz : Below w.heap.size w wz := by
        rw [hwz, hwy]
        exact (F8.out.setCell (p := ⟨b + 1, 0, none⟩) (by simp only; omega) _).setCell (p := ⟨b + 2, 0, none⟩) (by simp only; omega) _
      refine ⟨by simp, .inl ⟨_, _, rfl, run_takeDeferred gD, ?_⟩⟩
      have p1 : (wz.putObj D (.deferred none)).heap[b + 1]? = some (.cells #[.slice A1 nn c1] 43 (0, 0)) := (World.putObj_heap_other (by omega)).trans g1
      have p2 : (wz.putObj D (.deferred none)).heap[b + 2]? = some (.cells #[.bool true] 4 (0, 0)) := (World.putObj_heap_other (by omega)).trans g2
      have hrow : Kd.R kJ 28 (wz.putObj D (.deferred none)) w.heap.size okr (.slice A1 nn c1) (L.take K.toNat) := by
        refine Kd.R_step F1.out (fun j hj _ => ?_)
        have h7 := F7.out j hj
        have hne : j ≠ D := fun e => by
          obtain ⟨cs, q, hc⟩ := h7.2
          have h8 := FD.out
          rw [← e, hc] at h8
          cases h8
        exact (World.putObj_heap_other hne).trans (hfar j (by have := h7.1; omega) (by have := h7.1; omega))
      obtain ⟨A9, c9, e9, l9, C9⟩ := Kd.R_reads hrow
      injection e9 with e91 e92 e93
      subst e91
      subst e93
      exact ⟨_, results18_row _ _ (b + 1) (b + 2) _ _ rfl rfl ((blk_cell p1 0).trans rfl) ((blk_cell p2 0).trans rfl) ⟨_, _, _, rfl⟩, _, nn, _, rfl, FN.out.symm, by rw [FN.out]; exact l9, by rw [FN.out]; exact C9, hbz.grown (grownBy_putObj' _ D _) hbz.size (fun r e => by cases e; omega)⟩
end Go.Proofs.Ytdbniihjkiecbaa.PW
namespace Go.Proofs.Ytdbniihjkiecbaa.PW
open Go.RowKit Go.Proofs.YtdbniihjkiecbaaW.PrintWords Go.Proofs.YtdbniihjkiecbaaW.PrintLast Go.Proofs.YtdbniihjkiecbaaW.PrintMore
set_option linter.unusedVariables false
set_option linter.unusedSimpArgs false

set_option maxHeartbeats 8000000 in
set_option maxRecDepth 100000 in
theorem record_N (kd s v k se rq : Int) (A B : Option Addr) (c d n : Nat) (l : List S40) (vn vp vb st of : Int) (x : ByteArray) (w : World) (hn : l.length = n) (hm : n ≤ 3000000000000) (hA : Kd.C k40 w A n l) (hc : n ≤ c) (hB : Kd.C k40 w B n l) (hd : n ≤ d) :
    Calls Try.prog 19 #[.agg (recCells kd s v k se rq A n c vn vp vb st of x), .agg (recCells kd s v k se rq B n d vn vp vb st of x)] w fun e w' => e = .returned (.bool true) ∧ Below w.heap.size w w' := by
  have hu28 := Try.underlying28
  have hu26 := Try.underlying26
  have hu24 := Try.underlying24
  have HA := Aside0.mk hA
  have HB := Aside0.mk hB
  clear hA hB
  go_enter Try.func19, Try.ntmps19
  go_wp2_with fail
  have hb : Below w.heap.size w ((w.alloc (.cells (recCells kd s v k se rq A n c vn vp vb st of x) 28)).alloc (.cells (recCells kd s v k se rq B n d vn vp vb st of x) 28)) := below_alloc (below_alloc (Below.refl _ _) _) _
  refine (entry_N s v k se rq l A B c d n _ hn hm (Kd.C_below HA.out hb) hc (Kd.C_below HB.out hb) hd).mono ?_
  rintro e w1 ⟨rfl, hb1⟩
  have HZ := Aside0.mk (below_step hb hb1)
  clear hb hb1
  go_wp2
  go_ret
  exact ⟨rfl, HZ.out⟩
end Go.Proofs.Ytdbniihjkiecbaa.PW
namespace Go.Proofs.Ytdbniihjkiecbaa.PW
open Go.RowKit Go.Proofs.YtdbniihjkiecbaaW.PrintWords Go.Proofs.YtdbniihjkiecbaaW.PrintLast Go.Proofs.YtdbniihjkiecbaaW.PrintMore
set_option linter.unusedVariables false
set_option linter.unusedSimpArgs false

set_option maxHeartbeats 4000000 in
set_option maxRecDepth 100000 in
theorem compact_long (vn vp vb ma st of : Int) (x : ByteArray) (E : Option Addr) (ne ce : Nat) (co : Int) (w : World) (hx : 200000 < x.size) :
    Calls Try.prog 22 #[.agg (savedCells vn vp vb ma st of x E ne ce co)] w fun e w' => e = .returned (.tuple #[.slice none 0 0, .int .i64 0, .int .i64 2]) ∧ Below w.heap.size w w' := by
  have hu53 := Try.underlying53
  have hu26 := Try.underlying26
  obtain ⟨nx, hnx⟩ : ∃ nx, nx = x.size := ⟨_, rfl⟩
  have d1 : decide ((200000 : Int) < (x.size : Int)) = true := decide_eq_true (by omega)
  have d2 : decide (200000 < x.size) = true := decide_eq_true hx
  go_enter Try.func22, Try.ntmps22
  go_wp2
  go_ret3
  exact ⟨rfl, below_alloc (Below.refl _ _) _⟩
set_option maxHeartbeats 4000000 in
set_option maxRecDepth 100000 in
theorem known_C (w : World) : Calls Try.prog 16 #[] w fun e w' => e = .returned (.bool true) ∧ Below w.heap.size w w' := by
  have hu53 := Try.underlying53
  have hu26 := Try.underlying26
  have hu28 := Try.underlying28
  go_enter Try.func16, Try.ntmps16
  go_wp2_with fail
  refine (encode_C 1 2 0 0 0 0 0 none 0 0 [] 1 1 2 0 0 ⟨#[]⟩ w rfl (R40_C (Kd.R_nil _ _ _ _ _ : R40 w 0 (.slice none 0 0) [])) (Nat.zero_le _) b23 0 b23_enc).mono ?_
  rintro e w1 ⟨V, rfl, ho, hb⟩
  obtain ⟨A, c, hV, hc, hC⟩ : ∃ A c, V = .slice A 23 c ∧ 23 ≤ c ∧ C8 w1 A 23 b23 := by
    obtain ⟨A, c, h1, h2, h3⟩ := Kd.R_reads ho
    exact ⟨A, c, h1, h2, h3⟩
  subst hV
  have HB1 := Aside0.mk hb
  have HC1 := Aside0.mk hC
  have HCC := Aside0.mk hc
  clear hb ho hC hc
  go_wp2_with fail
  refine (num_N 0 w1).mono ?_
  rintro e w2 ⟨rfl, hd⟩
  have HB2 := Aside0.mk (below_step HB1.out hd.below)
  have HC2 := Aside0.mk (Kd.C_below HC1.out hd.below)
  clear hd HB1 HC1
  go_wp2_with (with_reducible refine stop_make rfl ?_)
  refine mkn8 (C := 200001) w2 w2.heap.size rfl rfl _ _ rfl rfl rfl (by omega) (by omega) (Below.refl _ _) (Nat.le_refl _) ?_
  intro v3 w3 ho hb hg hat
  obtain ⟨l, hl⟩ : ∃ l, l = List.replicate (200001 : Int).toNat (0 : Int) := ⟨_, rfl⟩
  rw [← hl] at ho
  obtain ⟨A3, c3, rfl, hc3, hC3⟩ := Kd.R_reads ho
  have hll : l.length = 200001 := by rw [hl]; exact List.length_replicate
  rw [hll] at hC3 ⊢
  have HB3 := Aside0.mk (below_step HB2.out hb)
  have HC3 := Aside0.mk hC3
  have HCD := Aside0.mk (Kd.C_below HC2.out hb)
  have HL := Aside0.mk hl
  clear ho hb hg hat hc3 hC3 hl
  go_wp2_with (with_reducible refine stop_convert rfl ?_)
  refine str8 rfl _ rfl rfl HC3.out ?_
  obtain ⟨x, hx⟩ : ∃ x, x = strOfNums l := ⟨_, rfl⟩
  rw [← hx]
  have HX := Aside0.mk (show 200000 < x.size by
    have h1 := bytesOf_str l (by rw [HL.out]; unfold bytesOk; exact List.all_eq_true.2 (fun b hb => by rw [List.eq_of_mem_replicate hb]; rfl))
    have h2 := bytesOf_length (strOfNums l)
    rw [h1, hll] at h2
    rw [hx]
    omega)
  clear hx hll
  go_wp2_with fail
  refine (compact_long 0 0 0 0 (-1) 0 x none 0 0 0 w3 HX.out).mono ?_
  rintro e w4 ⟨rfl, hb⟩
  have HB4 := Aside0.mk (below_step HB3.out hb)
  have HC4 := Aside0.mk (Kd.C_below HCD.out hb)
  clear hb
  go_wp2_with fail
  refine (num_N 2 w4).mono ?_
  rintro e w5 ⟨rfl, hd⟩
  have HB5 := Aside0.mk (below_step HB4.out hd.below)
  have HC5 := Aside0.mk (Kd.C_below HC4.out hd.below)
  clear hd
  go_wp2_with fail
  refine (num_N 2 w5).mono ?_
  rintro e w6 ⟨rfl, hd⟩
  have HB6 := Aside0.mk (below_step HB5.out hd.below)
  have HC6 := Aside0.mk (Kd.C_below HC5.out hd.below)
  clear hd
  go_wp2_with fail
  refine (recover_23 w6 A c HC6.out HCC.out).mono ?_
  rintro e w7 ⟨rfl, hb⟩
  have HB7 := Aside0.mk (below_step HB6.out hb)
  clear hb
  go_wp2
  go_ret
  exact ⟨rfl, below_alloc HB7.out _⟩
end Go.Proofs.Ytdbniihjkiecbaa.PW
namespace Go.Proofs.Ytdbniihjkiecbaa.PW
open Go.RowKit Go.Proofs.YtdbniihjkiecbaaW.PrintWords Go.Proofs.YtdbniihjkiecbaaW.PrintLast Go.Proofs.YtdbniihjkiecbaaW.PrintMore
set_option linter.unusedVariables false
set_option linter.unusedSimpArgs false

theorem wrGo_cnt : ∀ (l : List JR) (d es : List Int) (ys : List JR), es.length = ys.length → Enc 0 ys d → ys.length ≤ 3000 → (wrGo l (d, es, ys)).2.2.length ≤ 3000
  | [], d, es, ys, he, hE, h => h
  | y :: l, d, es, ys, he, hE, h => by
    unfold wrGo
    by_cases h6 : d.length < 60000
    · rw [if_pos h6]
      by_cases h0 : (y.enc ((es.length : Int) + 1)).2 = 0
      · rw [if_pos h0]
        have hE2 : Enc 0 (ys ++ [y]) (d ++ (y.enc ((es.length : Int) + 1)).1) := Enc_snoc ys 0 d _ y hE (by rw [Nat.zero_add, ← he]; exact Prod.ext rfl h0)
        have := (Enc_ok ys 0 d hE).2
        exact wrGo_cnt l _ _ _ (by simp [he]) hE2 (by rw [List.length_append, List.length_cons, List.length_nil]; omega)
      · rw [if_neg h0]
        exact wrGo_cnt l _ _ _ he hE h
    · rw [if_neg h6]
      exact h
theorem enc_fail {y : JR} {sq : Int} (h : (y.enc sq).2 ≠ 0) : (y.enc sq).1 = [] := by
  unfold JR.enc recEnc at h ⊢
  split
  · rfl
  · rename_i h1
    rw [if_neg h1] at h
    split
    · rename_i h2
      rw [if_pos h2] at h
      exact absurd rfl h
    · rfl
theorem walks_nil : Walks [] 0 0 [] := by
  show RdSpec (([] : List Int).drop 0) 1 none
  intro w A n c hn hc hC
  obtain rfl : 0 = n := hn
  exact read_short w A 0 c _ (by omega)
/-- One record that bears another number, or none: nothing is walked. -/
theorem enc_walks (y : JR) (sq : Int) (hne : sq ≠ 1) : Walks (y.enc sq).1 0 0 [] := by
  by_cases h : (y.enc sq).2 = 0
  · exact other_walks y sq _ (Prod.ext rfl h) hne
  · rw [enc_fail h]
    exact walks_nil
theorem rd_J_get {l : List JR} {i : Nat} (h : i < l.length) : rd_J l (i : Int) = l[i] := by
  unfold rd_J
  rw [Int.toNat_natCast, List.getD_eq_getElem?_getD, List.getElem?_eq_getElem h]
  rfl
set_option maxHeartbeats 32000000 in
set_option maxRecDepth 100000 in
theorem journalBack_walk (w : World) (A : Option Addr) (n c : Nat) (l : List JR) (sq : Int) (hn : l.length = n) (hc : n ≤ c) (hm : n ≤ 2513169434843) (hC : Kd.C kJ w A n l) (hops : ∀ y ∈ l, y.ops.length ≤ 2513169434843) :
    Calls Try.prog 4 #[.slice A n c, .int .i64 sq] w fun e w' => e = .returned (.bool true) ∧ Below w.heap.size w w' := by
  have hu28 := Try.underlying28
  have hu26 := Try.underlying26
  have hu24 := Try.underlying24
  have HN := Aside0.mk hn
  have HC := Aside0.mk hC
  have HCC := Aside0.mk hc
  have HOP := Aside0.mk hops
  obtain ⟨D, ES, YS, hF⟩ : ∃ D ES YS, wrGo l ([], [], []) = (D, ES, YS) := ⟨_, _, _, rfl⟩
  obtain ⟨zs, z1, z2, z3, z4⟩ := wrGo_pick l [] [] [] rfl rfl
  have z5 := wrGo_len l [] [] [] (by simp)
  have z6 := wrGo_cnt l [] [] [] rfl rfl (by simp)
  rw [hF] at z1 z3 z4 z5 z6
  simp only [List.nil_append] at z1 z3 z4 z5 z6
  subst z1
  have z7 := Enc_ok _ _ _ z3
  have hW := Enc_walks YS 0 [] D z3 (by simp only [List.nil_append]; omega)
  have HF := Aside0.mk hF
  have HP := Aside0.mk z2
  have HES := Aside0.mk z4
  have HWK := Aside0.mk hW
  have HDL := Aside0.mk z5
  have HYL := Aside0.mk z6
  clear hn hC hc hops hF z2 z3 z4 z5 z6 z7 hW
  go_enter Try.func4, Try.ntmps4
  go_wp2_with fail
  refine (written_R w A n c l HN.out HCC.out hm HC.out).mono ?_
  rintro e w1 ⟨V, U, rfl, hv, hu, hb⟩
  rw [HF.out] at hv hu
  simp only at hv hu
  obtain ⟨A1, c1, rfl, h1, h2⟩ := Kd.R_reads hv
  obtain ⟨A2, c2, rfl, h3, h4⟩ := Kd.R_reads hu
  obtain ⟨m1, hm1⟩ : ∃ m1, m1 = D.length := ⟨_, rfl⟩
  obtain ⟨m2, hm2⟩ : ∃ m2, m2 = YS.length := ⟨_, rfl⟩
  rw [HES.out, ← hm2] at h3 h4 ⊢
  rw [← hm1] at h1 h2 ⊢
  have HM1 := Aside0.mk hm1
  have HM2 := Aside0.mk hm2
  have H1 := Aside0.mk h1
  have H2 := Aside0.mk h2
  have HB1 := Aside0.mk hb
  clear hv hu h1 h2 h3 h4 hb hm1 hm2
  go_wp2_with fail
  refine (walked_R w1 A1 m1 c1 D YS 60000 HM1.out.symm H1.out (by have := HDL.out; have := HM1.out; omega) H2.out HWK.out (by have := HYL.out; omega)).mono ?_
  rintro e w2 ⟨A3, m3, c3, rfl, hm3, hc3, hC3, hb⟩
  rw [show YS.take (60000 : Int).toNat = YS from List.take_of_length_le (by have := HYL.out; have : (60000 : Int).toNat = 60000 := rfl; omega)] at hm3 hC3
  obtain rfl : m2 = m3 := by rw [← hm3]; exact HM2.out
  have HC3 := Aside0.mk hC3
  have HCC3 := Aside0.mk hc3
  have HB2 := Aside0.mk (below_step HB1.out hb)
  clear hm3 hc3 hC3 hb H1 H2 HB1
  have t1 : ((m2 : Int) == (m2 : Int)) = true := by simp
  have hm2' : m2 ≤ 3000 := by rw [HM2.out]; exact HYL.out
  go_wp2
  go_loopw [9, 10] (fun v9 v10 wr => ∃ k i : Nat, i ≤ n ∧ k ≤ m2 ∧ v9 = .int .i64 (k : Int) ∧ v10 = .int .i64 (i : Int) ∧ Aside0 (Pick k (l.drop i) (YS.drop k)) ∧ Aside0 (Below w2.heap.size w2 wr)) (fun v9 v10 _ => n - (intOf v10).toNat)
  case atStart => exact ⟨0, 0, Nat.zero_le _, Nat.zero_le _, rfl, rfl, HP, ⟨Below.refl _ _⟩⟩
  case round =>
    obtain ⟨k, i, hi, hk, rfl, rfl, HPK, HB⟩ := hrel
    have HBW := Aside0.mk (below_step HB2.out HB.out)
    by_cases hlt : i < n
    · have hd1 : decide ((i : Int) < (n : Int)) = true := decide_eq_true (by omega)
      have hd2 : decide (i < n) = true := decide_eq_true hlt
      by_cases hkt : k < m2
      · have hd3 : decide ((k : Int) < (m2 : Int)) = true := decide_eq_true (by omega)
        have hd4 : decide (k < m2) = true := decide_eq_true hkt
        have i3 : (k < m2) = True := eq_true hkt
        have i4 : ((k : Int) < (m2 : Int)) = True := eq_true (by omega)
        have hil : i < l.length := by rw [HN.out]; exact hlt
        have hkl : k < YS.length := by rw [← HM2.out]; exact hkt
        obtain ⟨ad, A1, ca, rfl, p0, p1, p2, p3, p4, p5, p6, p7, p8, p9, p10, p11, p12, hla, hCa⟩ := at_J HC.out (i : Int) (by omega) (by omega)
        obtain ⟨bd, A2, cb, rfl, q0, q1, q2, q3, q4, q5, q6, q7, q8, q9, q10, q11, q12, hlb, hCb⟩ := at_J HC3.out (k : Int) (by omega) (by omega)
        rw [rd_J_get hil, Int.toNat_natCast] at p0 p1 p2 p3 p4 p5 p6 p7 p8 p9 p10 p11 p12
        rw [rd_J_get hil] at hla hCa
        rw [rd_J_get hkl, Int.toNat_natCast] at q0 q1 q2 q3 q4 q5 q6 q7 q8 q9 q10 q11 q12
        rw [rd_J_get hkl] at hlb hCb
        have hpk := HPK.out
        rw [List.drop_eq_getElem_cons hil, List.drop_eq_getElem_cons hkl] at hpk
        obtain ⟨x, hx⟩ : ∃ x, x = l[i] := ⟨_, rfl⟩
        obtain ⟨y, hy⟩ : ∃ y, y = YS[k] := ⟨_, rfl⟩
        have hxo := HOP.out l[i] (List.getElem_mem hil)
        rw [← hx] at p0 p1 p2 p3 p4 p5 p6 p7 p8 p9 p10 p11 p12 hla hCa hpk hxo
        rw [← hy] at q0 q1 q2 q3 q4 q5 q6 q7 q8 q9 q10 q11 q12 hlb hCb hpk
        obtain ⟨ma, hma⟩ : ∃ ma, ma = x.ops.length := ⟨_, rfl⟩
        obtain ⟨mb, hmb⟩ : ∃ mb, mb = y.ops.length := ⟨_, rfl⟩
        rw [← hma] at p6 hla hCa
        rw [← hmb] at q6 hlb hCb
        replace p0 := pw_cell_below HBW.out p0
        replace q0 := pw_cell_below HB.out q0
        replace p1 := pw_cell_below HBW.out p1
        replace q1 := pw_cell_below HB.out q1
        replace p2 := pw_cell_below HBW.out p2
        replace q2 := pw_cell_below HB.out q2
        replace p3 := pw_cell_below HBW.out p3
        replace q3 := pw_cell_below HB.out q3
        replace p4 := pw_cell_below HBW.out p4
        replace q4 := pw_cell_below HB.out q4
        replace p5 := pw_cell_below HBW.out p5
        replace q5 := pw_cell_below HB.out q5
        replace p6 := pw_cell_below HBW.out p6
        replace q6 := pw_cell_below HB.out q6
        replace p7 := pw_cell_below HBW.out p7
        replace q7 := pw_cell_below HB.out q7
        replace p8 := pw_cell_below HBW.out p8
        replace q8 := pw_cell_below HB.out q8
        replace p9 := pw_cell_below HBW.out p9
        replace q9 := pw_cell_below HB.out q9
        replace p10 := pw_cell_below HBW.out p10
        replace q10 := pw_cell_below HB.out q10
        replace p11 := pw_cell_below HBW.out p11
        replace q11 := pw_cell_below HB.out q11
        replace p12 := pw_cell_below HBW.out p12
        replace q12 := pw_cell_below HB.out q12
        have HPK2 := Aside0.mk (show (if (x.enc ((k : Int) + 1)).2 = 0 then x = y ∧ Pick (k + 1) (l.drop (i + 1)) (YS.drop (k + 1)) else Pick k (l.drop (i + 1)) (y :: YS.drop (k + 1))) from hpk)
        have HYD := Aside0.mk (show y :: YS.drop (k + 1) = YS.drop k by rw [hy]; exact (List.drop_eq_getElem_cons hkl).symm)
        have HX0 := Aside0.mk (Kd.C_below hCa HBW.out)
        have HXC := Aside0.mk hla
        have HY2 := Aside0.mk (Kd.C_below hCb HB.out)
        have HYC := Aside0.mk hlb
        have HMA := Aside0.mk hma
        have HMB := Aside0.mk hmb
        have HOPS := Aside0.mk hxo
        have hws := wr_succ (m := k) (by omega)
        have HWS := Aside0.mk hws
        obtain ⟨r, hr⟩ : ∃ r, r = x.enc ((k : Int) + 1) := ⟨_, rfl⟩
        have HR := Aside0.mk hr
        have HRL := Aside0.mk (show r.1.length ≤ 4000000 by rw [hr]; exact enc_len x _)
        clear hpk hx hy hxo hCa hCb hla hlb hma hmb hr hil hkl
        go_wp2_with fail
        refine (encode_C ((k : Int) + 1) x.kd x.s x.v x.k x.se x.rq A1 ca ma x.ops x.vn x.vp x.vb x.st x.of x.x wr HMA.out.symm HX0.out HXC.out r.1 r.2 (by rw [HR.out])).mono ?_
        rintro e1 v1 ⟨V, rfl, hv, hb⟩
        obtain ⟨A7, c7, rfl, hc7, hC7⟩ := Kd.R_reads hv
        obtain ⟨m7, hm7⟩ : ∃ m7, m7 = r.1.length := ⟨_, rfl⟩
        rw [← hm7] at hc7 hC7 ⊢
        replace p0 := pw_cell_below hb p0
        replace q0 := pw_cell_below hb q0
        replace p1 := pw_cell_below hb p1
        replace q1 := pw_cell_below hb q1
        replace p2 := pw_cell_below hb p2
        replace q2 := pw_cell_below hb q2
        replace p3 := pw_cell_below hb p3
        replace q3 := pw_cell_below hb q3
        replace p4 := pw_cell_below hb p4
        replace q4 := pw_cell_below hb q4
        replace p5 := pw_cell_below hb p5
        replace q5 := pw_cell_below hb q5
        replace p6 := pw_cell_below hb p6
        replace q6 := pw_cell_below hb q6
        replace p7 := pw_cell_below hb p7
        replace q7 := pw_cell_below hb q7
        replace p8 := pw_cell_below hb p8
        replace q8 := pw_cell_below hb q8
        replace p9 := pw_cell_below hb p9
        replace q9 := pw_cell_below hb q9
        replace p10 := pw_cell_below hb p10
        replace q10 := pw_cell_below hb q10
        replace p11 := pw_cell_below hb p11
        replace q11 := pw_cell_below hb q11
        replace p12 := pw_cell_below hb p12
        replace q12 := pw_cell_below hb q12
        have HM7 := Aside0.mk hm7
        have HC7 := Aside0.mk hC7
        have HC77 := Aside0.mk hc7
        have HX0 := Aside0.mk (Kd.C_below HX0.out hb)
        have HY2 := Aside0.mk (Kd.C_below HY2.out hb)
        have HB := Aside0.mk (below_step HB.out hb)
        clear hv hb hm7 hC7 hc7 hws HBW
        go_wp2_with fail
        refine (num_N r.2 v1).mono ?_
        rintro e2 v2 ⟨rfl, hd⟩
        replace p0 := pw_cell_below hd.below p0
        replace q0 := pw_cell_below hd.below q0
        replace p1 := pw_cell_below hd.below p1
        replace q1 := pw_cell_below hd.below q1
        replace p2 := pw_cell_below hd.below p2
        replace q2 := pw_cell_below hd.below q2
        replace p3 := pw_cell_below hd.below p3
        replace q3 := pw_cell_below hd.below q3
        replace p4 := pw_cell_below hd.below p4
        replace q4 := pw_cell_below hd.below q4
        replace p5 := pw_cell_below hd.below p5
        replace q5 := pw_cell_below hd.below q5
        replace p6 := pw_cell_below hd.below p6
        replace q6 := pw_cell_below hd.below q6
        replace p7 := pw_cell_below hd.below p7
        replace q7 := pw_cell_below hd.below q7
        replace p8 := pw_cell_below hd.below p8
        replace q8 := pw_cell_below hd.below q8
        replace p9 := pw_cell_below hd.below p9
        replace q9 := pw_cell_below hd.below q9
        replace p10 := pw_cell_below hd.below p10
        replace q10 := pw_cell_below hd.below q10
        replace p11 := pw_cell_below hd.below p11
        replace q11 := pw_cell_below hd.below q11
        replace p12 := pw_cell_below hd.below p12
        replace q12 := pw_cell_below hd.below q12
        have HC7 := Aside0.mk (Kd.C_below HC7.out hd.below)
        have HX0 := Aside0.mk (Kd.C_below HX0.out hd.below)
        have HY2 := Aside0.mk (Kd.C_below HY2.out hd.below)
        have HB := Aside0.mk (below_step HB.out hd.below)
        clear hd
        have hpk := HPK2.out
        rw [← HR.out] at hpk
        by_cases h0 : r.2 = 0
        · rw [if_pos h0] at hpk
          obtain ⟨rfl, hpk⟩ := hpk
          have HPK3 := Aside0.mk hpk
          have e1 : (r.2 == 0) = true := by simpa using h0
          have e2 : decide (r.2 = 0) = true := decide_eq_true h0
          have hws := HWS.out
          have H0 := Aside0.mk h0
          clear hpk HPK HPK2
          go_wp2_with fail
          refine (encode_C ((k : Int) + 1) x.kd x.s x.v x.k x.se x.rq A2 cb mb x.ops x.vn x.vp x.vb x.st x.of x.x v2 HMB.out.symm HY2.out HYC.out r.1 r.2 (by rw [HR.out])).mono ?_
          rintro e3 v3 ⟨V8, rfl, hv, hb⟩
          obtain ⟨A8, c8, rfl, hc8, hC8⟩ := Kd.R_reads hv
          rw [← HM7.out] at hc8 hC8 ⊢
          replace p0 := pw_cell_below (below_drew1 hb) p0
          replace q0 := pw_cell_below (below_drew1 hb) q0
          replace p1 := pw_cell_below (below_drew1 hb) p1
          replace q1 := pw_cell_below (below_drew1 hb) q1
          replace p2 := pw_cell_below (below_drew1 hb) p2
          replace q2 := pw_cell_below (below_drew1 hb) q2
          replace p3 := pw_cell_below (below_drew1 hb) p3
          replace q3 := pw_cell_below (below_drew1 hb) q3
          replace p4 := pw_cell_below (below_drew1 hb) p4
          replace q4 := pw_cell_below (below_drew1 hb) q4
          replace p5 := pw_cell_below (below_drew1 hb) p5
          replace q5 := pw_cell_below (below_drew1 hb) q5
          replace p6 := pw_cell_below (below_drew1 hb) p6
          replace q6 := pw_cell_below (below_drew1 hb) q6
          replace p7 := pw_cell_below (below_drew1 hb) p7
          replace q7 := pw_cell_below (below_drew1 hb) q7
          replace p8 := pw_cell_below (below_drew1 hb) p8
          replace q8 := pw_cell_below (below_drew1 hb) q8
          replace p9 := pw_cell_below (below_drew1 hb) p9
          replace q9 := pw_cell_below (below_drew1 hb) q9
          replace p10 := pw_cell_below (below_drew1 hb) p10
          replace q10 := pw_cell_below (below_drew1 hb) q10
          replace p11 := pw_cell_below (below_drew1 hb) p11
          replace q11 := pw_cell_below (below_drew1 hb) q11
          replace p12 := pw_cell_below (below_drew1 hb) p12
          replace q12 := pw_cell_below (below_drew1 hb) q12
          have HC8 := Aside0.mk (Kd.C_below hC8 (below_drew1 (Below.refl _ _)))
          have HC88 := Aside0.mk hc8
          have HC7 := Aside0.mk (Kd.C_below HC7.out (below_drew1 hb))
          have HX0 := Aside0.mk (Kd.C_below HX0.out (below_drew1 hb))
          have HY2 := Aside0.mk (Kd.C_below HY2.out (below_drew1 hb))
          have HB := Aside0.mk (below_step HB.out (below_drew1 hb))
          clear hv hb hC8 hc8 hws
          obtain rfl : ma = mb := by rw [HMA.out, HMB.out]
          go_wp2_with fail
          refine start_ (n := 21) (S := fun w' => w'.cell? (ad.add (i * 13)) = some (.int .i64 x.kd) ∧ w'.cell? ⟨(ad.add (i * 13)).block, (ad.add (i * 13)).off + 1, none⟩ = some (.int .i64 x.s) ∧ w'.cell? ⟨(ad.add (i * 13)).block, (ad.add (i * 13)).off + 2, none⟩ = some (.int .i64 x.v) ∧ w'.cell? ⟨(ad.add (i * 13)).block, (ad.add (i * 13)).off + 3, none⟩ = some (.int .i64 x.k) ∧ w'.cell? ⟨(ad.add (i * 13)).block, (ad.add (i * 13)).off + 4, none⟩ = some (.int .i64 x.se) ∧ w'.cell? ⟨(ad.add (i * 13)).block, (ad.add (i * 13)).off + 5, none⟩ = some (.int .i64 x.rq) ∧ w'.cell? ⟨(ad.add (i * 13)).block, (ad.add (i * 13)).off + 6, none⟩ = some (.slice A1 ma ca) ∧ w'.cell? ⟨(ad.add (i * 13)).block, (ad.add (i * 13)).off + 7, none⟩ = some (.int .i64 x.vn) ∧ w'.cell? ⟨(ad.add (i * 13)).block, (ad.add (i * 13)).off + 8, none⟩ = some (.int .i64 x.vp) ∧ w'.cell? ⟨(ad.add (i * 13)).block, (ad.add (i * 13)).off + 9, none⟩ = some (.int .i64 x.vb) ∧ w'.cell? ⟨(ad.add (i * 13)).block, (ad.add (i * 13)).off + 10, none⟩ = some (.int .i64 x.st) ∧ w'.cell? ⟨(ad.add (i * 13)).block, (ad.add (i * 13)).off + 11, none⟩ = some (.int .i64 x.of) ∧ w'.cell? ⟨(ad.add (i * 13)).block, (ad.add (i * 13)).off + 12, none⟩ = some (.string x.x) ∧ w'.cell? (bd.add (k * 13)) = some (.int .i64 x.kd) ∧ w'.cell? ⟨(bd.add (k * 13)).block, (bd.add (k * 13)).off + 1, none⟩ = some (.int .i64 x.s) ∧ w'.cell? ⟨(bd.add (k * 13)).block, (bd.add (k * 13)).off + 2, none⟩ = some (.int .i64 x.v) ∧ w'.cell? ⟨(bd.add (k * 13)).block, (bd.add (k * 13)).off + 3, none⟩ = some (.int .i64 x.k) ∧ w'.cell? ⟨(bd.add (k * 13)).block, (bd.add (k * 13)).off + 4, none⟩ = some (.int .i64 x.se) ∧ w'.cell? ⟨(bd.add (k * 13)).block, (bd.add (k * 13)).off + 5, none⟩ = some (.int .i64 x.rq) ∧ w'.cell? ⟨(bd.add (k * 13)).block, (bd.add (k * 13)).off + 6, none⟩ = some (.slice A2 ma cb) ∧ w'.cell? ⟨(bd.add (k * 13)).block, (bd.add (k * 13)).off + 7, none⟩ = some (.int .i64 x.vn) ∧ w'.cell? ⟨(bd.add (k * 13)).block, (bd.add (k * 13)).off + 8, none⟩ = some (.int .i64 x.vp) ∧ w'.cell? ⟨(bd.add (k * 13)).block, (bd.add (k * 13)).off + 9, none⟩ = some (.int .i64 x.vb) ∧ w'.cell? ⟨(bd.add (k * 13)).block, (bd.add (k * 13)).off + 10, none⟩ = some (.int .i64 x.st) ∧ w'.cell? ⟨(bd.add (k * 13)).block, (bd.add (k * 13)).off + 11, none⟩ = some (.int .i64 x.of) ∧ w'.cell? ⟨(bd.add (k * 13)).block, (bd.add (k * 13)).off + 12, none⟩ = some (.string x.x)) (ds := []) #[ff, ff, ff, ff, ff, ff, ff, ff, ff, ff, ff, ff, ff, ff, ff, ff, ff, ff, ff, ff, ff] (by kernel_rfl) rfl rfl ⟨p0, p1, p2, p3, p4, p5, p6, p7, p8, p9, p10, p11, p12, q0, q1, q2, q3, q4, q5, q6, q7, q8, q9, q10, q11, q12⟩ (fun hHeld => ?_)
          refine pure_ (i := 0) (N := some 73) (v := ?_) (a' := ?_) #[tt, ff, ff, ff, ff, ff, ff, ff, ff, ff, ff, ff, ff, ff, ff, ff, ff, ff, ff, ff, ff] rfl rfl (by kernel_rfl) (fun _ _ _ h => h) (Or.inl ⟨by rfl, ?_⟩) ?_ ?_
          rotate_left
          · intro w'
            go_simp
            with_reducible rfl
          rotate_left
          · simp only [Act.put, sx1, sx2, sx3, i64_w, i32_w]
            rfl
          refine one_ (i := 1) (N := some 74) #[tt, tt, ff, ff, ff, ff, ff, ff, ff, ff, ff, ff, ff, ff, ff, ff, ff, ff, ff, ff, ff] rfl rfl (by kernel_rfl) (by decide) (fun K hK => ?_)
          refine goes_ Try.func14 (by kernel_rfl) rfl #[.int .i64 0] (by rfl) rfl rfl (by simp only [List.map_toArray, List.map_cons, List.map_nil]; rfl) ?_
          with_reducible refine (num_N 0 _).mono ?_
          rintro e x1 ⟨rfl, hdx⟩
          refine ⟨_, rfl, ?_⟩
          have HX1 := Aside0.mk hdx.below
          clear hdx
          refine hK.out _ _ ⟨pw_cell_below HX1.out p0, pw_cell_below HX1.out p1, pw_cell_below HX1.out p2, pw_cell_below HX1.out p3, pw_cell_below HX1.out p4, pw_cell_below HX1.out p5, pw_cell_below HX1.out p6, pw_cell_below HX1.out p7, pw_cell_below HX1.out p8, pw_cell_below HX1.out p9, pw_cell_below HX1.out p10, pw_cell_below HX1.out p11, pw_cell_below HX1.out p12, pw_cell_below HX1.out q0, pw_cell_below HX1.out q1, pw_cell_below HX1.out q2, pw_cell_below HX1.out q3, pw_cell_below HX1.out q4, pw_cell_below HX1.out q5, pw_cell_below HX1.out q6, pw_cell_below HX1.out q7, pw_cell_below HX1.out q8, pw_cell_below HX1.out q9, pw_cell_below HX1.out q10, pw_cell_below HX1.out q11, pw_cell_below HX1.out q12⟩ (fun hHeld => ?_)
          clear hK K
          refine norm_ (a' := ?_) ?_ ?_
          rotate_left
          · show Act.put _ (some 74) _ = _
            simp only [Act.put, sx1, sx2, sx3, i64_w, i32_w]
            rfl
          refine pure_ (i := 2) (N := some 75) (v := ?_) (a' := ?_) #[tt, tt, tt, ff, ff, ff, ff, ff, ff, ff, ff, ff, ff, ff, ff, ff, ff, ff, ff, ff, ff] rfl rfl (by kernel_rfl) (fun _ _ _ h => h) (Or.inl ⟨by rfl, ?_⟩) ?_ ?_
          rotate_left
          · intro w'
            go_simp
            with_reducible rfl
          rotate_left
          · simp only [Act.put, sx1, sx2, sx3, i64_w, i32_w]
            rfl
          refine pure_ (i := 3) (N := some 76) (v := ?_) (a' := ?_) #[tt, tt, tt, tt, ff, ff, ff, ff, ff, ff, ff, ff, ff, ff, ff, ff, ff, ff, ff, ff, ff] rfl rfl (by kernel_rfl) (fun _ _ _ h => h) (Or.inl ⟨by rfl, ?_⟩) ?_ ?_
          rotate_left
          · intro w'
            go_simp
            with_reducible rfl
          rotate_left
          · simp only [Act.put, sx1, sx2, sx3, i64_w, i32_w]
            rfl
          refine pure_ (i := 4) (N := some 77) (v := ?_) (a' := ?_) #[tt, tt, tt, tt, tt, ff, ff, ff, ff, ff, ff, ff, ff, ff, ff, ff, ff, ff, ff, ff, ff] rfl rfl (by kernel_rfl) (fun _ _ _ h => h) (Or.inl ⟨by rfl, ?_⟩) ?_ ?_
          rotate_left
          · intro w'
            go_simp
            with_reducible rfl
          rotate_left
          · simp only [Act.put, sx1, sx2, sx3, i64_w, i32_w]
            rfl
          refine pure_ (i := 5) (N := some 78) (v := ?_) (a' := ?_) #[tt, tt, tt, tt, tt, tt, ff, ff, ff, ff, ff, ff, ff, ff, ff, ff, ff, ff, ff, ff, ff] rfl rfl (by kernel_rfl) (fun _ _ _ h => h) (Or.inl ⟨by rfl, ?_⟩) ?_ ?_
          rotate_left
          · intro w'
            go_simp
            with_reducible rfl
          rotate_left
          · simp only [Act.put, sx1, sx2, sx3, i64_w, i32_w]
            rfl
          refine one_ (i := 6) (N := some 79) #[tt, tt, tt, tt, tt, tt, tt, ff, ff, ff, ff, ff, ff, ff, ff, ff, ff, ff, ff, ff, ff] rfl rfl (by kernel_rfl) (by decide) (fun K hK => ?_)
          refine goes_ Try.func15 (by kernel_rfl) rfl #[.slice A7 m7 c7, .slice A8 m7 c8] (by rfl) rfl rfl (by simp only [List.map_toArray, List.map_cons, List.map_nil]; rfl) ?_
          with_reducible refine (bytes_N r.1 A7 A8 c7 c8 m7 x1 HM7.out.symm (by have := HM7.out; have := HRL.out; omega) (Kd.C_below HC7.out HX1.out) HC77.out (Kd.C_below HC8.out HX1.out) HC88.out).mono ?_
          rintro e x2 ⟨rfl, hdx⟩
          refine ⟨_, rfl, ?_⟩
          have HX2 := Aside0.mk (below_step HX1.out hdx.below)
          clear hdx
          refine hK.out _ _ ⟨pw_cell_below HX2.out p0, pw_cell_below HX2.out p1, pw_cell_below HX2.out p2, pw_cell_below HX2.out p3, pw_cell_below HX2.out p4, pw_cell_below HX2.out p5, pw_cell_below HX2.out p6, pw_cell_below HX2.out p7, pw_cell_below HX2.out p8, pw_cell_below HX2.out p9, pw_cell_below HX2.out p10, pw_cell_below HX2.out p11, pw_cell_below HX2.out p12, pw_cell_below HX2.out q0, pw_cell_below HX2.out q1, pw_cell_below HX2.out q2, pw_cell_below HX2.out q3, pw_cell_below HX2.out q4, pw_cell_below HX2.out q5, pw_cell_below HX2.out q6, pw_cell_below HX2.out q7, pw_cell_below HX2.out q8, pw_cell_below HX2.out q9, pw_cell_below HX2.out q10, pw_cell_below HX2.out q11, pw_cell_below HX2.out q12⟩ (fun hHeld => ?_)
          clear hK K
          refine norm_ (a' := ?_) ?_ ?_
          rotate_left
          · show Act.put _ (some 79) _ = _
            simp only [Act.put, sx1, sx2, sx3, i64_w, i32_w]
            rfl
          refine pure_ (i := 7) (N := some 80) (v := ?_) (a' := ?_) #[tt, tt, tt, tt, tt, tt, tt, tt, ff, ff, ff, ff, ff, ff, ff, ff, ff, ff, ff, ff, ff] rfl rfl (by kernel_rfl) (fun _ _ _ h => h) (Or.inl ⟨by rfl, ?_⟩) ?_ ?_
          rotate_left
          · intro w'
            go_simp
            with_reducible rfl
          rotate_left
          · simp only [Act.put, sx1, sx2, sx3, i64_w, i32_w]
            rfl
          refine pure_ (i := 8) (N := some 81) (v := ?_) (a' := ?_) #[tt, tt, tt, tt, tt, tt, tt, tt, tt, ff, ff, ff, ff, ff, ff, ff, ff, ff, ff, ff, ff] rfl rfl (by kernel_rfl) (fun _ _ _ h => h) (Or.inl ⟨by rfl, ?_⟩) ?_ ?_
          rotate_left
          · intro w'
            go_simp
            with_reducible rfl
          rotate_left
          · simp only [Act.put, sx1, sx2, sx3, i64_w, i32_w]
            rfl
          refine pure_ (i := 9) (N := some 82) (v := ?_) (a' := ?_) #[tt, tt, tt, tt, tt, tt, tt, tt, tt, tt, ff, ff, ff, ff, ff, ff, ff, ff, ff, ff, ff] rfl rfl (by kernel_rfl) (fun _ _ _ h => h) (Or.inl ⟨by rfl, ?_⟩) ?_ ?_
          rotate_left
          · intro w'
            go_simp
            with_reducible rfl
          rotate_left
          · simp only [Act.put, sx1, sx2, sx3, i64_w, i32_w]
            rfl
          refine pure_ (i := 10) (N := some 83) (v := ?_) (a' := ?_) #[tt, tt, tt, tt, tt, tt, tt, tt, tt, tt, tt, ff, ff, ff, ff, ff, ff, ff, ff, ff, ff] rfl rfl (by kernel_rfl) (fun _ _ _ h => h) (Or.inl ⟨by rfl, ?_⟩) ?_ ?_
          rotate_left
          · intro w'
            go_simp
            with_reducible rfl
          rotate_left
          · simp only [Act.put, sx1, sx2, sx3, i64_w, i32_w]
            rfl
          refine pure_ (i := 11) (N := some 84) (v := ?_) (a' := ?_) #[tt, tt, tt, tt, tt, tt, tt, tt, tt, tt, tt, tt, ff, ff, ff, ff, ff, ff, ff, ff, ff] rfl rfl (by kernel_rfl) (fun _ _ _ h => h) (Or.inl ⟨by rfl, ?_⟩) ?_ ?_
          rotate_left
          · intro w'
            go_simp
            with_reducible rfl
          rotate_left
          · simp only [Act.put, sx1, sx2, sx3, i64_w, i32_w]
            rfl
          refine pure_ (i := 12) (N := some 85) (v := ?_) (a' := ?_) #[tt, tt, tt, tt, tt, tt, tt, tt, tt, tt, tt, tt, tt, ff, ff, ff, ff, ff, ff, ff, ff] rfl rfl (by kernel_rfl) (fun _ _ _ h => h) (Or.inl ⟨by rfl, ?_⟩) ?_ ?_
          rotate_left
          · intro w'
            go_simp
            with_reducible rfl
          rotate_left
          · simp only [Act.put, sx1, sx2, sx3, i64_w, i32_w]
            rfl
          refine pure_ (i := 14) (N := some 87) (v := ?_) (a' := ?_) #[tt, tt, tt, tt, tt, tt, tt, tt, tt, tt, tt, tt, tt, ff, tt, ff, ff, ff, ff, ff, ff] rfl rfl (by kernel_rfl) (fun _ _ _ h => h) (Or.inl ⟨by rfl, ?_⟩) ?_ ?_
          rotate_left
          · intro w'
            go_simp
            with_reducible rfl
          rotate_left
          · simp only [Act.put, sx1, sx2, sx3, i64_w, i32_w]
            rfl
          refine pure_ (i := 15) (N := some 88) (v := ?_) (a' := ?_) #[tt, tt, tt, tt, tt, tt, tt, tt, tt, tt, tt, tt, tt, ff, tt, tt, ff, ff, ff, ff, ff] rfl rfl (by kernel_rfl) (fun _ _ _ h => h) (Or.inl ⟨by rfl, ?_⟩) ?_ ?_
          rotate_left
          · intro w'
            go_simp
            with_reducible rfl
          rotate_left
          · simp only [Act.put, sx1, sx2, sx3, i64_w, i32_w]
            rfl
          refine pure_ (i := 16) (N := some 89) (v := ?_) (a' := ?_) #[tt, tt, tt, tt, tt, tt, tt, tt, tt, tt, tt, tt, tt, ff, tt, tt, tt, ff, ff, ff, ff] rfl rfl (by kernel_rfl) (fun _ _ _ h => h) (Or.inl ⟨by rfl, ?_⟩) ?_ ?_
          rotate_left
          · intro w'
            go_simp
            with_reducible rfl
          rotate_left
          · simp only [Act.put, sx1, sx2, sx3, i64_w, i32_w]
            rfl
          refine take_ (i := 13) (N := some 86) (v := ?_) (a' := ?_) #[tt, tt, tt, tt, tt, tt, tt, tt, tt, tt, tt, tt, tt, tt, tt, tt, tt, ff, ff, ff, ff] rfl rfl (by kernel_rfl) (fun _ _ _ h => h) (Or.inl ⟨by rfl, ?_⟩) hHeld ?_ ?_
          rotate_left
          · rintro w' ⟨s0, s1, s2, s3, s4, s5, s6, s7, s8, s9, s10, s11, s12, s13, s14, s15, s16, s17, s18, s19, s20, s21, s22, s23, s24, s25⟩
            go_simp
            with_reducible rfl
          rotate_left
          · simp only [Act.put, sx1, sx2, sx3, i64_w, i32_w]
            rfl
          refine take_ (i := 17) (N := some 90) (v := ?_) (a' := ?_) #[tt, tt, tt, tt, tt, tt, tt, tt, tt, tt, tt, tt, tt, tt, tt, tt, tt, tt, ff, ff, ff] rfl rfl (by kernel_rfl) (fun _ _ _ h => h) (Or.inl ⟨by rfl, ?_⟩) hHeld ?_ ?_
          rotate_left
          · rintro w' ⟨s0, s1, s2, s3, s4, s5, s6, s7, s8, s9, s10, s11, s12, s13, s14, s15, s16, s17, s18, s19, s20, s21, s22, s23, s24, s25⟩
            go_simp
            with_reducible rfl
          rotate_left
          · simp only [Act.put, sx1, sx2, sx3, i64_w, i32_w]
            rfl
          refine one_ (i := 18) (N := some 91) #[tt, tt, tt, tt, tt, tt, tt, tt, tt, tt, tt, tt, tt, tt, tt, tt, tt, tt, tt, ff, ff] rfl rfl (by kernel_rfl) (by decide) (fun K hK => ?_)
          refine goes_ Try.func19 (by kernel_rfl) rfl #[.agg (recCells x.kd x.s x.v x.k x.se x.rq A2 ma cb x.vn x.vp x.vb x.st x.of x.x), .agg (recCells x.kd x.s x.v x.k x.se x.rq A1 ma ca x.vn x.vp x.vb x.st x.of x.x)] (by rfl) rfl rfl (by simp only [List.map_toArray, List.map_cons, List.map_nil]; rfl) ?_
          with_reducible refine (record_N x.kd x.s x.v x.k x.se x.rq A2 A1 cb ca ma x.ops x.vn x.vp x.vb x.st x.of x.x x2 HMA.out.symm (by have := HOPS.out; have := HMA.out; omega) (Kd.C_below HY2.out HX2.out) HYC.out (Kd.C_below HX0.out HX2.out) HXC.out).mono ?_
          rintro e x3 ⟨rfl, hbx⟩
          refine ⟨_, rfl, ?_⟩
          have HX3 := Aside0.mk (below_step HX2.out hbx)
          clear hbx
          refine hK.out _ _ ⟨pw_cell_below HX3.out p0, pw_cell_below HX3.out p1, pw_cell_below HX3.out p2, pw_cell_below HX3.out p3, pw_cell_below HX3.out p4, pw_cell_below HX3.out p5, pw_cell_below HX3.out p6, pw_cell_below HX3.out p7, pw_cell_below HX3.out p8, pw_cell_below HX3.out p9, pw_cell_below HX3.out p10, pw_cell_below HX3.out p11, pw_cell_below HX3.out p12, pw_cell_below HX3.out q0, pw_cell_below HX3.out q1, pw_cell_below HX3.out q2, pw_cell_below HX3.out q3, pw_cell_below HX3.out q4, pw_cell_below HX3.out q5, pw_cell_below HX3.out q6, pw_cell_below HX3.out q7, pw_cell_below HX3.out q8, pw_cell_below HX3.out q9, pw_cell_below HX3.out q10, pw_cell_below HX3.out q11, pw_cell_below HX3.out q12⟩ (fun hHeld => ?_)
          clear hK K
          refine norm_ (a' := ?_) ?_ ?_
          rotate_left
          · show Act.put _ (some 91) _ = _
            simp only [Act.put, sx1, sx2, sx3, i64_w, i32_w]
            rfl
          refine pure_ (i := 19) (N := some 92) (v := ?_) (a' := ?_) #[tt, tt, tt, tt, tt, tt, tt, tt, tt, tt, tt, tt, tt, tt, tt, tt, tt, tt, tt, tt, ff] rfl rfl (by kernel_rfl) (fun _ _ _ h => h) (Or.inl ⟨by rfl, ?_⟩) ?_ ?_
          rotate_left
          · intro w'
            go_simp
            with_reducible rfl
          rotate_left
          · simp only [Act.put, sx1, sx2, sx3, i64_w, i32_w]
            rfl
          refine pure_ (i := 20) (N := some 93) (v := ?_) (a' := ?_) #[tt, tt, tt, tt, tt, tt, tt, tt, tt, tt, tt, tt, tt, tt, tt, tt, tt, tt, tt, tt, tt] rfl rfl (by kernel_rfl) (fun _ _ _ h => h) (Or.inl ⟨by rfl, ?_⟩) ?_ ?_
          rotate_left
          · intro w'
            go_simp
            with_reducible rfl
          rotate_left
          · simp only [Act.put, sx1, sx2, sx3, i64_w, i32_w]
            rfl
          refine done_ (by kernel_rfl) ?_
          have HB := Aside0.mk (below_step HB.out HX3.out)
          clear HX1 HX2 HX3 hHeld e1 e2 H0 HX0 HY2 HC7 HC8 p0 p1 p2 p3 p4 p5 p6 p7 p8 p9 p10 p11 p12 q0 q1 q2 q3 q4 q5 q6 q7 q8 q9 q10 q11 q12
          go_wp2_with fail
          go_roundw
          case rel => exact ⟨k + 1, i + 1, by omega, by omega, by go_num, by go_num, HPK3, HB⟩
          case measure => simp [intOf]; omega
        · rw [if_neg h0] at hpk
          have HPK3 := Aside0.mk (show Pick k (l.drop (i + 1)) (YS.drop k) by rw [← HYD.out]; exact hpk)
          have e1 : (r.2 == 0) = false := by simpa using h0
          have e2 : decide (r.2 = 0) = false := decide_eq_false h0
          clear hpk HPK HPK2 p0 p1 p2 p3 p4 p5 p6 p7 p8 p9 p10 p11 p12 q0 q1 q2 q3 q4 q5 q6 q7 q8 q9 q10 q11 q12
          go_wp2_with fail
          go_roundw
          case rel => exact ⟨k, i + 1, by omega, hk, rfl, by go_num, HPK3, HB⟩
          case measure => simp [intOf]; omega
      · have hd3 : decide ((k : Int) < (m2 : Int)) = false := decide_eq_false (by omega)
        have hd4 : decide (k < m2) = false := decide_eq_false hkt
        by_cases hn0 : 0 < n
        · have b1 : decide ((0 : Int) < (n : Int)) = true := decide_eq_true (by omega)
          have b2 : decide (0 < n) = true := decide_eq_true hn0
          have b5 : (0 < n) = True := eq_true hn0
          have b6 : ((0 : Int) < (n : Int)) = True := eq_true (by omega)
          by_cases hs : sq = 1
          · have b3 : (sq == 1) = true := by simpa using hs
            have b4 : decide (sq = 1) = true := decide_eq_true hs
            go_wp2_with fail
            refine (known_C wr).mono ?_
            rintro e8 w8 ⟨rfl, hb8⟩
            have HZ := Aside0.mk (below_step HBW.out hb8)
            clear hb8
            go_wp2
            go_ret
            exact ⟨rfl, HZ.out⟩
          · have b3 : (sq == 1) = false := by simpa using hs
            have b4 : decide (sq = 1) = false := decide_eq_false hs
            obtain ⟨ad, A4, ca, rfl, p0, p1, p2, p3, p4, p5, p6, p7, p8, p9, p10, p11, p12, hla, hCa⟩ := at_J HC.out 0 (by omega) (by omega)
            rw [show ad.add (Int.toNat 0 * 13) = ad from by simp [Addr.add]] at p0 p1 p2 p3 p4 p5 p6 p7 p8 p9 p10 p11 p12
            obtain ⟨x, hx⟩ : ∃ x, x = rd_J l 0 := ⟨_, rfl⟩
            rw [← hx] at p0 p1 p2 p3 p4 p5 p6 p7 p8 p9 p10 p11 p12 hla hCa
            obtain ⟨ma, hma⟩ : ∃ ma, ma = x.ops.length := ⟨_, rfl⟩
            rw [← hma] at p6 hla hCa
            replace p0 := pw_cell_below HBW.out p0
            replace p1 := pw_cell_below HBW.out p1
            replace p2 := pw_cell_below HBW.out p2
            replace p3 := pw_cell_below HBW.out p3
            replace p4 := pw_cell_below HBW.out p4
            replace p5 := pw_cell_below HBW.out p5
            replace p6 := pw_cell_below HBW.out p6
            replace p7 := pw_cell_below HBW.out p7
            replace p8 := pw_cell_below HBW.out p8
            replace p9 := pw_cell_below HBW.out p9
            replace p10 := pw_cell_below HBW.out p10
            replace p11 := pw_cell_below HBW.out p11
            replace p12 := pw_cell_below HBW.out p12
            have HMA := Aside0.mk hma
            have HXC := Aside0.mk hla
            have HX0 := Aside0.mk (Kd.C_below hCa HBW.out)
            obtain ⟨r, hr⟩ : ∃ r, r = x.enc sq := ⟨_, rfl⟩
            have HR := Aside0.mk hr
            have HRL := Aside0.mk (show r.1.length ≤ 4000000 by rw [hr]; exact enc_len x _)
            have HWR := Aside0.mk (show Walks r.1 0 0 [] by rw [hr]; exact enc_walks x sq hs)
            clear hx hla hCa hma hr
            go_wp2_with fail
            refine (encode_C sq x.kd x.s x.v x.k x.se x.rq A4 ca ma x.ops x.vn x.vp x.vb x.st x.of x.x wr HMA.out.symm HX0.out HXC.out r.1 r.2 (by rw [HR.out])).mono ?_
            rintro e5 w5 ⟨V, rfl, hv, hb⟩
            obtain ⟨A7, c7, rfl, hc7, hC7⟩ := Kd.R_reads hv
            obtain ⟨m7, hm7⟩ : ∃ m7, m7 = r.1.length := ⟨_, rfl⟩
            rw [← hm7] at hc7 hC7 ⊢
            have HM7 := Aside0.mk hm7
            have HC7 := Aside0.mk hC7
            have HC77 := Aside0.mk hc7
            have HB5 := Aside0.mk (below_step HBW.out hb)
            clear hv hb hm7 hC7 hc7 p0 p1 p2 p3 p4 p5 p6 p7 p8 p9 p10 p11 p12
            go_wp2_with fail
            refine (walked_R w5 A7 m7 c7 r.1 [] 9 HM7.out.symm HC77.out (by have := HM7.out; have := HRL.out; omega) HC7.out HWR.out (by simp)).mono ?_
            rintro e6 w6 ⟨A8, m8, c8, rfl, hm8, _, _, hb⟩
            obtain rfl : m8 = 0 := by rw [← hm8]; rfl
            have HB6 := Aside0.mk (below_step HB5.out hb)
            clear hm8 hb
            go_wp2_with fail
            refine (num_N r.2 w6).mono ?_
            rintro e7 w7 ⟨rfl, hd⟩
            have HB7 := Aside0.mk (below_step HB6.out hd.below)
            clear hd
            by_cases h0 : r.2 = 0
            · have e1 : (r.2 == 0) = true := by simpa using h0
              have e2 : decide (r.2 = 0) = true := decide_eq_true h0
              go_wp2_with fail
              refine (known_C w7).mono ?_
              rintro e8 w8 ⟨rfl, hb8⟩
              have HZ := Aside0.mk (below_step HB7.out hb8)
              clear hb8
              go_wp2
              go_ret
              exact ⟨rfl, HZ.out⟩
            · have e1 : (r.2 == 0) = false := by simpa using h0
              have e2 : decide (r.2 = 0) = false := decide_eq_false h0
              go_wp2_with fail
              refine (known_C w7).mono ?_
              rintro e8 w8 ⟨rfl, hb8⟩
              have HZ := Aside0.mk (below_step HB7.out hb8)
              clear hb8
              go_wp2
              go_ret
              exact ⟨rfl, HZ.out⟩
        · have b1 : decide ((0 : Int) < (n : Int)) = false := decide_eq_false (by omega)
          have b2 : decide (0 < n) = false := decide_eq_false hn0
          go_wp2_with fail
          refine (known_C wr).mono ?_
          rintro e8 w8 ⟨rfl, hb8⟩
          have HZ := Aside0.mk (below_step HBW.out hb8)
          clear hb8
          go_wp2
          go_ret
          exact ⟨rfl, HZ.out⟩
    · have hd1 : decide ((i : Int) < (n : Int)) = false := decide_eq_false (by omega)
      have hd2 : decide (i < n) = false := decide_eq_false hlt
      by_cases hn0 : 0 < n
      · have b1 : decide ((0 : Int) < (n : Int)) = true := decide_eq_true (by omega)
        have b2 : decide (0 < n) = true := decide_eq_true hn0
        have b5 : (0 < n) = True := eq_true hn0
        have b6 : ((0 : Int) < (n : Int)) = True := eq_true (by omega)
        by_cases hs : sq = 1
        · have b3 : (sq == 1) = true := by simpa using hs
          have b4 : decide (sq = 1) = true := decide_eq_true hs
          go_wp2_with fail
          refine (known_C wr).mono ?_
          rintro e8 w8 ⟨rfl, hb8⟩
          have HZ := Aside0.mk (below_step HBW.out hb8)
          clear hb8
          go_wp2
          go_ret
          exact ⟨rfl, HZ.out⟩
        · have b3 : (sq == 1) = false := by simpa using hs
          have b4 : decide (sq = 1) = false := decide_eq_false hs
          obtain ⟨ad, A4, ca, rfl, p0, p1, p2, p3, p4, p5, p6, p7, p8, p9, p10, p11, p12, hla, hCa⟩ := at_J HC.out 0 (by omega) (by omega)
          rw [show ad.add (Int.toNat 0 * 13) = ad from by simp [Addr.add]] at p0 p1 p2 p3 p4 p5 p6 p7 p8 p9 p10 p11 p12
          obtain ⟨x, hx⟩ : ∃ x, x = rd_J l 0 := ⟨_, rfl⟩
          rw [← hx] at p0 p1 p2 p3 p4 p5 p6 p7 p8 p9 p10 p11 p12 hla hCa
          obtain ⟨ma, hma⟩ : ∃ ma, ma = x.ops.length := ⟨_, rfl⟩
          rw [← hma] at p6 hla hCa
          replace p0 := pw_cell_below HBW.out p0
          replace p1 := pw_cell_below HBW.out p1
          replace p2 := pw_cell_below HBW.out p2
          replace p3 := pw_cell_below HBW.out p3
          replace p4 := pw_cell_below HBW.out p4
          replace p5 := pw_cell_below HBW.out p5
          replace p6 := pw_cell_below HBW.out p6
          replace p7 := pw_cell_below HBW.out p7
          replace p8 := pw_cell_below HBW.out p8
          replace p9 := pw_cell_below HBW.out p9
          replace p10 := pw_cell_below HBW.out p10
          replace p11 := pw_cell_below HBW.out p11
          replace p12 := pw_cell_below HBW.out p12
          have HMA := Aside0.mk hma
          have HXC := Aside0.mk hla
          have HX0 := Aside0.mk (Kd.C_below hCa HBW.out)
          obtain ⟨r, hr⟩ : ∃ r, r = x.enc sq := ⟨_, rfl⟩
          have HR := Aside0.mk hr
          have HRL := Aside0.mk (show r.1.length ≤ 4000000 by rw [hr]; exact enc_len x _)
          have HWR := Aside0.mk (show Walks r.1 0 0 [] by rw [hr]; exact enc_walks x sq hs)
          clear hx hla hCa hma hr
          go_wp2_with fail
          refine (encode_C sq x.kd x.s x.v x.k x.se x.rq A4 ca ma x.ops x.vn x.vp x.vb x.st x.of x.x wr HMA.out.symm HX0.out HXC.out r.1 r.2 (by rw [HR.out])).mono ?_
          rintro e5 w5 ⟨V, rfl, hv, hb⟩
          obtain ⟨A7, c7, rfl, hc7, hC7⟩ := Kd.R_reads hv
          obtain ⟨m7, hm7⟩ : ∃ m7, m7 = r.1.length := ⟨_, rfl⟩
          rw [← hm7] at hc7 hC7 ⊢
          have HM7 := Aside0.mk hm7
          have HC7 := Aside0.mk hC7
          have HC77 := Aside0.mk hc7
          have HB5 := Aside0.mk (below_step HBW.out hb)
          clear hv hb hm7 hC7 hc7 p0 p1 p2 p3 p4 p5 p6 p7 p8 p9 p10 p11 p12
          go_wp2_with fail
          refine (walked_R w5 A7 m7 c7 r.1 [] 9 HM7.out.symm HC77.out (by have := HM7.out; have := HRL.out; omega) HC7.out HWR.out (by simp)).mono ?_
          rintro e6 w6 ⟨A8, m8, c8, rfl, hm8, _, _, hb⟩
          obtain rfl : m8 = 0 := by rw [← hm8]; rfl
          have HB6 := Aside0.mk (below_step HB5.out hb)
          clear hm8 hb
          go_wp2_with fail
          refine (num_N r.2 w6).mono ?_
          rintro e7 w7 ⟨rfl, hd⟩
          have HB7 := Aside0.mk (below_step HB6.out hd.below)
          clear hd
          by_cases h0 : r.2 = 0
          · have e1 : (r.2 == 0) = true := by simpa using h0
            have e2 : decide (r.2 = 0) = true := decide_eq_true h0
            go_wp2_with fail
            refine (known_C w7).mono ?_
            rintro e8 w8 ⟨rfl, hb8⟩
            have HZ := Aside0.mk (below_step HB7.out hb8)
            clear hb8
            go_wp2
            go_ret
            exact ⟨rfl, HZ.out⟩
          · have e1 : (r.2 == 0) = false := by simpa using h0
            have e2 : decide (r.2 = 0) = false := decide_eq_false h0
            go_wp2_with fail
            refine (known_C w7).mono ?_
            rintro e8 w8 ⟨rfl, hb8⟩
            have HZ := Aside0.mk (below_step HB7.out hb8)
            clear hb8
            go_wp2
            go_ret
            exact ⟨rfl, HZ.out⟩
      · have b1 : decide ((0 : Int) < (n : Int)) = false := decide_eq_false (by omega)
        have b2 : decide (0 < n) = false := decide_eq_false hn0
        go_wp2_with fail
        refine (known_C wr).mono ?_
        rintro e8 w8 ⟨rfl, hb8⟩
        have HZ := Aside0.mk (below_step HBW.out hb8)
        clear hb8
        go_wp2
        go_ret
        exact ⟨rfl, HZ.out⟩
end Go.Proofs.Ytdbniihjkiecbaa.PW
namespace Go.Proofs.Ytdbniihjkiecbaa.PW
open Go.ChangeShapes Go.WideShapes Go.ChangeAt Go.RowKit Go.Deep
open Go.Proofs.YtdbniihjkiecbaaW.PrintWords Go.Proofs.YtdbniihjkiecbaaW.PrintLast Go.Proofs.YtdbniihjkiecbaaW.PrintMore
set_option linter.unusedVariables false
set_option linter.unusedSimpArgs false

/-- No list in it is heavier than the form's own reach. -/
def Wt {H : Type} (t : TypeId) (d : DataW H) : Prop := ∀ n ∈ d.weights Try.prog t, n ≤ reachBytes
theorem mem_weightsAll {H : Type} {P : Program} {e : TypeId} {d : DataW H} {n : Nat} : ∀ {l : List (DataW H)}, d ∈ l → n ∈ d.weights P e → n ∈ DataW.weightsAll P e l
  | x :: r, hd, hn => by
    simp only [DataW.weightsAll, List.mem_append]
    rcases List.mem_cons.1 hd with rfl | hd
    · exact .inl hn
    · exact .inr (mem_weightsAll hd hn)
theorem c3 : Try.prog.cellsOf 3 = 1 := by kernel_rfl
theorem c9 : Try.prog.cellsOf 9 = 1 := by kernel_rfl
theorem c22 : Try.prog.cellsOf 22 = 1 := by kernel_rfl
theorem c40 : Try.prog.cellsOf 40 = 5 := by kernel_rfl
theorem c24 : Try.prog.cellsOf 24 = 6 := by kernel_rfl
theorem c26 : Try.prog.cellsOf 26 = 3 := by kernel_rfl
theorem c28 : Try.prog.cellsOf 28 = 13 := by kernel_rfl
theorem bytes40 : Try.prog.bytesOf 40 = 56 := by kernel_rfl
instance : Inhabited S40 := ⟨⟨0, ⟨#[]⟩, ⟨#[]⟩, 0, 0⟩⟩
section
variable {H : Type} {enc : TypeId × Value → H} {W : World}
theorem row_of {α : Type} [Inhabited α] {d : Kd α} {t e : TypeId} (ht : Try.prog.underlying t = some (.slice e)) (hc : Try.prog.cellsOf e = d.sz) (good : α → Prop)
    (hopen : ∀ (n : Nat) (cs : List Value) (x : DataW H × List MemPlace), DataW.trod enc Try.prog W 0 (fun _ => true) true n e cs = some x → Wt e x.1 → ∃ y, d.K W y cs ∧ good y)
    {n : Nat} {cs : List Value} {x : DataW H × List MemPlace} (h : DataW.trod enc Try.prog W 0 (fun _ => true) true n t cs = some x) (hw : Wt t x.1) :
    ∃ A c len, ∃ l : List α, cs = [.slice A len c] ∧ l.length = len ∧ len ≤ c ∧ Kd.C d W A len l ∧ (∀ y ∈ l, good y) ∧ len * Try.prog.bytesOf e ≤ reachBytes := by
  rcases open_slice ht h with ⟨rfl, rfl⟩ | ⟨a, len, cap, m, k, D, Pl, rfl, hb, hl, hm, hmm, rfl, hx⟩
  · exact ⟨none, 0, 0, [], rfl, rfl, Nat.le_refl _, ⟨rfl, by omega, fun h => absurd h (by omega)⟩, fun y hy => by simp at hy, by simp⟩
  · have hmm' : m = cap := by simpa using hmm
    have hel : ∀ i, i < len → Wt e (D i) := by
      intro i hi q hq
      refine hw q ?_
      simp only [DataW.weights, ht, List.mem_cons, List.mem_append]
      exact .inr (.inl (mem_weightsAll (List.mem_map.2 ⟨i, List.mem_range.2 hi, rfl⟩) hq))
    have each : ∀ i, i < len → ∃ y : α, ∃ cs', W.cells? 0 (a.add (i * d.sz)) d.sz = some cs' ∧ d.K W y cs' ∧ good y := by
      intro i hi
      obtain ⟨cs', h1, h2⟩ := hx i (by omega)
      rw [hc] at h1
      obtain ⟨y, h3, h4⟩ := hopen _ _ _ h2 (hel i hi)
      exact ⟨y, cs', h1, h3, h4⟩
    obtain ⟨g, hg⟩ := choose_lt each
    have hlen : ((List.range len).map g).length = len := by simp
    have hmax : maxLen = 9223372036854775807 := rfl
    refine ⟨some a, cap, len, (List.range len).map g, rfl, hlen, hl, ⟨hlen, by omega, fun _ => ⟨a, rfl, fun j p hj => ?_⟩⟩, fun y hy => ?_, ?_⟩
    · rw [List.getElem?_map] at hj
      obtain ⟨j', hj', rfl⟩ := Option.map_eq_some_iff.1 hj
      obtain ⟨hjl, he⟩ := List.getElem?_eq_some_iff.1 hj'
      rw [List.getElem_range] at he
      subst he
      rw [List.length_range] at hjl
      obtain ⟨cs', h1, h2, h3⟩ := hg j hjl
      obtain ⟨_, hlc, hcell⟩ := World.cells?_some h1
      refine ⟨cs', hlc, h2, fun i u hu => ?_⟩
      have hi : i < cs'.length := (List.getElem?_eq_some_iff.1 hu).1
      rw [← Go.Deep.add_add, hcell i (by omega)]
      exact hu
    · obtain ⟨r, hr, rfl⟩ := List.mem_map.1 hy
      obtain ⟨cs', h1, h2, h3⟩ := hg r (List.mem_range.1 hr)
      exact h3
    · have h0 := hw ((((List.range len).map D).length + ((List.range (m - len)).map fun j => D (len + j)).length) * Try.prog.bytesOf e) (by simp only [DataW.weights, ht, List.mem_cons]; exact .inl trivial)
      refine Nat.le_trans (Nat.mul_le_mul_right _ ?_) h0
      rw [List.length_map, List.length_range]
      omega
set_option maxRecDepth 100000 in
theorem open40 (n : Nat) (cs : List Value) (x : DataW H × List MemPlace) (h : DataW.trod enc Try.prog W 0 (fun _ => true) true n 40 cs = some x) : ∃ y : S40, k40.K W y cs := by
  obtain ⟨xs, m, _, rfl, hl, hxl, hf⟩ := DataW.trod_struct Try.underlying40 h
  rw [c40] at hl
  match cs, hl, xs, hxl with
  | [v0, v1, v2, v3, v4], _, [x0, x1, x2, x3, x4], _ =>
    have e0 : DataW.trod enc Try.prog W 0 (fun _ => true) true m 3 [v0] = some x0 := by simpa [c3] using hf 0 _ rfl
    have e1 : DataW.trod enc Try.prog W 0 (fun _ => true) true m 9 [v1] = some x1 := by simpa [c9] using hf 1 _ rfl
    have e2 : DataW.trod enc Try.prog W 0 (fun _ => true) true m 9 [v2] = some x2 := by simpa [c9] using hf 2 _ rfl
    have e3 : DataW.trod enc Try.prog W 0 (fun _ => true) true m 3 [v3] = some x3 := by simpa [c3] using hf 3 _ rfl
    have e4 : DataW.trod enc Try.prog W 0 (fun _ => true) true m 3 [v4] = some x4 := by simpa [c3] using hf 4 _ rfl
    obtain ⟨a0, h0, _⟩ := DataW.trod_int Try.underlying3 e0
    obtain ⟨a1, h1, _⟩ := DataW.trod_string Try.underlying9 e1
    obtain ⟨a2, h2, _⟩ := DataW.trod_string Try.underlying9 e2
    obtain ⟨a3, h3, _⟩ := DataW.trod_int Try.underlying3 e3
    obtain ⟨a4, h4, _⟩ := DataW.trod_int Try.underlying3 e4
    injection h0 with h0 _
    injection h1 with h1 _
    injection h2 with h2 _
    injection h3 with h3 _
    injection h4 with h4 _
    rw [h0, h1, h2, h3, h4]
    exact ⟨⟨a0, a1, a2, a3, a4⟩, k40_mk W _⟩
theorem Wt.agg {t : TypeId} {fs : Array Field} {parts : List (DataW H)} (h : Wt t (.agg parts)) (ht : Try.prog.underlying t = some (.struct fs)) {j : Nat} {f : Field} {d : DataW H} (hf : fs[j]? = some f) (hd : parts[j]? = some d) : Wt f.type d := by
  intro n hn
  refine h n ?_
  simp only [DataW.weights, ht]
  exact DataW.weights_mem_each (j := j) (by rw [List.getElem?_map, Array.getElem?_toList, hf]; rfl) hd n hn
set_option maxRecDepth 100000 in
theorem open24 (n : Nat) (cs : List Value) (x : DataW H × List MemPlace) (h : DataW.trod enc Try.prog W 0 (fun _ => true) true n 24 cs = some x) (hw : Wt 24 x.1) :
    ∃ s v k se rq A len c, ∃ l : List S40, cs = [.int .i64 s, .int .i64 v, .int .i64 k, .int .i64 se, .int .i64 rq, .slice A len c] ∧ l.length = len ∧ len ≤ c ∧ Kd.C k40 W A len l ∧ len ≤ 2513169434843 := by
  obtain ⟨xs, m, _, rfl, hl, hxl, hf⟩ := DataW.trod_struct Try.underlying24 h
  rw [c24] at hl
  match cs, hl, xs, hxl with
  | [v0, v1, v2, v3, v4, v5], _, [x0, x1, x2, x3, x4, x5], _ =>
    have e0 : DataW.trod enc Try.prog W 0 (fun _ => true) true m 3 [v0] = some x0 := by simpa [c3] using hf 0 _ rfl
    have e1 : DataW.trod enc Try.prog W 0 (fun _ => true) true m 3 [v1] = some x1 := by simpa [c3] using hf 1 _ rfl
    have e2 : DataW.trod enc Try.prog W 0 (fun _ => true) true m 3 [v2] = some x2 := by simpa [c3] using hf 2 _ rfl
    have e3 : DataW.trod enc Try.prog W 0 (fun _ => true) true m 3 [v3] = some x3 := by simpa [c3] using hf 3 _ rfl
    have e4 : DataW.trod enc Try.prog W 0 (fun _ => true) true m 3 [v4] = some x4 := by simpa [c3] using hf 4 _ rfl
    have e5 : DataW.trod enc Try.prog W 0 (fun _ => true) true m 22 [v5] = some x5 := by simpa [c22] using hf 5 _ rfl
    have hw5 : Wt 22 x5.1 := Wt.agg (j := 5) hw Try.underlying24 rfl rfl
    obtain ⟨a0, h0, _⟩ := DataW.trod_int Try.underlying3 e0
    obtain ⟨a1, h1, _⟩ := DataW.trod_int Try.underlying3 e1
    obtain ⟨a2, h2, _⟩ := DataW.trod_int Try.underlying3 e2
    obtain ⟨a3, h3, _⟩ := DataW.trod_int Try.underlying3 e3
    obtain ⟨a4, h4, _⟩ := DataW.trod_int Try.underlying3 e4
    obtain ⟨A, c, len, l, h5, hll, hlc, hC, _, hb⟩ := row_of (d := k40) Try.underlying22 c40 (fun _ => True) (fun n cs x h _ => by obtain ⟨y, hy⟩ := open40 n cs x h; exact ⟨y, hy, trivial⟩) e5 hw5
    rw [bytes40] at hb
    injection h0 with h0 _
    injection h1 with h1 _
    injection h2 with h2 _
    injection h3 with h3 _
    injection h4 with h4 _
    injection h5 with h5 _
    rw [h0, h1, h2, h3, h4, h5]
    have : reachBytes = 140737488351232 := rfl
    exact ⟨a0, a1, a2, a3, a4, A, len, c, l, rfl, hll, hlc, hC, by omega⟩
set_option maxRecDepth 100000 in
theorem open26 (n : Nat) (cs : List Value) (x : DataW H × List MemPlace) (h : DataW.trod enc Try.prog W 0 (fun _ => true) true n 26 cs = some x) : ∃ a b c, cs = [.int .i64 a, .int .i64 b, .int .i64 c] := by
  obtain ⟨xs, m, _, rfl, hl, hxl, hf⟩ := DataW.trod_struct Try.underlying26 h
  rw [c26] at hl
  match cs, hl, xs, hxl with
  | [v0, v1, v2], _, [x0, x1, x2], _ =>
    have e0 : DataW.trod enc Try.prog W 0 (fun _ => true) true m 3 [v0] = some x0 := by simpa [c3] using hf 0 _ rfl
    have e1 : DataW.trod enc Try.prog W 0 (fun _ => true) true m 3 [v1] = some x1 := by simpa [c3] using hf 1 _ rfl
    have e2 : DataW.trod enc Try.prog W 0 (fun _ => true) true m 3 [v2] = some x2 := by simpa [c3] using hf 2 _ rfl
    obtain ⟨a0, h0, _⟩ := DataW.trod_int Try.underlying3 e0
    obtain ⟨a1, h1, _⟩ := DataW.trod_int Try.underlying3 e1
    obtain ⟨a2, h2, _⟩ := DataW.trod_int Try.underlying3 e2
    injection h0 with h0 _
    injection h1 with h1 _
    injection h2 with h2 _
    rw [h0, h1, h2]
    exact ⟨a0, a1, a2, rfl⟩
set_option maxRecDepth 100000 in
/-- WHAT A RECORD READS AS. -/
theorem open28 {n : Nat} {cs : List Value} {x : DataW H × List MemPlace} (h : DataW.trod enc Try.prog W 0 (fun _ => true) true n 28 cs = some x) (hw : Wt 28 x.1) :
    ∃ kd s v k se rq A len c vn vp vb st of, ∃ (y : ByteArray) (l : List S40), cs = [.int .i64 kd, .int .i64 s, .int .i64 v, .int .i64 k, .int .i64 se, .int .i64 rq, .slice A len c, .int .i64 vn, .int .i64 vp, .int .i64 vb, .int .i64 st, .int .i64 of, .string y] ∧ l.length = len ∧ len ≤ c ∧ Kd.C k40 W A len l ∧ len ≤ 2513169434843 := by
  obtain ⟨xs, m, _, rfl, hl, hxl, hf⟩ := DataW.trod_struct Try.underlying28 h
  rw [c28] at hl
  match cs, hl, xs, hxl with
  | [v0, v1, v2, v3, v4, v5, v6, v7, v8, v9, v10, v11, v12], _, [x0, x1, x2, x3, x4, x5], _ =>
    have e0 : DataW.trod enc Try.prog W 0 (fun _ => true) true m 3 [v0] = some x0 := by simpa [c3] using hf 0 _ rfl
    have e1 : DataW.trod enc Try.prog W 0 (fun _ => true) true m 24 [v1, v2, v3, v4, v5, v6] = some x1 := by simpa [c24] using hf 1 _ rfl
    have e2 : DataW.trod enc Try.prog W 0 (fun _ => true) true m 26 [v7, v8, v9] = some x2 := by simpa [c26] using hf 2 _ rfl
    have e3 : DataW.trod enc Try.prog W 0 (fun _ => true) true m 3 [v10] = some x3 := by simpa [c3] using hf 3 _ rfl
    have e4 : DataW.trod enc Try.prog W 0 (fun _ => true) true m 3 [v11] = some x4 := by simpa [c3] using hf 4 _ rfl
    have e5 : DataW.trod enc Try.prog W 0 (fun _ => true) true m 9 [v12] = some x5 := by simpa [c9] using hf 5 _ rfl
    have hw1 : Wt 24 x1.1 := Wt.agg (j := 1) hw Try.underlying28 rfl rfl
    obtain ⟨kd, h0, _⟩ := DataW.trod_int Try.underlying3 e0
    obtain ⟨s, v, k, se, rq, A, len, c, l, h1, hll, hlc, hC, hb⟩ := open24 _ _ _ e1 hw1
    obtain ⟨vn, vp, vb, h2⟩ := open26 _ _ _ e2
    obtain ⟨st, h3, _⟩ := DataW.trod_int Try.underlying3 e3
    obtain ⟨of, h4, _⟩ := DataW.trod_int Try.underlying3 e4
    obtain ⟨y, h5, _⟩ := DataW.trod_string Try.underlying9 e5
    injection h0 with h0 _
    injection h3 with h3 _
    injection h4 with h4 _
    injection h5 with h5 _
    simp only [List.cons.injEq, and_true] at h1 h2
    obtain ⟨rfl, rfl, rfl, rfl, rfl, rfl⟩ := h1
    obtain ⟨rfl, rfl, rfl⟩ := h2
    rw [h0, h3, h4, h5]
    exact ⟨kd, s, v, k, se, rq, A, len, c, vn, vp, vb, st, of, y, l, rfl, hll, hlc, hC, hb⟩
end
end Go.Proofs.Ytdbniihjkiecbaa.PW
namespace Go.Proofs.Ytdbniihjkiecbaa.PW
open Go.ChangeShapes Go.WideShapes Go.ChangeAt Go.RowKit Go.Deep
open Go.Proofs.YtdbniihjkiecbaaW.PrintWords Go.Proofs.YtdbniihjkiecbaaW.PrintLast Go.Proofs.YtdbniihjkiecbaaW.PrintMore
set_option linter.unusedVariables false
set_option linter.unusedSimpArgs false

instance : Inhabited JR := ⟨zJ⟩
theorem bytes28 : Try.prog.bytesOf 28 = 128 := by kernel_rfl
section
variable {H : Type} {enc : TypeId × Value → H} {W : World}
/-- WHAT A LIST OF RECORDS READS AS. -/
theorem open_records {a : Option Addr} {len cap : Nat} {d : DataW H} {p : List MemPlace} (h0 : DataW.Trod enc Try.prog W 0 (fun _ => true) true 43 (.slice a len cap) d p) (hw : Wt 43 d) :
    ∃ L : List JR, L.length = len ∧ Kd.C kJ W a len L ∧ len ≤ cap ∧ (∀ y ∈ L, y.ops.length ≤ 2513169434843) ∧ len ≤ 2513169434843 := by
  obtain ⟨fuel, hf⟩ := h0
  obtain ⟨A, c, n, L, h1, h2, h3, h4, h5, h6⟩ := row_of (d := kJ) u43 c28 (fun y => y.ops.length ≤ 2513169434843) (fun n cs x h hw => by
    obtain ⟨kd, s, v, k, se, rq, A, len, c, vn, vp, vb, st, of, y, l, rfl, hl, hc, hC, hb⟩ := open28 h hw
    subst hl
    exact ⟨⟨kd, s, v, k, se, rq, l, vn, vp, vb, st, of, y⟩, kJ_mk W ⟨kd, s, v, k, se, rq, l, vn, vp, vb, st, of, y⟩ hc hC, hb⟩) hf hw
  rw [bytes28] at h6
  injection h1 with h1 _
  injection h1 with e1 e2 e3
  subst e1
  subst e2
  subst e3
  have : reachBytes = 140737488351232 := rfl
  exact ⟨L, h2, h4, h3, h5, by omega⟩
end
end Go.Proofs.Ytdbniihjkiecbaa.PW
