/- Streams by what they were fed: Feed, follows, taken over the bytes fed so far. -/
import Derived.Test.YtnanaojjhmpilaaS8
import Derived.Test.YtnanaojjhmpilaaPWx3
import Derived.Outline
namespace Go.Proofs.Ytnanaojjhmpilaa.PW
open Go.RowKit Go.Proofs.YtnanaojjhmpilaaW.PrintWords Go.Proofs.YtnanaojjhmpilaaW.PrintLast Go.Proofs.YtnanaojjhmpilaaW.PrintMore
set_option linter.unusedVariables false
set_option linter.unusedSimpArgs false

/-- The stream in block b was fed F; pre has been handed on, fs is found and not yet asked for. -/
def StrmAt (W : World) (base : Nat) (ok : Nat → Prop) (b : Nat) (F : List Int) (pre fs : List (List Int)) : Prop := Strm W base ok b (scan F).2.2 fs (scan F).2.1 ∧ (scan F).1 = pre ++ fs
theorem scan_nil : scan [] = ([], 0, []) := scan_wait rfl
theorem Strm_new {W : World} {base b : Nat} (hb : W.heap[b]? = some (.cells #[.slice none 0 0, .slice none 0 0, .int .i64 0] 53 (0, 0))) (hbase : base ≤ b) : Strm W base (fun k => k = b) b [] [] 0 :=
  ⟨hbase, rfl, .slice none 0 0, .slice none 0 0, fun _ => False, hb, Kd.R_nil _ _ _ _ _, SQ_nil _ _ _ _ _, fun k hk => hk.elim⟩
theorem StrmAt_new {W : World} {base b : Nat} (hb : W.heap[b]? = some (.cells #[.slice none 0 0, .slice none 0 0, .int .i64 0] 53 (0, 0))) (hbase : base ≤ b) : StrmAt W base (fun k => k = b) b [] [] [] := by
  unfold StrmAt
  rw [scan_nil]
  exact ⟨Strm_new hb hbase, rfl⟩
section
variable {W W1 : World} {base b : Nat} {ok ok' S : Nat → Prop} {F : List Int} {pre fs : List (List Int)}
theorem StrmAt_mono (h : StrmAt W base ok b F pre fs) (hok : ∀ k, ok k → ok' k) : StrmAt W base ok' b F pre fs := ⟨Strm_mono h.1 hok, h.2⟩
theorem StrmAt_bound (h : StrmAt W base ok b F pre fs) : StrmAt W base (fun k => ok k ∧ base ≤ k ∧ k < W.heap.size) b F pre fs := ⟨Strm_bound h.1, h.2⟩
theorem StrmAt_frm (h : StrmAt W base ok b F pre fs) (hf : Frm W W1 S) (hn : ∀ k, ok k → ¬ S k) : StrmAt W1 base ok b F pre fs := ⟨Strm_frm h.1 hf hn, h.2⟩
theorem StrmAt_below (h : StrmAt W base ok b F pre fs) (hf : Below W.heap.size W W1) : StrmAt W1 base ok b F pre fs := ⟨Strm_below h.1 hf, h.2⟩
end
/-- What a stream's call writes lies from N on. -/
theorem below_frm {w wr w1 : World} {N : Nat} {S : Nat → Prop} (hb : Below w.heap.size w wr) (hf : Frm wr w1 S) (hS : ∀ k, S k → N ≤ k) (hN : w.heap.size ≤ N) : Below w.heap.size w w1 :=
  hb.trans ⟨hf.os, hf.tape, hf.output, hf.size, fun k hk => hf.block k (Nat.lt_of_lt_of_le hk hb.size) (fun h2 => by have := hS k h2; omega)⟩
theorem R_far_frm {α : Type} {d : Kd α} {e base N : Nat} {W W1 : World} {v : Value} {xs : List α} {S : Nat → Prop} (h : d.R e W base (fun k => k < N) v xs) (hf : Frm W W1 S) (hS : ∀ k, S k → N ≤ k) : d.R e W1 base (fun k => k < N) v xs := R_frm h hf (fun k hk h2 => by have := hS k h2; omega)
theorem scan_fed {F X : List Int} {pre fs : List (List Int)} (h : (scan F).1 = pre ++ fs) : (scan (F ++ X)).1 = pre ++ (fs ++ (scan ((scan F).2.2 ++ X)).1) ∧ (scan (F ++ X)).2.1 = (scan F).2.1 + (scan ((scan F).2.2 ++ X)).2.1 ∧ (scan (F ++ X)).2.2 = (scan ((scan F).2.2 ++ X)).2.2 := by
  rw [scan_append F.length F X (Nat.le_refl _)]
  exact ⟨by rw [h, List.append_assoc], rfl, rfl⟩
theorem scan_left_ok {F : List Int} (h : bytesOk F = true) : bytesOk (scan F).2.2 = true := by
  obtain ⟨_, k, hk⟩ := scan_left F.length F (Nat.le_refl _)
  rw [hk]
  exact bytesOk_drop h k
theorem scan_lens (F : List Int) : (scan F).1.length + (scan F).2.1 + (scan F).2.2.length ≤ F.length := by
  have := scan_size F.length F (Nat.le_refl _)
  omega
theorem feedAt (b base : Nat) (ok : Nat → Prop) (A0 : Option Addr) (c0 n : Nat) (X F : List Int) (pre fs : List (List Int)) (w : World) (hn : X.length = n) (hr : C8 w A0 n X) (hc : n ≤ c0) (hokF : bytesOk F = true) (hokX : bytesOk X = true)
    (hS : StrmAt w base ok b F pre fs) (hbase : base ≤ w.heap.size) (hm : F.length + n ≤ 400000) :
    Calls Try.prog 39 #[.pointer (some ⟨b, 0, none⟩), .slice A0 n c0] w fun e w' => (∃ v, e = .returned v) ∧ (∃ fs', StrmAt w' base (fun k => ok k ∨ w.heap.size ≤ k) b (F ++ X) pre fs') ∧ Frm w w' ok := by
  have hl := scan_lens F
  have hfs : fs.length ≤ (scan F).1.length := by rw [hS.2, List.length_append]; omega
  refine (feed_M b base ok A0 c0 n (scan F).2.1 X (scan F).2.2 ((scan F).2.2 ++ X) fs w hn hr hc (bytesOk_append (scan_left_ok hokF) hokX) hS.1 hbase rfl (by rw [List.length_append]; omega) (by rw [List.length_append]; omega) (by rw [List.length_append]; omega)).mono ?_
  rintro e w' ⟨h1, h2, h3⟩
  obtain ⟨e1, e2, e3⟩ := scan_fed (X := X) hS.2
  refine ⟨h1, ⟨_, ?_, e1⟩, h3⟩
  rw [e2, e3]
  exact h2
theorem followsAt (wl : World) (A : Option Addr) (n c : Nat) (ls : List (List Int)) (F : List Int) (b : Nat) (ok : Nat → Prop) (pre fs : List (List Int)) (got : Nat) (most : Int) (w : World)
    (hC : Kd.C (Kd.slice 5 (Kd.int .u8)) wl A n ls) (hn : ls.length = n) (hc : n ≤ c) (hF : ls.flatten = F) (hFo : bytesOk F = true) (hFl : F.length ≤ 1000000) (hn2 : n ≤ 1000000)
    (hB : Below wl.heap.size wl w) (hS : StrmAt w wl.heap.size ok b F pre fs) (hgot : pre.length = got) :
    Calls Try.prog 40 #[.pointer (some ⟨b, 0, none⟩), .slice A n c, .int .i64 (got : Int), .int .i64 most] w fun e w' => ∃ pre' fs' okS got', e = .returned (.tuple #[.int .i64 ((got' : Nat) : Int), .bool true]) ∧ pre'.length = got' ∧ got' = got + min most.toNat fs.length ∧ StrmAt w' wl.heap.size okS b F pre' fs' ∧ (∀ k, okS k → ok k) ∧ Frm w w' ok := by
  refine (follows_C wl A n c ls F b ok _ fs pre _ got most w hC hn hc hF hFo hFl hn2 hB hS.1 hS.2 hgot rfl).mono ?_
  rintro e w' ⟨h1, ⟨okS, h2, h3⟩, h4⟩
  refine ⟨pre ++ fs.take (min most.toNat fs.length), fs.drop (min most.toNat fs.length), okS, _, h1, ?_, rfl, ⟨h2, ?_⟩, h3, h4⟩
  · rw [List.length_append, List.length_take, hgot]; omega
  · rw [hS.2, List.append_assoc, List.take_append_drop]
theorem cutt37 {A : Option Addr} {n c : Nat} (j : Nat) (hj : j ≤ n) (hc : n ≤ c) :
    (∀ W : World, (Instr.slice 37 (.slice A n c) none (some (.int .i64 (j : Int))) none).run Try.prog W = .ok (.slice A j c) W) := by
  obtain ⟨i0, hi, hzz⟩ := Option.map_eq_some_iff.1 info22
  have hrun := cut_to (P := Try.prog) 37 22 .i64 Try.underlying37 hi A n c (j : Int) (by omega) (by omega) hc
  exact fun W => by have := hrun W; rw [Int.toNat_natCast] at this; exact this
/-- Frame([]byte("a")). -/
theorem frame_a (W : World) : Calls Try.prog 31 #[.slice (some ⟨W.heap.size + 1, 0, none⟩) 1 1] ((W.alloc (.cells #[.int .u8 97] 5 (1, 2))).alloc (.cells #[.slice (some ⟨W.heap.size, 0, none⟩) 1 1] 22)) fun e w' =>
    ∃ v, e = .returned (.tuple #[v, .int .i64 0]) ∧ Kd.R (Kd.int .u8) 5 w' W.heap.size (fun _ => True) v (frameOf [97]) ∧ Below W.heap.size W w' := by
  have hC7 : C8 (W.alloc (.cells #[.int .u8 97] 5 (1, 2))) (some ⟨W.heap.size, 0, none⟩) 1 [97] := C_lit W [97] (1, 2) (by decide)
  have hrows := C_rows (W.alloc (.cells #[.int .u8 97] 5 (1, 2))) [.slice (some ⟨W.heap.size, 0, none⟩) 1 1] [[97]] rfl (by decide) (by
    intro j p hj
    match j with
    | 0 => simp at hj; subst hj; exact ⟨_, 1, rfl, by decide, hC7⟩
    | j + 1 => simp at hj)
  rw [size_alloc1] at hrows
  refine (frame_N (some ⟨W.heap.size + 1, 0, none⟩) 1 1 [[97]] (frameOf [97]) _ rfl hrows (by decide) (by decide) rfl).mono ?_
  rintro e w' ⟨v, rfl, h1, h2⟩
  exact ⟨v, rfl, Kd.R_lower h1 (by simp; omega), below_step (below_alloc (below_alloc (Below.refl _ _) _) _) h2⟩
theorem dec_frame (x t : List Int) (hx : bytesOk x = true) (h : x.length ≤ 262144) : dec (frameOf x ++ t) = .body x.length := by
  have hlen := frameOf_length x
  have hw := frameOf_word2 x t h
  have hl : 14 ≤ (frameOf x ++ t).length := by rw [List.length_append, hlen]; omega
  have hh := frameOf_headB x t h
  have ho : opens (frameOf x ++ t) = true := by
    unfold headB at hh
    simp only [Bool.and_eq_true] at hh
    unfold opens
    rw [hh.1.1.1, hh.1.1.2]
    simp
  unfold dec
  rw [if_neg (by omega), ho, if_neg (by simp), if_neg (by omega), hh, if_neg (by simp), hw, Int.toNat_natCast, if_neg (by rw [List.length_append, hlen]; omega), List.take_append_of_le_length (by omega), List.take_of_length_le (by omega), frameOf_endsB x hx, if_neg (by simp)]
theorem scan_frame (x t : List Int) (hx : bytesOk x = true) (h : x.length ≤ 262144) : scan (frameOf x ++ t) = (x :: (scan t).1, (scan t).2.1, (scan t).2.2) := by
  have hlen := frameOf_length x
  have hb := frameOf_body x
  rw [hlen, show x.length + 14 - 14 = x.length by omega] at hb
  rw [scan_body (dec_frame x t hx h), List.drop_append_of_le_length (l₁ := frameOf x) (by omega), List.drop_append_of_le_length (l₁ := frameOf x) (by omega), List.take_append_of_le_length (by rw [List.length_drop]; omega), hb, List.drop_of_length_le (l := frameOf x) (by omega), List.nil_append]
theorem takenAt (b base : Nat) (ok : Nat → Prop) (F : List Int) (pre fs : List (List Int)) (most : Int) (w : World) (hS : StrmAt w base ok b F pre fs) (hbase : base ≤ w.heap.size) (hF : F.length ≤ 1000000) :
    Calls Try.prog 42 #[.pointer (some ⟨b, 0, none⟩), .int .i64 most] w fun e w' => ∃ v okS okr fs1 fs2, e = .returned (.tuple #[v, .bool true]) ∧ fs = fs1 ++ fs2 ∧ fs1.length = min most.toNat fs.length ∧ SQ (Kd.slice 5 (Kd.int .u8)) 22 w' base okr v fs1 ∧
      StrmAt w' base okS b F (pre ++ fs1) fs2 ∧ (∀ k, okS k → ok k ∧ ¬ okr k) ∧ (∀ k, okr k → ok k ∨ w.heap.size ≤ k) ∧ Frm w w' (fun k => k = b) := by
  have h1 := scan_lens F
  have h2 : fs.length ≤ (scan F).1.length := by rw [hS.2, List.length_append]; omega
  refine (taken_C b base ok _ fs _ most w hS.1 hbase (by omega)).mono ?_
  rintro e w' ⟨v, okS, okr, fs1, fs2, h1, h2, h3, h4, h5, h6, h7, h8⟩
  exact ⟨v, okS, okr, fs1, fs2, h1, h2, h3, h4, ⟨h5, by rw [hS.2, h2, List.append_assoc]⟩, h6, h7, h8⟩
end Go.Proofs.Ytnanaojjhmpilaa.PW
