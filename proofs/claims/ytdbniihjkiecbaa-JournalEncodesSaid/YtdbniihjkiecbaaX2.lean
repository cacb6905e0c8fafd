/- Words, contracts and walks of the law JournalEncodes, in one text. -/
import Derived.Test.YtdbniihjkiecbaaX1
import Derived.Outline
import Derived.Test.YtdbniihjkiecbaaRows
import Derived.WalkKit
import Derived.ProofKit
import Derived.OpenShut
import Derived.ChangeOld
import Derived.Below
import Derived.SizedLaws
import Derived.Deep.Slices
namespace Go.Proofs.Ytdbniihjkiecbaa.PW
open Go.RowKit Go.Proofs.YtdbniihjkiecbaaW.PrintWords Go.Proofs.YtdbniihjkiecbaaW.PrintLast Go.Proofs.YtdbniihjkiecbaaW.PrintMore
set_option linter.unusedVariables false
set_option linter.unusedSimpArgs false
attribute [local go_sem] Oper.semAt_some

/-- A call of yield with two arguments, under a wide fence. -/
theorem listIn_yield2 {P : Program} {ops : Array Oper} {Q : Exit → Act → World → Prop} {r : Option Nat} {o : Oper} {rest : List Oper} {a : Act} {W : World} {R : Ending → World → Prop} {l : Nat} (x y z : Operand) (ts : Array TypeId) (hgd : o.guard = none) (ho : o.op = .call { callee := .value x, args := #[y, z], argTypes := ts })
    (hx : a.eval x = .func (.yield l) #[] #[]) {v u : Value} (hy : a.eval y = v) (hz : a.eval z = u) (hY : YieldAt Fence.wide 0 P l #[v, u] W R)
    (h : ∀ v W', R (.returned v) W' → wpListIn { Fence.wide with round := r } 0 P ops Q rest (a.put o.dst v) W') (hp : ∀ c W', ¬ R (.panicked c) W') (hg : ∀ W', ¬ R .outgrown W') : wpListIn { Fence.wide with round := r } 0 P ops Q (o :: rest) a W := by
  refine wpListIn_plain hgd fun K hK => ⟨fun _ _ => trivial, ?_⟩
  have hs : o.semAt r a.eval = execOp a.eval o := by
    cases r with
    | none => rfl
    | some l₀ => exact Oper.semAt_some l₀ _ _ (by rw [ho]; simp)
  obtain ⟨fn, tmps, assign, body, hrun, hR⟩ := hY
  have hrun2 : (execOp a.eval o).run P W = .ok (.round l fn tmps assign body) W := by
    unfold execOp
    simp [ho, resolve, invoke, hx, hy, hz, Deferred.ofValue, hrun, Sem.run_bind, Result.andThen]
  show o.uponIn _ 0 P a K Q ((o.semAt r a.eval).run P W)
  rw [hs, hrun2]
  refine ⟨fun h => by simp [Fence.wide] at h, RoundIn.mono (F := { Fence.wide with round := r }) hR ?_⟩
  rintro (v | c | _) W' hr
  · exact hK _ _ (h v W' hr)
  · exact (hp _ _ hr).elim
  · exact (hg _ hr).elim
set_option maxHeartbeats 4000000 in
set_option maxRecDepth 100000 in
theorem hand_61 (q l k : Nat) (y : JR) (A : Option Addr) (c : Nat) (at_ : Int) (W : World) (R : Ending → World → Prop) (hq : W.cell? ⟨q, 0, none⟩ = some (.func (.yield l) #[] #[]))
    (hY : YieldAt Fence.wide 0 Try.prog l (jargs k y A c) (W.alloc (.cells (y.cells A c) 28)) R) (hR : ∀ e W', R e W' → ∃ b, e = .returned (.bool b)) :
    Calls Try.prog 61 #[.int .i64 ((k : Int) + 1), .int .i64 at_, .agg (y.cells A c), .pointer (some ⟨q, 0, none⟩)] W R := by
  have HY := Aside0.mk hY
  have HR := Aside0.mk hR
  have HQ := Aside0.mk hq
  clear hY hR hq
  go_enter Try.func61, Try.ntmps61
  go_upto_region 1 with (fail)
  have h42 : (W.alloc (.cells (y.cells A c) 28)).cell? ⟨q, 0, none⟩ = some (.func (.yield l) #[] #[]) := pw_cell_below (below_alloc (Below.refl _ _) _) HQ.out
  have HB := Aside0.mk (heap_alloc_new W (.cells (y.cells A c) 28))
  obtain ⟨W1, hW1⟩ : ∃ W1, W1 = W.alloc (.cells (y.cells A c) 28) := ⟨_, rfl⟩
  obtain ⟨g, hg⟩ : ∃ g, g = W.heap.size := ⟨_, rfl⟩
  rw [← hW1, ← hg] at HB
  rw [← hW1] at HY h42
  rw [← hW1, ← hg]
  clear hW1 hg
  have b0 := (blk_cell HB.out 0).trans rfl
  have b1 := (blk_cell HB.out 1).trans rfl
  have b2 := (blk_cell HB.out 2).trans rfl
  have b3 := (blk_cell HB.out 3).trans rfl
  have b4 := (blk_cell HB.out 4).trans rfl
  have b5 := (blk_cell HB.out 5).trans rfl
  have b6 := (blk_cell HB.out 6).trans rfl
  have b7 := (blk_cell HB.out 7).trans rfl
  have b8 := (blk_cell HB.out 8).trans rfl
  have b9 := (blk_cell HB.out 9).trans rfl
  have b10 := (blk_cell HB.out 10).trans rfl
  have b11 := (blk_cell HB.out 11).trans rfl
  have b12 := (blk_cell HB.out 12).trans rfl
  have hu28 := Try.underlying28
  have hu26 := Try.underlying26
  have hu24 := Try.underlying24
  refine (wpIn_wide (n := 0)).1 ?_
  refine wpIn_region_lit ?_
  refine listIn_value (r := none) (W1 := W1) (v := .func (.yield l) #[] #[]) rfl (by simp) ?_ ?_
  · go_simp
  refine listIn_value (r := none) (W1 := W1) (v := .int .i64 ((k : Int) + 1)) rfl (by simp) (by rfl) ?_
  refine listIn_value (r := none) (W1 := W1) (v := .agg (y.cells A c)) rfl (by simp) ?_ ?_
  · go_simp
  refine listIn_yield2 (r := none) (.tmp 8) (.tmp 9) (.tmp 10) _ rfl rfl (by rfl) (by rfl) (by rfl) HY.out ?_ (fun c W' h => by obtain ⟨b, hb⟩ := HR.out _ _ h; cases hb) (fun W' h => by obtain ⟨b, hb⟩ := HR.out _ _ h; cases hb)
  intro v W' hR
  obtain ⟨b, hb⟩ := HR.out _ _ hR
  cases hb
  have HRR := Aside0.mk hR
  clear b0 b1 b2 b3 b4 b5 b6 b7 b8 b9 b10 b11 b12 h42 hR HB
  refine listIn_value (r := none) rfl (by simp) (by rfl) ?_
  refine wpListIn_nil ?_
  go_wp2
  refine bodyPost_ret (results_tmp rfl _ _ _) rfl ?_
  exact HRR.out
theorem wr_k2 {k : Nat} (h : k ≤ 1000000000) : wrap64 ((k : Int) + 1 + 1) = ((k + 1 : Nat) : Int) + 1 := by unfold wrap64; omega
set_option maxHeartbeats 16000000 in
set_option maxRecDepth 100000 in
theorem walked_W (N0 q l : Nat) (A : Option Addr) (n c : Nat) (lb : List Int) (L : List JR) (J : (Nat → Prop) → Nat → World → Prop) (Jx : World → Prop) (T0 : Nat → Prop) (W : World)
    (hn : lb.length = n) (hc : n ≤ c) (hmx : n ≤ 1000000000) (hWk : Walks lb 0 0 L) (hJ : TOwn N0 J) (hT0 : ∀ j, T0 j → j < W.heap.size) (hD : ∀ T k W, J T k W → C8 W A n lb) (hTq : T0 q) (hq0 : N0 ≤ q)
    (hq : W.heap[q]? = some (.cells #[.func (.yield l) #[] #[]] 42 (0, 0)))
    (hY : ∀ T k y A c okx W1, (∀ j, T0 j → T j) → (∀ j, T j → j < W1.heap.size) → L[k]? = some y → J (fun j => T j ∨ okx j) k W1 → Handed N0 T y A c okx W1 →
      YieldAt Fence.wide 0 Try.prog l (jargs k y A c) W1 fun e W' => ((e = .returned (.bool true) ∧ J T (k + 1) W') ∨ (e = .returned (.bool false) ∧ Jx W')) ∧ ∀ j, T j → N0 ≤ j → j < W1.heap.size → W'.heap[j]? = W1.heap[j]?)
    (h0 : J T0 0 W) :
    Calls Try.prog 60 #[.slice A n c, .func (.func 61) #[] #[.pointer (some ⟨q, 0, none⟩)]] W fun e W' => (∃ v, e = .returned v) ∧ (J T0 L.length W' ∨ Jx W') := by
  have HN := Aside0.mk hn
  have HC := Aside0.mk hc
  have HM := Aside0.mk hmx
  have HJ := Aside0.mk hJ
  have HD := Aside0.mk hD
  have HT0 := Aside0.mk hT0
  have HTq := Aside0.mk hTq
  have HQ0 := Aside0.mk hq0
  have HQ := Aside0.mk hq
  have HY := Aside0.mk hY
  have H0 := Aside0.mk h0
  have HW := Aside0.mk hWk
  clear hn hc hmx hJ hD hT0 hTq hq0 hq hY h0 hWk
  go_enter Try.func60, Try.ntmps60
  go_wp2
  go_loopg [4, 5] L.length (fun kq v4 v5 wr => ∃ (k at_ : Nat) (pre L' : List JR), v4 = .int .i64 (at_ : Int) ∧ v5 = .int .i64 ((k : Int) + 1) ∧ Aside0 (L'.length = kq ∧ L = pre ++ L' ∧ pre.length = k) ∧ Aside0 (Walks lb at_ k L') ∧ at_ ≤ n ∧ 20 * k ≤ at_ ∧ Aside0 (J T0 k wr) ∧ Aside0 (wr.heap[q]? = some (.cells #[.func (.yield l) #[] #[]] 42 (0, 0))) ∧ Aside0 (∀ j, T0 j → j < wr.heap.size))
  case atStart => exact ⟨0, 0, [], L, rfl, rfl, ⟨rfl, rfl, rfl⟩, HW, by omega, by omega, H0, HQ, HT0⟩
  case round =>
    obtain ⟨k, at_, pre, L', rfl, rfl, HL, HWK, hatn, hat, HJK, HQK, HTK⟩ := hrel
    have hk1 : decide ((k : Int) + 1 ≤ 2147483647) = true := decide_eq_true (by have := HM.out; omega)
    obtain ⟨Aa, hca, hCa⟩ := cutf8 (A := A) (n := n) (c := c) (xs := lb) at_ (by omega) HC.out
    have HCA := Aside0.mk (hCa wr (HD.out T0 k wr HJK.out))
    have HAT := Aside0.mk (And.intro hatn hat)
    clear hCa
    cases L' with
    | nil =>
      have hr := HWK.out
      go_wp2_with fail
      refine (hr wr Aa (n - at_) (c - at_) (by rw [List.length_drop, HN.out]) (Nat.sub_le_sub_right HC.out at_) HCA.out).mono ?_
      rintro e w2 ⟨rfl, hb⟩
      have HB := Aside0.mk hb
      clear hb hr
      go_wp2
      refine bodyPost_ret (results_none rfl _ _ _) rfl ?_
      refine ⟨⟨_, rfl⟩, .inl ?_⟩
      obtain ⟨h1, h2, h3⟩ := HL.out
      rw [h2, List.append_nil, h3]
      exact (HJ.out T0 k wr _ none _ HJK.out (grown_of_below (below_alloc HB.out _) none) (fun r e => by cases e) (fun j hj => .inl hj))
    | cons y L2 =>
      obtain ⟨m, hr, hm20, hle, hrest⟩ := HWK.out
      have HREST := Aside0.mk hrest
      have HM20 := Aside0.mk (And.intro hm20 hle)
      have hwa : wrap64 ((at_ : Int) + (m : Int)) = ((at_ + m : Nat) : Int) := by have := HM.out; have := HN.out; exact (by unfold wrap64; omega)
      clear hrest hm20 hle hatn hat
      go_wp2_with fail
      refine (hr wr Aa (n - at_) (c - at_) (by rw [List.length_drop, HN.out]) (Nat.sub_le_sub_right HC.out at_) HCA.out).mono ?_
      rintro e w2 ⟨B, cb, rfl, ho, hb⟩
      have HB := Aside0.mk hb
      have HO := Aside0.mk ho
      clear hb hr ho
      go_wp2_with fail
      obtain ⟨W2, hW2⟩ : ∃ W2, W2 = w2.alloc (.cells (y.cells B cb) 28) := ⟨_, rfl⟩
      obtain ⟨W3, hW3⟩ : ∃ W3, W3 = W2.alloc (.cells (y.cells B cb) 28) := ⟨_, rfl⟩
      have HB2 := Aside0.mk (show Below wr.heap.size wr W2 by rw [hW2]; exact below_alloc HB.out _)
      have HB3 := Aside0.mk (show Below wr.heap.size wr W3 by rw [hW3]; exact below_alloc HB2.out _)
      have HW23 := Aside0.mk (show Below w2.heap.size w2 W3 by rw [hW3]; exact below_alloc (show Below w2.heap.size w2 W2 by rw [hW2]; exact below_alloc (Below.refl _ _) _) _)
      have hyld := HY.out T0 k y B cb (fun j => wr.heap.size ≤ j ∧ j < w2.heap.size) W3 (fun j h => h) (fun j hj => Nat.lt_of_lt_of_le (HTK.out j hj) HB3.out.size)
        (by obtain ⟨_, h2, h3⟩ := HL.out; rw [h2, ← h3]; simp)
        (HJ.out T0 k wr W3 none _ HJK.out (grown_of_below HB3.out none) (fun r e => by cases e) (fun j hj => hj.imp_right (fun h => ⟨h.1, Nat.lt_of_lt_of_le h.2 HW23.out.size⟩)))
        ⟨Kd.R_lower (Kd.R_below (Kd.R_mono (Kd.R_bound HO.out) (fun j hj => ⟨hj.2.1, hj.2.2.1⟩)) HW23.out) (Nat.le_trans HQ0.out (Nat.le_of_lt (blk_lt HQK.out))), fun j hj => ⟨fun h => absurd (HTK.out j h) (Nat.not_lt.2 hj.1), Nat.le_trans (Nat.le_trans HQ0.out (Nat.le_of_lt (blk_lt HQK.out))) hj.1, Nat.lt_of_lt_of_le hj.2 HW23.out.size⟩⟩
      have HYL := Aside0.mk hyld
      have hq2 : W2.cell? ⟨q, 0, none⟩ = some (.func (.yield l) #[] #[]) := (blk_cell ((HB2.out.block q (blk_lt HQK.out)).trans HQK.out) 0).trans rfl
      clear hyld
      rw [← hW2]
      refine (hand_61 q l k y B cb _ W2 _ hq2 (by rw [← hW3]; exact HYL.out) (by rintro e W' ⟨(⟨rfl, _⟩ | ⟨rfl, _⟩), _⟩ <;> exact ⟨_, rfl⟩)).mono ?_
      rintro e W' ⟨(⟨rfl, hj⟩ | ⟨rfl, hjx⟩), hT⟩
      · have HJ' := Aside0.mk hj
        have HQ' := Aside0.mk (show W'.heap[q]? = some (.cells #[.func (.yield l) #[] #[]] 42 (0, 0)) from (hT q HTq.out HQ0.out (Nat.lt_of_lt_of_le (blk_lt HQK.out) HB3.out.size)).trans ((HB3.out.block q (blk_lt HQK.out)).trans HQK.out))
        have HTK' := Aside0.mk (show ∀ j, T0 j → j < W'.heap.size from fun j hj => by
          by_cases hjn : N0 ≤ j
          · have h1 := hT j hj hjn (Nat.lt_of_lt_of_le (HTK.out j hj) HB3.out.size)
            rw [Array.getElem?_eq_getElem (Nat.lt_of_lt_of_le (HTK.out j hj) HB3.out.size)] at h1
            exact (Array.getElem?_eq_some_iff.1 h1).1
          · exact Nat.lt_trans (Nat.lt_of_lt_of_le (Nat.lt_of_not_le hjn) HQ0.out) (blk_lt HQ'.out))
        clear hj hT hq2 hW2 hW3
        go_wp2
        go_roundg L2.length
        case measure => have := HL.out.1; simp at this; omega
        case rel => exact ⟨k + 1, at_ + m, pre ++ [y], L2, by simp, by rw [wr_k2 (by have h1 := HM20.out; have h2 := HAT.out; have h3 := HM.out; omega)], ⟨rfl, by rw [HL.out.2.1]; simp, by simp [HL.out.2.2]⟩, HREST, by have := HM20.out; have := HN.out; omega, by have := HM20.out; have := HAT.out; omega, HJ', HQ', HTK'⟩
      · have HJX := Aside0.mk hjx
        clear hjx hT hq2 hW2 hW3
        go_wp2
        refine bodyPost_ret (results_none rfl _ _ _) rfl ?_
        exact ⟨⟨_, rfl⟩, .inr HJX.out⟩
set_option maxHeartbeats 4000000 in
set_option maxRecDepth 100000 in
/-- Walk's iterator meets the contract. -/
theorem it59 (Bn : Nat) (A : Option Addr) (n c : Nat) (lb : List Int) (L : List JR) (W : World) (hn : lb.length = n) (hc : n ≤ c) (hmx : n ≤ 1000000000) (hWk : Walks lb 0 0 L) (hbox : W.cell? ⟨Bn, 0, none⟩ = some (.slice A n c)) :
    ItWalk Try.prog 59 Bn (fun W => C8 W A n lb) L W := by
  intro l J Jx T0 hJ hJx hT0 hD hY h0
  have HN := Aside0.mk hn
  have HC := Aside0.mk hc
  have HM := Aside0.mk hmx
  have HW := Aside0.mk hWk
  have HJ := Aside0.mk hJ
  have HT0 := Aside0.mk hT0
  have HD := Aside0.mk hD
  have HY := Aside0.mk hY
  have H0 := Aside0.mk h0
  have hmf : ∀ (fn : Fn) (first cap : Array Value) (w : World), (Instr.makeFunc fn first cap).run Try.prog w = .ok (.func fn first cap) w := fun _ _ _ _ => rfl
  clear hn hc hmx hWk hJ hJx hT0 hD hY h0
  go_enter Try.func59, Try.ntmps59
  go_upto_region 1 with (fail)
  have hb1 : (W.alloc (.cells #[.func (.yield l) #[] #[]] 42)).cell? ⟨Bn, 0, none⟩ = some (.slice A n c) := pw_cell_below (below_alloc (Below.refl _ _) _) hbox
  have HQ := Aside0.mk (heap_alloc_new W (.cells #[.func (.yield l) #[] #[]] 42))
  have HJ1 := Aside0.mk (HJ.out.alloc (.cells #[.func (.yield l) #[] #[]] 42) H0.out (T' := fun j => T0 j ∨ j = W.heap.size) (fun j hj => hj))
  have HS := Aside0.mk (show (W.alloc (.cells #[.func (.yield l) #[] #[]] 42)).heap.size = W.heap.size + 1 by simp)
  clear hbox
  go_wp2_with fail
  refine (walked_W W.heap.size W.heap.size l A n c lb L J Jx (fun j => T0 j ∨ j = W.heap.size) _ HN.out HC.out HM.out HW.out HJ.out
    (fun j hj => by rw [HS.out]; rcases hj with h | h; (have := HT0.out j h; omega); omega) HD.out (.inr rfl) (Nat.le_refl _) HQ.out
    (fun T k y A2 c2 okx W1 hT hlt hy hj hh => HY.out T k y A2 c2 okx W1 (fun j hj => hT j (.inl hj)) hlt hy hj hh) HJ1.out).mono ?_
  rintro e W' ⟨⟨v, rfl⟩, h⟩
  have HZ := Aside0.mk h
  clear h
  go_wp2
  go_end0
  exact ⟨⟨_, rfl⟩, HZ.out.imp_left (fun h => HJ.out.less h (fun j hj => .inl hj))⟩
end Go.Proofs.Ytdbniihjkiecbaa.PW
namespace Go.Proofs.Ytdbniihjkiecbaa.PW
open Go.RowKit Go.Proofs.YtdbniihjkiecbaaW.PrintWords Go.Proofs.YtdbniihjkiecbaaW.PrintLast Go.Proofs.YtdbniihjkiecbaaW.PrintMore
set_option linter.unusedVariables false
set_option linter.unusedSimpArgs false

/-- What a Saved holds: view, matched, stamp, of, state, entries, commit. -/
abbrev savedCells (vn vp vb ma st of : Int) (x : ByteArray) (E : Option Addr) (ne ce : Nat) (co : Int) : Array Value := #[.int .i64 vn, .int .i64 vp, .int .i64 vb, .int .i64 ma, .int .i64 st, .int .i64 of, .string x, .slice E ne ce, .int .i64 co]
set_option maxHeartbeats 4000000 in
set_option maxRecDepth 100000 in
theorem known_view (s v k se rq : Int) (A : Option Addr) (n c : Nat) (vn vp vb st of : Int) (x : ByteArray) (w : World) :
    Calls Try.prog 36 #[.agg (recCells 2 s v k se rq A n c vn vp vb st of x)] w fun e w' => e = .returned (.iface 113 (.agg #[.int .i64 vn, .int .i64 vp, .int .i64 vb])) ∧ Below w.heap.size w w' := by
  have hu28 := Try.underlying28
  have hu26 := Try.underlying26
  have hu24 := Try.underlying24
  have hu113 := Try.underlying113
  go_enter Try.func36, Try.ntmps36
  go_wp2_with fail
  refine bodyPost_ret (results_tmp rfl _ _ _) rfl ?_
  exact ⟨rfl, below_alloc (Below.refl _ _) _⟩
set_option maxHeartbeats 4000000 in
set_option maxRecDepth 100000 in
theorem fits_view (vn vp vb : Int) (p : Nat) (cs : Array Value) (sn : Int) (b : Bool) (w : World) (hp : w.heap[p]? = some (.cells cs 53 (0, 0))) (hs : cs[0]? = some (.int .i64 sn)) :
    Calls Try.prog 127 #[.agg #[.int .i64 vn, .int .i64 vp, .int .i64 vb], .pointer (some ⟨p, 0, none⟩), .bool b] w fun e w' => e = .returned (.bool (decide (sn < vn))) ∧ Below w.heap.size w w' := by
  have hu113 := Try.underlying113
  have hc := (blk_cell hp 0).trans hs
  go_enter Try.func127, Try.ntmps127
  go_wp2_with fail
  obtain ⟨g, hg⟩ : ∃ g, g = w.heap.size := ⟨_, rfl⟩
  obtain ⟨w1, hw1⟩ : ∃ w1, w1 = w.alloc (.cells #[.int .i64 vn, .int .i64 vp, .int .i64 vb] 113) := ⟨_, rfl⟩
  rw [← hw1, ← hg]
  have hb1 : Below w.heap.size w w1 := by rw [hw1]; exact below_alloc (Below.refl _ _) _
  have hg1 : w1.heap[g]? = some (.cells #[.int .i64 vn, .int .i64 vp, .int .i64 vb] 113 (0, 0)) := by rw [hw1, hg]; exact heap_alloc_new w _
  have HB := Aside0.mk hb1
  have q0 : w1.cell? ⟨g, 0, none⟩ = some (.int .i64 vn) := blk_cell hg1 0
  have q1 : w1.cell? ⟨p, 0, none⟩ = some (.int .i64 sn) := pw_cell_below hb1 hc
  clear hw1 hg hb1 hg1 hc hp hs
  go_quiet (fail)
  go_wp2
  go_ret
  exact ⟨rfl, below_then HB.out HB.out.size (Drawn0.below ⟨⟨nq, rfl⟩⟩)⟩
set_option maxHeartbeats 4000000 in
set_option maxRecDepth 100000 in
theorem says_view (vn vp vb : Int) (p : Nat) (a1 a2 a3 ma st of : Int) (x : ByteArray) (E : Option Addr) (ne ce : Nat) (co : Int) (w : World) (hp : w.heap[p]? = some (.cells (savedCells a1 a2 a3 ma st of x E ne ce co) 53 (0, 0))) :
    Calls Try.prog 128 #[.agg #[.int .i64 vn, .int .i64 vp, .int .i64 vb], .pointer (some ⟨p, 0, none⟩)] w fun e w' => (∃ v, e = .returned v) ∧ w'.heap[p]? = some (.cells (savedCells vn vp vb ma st of x E ne ce co) 53 (0, 0)) ∧ Frm w w' (fun k => k = p) := by
  have hu113 := Try.underlying113
  go_enter Try.func128, Try.ntmps128
  go_wp2_with (with_reducible refine stop_store rfl ?_)
  have HB := Aside0.mk (show Below w.heap.size w (w.alloc (.cells #[.int .i64 vn, .int .i64 vp, .int .i64 vb] 113)) from below_alloc (Below.refl _ _) _)
  have HP := Aside0.mk ((HB.out.block p (blk_lt hp)).trans hp)
  refine store_blk rfl rfl 26 _ _ rfl (q := p) (i := 0) (cur' := savedCells vn vp vb ma st of x E ne ce co) [.int .i64 vn, .int .i64 vp, .int .i64 vb] rfl rfl rfl (by kernel_rfl) (by intro u hu; simp at hu; rcases hu with rfl | rfl | rfl <;> rfl) HP.out (by simp) rfl ?_
  intro w2 hp2 hg2
  go_wp2
  go_end0
  refine ⟨⟨_, rfl⟩, hp2, ?_⟩
  exact (Frm.of_below HB.out (fun k => k = p)).then_ (Frm.of_grown (S := fun k => k = p) hg2 (fun k e => (Option.some.inj e).symm)) (fun k h _ => h)
end Go.Proofs.Ytdbniihjkiecbaa.PW
namespace Go.Proofs.Ytdbniihjkiecbaa.PW
open Go.RowKit Go.Proofs.YtdbniihjkiecbaaW.PrintWords Go.Proofs.YtdbniihjkiecbaaW.PrintLast Go.Proofs.YtdbniihjkiecbaaW.PrintMore
set_option linter.unusedVariables false
set_option linter.unusedSimpArgs false

theorem R40_any {W : World} {base : Nat} {ok ok' : Nat → Prop} {v : Value} {l : List S40} (h : Kd.R k40 40 W base ok v l) (hk : ∀ k, v.ownBlock = some k → ok' k) : Kd.R k40 40 W base ok' v l :=
  ⟨hk, h.2.imp_ (fun _ _ hp => by rw [k40_openM hp]; exact k40_mkM _ _ _ _)⟩
/-- A row of ops stands while its own block does. -/
theorem R40_hold {W w1 : World} {base : Nat} {v : Value} {l : List S40} (h : R40 W base v l) (hm : ∀ k, v.ownBlock = some k → w1.heap[k]? = W.heap[k]?) : R40 w1 base v l :=
  R40_any (Kd.R_move (R40_any (ok' := fun k => v.ownBlock = some k) h (fun k hk => hk)) hm) (fun _ _ => trivial)
theorem R40_by {W w1 : World} {base : Nat} {v : Value} {l : List S40} {row : Option Nat} (h : R40 W base v l) (hg : W.grownBy w1 row) (hne : ∀ k, v.ownBlock = some k → some k ≠ row) : R40 w1 base v l :=
  R40_hold h (fun k hk => hg.block k (Kd.R_lt h k hk) (hne k hk))
theorem set_turn (f : S40 → S40) (l m : List S40) (i : Nat) (r o : S40) (hl : i < l.length) (hm : m.length = l.length) (ho : l.take (i + 1) = l.take i ++ [o]) :
    ((l.take i).map f ++ m.drop i ++ [r]).set i (f o) = (l.take (i + 1)).map f ++ m.drop (i + 1) ++ [r] := by
  have h1 : ((l.take i).map f).length = i := by simp; omega
  have h2 : m.drop i = m[i]'(by omega) :: m.drop (i + 1) := List.drop_eq_getElem_cons (by omega)
  rw [ho, List.map_append, List.append_assoc, List.set_append_right _ _ (by omega), h1, Nat.sub_self, h2]
  simp only [List.cons_append, List.set_cons_zero, List.append_assoc, List.map_cons, List.map_nil, List.nil_append]
/-- The walk's struct of an op, turned. -/
theorem turnOp_lt {t : Nat} (h : t < 2) (o : S40) : turnOp t o = { o with f1 := (⟨#[47, 116, 117, 114, 110]⟩ : ByteArray) ++ strOfNums [48 + (t : Int)] } := by
  unfold turnOp; rw [if_pos h]
theorem turnOp_ge {t : Nat} (h : ¬ t < 2) (o : S40) : turnOp t o = o := by
  unfold turnOp; rw [if_neg h]
end Go.Proofs.Ytdbniihjkiecbaa.PW
namespace Go.Proofs.Ytdbniihjkiecbaa.PW
open Go.RowKit Go.Proofs.YtdbniihjkiecbaaW.PrintWords Go.Proofs.YtdbniihjkiecbaaW.PrintLast Go.Proofs.YtdbniihjkiecbaaW.PrintMore
set_option linter.unusedVariables false
set_option linter.unusedSimpArgs false
attribute [local go_sem] Oper.semAt_some

/-- A block of cells. -/
def Celly (W : World) (j : Nat) : Prop := ∃ cs q, W.heap[j]? = some (.cells cs q (0, 0))
theorem Celly.lt {W : World} {j : Nat} (h : Celly W j) : j < W.heap.size := by obtain ⟨cs, q, h⟩ := h; exact blk_lt h
/-- What a turn of a block that is no cells, or new blocks, leave alone. -/
theorem celly_grown {W W' : World} {row : Option Nat} {j B : Nat} (hc : Celly W j) (hg : W.grownBy W' row) (hr : ∀ r, row = some r → B ≤ r ∧ ∃ o : Obj, W.heap[r]? = some o ∧ o.isCells = false) : W'.heap[j]? = W.heap[j]? := by
  obtain ⟨cs, q, h⟩ := hc
  refine hg.block j (blk_lt h) (fun e => ?_)
  obtain ⟨_, o, ho, hc⟩ := hr j e.symm
  rw [h] at ho
  cases ho
  cases hc
theorem Celly.grown {W W' : World} {row : Option Nat} {j B : Nat} (hc : Celly W j) (hg : W.grownBy W' row) (hr : ∀ r, row = some r → B ≤ r ∧ ∃ o : Obj, W.heap[r]? = some o ∧ o.isCells = false) : Celly W' j := by
  have := celly_grown hc hg hr
  obtain ⟨cs, q, h⟩ := hc
  exact ⟨cs, q, this.trans h⟩
theorem blk_celly {W W' : World} {row : Option Nat} {j B : Nat} {cs : Array Value} {q : TypeId} (h : W.heap[j]? = some (.cells cs q (0, 0))) (hg : W.grownBy W' row) (hr : ∀ r, row = some r → B ≤ r ∧ ∃ o : Obj, W.heap[r]? = some o ∧ o.isCells = false) : W'.heap[j]? = some (.cells cs q (0, 0)) := (celly_grown ⟨cs, q, h⟩ hg hr).trans h
theorem szA (W : World) (o : Obj) : (W.alloc o).heap.size = W.heap.size + 1 := by show (W.heap.push o).size = _; rw [Array.size_push]
/-- Walk: a closure over the bytes. -/
theorem Walk_C (A : Option Addr) (n c : Nat) (w : World) : Calls Try.prog 35 #[.slice A n c] w fun e w' => e = .returned (.func (.func 59) #[] #[.pointer (some ⟨w.heap.size, 0, none⟩)]) ∧ w' = w.alloc (.cells #[.slice A n c] 29) := by
  have hmf : ∀ (fn : Fn) (first cap : Array Value) (w : World), (Instr.makeFunc fn first cap).run Try.prog w = .ok (.func fn first cap) w := fun _ _ _ _ => rfl
  go_enter Try.func35, Try.ntmps35
  go_wp2
  go_ret
  exact ⟨rfl, rfl⟩
theorem blk5 (w : World) (o0 o1 o2 o3 o4 : Obj) {W : World} (hW : W = ((((w.alloc o0).alloc o1).alloc o2).alloc o3).alloc o4) : W.heap[w.heap.size]? = some o0 ∧ W.heap[w.heap.size + 1]? = some o1 ∧ W.heap[w.heap.size + 2]? = some o2 ∧ W.heap[w.heap.size + 3]? = some o3 ∧ W.heap[w.heap.size + 4]? = some o4 ∧ W.heap.size = w.heap.size + 5 ∧ Below w.heap.size w W := by
  subst hW
  have s1 := szA w o0
  have s2 := szA (w.alloc o0) o1
  have s3 := szA ((w.alloc o0).alloc o1) o2
  have s4 := szA (((w.alloc o0).alloc o1).alloc o2) o3
  have s5 := szA ((((w.alloc o0).alloc o1).alloc o2).alloc o3) o4
  have n0 := heap_alloc_new w o0
  have n1 := heap_alloc_new (w.alloc o0) o1
  have n2 := heap_alloc_new ((w.alloc o0).alloc o1) o2
  have n3 := heap_alloc_new (((w.alloc o0).alloc o1).alloc o2) o3
  have n4 := heap_alloc_new ((((w.alloc o0).alloc o1).alloc o2).alloc o3) o4
  have b2 : Below (w.alloc o0).heap.size (w.alloc o0) ((w.alloc o0).alloc o1) := below_alloc (Below.refl _ _) _
  have b3 : Below ((w.alloc o0).alloc o1).heap.size ((w.alloc o0).alloc o1) (((w.alloc o0).alloc o1).alloc o2) := below_alloc (Below.refl _ _) _
  have b4 : Below (((w.alloc o0).alloc o1).alloc o2).heap.size (((w.alloc o0).alloc o1).alloc o2) ((((w.alloc o0).alloc o1).alloc o2).alloc o3) := below_alloc (Below.refl _ _) _
  have b5 : Below ((((w.alloc o0).alloc o1).alloc o2).alloc o3).heap.size ((((w.alloc o0).alloc o1).alloc o2).alloc o3) (((((w.alloc o0).alloc o1).alloc o2).alloc o3).alloc o4) := below_alloc (Below.refl _ _) _
  rw [s1] at n1
  rw [s2, s1] at n2
  rw [s3, s2, s1] at n3
  rw [s4, s3, s2, s1] at n4
  refine ⟨?_, ?_, ?_, ?_, ?_, by omega, below_alloc (below_alloc (below_alloc (below_alloc (below_alloc (Below.refl _ _) _) _) _) _) _⟩
  · exact (b5.block _ (by omega)).trans ((b4.block _ (by omega)).trans ((b3.block _ (by omega)).trans ((b2.block _ (by omega)).trans n0)))
  · exact (b5.block _ (by omega)).trans ((b4.block _ (by omega)).trans ((b3.block _ (by omega)).trans n1))
  · exact (b5.block _ (by omega)).trans ((b4.block _ (by omega)).trans n2)
  · exact (b5.block _ (by omega)).trans n3
  · exact n4
abbrev S23 (k : Nat) : Array Value := if k = 0 then savedCells 0 0 0 0 0 0 ⟨#[]⟩ none 0 0 0 else savedCells 1 1 2 0 0 0 ⟨#[]⟩ none 0 0 0
/-- A code that ends as it goes on: no panic is to be thought of. -/
theorem wp_normal {P : Program} {c : Code} {Q : Exit → Act → World → Prop} {a : Act} {w : World} (h : c.wp P (fun e a w => e = .normal ∧ Q .normal a w) a w) : c.wp P Q a w :=
  wp_mono h (fun e a w he => by obtain ⟨rfl, hq⟩ := he; exact hq)
/-- Between two rounds. -/
def RI (w0 : World) (A : Option Addr) (c : Nat) (T : Nat → Prop) (k : Nat) (W : World) : Prop :=
  W.heap[w0.heap.size]? = some (.cells (savedCells 0 0 0 0 0 0 ⟨#[]⟩ none 0 0 0) 53 (0, 0)) ∧ W.heap[w0.heap.size + 1]? = some (.cells (S23 k) 53 (0, 0)) ∧ W.heap[w0.heap.size + 2]? = some (.cells #[.int .i64 (k : Int)] 3 (0, 0)) ∧ W.heap[w0.heap.size + 3]? = some (.cells #[.int .i64 (23 * (k : Int))] 3 (0, 0)) ∧
    W.heap[w0.heap.size + 4]? = some (.cells #[.slice A 23 c] 29 (0, 0)) ∧ Below w0.heap.size w0 W ∧ ∀ j, T j → w0.heap.size + 5 ≤ j
theorem RI_own (w0 : World) (A : Option Addr) (c : Nat) : TOwn (w0.heap.size + 5) (RI w0 A c) := by
  rintro T k W W' row T' ⟨h1, h2, h3, h4, h5, h6, h7⟩ hg hr hT
  refine ⟨blk_celly h1 hg hr, blk_celly h2 hg hr, blk_celly h3 hg hr, blk_celly h4 hg hr, blk_celly h5 hg hr, h6.grown hg h6.size (fun r e => by have := (hr r e).1; omega), fun j hj => ?_⟩
  rcases hT j hj with h | h
  · exact h7 j h
  · have := blk_lt h5
    omega
theorem wr23 : wrap64 23 = 23 := by unfold wrap64; omega
theorem results20_row (tmps : Array Value) (w : World) (p : Nat) (cs : Array Value) (v3 v4 : Value) (h2 : tmps[2]? = some (.pointer (some ⟨p, 0, none⟩))) (h3 : tmps[3]? = some v3) (h4 : tmps[4]? = some v4) (hg : w.heap[p]? = some (.cells cs 53 (0, 0))) (hs : cs.size = 9) :
    (results Try.f20 tmps).run Try.prog w = .ok (.tuple #[.agg cs, v3, v4]) w := by
  have hl := run_loadVar_row (P := Try.prog) w p 53 53 cs (0, 0) _ hg Try.underlying53 rfl (by rw [hs]; kernel_rfl)
  simp [results, Try.results20, h2, h3, h4, asAddr, hl, Sem.run_bind, Sem.run_pure, Result.andThen_ok]
set_option maxHeartbeats 16000000 in
set_option maxRecDepth 100000 in
theorem recover_23 (w : World) (A : Option Addr) (c : Nat) (hC : C8 w A 23 b23) (hc : 23 ≤ c) :
    Calls Try.prog 20 #[.slice A 23 c] w fun e w' => e = .returned (.tuple #[.agg (savedCells 1 1 2 0 0 0 ⟨#[]⟩ none 0 0 0), .int .i64 1, .int .i64 23]) ∧ Below w.heap.size w w' := by
  have HC := Aside0.mk hC
  have HCC := Aside0.mk hc
  have hu53 := Try.underlying53
  have hu28 := Try.underlying28
  have hu26 := Try.underlying26
  have hu24 := Try.underlying24
  clear hC hc
  refine (callsIn_wide (n := 0)).1 (callsIn_of_wp_marks Try.func20 rfl trivial ?_)
  refine (wpIn_wide (n := 0)).2 ?_
  simp only [Try.ntmps20, List.size_toArray, List.length_cons, List.length_nil, Nat.reduceAdd, Nat.reduceSub, Array.replicate_succ, Array.replicate_zero, List.push_toArray, List.append_toArray, List.nil_append, List.cons_append]
  go_wp2_with fail
  refine (Walk_C A 23 c _).mono ?_
  rintro e w1 ⟨rfl, rfl⟩
  obtain ⟨w1, hw1⟩ : ∃ w1, w1 = ((((w.alloc (.cells (savedCells 0 0 0 0 0 0 ⟨#[]⟩ none 0 0 0) 53)).alloc (.cells (savedCells 0 0 0 0 0 0 ⟨#[]⟩ none 0 0 0) 53)).alloc (.cells #[.int .i64 0] 3)).alloc (.cells #[.int .i64 0] 3)).alloc (.cells #[.slice A 23 c] 29) := ⟨_, rfl⟩
  have hsz : ((((w.alloc (.cells (savedCells 0 0 0 0 0 0 ⟨#[]⟩ none 0 0 0) 53)).alloc (.cells (savedCells 0 0 0 0 0 0 ⟨#[]⟩ none 0 0 0) 53)).alloc (.cells #[.int .i64 0] 3)).alloc (.cells #[.int .i64 0] 3)).heap.size = w.heap.size + 4 := by rw [szA, szA, szA, szA]
  obtain ⟨b0, b1, b2, b3, b4, b5, b6⟩ := blk5 w _ _ _ _ _ hw1
  rw [← hw1, hsz]
  have HB := Aside0.mk (And.intro b0 (And.intro b1 (And.intro b2 (And.intro b3 (And.intro b4 (And.intro b5 b6))))))
  clear hw1 hsz b0 b1 b2 b3 b4 b5 b6
  have hI0 : RI w A c (fun _ => False) 0 w1 := ⟨HB.out.1, HB.out.2.1, HB.out.2.2.1, HB.out.2.2.2.1, HB.out.2.2.2.2.1, HB.out.2.2.2.2.2.2, fun j hj => hj.elim⟩
  obtain ⟨b, hb⟩ : ∃ b, b = w.heap.size := ⟨_, rfl⟩
  rw [← hb]
  have HBW := Aside0.mk hb
  clear hb
  go_wp2
  refine rangeWalk (gf := 59) (Bn := b + 4) (fun k y A' c' B => { tmps := #[.slice A 23 c, undef, .pointer (some ⟨b, 0, none⟩), .int .i64 0, .int .i64 0, .pointer (some ⟨b + 1, 0, none⟩), .pointer (some ⟨b + 2, 0, none⟩), .pointer (some ⟨b + 3, 0, none⟩), .int .i64 ((k : Int) + 1), .pointer (some ⟨B, 0, none⟩), undef, undef, undef, .slice A 23 c, .func (.func 59) #[] #[.pointer (some ⟨b + 4, 0, none⟩)], .int .i64 ((k : Int) + 1), .agg (y.cells A' c'), undef, undef, undef, undef, undef, undef, undef, undef, undef, undef, undef, undef, undef, undef, undef, undef, undef, undef, undef, undef, undef, undef, undef], defers := [] }) (fun W => C8 W A 23 b23) [y23] rfl (enters_ Try.func59 (by kernel_rfl) rfl) rfl (RI w A c) (fun _ _ => False) (fun _ => False) ?hI ?hIx ?h0 ?hT0 ?hD ?hit ?assign ?body ?done ?stop
  case hI => exact TOwn.weak (RI_own w A c) (by have := HB.out.2.2.2.2.2.1; omega)
  case hIx => exact fun c s A B row hs hg hr => hs
  case h0 => exact hI0
  case hT0 => exact fun j hj => hj.elim
  case hD => exact fun T k W h => Kd.C_below HC.out h.2.2.2.2.2.1
  case hit =>
    rintro T W ⟨h1, h2, h3, h4, h5, h6, h7⟩
    exact it59 _ A 23 c b23 [y23] W rfl HCC.out (by omega) b23_walks (by rw [HBW.out]; exact blk_cell h5 0)
  case assign =>
    intro l k y A' c' W K hK
    simp only [List.zip_toArray, List.zip_cons_cons, List.zip_nil_left, List.zip_nil_right, List.foldl_toArray, List.foldl_toArray', List.foldl_cons, List.foldl_nil, sx1, sx2, sx3] at hK ⊢
    refine wpIn_seq ?_
    refine region_round l (by rintro ⟨a, w, h⟩; exact h) (by simp) ?_
    go_wp2
    refine region_round l (by rintro ⟨a, w, h⟩; exact h) (by simp) ?_
    go_wp2
    exact hK
  case body =>
    rintro T l k y A' c' okx B W hT hTlt hTl hle hloop hy hI ⟨hR, hokx⟩ hBle hbx
    obtain ⟨rfl, rfl⟩ : k = 0 ∧ y = y23 := by
      cases k with
      | zero => exact ⟨rfl, (Option.some.inj hy).symm⟩
      | succ k => simp at hy
    have hs5 : w1.heap.size = b + 5 := by rw [HBW.out]; exact HB.out.2.2.2.2.2.1
    rw [hs5] at hle hR hokx hBle
    obtain ⟨h1, h2, h3, h4, h5, h6, h7⟩ := hI
    rw [← HBW.out] at h1 h2 h3 h4 h5 h7
    simp only [List.zip_toArray, List.zip_cons_cons, List.zip_nil_left, List.zip_nil_right, List.foldl_toArray, List.foldl_toArray', List.foldl_cons, List.foldl_nil, sx1, sx2, sx3]
    have e01 : (((0 : Nat) : Int) + 1) = 1 := rfl
    rw [e01]
    have F1 := Aside0.mk h1
    have F2 := Aside0.mk (show W.heap[b + 1]? = some (.cells (savedCells 0 0 0 0 0 0 ⟨#[]⟩ none 0 0 0) 53 (0, 0)) from h2)
    have F3 := Aside0.mk (show W.heap[b + 2]? = some (.cells #[.int .i64 0] 3 (0, 0)) from h3)
    have F4 := Aside0.mk (show W.heap[b + 3]? = some (.cells #[.int .i64 0] 3 (0, 0)) from h4)
    have F5 := Aside0.mk h5
    have F6 := Aside0.mk h6
    have F7 := Aside0.mk h7
    have FR := Aside0.mk (show Kd.R k40 40 W (b + 5) okx (.slice A' 0 c') [] from hR)
    have FB := Aside0.mk (show W.heap[B]? = some (.cells (recCells 2 0 0 0 0 0 A' 0 c' 1 1 2 0 0 ⟨#[]⟩) 28 (0, 0)) from hbx)
    have FBL := Aside0.mk hBle
    have FT := Aside0.mk hTlt
    have u0 : W.cell? ⟨B, 0, none⟩ = _ := (blk_cell FB.out 0).trans rfl
    have u1 := (blk_cell FB.out 1).trans rfl
    have u2 := (blk_cell FB.out 2).trans rfl
    have u3 := (blk_cell FB.out 3).trans rfl
    have u4 := (blk_cell FB.out 4).trans rfl
    have u5 := (blk_cell FB.out 5).trans rfl
    have u6 := (blk_cell FB.out 6).trans rfl
    have u7 := (blk_cell FB.out 7).trans rfl
    have u8 := (blk_cell FB.out 8).trans rfl
    have u9 := (blk_cell FB.out 9).trans rfl
    have u10 := (blk_cell FB.out 10).trans rfl
    have u11 := (blk_cell FB.out 11).trans rfl
    have u12 := (blk_cell FB.out 12).trans rfl
    clear h1 h2 h3 h4 h5 h6 h7 hR hokx hTlt hbx hy hI0
    refine wpIn_block ?_
    refine wpIn_seq ?_
    refine region_round l (by rintro ⟨a, w, h⟩; exact h) (by simp) ?_
    go_wp2_with fail
    refine (known_view 0 0 0 0 0 A' 0 c' 1 1 2 0 0 ⟨#[]⟩ W).mono ?_
    rintro e W2 ⟨rfl, hb2⟩
    have G1 := Aside0.mk hb2
    have F2' := Aside0.mk ((hb2.block (b + 1) (blk_lt F2.out)).trans F2.out)
    clear hb2
    go_wp2
    refine wpIn_seq ?_
    refine wpIn_seq ?_
    refine region_round l (by rintro ⟨a, w, h⟩; exact h) (by simp) ?_
    go_wp2_with fail
    refine (fits_view 1 1 2 (b + 1) _ 0 true W2 F2'.out rfl).mono ?_
    rintro e W3 ⟨rfl, hb3⟩
    have G2 := Aside0.mk (below_step G1.out hb3)
    have F2'' := Aside0.mk ((hb3.block (b + 1) (blk_lt F2'.out)).trans F2'.out)
    have d1 : decide ((0 : Int) < 1) = true := rfl
    clear hb3
    clear u0 u1 u2 u3 u4 u5 u6 u7 u8 u9 u10 u11 u12
    go_wp2
    refine wpIn_cond_false (by rfl) ?_
    refine wpIn_skip ?_
    simp only [Exit.then]
    refine wpIn_seq ?_
    refine region_round l (by rintro ⟨a, w, h⟩; exact h) (by simp) ?_
    go_wp2_with fail
    refine (says_view 1 1 2 (b + 1) 0 0 0 0 0 0 ⟨#[]⟩ none 0 0 0 W3 F2''.out).mono ?_
    rintro e W4 ⟨⟨v4, rfl⟩, hp4, hf4⟩
    have G4 := Aside0.mk ((Frm.of_below G2.out (fun k => k = b + 1)).then_ hf4 (fun k h _ => h))
    have P4 := Aside0.mk hp4
    have FB4 := Aside0.mk (G4.out.blk FB.out (by have := FBL.out; omega))
    clear hf4 hp4
    have u0 := (blk_cell FB4.out 0).trans rfl
    have u1 := (blk_cell FB4.out 1).trans rfl
    have u2 := (blk_cell FB4.out 2).trans rfl
    have u3 := (blk_cell FB4.out 3).trans rfl
    have u4 := (blk_cell FB4.out 4).trans rfl
    have u5 := (blk_cell FB4.out 5).trans rfl
    have u6 := (blk_cell FB4.out 6).trans rfl
    have u7 := (blk_cell FB4.out 7).trans rfl
    have u8 := (blk_cell FB4.out 8).trans rfl
    have u9 := (blk_cell FB4.out 9).trans rfl
    have u10 := (blk_cell FB4.out 10).trans rfl
    have u11 := (blk_cell FB4.out 11).trans rfl
    have u12 := (blk_cell FB4.out 12).trans rfl
    go_wp2
    refine wpIn_seq ?_
    refine region_round l (by rintro ⟨a, w, h⟩; exact h) (by simp) ?_
    go_wp2_with fail
    refine (encode_C 1 2 0 0 0 0 0 A' c' 0 [] 1 1 2 0 0 ⟨#[]⟩ W4 rfl (R40_C (R40_any (Kd.R_step (ok := fun k => b + 5 ≤ k) (Kd.R_mono (Kd.R_bound FR.out) (fun k hk => hk.2.1)) (fun k hk hlt => G4.out.block k hlt (fun e => by omega))) (fun _ _ => trivial))) (Nat.zero_le _) b23 0 b23_enc).mono ?_
    rintro e W5 ⟨V, rfl, ho, hb5⟩
    obtain ⟨A3, c3, rfl⟩ : ∃ A3 c3, V = .slice A3 23 c3 := by obtain ⟨A3, c3, h⟩ := Kd.R_slice ho; exact ⟨A3, c3, h⟩
    have G5 := Aside0.mk (G4.out.step hb5)
    have P5 := Aside0.mk ((hb5.block (b + 1) (blk_lt P4.out)).trans P4.out)
    clear hb5 ho u0 u1 u2 u3 u4 u5 u6 u7 u8 u9 u10 u11 u12
    go_wp2
    have F3' := Aside0.mk (G5.out.blk F3.out (by omega))
    have F4' := Aside0.mk (G5.out.blk F4.out (by omega))
    have k2 : W5.cell? ⟨b + 2, 0, none⟩ = some (.int .i64 0) := (blk_cell F3'.out 0).trans rfl
    have f2 := blk_frozen F3'.out 0
    have k3 : W5.cell? ⟨b + 3, 0, none⟩ = some (.int .i64 0) := (blk_cell F4'.out 0).trans rfl
    have f3 := blk_frozen F4'.out 0
    have k3d : W5.drew.cell? ⟨b + 3, 0, none⟩ = some (.int .i64 0) := k3
    refine startIn_ l (by rintro ⟨a, w, h⟩; exact h) (by simp) (n := 7) (S := fun w' => w'.cell? ⟨b + 3, 0, none⟩ = some (.int .i64 0)) (ds := [6]) #[ff, ff, ff, ff, ff, ff, ff] (by kernel_rfl) rfl rfl (k3d) (fun hHeld => ?_)
    refine pure_ (i := 0) (N := some 32) (v := ?_) (a' := ?_) #[tt, ff, ff, ff, ff, ff, ff] rfl rfl (by kernel_rfl) (fun _ _ _ h => h) (Or.inl ⟨by rfl, ?_⟩) ?_ ?_
    rotate_left
    · intro w'
      go_simp
      with_reducible rfl
    rotate_left
    · simp only [Act.put, sx1, sx2, sx3, i64_w, i32_w]
      rfl
    refine pure_ (i := 2) (N := some 34) (v := ?_) (a' := ?_) #[tt, ff, tt, ff, ff, ff, ff] rfl rfl (by kernel_rfl) (fun _ _ _ h => h) (Or.inl ⟨by rfl, ?_⟩) ?_ ?_
    rotate_left
    · intro w'
      go_simp
      with_reducible rfl
    rotate_left
    · simp only [Act.put, sx1, sx2, sx3, i64_w, i32_w]
      rfl
    refine pure_ (i := 3) (N := some 35) (v := ?_) (a' := ?_) #[tt, ff, tt, tt, ff, ff, ff] rfl rfl (by kernel_rfl) (fun _ _ _ h => h) (Or.inl ⟨by rfl, ?_⟩) ?_ ?_
    rotate_left
    · intro w'
      go_simp
      with_reducible rfl
    rotate_left
    · simp only [Act.put, sx1, sx2, sx3, i64_w, i32_w]
      rfl
    refine take_ (i := 1) (N := some 33) (v := ?_) (a' := ?_) #[tt, tt, tt, tt, ff, ff, ff] rfl rfl (by kernel_rfl) (fun _ _ _ h => h) (Or.inl ⟨by rfl, ?_⟩) hHeld ?_ ?_
    rotate_left
    · intro w' s0
      go_simp
      with_reducible rfl
    rotate_left
    · simp only [Act.put, sx1, sx2, sx3, i64_w, i32_w]
      rfl
    refine pure_ (i := 4) (N := some 36) (v := ?_) (a' := ?_) #[tt, tt, tt, tt, tt, ff, ff] rfl rfl (by kernel_rfl) (fun _ _ _ h => h) (Or.inl ⟨by rfl, ?_⟩) ?_ ?_
    rotate_left
    · intro w'
      go_simp
      with_reducible rfl
    rotate_left
    · simp only [Act.put, sx1, sx2, sx3, i64_w, i32_w]
      rfl
    refine one_ (i := 5) (N := none) #[tt, tt, tt, tt, tt, tt, ff] rfl rfl (by kernel_rfl) (by decide) (fun K hK => ?_)
    refine skip_ (w1 := ?_) (by rfl) rfl ?_ ?_
    rotate_left
    · go_simp
      rfl
    refine hK.out _ _ ((by first | exact set_other (by omega) k3d | exact set_other (by omega) k3 | exact drew_cell (set_other (by omega) k3))) (fun hHeld => ?_)
    clear hK K
    refine last_ (i := 6) (N := none) #[tt, tt, tt, tt, tt, tt, tt] rfl rfl (by kernel_rfl) (by decide) (fun K hK => ?_)
    refine skip_ (w1 := ?_) (by rfl) rfl ?_ ?_
    rotate_left
    · go_simp
      rfl
    refine hK.out _ _ ?_
    clear hK K
    refine done_ (by kernel_rfl) ?_
    obtain ⟨W6, hW6⟩ : ∃ W6, W6 = ((W5.setCell ⟨b + 2, 0, none⟩ (.int .i64 1)).setCell ⟨b + 3, 0, none⟩ (.int .i64 (wrap64 23))).drew := ⟨_, rfl⟩
    rw [← hW6]
    have hF6 : Frm W W6 (fun k => b + 1 ≤ k ∧ k ≤ b + 3) := by
      rw [hW6]
      exact (((G5.out.mono (S1 := fun k => b + 1 ≤ k ∧ k ≤ b + 3) (fun k h _ => by omega)).set_ (p := ⟨b + 2, 0, none⟩) (.inl (by simp only; omega)) _).set_ (p := ⟨b + 3, 0, none⟩) (.inl (by simp only; omega)) _).drew
    have q2 : W6.heap[b + 1]? = some (.cells (savedCells 1 1 2 0 0 0 ⟨#[]⟩ none 0 0 0) 53 (0, 0)) := by
      rw [hW6]
      exact blk_far (blk_far P5.out (by simp only; omega) _) (by simp only; omega) _
    have q3 : W6.heap[b + 2]? = some (.cells #[.int .i64 1] 3 (0, 0)) := by
      rw [hW6]
      exact blk_far (blk_set F3'.out 0 _) (by simp only; omega) _
    have q4 : W6.heap[b + 3]? = some (.cells #[.int .i64 23] 3 (0, 0)) := by
      rw [hW6]
      have := blk_set (w := W5.setCell ⟨b + 2, 0, none⟩ (.int .i64 1)) (blk_far F4'.out (by simp only; omega) _) 0 (.int .i64 (wrap64 23))
      exact this.trans (by rw [wr23]; rfl)
    show (∀ k, T k ∧ w1.heap.size ≤ k → W6.heap[k]? = W.heap[k]?) ∧ RI w A c T 1 W6
    refine ⟨fun k hk => hF6.block k (FT.out k hk.1) (fun h => by have := hk.2; omega), ?_⟩
    have hbw := HBW.out
    refine ⟨?_, ?_, ?_, ?_, ?_, ?_, ?_⟩
    · rw [← hbw]; exact hF6.blk F1.out (by omega)
    · rw [← hbw]; exact q2
    · rw [← hbw]; exact q3
    · rw [← hbw]; exact q4
    · rw [← hbw]; exact hF6.blk F5.out (by omega)
    · exact below_frm F6.out hF6 (N := w.heap.size) (fun k hk => by omega) (Nat.le_refl _)
    · rw [← hbw]; exact fun j hj => F7.out j (.inl hj)
  case done =>
    rintro D W hD hI hK
    obtain ⟨h1, h2, h3, h4, h5, h6, h7⟩ := hI
    rw [← HBW.out] at h1 h2 h3 h4
    have hb5 : b + 5 ≤ D := by have := HB.out.2.2.2.2.2.1; have := HBW.out; omega
    have F1 := Aside0.mk h1
    have F2 := Aside0.mk (show W.heap[b + 1]? = some (.cells (savedCells 1 1 2 0 0 0 ⟨#[]⟩ none 0 0 0) 53 (0, 0)) from h2)
    have F3 := Aside0.mk (show W.heap[b + 2]? = some (.cells #[.int .i64 1] 3 (0, 0)) from h3)
    have F4 := Aside0.mk (show W.heap[b + 3]? = some (.cells #[.int .i64 23] 3 (0, 0)) from h4)
    have F6 := Aside0.mk h6
    have FD := Aside0.mk hK
    have FB := Aside0.mk hb5
    clear h1 h2 h3 h4 h5 h6 h7 hK hb5 hI0 hD
    go_wp2_with fail
    refine wp_normal ?_
    have s0 : W.drew.cell? ⟨b + 1, 0, none⟩ = _ := (blk_cell (w := W.drew) F2.out 0).trans rfl
    have s1 : W.drew.cell? ⟨b + 1, 1, none⟩ = _ := (blk_cell (w := W.drew) F2.out 1).trans rfl
    have s2 : W.drew.cell? ⟨b + 1, 2, none⟩ = _ := (blk_cell (w := W.drew) F2.out 2).trans rfl
    have s3 : W.drew.cell? ⟨b + 1, 3, none⟩ = _ := (blk_cell (w := W.drew) F2.out 3).trans rfl
    have s4 : W.drew.cell? ⟨b + 1, 4, none⟩ = _ := (blk_cell (w := W.drew) F2.out 4).trans rfl
    have s5 : W.drew.cell? ⟨b + 1, 5, none⟩ = _ := (blk_cell (w := W.drew) F2.out 5).trans rfl
    have s6 : W.drew.cell? ⟨b + 1, 6, none⟩ = _ := (blk_cell (w := W.drew) F2.out 6).trans rfl
    have s7 : W.drew.cell? ⟨b + 1, 7, none⟩ = _ := (blk_cell (w := W.drew) F2.out 7).trans rfl
    have s8 : W.drew.cell? ⟨b + 1, 8, none⟩ = _ := (blk_cell (w := W.drew) F2.out 8).trans rfl
    have c2 : W.drew.cell? ⟨b + 2, 0, none⟩ = some (.int .i64 1) := (blk_cell (w := W.drew) F3.out 0).trans rfl
    have c3 : W.drew.cell? ⟨b + 3, 0, none⟩ = some (.int .i64 23) := (blk_cell (w := W.drew) F4.out 0).trans rfl
    refine start_ (n := 6) (S := fun w' => w'.cell? ⟨b + 1, 0, none⟩ = some (.int .i64 1) ∧ w'.cell? ⟨b + 1, 1, none⟩ = some (.int .i64 1) ∧ w'.cell? ⟨b + 1, 2, none⟩ = some (.int .i64 2) ∧ w'.cell? ⟨b + 1, 3, none⟩ = some (.int .i64 0) ∧ w'.cell? ⟨b + 1, 4, none⟩ = some (.int .i64 0) ∧ w'.cell? ⟨b + 1, 5, none⟩ = some (.int .i64 0) ∧ w'.cell? ⟨b + 1, 6, none⟩ = some (.string ⟨#[]⟩) ∧ w'.cell? ⟨b + 1, 7, none⟩ = some (.slice none 0 0) ∧ w'.cell? ⟨b + 1, 8, none⟩ = some (.int .i64 0) ∧ w'.cell? ⟨b + 2, 0, none⟩ = some (.int .i64 1) ∧ w'.cell? ⟨b + 3, 0, none⟩ = some (.int .i64 23)) (ds := []) #[ff, ff, ff, ff, ff, ff] (by kernel_rfl) rfl rfl ⟨s0, s1, s2, s3, s4, s5, s6, s7, s8, c2, c3⟩ (fun hHeld => ?_)
    refine take_ (i := 0) (N := some 37) (v := ?_) (a' := ?_) #[tt, ff, ff, ff, ff, ff] rfl rfl (by kernel_rfl) (fun _ _ _ h => nomatch h.1) (Or.inl ⟨by rfl, ?_⟩) hHeld ?_ ?_
    rotate_left
    · rintro w' ⟨s0, s1, s2, s3, s4, s5, s6, s7, s8, s9, s10⟩
      go_simp
      with_reducible rfl
    rotate_left
    · simp only [Act.put, sx1, sx2, sx3, i64_w, i32_w]
      rfl
    refine take_ (i := 1) (N := some 38) (v := ?_) (a' := ?_) #[tt, tt, ff, ff, ff, ff] rfl rfl (by kernel_rfl) (fun _ _ _ h => nomatch h.1) (Or.inl ⟨by rfl, ?_⟩) hHeld ?_ ?_
    rotate_left
    · rintro w' ⟨s0, s1, s2, s3, s4, s5, s6, s7, s8, s9, s10⟩
      go_simp
      with_reducible rfl
    rotate_left
    · simp only [Act.put, sx1, sx2, sx3, i64_w, i32_w]
      rfl
    refine take_ (i := 2) (N := some 39) (v := ?_) (a' := ?_) #[tt, tt, tt, ff, ff, ff] rfl rfl (by kernel_rfl) (fun _ _ _ h => nomatch h.1) (Or.inl ⟨by rfl, ?_⟩) hHeld ?_ ?_
    rotate_left
    · rintro w' ⟨s0, s1, s2, s3, s4, s5, s6, s7, s8, s9, s10⟩
      go_simp
      with_reducible rfl
    rotate_left
    · simp only [Act.put, sx1, sx2, sx3, i64_w, i32_w]
      rfl
    refine one_ (i := 3) (N := none) #[tt, tt, tt, tt, ff, ff] rfl rfl (by kernel_rfl) (by decide) (fun K hK => ?_)
    refine store_arm 53 _ _ rfl (by rfl) rfl (q := b) (i := 0) (cur' := savedCells 1 1 2 0 0 0 ⟨#[]⟩ none 0 0 0) (savedCells 1 1 2 0 0 0 ⟨#[]⟩ none 0 0 0).toList rfl rfl rfl (by kernel_rfl) (by intro u hu; simp at hu; rcases hu with rfl | rfl | rfl | rfl | rfl | rfl <;> rfl) (show W.drew.heap[b]? = _ from F1.out) (by simp) rfl ?_
    intro w9 hp9 hg9
    have F1' := Aside0.mk hp9
    have F2' := Aside0.mk ((hg9.block (b + 1) (show b + 1 < W.drew.heap.size from blk_lt F2.out) (fun e => by have := Option.some.inj e; omega)).trans (show W.drew.heap[b + 1]? = _ from F2.out))
    have F3' := Aside0.mk ((hg9.block (b + 2) (show b + 2 < W.drew.heap.size from blk_lt F3.out) (fun e => by have := Option.some.inj e; omega)).trans (show W.drew.heap[b + 2]? = _ from F3.out))
    have F4' := Aside0.mk ((hg9.block (b + 3) (show b + 3 < W.drew.heap.size from blk_lt F4.out) (fun e => by have := Option.some.inj e; omega)).trans (show W.drew.heap[b + 3]? = _ from F4.out))
    have FD' := Aside0.mk ((hg9.block D (show D < W.drew.heap.size from blk_lt FD.out) (fun e => by have := Option.some.inj e; have := FB.out; omega)).trans (show W.drew.heap[D]? = _ from FD.out))
    have F6' := Aside0.mk ((below_drew1 F6.out).grown hg9 (below_drew1 F6.out).size (fun k e => by cases e; rw [HBW.out]; exact Nat.le_refl _))
    refine hK.out _ _ ⟨(blk_cell F2'.out 0).trans rfl, (blk_cell F2'.out 1).trans rfl, (blk_cell F2'.out 2).trans rfl, (blk_cell F2'.out 3).trans rfl, (blk_cell F2'.out 4).trans rfl, (blk_cell F2'.out 5).trans rfl, (blk_cell F2'.out 6).trans rfl, (blk_cell F2'.out 7).trans rfl, (blk_cell F2'.out 8).trans rfl, (blk_cell F3'.out 0).trans rfl, (blk_cell F4'.out 0).trans rfl⟩ (fun hHeld => ?_)
    clear hK K
    refine pure_ (i := 4) (N := some 3) (v := ?_) (a' := ?_) #[tt, tt, tt, tt, tt, ff] rfl rfl (by kernel_rfl) (fun _ _ _ h => nomatch h.1) (Or.inl ⟨by rfl, ?_⟩) ?_ ?_
    rotate_left
    · intro w'
      go_simp
      with_reducible rfl
    rotate_left
    · simp only [Act.put, sx1, sx2, sx3, i64_w, i32_w]
      rfl
    refine pure_ (i := 5) (N := some 4) (v := ?_) (a' := ?_) #[tt, tt, tt, tt, tt, tt] rfl rfl (by kernel_rfl) (fun _ _ _ h => nomatch h.1) (Or.inl ⟨by rfl, ?_⟩) ?_ ?_
    rotate_left
    · intro w'
      go_simp
      with_reducible rfl
    rotate_left
    · simp only [Act.put, sx1, sx2, sx3, i64_w, i32_w]
      rfl
    refine done_ (by kernel_rfl) ?_
    refine ⟨rfl, ?_⟩
    go_wp2
    refine ⟨by simp, .inl ⟨_, _, rfl, run_takeDeferred FD'.out, ?_⟩⟩
    have b1 : (w9.putObj D (.deferred none)).heap[b]? = some (.cells (savedCells 1 1 2 0 0 0 ⟨#[]⟩ none 0 0 0) 53 (0, 0)) := (World.putObj_heap_other (by have := FB.out; omega)).trans F1'.out
    refine ⟨_, results20_row _ _ b _ _ _ rfl rfl rfl b1 rfl, rfl, ?_⟩
    exact F6'.out.grown (grownBy_putObj' _ D _) F6'.out.size (fun r e => by cases e; have := FB.out; have := HBW.out; omega)
  case stop => exact fun D c W _ h _ => h.elim
end Go.Proofs.Ytdbniihjkiecbaa.PW
namespace Go.Proofs.Ytdbniihjkiecbaa.PW
open Go.RowKit Go.Proofs.YtdbniihjkiecbaaW.PrintWords Go.Proofs.YtdbniihjkiecbaaW.PrintLast Go.Proofs.YtdbniihjkiecbaaW.PrintMore
set_option linter.unusedVariables false
set_option linter.unusedSimpArgs false

set_option maxHeartbeats 4000000 in
set_option maxRecDepth 100000 in
theorem compact_long (vn vp vb ma st of : Int) (x : ByteArray) (E : Option Addr) (ne ce : Nat) (co : Int) (w : World) (hx : 200000 < x.size) :
    Calls Try.prog 22 #[.agg (savedCells vn vp vb ma st of x E ne ce co)] w fun e w' => e = .returned (.tuple #[.slice none 0 0, .int .i64 0, .int .i64 2]) ∧ Below w.heap.size w w' := by
  have hu53 := Try.underlying53
  have hu26 := Try.underlying26
  obtain ⟨nx, hnx⟩ : ∃ nx, nx = x.size := ⟨_, rfl⟩
  have d1 : decide ((200000 : Int) < (x.size : Int)) = true := decide_eq_true (by omega)
  have d2 : decide (200000 < x.size) = true := decide_eq_true hx
  go_enter Try.func22, Try.ntmps22
  go_wp2
  go_ret3
  exact ⟨rfl, below_alloc (Below.refl _ _) _⟩
set_option maxHeartbeats 4000000 in
set_option maxRecDepth 100000 in
theorem known_C (w : World) : Calls Try.prog 16 #[] w fun e w' => e = .returned (.bool true) ∧ Below w.heap.size w w' := by
  have hu53 := Try.underlying53
  have hu26 := Try.underlying26
  have hu28 := Try.underlying28
  go_enter Try.func16, Try.ntmps16
  go_wp2_with fail
  refine (encode_C 1 2 0 0 0 0 0 none 0 0 [] 1 1 2 0 0 ⟨#[]⟩ w rfl (R40_C (Kd.R_nil _ _ _ _ _ : R40 w 0 (.slice none 0 0) [])) (Nat.zero_le _) b23 0 b23_enc).mono ?_
  rintro e w1 ⟨V, rfl, ho, hb⟩
  obtain ⟨A, c, hV, hc, hC⟩ : ∃ A c, V = .slice A 23 c ∧ 23 ≤ c ∧ C8 w1 A 23 b23 := by
    obtain ⟨A, c, h1, h2, h3⟩ := Kd.R_reads ho
    exact ⟨A, c, h1, h2, h3⟩
  subst hV
  have HB1 := Aside0.mk hb
  have HC1 := Aside0.mk hC
  have HCC := Aside0.mk hc
  clear hb ho hC hc
  go_wp2_with fail
  refine (num_N 0 w1).mono ?_
  rintro e w2 ⟨rfl, hd⟩
  have HB2 := Aside0.mk (below_step HB1.out hd.below)
  have HC2 := Aside0.mk (Kd.C_below HC1.out hd.below)
  clear hd HB1 HC1
  go_wp2_with (with_reducible refine stop_make rfl ?_)
  refine mkn8 (C := 200001) w2 w2.heap.size rfl rfl _ _ rfl rfl rfl (by omega) (by omega) (Below.refl _ _) (Nat.le_refl _) ?_
  intro v3 w3 ho hb hg hat
  obtain ⟨l, hl⟩ : ∃ l, l = List.replicate (200001 : Int).toNat (0 : Int) := ⟨_, rfl⟩
  rw [← hl] at ho
  obtain ⟨A3, c3, rfl, hc3, hC3⟩ := Kd.R_reads ho
  have hll : l.length = 200001 := by rw [hl]; exact List.length_replicate
  rw [hll] at hC3 ⊢
  have HB3 := Aside0.mk (below_step HB2.out hb)
  have HC3 := Aside0.mk hC3
  have HCD := Aside0.mk (Kd.C_below HC2.out hb)
  have HL := Aside0.mk hl
  clear ho hb hg hat hc3 hC3 hl
  go_wp2_with (with_reducible refine stop_convert rfl ?_)
  refine str8 rfl _ rfl rfl HC3.out ?_
  obtain ⟨x, hx⟩ : ∃ x, x = strOfNums l := ⟨_, rfl⟩
  rw [← hx]
  have HX := Aside0.mk (show 200000 < x.size by
    have h1 := bytesOf_str l (by rw [HL.out]; unfold bytesOk; exact List.all_eq_true.2 (fun b hb => by rw [List.eq_of_mem_replicate hb]; rfl))
    have h2 := bytesOf_length (strOfNums l)
    rw [h1, hll] at h2
    rw [hx]
    omega)
  clear hx hll
  go_wp2_with fail
  refine (compact_long 0 0 0 0 (-1) 0 x none 0 0 0 w3 HX.out).mono ?_
  rintro e w4 ⟨rfl, hb⟩
  have HB4 := Aside0.mk (below_step HB3.out hb)
  have HC4 := Aside0.mk (Kd.C_below HCD.out hb)
  clear hb
  go_wp2_with fail
  refine (num_N 2 w4).mono ?_
  rintro e w5 ⟨rfl, hd⟩
  have HB5 := Aside0.mk (below_step HB4.out hd.below)
  have HC5 := Aside0.mk (Kd.C_below HC4.out hd.below)
  clear hd
  go_wp2_with fail
  refine (num_N 2 w5).mono ?_
  rintro e w6 ⟨rfl, hd⟩
  have HB6 := Aside0.mk (below_step HB5.out hd.below)
  have HC6 := Aside0.mk (Kd.C_below HC5.out hd.below)
  clear hd
  go_wp2_with fail
  refine (recover_23 w6 A c HC6.out HCC.out).mono ?_
  rintro e w7 ⟨rfl, hb⟩
  have HB7 := Aside0.mk (below_step HB6.out hb)
  clear hb
  go_wp2
  go_ret
  exact ⟨rfl, below_alloc HB7.out _⟩
end Go.Proofs.Ytdbniihjkiecbaa.PW
namespace Go.Proofs.Ytdbniihjkiecbaa.PW
open Go.RowKit Go.Proofs.YtdbniihjkiecbaaW.PrintWords Go.Proofs.YtdbniihjkiecbaaW.PrintLast Go.Proofs.YtdbniihjkiecbaaW.PrintMore
set_option linter.unusedVariables false
set_option linter.unusedSimpArgs false

set_option maxHeartbeats 64000000 in
set_option maxRecDepth 100000 in
theorem journalEncodes_walk (sq kd s v k se rq : Int) (A : Option Addr) (c n : Nat) (l : List S40) (vn vp vb st of : Int) (x : ByteArray) (w : World) (hn : l.length = n) (hC : Kd.C k40 w A n l) (hc : n ≤ c) (hm : n ≤ 2513169434843) :
    Calls Try.prog 3 #[.int .i64 sq, .agg #[.int .i64 kd, .int .i64 s, .int .i64 v, .int .i64 k, .int .i64 se, .int .i64 rq, .slice A n c, .int .i64 vn, .int .i64 vp, .int .i64 vb, .int .i64 st, .int .i64 of, .string x]] w fun e w' => e = .returned (.bool true) ∧ Below w.heap.size w w' := by
  have hu24 := Try.underlying24
  have hu26 := Try.underlying26
  have hu28 := Try.underlying28
  have hu40 := Try.underlying40
  have HN := Aside0.mk hn
  have HC := Aside0.mk hC
  have HCC := Aside0.mk hc
  clear hn hC hc
  obtain ⟨r1, r2, hr⟩ : ∃ r1 r2, recEnc sq kd s v k se rq l vn vp vb st of x = (r1, r2) := ⟨_, _, rfl⟩
  have HR := Aside0.mk hr
  have HRL := Aside0.mk (show r1.length ≤ 4000000 by have h := recEnc_len kd s v k se rq l vn vp vb st of x sq; rw [hr] at h; exact h)
  clear hr
  go_enter Try.func3, Try.ntmps3
  go_wp2_with fail
  obtain ⟨p, hp⟩ : ∃ p, p = w.heap.size := ⟨_, rfl⟩
  obtain ⟨w1, hw1⟩ : ∃ w1, w1 = w.alloc (.cells #[.int .i64 kd, .int .i64 s, .int .i64 v, .int .i64 k, .int .i64 se, .int .i64 rq, .slice A n c, .int .i64 vn, .int .i64 vp, .int .i64 vb, .int .i64 st, .int .i64 of, .string x] 28) := ⟨_, rfl⟩
  rw [← hw1, ← hp]
  have HA := Aside0.mk (show Below w.heap.size w w1 by rw [hw1]; exact below_alloc (Below.refl _ _) _)
  have HP1 := Aside0.mk (show w1.heap[p]? = some (.cells #[.int .i64 kd, .int .i64 s, .int .i64 v, .int .i64 k, .int .i64 se, .int .i64 rq, .slice A n c, .int .i64 vn, .int .i64 vp, .int .i64 vb, .int .i64 st, .int .i64 of, .string x] 28 (0, 0)) by rw [hw1, hp]; exact heap_alloc_new w _)
  have HPW := Aside0.mk (show w.heap.size ≤ p by omega)
  clear hp hw1
  refine (refEnc_N sq kd s v k se rq A c n l vn vp vb st of x w1 HN.out (Kd.C_below HC.out HA.out) HCC.out r1 r2 HR.out).mono ?_
  rintro e2 w2 ⟨B2, m2, c2, rfl, hl2, hc2, ho, hb⟩
  have HM2 := Aside0.mk hl2
  have HC2 := Aside0.mk hc2
  have HO2 := Aside0.mk (Kd.R_lower ho HA.out.size)
  have HB2 := Aside0.mk (below_step HA.out hb)
  have hp2 := (hb.block p (blk_lt HP1.out)).trans HP1.out
  clear hl2 hc2 ho hb
  have kp0 : w2.cell? ⟨p, 0, none⟩ = some (.int .i64 kd) := blk_cell hp2 0
  have kp1 : w2.cell? ⟨p, 1, none⟩ = some (.int .i64 s) := blk_cell hp2 1
  have kp2 : w2.cell? ⟨p, 2, none⟩ = some (.int .i64 v) := blk_cell hp2 2
  have kp3 : w2.cell? ⟨p, 3, none⟩ = some (.int .i64 k) := blk_cell hp2 3
  have kp4 : w2.cell? ⟨p, 4, none⟩ = some (.int .i64 se) := blk_cell hp2 4
  have kp5 : w2.cell? ⟨p, 5, none⟩ = some (.int .i64 rq) := blk_cell hp2 5
  have kp6 : w2.cell? ⟨p, 6, none⟩ = some (.slice A n c) := blk_cell hp2 6
  have kp7 : w2.cell? ⟨p, 7, none⟩ = some (.int .i64 vn) := blk_cell hp2 7
  have kp8 : w2.cell? ⟨p, 8, none⟩ = some (.int .i64 vp) := blk_cell hp2 8
  have kp9 : w2.cell? ⟨p, 9, none⟩ = some (.int .i64 vb) := blk_cell hp2 9
  have kp10 : w2.cell? ⟨p, 10, none⟩ = some (.int .i64 st) := blk_cell hp2 10
  have kp11 : w2.cell? ⟨p, 11, none⟩ = some (.int .i64 of) := blk_cell hp2 11
  have kp12 : w2.cell? ⟨p, 12, none⟩ = some (.string x) := blk_cell hp2 12
  have HP2 := Aside0.mk hp2
  clear hp2
  go_wp2_with (with_reducible refine stop_dst (N := 22) rfl ?_)
  refine Stop.go ?_
  obtain ⟨q, hq⟩ : ∃ q, q = w2.heap.size := ⟨_, rfl⟩
  obtain ⟨w3, hw3⟩ : ∃ w3, w3 = w2.alloc (.cells #[.int .i64 kd, .int .i64 s, .int .i64 v, .int .i64 k, .int .i64 se, .int .i64 rq, .slice A n c, .int .i64 vn, .int .i64 vp, .int .i64 vb, .int .i64 st, .int .i64 of, .string x] 28) := ⟨_, rfl⟩
  rw [← hw3, ← hq]
  have HB3 := Aside0.mk (show Below w2.heap.size w2 w3 by rw [hw3]; exact below_alloc (Below.refl _ _) _)
  have HQ3 := Aside0.mk (show w3.heap[q]? = some (.cells #[.int .i64 kd, .int .i64 s, .int .i64 v, .int .i64 k, .int .i64 se, .int .i64 rq, .slice A n c, .int .i64 vn, .int .i64 vp, .int .i64 vb, .int .i64 st, .int .i64 of, .string x] 28 (0, 0)) by rw [hw3, hq]; exact heap_alloc_new w2 _)
  have HP3 := Aside0.mk ((HB3.out.block p (blk_lt HP2.out)).trans HP2.out)
  have HPQ := Aside0.mk (show p ≠ q ∧ w.heap.size ≤ q from ⟨fun e => by have := blk_lt HP2.out; omega, by rw [hq]; exact HB2.out.size⟩)
  have HW3 := Aside0.mk (below_step HB2.out HB3.out)
  have HO3 := Aside0.mk (R8_keep HO2.out (fun k_ hk_ => HB3.out.block k_ (R8_lt HO2.out k_ hk_).2))
  clear hw3 hq kp0 kp1 kp2 kp3 kp4 kp5 kp6 kp7 kp8 kp9 kp10 kp11 kp12 HO2
  have kp1 : w3.cell? ⟨p, 1, none⟩ = some (.int .i64 s) := blk_cell HP3.out 1
  have kp2 : w3.cell? ⟨p, 2, none⟩ = some (.int .i64 v) := blk_cell HP3.out 2
  have kp3 : w3.cell? ⟨p, 3, none⟩ = some (.int .i64 k) := blk_cell HP3.out 3
  have kp4 : w3.cell? ⟨p, 4, none⟩ = some (.int .i64 se) := blk_cell HP3.out 4
  have kp5 : w3.cell? ⟨p, 5, none⟩ = some (.int .i64 rq) := blk_cell HP3.out 5
  have kp6 : w3.cell? ⟨p, 6, none⟩ = some (.slice A n c) := blk_cell HP3.out 6
  go_wp2_with fail
  refine (twin_C s v k se rq A c n l w3 HN.out (Kd.C_below HC.out HW3.out) HCC.out hm).mono ?_
  rintro e4 w4 ⟨B, cb, rfl, hcb, ho, hb⟩
  obtain ⟨g, rfl⟩ : ∃ g, B = some ⟨g, 0, none⟩ := by obtain ⟨g, cap, eB, _, _⟩ := Kd.R_form ho (by simp); injection eB with hB _ _; exact ⟨g, hB⟩
  have HCB := Aside0.mk hcb
  have HT4 := Aside0.mk (Kd.R_lower ho HW3.out.size)
  have HGW := Aside0.mk (show w3.heap.size ≤ g from Kd.R_base ho g rfl)
  have hq4 := (hb.block q (blk_lt HQ3.out)).trans HQ3.out
  have HP4 := Aside0.mk ((hb.block p (blk_lt HP3.out)).trans HP3.out)
  have HB4 := Aside0.mk (below_step HW3.out hb)
  have HO4 := Aside0.mk (R8_keep HO3.out (fun k_ hk_ => hb.block k_ (R8_lt HO3.out k_ hk_).2))
  have HQ4 := Aside0.mk hq4
  have HGQ := Aside0.mk (show g ≠ p ∧ g ≠ q from ⟨fun e => by have := blk_lt HP3.out; have := HGW.out; omega, fun e => by have := blk_lt HQ3.out; have := HGW.out; omega⟩)
  clear hcb ho hb kp1 kp2 kp3 kp4 kp5 kp6 HO3
  clear hq4
  go_wp2_with (with_reducible refine stop_store rfl ?_)
  refine store_blk rfl rfl 24 _ _ rfl (q := q) (i := 1) (cur' := #[.int .i64 kd, .int .i64 s, .int .i64 v, .int .i64 k, .int .i64 se, .int .i64 rq, .slice (some ⟨g, 0, none⟩) n cb, .int .i64 vn, .int .i64 vp, .int .i64 vb, .int .i64 st, .int .i64 of, .string x]) [.int .i64 s, .int .i64 v, .int .i64 k, .int .i64 se, .int .i64 rq, .slice (some ⟨g, 0, none⟩) n cb] rfl rfl rfl (by kernel_rfl) (by intro u hu; simp at hu; rcases hu with rfl | rfl | rfl | rfl | rfl | rfl <;> rfl) HQ4.out (by simp) rfl ?_
  intro w5 hq5 hg5
  have HQ5 := Aside0.mk hq5
  have HP5 := Aside0.mk ((hg5.block p (blk_lt HP4.out) (fun e => HPQ.out.1 (Option.some.inj e))).trans HP4.out)
  have HB5 := Aside0.mk (HB4.out.grown hg5 HB4.out.size (fun k_ e => by cases e; exact HPQ.out.2))
  have HT5 := Aside0.mk (R40_other HT4.out HQ4.out hg5)
  have HO5 := Aside0.mk (R8_keep HO4.out (fun k_ hk_ => hg5.block k_ (R8_lt HO4.out k_ hk_).2 (fun e => absurd (typed_ne ⟨_, HQ4.out⟩ (own_type (R8_own HO4.out) q (by cases e; exact hk_))) (by decide))))
  clear hg5 HO4
  have kp0 : w5.cell? ⟨q, 0, none⟩ = some (.int .i64 kd) := blk_cell hq5 0
  have kp1 : w5.cell? ⟨q, 1, none⟩ = some (.int .i64 s) := blk_cell hq5 1
  have kp2 : w5.cell? ⟨q, 2, none⟩ = some (.int .i64 v) := blk_cell hq5 2
  have kp3 : w5.cell? ⟨q, 3, none⟩ = some (.int .i64 k) := blk_cell hq5 3
  have kp4 : w5.cell? ⟨q, 4, none⟩ = some (.int .i64 se) := blk_cell hq5 4
  have kp5 : w5.cell? ⟨q, 5, none⟩ = some (.int .i64 rq) := blk_cell hq5 5
  have kp6 : w5.cell? ⟨q, 6, none⟩ = some (.slice (some ⟨g, 0, none⟩) n cb) := blk_cell hq5 6
  have kp7 : w5.cell? ⟨q, 7, none⟩ = some (.int .i64 vn) := blk_cell hq5 7
  have kp8 : w5.cell? ⟨q, 8, none⟩ = some (.int .i64 vp) := blk_cell hq5 8
  have kp9 : w5.cell? ⟨q, 9, none⟩ = some (.int .i64 vb) := blk_cell hq5 9
  have kp10 : w5.cell? ⟨q, 10, none⟩ = some (.int .i64 st) := blk_cell hq5 10
  have kp11 : w5.cell? ⟨q, 11, none⟩ = some (.int .i64 of) := blk_cell hq5 11
  have kp12 : w5.cell? ⟨q, 12, none⟩ = some (.string x) := blk_cell hq5 12
  clear hq5
  go_wp2_with fail
  refine (encode_C sq kd s v k se rq (some ⟨g, 0, none⟩) cb n l vn vp vb st of x w5 HN.out (C40_front HN.out (R40_C HT5.out)) (by have := HCB.out; omega) r1 r2 HR.out).mono ?_
  rintro e6 w6 ⟨V6, rfl, ho, hb⟩
  obtain ⟨B6, m6, c6, rfl, hl6, hc6⟩ := R8_form ho
  have HM6 := Aside0.mk (show m6 = m2 by rw [← hl6, HM2.out])
  have HC6 := Aside0.mk hc6
  have HO6 := Aside0.mk (Kd.R_lower ho HB5.out.size)
  have HT6 := Aside0.mk (Kd.R_below HT5.out hb)
  have HO7 := Aside0.mk (R8_keep HO5.out (fun k_ hk_ => hb.block k_ (R8_lt HO5.out k_ hk_).2))
  have HB6 := Aside0.mk (below_step HB5.out hb)
  have HP6 := Aside0.mk ((hb.block p (blk_lt HP5.out)).trans HP5.out)
  have HQ6 := Aside0.mk ((hb.block q (blk_lt HQ5.out)).trans HQ5.out)
  clear hl6 hc6 ho hb kp0 kp1 kp2 kp3 kp4 kp5 kp6 kp7 kp8 kp9 kp10 kp11 kp12 HO5
  have kp1 : w6.cell? ⟨q, 1, none⟩ = some (.int .i64 s) := blk_cell HQ6.out 1
  have kp2 : w6.cell? ⟨q, 2, none⟩ = some (.int .i64 v) := blk_cell HQ6.out 2
  have kp3 : w6.cell? ⟨q, 3, none⟩ = some (.int .i64 k) := blk_cell HQ6.out 3
  have kp4 : w6.cell? ⟨q, 4, none⟩ = some (.int .i64 se) := blk_cell HQ6.out 4
  have kp5 : w6.cell? ⟨q, 5, none⟩ = some (.int .i64 rq) := blk_cell HQ6.out 5
  have kp6 : w6.cell? ⟨q, 6, none⟩ = some (.slice (some ⟨g, 0, none⟩) n cb) := blk_cell HQ6.out 6
  have lp1 : w6.cell? ⟨p, 1, none⟩ = some (.int .i64 s) := blk_cell HP6.out 1
  have lp2 : w6.cell? ⟨p, 2, none⟩ = some (.int .i64 v) := blk_cell HP6.out 2
  have lp3 : w6.cell? ⟨p, 3, none⟩ = some (.int .i64 k) := blk_cell HP6.out 3
  have lp4 : w6.cell? ⟨p, 4, none⟩ = some (.int .i64 se) := blk_cell HP6.out 4
  have lp5 : w6.cell? ⟨p, 5, none⟩ = some (.int .i64 rq) := blk_cell HP6.out 5
  have lp6 : w6.cell? ⟨p, 6, none⟩ = some (.slice A n c) := blk_cell HP6.out 6
  go_wp2_with fail
  refine (whole_C s v k se rq (some ⟨g, 0, none⟩) A cb c n l w6 HN.out (R40_C HT6.out) HCB.out (Kd.C_below HC.out HB6.out) HCC.out hm).mono ?_
  rintro e7 w7 ⟨rfl, hb⟩
  have HB7 := Aside0.mk (below_step HB6.out hb)
  have HT7 := Aside0.mk (Kd.R_below HT6.out hb)
  have HO8 := Aside0.mk (R8_keep HO6.out (fun k_ hk_ => hb.block k_ (R8_lt HO6.out k_ hk_).2))
  have HO9 := Aside0.mk (R8_keep HO7.out (fun k_ hk_ => hb.block k_ (R8_lt HO7.out k_ hk_).2))
  have HP7 := Aside0.mk ((hb.block p (blk_lt HP6.out)).trans HP6.out)
  have HQ7 := Aside0.mk ((hb.block q (blk_lt HQ6.out)).trans HQ6.out)
  clear hb kp1 kp2 kp3 kp4 kp5 kp6 lp1 lp2 lp3 lp4 lp5 lp6
  go_wp2_with fail
  refine (num_N r2 w7).mono ?_
  rintro e8 w8 ⟨rfl, hd⟩
  have HB8 := Aside0.mk hd.below
  clear hd
  go_wp2_with fail
  have hm6 := HM6.out
  subst hm6
  refine (bytes_N r1 B6 B2 c6 c2 m6 w8 HM2.out (by rw [← HM2.out]; exact Nat.le_trans HRL.out (by decide)) (Kd.C_below (R8_C HO8.out) HB8.out) HC6.out (Kd.C_below (R8_C HO9.out) HB8.out) HC2.out).mono ?_
  rintro e9 w9 ⟨rfl, hd⟩
  have HB9 := Aside0.mk (below_step HB8.out hd.below)
  clear hd
  have HTA := Aside0.mk (Kd.R_below HT7.out HB9.out)
  have HBA := Aside0.mk (below_step HB7.out HB9.out)
  have HPA := Aside0.mk ((HB9.out.block p (blk_lt HP7.out)).trans HP7.out)
  have HQA := Aside0.mk ((HB9.out.block q (blk_lt HQ7.out)).trans HQ7.out)
  clear HA HP1 HB2 HP2 HB3 HQ3 HP3 HW3 HT4 HP4 HB4 HQ4 HQ5 HP5 HB5 HT5 HO6 HT6 HO7 HB6 HP6 HQ6 HB7 HT7 HO8 HO9 HP7 HQ7 HB8 HB9 HGW HM2 HC2 HM6 HC6
  go_wp2
  go_loopw [5, 6, 8, 9, 11, 12, 13, 14] (fun v5 v6 v8 v9 v11 v12 v13 v14 wr => ∃ (tn : Nat) (m : List S40), tn ≤ 3 ∧ v11 = .int .i64 (tn : Int) ∧ Aside0 (m.length = n) ∧ Aside0 (R40 wr w.heap.size (.slice (some ⟨g, 0, none⟩) (n + 1) cb) (m ++ [roomOp])) ∧ Aside0 (Below w.heap.size w wr) ∧ Aside0 (wr.heap[p]? = some (.cells #[.int .i64 kd, .int .i64 s, .int .i64 v, .int .i64 k, .int .i64 se, .int .i64 rq, .slice A n c, .int .i64 vn, .int .i64 vp, .int .i64 vb, .int .i64 st, .int .i64 of, .string x] 28 (0, 0))) ∧ Aside0 (wr.heap[q]? = some (.cells #[.int .i64 kd, .int .i64 s, .int .i64 v, .int .i64 k, .int .i64 se, .int .i64 rq, .slice (some ⟨g, 0, none⟩) n cb, .int .i64 vn, .int .i64 vp, .int .i64 vb, .int .i64 st, .int .i64 of, .string x] 28 (0, 0)))) (fun _ _ _ _ v11 _ _ _ _ => 4 - (intOf v11).toNat)
  case atStart => exact ⟨0, l, by omega, rfl, HN, HTA, HBA, HPA, HQA⟩
  case round =>
    clear HTA HBA HPA HQA HR HRL
    obtain ⟨tn, m, htn, rfl, HML, HT, HB, HP, HQ⟩ := hrel
    by_cases hlt : tn < 3
    · have hd1 : decide ((tn : Int) < 3) = true := decide_eq_true (by omega)
      have hd2 : decide (tn < 3) = true := decide_eq_true hlt
      have hp := HP.out
      have kp0 : wr.cell? ⟨p, 0, none⟩ = some (.int .i64 kd) := blk_cell hp 0
      have kp1 : wr.cell? ⟨p, 1, none⟩ = some (.int .i64 s) := blk_cell hp 1
      have kp2 : wr.cell? ⟨p, 2, none⟩ = some (.int .i64 v) := blk_cell hp 2
      have kp3 : wr.cell? ⟨p, 3, none⟩ = some (.int .i64 k) := blk_cell hp 3
      have kp4 : wr.cell? ⟨p, 4, none⟩ = some (.int .i64 se) := blk_cell hp 4
      have kp5 : wr.cell? ⟨p, 5, none⟩ = some (.int .i64 rq) := blk_cell hp 5
      have kp6 : wr.cell? ⟨p, 6, none⟩ = some (.slice A n c) := blk_cell hp 6
      have kp7 : wr.cell? ⟨p, 7, none⟩ = some (.int .i64 vn) := blk_cell hp 7
      have kp8 : wr.cell? ⟨p, 8, none⟩ = some (.int .i64 vp) := blk_cell hp 8
      have kp9 : wr.cell? ⟨p, 9, none⟩ = some (.int .i64 vb) := blk_cell hp 9
      have kp10 : wr.cell? ⟨p, 10, none⟩ = some (.int .i64 st) := blk_cell hp 10
      have kp11 : wr.cell? ⟨p, 11, none⟩ = some (.int .i64 of) := blk_cell hp 11
      have kp12 : wr.cell? ⟨p, 12, none⟩ = some (.string x) := blk_cell hp 12
      clear hp
      go_wp2
      obtain ⟨z, hz⟩ : ∃ z, z = wr.heap.size := ⟨_, rfl⟩
      obtain ⟨wz, hwz⟩ : ∃ wz, wz = wr.alloc (.cells #[.int .i64 kd, .int .i64 s, .int .i64 v, .int .i64 k, .int .i64 se, .int .i64 rq, .slice none 0 0, .int .i64 vn, .int .i64 vp, .int .i64 vb, .int .i64 st, .int .i64 of, .string x] 28) := ⟨_, rfl⟩
      rw [← hwz, ← hz]
      have HWZ := Aside0.mk (show Below wr.heap.size wr wz by rw [hwz]; exact below_alloc (Below.refl _ _) _)
      have HZ0 := Aside0.mk (show wz.heap[z]? = some (.cells #[.int .i64 kd, .int .i64 s, .int .i64 v, .int .i64 k, .int .i64 se, .int .i64 rq, .slice none 0 0, .int .i64 vn, .int .i64 vp, .int .i64 vb, .int .i64 st, .int .i64 of, .string x] 28 (0, 0)) by rw [hwz, hz]; exact heap_alloc_new wr _)
      have HT0 := Aside0.mk (Kd.R_below HT.out HWZ.out)
      have HB0 := Aside0.mk (below_step HB.out HWZ.out)
      have HP0 := Aside0.mk ((HWZ.out.block p (blk_lt HP.out)).trans HP.out)
      have HQ0 := Aside0.mk ((HWZ.out.block q (blk_lt HQ.out)).trans HQ.out)
      have HZN := Aside0.mk (show z ≠ p ∧ z ≠ q ∧ w.heap.size ≤ z from ⟨fun e => by have := blk_lt HP.out; omega, fun e => by have := blk_lt HQ.out; omega, by rw [hz]; exact HB.out.size⟩)
      clear hz hwz kp0 kp1 kp2 kp3 kp4 kp5 kp6 kp7 kp8 kp9 kp10 kp11 kp12 HT HB HP HQ hd1 hd2
      go_loopw [13, 14] (fun v13 v14 wr => ∃ (i : Nat) (sv : Value), i ≤ n ∧ v13 = .int .i64 (i : Int) ∧ Aside0 (R40 wr w.heap.size sv ((l.take i).map (turnOp tn))) ∧ Aside0 (some g ≠ sv.ownBlock) ∧ Aside0 (R40 wr w.heap.size (.slice (some ⟨g, 0, none⟩) (n + 1) cb) ((l.take i).map (turnOp tn) ++ m.drop i ++ [roomOp])) ∧ Aside0 (Below w.heap.size w wr) ∧ Aside0 (wr.heap[p]? = some (.cells #[.int .i64 kd, .int .i64 s, .int .i64 v, .int .i64 k, .int .i64 se, .int .i64 rq, .slice A n c, .int .i64 vn, .int .i64 vp, .int .i64 vb, .int .i64 st, .int .i64 of, .string x] 28 (0, 0))) ∧ Aside0 (wr.heap[q]? = some (.cells #[.int .i64 kd, .int .i64 s, .int .i64 v, .int .i64 k, .int .i64 se, .int .i64 rq, .slice (some ⟨g, 0, none⟩) n cb, .int .i64 vn, .int .i64 vp, .int .i64 vb, .int .i64 st, .int .i64 of, .string x] 28 (0, 0))) ∧ Aside0 (wr.heap[z]? = some (.cells #[.int .i64 kd, .int .i64 s, .int .i64 v, .int .i64 k, .int .i64 se, .int .i64 rq, sv, .int .i64 vn, .int .i64 vp, .int .i64 vb, .int .i64 st, .int .i64 of, .string x] 28 (0, 0)))) (fun v13 _ _ => n + 1 - (intOf v13).toNat)
      case atStart => exact ⟨0, .slice none 0 0, by omega, rfl, ⟨Kd.R_nil _ _ _ _ _⟩, ⟨by simp [Value.ownBlock]⟩, ⟨by rw [List.take_zero, List.drop_zero]; exact HT0.out⟩, HB0, HP0, HQ0, HZ0⟩
      case round =>
        clear HWZ HT0 HB0 HP0 HQ0 HZ0
        obtain ⟨i, sv, hi, rfl, HS, HNE, HT, HB, HP, HQ, HZ⟩ := hrel
        have p6 : wr.cell? ⟨p, 6, none⟩ = some (.slice A n c) := blk_cell HP.out 6
        by_cases hin : i < n
        · have hd1 : decide ((i : Int) < (n : Int)) = true := decide_eq_true (by omega)
          have hd2 : decide (i < n) = true := decide_eq_true hin
          obtain ⟨ad, hA, f0, f1, f2, f3, f4⟩ := at_T40 HC.out (i : Int) (by omega) (by omega)
          obtain ⟨o, ho⟩ : ∃ o, rd_T40 l (i : Int) = o := ⟨_, rfl⟩
          rw [ho, Int.toNat_natCast] at f0 f1 f2 f3 f4
          replace f0 := pw_cell_below HB.out f0
          replace f1 := pw_cell_below HB.out f1
          replace f2 := pw_cell_below HB.out f2
          replace f3 := pw_cell_below HB.out f3
          replace f4 := pw_cell_below HB.out f4
          have HTK := Aside0.mk (show l.take (i + 1) = l.take i ++ [o] by rw [← ho]; exact take_rd (by rw [HN.out]; exact hin))
          have HAE := Aside0.mk hA
          rw [hA] at p6
          clear ho hA
          go_upto_if 73 with (fail)
          go_cut [14] (fun v14 wc => v14 = .pointer (some ⟨wr.heap.size, 0, none⟩) ∧ Aside0 (Below wr.heap.size wr wc) ∧ Aside0 (wc.heap[wr.heap.size]? = some (.cells (opCells (turnOp tn o)).toArray 40 (0, 0))))
          case first =>
            by_cases ht2 : tn < 2
            · have hd3 : decide ((tn : Int) < 2) = true := decide_eq_true (by omega)
              have hd4 : decide (tn < 2) = true := decide_eq_true ht2
              go_wp2_with (with_reducible refine stop_lit rfl ?_)
              obtain ⟨po, hpo⟩ : ∃ po, po = wr.heap.size := ⟨_, rfl⟩
              obtain ⟨wl, hwl⟩ : ∃ wl, wl = wr.alloc (.cells #[.int .i64 o.f0, .string o.f1, .string o.f2, .int .i64 o.f3, .int .i64 o.f4] 40) := ⟨_, rfl⟩
              rw [← hwl, ← hpo]
              have HBL := Aside0.mk (show Below wr.heap.size wr wl by rw [hwl]; exact below_alloc (Below.refl _ _) _)
              have HLP := Aside0.mk (show wl.heap[po]? = some (.cells #[.int .i64 o.f0, .string o.f1, .string o.f2, .int .i64 o.f3, .int .i64 o.f4] 40 (0, 0)) by rw [hwl, hpo]; exact heap_alloc_new wr _)
              have HPO := Aside0.mk hpo
              clear hwl hpo p6 f0 f1 f2 f3 f4
              refine lit8 wl wl.heap.size rfl rfl [48 + (tn : Int)] ?_ (Below.refl _ _) (Nat.le_refl _) (by simp) ?_
              · go_simp
                rfl
              intro v7 w7 ho hb hg hat
              obtain ⟨A7, m7, c7, rfl, hl7, hc7⟩ := R8_form ho
              have HC7 := Aside0.mk (R8_C ho)
              have hp7 := (hb.block po (blk_lt HLP.out)).trans HLP.out
              have HB7 := Aside0.mk (below_step HBL.out hb)
              have HP7 := Aside0.mk hp7
              clear ho hb hg hat hl7 hc7
              have zp1 := blk_frozen hp7 1
              have kp1 := blk_cell hp7 1
              clear hp7
              go_wp2_with (with_reducible refine stop_convert rfl ?_)
              refine str8 rfl _ rfl rfl HC7.out ?_
              go_wp2
              go_meet
              case rel => exact ⟨by rw [HPO.out], ⟨HB7.out.setCell (by rw [HPO.out]; exact Nat.le_refl _) _⟩, ⟨by rw [turnOp_lt ht2, ← HPO.out]; exact blk_put HP7.out 1 _ rfl⟩⟩
            · have hd3 : decide ((tn : Int) < 2) = false := decide_eq_false (by omega)
              have hd4 : decide (tn < 2) = false := decide_eq_false ht2
              go_wp2
              go_meet
              case rel => exact ⟨rfl, ⟨below_alloc (Below.refl _ _) _⟩, ⟨by rw [turnOp_ge ht2]; exact heap_alloc_new wr _⟩⟩
          case rest =>
            obtain ⟨rfl, HBC, HPO⟩ := hcut
            obtain ⟨o', ho'⟩ : ∃ o', o' = turnOp tn o := ⟨_, rfl⟩
            rw [← ho'] at HPO
            have HOE := Aside0.mk ho'
            clear ho'
            have ho := HPO.out
            have g0 : wc.cell? ⟨wr.heap.size, 0, none⟩ = some (.int .i64 o'.f0) := blk_cell ho 0
            have g1 : wc.cell? ⟨wr.heap.size, 1, none⟩ = some (.string o'.f1) := blk_cell ho 1
            have g2 : wc.cell? ⟨wr.heap.size, 2, none⟩ = some (.string o'.f2) := blk_cell ho 2
            have g3 : wc.cell? ⟨wr.heap.size, 3, none⟩ = some (.int .i64 o'.f3) := blk_cell ho 3
            have g4 : wc.cell? ⟨wr.heap.size, 4, none⟩ = some (.int .i64 o'.f4) := blk_cell ho 4
            clear ho p6 f0 f1 f2 f3 f4
            have HS1 := Aside0.mk (Kd.R_below HS.out HBC.out)
            have HT1 := Aside0.mk (Kd.R_below HT.out HBC.out)
            have HB1 := Aside0.mk (below_step HB.out HBC.out)
            have HP1 := Aside0.mk ((HBC.out.block p (blk_lt HP.out)).trans HP.out)
            have HQ1 := Aside0.mk ((HBC.out.block q (blk_lt HQ.out)).trans HQ.out)
            have HZ1 := Aside0.mk ((HBC.out.block z (blk_lt HZ.out)).trans HZ.out)
            have z6 : wc.cell? ⟨z, 6, none⟩ = some sv := blk_cell HZ1.out 6
            have HSL := Aside0.mk (show ∀ k, sv.ownBlock = some k → k < wr.heap.size from Kd.R_lt HS.out)
            have HGC := Aside0.mk (show g < wc.heap.size from Kd.R_lt HT1.out g rfl)
            go_wp2_with (with_reducible refine stop_append rfl ?_)
            refine appOp (v := sv) (xs := (l.take i).map (turnOp tn)) w w.heap.size rfl _ _ rfl o' rfl rfl HS1.out HB1.out HB1.out.size (by rw [List.length_map, List.length_take]; omega) ?_
            intro v1 w1 ho1 hb1 hg1 hat1
            obtain ⟨A1, n1, c1, rfl, _, _, _⟩ := R40_form ho1
            have HS2 := Aside0.mk (show R40 w1 w.heap.size (.slice A1 n1 c1) ((l.take (i + 1)).map (turnOp tn)) by rw [HTK.out, List.map_append, List.map_singleton, ← HOE.out]; exact ho1)
            have HNE2 := Aside0.mk (show some g ≠ (Value.slice A1 n1 c1).ownBlock by
              rcases hat1 with h | ⟨b, h, hb⟩
              · rw [h]; exact HNE.out
              · rw [h]; intro e; have := HGC.out; have := Option.some.inj e; omega)
            have HT2 := Aside0.mk (R40_by HT1.out hg1 (fun k_ hk_ => by have : g = k_ := Option.some.inj hk_; rw [← this]; exact HNE.out))
            have HP2 := Aside0.mk ((hg1.block p (blk_lt HP1.out) (fun e => absurd (typed_ne ⟨_, HP1.out⟩ (R40_type HS1.out p e.symm)) (by decide))).trans HP1.out)
            have HQ2 := Aside0.mk ((hg1.block q (blk_lt HQ1.out) (fun e => absurd (typed_ne ⟨_, HQ1.out⟩ (R40_type HS1.out q e.symm)) (by decide))).trans HQ1.out)
            have HZ2 := Aside0.mk ((hg1.block z (blk_lt HZ1.out) (fun e => absurd (typed_ne ⟨_, HZ1.out⟩ (R40_type HS1.out z e.symm)) (by decide))).trans HZ1.out)
            have HO2 := Aside0.mk ((hg1.block _ (blk_lt HPO.out) (fun e => Nat.lt_irrefl _ (HSL.out _ e.symm))).trans HPO.out)
            have HB2 := Aside0.mk hb1
            have HZL := Aside0.mk (blk_lt HZ.out)
            have zf : w1.frozen? ⟨z, 6, none⟩ = false := blk_frozen HZ2.out 6
            clear z6
            have z6 : w1.cell? ⟨z, 6, none⟩ = some sv := blk_cell HZ2.out 6
            clear ho1 hb1 hg1 hat1 HS1 HT1 HB1 HP1 HQ1 HZ1 HPO g0 g1 g2 g3 g4 HS HT HB HP HQ HZ
            go_wp2_with (with_reducible refine stop_dst (N := 89) rfl ?_)
            refine Stop.go ?_
            obtain ⟨wx, hwx⟩ : ∃ wx, wx = w1.setCell ⟨z, 6, none⟩ (.slice A1 n1 c1) := ⟨_, rfl⟩
            rw [← hwx]
            have HS3 := Aside0.mk (show R40 wx w.heap.size (.slice A1 n1 c1) ((l.take (i + 1)).map (turnOp tn)) by rw [hwx]; exact Kd.R_set HS2.out HZ2.out (fun t ht => by rw [k40_only ht]; decide) 6 _)
            have HT3 := Aside0.mk (show R40 wx w.heap.size (.slice (some ⟨g, 0, none⟩) (n + 1) cb) ((l.take i).map (turnOp tn) ++ m.drop i ++ [roomOp]) by rw [hwx]; exact Kd.R_set HT2.out HZ2.out (fun t ht => by rw [k40_only ht]; decide) 6 _)
            have HZ3 := Aside0.mk (show wx.heap[z]? = some (.cells #[.int .i64 kd, .int .i64 s, .int .i64 v, .int .i64 k, .int .i64 se, .int .i64 rq, .slice A1 n1 c1, .int .i64 vn, .int .i64 vp, .int .i64 vb, .int .i64 st, .int .i64 of, .string x] 28 (0, 0)) by rw [hwx]; exact blk_put HZ2.out 6 _ rfl)
            have HP3 := Aside0.mk (show wx.heap[p]? = some (.cells #[.int .i64 kd, .int .i64 s, .int .i64 v, .int .i64 k, .int .i64 se, .int .i64 rq, .slice A n c, .int .i64 vn, .int .i64 vp, .int .i64 vb, .int .i64 st, .int .i64 of, .string x] 28 (0, 0)) by rw [hwx]; exact (Below.heap_setCell _ _ _ _ (fun e => HZN.out.1 e.symm)).trans HP2.out)
            have HQ3 := Aside0.mk (show wx.heap[q]? = some (.cells #[.int .i64 kd, .int .i64 s, .int .i64 v, .int .i64 k, .int .i64 se, .int .i64 rq, .slice (some ⟨g, 0, none⟩) n cb, .int .i64 vn, .int .i64 vp, .int .i64 vb, .int .i64 st, .int .i64 of, .string x] 28 (0, 0)) by rw [hwx]; exact (Below.heap_setCell _ _ _ _ (fun e => HZN.out.2.1 e.symm)).trans HQ2.out)
            have ho3 : wx.heap[wr.heap.size]? = some (.cells (opCells o').toArray 40 (0, 0)) := by rw [hwx]; exact (Below.heap_setCell _ _ _ _ (fun e => by have := HZL.out; have e2 : wr.heap.size = z := e; omega)).trans HO2.out
            have HB3 := Aside0.mk (show Below w.heap.size w wx by rw [hwx]; exact HB2.out.setCell HZN.out.2.2 _)
            have g0 : wx.cell? ⟨wr.heap.size, 0, none⟩ = some (.int .i64 o'.f0) := blk_cell ho3 0
            have g1 : wx.cell? ⟨wr.heap.size, 1, none⟩ = some (.string o'.f1) := blk_cell ho3 1
            have g2 : wx.cell? ⟨wr.heap.size, 2, none⟩ = some (.string o'.f2) := blk_cell ho3 2
            have g3 : wx.cell? ⟨wr.heap.size, 3, none⟩ = some (.int .i64 o'.f3) := blk_cell ho3 3
            have g4 : wx.cell? ⟨wr.heap.size, 4, none⟩ = some (.int .i64 o'.f4) := blk_cell ho3 4
            have q6 : wx.cell? ⟨q, 6, none⟩ = some (.slice (some ⟨g, 0, none⟩) n cb) := blk_cell HQ3.out 6
            clear hwx ho3 zf z6 HS2 HT2 HZ2 HP2 HQ2 HO2 HB2
            go_wp2_with (with_reducible refine stop_store rfl ?_)
            refine putOp_at w w.heap.size rfl rfl _ _ rfl i o' rfl (by simp) rfl HT3.out (by omega) HB3.out ?_
            intro w4 ho4 hb4 hg4
            have HT4 := Aside0.mk (show R40 w4 w.heap.size (.slice (some ⟨g, 0, none⟩) (n + 1) cb) ((l.take (i + 1)).map (turnOp tn) ++ m.drop (i + 1) ++ [roomOp]) by
              rw [← set_turn (turnOp tn) l m i roomOp o (by rw [HN.out]; exact hin) (by rw [HML.out, HN.out]) HTK.out, ← HOE.out]; exact ho4)
            have HS4 := Aside0.mk (R40_by HS3.out hg4 (fun k_ hk_ e => HNE2.out (by rw [hk_, e])))
            have HP4 := Aside0.mk ((hg4.block p (blk_lt HP3.out) (fun e => HGQ.out.1 (Option.some.inj e).symm)).trans HP3.out)
            have HQ4 := Aside0.mk ((hg4.block q (blk_lt HQ3.out) (fun e => HGQ.out.2 (Option.some.inj e).symm)).trans HQ3.out)
            have HZ4 := Aside0.mk ((hg4.block z (blk_lt HZ3.out) (fun e => absurd (typed_ne ⟨_, HZ3.out⟩ (R40_type HT3.out z e.symm)) (by decide))).trans HZ3.out)
            have HB4 := Aside0.mk hb4
            clear ho4 hb4 hg4 HS3 HT3 HP3 HQ3 HZ3 HB3 g0 g1 g2 g3 g4 q6
            go_wp2
            go_roundw
            case rel => exact ⟨i + 1, (.slice A1 n1 c1), by omega, by go_num, HS4, HNE2, HT4, HB4, HP4, HQ4, HZ4⟩
            case measure => simp [intOf]; omega
        · have hi2 : n = i := by omega
          subst hi2
          have hd1 : decide ((n : Int) < (n : Int)) = false := decide_eq_false (by omega)
          have hd2 : decide (n < n) = false := decide_eq_false (by omega)
          have htk : l.take n = l := List.take_of_length_le (by rw [HN.out]; exact Nat.le_refl _)
          have hdr : m.drop n = [] := List.drop_eq_nil_of_le (by rw [HML.out]; exact Nat.le_refl _)
          rw [htk] at HS HT
          rw [hdr, List.append_nil] at HT
          obtain ⟨l2, hl2⟩ : ∃ l2, l2 = l.map (turnOp tn) := ⟨_, rfl⟩
          rw [← hl2] at HS HT
          have HNL := Aside0.mk (show l2.length = n by rw [hl2, List.length_map]; exact HN.out)
          clear htk hdr hl2 hi HML
          obtain ⟨A1, n1, c1, rfl, hn1, hc1, hC1⟩ := R40_form HS.out
          have hn2 : n = n1 := by rw [← hn1, HNL.out]
          subst hn2
          have HC1 := Aside0.mk hC1
          have HCC1 := Aside0.mk hc1
          clear hn1 hc1 hC1
          obtain ⟨r3, r4, hr⟩ : ∃ r3 r4, recEnc sq kd s v k se rq l2 vn vp vb st of x = (r3, r4) := ⟨_, _, rfl⟩
          have HR := Aside0.mk hr
          have HRL := Aside0.mk (show r3.length ≤ 4000000 by have h := recEnc_len kd s v k se rq l2 vn vp vb st of x sq; rw [hr] at h; exact h)
          clear hr
          have hz := HZ.out
          have kp0 : wr.cell? ⟨z, 0, none⟩ = some (.int .i64 kd) := blk_cell hz 0
          have kp1 : wr.cell? ⟨z, 1, none⟩ = some (.int .i64 s) := blk_cell hz 1
          have kp2 : wr.cell? ⟨z, 2, none⟩ = some (.int .i64 v) := blk_cell hz 2
          have kp3 : wr.cell? ⟨z, 3, none⟩ = some (.int .i64 k) := blk_cell hz 3
          have kp4 : wr.cell? ⟨z, 4, none⟩ = some (.int .i64 se) := blk_cell hz 4
          have kp5 : wr.cell? ⟨z, 5, none⟩ = some (.int .i64 rq) := blk_cell hz 5
          have kp6 : wr.cell? ⟨z, 6, none⟩ = some (.slice A1 n c1) := blk_cell hz 6
          have kp7 : wr.cell? ⟨z, 7, none⟩ = some (.int .i64 vn) := blk_cell hz 7
          have kp8 : wr.cell? ⟨z, 8, none⟩ = some (.int .i64 vp) := blk_cell hz 8
          have kp9 : wr.cell? ⟨z, 9, none⟩ = some (.int .i64 vb) := blk_cell hz 9
          have kp10 : wr.cell? ⟨z, 10, none⟩ = some (.int .i64 st) := blk_cell hz 10
          have kp11 : wr.cell? ⟨z, 11, none⟩ = some (.int .i64 of) := blk_cell hz 11
          have kp12 : wr.cell? ⟨z, 12, none⟩ = some (.string x) := blk_cell hz 12
          clear hz
          go_wp2_with fail
          refine (refEnc_N sq kd s v k se rq A1 c1 n l2 vn vp vb st of x wr HNL.out HC1.out HCC1.out r3 r4 HR.out).mono ?_
          rintro e2 w2 ⟨B3, m3, c3, rfl, hl3, hc3, ho, hb⟩
          have HM3 := Aside0.mk hl3
          have HC3 := Aside0.mk hc3
          have HO2 := Aside0.mk (Kd.R_lower ho HB.out.size)
          have HT2 := Aside0.mk (Kd.R_below HT.out hb)
          have HB2 := Aside0.mk (below_step HB.out hb)
          have HP2 := Aside0.mk ((hb.block p (blk_lt HP.out)).trans HP.out)
          have hq2 := (hb.block q (blk_lt HQ.out)).trans HQ.out
          clear hl3 hc3 ho hb kp0 kp1 kp2 kp3 kp4 kp5 kp6 kp7 kp8 kp9 kp10 kp11 kp12 HS HT HB HP HZ HC1 HCC1 HNE p6 hd1 hd2
          have kp0 : w2.cell? ⟨q, 0, none⟩ = some (.int .i64 kd) := blk_cell hq2 0
          have kp1 : w2.cell? ⟨q, 1, none⟩ = some (.int .i64 s) := blk_cell hq2 1
          have kp2 : w2.cell? ⟨q, 2, none⟩ = some (.int .i64 v) := blk_cell hq2 2
          have kp3 : w2.cell? ⟨q, 3, none⟩ = some (.int .i64 k) := blk_cell hq2 3
          have kp4 : w2.cell? ⟨q, 4, none⟩ = some (.int .i64 se) := blk_cell hq2 4
          have kp5 : w2.cell? ⟨q, 5, none⟩ = some (.int .i64 rq) := blk_cell hq2 5
          have kp6 : w2.cell? ⟨q, 6, none⟩ = some (.slice (some ⟨g, 0, none⟩) n cb) := blk_cell hq2 6
          have kp7 : w2.cell? ⟨q, 7, none⟩ = some (.int .i64 vn) := blk_cell hq2 7
          have kp8 : w2.cell? ⟨q, 8, none⟩ = some (.int .i64 vp) := blk_cell hq2 8
          have kp9 : w2.cell? ⟨q, 9, none⟩ = some (.int .i64 vb) := blk_cell hq2 9
          have kp10 : w2.cell? ⟨q, 10, none⟩ = some (.int .i64 st) := blk_cell hq2 10
          have kp11 : w2.cell? ⟨q, 11, none⟩ = some (.int .i64 of) := blk_cell hq2 11
          have kp12 : w2.cell? ⟨q, 12, none⟩ = some (.string x) := blk_cell hq2 12
          have HQ2 := Aside0.mk hq2
          clear hq2 HQ
          go_wp2_with fail
          refine (encode_C sq kd s v k se rq (some ⟨g, 0, none⟩) cb n l2 vn vp vb st of x w2 HNL.out (C40_front HNL.out (R40_C HT2.out)) (by have := HCB.out; omega) r3 r4 HR.out).mono ?_
          rintro e3 w3 ⟨V4, rfl, ho, hb⟩
          obtain ⟨B4, m4, c4, rfl, hl4, hc4⟩ := R8_form ho
          have HM4 := Aside0.mk (show m3 = m4 by rw [← hl4, HM3.out])
          have HC4 := Aside0.mk hc4
          have HO3 := Aside0.mk (Kd.R_lower ho HB2.out.size)
          have HO4 := Aside0.mk (R8_keep HO2.out (fun k_ hk_ => hb.block k_ (R8_lt HO2.out k_ hk_).2))
          have HT3 := Aside0.mk (Kd.R_below HT2.out hb)
          have HB3 := Aside0.mk (below_step HB2.out hb)
          have HP3 := Aside0.mk ((hb.block p (blk_lt HP2.out)).trans HP2.out)
          have HQ3 := Aside0.mk ((hb.block q (blk_lt HQ2.out)).trans HQ2.out)
          clear hl4 hc4 ho hb kp0 kp1 kp2 kp3 kp4 kp5 kp6 kp7 kp8 kp9 kp10 kp11 kp12 HO2 HT2 HB2 HP2 HQ2
          go_wp2_with fail
          refine (num_N r4 w3).mono ?_
          rintro e5 w5 ⟨rfl, hd⟩
          have HB5 := Aside0.mk hd.below
          clear hd
          go_wp2_with fail
          have hm4 := HM4.out
          subst hm4
          refine (bytes_N r3 B4 B3 c4 c3 m3 w5 HM3.out (by rw [← HM3.out]; exact Nat.le_trans HRL.out (by decide)) (Kd.C_below (R8_C HO3.out) HB5.out) HC4.out (Kd.C_below (R8_C HO4.out) HB5.out) HC3.out).mono ?_
          rintro e6 w6 ⟨rfl, hd⟩
          have HB6 := Aside0.mk (below_step HB5.out hd.below)
          clear hd
          have HTA := Aside0.mk (Kd.R_below HT3.out HB6.out)
          have HBA := Aside0.mk (below_step HB3.out HB6.out)
          have HPA := Aside0.mk ((HB6.out.block p (blk_lt HP3.out)).trans HP3.out)
          have HQA := Aside0.mk ((HB6.out.block q (blk_lt HQ3.out)).trans HQ3.out)
          clear HT3 HB3 HP3 HQ3 HO3 HO4 HB5 HB6
          go_wp2
          go_roundw
          case rel => exact ⟨tn + 1, l2, by omega, by go_num, HNL, HTA, HBA, HPA, HQA⟩
          case measure => simp [intOf]; omega
    · have htn3 : tn = 3 := by omega
      subst htn3
      clear htn hlt
      go_wp2_with fail
      refine (known_C wr).mono ?_
      rintro e7 w7 ⟨rfl, hb⟩
      have HB7 := Aside0.mk (below_step HB.out hb)
      clear hb
      go_wp2
      go_ret
      exact ⟨rfl, HB7.out⟩
end Go.Proofs.Ytdbniihjkiecbaa.PW
namespace Go.Proofs.Ytdbniihjkiecbaa.PW
open Go.ChangeShapes Go.WideShapes Go.ChangeAt Go.RowKit Go.Deep
open Go.Proofs.YtdbniihjkiecbaaW.PrintWords Go.Proofs.YtdbniihjkiecbaaW.PrintLast Go.Proofs.YtdbniihjkiecbaaW.PrintMore
set_option linter.unusedVariables false
set_option linter.unusedSimpArgs false

/-- No list in it is heavier than the form's own reach. -/
def Wt {H : Type} (t : TypeId) (d : DataW H) : Prop := ∀ n ∈ d.weights Try.prog t, n ≤ reachBytes
theorem mem_weightsAll {H : Type} {P : Program} {e : TypeId} {d : DataW H} {n : Nat} : ∀ {l : List (DataW H)}, d ∈ l → n ∈ d.weights P e → n ∈ DataW.weightsAll P e l
  | x :: r, hd, hn => by
    simp only [DataW.weightsAll, List.mem_append]
    rcases List.mem_cons.1 hd with rfl | hd
    · exact .inl hn
    · exact .inr (mem_weightsAll hd hn)
theorem c3 : Try.prog.cellsOf 3 = 1 := by kernel_rfl
theorem c9 : Try.prog.cellsOf 9 = 1 := by kernel_rfl
theorem c22 : Try.prog.cellsOf 22 = 1 := by kernel_rfl
theorem c40 : Try.prog.cellsOf 40 = 5 := by kernel_rfl
theorem c24 : Try.prog.cellsOf 24 = 6 := by kernel_rfl
theorem c26 : Try.prog.cellsOf 26 = 3 := by kernel_rfl
theorem c28 : Try.prog.cellsOf 28 = 13 := by kernel_rfl
theorem bytes40 : Try.prog.bytesOf 40 = 56 := by kernel_rfl
instance : Inhabited S40 := ⟨⟨0, ⟨#[]⟩, ⟨#[]⟩, 0, 0⟩⟩
section
variable {H : Type} {enc : TypeId × Value → H} {W : World}
theorem row_of {α : Type} [Inhabited α] {d : Kd α} {t e : TypeId} (ht : Try.prog.underlying t = some (.slice e)) (hc : Try.prog.cellsOf e = d.sz) (good : α → Prop)
    (hopen : ∀ (n : Nat) (cs : List Value) (x : DataW H × List MemPlace), DataW.trod enc Try.prog W 0 (fun _ => true) true n e cs = some x → Wt e x.1 → ∃ y, d.K W y cs ∧ good y)
    {n : Nat} {cs : List Value} {x : DataW H × List MemPlace} (h : DataW.trod enc Try.prog W 0 (fun _ => true) true n t cs = some x) (hw : Wt t x.1) :
    ∃ A c len, ∃ l : List α, cs = [.slice A len c] ∧ l.length = len ∧ len ≤ c ∧ Kd.C d W A len l ∧ (∀ y ∈ l, good y) ∧ len * Try.prog.bytesOf e ≤ reachBytes := by
  rcases open_slice ht h with ⟨rfl, rfl⟩ | ⟨a, len, cap, m, k, D, Pl, rfl, hb, hl, hm, hmm, rfl, hx⟩
  · exact ⟨none, 0, 0, [], rfl, rfl, Nat.le_refl _, ⟨rfl, by omega, fun h => absurd h (by omega)⟩, fun y hy => by simp at hy, by simp⟩
  · have hmm' : m = cap := by simpa using hmm
    have hel : ∀ i, i < len → Wt e (D i) := by
      intro i hi q hq
      refine hw q ?_
      simp only [DataW.weights, ht, List.mem_cons, List.mem_append]
      exact .inr (.inl (mem_weightsAll (List.mem_map.2 ⟨i, List.mem_range.2 hi, rfl⟩) hq))
    have each : ∀ i, i < len → ∃ y : α, ∃ cs', W.cells? 0 (a.add (i * d.sz)) d.sz = some cs' ∧ d.K W y cs' ∧ good y := by
      intro i hi
      obtain ⟨cs', h1, h2⟩ := hx i (by omega)
      rw [hc] at h1
      obtain ⟨y, h3, h4⟩ := hopen _ _ _ h2 (hel i hi)
      exact ⟨y, cs', h1, h3, h4⟩
    obtain ⟨g, hg⟩ := choose_lt each
    have hlen : ((List.range len).map g).length = len := by simp
    have hmax : maxLen = 9223372036854775807 := rfl
    refine ⟨some a, cap, len, (List.range len).map g, rfl, hlen, hl, ⟨hlen, by omega, fun _ => ⟨a, rfl, fun j p hj => ?_⟩⟩, fun y hy => ?_, ?_⟩
    · rw [List.getElem?_map] at hj
      obtain ⟨j', hj', rfl⟩ := Option.map_eq_some_iff.1 hj
      obtain ⟨hjl, he⟩ := List.getElem?_eq_some_iff.1 hj'
      rw [List.getElem_range] at he
      subst he
      rw [List.length_range] at hjl
      obtain ⟨cs', h1, h2, h3⟩ := hg j hjl
      obtain ⟨_, hlc, hcell⟩ := World.cells?_some h1
      refine ⟨cs', hlc, h2, fun i u hu => ?_⟩
      have hi : i < cs'.length := (List.getElem?_eq_some_iff.1 hu).1
      rw [← Go.Deep.add_add, hcell i (by omega)]
      exact hu
    · obtain ⟨r, hr, rfl⟩ := List.mem_map.1 hy
      obtain ⟨cs', h1, h2, h3⟩ := hg r (List.mem_range.1 hr)
      exact h3
    · have h0 := hw ((((List.range len).map D).length + ((List.range (m - len)).map fun j => D (len + j)).length) * Try.prog.bytesOf e) (by simp only [DataW.weights, ht, List.mem_cons]; exact .inl trivial)
      refine Nat.le_trans (Nat.mul_le_mul_right _ ?_) h0
      rw [List.length_map, List.length_range]
      omega
set_option maxRecDepth 100000 in
theorem open40 (n : Nat) (cs : List Value) (x : DataW H × List MemPlace) (h : DataW.trod enc Try.prog W 0 (fun _ => true) true n 40 cs = some x) : ∃ y : S40, k40.K W y cs := by
  obtain ⟨xs, m, _, rfl, hl, hxl, hf⟩ := DataW.trod_struct Try.underlying40 h
  rw [c40] at hl
  match cs, hl, xs, hxl with
  | [v0, v1, v2, v3, v4], _, [x0, x1, x2, x3, x4], _ =>
    have e0 : DataW.trod enc Try.prog W 0 (fun _ => true) true m 3 [v0] = some x0 := by simpa [c3] using hf 0 _ rfl
    have e1 : DataW.trod enc Try.prog W 0 (fun _ => true) true m 9 [v1] = some x1 := by simpa [c9] using hf 1 _ rfl
    have e2 : DataW.trod enc Try.prog W 0 (fun _ => true) true m 9 [v2] = some x2 := by simpa [c9] using hf 2 _ rfl
    have e3 : DataW.trod enc Try.prog W 0 (fun _ => true) true m 3 [v3] = some x3 := by simpa [c3] using hf 3 _ rfl
    have e4 : DataW.trod enc Try.prog W 0 (fun _ => true) true m 3 [v4] = some x4 := by simpa [c3] using hf 4 _ rfl
    obtain ⟨a0, h0, _⟩ := DataW.trod_int Try.underlying3 e0
    obtain ⟨a1, h1, _⟩ := DataW.trod_string Try.underlying9 e1
    obtain ⟨a2, h2, _⟩ := DataW.trod_string Try.underlying9 e2
    obtain ⟨a3, h3, _⟩ := DataW.trod_int Try.underlying3 e3
    obtain ⟨a4, h4, _⟩ := DataW.trod_int Try.underlying3 e4
    injection h0 with h0 _
    injection h1 with h1 _
    injection h2 with h2 _
    injection h3 with h3 _
    injection h4 with h4 _
    rw [h0, h1, h2, h3, h4]
    exact ⟨⟨a0, a1, a2, a3, a4⟩, k40_mk W _⟩
theorem Wt.agg {t : TypeId} {fs : Array Field} {parts : List (DataW H)} (h : Wt t (.agg parts)) (ht : Try.prog.underlying t = some (.struct fs)) {j : Nat} {f : Field} {d : DataW H} (hf : fs[j]? = some f) (hd : parts[j]? = some d) : Wt f.type d := by
  intro n hn
  refine h n ?_
  simp only [DataW.weights, ht]
  exact DataW.weights_mem_each (j := j) (by rw [List.getElem?_map, Array.getElem?_toList, hf]; rfl) hd n hn
set_option maxRecDepth 100000 in
theorem open24 (n : Nat) (cs : List Value) (x : DataW H × List MemPlace) (h : DataW.trod enc Try.prog W 0 (fun _ => true) true n 24 cs = some x) (hw : Wt 24 x.1) :
    ∃ s v k se rq A len c, ∃ l : List S40, cs = [.int .i64 s, .int .i64 v, .int .i64 k, .int .i64 se, .int .i64 rq, .slice A len c] ∧ l.length = len ∧ len ≤ c ∧ Kd.C k40 W A len l ∧ len ≤ 2513169434843 := by
  obtain ⟨xs, m, _, rfl, hl, hxl, hf⟩ := DataW.trod_struct Try.underlying24 h
  rw [c24] at hl
  match cs, hl, xs, hxl with
  | [v0, v1, v2, v3, v4, v5], _, [x0, x1, x2, x3, x4, x5], _ =>
    have e0 : DataW.trod enc Try.prog W 0 (fun _ => true) true m 3 [v0] = some x0 := by simpa [c3] using hf 0 _ rfl
    have e1 : DataW.trod enc Try.prog W 0 (fun _ => true) true m 3 [v1] = some x1 := by simpa [c3] using hf 1 _ rfl
    have e2 : DataW.trod enc Try.prog W 0 (fun _ => true) true m 3 [v2] = some x2 := by simpa [c3] using hf 2 _ rfl
    have e3 : DataW.trod enc Try.prog W 0 (fun _ => true) true m 3 [v3] = some x3 := by simpa [c3] using hf 3 _ rfl
    have e4 : DataW.trod enc Try.prog W 0 (fun _ => true) true m 3 [v4] = some x4 := by simpa [c3] using hf 4 _ rfl
    have e5 : DataW.trod enc Try.prog W 0 (fun _ => true) true m 22 [v5] = some x5 := by simpa [c22] using hf 5 _ rfl
    have hw5 : Wt 22 x5.1 := Wt.agg (j := 5) hw Try.underlying24 rfl rfl
    obtain ⟨a0, h0, _⟩ := DataW.trod_int Try.underlying3 e0
    obtain ⟨a1, h1, _⟩ := DataW.trod_int Try.underlying3 e1
    obtain ⟨a2, h2, _⟩ := DataW.trod_int Try.underlying3 e2
    obtain ⟨a3, h3, _⟩ := DataW.trod_int Try.underlying3 e3
    obtain ⟨a4, h4, _⟩ := DataW.trod_int Try.underlying3 e4
    obtain ⟨A, c, len, l, h5, hll, hlc, hC, _, hb⟩ := row_of (d := k40) Try.underlying22 c40 (fun _ => True) (fun n cs x h _ => by obtain ⟨y, hy⟩ := open40 n cs x h; exact ⟨y, hy, trivial⟩) e5 hw5
    rw [bytes40] at hb
    injection h0 with h0 _
    injection h1 with h1 _
    injection h2 with h2 _
    injection h3 with h3 _
    injection h4 with h4 _
    injection h5 with h5 _
    rw [h0, h1, h2, h3, h4, h5]
    have : reachBytes = 140737488351232 := rfl
    exact ⟨a0, a1, a2, a3, a4, A, len, c, l, rfl, hll, hlc, hC, by omega⟩
set_option maxRecDepth 100000 in
theorem open26 (n : Nat) (cs : List Value) (x : DataW H × List MemPlace) (h : DataW.trod enc Try.prog W 0 (fun _ => true) true n 26 cs = some x) : ∃ a b c, cs = [.int .i64 a, .int .i64 b, .int .i64 c] := by
  obtain ⟨xs, m, _, rfl, hl, hxl, hf⟩ := DataW.trod_struct Try.underlying26 h
  rw [c26] at hl
  match cs, hl, xs, hxl with
  | [v0, v1, v2], _, [x0, x1, x2], _ =>
    have e0 : DataW.trod enc Try.prog W 0 (fun _ => true) true m 3 [v0] = some x0 := by simpa [c3] using hf 0 _ rfl
    have e1 : DataW.trod enc Try.prog W 0 (fun _ => true) true m 3 [v1] = some x1 := by simpa [c3] using hf 1 _ rfl
    have e2 : DataW.trod enc Try.prog W 0 (fun _ => true) true m 3 [v2] = some x2 := by simpa [c3] using hf 2 _ rfl
    obtain ⟨a0, h0, _⟩ := DataW.trod_int Try.underlying3 e0
    obtain ⟨a1, h1, _⟩ := DataW.trod_int Try.underlying3 e1
    obtain ⟨a2, h2, _⟩ := DataW.trod_int Try.underlying3 e2
    injection h0 with h0 _
    injection h1 with h1 _
    injection h2 with h2 _
    rw [h0, h1, h2]
    exact ⟨a0, a1, a2, rfl⟩
set_option maxRecDepth 100000 in
/-- WHAT A RECORD READS AS. -/
theorem open28 {n : Nat} {cs : List Value} {x : DataW H × List MemPlace} (h : DataW.trod enc Try.prog W 0 (fun _ => true) true n 28 cs = some x) (hw : Wt 28 x.1) :
    ∃ kd s v k se rq A len c vn vp vb st of, ∃ (y : ByteArray) (l : List S40), cs = [.int .i64 kd, .int .i64 s, .int .i64 v, .int .i64 k, .int .i64 se, .int .i64 rq, .slice A len c, .int .i64 vn, .int .i64 vp, .int .i64 vb, .int .i64 st, .int .i64 of, .string y] ∧ l.length = len ∧ len ≤ c ∧ Kd.C k40 W A len l ∧ len ≤ 2513169434843 := by
  obtain ⟨xs, m, _, rfl, hl, hxl, hf⟩ := DataW.trod_struct Try.underlying28 h
  rw [c28] at hl
  match cs, hl, xs, hxl with
  | [v0, v1, v2, v3, v4, v5, v6, v7, v8, v9, v10, v11, v12], _, [x0, x1, x2, x3, x4, x5], _ =>
    have e0 : DataW.trod enc Try.prog W 0 (fun _ => true) true m 3 [v0] = some x0 := by simpa [c3] using hf 0 _ rfl
    have e1 : DataW.trod enc Try.prog W 0 (fun _ => true) true m 24 [v1, v2, v3, v4, v5, v6] = some x1 := by simpa [c24] using hf 1 _ rfl
    have e2 : DataW.trod enc Try.prog W 0 (fun _ => true) true m 26 [v7, v8, v9] = some x2 := by simpa [c26] using hf 2 _ rfl
    have e3 : DataW.trod enc Try.prog W 0 (fun _ => true) true m 3 [v10] = some x3 := by simpa [c3] using hf 3 _ rfl
    have e4 : DataW.trod enc Try.prog W 0 (fun _ => true) true m 3 [v11] = some x4 := by simpa [c3] using hf 4 _ rfl
    have e5 : DataW.trod enc Try.prog W 0 (fun _ => true) true m 9 [v12] = some x5 := by simpa [c9] using hf 5 _ rfl
    have hw1 : Wt 24 x1.1 := Wt.agg (j := 1) hw Try.underlying28 rfl rfl
    obtain ⟨kd, h0, _⟩ := DataW.trod_int Try.underlying3 e0
    obtain ⟨s, v, k, se, rq, A, len, c, l, h1, hll, hlc, hC, hb⟩ := open24 _ _ _ e1 hw1
    obtain ⟨vn, vp, vb, h2⟩ := open26 _ _ _ e2
    obtain ⟨st, h3, _⟩ := DataW.trod_int Try.underlying3 e3
    obtain ⟨of, h4, _⟩ := DataW.trod_int Try.underlying3 e4
    obtain ⟨y, h5, _⟩ := DataW.trod_string Try.underlying9 e5
    injection h0 with h0 _
    injection h3 with h3 _
    injection h4 with h4 _
    injection h5 with h5 _
    simp only [List.cons.injEq, and_true] at h1 h2
    obtain ⟨rfl, rfl, rfl, rfl, rfl, rfl⟩ := h1
    obtain ⟨rfl, rfl, rfl⟩ := h2
    rw [h0, h3, h4, h5]
    exact ⟨kd, s, v, k, se, rq, A, len, c, vn, vp, vb, st, of, y, l, rfl, hll, hlc, hC, hb⟩
end
end Go.Proofs.Ytdbniihjkiecbaa.PW
