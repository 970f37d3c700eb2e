/- Records alike; a copy. Condition: the store is well. -/
import Derived.Test.YtlklapledogdcaaSN
import Derived.Test.YtlklapledogdcaaSN1
import Derived.Test.YtlklapledogdcaaSG
namespace Go.Proofs.Ytlklapledogdcaa.K
open Go

set_option maxRecDepth 100000 in
set_option maxHeartbeats 1000000 in
theorem Same_c (l1 l2 : List Rc) (hl1 : l1.length ≤ 1000000) : MF Try.prog 17 [.sl (recsA l1), .sl (recsA l2)] [] (fun Hs' res => Hs' = [] ∧ res = tv (sameR l1 l2)) := by
  refine m_enter Try.func17 rfl Try.ntmps17 rfl ?_
  refine m_seq ?_
  refine m_region ?_
  refine ml_val (my_assign (Sm.v _)) rfl rfl rfl ?_
  refine ml_nil ?_
  refine z_seq ?_
  refine m_seq ?_
  refine m_seq ?_
  refine m_region ?_
  refine ml_val (my_move (Sm.sl _)) rfl rfl rfl ?_
  refine ml_val (MY.to (a' := iv .i64 (l1.length : Int)) (my_lenS Try.underlying38 rfl) (by rw [recsA_length])) rfl rfl rfl ?_
  refine ml_val (my_move (Sm.sl _)) rfl rfl rfl ?_
  refine ml_val (MY.to (a' := iv .i64 (l2.length : Int)) (my_lenS Try.underlying38 rfl) (by rw [recsA_length])) rfl rfl rfl ?_
  refine ml_val (my_neq rfl rfl) rfl rfl rfl ?_
  refine ml_nil ?_
  refine z_seq ?_
  refine m_condp rfl (fun hne => ?_) (fun hne => ?_)
  · skip
    refine m_seq ?_
    refine m_region ?_
    refine ml_val (my_assign (Sm.v _)) rfl rfl rfl ?_
    refine ml_nil ?_
    refine z_seq ?_
    refine m_ret ?_
    refine z_seqR ?_
    exact ⟨tv (sameR l1 l2), mres1 rfl (by rw [show sameR l1 l2 = false from sameR_ne (fun h => hne (by rw [h]))]; rfl), rfl, rfl⟩
  · skip
    have hll : l1.length = l2.length := by omega
    refine m_skip ?_
    refine z_seq ?_
    refine m_seq ?_
    refine m_seq ?_
    refine m_region ?_
    refine ml_val (my_assign (Sm.v _)) rfl rfl rfl ?_
    refine ml_nil ?_
    refine z_seq ?_
    refine m_block ?_
    refine m_loop (fun m Hs α => ∃ (i : Nat), Hs = [] ∧ α 0 = .sl (recsA l1) ∧ α 1 = .sl (recsA l2) ∧ α 5 = iv .i64 (i : Int) ∧ i ≤ l1.length ∧ m = l1.length - i ∧ l1.take i = l2.take i) l1.length ⟨0, rfl, rfl, rfl, rfl, by omega, rfl, rfl⟩ ?_
    rintro m Hs α ⟨i, rfl, e0, e1, e5, hi, rfl, hI⟩
    obtain ⟨σ, rfl⟩ : ∃ σ, α = ua (ua (ua σ 0 (.sl (recsA l1))) 1 (.sl (recsA l2))) 5 (iv .i64 (i : Int)) := ⟨α, by rw [ua_self α e0, ua_self α e1, ua_self α e5]⟩
    clear e0 e1 e5
    refine m_seq ?_
    refine m_seq ?_
    refine m_region ?_
    refine ml_val (my_move (Sm.v _)) rfl rfl rfl ?_
    refine ml_val (my_move (Sm.sl _)) rfl rfl rfl ?_
    refine ml_val (MY.to (a' := iv .i64 (l1.length : Int)) (my_lenS Try.underlying38 rfl) (by rw [recsA_length])) rfl rfl rfl ?_
    refine ml_val (my_lss rfl rfl) rfl rfl rfl ?_
    refine ml_nil ?_
    refine z_seq ?_
    refine m_condp rfl (fun hlt => ?_) (fun hlt => ?_)
    · skip
      obtain ⟨x, hx⟩ : ∃ x, l1[i]? = some x := ⟨l1[i], List.getElem?_eq_getElem (by omega)⟩
      obtain ⟨y, hy⟩ : ∃ y, l2[i]? = some y := ⟨l2[i], List.getElem?_eq_getElem (by omega)⟩
      have hxy : x ≠ y → l1 ≠ l2 := fun h e => h (by rw [e, hy] at hx; cases hx; rfl)
      refine m_skip ?_
      refine z_seq ?_
      refine m_seq ?_
      refine m_block ?_
      refine m_seq ?_
      refine m_regionD (fun i => List.contains [] i) [] [(0, true), (1, true), (2, true), (3, true), (4, true), (5, true), (6, true), (7, true), (8, true), (9, true), (10, true), (11, true), (12, true), (13, true), (14, true), (15, true), (16, true), (17, true), (18, true), (19, true), (20, true), (21, true), (22, true), (23, true), (24, true), (25, true), (26, true), (27, true), (28, true), (29, true), (30, true), (31, true), (32, true), (33, true), (34, true), (35, true), (36, true), (37, true), (38, true)] mixed (by kernel_rfl) ?_
      refine mr_val rfl (my_move (Sm.sl _)) rfl rfl rfl ?_
      refine mr_val rfl (my_move (Sm.v _)) rfl rfl rfl ?_
      refine mr_val rfl (my_indexS Try.underlying38 I41 S41 rfl rfl (by omega) (recsA_get hx) rfl) rfl rfl rfl ?_
      refine mr_val rfl (my_fieldF Try.underlying41 rfl I9 S9 rfl rfl rfl rfl) rfl rfl rfl ?_
      refine mr_val rfl (my_loadF Try.underlying9 rfl rfl (fun h => absurd (show false = true from h) Bool.false_ne_true) rfl) rfl rfl rfl ?_
      refine mr_val rfl (my_move (Sm.sl _)) rfl rfl rfl ?_
      refine mr_val rfl (my_move (Sm.v _)) rfl rfl rfl ?_
      refine mr_val rfl (my_indexS Try.underlying38 I41 S41 rfl rfl (by omega) (recsA_get hy) rfl) rfl rfl rfl ?_
      refine mr_val rfl (my_fieldF Try.underlying41 rfl I9 S9 rfl rfl rfl rfl) rfl rfl rfl ?_
      refine mr_val rfl (my_loadF Try.underlying9 rfl rfl (fun h => absurd (show false = true from h) Bool.false_ne_true) rfl) rfl rfl rfl ?_
      by_cases h1 : x.key = y.key
      · skip
        refine mr_val rfl (MY.to (a' := tv false) (my_sneq rfl rfl) (congrArg tv (decide_eq_false (fun h => h h1)))) rfl rfl rfl ?_
        refine mr_val rfl (my_move (Sm.v _)) rfl rfl rfl ?_
        first | refine mr_skipG rfl rfl rfl rfl rfl rfl rfl ?_ | refine mr_valG rfl (my_move (Sm.sl _)) rfl rfl rfl rfl rfl ?_
        first | refine mr_skipG rfl rfl rfl rfl rfl rfl rfl ?_ | refine mr_valG rfl (my_move (Sm.v _)) rfl rfl rfl rfl rfl ?_
        first | refine mr_skipG rfl rfl rfl rfl rfl rfl rfl ?_ | refine mr_valG rfl (my_indexS Try.underlying38 I41 S41 rfl rfl (by omega) (recsA_get hx) rfl) rfl rfl rfl rfl rfl ?_
        first | refine mr_skipG rfl rfl rfl rfl rfl rfl rfl ?_ | refine mr_valG rfl (my_fieldF Try.underlying41 rfl I3 S3 rfl rfl rfl rfl) rfl rfl rfl rfl rfl ?_
        first | refine mr_skipG rfl rfl rfl rfl rfl rfl rfl ?_ | refine mr_valG rfl (my_loadF Try.underlying3 rfl rfl (fun h => absurd (show false = true from h) Bool.false_ne_true) rfl) rfl rfl rfl rfl rfl ?_
        first | refine mr_skipG rfl rfl rfl rfl rfl rfl rfl ?_ | refine mr_valG rfl (my_move (Sm.sl _)) rfl rfl rfl rfl rfl ?_
        first | refine mr_skipG rfl rfl rfl rfl rfl rfl rfl ?_ | refine mr_valG rfl (my_move (Sm.v _)) rfl rfl rfl rfl rfl ?_
        first | refine mr_skipG rfl rfl rfl rfl rfl rfl rfl ?_ | refine mr_valG rfl (my_indexS Try.underlying38 I41 S41 rfl rfl (by omega) (recsA_get hy) rfl) rfl rfl rfl rfl rfl ?_
        first | refine mr_skipG rfl rfl rfl rfl rfl rfl rfl ?_ | refine mr_valG rfl (my_fieldF Try.underlying41 rfl I3 S3 rfl rfl rfl rfl) rfl rfl rfl rfl rfl ?_
        first | refine mr_skipG rfl rfl rfl rfl rfl rfl rfl ?_ | refine mr_valG rfl (my_loadF Try.underlying3 rfl rfl (fun h => absurd (show false = true from h) Bool.false_ne_true) rfl) rfl rfl rfl rfl rfl ?_
        by_cases h2 : x.ver = y.ver
        · skip
          first | refine mr_skipG rfl rfl rfl rfl rfl rfl rfl ?_ | refine mr_valG rfl (MY.to (a' := tv false) (my_neq rfl rfl) (congrArg tv (decide_eq_false (fun h => h h2)))) rfl rfl rfl rfl rfl ?_
          refine mr_val rfl (by first | exact my_pickT rfl (Sm.v _) | exact my_pickF rfl (Sm.v _)) rfl rfl rfl ?_
          refine mr_val rfl (my_move (Sm.v _)) rfl rfl rfl ?_
          first | refine mr_skipG rfl rfl rfl rfl rfl rfl rfl ?_ | refine mr_valG rfl (my_move (Sm.sl _)) rfl rfl rfl rfl rfl ?_
          first | refine mr_skipG rfl rfl rfl rfl rfl rfl rfl ?_ | refine mr_valG rfl (my_move (Sm.v _)) rfl rfl rfl rfl rfl ?_
          first | refine mr_skipG rfl rfl rfl rfl rfl rfl rfl ?_ | refine mr_valG rfl (my_indexS Try.underlying38 I41 S41 rfl rfl (by omega) (recsA_get hx) rfl) rfl rfl rfl rfl rfl ?_
          first | refine mr_skipG rfl rfl rfl rfl rfl rfl rfl ?_ | refine mr_valG rfl (my_fieldF Try.underlying41 rfl I28 S28 rfl rfl rfl rfl) rfl rfl rfl rfl rfl ?_
          first | refine mr_skipG rfl rfl rfl rfl rfl rfl rfl ?_ | refine mr_valG rfl (my_loadF Try.underlying28 rfl rfl (fun h => absurd (show false = true from h) Bool.false_ne_true) rfl) rfl rfl rfl rfl rfl ?_
          first | refine mr_skipG rfl rfl rfl rfl rfl rfl rfl ?_ | refine mr_valG rfl (my_b2s (l := x.val) Try.underlying28 Try.underlying5 Try.underlying9 rfl) rfl rfl rfl rfl rfl ?_
          first | refine mr_skipG rfl rfl rfl rfl rfl rfl rfl ?_ | refine mr_valG rfl (my_move (Sm.sl _)) rfl rfl rfl rfl rfl ?_
          first | refine mr_skipG rfl rfl rfl rfl rfl rfl rfl ?_ | refine mr_valG rfl (my_move (Sm.v _)) rfl rfl rfl rfl rfl ?_
          first | refine mr_skipG rfl rfl rfl rfl rfl rfl rfl ?_ | refine mr_valG rfl (my_indexS Try.underlying38 I41 S41 rfl rfl (by omega) (recsA_get hy) rfl) rfl rfl rfl rfl rfl ?_
          first | refine mr_skipG rfl rfl rfl rfl rfl rfl rfl ?_ | refine mr_valG rfl (my_fieldF Try.underlying41 rfl I28 S28 rfl rfl rfl rfl) rfl rfl rfl rfl rfl ?_
          first | refine mr_skipG rfl rfl rfl rfl rfl rfl rfl ?_ | refine mr_valG rfl (my_loadF Try.underlying28 rfl rfl (fun h => absurd (show false = true from h) Bool.false_ne_true) rfl) rfl rfl rfl rfl rfl ?_
          first | refine mr_skipG rfl rfl rfl rfl rfl rfl rfl ?_ | refine mr_valG rfl (my_b2s (l := y.val) Try.underlying28 Try.underlying5 Try.underlying9 rfl) rfl rfl rfl rfl rfl ?_
          by_cases h3 : x.val = y.val
          · skip
            first | refine mr_skipG rfl rfl rfl rfl rfl rfl rfl ?_ | refine mr_valG rfl (MY.to (a' := tv false) (my_sneq rfl rfl) (congrArg tv (decide_eq_false (fun h => h (by rw [h3]))))) rfl rfl rfl rfl rfl ?_
            refine mr_val rfl (by first | exact my_pickT rfl (Sm.v _) | exact my_pickF rfl (Sm.v _)) rfl rfl rfl ?_
            refine mr_nil ?_
            refine z_seq ?_
            refine m_condF rfl ?_
            refine m_skip ?_
            refine z_blk ?_
            refine z_seq ?_
            refine m_region ?_
            refine ml_val (my_move (Sm.v _)) rfl rfl rfl ?_
            refine ml_val (my_add64 rfl rfl (by omega)) rfl rfl rfl ?_
            refine ml_val (my_assign (Sm.v _)) rfl rfl rfl ?_
            refine ml_nil ?_
            refine z_lpN (l1.length - (i + 1)) (by omega) ⟨i + 1, rfl, rfl, rfl, rfl, by omega, rfl, ?_⟩
            rw [take_snoc hx, take_snoc hy, hI]
            cases x; cases y; simp_all
          · skip
            first | refine mr_skipG rfl rfl rfl rfl rfl rfl rfl ?_ | refine mr_valG rfl (MY.to (a' := tv true) (my_sneq rfl rfl) (congrArg tv (decide_eq_true (fun h => h3 (by simpa using h))))) rfl rfl rfl rfl rfl ?_
            refine mr_val rfl (by first | exact my_pickT rfl (Sm.v _) | exact my_pickF rfl (Sm.v _)) rfl rfl rfl ?_
            refine mr_nil ?_
            refine z_seq ?_
            refine m_condT rfl ?_
            refine m_seq ?_
            refine m_region ?_
            refine ml_val (my_assign (Sm.v _)) rfl rfl rfl ?_
            refine ml_nil ?_
            refine z_seq ?_
            refine m_ret ?_
            refine z_blkR ?_
            refine z_seqR ?_
            refine z_lpR ?_
            refine z_blkR ?_
            refine z_seqR ?_
            exact ⟨tv (sameR l1 l2), mres1 rfl (by rw [show sameR l1 l2 = false from sameR_ne (fun h => hxy (fun e => h3 (by rw [e])) h)]; rfl), rfl, rfl⟩
        · skip
          first | refine mr_skipG rfl rfl rfl rfl rfl rfl rfl ?_ | refine mr_valG rfl (MY.to (a' := tv true) (my_neq rfl rfl) (congrArg tv (decide_eq_true h2))) rfl rfl rfl rfl rfl ?_
          refine mr_val rfl (by first | exact my_pickT rfl (Sm.v _) | exact my_pickF rfl (Sm.v _)) rfl rfl rfl ?_
          refine mr_val rfl (my_move (Sm.v _)) rfl rfl rfl ?_
          first | refine mr_skipG rfl rfl rfl rfl rfl rfl rfl ?_ | refine mr_valG rfl (my_move (Sm.sl _)) rfl rfl rfl rfl rfl ?_
          first | refine mr_skipG rfl rfl rfl rfl rfl rfl rfl ?_ | refine mr_valG rfl (my_move (Sm.v _)) rfl rfl rfl rfl rfl ?_
          first | refine mr_skipG rfl rfl rfl rfl rfl rfl rfl ?_ | refine mr_valG rfl (my_indexS Try.underlying38 I41 S41 rfl rfl (by omega) (recsA_get hx) rfl) rfl rfl rfl rfl rfl ?_
          first | refine mr_skipG rfl rfl rfl rfl rfl rfl rfl ?_ | refine mr_valG rfl (my_fieldF Try.underlying41 rfl I28 S28 rfl rfl rfl rfl) rfl rfl rfl rfl rfl ?_
          first | refine mr_skipG rfl rfl rfl rfl rfl rfl rfl ?_ | refine mr_valG rfl (my_loadF Try.underlying28 rfl rfl (fun h => absurd (show false = true from h) Bool.false_ne_true) rfl) rfl rfl rfl rfl rfl ?_
          first | refine mr_skipG rfl rfl rfl rfl rfl rfl rfl ?_ | refine mr_valG rfl (my_b2s (l := x.val) Try.underlying28 Try.underlying5 Try.underlying9 rfl) rfl rfl rfl rfl rfl ?_
          first | refine mr_skipG rfl rfl rfl rfl rfl rfl rfl ?_ | refine mr_valG rfl (my_move (Sm.sl _)) rfl rfl rfl rfl rfl ?_
          first | refine mr_skipG rfl rfl rfl rfl rfl rfl rfl ?_ | refine mr_valG rfl (my_move (Sm.v _)) rfl rfl rfl rfl rfl ?_
          first | refine mr_skipG rfl rfl rfl rfl rfl rfl rfl ?_ | refine mr_valG rfl (my_indexS Try.underlying38 I41 S41 rfl rfl (by omega) (recsA_get hy) rfl) rfl rfl rfl rfl rfl ?_
          first | refine mr_skipG rfl rfl rfl rfl rfl rfl rfl ?_ | refine mr_valG rfl (my_fieldF Try.underlying41 rfl I28 S28 rfl rfl rfl rfl) rfl rfl rfl rfl rfl ?_
          first | refine mr_skipG rfl rfl rfl rfl rfl rfl rfl ?_ | refine mr_valG rfl (my_loadF Try.underlying28 rfl rfl (fun h => absurd (show false = true from h) Bool.false_ne_true) rfl) rfl rfl rfl rfl rfl ?_
          first | refine mr_skipG rfl rfl rfl rfl rfl rfl rfl ?_ | refine mr_valG rfl (my_b2s (l := y.val) Try.underlying28 Try.underlying5 Try.underlying9 rfl) rfl rfl rfl rfl rfl ?_
          first | refine mr_skipG rfl rfl rfl rfl rfl rfl rfl ?_ | refine mr_valG rfl (my_sneq rfl rfl) rfl rfl rfl rfl rfl ?_
          refine mr_val rfl (by first | exact my_pickT rfl (Sm.v _) | exact my_pickF rfl (Sm.v _)) rfl rfl rfl ?_
          refine mr_nil ?_
          refine z_seq ?_
          refine m_condT rfl ?_
          refine m_seq ?_
          refine m_region ?_
          refine ml_val (my_assign (Sm.v _)) rfl rfl rfl ?_
          refine ml_nil ?_
          refine z_seq ?_
          refine m_ret ?_
          refine z_blkR ?_
          refine z_seqR ?_
          refine z_lpR ?_
          refine z_blkR ?_
          refine z_seqR ?_
          exact ⟨tv (sameR l1 l2), mres1 rfl (by rw [show sameR l1 l2 = false from sameR_ne (fun h => hxy (fun e => h2 (by rw [e])) h)]; rfl), rfl, rfl⟩
      · skip
        refine mr_val rfl (MY.to (a' := tv true) (my_sneq rfl rfl) (congrArg tv (decide_eq_true h1))) rfl rfl rfl ?_
        refine mr_val rfl (my_move (Sm.v _)) rfl rfl rfl ?_
        first | refine mr_skipG rfl rfl rfl rfl rfl rfl rfl ?_ | refine mr_valG rfl (my_move (Sm.sl _)) rfl rfl rfl rfl rfl ?_
        first | refine mr_skipG rfl rfl rfl rfl rfl rfl rfl ?_ | refine mr_valG rfl (my_move (Sm.v _)) rfl rfl rfl rfl rfl ?_
        first | refine mr_skipG rfl rfl rfl rfl rfl rfl rfl ?_ | refine mr_valG rfl (my_indexS Try.underlying38 I41 S41 rfl rfl (by omega) (recsA_get hx) rfl) rfl rfl rfl rfl rfl ?_
        first | refine mr_skipG rfl rfl rfl rfl rfl rfl rfl ?_ | refine mr_valG rfl (my_fieldF Try.underlying41 rfl I3 S3 rfl rfl rfl rfl) rfl rfl rfl rfl rfl ?_
        first | refine mr_skipG rfl rfl rfl rfl rfl rfl rfl ?_ | refine mr_valG rfl (my_loadF Try.underlying3 rfl rfl (fun h => absurd (show false = true from h) Bool.false_ne_true) rfl) rfl rfl rfl rfl rfl ?_
        first | refine mr_skipG rfl rfl rfl rfl rfl rfl rfl ?_ | refine mr_valG rfl (my_move (Sm.sl _)) rfl rfl rfl rfl rfl ?_
        first | refine mr_skipG rfl rfl rfl rfl rfl rfl rfl ?_ | refine mr_valG rfl (my_move (Sm.v _)) rfl rfl rfl rfl rfl ?_
        first | refine mr_skipG rfl rfl rfl rfl rfl rfl rfl ?_ | refine mr_valG rfl (my_indexS Try.underlying38 I41 S41 rfl rfl (by omega) (recsA_get hy) rfl) rfl rfl rfl rfl rfl ?_
        first | refine mr_skipG rfl rfl rfl rfl rfl rfl rfl ?_ | refine mr_valG rfl (my_fieldF Try.underlying41 rfl I3 S3 rfl rfl rfl rfl) rfl rfl rfl rfl rfl ?_
        first | refine mr_skipG rfl rfl rfl rfl rfl rfl rfl ?_ | refine mr_valG rfl (my_loadF Try.underlying3 rfl rfl (fun h => absurd (show false = true from h) Bool.false_ne_true) rfl) rfl rfl rfl rfl rfl ?_
        first | refine mr_skipG rfl rfl rfl rfl rfl rfl rfl ?_ | refine mr_valG rfl (my_neq rfl rfl) rfl rfl rfl rfl rfl ?_
        refine mr_val rfl (by first | exact my_pickT rfl (Sm.v _) | exact my_pickF rfl (Sm.v _)) rfl rfl rfl ?_
        refine mr_val rfl (my_move (Sm.v _)) rfl rfl rfl ?_
        first | refine mr_skipG rfl rfl rfl rfl rfl rfl rfl ?_ | refine mr_valG rfl (my_move (Sm.sl _)) rfl rfl rfl rfl rfl ?_
        first | refine mr_skipG rfl rfl rfl rfl rfl rfl rfl ?_ | refine mr_valG rfl (my_move (Sm.v _)) rfl rfl rfl rfl rfl ?_
        first | refine mr_skipG rfl rfl rfl rfl rfl rfl rfl ?_ | refine mr_valG rfl (my_indexS Try.underlying38 I41 S41 rfl rfl (by omega) (recsA_get hx) rfl) rfl rfl rfl rfl rfl ?_
        first | refine mr_skipG rfl rfl rfl rfl rfl rfl rfl ?_ | refine mr_valG rfl (my_fieldF Try.underlying41 rfl I28 S28 rfl rfl rfl rfl) rfl rfl rfl rfl rfl ?_
        first | refine mr_skipG rfl rfl rfl rfl rfl rfl rfl ?_ | refine mr_valG rfl (my_loadF Try.underlying28 rfl rfl (fun h => absurd (show false = true from h) Bool.false_ne_true) rfl) rfl rfl rfl rfl rfl ?_
        first | refine mr_skipG rfl rfl rfl rfl rfl rfl rfl ?_ | refine mr_valG rfl (my_b2s (l := x.val) Try.underlying28 Try.underlying5 Try.underlying9 rfl) rfl rfl rfl rfl rfl ?_
        first | refine mr_skipG rfl rfl rfl rfl rfl rfl rfl ?_ | refine mr_valG rfl (my_move (Sm.sl _)) rfl rfl rfl rfl rfl ?_
        first | refine mr_skipG rfl rfl rfl rfl rfl rfl rfl ?_ | refine mr_valG rfl (my_move (Sm.v _)) rfl rfl rfl rfl rfl ?_
        first | refine mr_skipG rfl rfl rfl rfl rfl rfl rfl ?_ | refine mr_valG rfl (my_indexS Try.underlying38 I41 S41 rfl rfl (by omega) (recsA_get hy) rfl) rfl rfl rfl rfl rfl ?_
        first | refine mr_skipG rfl rfl rfl rfl rfl rfl rfl ?_ | refine mr_valG rfl (my_fieldF Try.underlying41 rfl I28 S28 rfl rfl rfl rfl) rfl rfl rfl rfl rfl ?_
        first | refine mr_skipG rfl rfl rfl rfl rfl rfl rfl ?_ | refine mr_valG rfl (my_loadF Try.underlying28 rfl rfl (fun h => absurd (show false = true from h) Bool.false_ne_true) rfl) rfl rfl rfl rfl rfl ?_
        first | refine mr_skipG rfl rfl rfl rfl rfl rfl rfl ?_ | refine mr_valG rfl (my_b2s (l := y.val) Try.underlying28 Try.underlying5 Try.underlying9 rfl) rfl rfl rfl rfl rfl ?_
        first | refine mr_skipG rfl rfl rfl rfl rfl rfl rfl ?_ | refine mr_valG rfl (my_sneq rfl rfl) rfl rfl rfl rfl rfl ?_
        refine mr_val rfl (by first | exact my_pickT rfl (Sm.v _) | exact my_pickF rfl (Sm.v _)) rfl rfl rfl ?_
        refine mr_nil ?_
        refine z_seq ?_
        refine m_condT rfl ?_
        refine m_seq ?_
        refine m_region ?_
        refine ml_val (my_assign (Sm.v _)) rfl rfl rfl ?_
        refine ml_nil ?_
        refine z_seq ?_
        refine m_ret ?_
        refine z_blkR ?_
        refine z_seqR ?_
        refine z_lpR ?_
        refine z_blkR ?_
        refine z_seqR ?_
        exact ⟨tv (sameR l1 l2), mres1 rfl (by rw [show sameR l1 l2 = false from sameR_ne (fun h => hxy (fun e => h1 (by rw [e])) h)]; rfl), rfl, rfl⟩
    · skip
      have hie : i = l1.length := by omega
      have hee : l1 = l2 := by rw [hie, List.take_length, hll, List.take_length] at hI; exact hI
      refine m_exit ?_
      refine z_seqX ?_
      refine z_lpX ?_
      refine z_blkX ?_
      refine z_seq ?_
      refine m_seq ?_
      refine m_region ?_
      refine ml_val (my_assign (Sm.v _)) rfl rfl rfl ?_
      refine ml_nil ?_
      refine z_seq ?_
      refine m_ret ?_
      exact ⟨tv (sameR l1 l2), mres1 rfl (by rw [hee, sameR_self]; rfl), rfl, rfl⟩

set_option maxRecDepth 100000 in
set_option maxHeartbeats 1000000 in
theorem Copy_c (p r : Nat) (s : St) (hw : SW s) (hv : ∀ x ∈ s.recs, x.val.length ≤ 100000000) : MF Try.prog 24 [.ptr p [] 0] (SH p r s) (fun Hs' res => ∃ p2 r2, Hs' = SH p r s ++ SH p2 r2 s ∧ res = .ptr p2 [] 0) := by
  refine m_enter Try.func24 rfl Try.ntmps24 rfl ?_
  unfold SH
  refine m_seq ?_
  refine m_region ?_
  refine ml_val (my_assign (by first | exact Sm.ptr _ _ _ | exact Sm.v _ | exact Sm.fp _)) rfl rfl rfl ?_
  refine ml_nil ?_
  refine z_seq ?_
  refine m_seq ?_
  refine m_region ?_
  refine ml_val (my_move (Sm.ptr _ _ _)) rfl rfl rfl ?_
  refine ml_val (my_nil rfl) rfl rfl rfl ?_
  refine ml_val (my_load Try.underlying58 rfl (q := 0) rfl rfl rfl rfl rfl (fun _ => ⟨_, I58, S58⟩) rfl rfl) rfl rfl rfl ?_
  refine ml_ow rfl (mo_alloc (W := []) I58 Z58 RZ58 rfl (fun k1 => ?_))
  refine ml_ow rfl (mo_store I58 S58 rfl rfl rfl (q := 2) rfl rfl rfl rfl rfl ?_)
  refine ml_nil ?_
  refine z_seq ?_
  refine m_seq ?_
  refine m_region ?_
  refine ml_val (my_move (Sm.ptr _ _ _)) rfl rfl rfl ?_
  refine ml_ow rfl (mo_call [0, 1] fn16 rfl rfl (Scan_c p r s hw hv eS) rfl rfl (fun Hs' a hp => ?_))
  obtain ⟨q, rfl, rfl⟩ := hp
  refine ml_norm [3, 4, 2, 5] [⟨_, _⟩, ⟨_, _⟩, ⟨_, _⟩, ⟨_, _⟩] (by decide) rfl ?_
  refine ml_val (my_field Try.underlying58 rfl I38 S38 rfl rfl rfl) rfl rfl rfl ?_
  refine ml_ow rfl (mo_store I38 S38 rfl rfl rfl (q := 2) rfl rfl rfl rfl rfl ?_)
  refine ml_nil ?_
  refine z_seq ?_
  refine m_seq ?_
  refine m_region ?_
  refine ml_val (my_assign (Sm.ptr _ _ _)) rfl rfl rfl ?_
  refine ml_nil ?_
  refine z_seq ?_
  refine m_ret ?_
  exact ⟨.ptr k1 [] 0, mres1 rfl rfl, k1, q, by rw [scan_all hw.srt]; rfl, rfl⟩

theorem ScanA_c (p r : Nat) (s : St) (hw : SW s) (hv : ∀ x ∈ s.recs, x.val.length ≤ 100000000) : MF Try.prog 16 [.ptr p [] 0, sv eS] (SH p r s) (fun Hs' res => ∃ q, Hs' = SH p r s ++ [⟨q, .row 41 3 (recsA s.recs)⟩] ∧ res = .osl q) :=
  mf_post (Scan_c p r s hw hv eS) fun _ _ ⟨q, h1, h2⟩ => ⟨q, by rw [h1, scan_all hw.srt], h2⟩

end Go.Proofs.Ytlklapledogdcaa.K
