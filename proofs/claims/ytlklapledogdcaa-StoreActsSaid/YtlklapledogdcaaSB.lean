/- Texts are held against each other; a key is searched. Condition: the records stand in order. -/
import Derived.Test.YtlklapledogdcaaSA
namespace Go.Proofs.Ytlklapledogdcaa.K
open Go

set_option maxRecDepth 100000 in
set_option maxHeartbeats 1000000 in
theorem isNaN_c (a : ByteArray) : MF Try.prog 41 [sv a] [] (fun Hs' res => Hs' = [] ∧ res = tv false) := by
  refine m_enter Try.func41 rfl Try.ntmps41 rfl ?_
  refine m_seq ?_
  refine m_region ?_
  refine ml_val (my_assign (Sm.v _)) rfl rfl rfl ?_
  refine ml_nil ?_
  refine z_seq ?_
  refine m_seq ?_
  refine m_region ?_
  refine ml_val (my_move (Sm.v _)) rfl rfl rfl ?_
  refine ml_val (my_move (Sm.v _)) rfl rfl rfl ?_
  refine ml_val (MY.to (a' := tv false) (my_sneq rfl rfl) (by simp)) rfl rfl rfl ?_
  refine ml_val (my_assign (Sm.v _)) rfl rfl rfl ?_
  refine ml_nil ?_
  refine z_seq ?_
  refine m_ret ?_
  exact ⟨tv false, mres1 rfl rfl, rfl, rfl⟩

set_option maxRecDepth 100000 in
set_option maxHeartbeats 1000000 in
theorem Compare_c (a b : ByteArray) : MF Try.prog 36 [sv a, sv b] [] (fun Hs' res => Hs' = [] ∧ res = iv .i64 (cmpS a b)) := by
  refine m_enter Try.func36 rfl Try.ntmps36 rfl ?_
  refine m_seq ?_
  refine m_region ?_
  refine ml_val (my_assign (Sm.v _)) rfl rfl rfl ?_
  refine ml_nil ?_
  refine z_seq ?_
  refine m_seq ?_
  refine m_region ?_
  refine ml_val (my_move (Sm.v _)) rfl rfl rfl ?_
  refine ml_ow rfl (mo_call [] fn41 rfl rfl (isNaN_c a) rfl rfl (fun Hs' a hp => ?_))
  obtain ⟨rfl, rfl⟩ := hp
  refine ml_norm [] [] (by decide) rfl ?_
  refine ml_val (my_assign (Sm.v _)) rfl rfl rfl ?_
  refine ml_nil ?_
  refine z_seq ?_
  refine m_seq ?_
  refine m_region ?_
  refine ml_val (my_move (Sm.v _)) rfl rfl rfl ?_
  refine ml_ow rfl (mo_call [] fn41 rfl rfl (isNaN_c b) rfl rfl (fun Hs' a hp => ?_))
  obtain ⟨rfl, rfl⟩ := hp
  refine ml_norm [] [] (by decide) rfl ?_
  refine ml_val (my_assign (Sm.v _)) rfl rfl rfl ?_
  refine ml_nil ?_
  refine z_seq ?_
  refine m_seq ?_
  refine m_seq ?_
  refine m_region ?_
  refine ml_val (my_move (Sm.v _)) rfl rfl rfl ?_
  refine ml_nil ?_
  refine z_seq ?_
  refine m_condF rfl ?_
  refine m_skip ?_
  refine z_seq ?_
  refine m_seq ?_
  refine m_seq ?_
  refine m_region ?_
  refine ml_val (my_move (Sm.v _)) rfl rfl rfl ?_
  refine ml_nil ?_
  refine z_seq ?_
  refine m_condF rfl ?_
  refine m_skip ?_
  refine z_seq ?_
  refine m_seq ?_
  refine m_seq ?_
  refine m_region ?_
  refine ml_val (my_move (Sm.v _)) rfl rfl rfl ?_
  refine ml_val (my_move (Sm.v _)) rfl rfl rfl ?_
  refine ml_val (my_slss rfl rfl) rfl rfl rfl ?_
  refine ml_nil ?_
  refine z_seq ?_
  refine m_cond rfl (fun h1 => ?_) (fun h1 => ?_)
  · skip
    refine m_seq ?_
    refine m_region ?_
    refine ml_val (my_assign (Sm.v _)) rfl rfl rfl ?_
    refine ml_nil ?_
    refine z_seq ?_
    refine m_ret ?_
    refine z_seqR ?_
    exact ⟨iv .i64 (-1), mres1 rfl rfl, rfl, by simp [cmpS, h1]⟩
  · skip
    refine m_skip ?_
    refine z_seq ?_
    refine m_seq ?_
    refine m_seq ?_
    refine m_region ?_
    refine ml_val (my_move (Sm.v _)) rfl rfl rfl ?_
    refine ml_val (my_move (Sm.v _)) rfl rfl rfl ?_
    refine ml_val (my_sgtr rfl rfl) rfl rfl rfl ?_
    refine ml_nil ?_
    refine z_seq ?_
    refine m_cond rfl (fun h2 => ?_) (fun h2 => ?_)
    · skip
      refine m_seq ?_
      refine m_region ?_
      refine ml_val (my_assign (Sm.v _)) rfl rfl rfl ?_
      refine ml_nil ?_
      refine z_seq ?_
      refine m_ret ?_
      refine z_seqR ?_
      exact ⟨iv .i64 1, mres1 rfl rfl, rfl, by simp [cmpS, h1] at h2 ⊢; simp [h2]⟩
    · skip
      refine m_skip ?_
      refine z_seq ?_
      refine m_seq ?_
      refine m_region ?_
      refine ml_val (my_assign (Sm.v _)) rfl rfl rfl ?_
      refine ml_nil ?_
      refine z_seq ?_
      refine m_ret ?_
      exact ⟨iv .i64 0, mres1 rfl rfl, rfl, by simp [cmpS, h1] at h2 ⊢; simp [h2]⟩

set_option maxRecDepth 100000 in
set_option maxHeartbeats 1000000 in
theorem less_c (x : Rc) (k : ByteArray) : MF Try.prog 35 [recA x, sv k] [] (fun _ res => res = iv .i64 (cmpS x.key k)) := by
  refine m_enter Try.func35 rfl Try.ntmps35 rfl ?_
  refine m_seq ?_
  refine m_region ?_
  refine ml_ow rfl (mo_box (W := []) rfl rfl rfl (fun k1 => ?_))
  refine ml_val (my_assign (Sm.v _)) rfl rfl rfl ?_
  refine ml_nil ?_
  refine z_seq ?_
  refine m_seq ?_
  refine m_region ?_
  refine ml_val (my_field Try.underlying41 rfl I9 S9 rfl rfl rfl) rfl rfl rfl ?_
  refine ml_val (my_load Try.underlying9 rfl (q := 0) rfl rfl rfl rfl rfl (fun h => absurd (show false = true from h) Bool.false_ne_true) rfl rfl) rfl rfl rfl ?_
  refine ml_val (my_move (Sm.v _)) rfl rfl rfl ?_
  refine ml_ow rfl (mo_call [] fn36 rfl rfl (Compare_c _ _) rfl rfl (fun Hs' a hp => ?_))
  obtain ⟨rfl, rfl⟩ := hp
  refine ml_norm [0] [⟨_, _⟩] (by decide) rfl ?_
  refine ml_val (my_assign (Sm.v _)) rfl rfl rfl ?_
  refine ml_nil ?_
  refine z_seq ?_
  refine m_ret ?_
  exact ⟨iv .i64 (cmpS x.key k), mres1 rfl rfl, rfl⟩

set_option maxRecDepth 100000 in
set_option maxHeartbeats 1000000 in
theorem search_c (r : Nat) (l : List Rc) (k : ByteArray) (hs : Srt l) (hl : l.length ≤ 1000000000) : MF Try.prog 34 [.osl r, sv k, .fn (.func 35) [] []] [⟨r, .row 41 3 (recsA l)⟩] (fun Hs' res => Hs' = [⟨r, .row 41 3 (recsA l)⟩] ∧ res = .tup [iv .i64 (lb l k : Int), tv (isK l k)]) := by
  refine m_enter Try.func34 rfl Try.ntmps34 rfl ?_
  refine m_seq ?_
  refine m_region ?_
  refine ml_val (my_assign (Sm.v _)) rfl rfl rfl ?_
  refine ml_val (my_assign (Sm.v _)) rfl rfl rfl ?_
  refine ml_nil ?_
  refine z_seq ?_
  refine m_seq ?_
  refine m_region ?_
  refine ml_val (my_move (Sm.osl _)) rfl rfl rfl ?_
  refine ml_val (MY.to (a' := iv .i64 (l.length : Int)) (my_lenO Try.underlying38 rfl (q := 0) rfl) (by rw [recsA_length])) rfl rfl rfl ?_
  refine ml_val (my_assign (Sm.v _)) rfl rfl rfl ?_
  refine ml_nil ?_
  refine z_seq ?_
  refine m_seq ?_
  refine m_region ?_
  refine ml_val (my_move (Sm.v _)) rfl rfl rfl ?_
  refine ml_val (my_assign (Sm.v _)) rfl rfl rfl ?_
  refine ml_val (my_assign (Sm.v _)) rfl rfl rfl ?_
  refine ml_nil ?_
  refine z_seq ?_
  refine m_seq ?_
  refine m_block ?_
  refine m_loop (fun m Hs α => ∃ (i j : Nat), Hs = [⟨r, .row 41 3 (recsA l)⟩] ∧ α 0 = .osl r ∧ α 1 = sv k ∧ α 2 = .fn (.func 35) [] [] ∧ α 8 = iv .i64 (l.length : Int) ∧ α 9 = iv .i64 (i : Int) ∧ α 10 = iv .i64 (j : Int) ∧ i ≤ j ∧ j ≤ l.length ∧ m = j - i ∧ (∀ q s, q < i → l[q]? = some s → sLt s.key k = true) ∧ (∀ s, l[j]? = some s → sLt s.key k = false)) l.length ⟨0, l.length, rfl, rfl, rfl, rfl, rfl, rfl, rfl, by omega, by omega, by omega, fun q s h => absurd h (by omega), fun s h => by simp at h⟩ ?_
  rintro m Hs α ⟨i, j, rfl, e0, e1, e2, e8, e9, e10, hij, hj, rfl, hlo, hhi⟩
  obtain ⟨σ, rfl⟩ : ∃ σ, α = ua (ua (ua (ua (ua (ua σ 0 (.osl r)) 1 (sv k)) 2 (.fn (.func 35) [] [])) 8 (iv .i64 (l.length : Int))) 9 (iv .i64 (i : Int))) 10 (iv .i64 (j : Int)) := ⟨α, by rw [ua_self α e0, ua_self α e1, ua_self α e2, ua_self α e8, ua_self α e9, ua_self α e10]⟩
  clear e0 e1 e2 e8 e9 e10
  refine m_seq ?_
  refine m_seq ?_
  refine m_region ?_
  refine ml_val (my_move (Sm.v _)) rfl rfl rfl ?_
  refine ml_val (my_move (Sm.v _)) rfl rfl rfl ?_
  refine ml_val (my_lss rfl rfl) rfl rfl rfl ?_
  refine ml_nil ?_
  refine z_seq ?_
  refine m_condp rfl (fun hlt => ?_) (fun hlt => ?_)
  · skip
    obtain ⟨h, hh⟩ : ∃ h, h = (i + j) / 2 := ⟨_, rfl⟩
    have hhi2 : i ≤ h ∧ h < j := by omega
    obtain ⟨x, hx⟩ : ∃ x, l[h]? = some x := ⟨l[h]'(by omega), List.getElem?_eq_getElem (by omega)⟩
    refine m_skip ?_
    refine z_seq ?_
    refine m_block ?_
    refine m_seq ?_
    refine m_region ?_
    refine ml_val (my_move (Sm.v _)) rfl rfl rfl ?_
    refine ml_val (my_move (Sm.v _)) rfl rfl rfl ?_
    refine ml_val (my_add64 rfl rfl (by omega)) rfl rfl rfl ?_
    refine ml_val (my_conv ⟨_, Try.underlying3⟩ Try.underlying78 rfl) rfl rfl rfl ?_
    refine ml_val (my_shr rfl rfl (by omega)) rfl rfl rfl ?_
    refine ml_val (MY.to (a' := iv .i64 (h : Int)) (my_conv ⟨_, Try.underlying78⟩ Try.underlying3 rfl) (congrArg (iv .i64) ((half i j (by omega)).trans (by rw [hh])))) rfl rfl rfl ?_
    refine ml_val (my_assign (Sm.v _)) rfl rfl rfl ?_
    refine ml_nil ?_
    refine z_seq ?_
    refine m_seq ?_
    refine m_region ?_
    refine ml_val (my_move (by first | exact Sm.v _ | exact Sm.fn _ _ _ | exact Sm.tup _ | exact Sm.ptr _ _ _ | exact Sm.sl _ | exact Sm.osl _ | exact Sm.nl | exact Sm.agg _ | exact Sm.arr _ _ _ | exact Sm.fp _ | exact Sm.dead)) rfl rfl rfl ?_
    refine ml_val (my_move (Sm.osl _)) rfl rfl rfl ?_
    refine ml_val (my_move (Sm.v _)) rfl rfl rfl ?_
    refine ml_val (my_indexO Try.underlying38 I41 S41 (q := 0) rfl rfl rfl (by omega) (by rw [recsA_length]; omega) rfl) rfl rfl rfl ?_
    refine ml_val (my_loadR (i := h) (el := recA x) Try.underlying41 rfl (q := 0) rfl (recsA_get (by simpa using hx)) rfl rfl rfl (fun _ => ⟨_, I41, S41⟩) rfl rfl) rfl rfl rfl ?_
    refine ml_val (my_move (Sm.v _)) rfl rfl rfl ?_
    refine ml_ow rfl (mo_call [] fn35 rfl rfl (less_c x k) rfl rfl (fun Hs' a hp => ?_))
    subst hp
    refine ml_norm [0] [⟨_, _⟩] (by decide) rfl ?_
    refine ml_val (MY.to (a' := tv (sLt x.key k)) (my_lss rfl rfl) (congrArg tv (cmpS_lt _ _))) rfl rfl rfl ?_
    refine ml_nil ?_
    refine z_seq ?_
    refine m_cond rfl (fun hc => ?_) (fun hc => ?_)
    · skip
      refine m_region ?_
      refine ml_val (my_move (Sm.v _)) rfl rfl rfl ?_
      refine ml_val (my_add64 rfl rfl (by omega)) rfl rfl rfl ?_
      refine ml_val (my_assign (Sm.v _)) rfl rfl rfl ?_
      refine ml_nil ?_
      refine z_blk ?_
      refine z_lpN (j - (h + 1)) (by omega) ⟨h + 1, j, rfl, rfl, rfl, rfl, rfl, rfl, rfl, by omega, by omega, rfl, fun q s hq hs' => ?_, hhi⟩
      by_cases e : q = h
      · subst e; rw [hx] at hs'; cases hs'; exact hc
      · exact sLt_trans (srt_get hs hs' hx (by omega)) hc
    · skip
      refine m_region ?_
      refine ml_val (my_move (Sm.v _)) rfl rfl rfl ?_
      refine ml_val (my_assign (Sm.v _)) rfl rfl rfl ?_
      refine ml_nil ?_
      refine z_blk ?_
      exact z_lpN (h - i) (by omega) ⟨i, h, rfl, rfl, rfl, rfl, rfl, rfl, rfl, by omega, by omega, rfl, hlo, fun s hs' => by rw [hx] at hs'; cases hs'; exact hc⟩
  · skip
    have hij2 : i = j := by omega
    subst hij2
    have hlb := lb_eq hj hlo hhi
    refine m_exit ?_
    refine z_seqX ?_
    refine z_lpX ?_
    refine z_blkX ?_
    refine z_seq ?_
    refine m_seq ?_
    refine m_region ?_
    refine ml_val (my_move (Sm.v _)) rfl rfl rfl ?_
    refine ml_val (my_move (Sm.v _)) rfl rfl rfl ?_
    refine ml_val (my_move (Sm.v _)) rfl rfl rfl ?_
    by_cases hlt2 : i < l.length
    · skip
      obtain ⟨x, hx⟩ : ∃ x, l[i]? = some x := ⟨l[i], List.getElem?_eq_getElem hlt2⟩
      refine ml_val (MY.to (a' := tv true) (my_lss rfl rfl) (congrArg tv (decide_eq_true (by omega)))) rfl rfl rfl ?_
      refine ml_val (my_move (Sm.v _)) rfl rfl rfl ?_
      first | refine ml_skipG rfl rfl rfl rfl rfl rfl ?_ | refine ml_valG (my_move (by first | exact Sm.v _ | exact Sm.fn _ _ _ | exact Sm.tup _ | exact Sm.ptr _ _ _ | exact Sm.sl _ | exact Sm.osl _ | exact Sm.nl | exact Sm.agg _ | exact Sm.arr _ _ _ | exact Sm.fp _ | exact Sm.dead)) rfl rfl rfl rfl rfl ?_
      first | refine ml_skipG rfl rfl rfl rfl rfl rfl ?_ | refine ml_valG (my_move (Sm.osl _)) rfl rfl rfl rfl rfl ?_
      first | refine ml_skipG rfl rfl rfl rfl rfl rfl ?_ | refine ml_valG (my_move (Sm.v _)) rfl rfl rfl rfl rfl ?_
      refine ml_valG (my_indexO Try.underlying38 I41 S41 (q := 0) rfl rfl rfl (by omega) (by rw [recsA_length]; omega) rfl) rfl rfl rfl rfl rfl ?_
      refine ml_valG (my_loadR (i := i) (el := recA x) Try.underlying41 rfl (q := 0) rfl (recsA_get (by simpa using hx)) rfl rfl rfl (fun _ => ⟨_, I41, S41⟩) rfl rfl) rfl rfl rfl rfl rfl ?_
      first | refine ml_skipG rfl rfl rfl rfl rfl rfl ?_ | refine ml_valG (my_move (Sm.v _)) rfl rfl rfl rfl rfl ?_
      refine ml_owG rfl rfl rfl (mo_call [] fn35 rfl rfl (less_c x k) rfl rfl (fun Hs' a hp => ?_))
      subst hp
      refine ml_norm [0] [⟨_, _⟩] (by decide) rfl ?_
      refine ml_valG (MY.to (a' := tv (decide (x.key = k))) (my_eql rfl rfl) (congrArg tv (cmpS_eq _ _))) rfl rfl rfl rfl rfl ?_
      refine ml_val (my_pickT rfl (Sm.v _)) rfl rfl rfl ?_
      refine ml_val (my_assign (Sm.v _)) rfl rfl rfl ?_
      refine ml_val (my_assign (Sm.v _)) rfl rfl rfl ?_
      refine ml_nil ?_
      refine z_seq ?_
      refine m_ret ?_
      exact ⟨.tup [iv .i64 (i : Int), tv (decide (x.key = k))], mres2 rfl rfl rfl, rfl, by rw [hlb, isK, hlb, hx]⟩
    · skip
      refine ml_val (MY.to (a' := tv false) (my_lss rfl rfl) (congrArg tv (decide_eq_false (by omega)))) rfl rfl rfl ?_
      refine ml_val (my_move (Sm.v _)) rfl rfl rfl ?_
      first | refine ml_skipG rfl rfl rfl rfl rfl rfl ?_ | refine ml_valG (my_move (by first | exact Sm.v _ | exact Sm.fn _ _ _ | exact Sm.tup _ | exact Sm.ptr _ _ _ | exact Sm.sl _ | exact Sm.osl _ | exact Sm.nl | exact Sm.agg _ | exact Sm.arr _ _ _ | exact Sm.fp _ | exact Sm.dead)) rfl rfl rfl rfl rfl ?_
      first | refine ml_skipG rfl rfl rfl rfl rfl rfl ?_ | refine ml_valG (my_move (Sm.osl _)) rfl rfl rfl rfl rfl ?_
      first | refine ml_skipG rfl rfl rfl rfl rfl rfl ?_ | refine ml_valG (my_move (Sm.v _)) rfl rfl rfl rfl rfl ?_
      first | refine ml_skipG rfl rfl rfl rfl rfl rfl ?_ | refine ml_valG (my_indexO Try.underlying38 I41 S41 (q := 0) rfl rfl rfl (by omega) (by omega) rfl) rfl rfl rfl rfl rfl ?_
      first | refine ml_skipG rfl rfl rfl rfl rfl rfl ?_ | refine ml_valG (my_load Try.underlying41 rfl (q := 0) rfl rfl rfl rfl rfl (fun _ => ⟨_, I41, S41⟩) rfl rfl) rfl rfl rfl rfl rfl ?_
      first | refine ml_skipG rfl rfl rfl rfl rfl rfl ?_ | refine ml_valG (my_move (Sm.v _)) rfl rfl rfl rfl rfl ?_
      refine ml_skipG rfl rfl rfl rfl rfl rfl ?_
      first | refine ml_skipG rfl rfl rfl rfl rfl rfl ?_ | refine ml_valG (my_eql rfl rfl) rfl rfl rfl rfl rfl ?_
      refine ml_val (my_pickF rfl (Sm.v _)) rfl rfl rfl ?_
      refine ml_val (my_assign (Sm.v _)) rfl rfl rfl ?_
      refine ml_val (my_assign (Sm.v _)) rfl rfl rfl ?_
      refine ml_nil ?_
      refine z_seq ?_
      refine m_ret ?_
      exact ⟨.tup [iv .i64 (i : Int), tv false], mres2 rfl rfl rfl, rfl, by rw [hlb, isK, hlb, List.getElem?_eq_none (by omega)]⟩

end Go.Proofs.Ytlklapledogdcaa.K
