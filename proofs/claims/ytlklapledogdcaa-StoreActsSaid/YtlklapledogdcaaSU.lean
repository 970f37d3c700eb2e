/- The document's answer: its lists. No condition. -/
import Derived.Test.YtlklapledogdcaaSU0
namespace Go.Proofs.Ytlklapledogdcaa.K
open Go

set_option maxRecDepth 100000 in
set_option maxHeartbeats 1000000 in
theorem New_k (m : Int) : MF Try.prog 18 [iv .i64 m] [] (fun _ res => res = tA (max m 0) [] 0) := by
  refine m_enter Try.func18 rfl Try.ntmps18 rfl ?_
  refine m_seq ?_
  refine m_region ?_
  refine ml_ow rfl (mo_alloc (W := []) I46 Z46 RZ46s rfl (fun k1 => ?_))
  refine ml_nil ?_
  refine z_seq ?_
  refine m_seq ?_
  refine m_region ?_
  refine ml_val (my_move (Sm.v _)) rfl rfl rfl ?_
  refine ml_val (my_max rfl rfl) rfl rfl rfl ?_
  refine ml_val (my_build (ps := [(_, _)]) BL46 RZ46s rfl rfl rfl) rfl rfl rfl ?_
  refine ml_ow rfl (mo_store I46 S46 rfl rfl rfl (q := 0) rfl rfl rfl rfl rfl ?_)
  refine ml_nil ?_
  refine z_seq ?_
  refine m_ret ?_
  exact ⟨tA (max m 0) [] 0, mresv1 rfl (mrv_cell rfl (my_load Try.underlying46 rfl (q := 0) rfl rfl rfl rfl rfl (fun _ => ⟨_, I46, S46⟩) rfl rfl)), rfl⟩

theorem New_t (m : Int) : MF Try.prog 18 [iv .i64 m] [] (fun Hs' res => Hs' = [] ∧ res = tA (max m 0) [] 0) := mf_none (New_k m)

set_option maxRecDepth 100000 in
set_option maxHeartbeats 1000000 in
theorem Get_k (m : Int) (l : List Rc) (n : Int) (k : ByteArray) (hl : l.length ≤ 1000000) : MF Try.prog 19 [tA m l n, sv k] [] (fun _ res => res = .tup [.sl ((valO (look l k)).map u8A), iv .i64 (verO (look l k))]) := by
  refine m_enter Try.func19 rfl Try.ntmps19 rfl ?_
  refine m_seq ?_
  refine m_region ?_
  refine ml_ow rfl (mo_box (W := []) rfl rfl rfl (fun k1 => ?_))
  refine ml_val (my_assign Sm.nl) rfl rfl rfl ?_
  refine ml_val (my_assign (Sm.v _)) rfl rfl rfl ?_
  refine ml_nil ?_
  refine z_seq ?_
  refine m_seq ?_
  refine m_seq ?_
  refine m_region ?_
  refine ml_val (my_assign (Sm.v _)) rfl rfl rfl ?_
  refine ml_nil ?_
  refine z_seq ?_
  refine m_block ?_
  refine m_loop (fun z Hs α => ∃ (i : Nat), Hs = [⟨k1, .box 46 (tA m l n)⟩] ∧ α 1 = sv k ∧ α 2 = .ptr k1 [] 0 ∧ α 6 = iv .i64 (i : Int) ∧ i ≤ l.length ∧ z = l.length - i ∧ (∀ y ∈ l.take i, y.key ≠ k)) l.length ⟨0, rfl, rfl, rfl, rfl, by omega, rfl, fun y hy => by simp at hy⟩ ?_
  rintro z Hs α ⟨i, rfl, e1, e2, e6, hi, rfl, hn⟩
  unfold tA
  obtain ⟨σ, rfl⟩ : ∃ σ, α = ua (ua (ua σ 1 (sv k)) 2 (.ptr k1 [] 0)) 6 (iv .i64 (i : Int)) := ⟨α, by rw [ua_self α e1, ua_self α e2, ua_self α e6]⟩
  clear e1 e2 e6
  refine m_seq ?_
  refine m_seq ?_
  refine m_region ?_
  refine ml_val (my_move (Sm.v _)) rfl rfl rfl ?_
  refine ml_val (my_field Try.underlying46 rfl I38 S38 rfl rfl rfl) rfl rfl rfl ?_
  refine ml_val (my_load Try.underlying38 rfl (q := 0) rfl rfl rfl rfl rfl (fun h => absurd (show false = true from h) Bool.false_ne_true) rfl rfl) rfl rfl rfl ?_
  refine ml_val (MY.to (a' := iv .i64 (l.length : Int)) (my_lenS Try.underlying38 rfl) (by rw [recsA_length])) rfl rfl rfl ?_
  refine ml_val (my_lss rfl rfl) rfl rfl rfl ?_
  refine ml_nil ?_
  refine z_seq ?_
  refine m_condp rfl (fun hlt => ?_) (fun hlt => ?_)
  · skip
    obtain ⟨x, hx⟩ : ∃ x, l[i]? = some x := ⟨l[i], List.getElem?_eq_getElem (by omega)⟩
    refine m_skip ?_
    refine z_seq ?_
    refine m_seq ?_
    refine m_block ?_
    refine m_seq ?_
    refine m_region ?_
    refine ml_val (my_field Try.underlying46 rfl I38 S38 rfl rfl rfl) rfl rfl rfl ?_
    refine ml_val (my_load Try.underlying38 rfl (q := 0) rfl rfl rfl rfl rfl (fun h => absurd (show false = true from h) Bool.false_ne_true) rfl rfl) rfl rfl rfl ?_
    refine ml_val (my_move (Sm.v _)) rfl rfl rfl ?_
    refine ml_val (my_indexS Try.underlying38 I41 S41 rfl rfl (by omega) (recsA_get (by simpa using hx)) rfl) rfl rfl rfl ?_
    refine ml_val (my_fieldF Try.underlying41 rfl I9 S9 rfl rfl rfl rfl) rfl rfl rfl ?_
    refine ml_val (my_loadF Try.underlying9 rfl rfl (fun h => absurd (show false = true from h) Bool.false_ne_true) rfl) rfl rfl rfl ?_
    refine ml_val (my_move (Sm.v _)) rfl rfl rfl ?_
    refine ml_val (my_seql rfl rfl) rfl rfl rfl ?_
    refine ml_nil ?_
    refine z_seq ?_
    refine m_condp rfl (fun heq => ?_) (fun heq => ?_)
    · skip
      have hlk := look_at hx (by simpa using heq) hn
      refine m_seq ?_
      refine m_regionD (fun i => List.contains [0] i) [] [(0, true), (1, true), (2, true), (3, true), (4, true), (5, true), (6, true), (7, true), (8, true), (9, true), (10, true), (11, true), (12, true), (13, true)] mixed (by kernel_rfl) ?_
      refine mr_val rfl (my_field Try.underlying46 rfl I38 S38 rfl rfl rfl) rfl rfl rfl ?_
      refine mr_val rfl (my_load Try.underlying38 rfl (q := 0) rfl rfl rfl rfl rfl (fun h => absurd (show false = true from h) Bool.false_ne_true) rfl rfl) rfl rfl rfl ?_
      refine mr_val rfl (my_move (Sm.v _)) rfl rfl rfl ?_
      refine mr_val rfl (my_indexS Try.underlying38 I41 S41 rfl rfl (by omega) (recsA_get (by simpa using hx)) rfl) rfl rfl rfl ?_
      refine mr_val rfl (my_fieldF Try.underlying41 rfl I28 S28 rfl rfl rfl rfl) rfl rfl rfl ?_
      refine mr_val rfl (my_loadF Try.underlying28 rfl rfl (fun h => absurd (show false = true from h) Bool.false_ne_true) rfl) rfl rfl rfl ?_
      refine mr_val rfl (my_field Try.underlying46 rfl I38 S38 rfl rfl rfl) rfl rfl rfl ?_
      refine mr_val rfl (my_load Try.underlying38 rfl (q := 0) rfl rfl rfl rfl rfl (fun h => absurd (show false = true from h) Bool.false_ne_true) rfl rfl) rfl rfl rfl ?_
      refine mr_val rfl (my_move (Sm.v _)) rfl rfl rfl ?_
      refine mr_val rfl (my_indexS Try.underlying38 I41 S41 rfl rfl (by omega) (recsA_get (by simpa using hx)) rfl) rfl rfl rfl ?_
      refine mr_val rfl (my_fieldF Try.underlying41 rfl I3 S3 rfl rfl rfl rfl) rfl rfl rfl ?_
      refine mr_val rfl (my_loadF Try.underlying3 rfl rfl (fun h => absurd (show false = true from h) Bool.false_ne_true) rfl) rfl rfl rfl ?_
      refine mr_val rfl (my_assign (by first | exact Sm.sl _ | exact Sm.osl _ | exact Sm.nl)) rfl rfl rfl ?_
      refine mr_val rfl (my_assign (Sm.v _)) rfl rfl rfl ?_
      refine mr_nil ?_
      refine z_seq ?_
      refine m_ret ?_
      refine z_blkR ?_
      refine z_seqR ?_
      refine z_lpR ?_
      refine z_blkR ?_
      refine z_seqR ?_
      exact ⟨.tup [.sl (x.val.map u8A), iv .i64 x.ver], mres2 rfl rfl rfl, by rw [hlk]; rfl⟩
    · skip
      replace heq : x.key ≠ k := by simpa using heq
      refine m_skip ?_
      refine z_blk ?_
      refine z_seq ?_
      refine m_region ?_
      refine ml_val (my_move (Sm.v _)) rfl rfl rfl ?_
      refine ml_val (my_add64 rfl rfl (by omega)) rfl rfl rfl ?_
      refine ml_val (my_assign (Sm.v _)) rfl rfl rfl ?_
      refine ml_nil ?_
      refine z_lpN (l.length - (i + 1)) (by omega) ⟨i + 1, rfl, rfl, rfl, rfl, by omega, rfl, fun y hy => ?_⟩
      rw [take_snoc hx] at hy
      rcases List.mem_append.1 hy with hy | hy
      · exact hn y hy
      · simp at hy; subst hy; exact heq
  · skip
    have hln : look l k = none := look_none (fun y hy => hn y (by rw [show i = l.length by omega, List.take_length]; exact hy))
    refine m_exit ?_
    refine z_seqX ?_
    refine z_lpX ?_
    refine z_blkX ?_
    refine z_seq ?_
    refine m_seq ?_
    refine m_region ?_
    refine ml_val (my_assign Sm.nl) rfl rfl rfl ?_
    refine ml_val (my_assign (Sm.v _)) rfl rfl rfl ?_
    refine ml_nil ?_
    refine z_seq ?_
    refine m_ret ?_
    exact ⟨.tup [.sl [], iv .i64 0], (mres2 (a := .nl) rfl rfl rfl).weak (rv_tnl _), by rw [hln]; rfl⟩

theorem Get_t (m : Int) (l : List Rc) (n : Int) (k : ByteArray) (hl : l.length ≤ 1000000) : MF Try.prog 19 [tA m l n, sv k] [] (fun Hs' res => Hs' = [] ∧ res = .tup [.sl ((valO (look l k)).map u8A), iv .i64 (verO (look l k))]) := mf_none (Get_k m l n k hl)

set_option maxRecDepth 100000 in
set_option maxHeartbeats 1000000 in
theorem without_t (l : List Rc) (k : ByteArray) (hl : l.length ≤ 1000000) : MF Try.prog 32 [.sl (recsA l), sv k] [] (fun Hs' res => Hs' = [] ∧ res = .sl (recsA (withoutR l k))) := by
  refine m_enter Try.func32 rfl Try.ntmps32 rfl ?_
  refine m_seq ?_
  refine m_region ?_
  refine ml_val (my_assign Sm.nl) rfl rfl rfl ?_
  refine ml_nil ?_
  refine z_seq ?_
  refine m_seq ?_
  refine m_region ?_
  refine ml_val (my_assign Sm.nl) rfl rfl rfl ?_
  refine ml_nil ?_
  refine z_seq ?_
  refine m_seq ?_
  refine m_seq ?_
  refine m_region ?_
  refine ml_val (my_assign (Sm.v _)) rfl rfl rfl ?_
  refine ml_nil ?_
  refine z_seq ?_
  refine m_block ?_
  refine m_own (t := 5) 41 3 rfl (fun q0 => ?_)
  refine m_loop (fun z Hs α => ∃ (i : Nat) (q : Nat), Hs = [⟨q, .row 41 3 (recsA ((l.take i).filter (noKey k)))⟩] ∧ α 0 = .sl (recsA l) ∧ α 1 = sv k ∧ α 5 = .osl q ∧ α 6 = iv .i64 (i : Int) ∧ i ≤ l.length ∧ z = l.length - i) l.length ⟨0, q0, rfl, rfl, rfl, rfl, rfl, by omega, rfl⟩ ?_
  rintro z Hs α ⟨i, q, rfl, e0, e1, e5, e6, hi, rfl⟩
  obtain ⟨σ, rfl⟩ : ∃ σ, α = ua (ua (ua (ua σ 0 (.sl (recsA l))) 1 (sv k)) 5 (.osl q)) 6 (iv .i64 (i : Int)) := ⟨α, by rw [ua_self α e0, ua_self α e1, ua_self α e5, ua_self α e6]⟩
  clear e0 e1 e5 e6
  refine m_seq ?_
  refine m_seq ?_
  refine m_region ?_
  refine ml_val (my_move (Sm.v _)) rfl rfl rfl ?_
  refine ml_val (my_move (Sm.sl _)) rfl rfl rfl ?_
  refine ml_val (MY.to (a' := iv .i64 (l.length : Int)) (my_lenS Try.underlying38 rfl) (by rw [recsA_length])) rfl rfl rfl ?_
  refine ml_val (my_lss rfl rfl) rfl rfl rfl ?_
  refine ml_nil ?_
  refine z_seq ?_
  refine m_condp rfl (fun hlt => ?_) (fun hlt => ?_)
  · skip
    obtain ⟨x, hx⟩ : ∃ x, l[i]? = some x := ⟨l[i], List.getElem?_eq_getElem (by omega)⟩
    refine m_skip ?_
    refine z_seq ?_
    refine m_seq ?_
    refine m_block ?_
    refine m_seq ?_
    refine m_region ?_
    refine ml_val (my_move (Sm.sl _)) rfl rfl rfl ?_
    refine ml_val (my_move (Sm.v _)) rfl rfl rfl ?_
    refine ml_val (my_indexS Try.underlying38 I41 S41 rfl rfl (by omega) (recsA_get (by simpa using hx)) rfl) rfl rfl rfl ?_
    refine ml_val (my_fieldF Try.underlying41 rfl I9 S9 rfl rfl rfl rfl) rfl rfl rfl ?_
    refine ml_val (my_loadF Try.underlying9 rfl rfl (fun h => absurd (show false = true from h) Bool.false_ne_true) rfl) rfl rfl rfl ?_
    refine ml_val (my_move (Sm.v _)) rfl rfl rfl ?_
    refine ml_val (my_sneq rfl rfl) rfl rfl rfl ?_
    refine ml_nil ?_
    refine z_seq ?_
    refine m_condp rfl (fun hne => ?_) (fun hne => ?_)
    · skip
      replace hne : x.key ≠ k := by simpa using hne
      refine m_region ?_
      refine ml_val (my_move (Sm.osl _)) rfl rfl rfl ?_
      refine ml_val (my_move (Sm.sl _)) rfl rfl rfl ?_
      refine ml_val (my_move (Sm.v _)) rfl rfl rfl ?_
      refine ml_val (my_indexS Try.underlying38 I41 S41 rfl rfl (by omega) (recsA_get (by simpa using hx)) rfl) rfl rfl rfl ?_
      refine ml_val (my_loadF Try.underlying41 rfl rfl (fun _ => ⟨_, I41, S41⟩) rfl) rfl rfl rfl ?_
      refine ml_ow rfl (mo_lit (W := []) (ls := [recA x]) (xs := [_]) Try.underlying38 I41 Z41 S41 rfl rfl rfl rfl rfl rfl rfl (fun k1 => ?_))
      refine ml_pre (sh_frz 25 (q := 1) rfl rfl) ?_
      refine ml_norm [0] [⟨_, _⟩] (by decide) rfl ?_
      refine ml_ow rfl (mo_append Try.underlying38 I41 Z41 S41 rfl (by decide) (by rw [B41]; decide) rfl (q := 0) rfl rfl (fun a ha => by simp at ha; subst ha; rfl) (by rw [recsA_length]; have := fl_len l (noKey k) i; simp; omega) rfl (W := [0]) rfl (fun k2 => ?_))
      refine ml_val (my_assign (Sm.osl _)) rfl rfl rfl ?_
      refine ml_nil ?_
      refine z_blk ?_
      refine z_seq ?_
      refine m_region ?_
      refine ml_val (my_move (Sm.v _)) rfl rfl rfl ?_
      refine ml_val (my_add64 rfl rfl (by omega)) rfl rfl rfl ?_
      refine ml_val (my_assign (Sm.v _)) rfl rfl rfl ?_
      refine ml_nil ?_
      exact z_lpN (l.length - (i + 1)) (by omega) ⟨i + 1, _, by rw [fl_yes hx (show noKey k x = true by unfold noKey; rw [decide_eq_false hne]; rfl), recsA_snoc]; rfl, rfl, rfl, rfl, rfl, by omega, rfl⟩
    · skip
      replace hne : x.key = k := by simpa using hne
      refine m_skip ?_
      refine z_blk ?_
      refine z_seq ?_
      refine m_region ?_
      refine ml_val (my_move (Sm.v _)) rfl rfl rfl ?_
      refine ml_val (my_add64 rfl rfl (by omega)) rfl rfl rfl ?_
      refine ml_val (my_assign (Sm.v _)) rfl rfl rfl ?_
      refine ml_nil ?_
      exact z_lpN (l.length - (i + 1)) (by omega) ⟨i + 1, _, by rw [fl_no hx (show noKey k x = false by unfold noKey; rw [decide_eq_true hne]; rfl)], rfl, rfl, rfl, rfl, by omega, rfl⟩
  · skip
    have hie : (l.take i).filter (noKey k) = withoutR l k := by rw [show i = l.length by omega, List.take_length]; rfl
    refine m_exit ?_
    refine z_seqX ?_
    refine z_lpX ?_
    refine z_blkX ?_
    refine z_seq ?_
    refine m_seq ?_
    refine m_region ?_
    refine ml_val (my_move (Sm.osl _)) rfl rfl rfl ?_
    refine ml_val (my_assign (Sm.osl _)) rfl rfl rfl ?_
    refine ml_nil ?_
    refine z_seq ?_
    refine m_pre (sh_frz 4 (q := 0) rfl rfl) ?_
    refine m_norm [] [] (by decide) rfl ?_
    refine m_ret ?_
    exact ⟨.sl (recsA (withoutR l k)), mres1 rfl (by show A.sl (recsA _) = _; rw [hie]), rfl, rfl⟩

set_option maxRecDepth 100000 in
set_option maxHeartbeats 1000000 in
theorem Scan_t (m : Int) (l : List Rc) (n : Int) (p : ByteArray) (hl : l.length ≤ 1000000) : MF Try.prog 33 [tA m l n, sv p] [] (fun Hs' res => Hs' = [] ∧ res = .sl (recsA (l.filter (fun x => pre x.key p)))) := by
  refine m_enter Try.func33 rfl Try.ntmps33 rfl ?_
  refine m_seq ?_
  refine m_region ?_
  refine ml_ow rfl (mo_box (W := []) rfl rfl rfl (fun k1 => ?_))
  refine ml_val (my_assign Sm.nl) rfl rfl rfl ?_
  refine ml_nil ?_
  refine z_seq ?_
  refine m_seq ?_
  refine m_region ?_
  refine ml_val (my_assign Sm.nl) rfl rfl rfl ?_
  refine ml_nil ?_
  refine z_seq ?_
  refine m_seq ?_
  refine m_seq ?_
  refine m_region ?_
  refine ml_val (my_assign (Sm.v _)) rfl rfl rfl ?_
  refine ml_nil ?_
  refine z_seq ?_
  refine m_block ?_
  refine m_own (t := 5) 41 3 rfl (fun q0 => ?_)
  refine m_loop (fun z Hs α => ∃ (i : Nat) (q : Nat), Hs = [⟨k1, .box 46 (tA m l n)⟩, ⟨q, .row 41 3 (recsA ((l.take i).filter (fun x => pre x.key p)))⟩] ∧ α 1 = sv p ∧ α 2 = .ptr k1 [] 0 ∧ α 5 = .osl q ∧ α 6 = iv .i64 (i : Int) ∧ i ≤ l.length ∧ z = l.length - i) l.length ⟨0, q0, rfl, rfl, rfl, rfl, rfl, by omega, rfl⟩ ?_
  rintro z Hs α ⟨i, q, rfl, e1, e2, e5, e6, hi, rfl⟩
  unfold tA
  obtain ⟨σ, rfl⟩ : ∃ σ, α = ua (ua (ua (ua σ 1 (sv p)) 2 (.ptr k1 [] 0)) 5 (.osl q)) 6 (iv .i64 (i : Int)) := ⟨α, by rw [ua_self α e1, ua_self α e2, ua_self α e5, ua_self α e6]⟩
  clear e1 e2 e5 e6
  refine m_seq ?_
  refine m_seq ?_
  refine m_region ?_
  refine ml_val (my_move (Sm.v _)) rfl rfl rfl ?_
  refine ml_val (my_field Try.underlying46 rfl I38 S38 rfl rfl rfl) rfl rfl rfl ?_
  refine ml_val (my_load Try.underlying38 rfl (q := 0) rfl rfl rfl rfl rfl (fun h => absurd (show false = true from h) Bool.false_ne_true) rfl rfl) rfl rfl rfl ?_
  refine ml_val (MY.to (a' := iv .i64 (l.length : Int)) (my_lenS Try.underlying38 rfl) (by rw [recsA_length])) rfl rfl rfl ?_
  refine ml_val (my_lss rfl rfl) rfl rfl rfl ?_
  refine ml_nil ?_
  refine z_seq ?_
  refine m_condp rfl (fun hlt => ?_) (fun hlt => ?_)
  · skip
    obtain ⟨x, hx⟩ : ∃ x, l[i]? = some x := ⟨l[i], List.getElem?_eq_getElem (by omega)⟩
    refine m_skip ?_
    refine z_seq ?_
    refine m_seq ?_
    refine m_block ?_
    refine m_seq ?_
    refine m_region ?_
    refine ml_val (my_field Try.underlying46 rfl I38 S38 rfl rfl rfl) rfl rfl rfl ?_
    refine ml_val (my_load Try.underlying38 rfl (q := 0) rfl rfl rfl rfl rfl (fun h => absurd (show false = true from h) Bool.false_ne_true) rfl rfl) rfl rfl rfl ?_
    refine ml_val (my_move (Sm.v _)) rfl rfl rfl ?_
    refine ml_val (my_indexS Try.underlying38 I41 S41 rfl rfl (by omega) (recsA_get (by simpa using hx)) rfl) rfl rfl rfl ?_
    refine ml_val (my_fieldF Try.underlying41 rfl I9 S9 rfl rfl rfl rfl) rfl rfl rfl ?_
    refine ml_val (my_loadF Try.underlying9 rfl rfl (fun h => absurd (show false = true from h) Bool.false_ne_true) rfl) rfl rfl rfl ?_
    refine ml_val (my_assign (Sm.v _)) rfl rfl rfl ?_
    refine ml_nil ?_
    refine z_seq ?_
    refine m_seq ?_
    refine m_region ?_
    refine ml_val (my_move (Sm.v _)) rfl rfl rfl ?_
    refine ml_val (my_lenStr Try.underlying9 rfl) rfl rfl rfl ?_
    refine ml_val (my_move (Sm.v _)) rfl rfl rfl ?_
    refine ml_val (my_lenStr Try.underlying9 rfl) rfl rfl rfl ?_
    by_cases hle : p.size ≤ x.key.size
    · skip
      refine ml_val (MY.to (a' := tv true) (my_geq rfl rfl) (congrArg tv (decide_eq_true (by omega)))) rfl rfl rfl ?_
      refine ml_val (my_move (Sm.v _)) rfl rfl rfl ?_
      first | refine ml_skipG rfl rfl rfl rfl rfl rfl ?_ | refine ml_valG (my_move (Sm.v _)) rfl rfl rfl rfl rfl ?_
      first | refine ml_skipG rfl rfl rfl rfl rfl rfl ?_ | refine ml_valG (my_move (Sm.v _)) rfl rfl rfl rfl rfl ?_
      first | refine ml_skipG rfl rfl rfl rfl rfl rfl ?_ | refine ml_valG (my_lenStr Try.underlying9 rfl) rfl rfl rfl rfl rfl ?_
      refine ml_valG (my_strHi Try.underlying9 rfl rfl (by omega) (by omega)) rfl rfl rfl rfl rfl ?_
      first | refine ml_skipG rfl rfl rfl rfl rfl rfl ?_ | refine ml_valG (my_move (Sm.v _)) rfl rfl rfl rfl rfl ?_
      refine ml_valG (my_seql rfl rfl) rfl rfl rfl rfl rfl ?_
      refine ml_val (my_pickT rfl (Sm.v _)) rfl rfl rfl ?_
      refine ml_nil ?_
      refine z_seq ?_
      refine m_condp rfl (fun hex => ?_) (fun hex => ?_)
      · skip
        have hpx : pre x.key p = true := pre_yes hle (by simpa using hex)
        refine m_region ?_
        refine ml_val (my_move (Sm.osl _)) rfl rfl rfl ?_
        refine ml_val (my_field Try.underlying46 rfl I38 S38 rfl rfl rfl) rfl rfl rfl ?_
        refine ml_val (my_load Try.underlying38 rfl (q := 0) rfl rfl rfl rfl rfl (fun h => absurd (show false = true from h) Bool.false_ne_true) rfl rfl) rfl rfl rfl ?_
        refine ml_val (my_move (Sm.v _)) rfl rfl rfl ?_
        refine ml_val (my_indexS Try.underlying38 I41 S41 rfl rfl (by omega) (recsA_get (by simpa using hx)) rfl) rfl rfl rfl ?_
        refine ml_val (my_loadF Try.underlying41 rfl rfl (fun _ => ⟨_, I41, S41⟩) rfl) rfl rfl rfl ?_
        refine ml_ow rfl (mo_lit (W := []) (ls := [recA x]) (xs := [_]) Try.underlying38 I41 Z41 S41 rfl rfl rfl rfl rfl rfl rfl (fun k2 => ?_))
        refine ml_pre (sh_frz 40 (q := 2) rfl rfl) ?_
        refine ml_norm [0, 1] [⟨_, _⟩, ⟨_, _⟩] (by decide) rfl ?_
        refine ml_ow rfl (mo_append Try.underlying38 I41 Z41 S41 rfl (by decide) (by rw [B41]; decide) rfl (q := 1) rfl rfl (fun a ha => by simp at ha; subst ha; rfl) (by rw [recsA_length]; have := fl_len l (fun x => pre x.key p) i; simp; omega) rfl (W := [1]) rfl (fun k3 => ?_))
        refine ml_val (my_assign (Sm.osl _)) rfl rfl rfl ?_
        refine ml_nil ?_
        refine z_blk ?_
        refine z_seq ?_
        refine m_region ?_
        refine ml_val (my_move (Sm.v _)) rfl rfl rfl ?_
        refine ml_val (my_add64 rfl rfl (by omega)) rfl rfl rfl ?_
        refine ml_val (my_assign (Sm.v _)) rfl rfl rfl ?_
        refine ml_nil ?_
        exact z_lpN (l.length - (i + 1)) (by omega) ⟨i + 1, _, by rw [fl_yes hx hpx, recsA_snoc]; rfl, rfl, rfl, rfl, rfl, by omega, rfl⟩
      · skip
        have hpx : pre x.key p = false := pre_no (fun h => hex (by simpa using h.2))
        refine m_skip ?_
        refine z_blk ?_
        refine z_seq ?_
        refine m_region ?_
        refine ml_val (my_move (Sm.v _)) rfl rfl rfl ?_
        refine ml_val (my_add64 rfl rfl (by omega)) rfl rfl rfl ?_
        refine ml_val (my_assign (Sm.v _)) rfl rfl rfl ?_
        refine ml_nil ?_
        exact z_lpN (l.length - (i + 1)) (by omega) ⟨i + 1, _, by rw [fl_no hx hpx], rfl, rfl, rfl, rfl, by omega, rfl⟩
    · skip
      refine ml_val (MY.to (a' := tv false) (my_geq rfl rfl) (congrArg tv (decide_eq_false (by omega)))) rfl rfl rfl ?_
      refine ml_val (my_move (Sm.v _)) rfl rfl rfl ?_
      refine ml_skipG rfl rfl rfl rfl rfl rfl ?_
      refine ml_skipG rfl rfl rfl rfl rfl rfl ?_
      refine ml_skipG rfl rfl rfl rfl rfl rfl ?_
      refine ml_skipG rfl rfl rfl rfl rfl rfl ?_
      refine ml_skipG rfl rfl rfl rfl rfl rfl ?_
      refine ml_skipG rfl rfl rfl rfl rfl rfl ?_
      refine ml_val (my_pickF rfl (Sm.v _)) rfl rfl rfl ?_
      refine ml_nil ?_
      refine z_seq ?_
      refine m_condF rfl ?_
      refine m_skip ?_
      refine z_blk ?_
      refine z_seq ?_
      have hpx : pre x.key p = false := pre_no (fun h => hle h.1)
      refine m_region ?_
      refine ml_val (my_move (Sm.v _)) rfl rfl rfl ?_
      refine ml_val (my_add64 rfl rfl (by omega)) rfl rfl rfl ?_
      refine ml_val (my_assign (Sm.v _)) rfl rfl rfl ?_
      refine ml_nil ?_
      exact z_lpN (l.length - (i + 1)) (by omega) ⟨i + 1, _, by rw [fl_no hx hpx], rfl, rfl, rfl, rfl, by omega, rfl⟩
  · skip
    have hie : (l.take i).filter (fun x => pre x.key p) = l.filter (fun x => pre x.key p) := by rw [show i = l.length by omega, List.take_length]
    refine m_exit ?_
    refine z_seqX ?_
    refine z_lpX ?_
    refine z_blkX ?_
    refine z_seq ?_
    refine m_seq ?_
    refine m_region ?_
    refine ml_val (my_move (Sm.osl _)) rfl rfl rfl ?_
    refine ml_val (my_assign (Sm.osl _)) rfl rfl rfl ?_
    refine ml_nil ?_
    refine z_seq ?_
    refine m_pre (sh_frz 4 (q := 1) rfl rfl) ?_
    refine m_norm [] [] (by decide) rfl ?_
    refine m_ret ?_
    exact ⟨.sl (recsA (l.filter (fun x => pre x.key p))), mres1 rfl (by show A.sl (recsA _) = _; rw [hie]), rfl, rfl⟩

set_option maxRecDepth 100000 in
set_option maxHeartbeats 1000000 in
theorem laid_t (l : List Rc) (r0 : Rc) (hl : l.length ≤ 1000000) : MF Try.prog 31 [.sl (recsA l), recA r0] [] (fun Hs' res => Hs' = [] ∧ res = .sl (recsA (laidR l r0))) := by
  refine m_enter Try.func31 rfl Try.ntmps31 rfl ?_
  unfold recA
  obtain ⟨W, hW⟩ : ∃ W, W = (withoutR l r0.key) := ⟨_, rfl⟩
  have hWl : W.length ≤ l.length := by rw [hW]; exact List.length_filter_le _ _
  have hlb := lb_le W r0.key
  refine m_seq ?_
  refine m_region ?_
  refine ml_ow rfl (mo_box (W := []) rfl rfl rfl (fun k1 => ?_))
  refine ml_val (my_assign Sm.nl) rfl rfl rfl ?_
  refine ml_nil ?_
  refine z_seq ?_
  refine m_seq ?_
  refine m_region ?_
  refine ml_val (my_move (Sm.sl _)) rfl rfl rfl ?_
  refine ml_val (my_field Try.underlying41 rfl I9 S9 rfl rfl rfl) rfl rfl rfl ?_
  refine ml_val (my_load Try.underlying9 rfl (q := 0) rfl rfl rfl rfl rfl (fun h => absurd (show false = true from h) Bool.false_ne_true) rfl rfl) rfl rfl rfl ?_
  refine ml_ow rfl (mo_call [] fn32 rfl rfl (without_t l r0.key hl) rfl rfl (fun Hs' a hp => ?_))
  obtain ⟨rfl, rfl⟩ := hp
  rw [← hW]
  refine ml_norm [0] [⟨_, _⟩] (by decide) rfl ?_
  refine ml_val (my_assign (Sm.sl _)) rfl rfl rfl ?_
  refine ml_nil ?_
  refine z_seq ?_
  refine m_seq ?_
  refine m_region ?_
  refine ml_val (my_assign (Sm.v _)) rfl rfl rfl ?_
  refine ml_nil ?_
  refine z_seq ?_
  refine m_seq ?_
  refine m_block ?_
  refine m_loop (fun z Hs α => ∃ (i : Nat), Hs = [⟨k1, .box 41 (recA r0)⟩] ∧ α 0 = .sl (recsA W) ∧ α 3 = .ptr k1 [] 0 ∧ α 5 = iv .i64 (i : Int) ∧ i ≤ lb W r0.key ∧ z = lb W r0.key - i) (lb W r0.key) ⟨0, rfl, rfl, rfl, rfl, by omega, rfl⟩ ?_
  rintro z Hs α ⟨i, rfl, e0, e3, e5, hi, rfl⟩
  unfold recA
  obtain ⟨σ, rfl⟩ : ∃ σ, α = ua (ua (ua σ 0 (.sl (recsA W))) 3 (.ptr k1 [] 0)) 5 (iv .i64 (i : Int)) := ⟨α, by rw [ua_self α e0, ua_self α e3, ua_self α e5]⟩
  clear e0 e3 e5
  refine m_seq ?_
  refine m_seq ?_
  refine m_regionD (fun i => List.contains [0] i) [] [(0, true), (1, true), (2, true), (3, true), (4, true), (5, true), (6, true), (7, true), (8, true), (9, true), (10, true), (11, true), (12, true), (13, true)] mixed (by kernel_rfl) ?_
  refine mr_val rfl (my_move (Sm.v _)) rfl rfl rfl ?_
  refine mr_val rfl (my_move (Sm.sl _)) rfl rfl rfl ?_
  refine mr_val rfl (MY.to (a' := iv .i64 (W.length : Int)) (my_lenS Try.underlying38 rfl) (by rw [recsA_length])) rfl rfl rfl ?_
  by_cases hlt : i < W.length
  · skip
    obtain ⟨x, hx⟩ : ∃ x, W[i]? = some x := ⟨W[i], List.getElem?_eq_getElem hlt⟩
    refine mr_val rfl (MY.to (a' := tv true) (my_lss rfl rfl) (congrArg tv (decide_eq_true (by omega)))) rfl rfl rfl ?_
    refine mr_val rfl (my_move (Sm.v _)) rfl rfl rfl ?_
    first | refine mr_skipG rfl rfl rfl rfl rfl rfl rfl ?_ | refine mr_valG rfl (my_move (Sm.sl _)) rfl rfl rfl rfl rfl ?_
    first | refine mr_skipG rfl rfl rfl rfl rfl rfl rfl ?_ | refine mr_valG rfl (my_move (Sm.v _)) rfl rfl rfl rfl rfl ?_
    first | refine mr_skipG rfl rfl rfl rfl rfl rfl rfl ?_ | refine mr_valG rfl (my_indexS Try.underlying38 I41 S41 rfl rfl (by omega) (recsA_get (by simpa using hx)) rfl) rfl rfl rfl rfl rfl ?_
    first | refine mr_skipG rfl rfl rfl rfl rfl rfl rfl ?_ | refine mr_valG rfl (my_fieldF Try.underlying41 rfl I9 S9 rfl rfl rfl rfl) rfl rfl rfl rfl rfl ?_
    first | refine mr_skipG rfl rfl rfl rfl rfl rfl rfl ?_ | refine mr_valG rfl (my_loadF Try.underlying9 rfl rfl (fun h => absurd (show false = true from h) Bool.false_ne_true) rfl) rfl rfl rfl rfl rfl ?_
    first | refine mr_skipG rfl rfl rfl rfl rfl rfl rfl ?_ | refine mr_valG rfl (my_field Try.underlying41 rfl I9 S9 rfl rfl rfl) rfl rfl rfl rfl rfl ?_
    first | refine mr_skipG rfl rfl rfl rfl rfl rfl rfl ?_ | refine mr_valG rfl (my_load Try.underlying9 rfl (q := 0) rfl rfl rfl rfl rfl (fun h => absurd (show false = true from h) Bool.false_ne_true) rfl rfl) rfl rfl rfl rfl rfl ?_
    first | refine mr_skipG rfl rfl rfl rfl rfl rfl rfl ?_ | refine mr_valG rfl (my_slss rfl rfl) rfl rfl rfl rfl rfl ?_
    refine mr_val rfl (my_pickT rfl (Sm.v _)) rfl rfl rfl ?_
    refine mr_nil ?_
    refine z_seq ?_
    refine m_cond rfl (fun hc => ?_) (fun hc => ?_)
    · skip
      have hi2 : i < lb W r0.key := by
        rcases Nat.lt_or_ge i (lb W r0.key) with h | h
        · exact h
        · have e : i = lb W r0.key := by omega
          have := lb_ge (by rw [← e]; exact hx)
          rw [hc] at this; cases this
      refine m_skip ?_
      refine z_seq ?_
      refine m_block ?_
      refine m_region ?_
      refine ml_val (my_move (Sm.v _)) rfl rfl rfl ?_
      refine ml_val (my_add64 rfl rfl (by omega)) rfl rfl rfl ?_
      refine ml_val (my_assign (Sm.v _)) rfl rfl rfl ?_
      refine ml_nil ?_
      refine z_blk ?_
      exact z_lpN (lb W r0.key - (i + 1)) (by omega) ⟨i + 1, rfl, rfl, rfl, rfl, by omega, rfl⟩
    · skip
      have hie : i = lb W r0.key := by
        rcases Nat.lt_or_ge i (lb W r0.key) with h | h
        · have := lb_lt h hx
          rw [hc] at this; cases this
        · omega
      refine m_exit ?_
      refine z_seqX ?_
      refine z_lpX ?_
      refine z_blkX ?_
      refine z_seq ?_
      refine m_seq ?_
      refine m_region ?_
      refine ml_val (my_assign Sm.nl) rfl rfl rfl ?_
      refine ml_nil ?_
      refine z_seq ?_
      refine m_seq ?_
      refine m_own (t := 6) 41 3 rfl (fun q0 => ?_)
      refine m_region ?_
      refine ml_val (my_move (Sm.osl _)) rfl rfl rfl ?_
      refine ml_val (my_move (Sm.sl _)) rfl rfl rfl ?_
      refine ml_val (my_move (Sm.v _)) rfl rfl rfl ?_
      refine ml_val (my_hiS Try.underlying38 I41 rfl rfl (by omega) (by rw [recsA_length]; omega)) rfl rfl rfl ?_
      refine ml_ow rfl (mo_append Try.underlying38 I41 Z41 S41 rfl (by decide) (by rw [B41]; decide) rfl (q := 1) rfl rfl (fun a ha => recsA_sz _ a (List.mem_of_mem_take ha)) (by simp; omega) rfl (W := [1]) rfl (fun k2 => ?_))
      refine ml_val (my_assign (Sm.osl _)) rfl rfl rfl ?_
      refine ml_nil ?_
      refine z_seq ?_
      refine m_seq ?_
      refine m_region ?_
      refine ml_val (my_move (Sm.osl _)) rfl rfl rfl ?_
      refine ml_val (my_load Try.underlying41 rfl (q := 0) rfl rfl rfl rfl rfl (fun _ => ⟨_, I41, S41⟩) rfl rfl) rfl rfl rfl ?_
      refine ml_ow rfl (mo_lit (W := []) (ls := [recA r0]) (xs := [_]) Try.underlying38 I41 Z41 S41 rfl rfl rfl rfl rfl rfl rfl (fun k3 => ?_))
      refine ml_pre (sh_frz 34 (q := 2) rfl rfl) ?_
      refine ml_norm [0, 1] [⟨_, _⟩, ⟨_, _⟩] (by decide) rfl ?_
      refine ml_ow rfl (mo_append Try.underlying38 I41 Z41 S41 rfl (by decide) (by rw [B41]; decide) rfl (q := 1) rfl rfl (fun a ha => by simp at ha; subst ha; rfl) (by simp; omega) rfl (W := [1]) rfl (fun k4 => ?_))
      refine ml_val (my_assign (Sm.osl _)) rfl rfl rfl ?_
      refine ml_nil ?_
      refine z_seq ?_
      refine m_seq ?_
      refine m_region ?_
      refine ml_val (my_move (Sm.osl _)) rfl rfl rfl ?_
      refine ml_val (my_move (Sm.sl _)) rfl rfl rfl ?_
      refine ml_val (my_move (Sm.v _)) rfl rfl rfl ?_
      refine ml_val (my_loS Try.underlying38 I41 S41 (recsA_sz _) rfl rfl (by omega) (by rw [recsA_length]; omega)) rfl rfl rfl ?_
      refine ml_ow rfl (mo_append Try.underlying38 I41 Z41 S41 rfl (by decide) (by rw [B41]; decide) rfl (q := 1) rfl rfl (fun a ha => recsA_sz _ a (List.mem_of_mem_drop ha)) (by simp; omega) rfl (W := [1]) rfl (fun k5 => ?_))
      refine ml_val (my_assign (Sm.osl _)) rfl rfl rfl ?_
      refine ml_nil ?_
      refine z_seq ?_
      refine m_seq ?_
      refine m_region ?_
      refine ml_val (my_move (Sm.osl _)) rfl rfl rfl ?_
      refine ml_val (my_assign (Sm.osl _)) rfl rfl rfl ?_
      refine ml_nil ?_
      refine z_seq ?_
      refine m_pre (sh_frz 4 (q := 1) rfl rfl) ?_
      refine m_norm [] [] (by decide) rfl ?_
      refine m_ret ?_
      exact ⟨.sl (recsA (laidR l r0)), mres1 rfl (by show A.sl _ = _; unfold laidR; rw [← hW, ← hie]; simp [recsA, recA, List.map_take, List.map_drop]), rfl, rfl⟩
  · skip
    refine mr_val rfl (MY.to (a' := tv false) (my_lss rfl rfl) (congrArg tv (decide_eq_false (by omega)))) rfl rfl rfl ?_
    refine mr_val rfl (my_move (Sm.v _)) rfl rfl rfl ?_
    first | refine mr_skipG rfl rfl rfl rfl rfl rfl rfl ?_ | refine mr_valG rfl (my_move (Sm.sl _)) rfl rfl rfl rfl rfl ?_
    first | refine mr_skipG rfl rfl rfl rfl rfl rfl rfl ?_ | refine mr_valG rfl (my_move (Sm.v _)) rfl rfl rfl rfl rfl ?_
    first | refine mr_skipG rfl rfl rfl rfl rfl rfl rfl ?_ | refine mr_valG rfl (my_indexS Try.underlying38 I41 S41 rfl rfl (by omega) (recsA_get (by simpa using hx)) rfl) rfl rfl rfl rfl rfl ?_
    first | refine mr_skipG rfl rfl rfl rfl rfl rfl rfl ?_ | refine mr_valG rfl (my_fieldF Try.underlying41 rfl I9 S9 rfl rfl rfl rfl) rfl rfl rfl rfl rfl ?_
    first | refine mr_skipG rfl rfl rfl rfl rfl rfl rfl ?_ | refine mr_valG rfl (my_loadF Try.underlying9 rfl rfl (fun h => absurd (show false = true from h) Bool.false_ne_true) rfl) rfl rfl rfl rfl rfl ?_
    first | refine mr_skipG rfl rfl rfl rfl rfl rfl rfl ?_ | refine mr_valG rfl (my_field Try.underlying41 rfl I9 S9 rfl rfl rfl) rfl rfl rfl rfl rfl ?_
    first | refine mr_skipG rfl rfl rfl rfl rfl rfl rfl ?_ | refine mr_valG rfl (my_load Try.underlying9 rfl (q := 0) rfl rfl rfl rfl rfl (fun h => absurd (show false = true from h) Bool.false_ne_true) rfl rfl) rfl rfl rfl rfl rfl ?_
    first | refine mr_skipG rfl rfl rfl rfl rfl rfl rfl ?_ | refine mr_valG rfl (my_slss rfl rfl) rfl rfl rfl rfl rfl ?_
    refine mr_val rfl (my_pickF rfl (Sm.v _)) rfl rfl rfl ?_
    refine mr_nil ?_
    refine z_seq ?_
    refine m_condF rfl ?_
    refine m_exit ?_
    refine z_seqX ?_
    refine z_lpX ?_
    refine z_blkX ?_
    refine z_seq ?_
    refine m_seq ?_
    have hie : i = lb W r0.key := by omega
    refine m_region ?_
    refine ml_val (my_assign Sm.nl) rfl rfl rfl ?_
    refine ml_nil ?_
    refine z_seq ?_
    refine m_seq ?_
    refine m_own (t := 6) 41 3 rfl (fun q0 => ?_)
    refine m_region ?_
    refine ml_val (my_move (Sm.osl _)) rfl rfl rfl ?_
    refine ml_val (my_move (Sm.sl _)) rfl rfl rfl ?_
    refine ml_val (my_move (Sm.v _)) rfl rfl rfl ?_
    refine ml_val (my_hiS Try.underlying38 I41 rfl rfl (by omega) (by rw [recsA_length]; omega)) rfl rfl rfl ?_
    refine ml_ow rfl (mo_append Try.underlying38 I41 Z41 S41 rfl (by decide) (by rw [B41]; decide) rfl (q := 1) rfl rfl (fun a ha => recsA_sz _ a (List.mem_of_mem_take ha)) (by simp; omega) rfl (W := [1]) rfl (fun k6 => ?_))
    refine ml_val (my_assign (Sm.osl _)) rfl rfl rfl ?_
    refine ml_nil ?_
    refine z_seq ?_
    refine m_seq ?_
    refine m_region ?_
    refine ml_val (my_move (Sm.osl _)) rfl rfl rfl ?_
    refine ml_val (my_load Try.underlying41 rfl (q := 0) rfl rfl rfl rfl rfl (fun _ => ⟨_, I41, S41⟩) rfl rfl) rfl rfl rfl ?_
    refine ml_ow rfl (mo_lit (W := []) (ls := [recA r0]) (xs := [_]) Try.underlying38 I41 Z41 S41 rfl rfl rfl rfl rfl rfl rfl (fun k7 => ?_))
    refine ml_pre (sh_frz 34 (q := 2) rfl rfl) ?_
    refine ml_norm [0, 1] [⟨_, _⟩, ⟨_, _⟩] (by decide) rfl ?_
    refine ml_ow rfl (mo_append Try.underlying38 I41 Z41 S41 rfl (by decide) (by rw [B41]; decide) rfl (q := 1) rfl rfl (fun a ha => by simp at ha; subst ha; rfl) (by simp; omega) rfl (W := [1]) rfl (fun k8 => ?_))
    refine ml_val (my_assign (Sm.osl _)) rfl rfl rfl ?_
    refine ml_nil ?_
    refine z_seq ?_
    refine m_seq ?_
    refine m_region ?_
    refine ml_val (my_move (Sm.osl _)) rfl rfl rfl ?_
    refine ml_val (my_move (Sm.sl _)) rfl rfl rfl ?_
    refine ml_val (my_move (Sm.v _)) rfl rfl rfl ?_
    refine ml_val (my_loS Try.underlying38 I41 S41 (recsA_sz _) rfl rfl (by omega) (by rw [recsA_length]; omega)) rfl rfl rfl ?_
    refine ml_ow rfl (mo_append Try.underlying38 I41 Z41 S41 rfl (by decide) (by rw [B41]; decide) rfl (q := 1) rfl rfl (fun a ha => recsA_sz _ a (List.mem_of_mem_drop ha)) (by simp; omega) rfl (W := [1]) rfl (fun k9 => ?_))
    refine ml_val (my_assign (Sm.osl _)) rfl rfl rfl ?_
    refine ml_nil ?_
    refine z_seq ?_
    refine m_seq ?_
    refine m_region ?_
    refine ml_val (my_move (Sm.osl _)) rfl rfl rfl ?_
    refine ml_val (my_assign (Sm.osl _)) rfl rfl rfl ?_
    refine ml_nil ?_
    refine z_seq ?_
    refine m_pre (sh_frz 4 (q := 1) rfl rfl) ?_
    refine m_norm [] [] (by decide) rfl ?_
    refine m_ret ?_
    exact ⟨.sl (recsA (laidR l r0)), mres1 rfl (by show A.sl _ = _; unfold laidR; rw [← hW, ← hie]; simp [recsA, recA, List.map_take, List.map_drop]), rfl, rfl⟩

end Go.Proofs.Ytlklapledogdcaa.K
