/- The store: where a key is, its version. Condition: the store is well. -/
import Derived.Test.YtlklapledogdcaaSB2
namespace Go.Proofs.Ytlklapledogdcaa.K
open Go

set_option maxRecDepth 100000 in
set_option maxHeartbeats 1000000 in
theorem find_c (p r : Nat) (s : St) (hw : SW s) (k : ByteArray) : MF Try.prog 26 [.ptr p [] 0, sv k] (SH p r s) (fun Hs' res => Hs' = SH p r s ∧ res = .tup [iv .i64 (lb s.recs k : Int), tv (isK s.recs k)]) := by
  refine m_enter Try.func26 rfl Try.ntmps26 rfl ?_
  unfold SH
  refine m_seq ?_
  refine m_region ?_
  refine ml_val (my_assign (Sm.v _)) rfl rfl rfl ?_
  refine ml_val (my_assign (Sm.v _)) rfl rfl rfl ?_
  refine ml_nil ?_
  refine z_seq ?_
  refine m_seq ?_
  refine m_region ?_
  refine ml_val (my_move (Sm.ptr _ _ _)) rfl rfl rfl ?_
  refine ml_val (my_nil rfl) rfl rfl rfl ?_
  refine ml_val (my_field Try.underlying58 rfl I38 S38 rfl rfl rfl) rfl rfl rfl ?_
  refine ml_val (my_load Try.underlying38 rfl (q := 0) rfl rfl rfl rfl rfl (fun h => absurd (show false = true from h) Bool.false_ne_true) rfl rfl) rfl rfl rfl ?_
  refine ml_val (my_move (Sm.v _)) rfl rfl rfl ?_
  refine ml_ow rfl (mo_call [1] fn34 rfl rfl (search_c r s.recs k hw.srt (by have := hw.len; omega)) rfl rfl (fun Hs' a hp => ?_))
  obtain ⟨rfl, rfl⟩ := hp
  refine ml_norm [0, 2] [⟨_, _⟩, ⟨_, _⟩] (by decide) rfl ?_
  refine ml_val (my_extract rfl rfl) rfl rfl rfl ?_
  refine ml_val (my_extract rfl rfl) rfl rfl rfl ?_
  refine ml_val (my_assign (Sm.v _)) rfl rfl rfl ?_
  refine ml_val (my_assign (Sm.v _)) rfl rfl rfl ?_
  refine ml_nil ?_
  refine z_seq ?_
  refine m_ret ?_
  exact ⟨.tup [iv .i64 (lb s.recs k : Int), tv (isK s.recs k)], mres2 rfl rfl rfl, rfl, rfl⟩

set_option maxRecDepth 100000 in
set_option maxHeartbeats 1000000 in
theorem version_c (p r : Nat) (s : St) (hw : SW s) (k : ByteArray) : MF Try.prog 25 [.ptr p [] 0, sv k] (SH p r s) (fun Hs' res => Hs' = SH p r s ∧ res = iv .i64 (verR s.recs k)) := by
  refine m_enter Try.func25 rfl Try.ntmps25 rfl ?_
  unfold SH
  refine m_seq ?_
  refine m_region ?_
  refine ml_val (my_assign (Sm.v _)) rfl rfl rfl ?_
  refine ml_nil ?_
  refine z_seq ?_
  refine m_seq ?_
  refine m_region ?_
  refine ml_val (my_move (Sm.ptr _ _ _)) rfl rfl rfl ?_
  refine ml_val (my_move (Sm.v _)) rfl rfl rfl ?_
  refine ml_ow rfl (mo_call [0, 1] fn26 rfl rfl (find_c p r s hw k) rfl rfl (fun Hs' a hp => ?_))
  obtain ⟨rfl, rfl⟩ := hp
  refine ml_norm [2, 3] [⟨_, _⟩, ⟨_, _⟩] (by decide) rfl ?_
  refine ml_val (my_move (Sm.tup _)) rfl rfl rfl ?_
  refine ml_val (my_extract rfl rfl) rfl rfl rfl ?_
  refine ml_val (my_extract rfl rfl) rfl rfl rfl ?_
  refine ml_val (my_assign (Sm.v _)) rfl rfl rfl ?_
  refine ml_val (my_assign (Sm.v _)) rfl rfl rfl ?_
  refine ml_nil ?_
  refine z_seq ?_
  refine m_seq ?_
  refine m_seq ?_
  refine m_region ?_
  refine ml_val (my_move (Sm.v _)) rfl rfl rfl ?_
  refine ml_val (my_not rfl) rfl rfl rfl ?_
  refine ml_nil ?_
  refine z_seq ?_
  refine m_cond rfl (fun hk => ?_) (fun hk => ?_)
  · skip
    replace hk : isK s.recs k = false := by simpa using hk
    refine m_seq ?_
    refine m_region ?_
    refine ml_val (my_assign (Sm.v _)) rfl rfl rfl ?_
    refine ml_nil ?_
    refine z_seq ?_
    refine m_ret ?_
    refine z_seqR ?_
    exact ⟨iv .i64 0, mres1 rfl rfl, rfl, by unfold verR; rw [isK_none hk]⟩
  · skip
    replace hk : isK s.recs k = true := by simpa using hk
    obtain ⟨x, hx, hxk, hg⟩ := isK_spec hk
    have hlt : lb s.recs k < s.recs.length := (List.getElem?_eq_some_iff.1 hx).1
    refine m_skip ?_
    refine z_seq ?_
    refine m_seq ?_
    refine m_region ?_
    refine ml_val (my_move (Sm.ptr _ _ _)) rfl rfl rfl ?_
    refine ml_val (my_nil rfl) rfl rfl rfl ?_
    refine ml_val (my_field Try.underlying58 rfl I38 S38 rfl rfl rfl) rfl rfl rfl ?_
    refine ml_val (my_load Try.underlying38 rfl (q := 0) rfl rfl rfl rfl rfl (fun h => absurd (show false = true from h) Bool.false_ne_true) rfl rfl) rfl rfl rfl ?_
    refine ml_val (my_move (Sm.v _)) rfl rfl rfl ?_
    refine ml_val (my_indexO Try.underlying38 I41 S41 (q := 1) rfl rfl rfl (by omega) (by rw [recsA_length]; omega) rfl) rfl rfl rfl ?_
    refine ml_val (my_field Try.underlying41 rfl I3 S3 rfl rfl rfl) rfl rfl rfl ?_
    refine ml_val (my_loadR (i := lb s.recs k) (el := recA x) (p := [1]) Try.underlying3 rfl (q := 1) rfl (recsA_get hx) rfl rfl rfl (fun h => absurd (show false = true from h) Bool.false_ne_true) rfl rfl) rfl rfl rfl ?_
    refine ml_val (my_assign (Sm.v _)) rfl rfl rfl ?_
    refine ml_nil ?_
    refine z_seq ?_
    refine m_ret ?_
    exact ⟨iv .i64 x.ver, mres1 rfl rfl, rfl, by unfold verR; rw [hg]⟩

set_option maxRecDepth 100000 in
set_option maxHeartbeats 1000000 in
theorem clone_c (bs : List UInt8) (hl : bs.length ≤ 100000000) : MF Try.prog 27 [.sl (bs.map u8A)] [] (fun Hs' res => Hs' = [] ∧ res = .sl (bs.map u8A)) := by
  refine m_enter Try.func27 rfl Try.ntmps27 rfl ?_
  refine m_seq ?_
  refine m_region ?_
  refine ml_val (my_assign Sm.nl) rfl rfl rfl ?_
  refine ml_nil ?_
  refine z_seq ?_
  refine m_seq ?_
  refine m_seq ?_
  refine m_region ?_
  refine ml_val (my_move (by first | exact Sm.sl _ | exact Sm.osl _ | exact Sm.nl)) rfl rfl rfl ?_
  refine ml_eqNil Try.underlying28 rfl rfl (fun b hb0 => ?_)
  refine ml_nil ?_
  refine z_seq ?_
  refine m_cond rfl (fun hb => ?_) (fun hb => ?_)
  · skip
    refine m_seq ?_
    refine m_region ?_
    refine ml_val (my_assign Sm.nl) rfl rfl rfl ?_
    refine ml_nil ?_
    refine z_seq ?_
    refine m_ret ?_
    refine z_seqR ?_
    obtain rfl : bs = [] := by simpa using hb0 hb
    exact ⟨.sl [], (mres1 (a := .nl) rfl rfl).weak rv_nl, rfl, rfl⟩
  · skip
    refine m_skip ?_
    refine z_seq ?_
    refine m_seq ?_
    refine m_region ?_
    refine ml_ow rfl (mo_lit0 (W := []) Try.underlying28 I5 S5 rfl (fun k1 => ?_))
    refine ml_val (my_move (by first | exact Sm.sl _ | exact Sm.osl _ | exact Sm.nl)) rfl rfl rfl ?_
    refine ml_ow rfl (mo_append Try.underlying28 I5 Z5 S5 rfl (by decide) (by rw [B5]; decide) rfl (q := 0) rfl rfl (fun a ha => by obtain ⟨b, _, rfl⟩ := List.mem_map.1 ha; rfl) (by simp; omega) rfl (W := [0]) rfl (fun k2 => ?_))
    refine ml_val (my_assign (Sm.osl _)) rfl rfl rfl ?_
    refine ml_nil ?_
    refine z_seq ?_
    refine m_pre (sh_frz 2 (q := 0) rfl rfl) ?_
    refine m_norm [] [] (by decide) rfl ?_
    refine m_ret ?_
    exact ⟨.sl (bs.map u8A), mres1 rfl rfl, rfl, rfl⟩

set_option maxRecDepth 100000 in
set_option maxHeartbeats 1000000 in
theorem New_c (m : Int) : MF Try.prog 8 [iv .i64 m] [] (fun Hs' res => ∃ p r, Hs' = SH p r ⟨max m 0, [], 0⟩ ∧ res = .ptr p [] 0) := by
  refine m_enter Try.func8 rfl Try.ntmps8 rfl ?_
  refine m_seq ?_
  refine m_region ?_
  refine ml_val (my_assign (by first | exact Sm.ptr _ _ _ | exact Sm.v _ | exact Sm.fp _)) rfl rfl rfl ?_
  refine ml_nil ?_
  refine z_seq ?_
  refine m_seq ?_
  refine m_region ?_
  refine ml_val (my_move (Sm.v _)) rfl rfl rfl ?_
  refine ml_val (my_max rfl rfl) rfl rfl rfl ?_
  refine ml_val (my_build (ps := [(_, _)]) BL58 RZ58 rfl rfl rfl) rfl rfl rfl ?_
  refine ml_ow rfl (mo_box (W := []) rfl rfl rfl (fun k1 => ?_))
  refine ml_val (my_assign (Sm.ptr _ _ _)) rfl rfl rfl ?_
  refine ml_nil ?_
  refine z_seq ?_
  refine m_own_in (q := 0) [1] 41 3 rfl rfl ?_
  intro k2
  refine m_ret ?_
  exact ⟨.ptr k1 [] 0, mres1 rfl rfl, k1, k2, rfl, rfl⟩

set_option maxRecDepth 100000 in
set_option maxHeartbeats 1000000 in
theorem Len_c (p r : Nat) (s : St) : MF Try.prog 11 [.ptr p [] 0] (SH p r s) (fun Hs' res => Hs' = SH p r s ∧ res = iv .i64 (s.recs.length : Int)) := by
  refine m_enter Try.func11 rfl Try.ntmps11 rfl ?_
  unfold SH
  refine m_seq ?_
  refine m_region ?_
  refine ml_val (my_assign (Sm.v _)) rfl rfl rfl ?_
  refine ml_nil ?_
  refine z_seq ?_
  refine m_seq ?_
  refine m_region ?_
  refine ml_val (my_move (Sm.ptr _ _ _)) rfl rfl rfl ?_
  refine ml_val (my_nil rfl) rfl rfl rfl ?_
  refine ml_val (my_field Try.underlying58 rfl I38 S38 rfl rfl rfl) rfl rfl rfl ?_
  refine ml_val (my_load Try.underlying38 rfl (q := 0) rfl rfl rfl rfl rfl (fun h => absurd (show false = true from h) Bool.false_ne_true) rfl rfl) rfl rfl rfl ?_
  refine ml_val (my_lenO Try.underlying38 rfl (q := 1) rfl) rfl rfl rfl ?_
  refine ml_val (my_assign (Sm.v _)) rfl rfl rfl ?_
  refine ml_nil ?_
  refine z_seq ?_
  refine m_ret ?_
  exact ⟨iv .i64 (s.recs.length : Int), mres1 rfl (by show iv .i64 ((recsA s.recs).length : Int) = _; rw [recsA_length]), rfl, rfl⟩

set_option maxRecDepth 100000 in
set_option maxHeartbeats 1000000 in
theorem Get_c (p r : Nat) (s : St) (hw : SW s) (k : ByteArray) (hv : ∀ x ∈ s.recs, x.val.length ≤ 100000000) : MF Try.prog 13 [.ptr p [] 0, sv k] (SH p r s) (fun Hs' res => Hs' = SH p r s ∧ res = .tup [.sl ((valR s.recs k).map u8A), iv .i64 (verR s.recs k)]) := by
  refine m_enter Try.func13 rfl Try.ntmps13 rfl ?_
  unfold SH
  refine m_seq ?_
  refine m_region ?_
  refine ml_val (my_assign Sm.nl) rfl rfl rfl ?_
  refine ml_val (my_assign (Sm.v _)) rfl rfl rfl ?_
  refine ml_nil ?_
  refine z_seq ?_
  refine m_seq ?_
  refine m_region ?_
  refine ml_val (my_move (Sm.ptr _ _ _)) rfl rfl rfl ?_
  refine ml_val (my_move (Sm.v _)) rfl rfl rfl ?_
  refine ml_ow rfl (mo_call [0, 1] fn26 rfl rfl (find_c p r s hw k) rfl rfl (fun Hs' a hp => ?_))
  obtain ⟨rfl, rfl⟩ := hp
  refine ml_norm [2, 3] [⟨_, _⟩, ⟨_, _⟩] (by decide) rfl ?_
  refine ml_val (my_move (Sm.tup _)) rfl rfl rfl ?_
  refine ml_val (my_extract rfl rfl) rfl rfl rfl ?_
  refine ml_val (my_extract rfl rfl) rfl rfl rfl ?_
  refine ml_val (my_assign (Sm.v _)) rfl rfl rfl ?_
  refine ml_val (my_assign (Sm.v _)) rfl rfl rfl ?_
  refine ml_nil ?_
  refine z_seq ?_
  refine m_seq ?_
  refine m_seq ?_
  refine m_region ?_
  refine ml_val (my_move (Sm.v _)) rfl rfl rfl ?_
  refine ml_val (my_not rfl) rfl rfl rfl ?_
  refine ml_nil ?_
  refine z_seq ?_
  refine m_cond rfl (fun hk => ?_) (fun hk => ?_)
  · skip
    replace hk : isK s.recs k = false := by simpa using hk
    refine m_seq ?_
    refine m_region ?_
    refine ml_val (my_assign Sm.nl) rfl rfl rfl ?_
    refine ml_val (my_assign (Sm.v _)) rfl rfl rfl ?_
    refine ml_nil ?_
    refine z_seq ?_
    refine m_ret ?_
    refine z_seqR ?_
    exact ⟨.tup [.sl [], iv .i64 0], (mres2 (a := .nl) rfl rfl rfl).weak (rv_tnl _), rfl, by unfold verR valR; rw [isK_none hk]; rfl⟩
  · skip
    replace hk : isK s.recs k = true := by simpa using hk
    obtain ⟨x, hx, hxk, hg⟩ := isK_spec hk
    have hlt : lb s.recs k < s.recs.length := (List.getElem?_eq_some_iff.1 hx).1
    refine m_skip ?_
    refine z_seq ?_
    refine m_seq ?_
    refine m_regionD (fun i => List.contains [0, 1] i) [] [(0, true), (1, true), (2, true), (3, true), (4, true), (5, true), (6, true), (7, true), (9, true), (10, true), (11, true), (12, true), (13, true), (14, true), (15, true), (16, true), (8, false), (17, true), (18, true)] mixed (by kernel_rfl) ?_
    refine mr_val rfl (my_move (Sm.ptr _ _ _)) rfl rfl rfl ?_
    refine mr_val rfl (my_nil rfl) rfl rfl rfl ?_
    refine mr_val rfl (my_field Try.underlying58 rfl I38 S38 rfl rfl rfl) rfl rfl rfl ?_
    refine mr_val rfl (my_load Try.underlying38 rfl (q := 0) rfl rfl rfl rfl rfl (fun h => absurd (show false = true from h) Bool.false_ne_true) rfl rfl) rfl rfl rfl ?_
    refine mr_val rfl (my_move (Sm.v _)) rfl rfl rfl ?_
    refine mr_val rfl (my_indexO Try.underlying38 I41 S41 (q := 1) rfl rfl rfl (by omega) (by rw [recsA_length]; omega) rfl) rfl rfl rfl ?_
    refine mr_val rfl (my_field Try.underlying41 rfl I28 S28 rfl rfl rfl) rfl rfl rfl ?_
    refine mr_val rfl (my_loadR (i := lb s.recs k) (el := recA x) (p := [2]) Try.underlying28 rfl (q := 1) rfl (recsA_get hx) rfl rfl rfl (fun h => absurd (show false = true from h) Bool.false_ne_true) rfl rfl) rfl rfl rfl ?_
    refine mr_val rfl (my_move (Sm.ptr _ _ _)) rfl rfl rfl ?_
    refine mr_val rfl (my_nil rfl) rfl rfl rfl ?_
    refine mr_val rfl (my_field Try.underlying58 rfl I38 S38 rfl rfl rfl) rfl rfl rfl ?_
    refine mr_val rfl (my_load Try.underlying38 rfl (q := 0) rfl rfl rfl rfl rfl (fun h => absurd (show false = true from h) Bool.false_ne_true) rfl rfl) rfl rfl rfl ?_
    refine mr_val rfl (my_move (Sm.v _)) rfl rfl rfl ?_
    refine mr_val rfl (my_indexO Try.underlying38 I41 S41 (q := 1) rfl rfl rfl (by omega) (by rw [recsA_length]; omega) rfl) rfl rfl rfl ?_
    refine mr_val rfl (my_field Try.underlying41 rfl I3 S3 rfl rfl rfl) rfl rfl rfl ?_
    refine mr_val rfl (my_loadR (i := lb s.recs k) (el := recA x) (p := [1]) Try.underlying3 rfl (q := 1) rfl (recsA_get hx) rfl rfl rfl (fun h => absurd (show false = true from h) Bool.false_ne_true) rfl rfl) rfl rfl rfl ?_
    refine mr_ow rfl rfl rfl (mo_call [] fn27 rfl rfl (clone_c x.val (hv x (List.mem_of_getElem? hx))) rfl rfl (fun Hs' a hp => ?_))
    obtain ⟨rfl, rfl⟩ := hp
    refine mr_norm [0, 1] [⟨_, _⟩, ⟨_, _⟩] (by decide) rfl (by first | exact fun _ _ => rfl | (intro i hi; simp at hi; done) | (intro i hi; simp at hi; rcases hi with rfl | rfl | rfl <;> rfl) | (intro i hi; simp at hi; rcases hi with rfl | rfl <;> rfl) | (intro i hi; simp at hi; subst hi; rfl)) ?_
    refine mr_val rfl (my_assign (Sm.sl _)) rfl rfl rfl ?_
    refine mr_val rfl (my_assign (Sm.v _)) rfl rfl rfl ?_
    refine mr_nil ?_
    refine z_seq ?_
    refine m_ret ?_
    exact ⟨.tup [.sl (x.val.map u8A), iv .i64 x.ver], mres2 rfl rfl rfl, rfl, by unfold verR valR; rw [hg]⟩

set_option maxRecDepth 100000 in
set_option maxHeartbeats 1000000 in
theorem hasPre_c (a b : ByteArray) : MF Try.prog 43 [sv a, sv b] [] (fun Hs' res => Hs' = [] ∧ res = tv (pre a b)) := by
  refine m_enter Try.func43 rfl Try.ntmps43 rfl ?_
  refine m_seq ?_
  refine m_region ?_
  refine ml_val (my_assign (Sm.v _)) rfl rfl rfl ?_
  refine ml_nil ?_
  refine z_seq ?_
  refine m_seq ?_
  refine m_region ?_
  refine ml_val (my_move (Sm.v _)) rfl rfl rfl ?_
  refine ml_val (my_lenStr Try.underlying9 rfl) rfl rfl rfl ?_
  refine ml_val (my_move (Sm.v _)) rfl rfl rfl ?_
  refine ml_val (my_lenStr Try.underlying9 rfl) rfl rfl rfl ?_
  by_cases hle : b.size ≤ a.size
  · skip
    refine ml_val (MY.to (a' := tv true) (my_geq rfl rfl) (congrArg tv (decide_eq_true (by omega)))) rfl rfl rfl ?_
    refine ml_val (my_move (Sm.v _)) rfl rfl rfl ?_
    first | refine ml_skipG rfl rfl rfl rfl rfl rfl ?_ | refine ml_valG (my_move (Sm.v _)) rfl rfl rfl rfl rfl ?_
    first | refine ml_skipG rfl rfl rfl rfl rfl rfl ?_ | refine ml_valG (my_move (Sm.v _)) rfl rfl rfl rfl rfl ?_
    refine ml_valG (my_lenStr Try.underlying9 rfl) rfl rfl rfl rfl rfl ?_
    refine ml_valG (my_strHi Try.underlying9 rfl rfl (by omega) (by omega)) rfl rfl rfl rfl rfl ?_
    first | refine ml_skipG rfl rfl rfl rfl rfl rfl ?_ | refine ml_valG (my_move (Sm.v _)) rfl rfl rfl rfl rfl ?_
    first | refine ml_skipG rfl rfl rfl rfl rfl rfl ?_ | refine ml_valG (my_seql rfl rfl) rfl rfl rfl rfl rfl ?_
    refine ml_val (my_pickT rfl (Sm.v _)) rfl rfl rfl ?_
    refine ml_val (my_assign (Sm.v _)) rfl rfl rfl ?_
    refine ml_nil ?_
    refine z_seq ?_
    refine m_ret ?_
    exact ⟨tv (decide (a.extract 0 b.size = b)), mres1 rfl rfl, rfl, by unfold pre; rw [decide_eq_true hle, Bool.true_and]⟩
  · skip
    refine ml_val (MY.to (a' := tv false) (my_geq rfl rfl) (congrArg tv (decide_eq_false (by omega)))) rfl rfl rfl ?_
    refine ml_val (my_move (Sm.v _)) rfl rfl rfl ?_
    first | refine ml_skipG rfl rfl rfl rfl rfl rfl ?_ | refine ml_valG (my_move (Sm.v _)) rfl rfl rfl rfl rfl ?_
    first | refine ml_skipG rfl rfl rfl rfl rfl rfl ?_ | refine ml_valG (my_move (Sm.v _)) rfl rfl rfl rfl rfl ?_
    refine ml_skipG rfl rfl rfl rfl rfl rfl ?_
    refine ml_skipG rfl rfl rfl rfl rfl rfl ?_
    first | refine ml_skipG rfl rfl rfl rfl rfl rfl ?_ | refine ml_valG (my_move (Sm.v _)) rfl rfl rfl rfl rfl ?_
    first | refine ml_skipG rfl rfl rfl rfl rfl rfl ?_ | refine ml_valG (my_seql rfl rfl) rfl rfl rfl rfl rfl ?_
    refine ml_val (my_pickF rfl (Sm.v _)) rfl rfl rfl ?_
    refine ml_val (my_assign (Sm.v _)) rfl rfl rfl ?_
    refine ml_nil ?_
    refine z_seq ?_
    refine m_ret ?_
    exact ⟨tv false, mres1 rfl rfl, rfl, by unfold pre; rw [decide_eq_false hle, Bool.false_and]⟩

set_option maxRecDepth 100000 in
set_option maxHeartbeats 1000000 in
theorem HasPrefix_c (a b : ByteArray) : MF Try.prog 40 [sv a, sv b] [] (fun Hs' res => Hs' = [] ∧ res = tv (pre a b)) := by
  refine m_enter Try.func40 rfl Try.ntmps40 rfl ?_
  refine m_seq ?_
  refine m_region ?_
  refine ml_val (my_assign (Sm.v _)) rfl rfl rfl ?_
  refine ml_nil ?_
  refine z_seq ?_
  refine m_seq ?_
  refine m_region ?_
  refine ml_val (my_move (Sm.v _)) rfl rfl rfl ?_
  refine ml_val (my_move (Sm.v _)) rfl rfl rfl ?_
  refine ml_ow rfl (mo_call [] fn43 rfl rfl (hasPre_c a b) rfl rfl (fun Hs' a hp => ?_))
  obtain ⟨rfl, rfl⟩ := hp
  refine ml_norm [] [] (by decide) rfl ?_
  refine ml_val (my_assign (Sm.v _)) rfl rfl rfl ?_
  refine ml_nil ?_
  refine z_seq ?_
  refine m_ret ?_
  exact ⟨tv (pre a b), mres1 rfl rfl, rfl, rfl⟩

end Go.Proofs.Ytlklapledogdcaa.K
