/- The store: what puts a value. Conditions: the store is well, the value is not too long for memory. -/
import Derived.Test.YtlklapledogdcaaSC
namespace Go.Proofs.Ytlklapledogdcaa.K
open Go

set_option maxRecDepth 100000 in
set_option maxHeartbeats 1000000 in
theorem Cas_c (p r : Nat) (s : St) (hw : SW s) (k : ByteArray) (n : Int) (v : List UInt8) (hvl : v.length ≤ 100000000) : MF Try.prog 14 [.ptr p [] 0, sv k, iv .i64 n, .sl (v.map u8A)] (SH p r s) (fun Hs' res => ∃ r', Hs' = SH p r' (cas s k n v).1 ∧ res = .tup [iv .i64 (cas s k n v).2.1, iv .u16 (cas s k n v).2.2]) := by
  refine m_enter Try.func14 rfl Try.ntmps14 rfl ?_
  unfold SH
  have hcnt := hw.cnt
  have hlen := hw.len
  have hle := lb_le s.recs k
  refine m_seq ?_
  refine m_region ?_
  refine ml_val (my_assign (Sm.v _)) rfl rfl rfl ?_
  refine ml_val (my_assign (Sm.v _)) rfl rfl rfl ?_
  refine ml_nil ?_
  refine z_seq ?_
  refine m_seq ?_
  refine m_region ?_
  refine ml_val (my_move (Sm.ptr _ _ _)) rfl rfl rfl ?_
  refine ml_val (my_move (Sm.v _)) rfl rfl rfl ?_
  refine ml_ow rfl (mo_call [0, 1] fn26 rfl rfl (find_c p r s hw k) rfl rfl (fun Hs' a hp => ?_))
  obtain ⟨rfl, rfl⟩ := hp
  refine ml_norm [2, 3] [⟨_, _⟩, ⟨_, _⟩] (by decide) rfl ?_
  refine ml_val (my_move (Sm.tup _)) rfl rfl rfl ?_
  refine ml_val (my_extract rfl rfl) rfl rfl rfl ?_
  refine ml_val (my_extract rfl rfl) rfl rfl rfl ?_
  refine ml_val (my_assign (Sm.v _)) rfl rfl rfl ?_
  refine ml_val (my_assign (Sm.v _)) rfl rfl rfl ?_
  refine ml_nil ?_
  refine z_seq ?_
  refine m_seq ?_
  refine m_block ?_
  refine m_seq ?_
  refine m_region ?_
  refine ml_val (my_move (by first | exact Sm.sl _ | exact Sm.osl _ | exact Sm.nl)) rfl rfl rfl ?_
  refine ml_val (MY.to (a' := iv .i64 (v.length : Int)) (my_lenS Try.underlying28 rfl) (by rw [List.length_map])) rfl rfl rfl ?_
  refine ml_val (my_gtr rfl rfl) rfl rfl rfl ?_
  refine ml_val (my_assign (Sm.v _)) rfl rfl rfl ?_
  refine ml_nil ?_
  refine z_seq ?_
  refine m_condp rfl (fun h1 => ?_) (fun h1 => ?_)
  · skip
    refine m_seq ?_
    refine m_region ?_
    refine ml_val (my_assign (Sm.v _)) rfl rfl rfl ?_
    refine ml_val (my_assign (Sm.v _)) rfl rfl rfl ?_
    refine ml_nil ?_
    refine z_seq ?_
    refine m_ret ?_
    refine z_blkR ?_
    refine z_seqR ?_
    exact ⟨.tup [iv .i64 (0), iv .u16 3], mres2 rfl rfl rfl, r, by rw [cas_long (by omega)], by rw [cas_long (by omega)]⟩
  · skip
    refine m_seq ?_
    refine m_region ?_
    refine ml_val (my_move (Sm.ptr _ _ _)) rfl rfl rfl ?_
    refine ml_val (my_move (Sm.v _)) rfl rfl rfl ?_
    refine ml_ow rfl (mo_call [0, 1] fn25 rfl rfl (version_c p r s hw k) rfl rfl (fun Hs' a hp => ?_))
    obtain ⟨rfl, rfl⟩ := hp
    refine ml_norm [2, 3] [⟨_, _⟩, ⟨_, _⟩] (by decide) rfl ?_
    refine ml_val (my_move (Sm.v _)) rfl rfl rfl ?_
    refine ml_val (my_neq rfl rfl) rfl rfl rfl ?_
    refine ml_val (my_assign (Sm.v _)) rfl rfl rfl ?_
    refine ml_nil ?_
    refine z_seq ?_
    refine m_condp rfl (fun h2 => ?_) (fun h2 => ?_)
    · skip
      refine m_seq ?_
      refine m_region ?_
      refine ml_val (my_assign (Sm.v _)) rfl rfl rfl ?_
      refine ml_val (my_assign (Sm.v _)) rfl rfl rfl ?_
      refine ml_nil ?_
      refine z_seq ?_
      refine m_ret ?_
      refine z_blkR ?_
      refine z_seqR ?_
      exact ⟨.tup [iv .i64 (0), iv .u16 30], mres2 rfl rfl rfl, r, by rw [cas_ver (by omega) h2], by rw [cas_ver (by omega) h2]⟩
    · skip
      refine m_seq ?_
      refine m_regionD (fun i => List.contains [0, 1] i) [] [(0, true), (1, true), (2, true), (3, true), (4, true), (5, true), (6, true), (7, true), (8, true), (9, true), (10, true), (11, true), (12, true), (13, true), (14, true)] mixed (by kernel_rfl) ?_
      refine mr_val rfl (my_move (Sm.v _)) rfl rfl rfl ?_
      cases hk : isK s.recs k
      · skip
        refine mr_val rfl (MY.to (a' := tv true) (my_not rfl) rfl) rfl rfl rfl ?_
        refine mr_val rfl (my_move (Sm.v _)) rfl rfl rfl ?_
        first | refine mr_skipG rfl rfl rfl rfl rfl rfl rfl ?_ | refine mr_valG rfl (my_move (Sm.ptr _ _ _)) rfl rfl rfl rfl rfl ?_
        first | refine mr_skipG rfl rfl rfl rfl rfl rfl rfl ?_ | refine mr_valG rfl (my_nil rfl) rfl rfl rfl rfl rfl ?_
        first | refine mr_skipG rfl rfl rfl rfl rfl rfl rfl ?_ | refine mr_valG rfl (my_field Try.underlying58 rfl I38 S38 rfl rfl rfl) rfl rfl rfl rfl rfl ?_
        first | refine mr_skipG rfl rfl rfl rfl rfl rfl rfl ?_ | refine mr_valG rfl (my_load Try.underlying38 rfl (q := 0) rfl rfl rfl rfl rfl (fun h => absurd (show false = true from h) Bool.false_ne_true) rfl rfl) rfl rfl rfl rfl rfl ?_
        first | refine mr_skipG rfl rfl rfl rfl rfl rfl rfl ?_ | refine mr_valG rfl (MY.to (a' := iv .i64 (s.recs.length : Int)) (my_lenO Try.underlying38 rfl (q := 1) rfl) (by rw [recsA_length])) rfl rfl rfl rfl rfl ?_
        first | refine mr_skipG rfl rfl rfl rfl rfl rfl rfl ?_ | refine mr_valG rfl (my_move (Sm.ptr _ _ _)) rfl rfl rfl rfl rfl ?_
        first | refine mr_skipG rfl rfl rfl rfl rfl rfl rfl ?_ | refine mr_valG rfl (my_nil rfl) rfl rfl rfl rfl rfl ?_
        first | refine mr_skipG rfl rfl rfl rfl rfl rfl rfl ?_ | refine mr_valG rfl (my_field Try.underlying58 rfl I3 S3 rfl rfl rfl) rfl rfl rfl rfl rfl ?_
        first | refine mr_skipG rfl rfl rfl rfl rfl rfl rfl ?_ | refine mr_valG rfl (my_load Try.underlying3 rfl (q := 0) rfl rfl rfl rfl rfl (fun h => absurd (show false = true from h) Bool.false_ne_true) rfl rfl) rfl rfl rfl rfl rfl ?_
        first | refine mr_skipG rfl rfl rfl rfl rfl rfl rfl ?_ | refine mr_valG rfl (my_geq rfl rfl) rfl rfl rfl rfl rfl ?_
        refine mr_val rfl (my_pickT rfl (Sm.v _)) rfl rfl rfl ?_
        refine mr_val rfl (my_assign (Sm.v _)) rfl rfl rfl ?_
        refine mr_nil ?_
        refine z_seq ?_
        refine m_condp rfl (fun h3 => ?_) (fun h3 => ?_)
        · skip
          refine m_seq ?_
          refine m_region ?_
          refine ml_val (my_assign (Sm.v _)) rfl rfl rfl ?_
          refine ml_val (my_assign (Sm.v _)) rfl rfl rfl ?_
          refine ml_nil ?_
          refine z_seq ?_
          refine m_ret ?_
          refine z_blkR ?_
          refine z_seqR ?_
          exact ⟨.tup [iv .i64 (0), iv .u16 31], mres2 rfl rfl rfl, r, by rw [cas_full (by omega) h2 hk h3], by rw [cas_full (by omega) h2 hk h3]⟩
        · skip
          refine m_seq ?_
          refine m_region ?_
          refine ml_val (my_move (Sm.v _)) rfl rfl rfl ?_
          refine ml_val (MY.to (a' := tv true) (my_not rfl) rfl) rfl rfl rfl ?_
          refine ml_val (my_assign (Sm.v _)) rfl rfl rfl ?_
          refine ml_nil ?_
          refine z_seq ?_
          refine m_condT rfl ?_
          refine m_region ?_
          refine ml_val (my_move (Sm.ptr _ _ _)) rfl rfl rfl ?_
          refine ml_val (my_move (Sm.ptr _ _ _)) rfl rfl rfl ?_
          refine ml_val (my_nil rfl) rfl rfl rfl ?_
          refine ml_val (my_field Try.underlying58 rfl I38 S38 rfl rfl rfl) rfl rfl rfl ?_
          refine ml_val (my_load Try.underlying38 rfl (q := 0) rfl rfl rfl rfl rfl (fun h => absurd (show false = true from h) Bool.false_ne_true) rfl rfl) rfl rfl rfl ?_
          refine ml_val (my_move (Sm.v _)) rfl rfl rfl ?_
          refine ml_val (my_move (Sm.v _)) rfl rfl rfl ?_
          refine ml_val (my_build (ps := [(_, _)]) BL41 RZ41s rfl rfl rfl) rfl rfl rfl ?_
          refine ml_ow rfl (mo_lit (W := []) (xs := [_]) Try.underlying38 I41 Z41 S41 rfl rfl rfl rfl rfl rfl rfl (fun k1 => ?_))
          refine ml_ow rfl (mo_call [1, 2] fn28 rfl rfl (insert_c r k1 (recsA s.recs) (.agg [sv k, iv .i64 0, .sl []] : A) (lb s.recs k) (recsA_sz _) rfl (by rw [recsA_length]; exact lb_le _ _) (by rw [recsA_length]; exact hlen)) rfl rfl (fun Hs' a hp => ?_))
          obtain ⟨r1, rfl, rfl⟩ := hp
          refine ml_norm [0, 3] [⟨_, _⟩, ⟨_, _⟩] (by decide) rfl ?_
          refine ml_val (my_nil rfl) rfl rfl rfl ?_
          refine ml_val (my_field Try.underlying58 rfl I38 S38 rfl rfl rfl) rfl rfl rfl ?_
          refine ml_ow rfl (mo_store I38 S38 rfl rfl rfl (q := 0) rfl rfl rfl rfl rfl ?_)
          refine ml_nil ?_
          refine z_blk ?_
          refine z_seq ?_
          refine m_seq ?_
          refine m_region ?_
          refine ml_val (my_move (Sm.ptr _ _ _)) rfl rfl rfl ?_
          refine ml_val (my_nil rfl) rfl rfl rfl ?_
          refine ml_val (my_field Try.underlying58 rfl I3 S3 rfl rfl rfl) rfl rfl rfl ?_
          refine ml_val (my_load Try.underlying3 rfl (q := 0) rfl rfl rfl rfl rfl (fun h => absurd (show false = true from h) Bool.false_ne_true) rfl rfl) rfl rfl rfl ?_
          refine ml_val (my_add64 rfl rfl (by omega)) rfl rfl rfl ?_
          refine ml_val (my_nil rfl) rfl rfl rfl ?_
          refine ml_val (my_field Try.underlying58 rfl I3 S3 rfl rfl rfl) rfl rfl rfl ?_
          refine ml_ow rfl (mo_store I3 S3 rfl rfl rfl (q := 0) rfl rfl rfl rfl rfl ?_)
          refine ml_nil ?_
          refine z_seq ?_
          refine m_seq ?_
          refine m_regionD (fun i => List.contains [0] i) [] [(0, true), (1, true), (2, true), (3, true), (4, true), (5, true), (6, true), (7, true), (8, true), (9, true), (10, true), (11, true), (12, true), (13, true), (14, true), (15, false), (16, true), (17, true), (18, false), (19, true), (20, true), (21, false)] mixed (by kernel_rfl) ?_
          refine mr_val rfl (my_move (Sm.ptr _ _ _)) rfl rfl rfl ?_
          refine mr_val rfl (my_nil rfl) rfl rfl rfl ?_
          refine mr_val rfl (my_field Try.underlying58 rfl I38 S38 rfl rfl rfl) rfl rfl rfl ?_
          refine mr_val rfl (my_load Try.underlying38 rfl (q := 0) rfl rfl rfl rfl rfl (fun h => absurd (show false = true from h) Bool.false_ne_true) rfl rfl) rfl rfl rfl ?_
          refine mr_val rfl (my_move (Sm.v _)) rfl rfl rfl ?_
          refine mr_val rfl (my_move (Sm.ptr _ _ _)) rfl rfl rfl ?_
          refine mr_val rfl (my_nil rfl) rfl rfl rfl ?_
          refine mr_val rfl (my_field Try.underlying58 rfl I38 S38 rfl rfl rfl) rfl rfl rfl ?_
          refine mr_val rfl (my_load Try.underlying38 rfl (q := 0) rfl rfl rfl rfl rfl (fun h => absurd (show false = true from h) Bool.false_ne_true) rfl rfl) rfl rfl rfl ?_
          refine mr_val rfl (my_move (Sm.v _)) rfl rfl rfl ?_
          refine mr_val rfl (my_move (Sm.ptr _ _ _)) rfl rfl rfl ?_
          refine mr_val rfl (my_nil rfl) rfl rfl rfl ?_
          refine mr_val rfl (my_field Try.underlying58 rfl I3 S3 rfl rfl rfl) rfl rfl rfl ?_
          refine mr_val rfl (my_load Try.underlying3 rfl (q := 0) rfl rfl rfl rfl rfl (fun h => absurd (show false = true from h) Bool.false_ne_true) rfl rfl) rfl rfl rfl ?_
          refine mr_val rfl (my_move (by first | exact Sm.sl _ | exact Sm.osl _ | exact Sm.nl)) rfl rfl rfl ?_
          refine mr_ow rfl rfl rfl (mo_call [] fn27 rfl rfl (clone_c v (by omega)) rfl rfl (fun Hs' a hp => ?_))
          obtain ⟨rfl, rfl⟩ := hp
          refine mr_norm [0, 1] [⟨_, _⟩, ⟨_, _⟩] (by decide) rfl (by first | exact fun _ _ => rfl | (intro i hi; simp at hi; done) | (intro i hi; simp at hi; rcases hi with rfl | rfl | rfl <;> rfl) | (intro i hi; simp at hi; rcases hi with rfl | rfl <;> rfl) | (intro i hi; simp at hi; subst hi; rfl)) ?_
          refine mr_val rfl (my_indexO Try.underlying38 I41 S41 (q := 1) rfl rfl rfl (by omega) (by first | (rw [recsA_length]; omega) | (simp; omega)) rfl) rfl rfl rfl ?_
          refine mr_val rfl (my_field Try.underlying41 rfl I3 S3 rfl rfl rfl) rfl rfl rfl ?_
          refine mr_ow rfl rfl rfl (mo_storeR (i := (lb s.recs k)) (p := [1]) (el := (.agg [sv k, iv .i64 0, .sl []] : A)) I3 S3 rfl rfl rfl (q := 1) rfl new_at rfl rfl rfl rfl ?_)
          refine mr_val rfl (my_indexO Try.underlying38 I41 S41 (q := 1) rfl rfl rfl (by omega) (by first | (rw [recsA_length]; omega) | (simp; omega)) rfl) rfl rfl rfl ?_
          refine mr_val rfl (my_field Try.underlying41 rfl I28 S28 rfl rfl rfl) rfl rfl rfl ?_
          refine mr_ow rfl rfl rfl (mo_storeR (i := (lb s.recs k)) (p := [2]) (el := (setA ((.agg [sv k, iv .i64 0, .sl []] : A)) [1] (iv .i64 (s.count + 1)))) I28 S28 rfl rfl rfl (q := 1) rfl (set_at (by simp; omega)) rfl rfl rfl rfl ?_)
          refine mr_nil ?_
          refine z_seq ?_
          refine m_seq ?_
          refine m_region ?_
          refine ml_val (my_move (Sm.ptr _ _ _)) rfl rfl rfl ?_
          refine ml_val (my_nil rfl) rfl rfl rfl ?_
          refine ml_val (my_field Try.underlying58 rfl I3 S3 rfl rfl rfl) rfl rfl rfl ?_
          refine ml_val (my_load Try.underlying3 rfl (q := 0) rfl rfl rfl rfl rfl (fun h => absurd (show false = true from h) Bool.false_ne_true) rfl rfl) rfl rfl rfl ?_
          refine ml_val (my_assign (Sm.v _)) rfl rfl rfl ?_
          refine ml_val (my_assign (Sm.v _)) rfl rfl rfl ?_
          refine ml_nil ?_
          refine z_seq ?_
          refine m_ret ?_
          exact ⟨.tup [iv .i64 (s.count + 1), iv .u16 0], mres2 rfl rfl rfl, r1, by rw [cas_put (by omega) h2 (fun h => h3 h.2)]; rw [← put_new (y := setA (.agg [sv k, iv .i64 0, .sl []] : A) [1] (iv .i64 (s.count + 1))) (x := (.agg [sv k, iv .i64 0, .sl []] : A)) hk _ rfl]; rfl, by rw [cas_put (by omega) h2 (fun h => h3 h.2)]⟩
      · skip
        obtain ⟨x, hx, hxk, hg⟩ := isK_spec hk
        have hlt : lb s.recs k < s.recs.length := (List.getElem?_eq_some_iff.1 hx).1
        refine mr_val rfl (MY.to (a' := tv false) (my_not rfl) rfl) rfl rfl rfl ?_
        refine mr_val rfl (my_move (Sm.v _)) rfl rfl rfl ?_
        refine mr_skipG rfl rfl rfl rfl rfl rfl rfl ?_
        refine mr_skipG rfl rfl rfl rfl rfl rfl rfl ?_
        refine mr_skipG rfl rfl rfl rfl rfl rfl rfl ?_
        refine mr_skipG rfl rfl rfl rfl rfl rfl rfl ?_
        refine mr_skipG rfl rfl rfl rfl rfl rfl rfl ?_
        refine mr_skipG rfl rfl rfl rfl rfl rfl rfl ?_
        refine mr_skipG rfl rfl rfl rfl rfl rfl rfl ?_
        refine mr_skipG rfl rfl rfl rfl rfl rfl rfl ?_
        refine mr_skipG rfl rfl rfl rfl rfl rfl rfl ?_
        refine mr_skipG rfl rfl rfl rfl rfl rfl rfl ?_
        refine mr_val rfl (my_pickF rfl (Sm.v _)) rfl rfl rfl ?_
        refine mr_val rfl (my_assign (Sm.v _)) rfl rfl rfl ?_
        refine mr_nil ?_
        refine z_seq ?_
        refine m_condF rfl ?_
        refine m_seq ?_
        refine m_region ?_
        refine ml_val (my_move (Sm.v _)) rfl rfl rfl ?_
        refine ml_val (MY.to (a' := tv false) (my_not rfl) rfl) rfl rfl rfl ?_
        refine ml_val (my_assign (Sm.v _)) rfl rfl rfl ?_
        refine ml_nil ?_
        refine z_seq ?_
        refine m_condF rfl ?_
        refine m_skip ?_
        refine z_blk ?_
        refine z_seq ?_
        refine m_seq ?_
        refine m_region ?_
        refine ml_val (my_move (Sm.ptr _ _ _)) rfl rfl rfl ?_
        refine ml_val (my_nil rfl) rfl rfl rfl ?_
        refine ml_val (my_field Try.underlying58 rfl I3 S3 rfl rfl rfl) rfl rfl rfl ?_
        refine ml_val (my_load Try.underlying3 rfl (q := 0) rfl rfl rfl rfl rfl (fun h => absurd (show false = true from h) Bool.false_ne_true) rfl rfl) rfl rfl rfl ?_
        refine ml_val (my_add64 rfl rfl (by omega)) rfl rfl rfl ?_
        refine ml_val (my_nil rfl) rfl rfl rfl ?_
        refine ml_val (my_field Try.underlying58 rfl I3 S3 rfl rfl rfl) rfl rfl rfl ?_
        refine ml_ow rfl (mo_store I3 S3 rfl rfl rfl (q := 0) rfl rfl rfl rfl rfl ?_)
        refine ml_nil ?_
        refine z_seq ?_
        refine m_seq ?_
        refine m_regionD (fun i => List.contains [0] i) [] [(0, true), (1, true), (2, true), (3, true), (4, true), (5, true), (6, true), (7, true), (8, true), (9, true), (10, true), (11, true), (12, true), (13, true), (14, true), (15, false), (16, true), (17, true), (18, false), (19, true), (20, true), (21, false)] mixed (by kernel_rfl) ?_
        refine mr_val rfl (my_move (Sm.ptr _ _ _)) rfl rfl rfl ?_
        refine mr_val rfl (my_nil rfl) rfl rfl rfl ?_
        refine mr_val rfl (my_field Try.underlying58 rfl I38 S38 rfl rfl rfl) rfl rfl rfl ?_
        refine mr_val rfl (my_load Try.underlying38 rfl (q := 0) rfl rfl rfl rfl rfl (fun h => absurd (show false = true from h) Bool.false_ne_true) rfl rfl) rfl rfl rfl ?_
        refine mr_val rfl (my_move (Sm.v _)) rfl rfl rfl ?_
        refine mr_val rfl (my_move (Sm.ptr _ _ _)) rfl rfl rfl ?_
        refine mr_val rfl (my_nil rfl) rfl rfl rfl ?_
        refine mr_val rfl (my_field Try.underlying58 rfl I38 S38 rfl rfl rfl) rfl rfl rfl ?_
        refine mr_val rfl (my_load Try.underlying38 rfl (q := 0) rfl rfl rfl rfl rfl (fun h => absurd (show false = true from h) Bool.false_ne_true) rfl rfl) rfl rfl rfl ?_
        refine mr_val rfl (my_move (Sm.v _)) rfl rfl rfl ?_
        refine mr_val rfl (my_move (Sm.ptr _ _ _)) rfl rfl rfl ?_
        refine mr_val rfl (my_nil rfl) rfl rfl rfl ?_
        refine mr_val rfl (my_field Try.underlying58 rfl I3 S3 rfl rfl rfl) rfl rfl rfl ?_
        refine mr_val rfl (my_load Try.underlying3 rfl (q := 0) rfl rfl rfl rfl rfl (fun h => absurd (show false = true from h) Bool.false_ne_true) rfl rfl) rfl rfl rfl ?_
        refine mr_val rfl (my_move (by first | exact Sm.sl _ | exact Sm.osl _ | exact Sm.nl)) rfl rfl rfl ?_
        refine mr_ow rfl rfl rfl (mo_call [] fn27 rfl rfl (clone_c v (by omega)) rfl rfl (fun Hs' a hp => ?_))
        obtain ⟨rfl, rfl⟩ := hp
        refine mr_norm [0, 1] [⟨_, _⟩, ⟨_, _⟩] (by decide) rfl (by first | exact fun _ _ => rfl | (intro i hi; simp at hi; done) | (intro i hi; simp at hi; rcases hi with rfl | rfl | rfl <;> rfl) | (intro i hi; simp at hi; rcases hi with rfl | rfl <;> rfl) | (intro i hi; simp at hi; subst hi; rfl)) ?_
        refine mr_val rfl (my_indexO Try.underlying38 I41 S41 (q := 1) rfl rfl rfl (by omega) (by first | (rw [recsA_length]; omega) | (simp; omega)) rfl) rfl rfl rfl ?_
        refine mr_val rfl (my_field Try.underlying41 rfl I3 S3 rfl rfl rfl) rfl rfl rfl ?_
        refine mr_ow rfl rfl rfl (mo_storeR (i := (lb s.recs k)) (p := [1]) (el := recA x) I3 S3 rfl rfl rfl (q := 1) rfl (recsA_get hx) rfl rfl rfl rfl ?_)
        refine mr_val rfl (my_indexO Try.underlying38 I41 S41 (q := 1) rfl rfl rfl (by omega) (by first | (rw [recsA_length]; omega) | (simp; omega)) rfl) rfl rfl rfl ?_
        refine mr_val rfl (my_field Try.underlying41 rfl I28 S28 rfl rfl rfl) rfl rfl rfl ?_
        refine mr_ow rfl rfl rfl (mo_storeR (i := (lb s.recs k)) (p := [2]) (el := (setA (recA x) [1] (iv .i64 (s.count + 1)))) I28 S28 rfl rfl rfl (q := 1) rfl (set_at (by rw [recsA_length]; omega)) rfl rfl rfl rfl ?_)
        refine mr_nil ?_
        refine z_seq ?_
        refine m_seq ?_
        refine m_region ?_
        refine ml_val (my_move (Sm.ptr _ _ _)) rfl rfl rfl ?_
        refine ml_val (my_nil rfl) rfl rfl rfl ?_
        refine ml_val (my_field Try.underlying58 rfl I3 S3 rfl rfl rfl) rfl rfl rfl ?_
        refine ml_val (my_load Try.underlying3 rfl (q := 0) rfl rfl rfl rfl rfl (fun h => absurd (show false = true from h) Bool.false_ne_true) rfl rfl) rfl rfl rfl ?_
        refine ml_val (my_assign (Sm.v _)) rfl rfl rfl ?_
        refine ml_val (my_assign (Sm.v _)) rfl rfl rfl ?_
        refine ml_nil ?_
        refine z_seq ?_
        refine m_ret ?_
        exact ⟨.tup [iv .i64 (s.count + 1), iv .u16 0], mres2 rfl rfl rfl, r, by rw [cas_put (by omega) h2 (fun h => absurd h.1 (by rw [hk]; decide))]; rw [← put_old (y := setA (recA x) [1] (iv .i64 (s.count + 1))) hk]; subst hxk; rfl, by rw [cas_put (by omega) h2 (fun h => absurd h.1 (by rw [hk]; decide))]⟩

end Go.Proofs.Ytlklapledogdcaa.K
