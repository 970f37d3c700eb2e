/- The store: Put, Delete; names; the example. Condition: the store is well. -/
import Derived.Test.YtlklapledogdcaaSF
namespace Go.Proofs.Ytlklapledogdcaa.K
open Go

set_option maxRecDepth 100000 in
set_option maxHeartbeats 1000000 in
theorem Put_c (p r : Nat) (s : St) (hw : SW s) (k : ByteArray) (v : List UInt8) (hvl : v.length ≤ 100000000) : MF Try.prog 9 [.ptr p [] 0, sv k, .sl (v.map u8A)] (SH p r s) (fun Hs' res => ∃ r' s' a b, put s k v = (s', a, b) ∧ Hs' = SH p r' s' ∧ res = .tup [iv .i64 a, iv .u16 b]) := by
  refine m_enter Try.func9 rfl Try.ntmps9 rfl ?_
  unfold SH
  refine m_seq ?_
  refine m_region ?_
  refine ml_val (my_assign (Sm.v _)) rfl rfl rfl ?_
  refine ml_val (my_assign (Sm.v _)) rfl rfl rfl ?_
  refine ml_nil ?_
  refine z_seq ?_
  refine m_seq ?_
  refine m_region ?_
  refine ml_val (my_move (Sm.ptr _ _ _)) rfl rfl rfl ?_
  refine ml_val (my_move (Sm.v _)) rfl rfl rfl ?_
  refine ml_val (my_move (Sm.ptr _ _ _)) rfl rfl rfl ?_
  refine ml_val (my_move (Sm.v _)) rfl rfl rfl ?_
  refine ml_ow rfl (mo_call [0, 1] fn25 rfl rfl (version_c p r s hw k) rfl rfl (fun Hs' a hp => ?_))
  obtain ⟨rfl, rfl⟩ := hp
  refine ml_norm [2, 3] [⟨_, _⟩, ⟨_, _⟩] (by decide) rfl ?_
  refine ml_val (my_move (by first | exact Sm.sl _ | exact Sm.osl _ | exact Sm.nl)) rfl rfl rfl ?_
  refine ml_ow rfl (mo_call [0, 1] fn14 rfl rfl (Cas_e p r s hw k (verR s.recs k) v hvl) rfl rfl (fun Hs' a hp => ?_))
  obtain ⟨r1, s1, a1, b1, hc1, rfl, rfl⟩ := hp
  refine ml_norm [2, 3] [⟨_, _⟩, ⟨_, _⟩] (by decide) rfl ?_
  refine ml_val (my_extract rfl rfl) rfl rfl rfl ?_
  refine ml_val (my_extract rfl rfl) rfl rfl rfl ?_
  refine ml_val (my_assign (Sm.v _)) rfl rfl rfl ?_
  refine ml_val (my_assign (Sm.v _)) rfl rfl rfl ?_
  refine ml_nil ?_
  refine z_seq ?_
  refine m_ret ?_
  exact ⟨.tup [iv .i64 a1, iv .u16 b1], mres2 rfl rfl rfl, r1, s1, a1, b1, hc1, rfl, rfl⟩

set_option maxRecDepth 100000 in
set_option maxHeartbeats 1000000 in
theorem Del_c (p r : Nat) (s : St) (hw : SW s) (k : ByteArray) (n : Int) : MF Try.prog 15 [.ptr p [] 0, sv k, iv .i64 n] (SH p r s) (fun Hs' res => ∃ r' s' b, del s k n = (s', b) ∧ Hs' = SH p r' s' ∧ res = iv .u16 b) := by
  refine m_enter Try.func15 rfl Try.ntmps15 rfl ?_
  unfold SH
  have hcnt := hw.cnt
  have hlen := hw.len
  refine m_seq ?_
  refine m_region ?_
  refine ml_val (my_assign (Sm.v _)) rfl rfl rfl ?_
  refine ml_nil ?_
  refine z_seq ?_
  refine m_seq ?_
  refine m_region ?_
  refine ml_val (my_move (Sm.ptr _ _ _)) rfl rfl rfl ?_
  refine ml_val (my_move (Sm.v _)) rfl rfl rfl ?_
  refine ml_ow rfl (mo_call [0, 1] fn26 rfl rfl (find_c p r s hw k) rfl rfl (fun Hs' a hp => ?_))
  obtain ⟨rfl, rfl⟩ := hp
  refine ml_norm [2, 3] [⟨_, _⟩, ⟨_, _⟩] (by decide) rfl ?_
  refine ml_val (my_move (Sm.tup _)) rfl rfl rfl ?_
  refine ml_val (my_extract rfl rfl) rfl rfl rfl ?_
  refine ml_val (my_extract rfl rfl) rfl rfl rfl ?_
  refine ml_val (my_assign (Sm.v _)) rfl rfl rfl ?_
  refine ml_val (my_assign (Sm.v _)) rfl rfl rfl ?_
  refine ml_nil ?_
  refine z_seq ?_
  refine m_seq ?_
  refine m_block ?_
  refine m_seq ?_
  refine m_region ?_
  refine ml_val (my_move (Sm.v _)) rfl rfl rfl ?_
  refine ml_val (my_not rfl) rfl rfl rfl ?_
  refine ml_val (my_assign (Sm.v _)) rfl rfl rfl ?_
  refine ml_nil ?_
  refine z_seq ?_
  refine m_cond rfl (fun hk => ?_) (fun hk => ?_)
  · skip
    replace hk : isK s.recs k = false := by simpa using hk
    refine m_seq ?_
    refine m_region ?_
    refine ml_val (my_assign (Sm.v _)) rfl rfl rfl ?_
    refine ml_nil ?_
    refine z_seq ?_
    refine m_ret ?_
    refine z_blkR ?_
    refine z_seqR ?_
    exact ⟨iv .u16 32, mres1 rfl rfl, r, s, 32, del_none hk, rfl, rfl⟩
  · skip
    replace hk : isK s.recs k = true := by simpa using hk
    obtain ⟨x, hx, hxk, hg⟩ := isK_spec hk
    have hlt : lb s.recs k < s.recs.length := (List.getElem?_eq_some_iff.1 hx).1
    refine m_seq ?_
    refine m_region ?_
    refine ml_val (my_move (Sm.ptr _ _ _)) rfl rfl rfl ?_
    refine ml_val (my_nil rfl) rfl rfl rfl ?_
    refine ml_val (my_field Try.underlying58 rfl I38 S38 rfl rfl rfl) rfl rfl rfl ?_
    refine ml_val (my_load Try.underlying38 rfl (q := 0) rfl rfl rfl rfl rfl (fun h => absurd (show false = true from h) Bool.false_ne_true) rfl rfl) rfl rfl rfl ?_
    refine ml_val (my_move (Sm.v _)) rfl rfl rfl ?_
    refine ml_val (my_indexO Try.underlying38 I41 S41 (q := 1) rfl rfl rfl (by omega) (by rw [recsA_length]; omega) rfl) rfl rfl rfl ?_
    refine ml_val (my_field Try.underlying41 rfl I3 S3 rfl rfl rfl) rfl rfl rfl ?_
    refine ml_val (my_loadR (i := lb s.recs k) (el := recA x) (p := [1]) Try.underlying3 rfl (q := 1) rfl (recsA_get hx) rfl rfl rfl (fun h => absurd (show false = true from h) Bool.false_ne_true) rfl rfl) rfl rfl rfl ?_
    refine ml_val (my_move (Sm.v _)) rfl rfl rfl ?_
    refine ml_val (my_neq rfl rfl) rfl rfl rfl ?_
    refine ml_val (my_assign (Sm.v _)) rfl rfl rfl ?_
    refine ml_nil ?_
    refine z_seq ?_
    refine m_condp rfl (fun h2 => ?_) (fun h2 => ?_)
    · skip
      have h2v : verR s.recs k ≠ n := by unfold verR; rw [hg]; exact h2
      refine m_seq ?_
      refine m_region ?_
      refine ml_val (my_assign (Sm.v _)) rfl rfl rfl ?_
      refine ml_nil ?_
      refine z_seq ?_
      refine m_ret ?_
      refine z_blkR ?_
      refine z_seqR ?_
      exact ⟨iv .u16 30, mres1 rfl rfl, r, s, 30, del_ver hk h2v, rfl, rfl⟩
    · skip
      have h2v : ¬ verR s.recs k ≠ n := by unfold verR; rw [hg]; exact h2
      refine m_skip ?_
      refine z_blk ?_
      refine z_seq ?_
      refine m_seq ?_
      refine m_region ?_
      refine ml_val (my_move (Sm.ptr _ _ _)) rfl rfl rfl ?_
      refine ml_val (my_nil rfl) rfl rfl rfl ?_
      refine ml_val (my_field Try.underlying58 rfl I3 S3 rfl rfl rfl) rfl rfl rfl ?_
      refine ml_val (my_load Try.underlying3 rfl (q := 0) rfl rfl rfl rfl rfl (fun h => absurd (show false = true from h) Bool.false_ne_true) rfl rfl) rfl rfl rfl ?_
      refine ml_val (my_add64 rfl rfl (by omega)) rfl rfl rfl ?_
      refine ml_val (my_nil rfl) rfl rfl rfl ?_
      refine ml_val (my_field Try.underlying58 rfl I3 S3 rfl rfl rfl) rfl rfl rfl ?_
      refine ml_ow rfl (mo_store I3 S3 rfl rfl rfl (q := 0) rfl rfl rfl rfl rfl ?_)
      refine ml_nil ?_
      refine z_seq ?_
      refine m_seq ?_
      refine m_region ?_
      refine ml_val (my_move (Sm.ptr _ _ _)) rfl rfl rfl ?_
      refine ml_val (my_move (Sm.ptr _ _ _)) rfl rfl rfl ?_
      refine ml_val (my_nil rfl) rfl rfl rfl ?_
      refine ml_val (my_field Try.underlying58 rfl I38 S38 rfl rfl rfl) rfl rfl rfl ?_
      refine ml_val (my_load Try.underlying38 rfl (q := 0) rfl rfl rfl rfl rfl (fun h => absurd (show false = true from h) Bool.false_ne_true) rfl rfl) rfl rfl rfl ?_
      refine ml_val (my_move (Sm.v _)) rfl rfl rfl ?_
      refine ml_val (my_move (Sm.v _)) rfl rfl rfl ?_
      refine ml_val (my_add64 rfl rfl (by omega)) rfl rfl rfl ?_
      refine ml_ow rfl (mo_call [1] fn29 rfl rfl (delete_c r (recsA s.recs) (lb s.recs k) (recsA_sz _) (by rw [recsA_length]; exact hlt) (by rw [recsA_length]; exact hlen)) rfl rfl (fun Hs' a hp => ?_))
      obtain ⟨r1, rfl, rfl⟩ := hp
      refine ml_norm [0, 2] [⟨_, _⟩, ⟨_, _⟩] (by decide) rfl ?_
      refine ml_val (my_nil rfl) rfl rfl rfl ?_
      refine ml_val (my_field Try.underlying58 rfl I38 S38 rfl rfl rfl) rfl rfl rfl ?_
      refine ml_ow rfl (mo_store I38 S38 rfl rfl rfl (q := 0) rfl rfl rfl rfl rfl ?_)
      refine ml_nil ?_
      refine z_seq ?_
      refine m_seq ?_
      refine m_region ?_
      refine ml_val (my_assign (Sm.v _)) rfl rfl rfl ?_
      refine ml_nil ?_
      refine z_seq ?_
      refine m_ret ?_
      exact ⟨iv .u16 0, mres1 rfl rfl, r1, _, 0, del_ok hk h2v, Eq.trans rfl (SH_del p r1 s k), rfl⟩

set_option maxRecDepth 100000 in
set_option maxHeartbeats 1000000 in
theorem Name_c (b : UInt8) : MF Try.prog 12 [u8i b] [] (fun Hs' res => Hs' = [] ∧ res = sv (nameOf b)) := by
  refine m_enter Try.func12 rfl Try.ntmps12 rfl ?_
  refine m_seq ?_
  refine m_region ?_
  refine ml_val (my_assign (Sm.v _)) rfl rfl rfl ?_
  refine ml_nil ?_
  refine z_seq ?_
  refine m_seq ?_
  refine m_region ?_
  refine ml_ow rfl (mo_lit (W := []) (ls := nameTab.map sv) (xs := [_, _, _, _, _, _, _, _]) Try.underlying60 I9 Z9 S9 rfl rfl rfl rfl rfl rfl rfl (fun k1 => ?_))
  refine ml_val (my_move (Sm.v _)) rfl rfl rfl ?_
  refine ml_val (MY.to (a' := iv .u8 ((b.toNat % 8 : Nat) : Int)) (my_rem rfl rfl (by decide)) (congrArg (iv .u8) (rem8 b))) rfl rfl rfl ?_
  refine ml_val (my_indexO Try.underlying60 I9 S9 (q := 0) rfl rfl rfl (by omega) (by simp [nameTab]; omega) rfl) rfl rfl rfl ?_
  refine ml_val (my_loadR (i := b.toNat % 8) (el := sv (nameOf b)) Try.underlying9 rfl (q := 0) rfl (nameOf_at b) rfl rfl rfl (fun h => absurd (show false = true from h) Bool.false_ne_true) rfl rfl) rfl rfl rfl ?_
  refine ml_val (my_assign (Sm.v _)) rfl rfl rfl ?_
  refine ml_nil ?_
  refine z_seq ?_
  refine m_norm [] [] (by decide) rfl ?_
  refine m_ret ?_
  exact ⟨sv (nameOf b), mres1 rfl rfl, rfl, rfl⟩

set_option maxRecDepth 100000 in
set_option maxHeartbeats 1000000 in
theorem known_c  : MF Try.prog 10 [] [] (fun Hs' res => Hs' = [] ∧ res = tv true) := by
  refine m_enter Try.func10 rfl Try.ntmps10 rfl ?_
  refine m_seq ?_
  refine m_region ?_
  refine ml_val (my_assign (Sm.v _)) rfl rfl rfl ?_
  refine ml_nil ?_
  refine z_seq ?_
  refine m_seq ?_
  refine m_region ?_
  refine ml_ow rfl (mo_call [] fn8 rfl rfl (New_e 5) rfl rfl (fun Hs' a hp => ?_))
  obtain ⟨p, r, s0, hs0, rfl, rfl⟩ := hp
  refine ml_norm [0, 1] [⟨_, _⟩, ⟨_, _⟩] (by decide) rfl ?_
  have hv0 : SV 0 s0 := by rw [hs0]; exact .new _ _
  refine ml_val (my_assign (Sm.ptr _ _ _)) rfl rfl rfl ?_
  refine ml_nil ?_
  refine z_seq ?_
  refine m_seq ?_
  refine m_seq ?_
  refine m_region ?_
  refine ml_val (my_move (Sm.ptr _ _ _)) rfl rfl rfl ?_
  refine ml_val (my_eqlPtr Try.underlying22 rfl) rfl rfl rfl ?_
  refine ml_nil ?_
  refine z_seq ?_
  refine m_condF rfl ?_
  refine m_skip ?_
  refine z_seq ?_
  refine m_seq ?_
  refine m_region ?_
  refine ml_val (my_move (Sm.ptr _ _ _)) rfl rfl rfl ?_
  refine ml_ow rfl (mo_lit (W := []) (ls := (([120]) : List UInt8).map u8A) (xs := [_]) Try.underlying28 I5 Z5 S5 rfl rfl rfl rfl rfl rfl rfl (fun k1 => ?_))
  refine ml_ow rfl (mo_convB (W := [2]) Try.underlying28 Try.underlying5 rfl (q := 2) rfl (by simp) rfl rfl ?_)
  refine ml_norm [0, 1] [⟨_, _⟩, ⟨_, _⟩] (by decide) rfl ?_
  refine ml_ow rfl (mo_call [0, 1] fn14 rfl rfl (Cas_e p r s0 (hv0.well (by decide)) ⟨#[97]⟩ 0 [120] (by simp)) rfl rfl (fun Hs' a hp => ?_))
  obtain ⟨r1, s1, a1, b1, hc1, rfl, rfl⟩ := hp
  refine ml_norm [2, 3] [⟨_, _⟩, ⟨_, _⟩] (by decide) rfl ?_
  have hv1 : SV 1 s1 := by have := hv0.cas ⟨#[97]⟩ 0 [120]; rw [hc1] at this; exact this
  rw [hs0, kn1] at hc1
  simp only [Prod.mk.injEq] at hc1
  obtain ⟨hs1', ha1, hb1⟩ := hc1
  have hs1 := hs1'.symm
  refine ml_val (my_move (Sm.tup _)) rfl rfl rfl ?_
  refine ml_val (my_extract rfl rfl) rfl rfl rfl ?_
  refine ml_val (my_extract rfl rfl) rfl rfl rfl ?_
  refine ml_val (my_assign (Sm.v _)) rfl rfl rfl ?_
  refine ml_val (my_assign (Sm.v _)) rfl rfl rfl ?_
  refine ml_nil ?_
  refine z_seq ?_
  refine m_seq ?_
  refine m_region ?_
  refine ml_val (my_move (Sm.ptr _ _ _)) rfl rfl rfl ?_
  refine ml_ow rfl (mo_lit (W := []) (ls := (([121]) : List UInt8).map u8A) (xs := [_]) Try.underlying28 I5 Z5 S5 rfl rfl rfl rfl rfl rfl rfl (fun k2 => ?_))
  refine ml_ow rfl (mo_convB (W := [2]) Try.underlying28 Try.underlying5 rfl (q := 2) rfl (by simp) rfl rfl ?_)
  refine ml_norm [0, 1] [⟨_, _⟩, ⟨_, _⟩] (by decide) rfl ?_
  refine ml_ow rfl (mo_call [0, 1] fn14 rfl rfl (Cas_e p r1 s1 (hv1.well (by decide)) ⟨#[97]⟩ 0 [121] (by simp)) rfl rfl (fun Hs' a hp => ?_))
  obtain ⟨r2, s2, a2, b2, hc2, rfl, rfl⟩ := hp
  refine ml_norm [2, 3] [⟨_, _⟩, ⟨_, _⟩] (by decide) rfl ?_
  have hv2 : SV 2 s2 := by have := hv1.cas ⟨#[97]⟩ 0 [121]; rw [hc2] at this; exact this
  rw [hs1, kn2] at hc2
  simp only [Prod.mk.injEq] at hc2
  obtain ⟨hs2', ha2, hb2⟩ := hc2
  have hs2 := hs2'.symm
  refine ml_val (my_move (Sm.tup _)) rfl rfl rfl ?_
  refine ml_val (my_extract rfl rfl) rfl rfl rfl ?_
  refine ml_val (my_extract rfl rfl) rfl rfl rfl ?_
  refine ml_val (my_assign (Sm.v _)) rfl rfl rfl ?_
  refine ml_val (my_assign (Sm.v _)) rfl rfl rfl ?_
  refine ml_nil ?_
  refine z_seq ?_
  refine m_seq ?_
  refine m_region ?_
  refine ml_val (my_move (Sm.ptr _ _ _)) rfl rfl rfl ?_
  refine ml_ow rfl (mo_lit (W := []) (ls := (([122]) : List UInt8).map u8A) (xs := [_]) Try.underlying28 I5 Z5 S5 rfl rfl rfl rfl rfl rfl rfl (fun k3 => ?_))
  refine ml_ow rfl (mo_convB (W := [2]) Try.underlying28 Try.underlying5 rfl (q := 2) rfl (by simp) rfl rfl ?_)
  refine ml_norm [0, 1] [⟨_, _⟩, ⟨_, _⟩] (by decide) rfl ?_
  refine ml_ow rfl (mo_call [0, 1] fn14 rfl rfl (Cas_e p r2 s2 (hv2.well (by decide)) ⟨#[97]⟩ 1 [122] (by simp)) rfl rfl (fun Hs' a hp => ?_))
  obtain ⟨r3, s3, a3, b3, hc3, rfl, rfl⟩ := hp
  refine ml_norm [2, 3] [⟨_, _⟩, ⟨_, _⟩] (by decide) rfl ?_
  have hv3 : SV 3 s3 := by have := hv2.cas ⟨#[97]⟩ 1 [122]; rw [hc3] at this; exact this
  rw [hs2, kn3] at hc3
  simp only [Prod.mk.injEq] at hc3
  obtain ⟨hs3', ha3, hb3⟩ := hc3
  have hs3 := hs3'.symm
  refine ml_val (my_move (Sm.tup _)) rfl rfl rfl ?_
  refine ml_val (my_extract rfl rfl) rfl rfl rfl ?_
  refine ml_val (my_extract rfl rfl) rfl rfl rfl ?_
  refine ml_val (my_assign (Sm.v _)) rfl rfl rfl ?_
  refine ml_val (my_assign (Sm.v _)) rfl rfl rfl ?_
  refine ml_nil ?_
  refine z_seq ?_
  refine m_seq ?_
  refine m_region ?_
  refine ml_val (my_move (Sm.ptr _ _ _)) rfl rfl rfl ?_
  refine ml_ow rfl (mo_call [0, 1] fn13 rfl rfl (Get_c p r3 s3 (hv3.well (by decide)) ⟨#[97]⟩ hv3.vals) rfl rfl (fun Hs' a hp => ?_))
  obtain ⟨rfl, rfl⟩ := hp
  refine ml_norm [2, 3] [⟨_, _⟩, ⟨_, _⟩] (by decide) rfl ?_
  refine ml_val (my_move (Sm.tup _)) rfl rfl rfl ?_
  refine ml_val (my_extract rfl rfl) rfl rfl rfl ?_
  refine ml_val (my_extract rfl rfl) rfl rfl rfl ?_
  refine ml_val (my_assign (Sm.sl _)) rfl rfl rfl ?_
  refine ml_val (my_assign (Sm.v _)) rfl rfl rfl ?_
  refine ml_nil ?_
  refine z_seq ?_
  refine m_seq ?_
  refine m_region ?_
  refine ml_val (my_move (Sm.v _)) rfl rfl rfl ?_
  refine ml_val (MY.to (a' := tv true) (my_eql rfl rfl) (congrArg tv (decide_eq_true (ha1.symm)))) rfl rfl rfl ?_
  refine ml_val (my_move (Sm.v _)) rfl rfl rfl ?_
  first | refine ml_skipG rfl rfl rfl rfl rfl rfl ?_ | refine ml_valG (my_move (Sm.v _)) rfl rfl rfl rfl rfl ?_
  refine ml_valG (MY.to (a' := tv true) (my_eql rfl rfl) (congrArg tv (decide_eq_true (hb1.symm)))) rfl rfl rfl rfl rfl ?_
  refine ml_val (my_pickT rfl (Sm.v _)) rfl rfl rfl ?_
  refine ml_val (my_move (Sm.v _)) rfl rfl rfl ?_
  first | refine ml_skipG rfl rfl rfl rfl rfl rfl ?_ | refine ml_valG (my_move (Sm.v _)) rfl rfl rfl rfl rfl ?_
  refine ml_valG (MY.to (a' := tv true) (my_eql rfl rfl) (congrArg tv (decide_eq_true (hb2.symm)))) rfl rfl rfl rfl rfl ?_
  refine ml_val (my_pickT rfl (Sm.v _)) rfl rfl rfl ?_
  refine ml_val (my_move (Sm.v _)) rfl rfl rfl ?_
  first | refine ml_skipG rfl rfl rfl rfl rfl rfl ?_ | refine ml_valG (my_move (Sm.v _)) rfl rfl rfl rfl rfl ?_
  refine ml_valG (MY.to (a' := tv true) (my_eql rfl rfl) (congrArg tv (decide_eq_true (ha3.symm)))) rfl rfl rfl rfl rfl ?_
  refine ml_val (my_pickT rfl (Sm.v _)) rfl rfl rfl ?_
  refine ml_val (my_move (Sm.v _)) rfl rfl rfl ?_
  first | refine ml_skipG rfl rfl rfl rfl rfl rfl ?_ | refine ml_valG (my_move (Sm.v _)) rfl rfl rfl rfl rfl ?_
  refine ml_valG (MY.to (a' := tv true) (my_eql rfl rfl) (congrArg tv (decide_eq_true (hb3.symm)))) rfl rfl rfl rfl rfl ?_
  refine ml_val (my_pickT rfl (Sm.v _)) rfl rfl rfl ?_
  refine ml_val (my_move (Sm.v _)) rfl rfl rfl ?_
  first | refine ml_skipG rfl rfl rfl rfl rfl rfl ?_ | refine ml_valG (my_move (Sm.sl _)) rfl rfl rfl rfl rfl ?_
  refine ml_valG (my_b2s (l := valR s3.recs ⟨#[97]⟩) Try.underlying28 Try.underlying5 Try.underlying9 rfl) rfl rfl rfl rfl rfl ?_
  refine ml_valG (MY.to (a' := tv true) (my_seql rfl rfl) (congrArg tv (decide_eq_true (by rw [hs3, valR_one])))) rfl rfl rfl rfl rfl ?_
  refine ml_val (my_pickT rfl (Sm.v _)) rfl rfl rfl ?_
  refine ml_val (my_move (Sm.v _)) rfl rfl rfl ?_
  first | refine ml_skipG rfl rfl rfl rfl rfl rfl ?_ | refine ml_valG (my_move (Sm.v _)) rfl rfl rfl rfl rfl ?_
  refine ml_valG (MY.to (a' := tv true) (my_eql rfl rfl) (congrArg tv (decide_eq_true (by rw [hs3, verR_one])))) rfl rfl rfl rfl rfl ?_
  refine ml_val (my_pickT rfl (Sm.v _)) rfl rfl rfl ?_
  refine ml_val (my_move (Sm.v _)) rfl rfl rfl ?_
  first | refine ml_skipG rfl rfl rfl rfl rfl rfl ?_ | refine ml_valG (my_move (Sm.ptr _ _ _)) rfl rfl rfl rfl rfl ?_
  refine ml_owG rfl rfl rfl (mo_call [0, 1] fn11 rfl rfl (Len_c p r3 s3) rfl rfl (fun Hs' a hp => ?_))
  obtain ⟨rfl, rfl⟩ := hp
  refine ml_norm [2, 3] [⟨_, _⟩, ⟨_, _⟩] (by decide) rfl ?_
  refine ml_valG (MY.to (a' := tv true) (my_eql rfl rfl) (congrArg tv (decide_eq_true (by rw [hs3]; rfl)))) rfl rfl rfl rfl rfl ?_
  refine ml_val (my_pickT rfl (Sm.v _)) rfl rfl rfl ?_
  refine ml_val (my_assign (Sm.v _)) rfl rfl rfl ?_
  refine ml_nil ?_
  refine z_seq ?_
  refine m_norm [] [] (by decide) rfl ?_
  refine m_ret ?_
  exact ⟨tv true, mres1 rfl rfl, rfl, rfl⟩

end Go.Proofs.Ytlklapledogdcaa.K
