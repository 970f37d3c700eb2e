/- The two stores are alike. Condition: the store is well. -/
import Derived.Test.YtlklapledogdcaaSW0
namespace Go.Proofs.Ytlklapledogdcaa.K
open Go

set_option maxRecDepth 100000 in
set_option maxHeartbeats 1000000 in
theorem alike_c (p r : Nat) (s : St) (hw : SW s) (hv : ∀ x ∈ s.recs, x.val.length ≤ 100000000) (key : ByteArray) : MF Try.prog 23 [.ptr p [] 0, tA s.most s.recs s.count, sv key] (SH p r s) (fun Hs' res => Hs' = SH p r s ∧ res = tv true) := by
  refine m_enter Try.func23 rfl Try.ntmps23 rfl ?_
  unfold SH tA
  have hlen : s.recs.length ≤ 1000000 := hw.len
  refine m_seq ?_
  refine m_region ?_
  refine ml_ow rfl (mo_box (W := []) rfl rfl rfl (fun k1 => ?_))
  refine ml_val (my_assign (Sm.v _)) rfl rfl rfl ?_
  refine ml_nil ?_
  refine z_seq ?_
  refine m_seq ?_
  refine m_region ?_
  refine ml_val (my_move (Sm.ptr _ _ _)) rfl rfl rfl ?_
  refine ml_val (my_move (Sm.v _)) rfl rfl rfl ?_
  refine ml_ow rfl (mo_call [0, 1] fn13 rfl rfl (Get_c p r s hw key hv) rfl rfl (fun Hs' a hp => ?_))
  obtain ⟨rfl, rfl⟩ := hp
  refine ml_norm [3, 4, 2] [⟨_, _⟩, ⟨_, _⟩, ⟨_, _⟩] (by decide) rfl ?_
  refine ml_val (my_move (Sm.tup _)) rfl rfl rfl ?_
  refine ml_val (my_extract rfl rfl) rfl rfl rfl ?_
  refine ml_val (my_extract rfl rfl) rfl rfl rfl ?_
  refine ml_val (my_assign (Sm.sl _)) rfl rfl rfl ?_
  refine ml_val (my_assign (Sm.v _)) rfl rfl rfl ?_
  refine ml_nil ?_
  refine z_seq ?_
  refine m_seq ?_
  refine m_region ?_
  refine ml_val (my_load Try.underlying46 rfl (q := 2) rfl rfl rfl rfl rfl (fun _ => ⟨_, I46, S46⟩) rfl rfl) rfl rfl rfl ?_
  refine ml_val (my_move (Sm.v _)) rfl rfl rfl ?_
  refine ml_ow rfl (mo_call [] fn19 rfl rfl (Get_t s.most s.recs s.count key hlen) rfl rfl (fun Hs' a hp => ?_))
  obtain ⟨rfl, rfl⟩ := hp
  refine ml_norm [0, 1, 2] [⟨_, _⟩, ⟨_, _⟩, ⟨_, _⟩] (by decide) rfl ?_
  refine ml_val (my_move (Sm.tup _)) rfl rfl rfl ?_
  refine ml_val (my_extract rfl rfl) rfl rfl rfl ?_
  refine ml_val (my_extract rfl rfl) rfl rfl rfl ?_
  refine ml_val (my_assign (Sm.sl _)) rfl rfl rfl ?_
  refine ml_val (my_assign (Sm.v _)) rfl rfl rfl ?_
  refine ml_nil ?_
  refine z_seq ?_
  refine m_seq ?_
  refine m_regionD (fun i => List.contains [2] i) [] [(0, true), (1, true), (2, true), (3, true), (4, true), (5, true), (6, true), (7, true), (8, true), (9, true), (10, true), (11, true), (13, true), (14, true), (15, true), (12, false), (16, true), (17, true), (18, true), (19, true), (21, true), (20, false), (22, false), (23, false), (24, true), (25, true), (26, true), (28, true), (27, false), (29, false), (30, false), (31, true), (32, true), (33, true), (34, true), (36, true), (37, true), (35, false), (38, false), (39, false), (40, true), (41, true)] mixed (by kernel_rfl) ?_
  refine mr_val rfl (my_move (Sm.sl _)) rfl rfl rfl ?_
  refine mr_val rfl (my_b2s (l := valR s.recs key) Try.underlying28 Try.underlying5 Try.underlying9 rfl) rfl rfl rfl ?_
  refine mr_val rfl (my_move (Sm.sl _)) rfl rfl rfl ?_
  refine mr_val rfl (my_b2s (l := valO (look s.recs key)) Try.underlying28 Try.underlying5 Try.underlying9 rfl) rfl rfl rfl ?_
  refine mr_val rfl (MY.to (a' := tv true) (my_seql rfl rfl) (congrArg tv (decide_eq_true (by rw [valR_look hw.srt])))) rfl rfl rfl ?_
  refine mr_val rfl (my_move (Sm.v _)) rfl rfl rfl ?_
  first | refine mr_skipG rfl rfl rfl rfl rfl rfl rfl ?_ | refine mr_valG rfl (my_move (Sm.v _)) rfl rfl rfl rfl rfl ?_
  first | refine mr_skipG rfl rfl rfl rfl rfl rfl rfl ?_ | refine mr_valG rfl (my_move (Sm.v _)) rfl rfl rfl rfl rfl ?_
  first | refine mr_skipG rfl rfl rfl rfl rfl rfl rfl ?_ | refine mr_valG rfl (MY.to (a' := tv true) (my_eql rfl rfl) (congrArg tv (decide_eq_true (verR_look hw.srt key)))) rfl rfl rfl rfl rfl ?_
  refine mr_val rfl (my_pickT rfl (Sm.v _)) rfl rfl rfl ?_
  refine mr_val rfl (my_move (Sm.v _)) rfl rfl rfl ?_
  first | refine mr_skipG rfl rfl rfl rfl rfl rfl rfl ?_ | refine mr_valG rfl (my_move (Sm.ptr _ _ _)) rfl rfl rfl rfl rfl ?_
  first | refine mr_skipG rfl rfl rfl rfl rfl rfl rfl ?_ | refine mr_valG rfl (my_field Try.underlying46 rfl I38 S38 rfl rfl rfl) rfl rfl rfl rfl rfl ?_
  first | refine mr_skipG rfl rfl rfl rfl rfl rfl rfl ?_ | refine mr_valG rfl (my_load Try.underlying38 rfl (q := 2) rfl rfl rfl rfl rfl (fun h => absurd (show false = true from h) Bool.false_ne_true) rfl rfl) rfl rfl rfl rfl rfl ?_
  first | refine mr_skipG rfl rfl rfl rfl rfl rfl rfl ?_ | refine mr_valG rfl (MY.to (a' := iv .i64 (s.recs.length : Int)) (my_lenS Try.underlying38 rfl) (by rw [recsA_length])) rfl rfl rfl rfl rfl ?_
  refine mr_owG rfl rfl rfl rfl rfl (mo_call [0, 1] fn11 rfl rfl (Len_c p r s) rfl rfl (fun Hs' a hp => ?_))
  obtain ⟨rfl, rfl⟩ := hp
  refine mr_norm [3, 4, 2] [⟨_, _⟩, ⟨_, _⟩, ⟨_, _⟩] (by decide) rfl (by first | exact fun _ _ => rfl | (intro i hi; simp at hi; done) | (intro i hi; simp at hi; rcases hi with rfl | rfl | rfl <;> rfl) | (intro i hi; simp at hi; rcases hi with rfl | rfl <;> rfl) | (intro i hi; simp at hi; subst hi; rfl)) ?_
  first | refine mr_skipG rfl rfl rfl rfl rfl rfl rfl ?_ | refine mr_valG rfl (MY.to (a' := tv true) (my_eql rfl rfl) (congrArg tv (decide_eq_true rfl))) rfl rfl rfl rfl rfl ?_
  refine mr_val rfl (my_pickT rfl (Sm.v _)) rfl rfl rfl ?_
  refine mr_val rfl (my_move (Sm.v _)) rfl rfl rfl ?_
  first | refine mr_skipG rfl rfl rfl rfl rfl rfl rfl ?_ | refine mr_valG rfl (my_move (Sm.ptr _ _ _)) rfl rfl rfl rfl rfl ?_
  first | refine mr_skipG rfl rfl rfl rfl rfl rfl rfl ?_ | refine mr_valG rfl (my_load Try.underlying46 rfl (q := 2) rfl rfl rfl rfl rfl (fun _ => ⟨_, I46, S46⟩) rfl rfl) rfl rfl rfl rfl rfl ?_
  refine mr_owG rfl rfl rfl rfl rfl (mo_call [0, 1] fn16 rfl rfl (ScanF_c p r s hw hv eS) rfl rfl (fun Hs' a hp => ?_))
  obtain ⟨rfl, rfl⟩ := hp
  refine mr_norm [3, 4, 2] [⟨_, _⟩, ⟨_, _⟩, ⟨_, _⟩] (by decide) rfl (by first | exact fun _ _ => rfl | (intro i hi; simp at hi; done) | (intro i hi; simp at hi; rcases hi with rfl | rfl | rfl <;> rfl) | (intro i hi; simp at hi; rcases hi with rfl | rfl <;> rfl) | (intro i hi; simp at hi; subst hi; rfl)) ?_
  refine mr_owG rfl rfl rfl rfl rfl (mo_call [] fn33 rfl rfl (Scan_t s.most s.recs s.count eS hlen) rfl rfl (fun Hs' a hp => ?_))
  obtain ⟨rfl, rfl⟩ := hp
  refine mr_norm [0, 1, 2] [⟨_, _⟩, ⟨_, _⟩, ⟨_, _⟩] (by decide) rfl (by first | exact fun _ _ => rfl | (intro i hi; simp at hi; done) | (intro i hi; simp at hi; rcases hi with rfl | rfl | rfl <;> rfl) | (intro i hi; simp at hi; rcases hi with rfl | rfl <;> rfl) | (intro i hi; simp at hi; subst hi; rfl)) ?_
  refine mr_owG rfl rfl rfl rfl rfl (mo_call [] fn17 rfl rfl (Same1_c (s.recs.filter (fun x => pre x.key eS)) (Nat.le_trans (List.length_filter_le _ _) hlen)) rfl rfl (fun Hs' a hp => ?_))
  obtain ⟨rfl, rfl⟩ := hp
  refine mr_norm [0, 1, 2] [⟨_, _⟩, ⟨_, _⟩, ⟨_, _⟩] (by decide) rfl (by first | exact fun _ _ => rfl | (intro i hi; simp at hi; done) | (intro i hi; simp at hi; rcases hi with rfl | rfl | rfl <;> rfl) | (intro i hi; simp at hi; rcases hi with rfl | rfl <;> rfl) | (intro i hi; simp at hi; subst hi; rfl)) ?_
  refine mr_val rfl (my_pickT rfl (Sm.v _)) rfl rfl rfl ?_
  refine mr_val rfl (my_move (Sm.v _)) rfl rfl rfl ?_
  first | refine mr_skipG rfl rfl rfl rfl rfl rfl rfl ?_ | refine mr_valG rfl (my_move (Sm.ptr _ _ _)) rfl rfl rfl rfl rfl ?_
  first | refine mr_skipG rfl rfl rfl rfl rfl rfl rfl ?_ | refine mr_valG rfl (my_load Try.underlying46 rfl (q := 2) rfl rfl rfl rfl rfl (fun _ => ⟨_, I46, S46⟩) rfl rfl) rfl rfl rfl rfl rfl ?_
  refine mr_owG rfl rfl rfl rfl rfl (mo_call [0, 1] fn16 rfl rfl (ScanF_c p r s hw hv (⟨#[97, 47]⟩ : ByteArray)) rfl rfl (fun Hs' a hp => ?_))
  obtain ⟨rfl, rfl⟩ := hp
  refine mr_norm [3, 4, 2] [⟨_, _⟩, ⟨_, _⟩, ⟨_, _⟩] (by decide) rfl (by first | exact fun _ _ => rfl | (intro i hi; simp at hi; done) | (intro i hi; simp at hi; rcases hi with rfl | rfl | rfl <;> rfl) | (intro i hi; simp at hi; rcases hi with rfl | rfl <;> rfl) | (intro i hi; simp at hi; subst hi; rfl)) ?_
  refine mr_owG rfl rfl rfl rfl rfl (mo_call [] fn33 rfl rfl (Scan_t s.most s.recs s.count (⟨#[97, 47]⟩ : ByteArray) hlen) rfl rfl (fun Hs' a hp => ?_))
  obtain ⟨rfl, rfl⟩ := hp
  refine mr_norm [0, 1, 2] [⟨_, _⟩, ⟨_, _⟩, ⟨_, _⟩] (by decide) rfl (by first | exact fun _ _ => rfl | (intro i hi; simp at hi; done) | (intro i hi; simp at hi; rcases hi with rfl | rfl | rfl <;> rfl) | (intro i hi; simp at hi; rcases hi with rfl | rfl <;> rfl) | (intro i hi; simp at hi; subst hi; rfl)) ?_
  refine mr_owG rfl rfl rfl rfl rfl (mo_call [] fn17 rfl rfl (Same1_c (s.recs.filter (fun x => pre x.key (⟨#[97, 47]⟩ : ByteArray))) (Nat.le_trans (List.length_filter_le _ _) hlen)) rfl rfl (fun Hs' a hp => ?_))
  obtain ⟨rfl, rfl⟩ := hp
  refine mr_norm [0, 1, 2] [⟨_, _⟩, ⟨_, _⟩, ⟨_, _⟩] (by decide) rfl (by first | exact fun _ _ => rfl | (intro i hi; simp at hi; done) | (intro i hi; simp at hi; rcases hi with rfl | rfl | rfl <;> rfl) | (intro i hi; simp at hi; rcases hi with rfl | rfl <;> rfl) | (intro i hi; simp at hi; subst hi; rfl)) ?_
  refine mr_val rfl (my_pickT rfl (Sm.v _)) rfl rfl rfl ?_
  refine mr_val rfl (my_move (Sm.v _)) rfl rfl rfl ?_
  first | refine mr_skipG rfl rfl rfl rfl rfl rfl rfl ?_ | refine mr_valG rfl (my_move (Sm.ptr _ _ _)) rfl rfl rfl rfl rfl ?_
  first | refine mr_skipG rfl rfl rfl rfl rfl rfl rfl ?_ | refine mr_valG rfl (my_move (Sm.v _)) rfl rfl rfl rfl rfl ?_
  first | refine mr_skipG rfl rfl rfl rfl rfl rfl rfl ?_ | refine mr_valG rfl (my_load Try.underlying46 rfl (q := 2) rfl rfl rfl rfl rfl (fun _ => ⟨_, I46, S46⟩) rfl rfl) rfl rfl rfl rfl rfl ?_
  first | refine mr_skipG rfl rfl rfl rfl rfl rfl rfl ?_ | refine mr_valG rfl (my_move (Sm.v _)) rfl rfl rfl rfl rfl ?_
  refine mr_owG rfl rfl rfl rfl rfl (mo_call [0, 1] fn16 rfl rfl (ScanF_c p r s hw hv key) rfl rfl (fun Hs' a hp => ?_))
  obtain ⟨rfl, rfl⟩ := hp
  refine mr_norm [3, 4, 2] [⟨_, _⟩, ⟨_, _⟩, ⟨_, _⟩] (by decide) rfl (by first | exact fun _ _ => rfl | (intro i hi; simp at hi; done) | (intro i hi; simp at hi; rcases hi with rfl | rfl | rfl <;> rfl) | (intro i hi; simp at hi; rcases hi with rfl | rfl <;> rfl) | (intro i hi; simp at hi; subst hi; rfl)) ?_
  refine mr_owG rfl rfl rfl rfl rfl (mo_call [] fn33 rfl rfl (Scan_t s.most s.recs s.count key hlen) rfl rfl (fun Hs' a hp => ?_))
  obtain ⟨rfl, rfl⟩ := hp
  refine mr_norm [0, 1, 2] [⟨_, _⟩, ⟨_, _⟩, ⟨_, _⟩] (by decide) rfl (by first | exact fun _ _ => rfl | (intro i hi; simp at hi; done) | (intro i hi; simp at hi; rcases hi with rfl | rfl | rfl <;> rfl) | (intro i hi; simp at hi; rcases hi with rfl | rfl <;> rfl) | (intro i hi; simp at hi; subst hi; rfl)) ?_
  refine mr_owG rfl rfl rfl rfl rfl (mo_call [] fn17 rfl rfl (Same1_c (s.recs.filter (fun x => pre x.key key)) (Nat.le_trans (List.length_filter_le _ _) hlen)) rfl rfl (fun Hs' a hp => ?_))
  obtain ⟨rfl, rfl⟩ := hp
  refine mr_norm [0, 1, 2] [⟨_, _⟩, ⟨_, _⟩, ⟨_, _⟩] (by decide) rfl (by first | exact fun _ _ => rfl | (intro i hi; simp at hi; done) | (intro i hi; simp at hi; rcases hi with rfl | rfl | rfl <;> rfl) | (intro i hi; simp at hi; rcases hi with rfl | rfl <;> rfl) | (intro i hi; simp at hi; subst hi; rfl)) ?_
  refine mr_val rfl (my_pickT rfl (Sm.v _)) rfl rfl rfl ?_
  refine mr_val rfl (my_assign (Sm.v _)) rfl rfl rfl ?_
  refine mr_nil ?_
  refine z_seq ?_
  refine m_norm [0, 1] [⟨_, _⟩, ⟨_, _⟩] (by decide) rfl ?_
  refine m_ret ?_
  exact ⟨tv true, mres1 rfl rfl, rfl, rfl⟩

end Go.Proofs.Ytlklapledogdcaa.K
