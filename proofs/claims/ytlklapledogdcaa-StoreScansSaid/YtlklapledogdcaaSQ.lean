/- What is scanned, as the law says. No condition. -/
import Derived.Test.YtlklapledogdcaaSP
namespace Go.Proofs.Ytlklapledogdcaa.K
open Go

theorem ScanA_c (p r : Nat) (s : St) (hw : SW s) (hv : ∀ x ∈ s.recs, x.val.length ≤ 100000000) : MF Try.prog 16 [.ptr p [] 0, sv eS] (SH p r s) (fun Hs' res => ∃ q, Hs' = SH p r s ++ [⟨q, .row 41 3 (recsA s.recs)⟩] ∧ res = .osl q) :=
  mf_post (Scan_c p r s hw hv eS) fun _ _ ⟨q, h1, h2⟩ => ⟨q, by rw [h1, scan_all hw.srt], h2⟩

set_option maxRecDepth 100000 in
set_option maxHeartbeats 1000000 in
theorem StoreScans_m (c : List UInt8) (k : UInt8) : MF Try.prog 5 [.sl (c.map u8A), u8i k] [] (fun _ res => res = tv true) := by
  refine m_enter Try.func5 rfl Try.ntmps5 rfl ?_
  refine m_seq ?_
  refine m_region ?_
  refine ml_val (my_assign (Sm.v _)) rfl rfl rfl ?_
  refine ml_nil ?_
  refine z_seq ?_
  refine m_seq ?_
  refine m_region ?_
  refine ml_ow rfl (mo_call [] fn8 rfl rfl (New_e 50) rfl rfl (fun Hs' a hp => ?_))
  obtain ⟨p, r, s0, hs0, rfl, rfl⟩ := hp
  refine ml_norm [0, 1] [⟨_, _⟩, ⟨_, _⟩] (by decide) rfl ?_
  have hN0 : NI 0 s0 := by rw [hs0]; exact NI.zero
  clear hs0
  refine ml_val (my_assign (Sm.ptr _ _ _)) rfl rfl rfl ?_
  refine ml_nil ?_
  refine z_seq ?_
  refine m_seq ?_
  refine m_seq ?_
  refine m_region ?_
  refine ml_val (my_move (Sm.ptr _ _ _)) rfl rfl rfl ?_
  refine ml_val (my_eqlPtr Try.underlying22 rfl) rfl rfl rfl ?_
  refine ml_nil ?_
  refine z_seq ?_
  refine m_condF rfl ?_
  refine m_skip ?_
  refine z_seq ?_
  refine m_seq ?_
  refine m_seq ?_
  refine m_region ?_
  refine ml_val (my_assign (Sm.v _)) rfl rfl rfl ?_
  refine ml_nil ?_
  refine z_seq ?_
  refine m_block ?_
  refine m_loop (fun m Hs α => ∃ (i r : Nat) (s : St), Hs = SH p r s ∧ α 0 = .sl (c.map u8A) ∧ α 1 = u8i k ∧ α 5 = .ptr p [] 0 ∧ α 6 = iv .i64 (i : Int) ∧ i ≤ 30 ∧ m = 30 - i ∧ NI i s) 30 ⟨0, r, s0, rfl, rfl, rfl, rfl, rfl, by omega, rfl, hN0⟩ ?_
  clear hN0
  rintro m Hs α ⟨i, r, s, rfl, e0, e1, e5, e6, hi, rfl, hN⟩
  have hw := hN.sv.well (by omega)
  have hv := hN.sv.vals
  have hlen := hN.sv.len
  obtain ⟨σ, rfl⟩ : ∃ σ, α = ua (ua (ua (ua σ 0 (.sl (c.map u8A))) 1 (u8i k)) 5 (.ptr p [] 0)) 6 (iv .i64 (i : Int)) := ⟨α, by rw [ua_self α e0, ua_self α e1, ua_self α e5, ua_self α e6]⟩
  clear e0 e1 e5 e6
  refine m_seq ?_
  refine m_seq ?_
  refine m_region ?_
  refine ml_val (my_move (Sm.v _)) rfl rfl rfl ?_
  refine ml_val (my_move (Sm.sl _)) rfl rfl rfl ?_
  refine ml_val (MY.to (a' := iv .i64 (c.length : Int)) (my_lenS Try.underlying28 rfl) (by rw [List.length_map])) rfl rfl rfl ?_
  by_cases hlc : i < c.length
  · skip
    obtain ⟨x, hx⟩ : ∃ x, c[i]? = some x := ⟨c[i], List.getElem?_eq_getElem hlc⟩
    have hx8 := x.toNat_lt
    have hn1 := name_len x
    have hn2 := name_len (UInt8.ofNat (x.toNat / 8))
    refine ml_val (MY.to (a' := tv true) (my_lss rfl rfl) (congrArg tv (decide_eq_true (by omega)))) rfl rfl rfl ?_
    refine ml_val (my_move (Sm.v _)) rfl rfl rfl ?_
    first | refine ml_skipG rfl rfl rfl rfl rfl rfl ?_ | refine ml_valG (my_move (Sm.v _)) rfl rfl rfl rfl rfl ?_
    first | refine ml_skipG rfl rfl rfl rfl rfl rfl ?_ | refine ml_valG (my_lss rfl rfl) rfl rfl rfl rfl rfl ?_
    refine ml_val (my_pickT rfl (Sm.v _)) rfl rfl rfl ?_
    refine ml_nil ?_
    refine z_seq ?_
    refine m_condp rfl (fun h30 => ?_) (fun h30 => ?_)
    · skip
      refine m_skip ?_
      refine z_seq ?_
      refine m_seq ?_
      refine m_block ?_
      refine m_regionT (fun i => List.contains [] i) [] (.val 0 (.val 1 (.val 2 (.val 3 (.val 4 (.val 6 (.val 7 (.val 8 (.val 9 (.val 10 (.val 13 (.val 14 (.val 15 (.val 16 (.two 5 (.two 11 (.done [(12, true), (17, false), (18, false)]) 17 (.done [(11, false), (12, true), (18, false)])) 17 (.done [(5, false), (11, false), (12, true), (18, false)])))))))))))))))) mixed (by kernel_rfl) ?_
      refine mt_val rfl (my_move (Sm.ptr _ _ _)) rfl rfl rfl ?_
      refine mt_val rfl (my_move (Sm.sl _)) rfl rfl rfl ?_
      refine mt_val rfl (my_move (Sm.v _)) rfl rfl rfl ?_
      refine mt_val rfl (my_indexS Try.underlying28 I5 S5 rfl rfl (by omega) (u8_at (by simpa using hx)) rfl) rfl rfl rfl ?_
      refine mt_val rfl (my_loadF Try.underlying5 rfl rfl (fun h => absurd (show false = true from h) Bool.false_ne_true) rfl) rfl rfl rfl ?_
      refine mt_val rfl (my_move (Sm.sl _)) rfl rfl rfl ?_
      refine mt_val rfl (my_move (Sm.v _)) rfl rfl rfl ?_
      refine mt_val rfl (my_indexS Try.underlying28 I5 S5 rfl rfl (by omega) (u8_at (by simpa using hx)) rfl) rfl rfl rfl ?_
      refine mt_val rfl (my_loadF Try.underlying5 rfl rfl (fun h => absurd (show false = true from h) Bool.false_ne_true) rfl) rfl rfl rfl ?_
      refine mt_val rfl (MY.to (a' := u8i (UInt8.ofNat (x.toNat / 8))) (my_quo rfl rfl (by decide)) (congrArg (iv .u8) (quo8 x))) rfl rfl rfl ?_
      refine mt_val rfl (my_move (Sm.sl _)) rfl rfl rfl ?_
      refine mt_val rfl (my_move (Sm.v _)) rfl rfl rfl ?_
      refine mt_val rfl (my_indexS Try.underlying28 I5 S5 rfl rfl (by omega) (u8_at (by simpa using hx)) rfl) rfl rfl rfl ?_
      refine mt_val rfl (my_loadF Try.underlying5 rfl rfl (fun h => absurd (show false = true from h) Bool.false_ne_true) rfl) rfl rfl rfl ?_
      refine mt_two rfl rfl rfl rfl rfl rfl (mo_call [] fn12 rfl rfl (Name_c x) rfl rfl (fun Hs' a hp => ?_)) (mo_frz 44 (mo_lit (W := []) (ls := (([x]) : List UInt8).map u8A) (xs := [_]) Try.underlying28 I5 Z5 S5 rfl rfl rfl rfl rfl rfl rfl (fun k1 => ⟨k1, _, rfl, rfl, ?_⟩)))
      · skip
        obtain ⟨rfl, rfl⟩ := hp
        refine mt_norm [0, 1] [⟨_, _⟩, ⟨_, _⟩] (by decide) rfl rfl (by first | exact fun _ _ => rfl | (intro i hi; simp at hi; done) | (intro i hi; simp at hi; rcases hi with rfl | rfl | rfl <;> rfl) | (intro i hi; simp at hi; rcases hi with rfl | rfl <;> rfl) | (intro i hi; simp at hi; subst hi; rfl)) ?_
        refine mt_two rfl rfl rfl rfl rfl rfl (mo_call [] fn12 rfl rfl (Name_c (UInt8.ofNat (x.toNat / 8))) rfl rfl (fun Hs' a hp => ?_)) (mo_frz 44 (mo_lit (W := []) (ls := (([x]) : List UInt8).map u8A) (xs := [_]) Try.underlying28 I5 Z5 S5 rfl rfl rfl rfl rfl rfl rfl (fun k1 => ⟨k1, _, rfl, rfl, ?_⟩)))
        · skip
          obtain ⟨rfl, rfl⟩ := hp
          refine mt_norm [0, 1] [⟨_, _⟩, ⟨_, _⟩] (by decide) rfl rfl (by first | exact fun _ _ => rfl | (intro i hi; simp at hi; done) | (intro i hi; simp at hi; rcases hi with rfl | rfl | rfl <;> rfl) | (intro i hi; simp at hi; rcases hi with rfl | rfl <;> rfl) | (intro i hi; simp at hi; subst hi; rfl)) ?_
          refine mt_done ?_
          refine mr_val rfl (my_sadd rfl rfl (by omega)) rfl rfl rfl ?_
          refine mr_ow rfl rfl rfl (mo_frz 44 (mo_lit (W := []) (ls := (([x]) : List UInt8).map u8A) (xs := [_]) Try.underlying28 I5 Z5 S5 rfl rfl rfl rfl rfl rfl rfl (fun k1 => ⟨k1, _, rfl, rfl, ?_⟩)))
          refine mr_ow rfl rfl rfl (mo_call [0, 1] fn9 rfl rfl (Put_c p r s hw (nameOf x ++ nameOf (UInt8.ofNat (x.toNat / 8))) [x] (by simp)) rfl rfl (fun Hs' a hp => ?_))
          obtain ⟨r1, s1, a1, b1, hc1, rfl, rfl⟩ := hp
          refine mr_norm [2, 3] [⟨_, _⟩, ⟨_, _⟩] (by decide) rfl (by first | exact fun _ _ => rfl | (intro i hi; simp at hi; done) | (intro i hi; simp at hi; rcases hi with rfl | rfl | rfl <;> rfl) | (intro i hi; simp at hi; rcases hi with rfl | rfl <;> rfl) | (intro i hi; simp at hi; subst hi; rfl)) ?_
          have hN1 := hN.step hc1
          refine mr_nil ?_
          refine z_blk ?_
          refine z_seq ?_
          refine m_region ?_
          refine ml_val (my_move (Sm.v _)) rfl rfl rfl ?_
          refine ml_val (my_add64 rfl rfl (by omega)) rfl rfl rfl ?_
          refine ml_val (my_assign (Sm.v _)) rfl rfl rfl ?_
          refine ml_nil ?_
          exact z_lpN (30 - (i + 1)) (by omega) ⟨i + 1, r1, s1, rfl, rfl, rfl, rfl, rfl, by omega, rfl, hN1⟩
        · skip
          refine mt_done ?_
          refine mr_ow rfl rfl rfl (mo_call [] fn12 rfl rfl (Name_c (UInt8.ofNat (x.toNat / 8))) rfl rfl (fun Hs' a hp => ?_))
          obtain ⟨rfl, rfl⟩ := hp
          refine mr_norm [0, 1] [⟨_, _⟩, ⟨_, _⟩] (by decide) rfl (by first | exact fun _ _ => rfl | (intro i hi; simp at hi; done) | (intro i hi; simp at hi; rcases hi with rfl | rfl | rfl <;> rfl) | (intro i hi; simp at hi; rcases hi with rfl | rfl <;> rfl) | (intro i hi; simp at hi; subst hi; rfl)) ?_
          refine mr_val rfl (my_sadd rfl rfl (by omega)) rfl rfl rfl ?_
          refine mr_ow rfl rfl rfl (mo_call [0, 1] fn9 rfl rfl (Put_c p r s hw (nameOf x ++ nameOf (UInt8.ofNat (x.toNat / 8))) [x] (by simp)) rfl rfl (fun Hs' a hp => ?_))
          obtain ⟨r1, s1, a1, b1, hc1, rfl, rfl⟩ := hp
          refine mr_norm [2, 3] [⟨_, _⟩, ⟨_, _⟩] (by decide) rfl (by first | exact fun _ _ => rfl | (intro i hi; simp at hi; done) | (intro i hi; simp at hi; rcases hi with rfl | rfl | rfl <;> rfl) | (intro i hi; simp at hi; rcases hi with rfl | rfl <;> rfl) | (intro i hi; simp at hi; subst hi; rfl)) ?_
          have hN1 := hN.step hc1
          refine mr_nil ?_
          refine z_blk ?_
          refine z_seq ?_
          refine m_region ?_
          refine ml_val (my_move (Sm.v _)) rfl rfl rfl ?_
          refine ml_val (my_add64 rfl rfl (by omega)) rfl rfl rfl ?_
          refine ml_val (my_assign (Sm.v _)) rfl rfl rfl ?_
          refine ml_nil ?_
          exact z_lpN (30 - (i + 1)) (by omega) ⟨i + 1, r1, s1, rfl, rfl, rfl, rfl, rfl, by omega, rfl, hN1⟩
      · skip
        refine mt_done ?_
        refine mr_ow rfl rfl rfl (mo_call [] fn12 rfl rfl (Name_c x) rfl rfl (fun Hs' a hp => ?_))
        obtain ⟨rfl, rfl⟩ := hp
        refine mr_norm [0, 1] [⟨_, _⟩, ⟨_, _⟩] (by decide) rfl (by first | exact fun _ _ => rfl | (intro i hi; simp at hi; done) | (intro i hi; simp at hi; rcases hi with rfl | rfl | rfl <;> rfl) | (intro i hi; simp at hi; rcases hi with rfl | rfl <;> rfl) | (intro i hi; simp at hi; subst hi; rfl)) ?_
        refine mr_ow rfl rfl rfl (mo_call [] fn12 rfl rfl (Name_c (UInt8.ofNat (x.toNat / 8))) rfl rfl (fun Hs' a hp => ?_))
        obtain ⟨rfl, rfl⟩ := hp
        refine mr_norm [0, 1] [⟨_, _⟩, ⟨_, _⟩] (by decide) rfl (by first | exact fun _ _ => rfl | (intro i hi; simp at hi; done) | (intro i hi; simp at hi; rcases hi with rfl | rfl | rfl <;> rfl) | (intro i hi; simp at hi; rcases hi with rfl | rfl <;> rfl) | (intro i hi; simp at hi; subst hi; rfl)) ?_
        refine mr_val rfl (my_sadd rfl rfl (by omega)) rfl rfl rfl ?_
        refine mr_ow rfl rfl rfl (mo_call [0, 1] fn9 rfl rfl (Put_c p r s hw (nameOf x ++ nameOf (UInt8.ofNat (x.toNat / 8))) [x] (by simp)) rfl rfl (fun Hs' a hp => ?_))
        obtain ⟨r1, s1, a1, b1, hc1, rfl, rfl⟩ := hp
        refine mr_norm [2, 3] [⟨_, _⟩, ⟨_, _⟩] (by decide) rfl (by first | exact fun _ _ => rfl | (intro i hi; simp at hi; done) | (intro i hi; simp at hi; rcases hi with rfl | rfl | rfl <;> rfl) | (intro i hi; simp at hi; rcases hi with rfl | rfl <;> rfl) | (intro i hi; simp at hi; subst hi; rfl)) ?_
        have hN1 := hN.step hc1
        refine mr_nil ?_
        refine z_blk ?_
        refine z_seq ?_
        refine m_region ?_
        refine ml_val (my_move (Sm.v _)) rfl rfl rfl ?_
        refine ml_val (my_add64 rfl rfl (by omega)) rfl rfl rfl ?_
        refine ml_val (my_assign (Sm.v _)) rfl rfl rfl ?_
        refine ml_nil ?_
        exact z_lpN (30 - (i + 1)) (by omega) ⟨i + 1, r1, s1, rfl, rfl, rfl, rfl, rfl, by omega, rfl, hN1⟩
    · skip
      clear hx hx8 hn1 hn2
      refine m_exit ?_
      refine z_seqX ?_
      refine z_lpX ?_
      refine z_blkX ?_
      refine z_seq ?_
      refine m_seq ?_
      refine m_region ?_
      refine ml_val (my_move (Sm.v _)) rfl rfl rfl ?_
      refine ml_ow rfl (mo_call [] fn12 rfl rfl (Name_c k) rfl rfl (fun Hs' a hp => ?_))
      obtain ⟨rfl, rfl⟩ := hp
      refine ml_norm [0, 1] [⟨_, _⟩, ⟨_, _⟩] (by decide) rfl ?_
      refine ml_val (my_assign (Sm.v _)) rfl rfl rfl ?_
      refine ml_nil ?_
      refine z_seq ?_
      refine m_seq ?_
      refine m_region ?_
      refine ml_val (my_move (Sm.ptr _ _ _)) rfl rfl rfl ?_
      refine ml_ow rfl (mo_call [0, 1] fn16 rfl rfl (ScanA_c p r s hw hv) rfl rfl (fun Hs' a hp => ?_))
      obtain ⟨q, rfl, rfl⟩ := hp
      refine ml_norm [2, 3, 4] [⟨_, _⟩, ⟨_, _⟩, ⟨_, _⟩] (by decide) rfl ?_
      refine ml_pre (sh_frz 49 (q := 2) rfl rfl) ?_
      refine ml_norm [0, 1] [⟨_, _⟩, ⟨_, _⟩] (by decide) rfl ?_
      refine ml_val (my_assign (Sm.sl _)) rfl rfl rfl ?_
      refine ml_nil ?_
      refine z_seq ?_
      refine m_seq ?_
      refine m_region ?_
      refine ml_val (my_move (Sm.ptr _ _ _)) rfl rfl rfl ?_
      refine ml_val (my_move (Sm.v _)) rfl rfl rfl ?_
      refine ml_ow rfl (mo_call [0, 1] fn16 rfl rfl (Scan_c p r s hw hv (nameOf k)) rfl rfl (fun Hs' a hp => ?_))
      obtain ⟨q, rfl, rfl⟩ := hp
      refine ml_norm [2, 3, 4] [⟨_, _⟩, ⟨_, _⟩, ⟨_, _⟩] (by decide) rfl ?_
      refine ml_pre (sh_frz 52 (q := 2) rfl rfl) ?_
      refine ml_norm [0, 1] [⟨_, _⟩, ⟨_, _⟩] (by decide) rfl ?_
      refine ml_val (my_assign (Sm.sl _)) rfl rfl rfl ?_
      refine ml_nil ?_
      refine z_seq ?_
      refine m_seq ?_
      refine m_region ?_
      refine ml_val (my_assign (Sm.v _)) rfl rfl rfl ?_
      refine ml_nil ?_
      refine z_seq ?_
      refine m_seq ?_
      refine m_seq ?_
      refine m_region ?_
      refine ml_val (my_assign (Sm.v _)) rfl rfl rfl ?_
      refine ml_nil ?_
      refine z_seq ?_
      refine m_block ?_
      refine m_loop (fun m Hs α => ∃ (j : Nat), Hs = SH p r s ∧ α 5 = .ptr p [] 0 ∧ α 7 = sv (nameOf k) ∧ α 8 = .sl (recsA s.recs) ∧ α 9 = .sl (recsA (scanR s.recs (nameOf k))) ∧ α 10 = iv .i64 (cnt s.recs (nameOf k) j : Int) ∧ α 11 = iv .i64 (j : Int) ∧ j ≤ s.recs.length ∧ m = s.recs.length - j) s.recs.length ⟨0, rfl, rfl, rfl, rfl, rfl, rfl, rfl, by omega, rfl⟩ ?_
      rintro m Hs α ⟨j, rfl, e5, e7, e8, e9, e10, e11, hj, rfl⟩
      have hcl := cnt_le s.recs (nameOf k) j
      obtain ⟨σ, rfl⟩ : ∃ σ, α = ua (ua (ua (ua (ua (ua σ 5 (.ptr p [] 0)) 7 (sv (nameOf k))) 8 (.sl (recsA s.recs))) 9 (.sl (recsA (scanR s.recs (nameOf k))))) 10 (iv .i64 (cnt s.recs (nameOf k) j : Int))) 11 (iv .i64 (j : Int)) := ⟨α, by rw [ua_self α e5, ua_self α e7, ua_self α e8, ua_self α e9, ua_self α e10, ua_self α e11]⟩
      clear e5 e7 e8 e9 e10 e11
      refine m_seq ?_
      refine m_seq ?_
      refine m_region ?_
      refine ml_val (my_move (Sm.v _)) rfl rfl rfl ?_
      refine ml_val (my_move (Sm.sl _)) rfl rfl rfl ?_
      refine ml_val (MY.to (a' := iv .i64 (s.recs.length : Int)) (my_lenS Try.underlying38 rfl) (by rw [recsA_length])) rfl rfl rfl ?_
      refine ml_val (my_lss rfl rfl) rfl rfl rfl ?_
      refine ml_nil ?_
      refine z_seq ?_
      refine m_condp rfl (fun hjl => ?_) (fun hjl => ?_)
      · skip
        obtain ⟨x, hx⟩ : ∃ x, s.recs[j]? = some x := ⟨s.recs[j], List.getElem?_eq_getElem (by omega)⟩
        refine m_skip ?_
        refine z_seq ?_
        refine m_seq ?_
        refine m_block ?_
        refine m_seq ?_
        refine m_seq ?_
        refine m_regionD (fun i => List.contains [] i) [] [(0, true), (1, true), (2, true), (3, true), (4, true), (5, true), (6, true), (7, true), (8, true), (9, true), (10, true), (11, true), (12, true), (13, true), (14, true), (15, true)] mixed (by kernel_rfl) ?_
        refine mr_val rfl (my_move (Sm.v _)) rfl rfl rfl ?_
        by_cases hj0 : 0 < j
        · skip
          obtain ⟨y, hy⟩ : ∃ y, s.recs[j - 1]? = some y := ⟨s.recs[j - 1], List.getElem?_eq_getElem (by omega)⟩
          have hyx := srt_get hw.srt hy hx (by omega)
          refine mr_val rfl (MY.to (a' := tv true) (my_gtr rfl rfl) (congrArg tv (decide_eq_true (by omega)))) rfl rfl rfl ?_
          refine mr_val rfl (my_move (Sm.v _)) rfl rfl rfl ?_
          first | refine mr_skipG rfl rfl rfl rfl rfl rfl rfl ?_ | refine mr_valG rfl (my_move (Sm.sl _)) rfl rfl rfl rfl rfl ?_
          first | refine mr_skipG rfl rfl rfl rfl rfl rfl rfl ?_ | refine mr_valG rfl (my_move (Sm.v _)) rfl rfl rfl rfl rfl ?_
          first | refine mr_skipG rfl rfl rfl rfl rfl rfl rfl ?_ | refine mr_valG rfl (MY.to (a' := iv .i64 ((j - 1 : Nat) : Int)) (my_sub64 rfl rfl (by omega)) (congrArg (iv .i64) (by omega))) rfl rfl rfl rfl rfl ?_
          first | refine mr_skipG rfl rfl rfl rfl rfl rfl rfl ?_ | refine mr_valG rfl (my_indexS Try.underlying38 I41 S41 rfl rfl (by omega) (recsA_get (by simpa using hy)) rfl) rfl rfl rfl rfl rfl ?_
          first | refine mr_skipG rfl rfl rfl rfl rfl rfl rfl ?_ | refine mr_valG rfl (my_fieldF Try.underlying41 rfl I9 S9 rfl rfl rfl rfl) rfl rfl rfl rfl rfl ?_
          first | refine mr_skipG rfl rfl rfl rfl rfl rfl rfl ?_ | refine mr_valG rfl (my_loadF Try.underlying9 rfl rfl (fun h => absurd (show false = true from h) Bool.false_ne_true) rfl) rfl rfl rfl rfl rfl ?_
          first | refine mr_skipG rfl rfl rfl rfl rfl rfl rfl ?_ | refine mr_valG rfl (my_move (Sm.sl _)) rfl rfl rfl rfl rfl ?_
          first | refine mr_skipG rfl rfl rfl rfl rfl rfl rfl ?_ | refine mr_valG rfl (my_move (Sm.v _)) rfl rfl rfl rfl rfl ?_
          first | refine mr_skipG rfl rfl rfl rfl rfl rfl rfl ?_ | refine mr_valG rfl (my_indexS Try.underlying38 I41 S41 rfl rfl (by omega) (recsA_get (by simpa using hx)) rfl) rfl rfl rfl rfl rfl ?_
          first | refine mr_skipG rfl rfl rfl rfl rfl rfl rfl ?_ | refine mr_valG rfl (my_fieldF Try.underlying41 rfl I9 S9 rfl rfl rfl rfl) rfl rfl rfl rfl rfl ?_
          first | refine mr_skipG rfl rfl rfl rfl rfl rfl rfl ?_ | refine mr_valG rfl (my_loadF Try.underlying9 rfl rfl (fun h => absurd (show false = true from h) Bool.false_ne_true) rfl) rfl rfl rfl rfl rfl ?_
          first | refine mr_skipG rfl rfl rfl rfl rfl rfl rfl ?_ | refine mr_valG rfl (MY.to (a' := tv false) (my_sgeq rfl rfl) (by rw [hyx]; rfl)) rfl rfl rfl rfl rfl ?_
          refine mr_val rfl (my_pickT rfl (Sm.v _)) rfl rfl rfl ?_
          refine mr_nil ?_
          refine z_seq ?_
          refine m_condF rfl ?_
          refine m_skip ?_
          refine z_seq ?_
          refine m_seq ?_
          refine m_seq ?_
          refine m_region ?_
          refine ml_val (my_move (Sm.sl _)) rfl rfl rfl ?_
          refine ml_val (my_move (Sm.v _)) rfl rfl rfl ?_
          refine ml_val (my_indexS Try.underlying38 I41 S41 rfl rfl (by omega) (recsA_get (by simpa using hx)) rfl) rfl rfl rfl ?_
          refine ml_val (my_fieldF Try.underlying41 rfl I9 S9 rfl rfl rfl rfl) rfl rfl rfl ?_
          refine ml_val (my_loadF Try.underlying9 rfl rfl (fun h => absurd (show false = true from h) Bool.false_ne_true) rfl) rfl rfl rfl ?_
          refine ml_val (my_lenStr Try.underlying9 rfl) rfl rfl rfl ?_
          refine ml_val (my_move (Sm.v _)) rfl rfl rfl ?_
          refine ml_val (my_lenStr Try.underlying9 rfl) rfl rfl rfl ?_
          by_cases hle : (nameOf k).size ≤ x.key.size
          · skip
            refine ml_val (MY.to (a' := tv true) (my_geq rfl rfl) (congrArg tv (decide_eq_true (by omega)))) rfl rfl rfl ?_
            refine ml_val (my_move (Sm.v _)) rfl rfl rfl ?_
            first | refine ml_skipG rfl rfl rfl rfl rfl rfl ?_ | refine ml_valG (my_move (Sm.sl _)) rfl rfl rfl rfl rfl ?_
            first | refine ml_skipG rfl rfl rfl rfl rfl rfl ?_ | refine ml_valG (my_move (Sm.v _)) rfl rfl rfl rfl rfl ?_
            refine ml_valG (my_indexS Try.underlying38 I41 S41 rfl rfl (by omega) (recsA_get (by simpa using hx)) rfl) rfl rfl rfl rfl rfl ?_
            first | refine ml_skipG rfl rfl rfl rfl rfl rfl ?_ | refine ml_valG (my_fieldF Try.underlying41 rfl I9 S9 rfl rfl rfl rfl) rfl rfl rfl rfl rfl ?_
            first | refine ml_skipG rfl rfl rfl rfl rfl rfl ?_ | refine ml_valG (my_loadF Try.underlying9 rfl rfl (fun h => absurd (show false = true from h) Bool.false_ne_true) rfl) rfl rfl rfl rfl rfl ?_
            first | refine ml_skipG rfl rfl rfl rfl rfl rfl ?_ | refine ml_valG (my_move (Sm.v _)) rfl rfl rfl rfl rfl ?_
            first | refine ml_skipG rfl rfl rfl rfl rfl rfl ?_ | refine ml_valG (my_lenStr Try.underlying9 rfl) rfl rfl rfl rfl rfl ?_
            refine ml_valG (my_strHi Try.underlying9 rfl rfl (by omega) (by omega)) rfl rfl rfl rfl rfl ?_
            first | refine ml_skipG rfl rfl rfl rfl rfl rfl ?_ | refine ml_valG (my_move (Sm.v _)) rfl rfl rfl rfl rfl ?_
            refine ml_valG (my_seql rfl rfl) rfl rfl rfl rfl rfl ?_
            refine ml_val (my_pickT rfl (Sm.v _)) rfl rfl rfl ?_
            refine ml_nil ?_
            refine z_seq ?_
            refine m_condp rfl (fun hex => ?_) (fun hex => ?_)
            · skip
              have hpx : pre x.key (nameOf k) = true := pre_yes hle (by simpa using hex)
              refine m_region ?_
              refine ml_val (my_move (Sm.v _)) rfl rfl rfl ?_
              refine ml_val (MY.to (a' := iv .i64 (cnt s.recs (nameOf k) (j + 1) : Int)) (my_add64 rfl rfl (by omega)) (by rw [cnt_yes hx hpx]; rfl)) rfl rfl rfl ?_
              refine ml_val (my_assign (Sm.v _)) rfl rfl rfl ?_
              refine ml_nil ?_
              refine z_seq ?_
              refine m_seq ?_
              refine m_region ?_
              refine ml_val (my_move (Sm.ptr _ _ _)) rfl rfl rfl ?_
              refine ml_val (my_move (Sm.sl _)) rfl rfl rfl ?_
              refine ml_val (my_move (Sm.v _)) rfl rfl rfl ?_
              refine ml_val (my_indexS Try.underlying38 I41 S41 rfl rfl (by omega) (recsA_get (by simpa using hx)) rfl) rfl rfl rfl ?_
              refine ml_val (my_fieldF Try.underlying41 rfl I9 S9 rfl rfl rfl rfl) rfl rfl rfl ?_
              refine ml_val (my_loadF Try.underlying9 rfl rfl (fun h => absurd (show false = true from h) Bool.false_ne_true) rfl) rfl rfl rfl ?_
              refine ml_ow rfl (mo_call [0, 1] fn13 rfl rfl (Get_c p r s hw x.key hv) rfl rfl (fun Hs' a hp => ?_))
              obtain ⟨rfl, rfl⟩ := hp
              refine ml_norm [2, 3] [⟨_, _⟩, ⟨_, _⟩] (by decide) rfl ?_
              refine ml_val (my_move (Sm.tup _)) rfl rfl rfl ?_
              refine ml_val (my_extract rfl rfl) rfl rfl rfl ?_
              refine ml_val (my_extract rfl rfl) rfl rfl rfl ?_
              refine ml_val (my_assign (Sm.sl _)) rfl rfl rfl ?_
              refine ml_val (my_assign (Sm.v _)) rfl rfl rfl ?_
              refine ml_nil ?_
              refine z_seq ?_
              refine m_seq ?_
              refine m_regionD (fun i => List.contains [] i) [] [(0, true), (1, true), (2, true), (3, true), (4, true), (5, true), (6, true), (7, true), (8, true), (9, true), (10, true), (11, true), (12, true), (13, true), (14, true), (15, true), (16, true), (17, true)] mixed (by kernel_rfl) ?_
              refine mr_val rfl (my_move (Sm.sl _)) rfl rfl rfl ?_
              refine mr_val rfl (my_b2s (l := valR s.recs x.key) Try.underlying28 Try.underlying5 Try.underlying9 rfl) rfl rfl rfl ?_
              refine mr_val rfl (my_move (Sm.sl _)) rfl rfl rfl ?_
              refine mr_val rfl (my_move (Sm.v _)) rfl rfl rfl ?_
              refine mr_val rfl (my_indexS Try.underlying38 I41 S41 rfl rfl (by omega) (recsA_get (by simpa using hx)) rfl) rfl rfl rfl ?_
              refine mr_val rfl (my_fieldF Try.underlying41 rfl I28 S28 rfl rfl rfl rfl) rfl rfl rfl ?_
              refine mr_val rfl (my_loadF Try.underlying28 rfl rfl (fun h => absurd (show false = true from h) Bool.false_ne_true) rfl) rfl rfl rfl ?_
              refine mr_val rfl (my_b2s (l := x.val) Try.underlying28 Try.underlying5 Try.underlying9 rfl) rfl rfl rfl ?_
              refine mr_val rfl (MY.to (a' := tv false) (my_sneq rfl rfl) (congrArg tv (decide_eq_false (by rw [valR_at hw.srt hx]; simp)))) rfl rfl rfl ?_
              refine mr_val rfl (my_move (Sm.v _)) rfl rfl rfl ?_
              first | refine mr_skipG rfl rfl rfl rfl rfl rfl rfl ?_ | refine mr_valG rfl (my_move (Sm.v _)) rfl rfl rfl rfl rfl ?_
              first | refine mr_skipG rfl rfl rfl rfl rfl rfl rfl ?_ | refine mr_valG rfl (my_move (Sm.sl _)) rfl rfl rfl rfl rfl ?_
              first | refine mr_skipG rfl rfl rfl rfl rfl rfl rfl ?_ | refine mr_valG rfl (my_move (Sm.v _)) rfl rfl rfl rfl rfl ?_
              first | refine mr_skipG rfl rfl rfl rfl rfl rfl rfl ?_ | refine mr_valG rfl (my_indexS Try.underlying38 I41 S41 rfl rfl (by omega) (recsA_get (by simpa using hx)) rfl) rfl rfl rfl rfl rfl ?_
              first | refine mr_skipG rfl rfl rfl rfl rfl rfl rfl ?_ | refine mr_valG rfl (my_fieldF Try.underlying41 rfl I3 S3 rfl rfl rfl rfl) rfl rfl rfl rfl rfl ?_
              first | refine mr_skipG rfl rfl rfl rfl rfl rfl rfl ?_ | refine mr_valG rfl (my_loadF Try.underlying3 rfl rfl (fun h => absurd (show false = true from h) Bool.false_ne_true) rfl) rfl rfl rfl rfl rfl ?_
              first | refine mr_skipG rfl rfl rfl rfl rfl rfl rfl ?_ | refine mr_valG rfl (MY.to (a' := tv false) (my_neq rfl rfl) (congrArg tv (decide_eq_false (by rw [verR_at hw.srt hx]; simp)))) rfl rfl rfl rfl rfl ?_
              refine mr_val rfl (my_pickF rfl (Sm.v _)) rfl rfl rfl ?_
              refine mr_nil ?_
              refine z_seq ?_
              refine m_condF rfl ?_
              refine m_skip ?_
              refine z_blk ?_
              refine z_seq ?_
              refine m_region ?_
              refine ml_val (my_move (Sm.v _)) rfl rfl rfl ?_
              refine ml_val (my_add64 rfl rfl (by omega)) rfl rfl rfl ?_
              refine ml_val (my_assign (Sm.v _)) rfl rfl rfl ?_
              refine ml_nil ?_
              exact z_lpN (s.recs.length - (j + 1)) (by omega) ⟨j + 1, rfl, rfl, rfl, rfl, rfl, rfl, rfl, by omega, rfl⟩
            · skip
              have hpx : pre x.key (nameOf k) = false := pre_no (fun h => hex (by simpa using h.2))
              refine m_skip ?_
              refine z_seq ?_
              refine m_seq ?_
              refine m_region ?_
              refine ml_val (my_move (Sm.ptr _ _ _)) rfl rfl rfl ?_
              refine ml_val (my_move (Sm.sl _)) rfl rfl rfl ?_
              refine ml_val (my_move (Sm.v _)) rfl rfl rfl ?_
              refine ml_val (my_indexS Try.underlying38 I41 S41 rfl rfl (by omega) (recsA_get (by simpa using hx)) rfl) rfl rfl rfl ?_
              refine ml_val (my_fieldF Try.underlying41 rfl I9 S9 rfl rfl rfl rfl) rfl rfl rfl ?_
              refine ml_val (my_loadF Try.underlying9 rfl rfl (fun h => absurd (show false = true from h) Bool.false_ne_true) rfl) rfl rfl rfl ?_
              refine ml_ow rfl (mo_call [0, 1] fn13 rfl rfl (Get_c p r s hw x.key hv) rfl rfl (fun Hs' a hp => ?_))
              obtain ⟨rfl, rfl⟩ := hp
              refine ml_norm [2, 3] [⟨_, _⟩, ⟨_, _⟩] (by decide) rfl ?_
              refine ml_val (my_move (Sm.tup _)) rfl rfl rfl ?_
              refine ml_val (my_extract rfl rfl) rfl rfl rfl ?_
              refine ml_val (my_extract rfl rfl) rfl rfl rfl ?_
              refine ml_val (my_assign (Sm.sl _)) rfl rfl rfl ?_
              refine ml_val (my_assign (Sm.v _)) rfl rfl rfl ?_
              refine ml_nil ?_
              refine z_seq ?_
              refine m_seq ?_
              refine m_regionD (fun i => List.contains [] i) [] [(0, true), (1, true), (2, true), (3, true), (4, true), (5, true), (6, true), (7, true), (8, true), (9, true), (10, true), (11, true), (12, true), (13, true), (14, true), (15, true), (16, true), (17, true)] mixed (by kernel_rfl) ?_
              refine mr_val rfl (my_move (Sm.sl _)) rfl rfl rfl ?_
              refine mr_val rfl (my_b2s (l := valR s.recs x.key) Try.underlying28 Try.underlying5 Try.underlying9 rfl) rfl rfl rfl ?_
              refine mr_val rfl (my_move (Sm.sl _)) rfl rfl rfl ?_
              refine mr_val rfl (my_move (Sm.v _)) rfl rfl rfl ?_
              refine mr_val rfl (my_indexS Try.underlying38 I41 S41 rfl rfl (by omega) (recsA_get (by simpa using hx)) rfl) rfl rfl rfl ?_
              refine mr_val rfl (my_fieldF Try.underlying41 rfl I28 S28 rfl rfl rfl rfl) rfl rfl rfl ?_
              refine mr_val rfl (my_loadF Try.underlying28 rfl rfl (fun h => absurd (show false = true from h) Bool.false_ne_true) rfl) rfl rfl rfl ?_
              refine mr_val rfl (my_b2s (l := x.val) Try.underlying28 Try.underlying5 Try.underlying9 rfl) rfl rfl rfl ?_
              refine mr_val rfl (MY.to (a' := tv false) (my_sneq rfl rfl) (congrArg tv (decide_eq_false (by rw [valR_at hw.srt hx]; simp)))) rfl rfl rfl ?_
              refine mr_val rfl (my_move (Sm.v _)) rfl rfl rfl ?_
              first | refine mr_skipG rfl rfl rfl rfl rfl rfl rfl ?_ | refine mr_valG rfl (my_move (Sm.v _)) rfl rfl rfl rfl rfl ?_
              first | refine mr_skipG rfl rfl rfl rfl rfl rfl rfl ?_ | refine mr_valG rfl (my_move (Sm.sl _)) rfl rfl rfl rfl rfl ?_
              first | refine mr_skipG rfl rfl rfl rfl rfl rfl rfl ?_ | refine mr_valG rfl (my_move (Sm.v _)) rfl rfl rfl rfl rfl ?_
              first | refine mr_skipG rfl rfl rfl rfl rfl rfl rfl ?_ | refine mr_valG rfl (my_indexS Try.underlying38 I41 S41 rfl rfl (by omega) (recsA_get (by simpa using hx)) rfl) rfl rfl rfl rfl rfl ?_
              first | refine mr_skipG rfl rfl rfl rfl rfl rfl rfl ?_ | refine mr_valG rfl (my_fieldF Try.underlying41 rfl I3 S3 rfl rfl rfl rfl) rfl rfl rfl rfl rfl ?_
              first | refine mr_skipG rfl rfl rfl rfl rfl rfl rfl ?_ | refine mr_valG rfl (my_loadF Try.underlying3 rfl rfl (fun h => absurd (show false = true from h) Bool.false_ne_true) rfl) rfl rfl rfl rfl rfl ?_
              first | refine mr_skipG rfl rfl rfl rfl rfl rfl rfl ?_ | refine mr_valG rfl (MY.to (a' := tv false) (my_neq rfl rfl) (congrArg tv (decide_eq_false (by rw [verR_at hw.srt hx]; simp)))) rfl rfl rfl rfl rfl ?_
              refine mr_val rfl (my_pickF rfl (Sm.v _)) rfl rfl rfl ?_
              refine mr_nil ?_
              refine z_seq ?_
              refine m_condF rfl ?_
              refine m_skip ?_
              refine z_blk ?_
              refine z_seq ?_
              refine m_region ?_
              refine ml_val (my_move (Sm.v _)) rfl rfl rfl ?_
              refine ml_val (my_add64 rfl rfl (by omega)) rfl rfl rfl ?_
              refine ml_val (my_assign (Sm.v _)) rfl rfl rfl ?_
              refine ml_nil ?_
              exact z_lpN (s.recs.length - (j + 1)) (by omega) ⟨j + 1, rfl, rfl, rfl, rfl, rfl, congrArg (fun n : Nat => iv .i64 (n : Int)) (cnt_no hx hpx).symm, rfl, by omega, rfl⟩
          · skip
            refine ml_val (MY.to (a' := tv false) (my_geq rfl rfl) (congrArg tv (decide_eq_false (by omega)))) rfl rfl rfl ?_
            refine ml_val (my_move (Sm.v _)) rfl rfl rfl ?_
            refine ml_skipG rfl rfl rfl rfl rfl rfl ?_
            refine ml_skipG rfl rfl rfl rfl rfl rfl ?_
            refine ml_skipG rfl rfl rfl rfl rfl rfl ?_
            refine ml_skipG rfl rfl rfl rfl rfl rfl ?_
            refine ml_skipG rfl rfl rfl rfl rfl rfl ?_
            refine ml_skipG rfl rfl rfl rfl rfl rfl ?_
            refine ml_skipG rfl rfl rfl rfl rfl rfl ?_
            refine ml_skipG rfl rfl rfl rfl rfl rfl ?_
            refine ml_skipG rfl rfl rfl rfl rfl rfl ?_
            refine ml_skipG rfl rfl rfl rfl rfl rfl ?_
            refine ml_val (my_pickF rfl (Sm.v _)) rfl rfl rfl ?_
            refine ml_nil ?_
            refine z_seq ?_
            refine m_condF rfl ?_
            refine m_skip ?_
            refine z_seq ?_
            refine m_seq ?_
            have hpx : pre x.key (nameOf k) = false := pre_no (fun h => hle h.1)
            refine m_region ?_
            refine ml_val (my_move (Sm.ptr _ _ _)) rfl rfl rfl ?_
            refine ml_val (my_move (Sm.sl _)) rfl rfl rfl ?_
            refine ml_val (my_move (Sm.v _)) rfl rfl rfl ?_
            refine ml_val (my_indexS Try.underlying38 I41 S41 rfl rfl (by omega) (recsA_get (by simpa using hx)) rfl) rfl rfl rfl ?_
            refine ml_val (my_fieldF Try.underlying41 rfl I9 S9 rfl rfl rfl rfl) rfl rfl rfl ?_
            refine ml_val (my_loadF Try.underlying9 rfl rfl (fun h => absurd (show false = true from h) Bool.false_ne_true) rfl) rfl rfl rfl ?_
            refine ml_ow rfl (mo_call [0, 1] fn13 rfl rfl (Get_c p r s hw x.key hv) rfl rfl (fun Hs' a hp => ?_))
            obtain ⟨rfl, rfl⟩ := hp
            refine ml_norm [2, 3] [⟨_, _⟩, ⟨_, _⟩] (by decide) rfl ?_
            refine ml_val (my_move (Sm.tup _)) rfl rfl rfl ?_
            refine ml_val (my_extract rfl rfl) rfl rfl rfl ?_
            refine ml_val (my_extract rfl rfl) rfl rfl rfl ?_
            refine ml_val (my_assign (Sm.sl _)) rfl rfl rfl ?_
            refine ml_val (my_assign (Sm.v _)) rfl rfl rfl ?_
            refine ml_nil ?_
            refine z_seq ?_
            refine m_seq ?_
            refine m_regionD (fun i => List.contains [] i) [] [(0, true), (1, true), (2, true), (3, true), (4, true), (5, true), (6, true), (7, true), (8, true), (9, true), (10, true), (11, true), (12, true), (13, true), (14, true), (15, true), (16, true), (17, true)] mixed (by kernel_rfl) ?_
            refine mr_val rfl (my_move (Sm.sl _)) rfl rfl rfl ?_
            refine mr_val rfl (my_b2s (l := valR s.recs x.key) Try.underlying28 Try.underlying5 Try.underlying9 rfl) rfl rfl rfl ?_
            refine mr_val rfl (my_move (Sm.sl _)) rfl rfl rfl ?_
            refine mr_val rfl (my_move (Sm.v _)) rfl rfl rfl ?_
            refine mr_val rfl (my_indexS Try.underlying38 I41 S41 rfl rfl (by omega) (recsA_get (by simpa using hx)) rfl) rfl rfl rfl ?_
            refine mr_val rfl (my_fieldF Try.underlying41 rfl I28 S28 rfl rfl rfl rfl) rfl rfl rfl ?_
            refine mr_val rfl (my_loadF Try.underlying28 rfl rfl (fun h => absurd (show false = true from h) Bool.false_ne_true) rfl) rfl rfl rfl ?_
            refine mr_val rfl (my_b2s (l := x.val) Try.underlying28 Try.underlying5 Try.underlying9 rfl) rfl rfl rfl ?_
            refine mr_val rfl (MY.to (a' := tv false) (my_sneq rfl rfl) (congrArg tv (decide_eq_false (by rw [valR_at hw.srt hx]; simp)))) rfl rfl rfl ?_
            refine mr_val rfl (my_move (Sm.v _)) rfl rfl rfl ?_
            first | refine mr_skipG rfl rfl rfl rfl rfl rfl rfl ?_ | refine mr_valG rfl (my_move (Sm.v _)) rfl rfl rfl rfl rfl ?_
            first | refine mr_skipG rfl rfl rfl rfl rfl rfl rfl ?_ | refine mr_valG rfl (my_move (Sm.sl _)) rfl rfl rfl rfl rfl ?_
            first | refine mr_skipG rfl rfl rfl rfl rfl rfl rfl ?_ | refine mr_valG rfl (my_move (Sm.v _)) rfl rfl rfl rfl rfl ?_
            first | refine mr_skipG rfl rfl rfl rfl rfl rfl rfl ?_ | refine mr_valG rfl (my_indexS Try.underlying38 I41 S41 rfl rfl (by omega) (recsA_get (by simpa using hx)) rfl) rfl rfl rfl rfl rfl ?_
            first | refine mr_skipG rfl rfl rfl rfl rfl rfl rfl ?_ | refine mr_valG rfl (my_fieldF Try.underlying41 rfl I3 S3 rfl rfl rfl rfl) rfl rfl rfl rfl rfl ?_
            first | refine mr_skipG rfl rfl rfl rfl rfl rfl rfl ?_ | refine mr_valG rfl (my_loadF Try.underlying3 rfl rfl (fun h => absurd (show false = true from h) Bool.false_ne_true) rfl) rfl rfl rfl rfl rfl ?_
            first | refine mr_skipG rfl rfl rfl rfl rfl rfl rfl ?_ | refine mr_valG rfl (MY.to (a' := tv false) (my_neq rfl rfl) (congrArg tv (decide_eq_false (by rw [verR_at hw.srt hx]; simp)))) rfl rfl rfl rfl rfl ?_
            refine mr_val rfl (my_pickF rfl (Sm.v _)) rfl rfl rfl ?_
            refine mr_nil ?_
            refine z_seq ?_
            refine m_condF rfl ?_
            refine m_skip ?_
            refine z_blk ?_
            refine z_seq ?_
            refine m_region ?_
            refine ml_val (my_move (Sm.v _)) rfl rfl rfl ?_
            refine ml_val (my_add64 rfl rfl (by omega)) rfl rfl rfl ?_
            refine ml_val (my_assign (Sm.v _)) rfl rfl rfl ?_
            refine ml_nil ?_
            exact z_lpN (s.recs.length - (j + 1)) (by omega) ⟨j + 1, rfl, rfl, rfl, rfl, rfl, congrArg (fun n : Nat => iv .i64 (n : Int)) (cnt_no hx hpx).symm, rfl, by omega, rfl⟩
        · skip
          refine mr_val rfl (MY.to (a' := tv false) (my_gtr rfl rfl) (congrArg tv (decide_eq_false (by omega)))) rfl rfl rfl ?_
          refine mr_val rfl (my_move (Sm.v _)) rfl rfl rfl ?_
          first | refine mr_skipG rfl rfl rfl rfl rfl rfl rfl ?_ | refine mr_valG rfl (my_move (Sm.sl _)) rfl rfl rfl rfl rfl ?_
          first | refine mr_skipG rfl rfl rfl rfl rfl rfl rfl ?_ | refine mr_valG rfl (my_move (Sm.v _)) rfl rfl rfl rfl rfl ?_
          first | refine mr_skipG rfl rfl rfl rfl rfl rfl rfl ?_ | refine mr_valG rfl (my_sub64 rfl rfl (by omega)) rfl rfl rfl rfl rfl ?_
          first | refine mr_skipG rfl rfl rfl rfl rfl rfl rfl ?_ | refine mr_valG rfl (my_indexS Try.underlying38 I41 S41 rfl rfl (by omega) (rfl) rfl) rfl rfl rfl rfl rfl ?_
          first | refine mr_skipG rfl rfl rfl rfl rfl rfl rfl ?_ | refine mr_valG rfl (my_fieldF Try.underlying41 rfl I9 S9 rfl rfl rfl rfl) rfl rfl rfl rfl rfl ?_
          first | refine mr_skipG rfl rfl rfl rfl rfl rfl rfl ?_ | refine mr_valG rfl (my_loadF Try.underlying9 rfl rfl (fun h => absurd (show false = true from h) Bool.false_ne_true) rfl) rfl rfl rfl rfl rfl ?_
          first | refine mr_skipG rfl rfl rfl rfl rfl rfl rfl ?_ | refine mr_valG rfl (my_move (Sm.sl _)) rfl rfl rfl rfl rfl ?_
          first | refine mr_skipG rfl rfl rfl rfl rfl rfl rfl ?_ | refine mr_valG rfl (my_move (Sm.v _)) rfl rfl rfl rfl rfl ?_
          first | refine mr_skipG rfl rfl rfl rfl rfl rfl rfl ?_ | refine mr_valG rfl (my_indexS Try.underlying38 I41 S41 rfl rfl (by omega) (rfl) rfl) rfl rfl rfl rfl rfl ?_
          first | refine mr_skipG rfl rfl rfl rfl rfl rfl rfl ?_ | refine mr_valG rfl (my_fieldF Try.underlying41 rfl I9 S9 rfl rfl rfl rfl) rfl rfl rfl rfl rfl ?_
          first | refine mr_skipG rfl rfl rfl rfl rfl rfl rfl ?_ | refine mr_valG rfl (my_loadF Try.underlying9 rfl rfl (fun h => absurd (show false = true from h) Bool.false_ne_true) rfl) rfl rfl rfl rfl rfl ?_
          first | refine mr_skipG rfl rfl rfl rfl rfl rfl rfl ?_ | refine mr_valG rfl (my_sgeq rfl rfl) rfl rfl rfl rfl rfl ?_
          refine mr_val rfl (my_pickF rfl (Sm.v _)) rfl rfl rfl ?_
          refine mr_nil ?_
          refine z_seq ?_
          refine m_condF rfl ?_
          refine m_skip ?_
          refine z_seq ?_
          refine m_seq ?_
          refine m_seq ?_
          refine m_region ?_
          refine ml_val (my_move (Sm.sl _)) rfl rfl rfl ?_
          refine ml_val (my_move (Sm.v _)) rfl rfl rfl ?_
          refine ml_val (my_indexS Try.underlying38 I41 S41 rfl rfl (by omega) (recsA_get (by simpa using hx)) rfl) rfl rfl rfl ?_
          refine ml_val (my_fieldF Try.underlying41 rfl I9 S9 rfl rfl rfl rfl) rfl rfl rfl ?_
          refine ml_val (my_loadF Try.underlying9 rfl rfl (fun h => absurd (show false = true from h) Bool.false_ne_true) rfl) rfl rfl rfl ?_
          refine ml_val (my_lenStr Try.underlying9 rfl) rfl rfl rfl ?_
          refine ml_val (my_move (Sm.v _)) rfl rfl rfl ?_
          refine ml_val (my_lenStr Try.underlying9 rfl) rfl rfl rfl ?_
          by_cases hle : (nameOf k).size ≤ x.key.size
          · skip
            refine ml_val (MY.to (a' := tv true) (my_geq rfl rfl) (congrArg tv (decide_eq_true (by omega)))) rfl rfl rfl ?_
            refine ml_val (my_move (Sm.v _)) rfl rfl rfl ?_
            first | refine ml_skipG rfl rfl rfl rfl rfl rfl ?_ | refine ml_valG (my_move (Sm.sl _)) rfl rfl rfl rfl rfl ?_
            first | refine ml_skipG rfl rfl rfl rfl rfl rfl ?_ | refine ml_valG (my_move (Sm.v _)) rfl rfl rfl rfl rfl ?_
            refine ml_valG (my_indexS Try.underlying38 I41 S41 rfl rfl (by omega) (recsA_get (by simpa using hx)) rfl) rfl rfl rfl rfl rfl ?_
            first | refine ml_skipG rfl rfl rfl rfl rfl rfl ?_ | refine ml_valG (my_fieldF Try.underlying41 rfl I9 S9 rfl rfl rfl rfl) rfl rfl rfl rfl rfl ?_
            first | refine ml_skipG rfl rfl rfl rfl rfl rfl ?_ | refine ml_valG (my_loadF Try.underlying9 rfl rfl (fun h => absurd (show false = true from h) Bool.false_ne_true) rfl) rfl rfl rfl rfl rfl ?_
            first | refine ml_skipG rfl rfl rfl rfl rfl rfl ?_ | refine ml_valG (my_move (Sm.v _)) rfl rfl rfl rfl rfl ?_
            first | refine ml_skipG rfl rfl rfl rfl rfl rfl ?_ | refine ml_valG (my_lenStr Try.underlying9 rfl) rfl rfl rfl rfl rfl ?_
            refine ml_valG (my_strHi Try.underlying9 rfl rfl (by omega) (by omega)) rfl rfl rfl rfl rfl ?_
            first | refine ml_skipG rfl rfl rfl rfl rfl rfl ?_ | refine ml_valG (my_move (Sm.v _)) rfl rfl rfl rfl rfl ?_
            refine ml_valG (my_seql rfl rfl) rfl rfl rfl rfl rfl ?_
            refine ml_val (my_pickT rfl (Sm.v _)) rfl rfl rfl ?_
            refine ml_nil ?_
            refine z_seq ?_
            refine m_condp rfl (fun hex => ?_) (fun hex => ?_)
            · skip
              have hpx : pre x.key (nameOf k) = true := pre_yes hle (by simpa using hex)
              refine m_region ?_
              refine ml_val (my_move (Sm.v _)) rfl rfl rfl ?_
              refine ml_val (MY.to (a' := iv .i64 (cnt s.recs (nameOf k) (j + 1) : Int)) (my_add64 rfl rfl (by omega)) (by rw [cnt_yes hx hpx]; rfl)) rfl rfl rfl ?_
              refine ml_val (my_assign (Sm.v _)) rfl rfl rfl ?_
              refine ml_nil ?_
              refine z_seq ?_
              refine m_seq ?_
              refine m_region ?_
              refine ml_val (my_move (Sm.ptr _ _ _)) rfl rfl rfl ?_
              refine ml_val (my_move (Sm.sl _)) rfl rfl rfl ?_
              refine ml_val (my_move (Sm.v _)) rfl rfl rfl ?_
              refine ml_val (my_indexS Try.underlying38 I41 S41 rfl rfl (by omega) (recsA_get (by simpa using hx)) rfl) rfl rfl rfl ?_
              refine ml_val (my_fieldF Try.underlying41 rfl I9 S9 rfl rfl rfl rfl) rfl rfl rfl ?_
              refine ml_val (my_loadF Try.underlying9 rfl rfl (fun h => absurd (show false = true from h) Bool.false_ne_true) rfl) rfl rfl rfl ?_
              refine ml_ow rfl (mo_call [0, 1] fn13 rfl rfl (Get_c p r s hw x.key hv) rfl rfl (fun Hs' a hp => ?_))
              obtain ⟨rfl, rfl⟩ := hp
              refine ml_norm [2, 3] [⟨_, _⟩, ⟨_, _⟩] (by decide) rfl ?_
              refine ml_val (my_move (Sm.tup _)) rfl rfl rfl ?_
              refine ml_val (my_extract rfl rfl) rfl rfl rfl ?_
              refine ml_val (my_extract rfl rfl) rfl rfl rfl ?_
              refine ml_val (my_assign (Sm.sl _)) rfl rfl rfl ?_
              refine ml_val (my_assign (Sm.v _)) rfl rfl rfl ?_
              refine ml_nil ?_
              refine z_seq ?_
              refine m_seq ?_
              refine m_regionD (fun i => List.contains [] i) [] [(0, true), (1, true), (2, true), (3, true), (4, true), (5, true), (6, true), (7, true), (8, true), (9, true), (10, true), (11, true), (12, true), (13, true), (14, true), (15, true), (16, true), (17, true)] mixed (by kernel_rfl) ?_
              refine mr_val rfl (my_move (Sm.sl _)) rfl rfl rfl ?_
              refine mr_val rfl (my_b2s (l := valR s.recs x.key) Try.underlying28 Try.underlying5 Try.underlying9 rfl) rfl rfl rfl ?_
              refine mr_val rfl (my_move (Sm.sl _)) rfl rfl rfl ?_
              refine mr_val rfl (my_move (Sm.v _)) rfl rfl rfl ?_
              refine mr_val rfl (my_indexS Try.underlying38 I41 S41 rfl rfl (by omega) (recsA_get (by simpa using hx)) rfl) rfl rfl rfl ?_
              refine mr_val rfl (my_fieldF Try.underlying41 rfl I28 S28 rfl rfl rfl rfl) rfl rfl rfl ?_
              refine mr_val rfl (my_loadF Try.underlying28 rfl rfl (fun h => absurd (show false = true from h) Bool.false_ne_true) rfl) rfl rfl rfl ?_
              refine mr_val rfl (my_b2s (l := x.val) Try.underlying28 Try.underlying5 Try.underlying9 rfl) rfl rfl rfl ?_
              refine mr_val rfl (MY.to (a' := tv false) (my_sneq rfl rfl) (congrArg tv (decide_eq_false (by rw [valR_at hw.srt hx]; simp)))) rfl rfl rfl ?_
              refine mr_val rfl (my_move (Sm.v _)) rfl rfl rfl ?_
              first | refine mr_skipG rfl rfl rfl rfl rfl rfl rfl ?_ | refine mr_valG rfl (my_move (Sm.v _)) rfl rfl rfl rfl rfl ?_
              first | refine mr_skipG rfl rfl rfl rfl rfl rfl rfl ?_ | refine mr_valG rfl (my_move (Sm.sl _)) rfl rfl rfl rfl rfl ?_
              first | refine mr_skipG rfl rfl rfl rfl rfl rfl rfl ?_ | refine mr_valG rfl (my_move (Sm.v _)) rfl rfl rfl rfl rfl ?_
              first | refine mr_skipG rfl rfl rfl rfl rfl rfl rfl ?_ | refine mr_valG rfl (my_indexS Try.underlying38 I41 S41 rfl rfl (by omega) (recsA_get (by simpa using hx)) rfl) rfl rfl rfl rfl rfl ?_
              first | refine mr_skipG rfl rfl rfl rfl rfl rfl rfl ?_ | refine mr_valG rfl (my_fieldF Try.underlying41 rfl I3 S3 rfl rfl rfl rfl) rfl rfl rfl rfl rfl ?_
              first | refine mr_skipG rfl rfl rfl rfl rfl rfl rfl ?_ | refine mr_valG rfl (my_loadF Try.underlying3 rfl rfl (fun h => absurd (show false = true from h) Bool.false_ne_true) rfl) rfl rfl rfl rfl rfl ?_
              first | refine mr_skipG rfl rfl rfl rfl rfl rfl rfl ?_ | refine mr_valG rfl (MY.to (a' := tv false) (my_neq rfl rfl) (congrArg tv (decide_eq_false (by rw [verR_at hw.srt hx]; simp)))) rfl rfl rfl rfl rfl ?_
              refine mr_val rfl (my_pickF rfl (Sm.v _)) rfl rfl rfl ?_
              refine mr_nil ?_
              refine z_seq ?_
              refine m_condF rfl ?_
              refine m_skip ?_
              refine z_blk ?_
              refine z_seq ?_
              refine m_region ?_
              refine ml_val (my_move (Sm.v _)) rfl rfl rfl ?_
              refine ml_val (my_add64 rfl rfl (by omega)) rfl rfl rfl ?_
              refine ml_val (my_assign (Sm.v _)) rfl rfl rfl ?_
              refine ml_nil ?_
              exact z_lpN (s.recs.length - (j + 1)) (by omega) ⟨j + 1, rfl, rfl, rfl, rfl, rfl, rfl, rfl, by omega, rfl⟩
            · skip
              have hpx : pre x.key (nameOf k) = false := pre_no (fun h => hex (by simpa using h.2))
              refine m_skip ?_
              refine z_seq ?_
              refine m_seq ?_
              refine m_region ?_
              refine ml_val (my_move (Sm.ptr _ _ _)) rfl rfl rfl ?_
              refine ml_val (my_move (Sm.sl _)) rfl rfl rfl ?_
              refine ml_val (my_move (Sm.v _)) rfl rfl rfl ?_
              refine ml_val (my_indexS Try.underlying38 I41 S41 rfl rfl (by omega) (recsA_get (by simpa using hx)) rfl) rfl rfl rfl ?_
              refine ml_val (my_fieldF Try.underlying41 rfl I9 S9 rfl rfl rfl rfl) rfl rfl rfl ?_
              refine ml_val (my_loadF Try.underlying9 rfl rfl (fun h => absurd (show false = true from h) Bool.false_ne_true) rfl) rfl rfl rfl ?_
              refine ml_ow rfl (mo_call [0, 1] fn13 rfl rfl (Get_c p r s hw x.key hv) rfl rfl (fun Hs' a hp => ?_))
              obtain ⟨rfl, rfl⟩ := hp
              refine ml_norm [2, 3] [⟨_, _⟩, ⟨_, _⟩] (by decide) rfl ?_
              refine ml_val (my_move (Sm.tup _)) rfl rfl rfl ?_
              refine ml_val (my_extract rfl rfl) rfl rfl rfl ?_
              refine ml_val (my_extract rfl rfl) rfl rfl rfl ?_
              refine ml_val (my_assign (Sm.sl _)) rfl rfl rfl ?_
              refine ml_val (my_assign (Sm.v _)) rfl rfl rfl ?_
              refine ml_nil ?_
              refine z_seq ?_
              refine m_seq ?_
              refine m_regionD (fun i => List.contains [] i) [] [(0, true), (1, true), (2, true), (3, true), (4, true), (5, true), (6, true), (7, true), (8, true), (9, true), (10, true), (11, true), (12, true), (13, true), (14, true), (15, true), (16, true), (17, true)] mixed (by kernel_rfl) ?_
              refine mr_val rfl (my_move (Sm.sl _)) rfl rfl rfl ?_
              refine mr_val rfl (my_b2s (l := valR s.recs x.key) Try.underlying28 Try.underlying5 Try.underlying9 rfl) rfl rfl rfl ?_
              refine mr_val rfl (my_move (Sm.sl _)) rfl rfl rfl ?_
              refine mr_val rfl (my_move (Sm.v _)) rfl rfl rfl ?_
              refine mr_val rfl (my_indexS Try.underlying38 I41 S41 rfl rfl (by omega) (recsA_get (by simpa using hx)) rfl) rfl rfl rfl ?_
              refine mr_val rfl (my_fieldF Try.underlying41 rfl I28 S28 rfl rfl rfl rfl) rfl rfl rfl ?_
              refine mr_val rfl (my_loadF Try.underlying28 rfl rfl (fun h => absurd (show false = true from h) Bool.false_ne_true) rfl) rfl rfl rfl ?_
              refine mr_val rfl (my_b2s (l := x.val) Try.underlying28 Try.underlying5 Try.underlying9 rfl) rfl rfl rfl ?_
              refine mr_val rfl (MY.to (a' := tv false) (my_sneq rfl rfl) (congrArg tv (decide_eq_false (by rw [valR_at hw.srt hx]; simp)))) rfl rfl rfl ?_
              refine mr_val rfl (my_move (Sm.v _)) rfl rfl rfl ?_
              first | refine mr_skipG rfl rfl rfl rfl rfl rfl rfl ?_ | refine mr_valG rfl (my_move (Sm.v _)) rfl rfl rfl rfl rfl ?_
              first | refine mr_skipG rfl rfl rfl rfl rfl rfl rfl ?_ | refine mr_valG rfl (my_move (Sm.sl _)) rfl rfl rfl rfl rfl ?_
              first | refine mr_skipG rfl rfl rfl rfl rfl rfl rfl ?_ | refine mr_valG rfl (my_move (Sm.v _)) rfl rfl rfl rfl rfl ?_
              first | refine mr_skipG rfl rfl rfl rfl rfl rfl rfl ?_ | refine mr_valG rfl (my_indexS Try.underlying38 I41 S41 rfl rfl (by omega) (recsA_get (by simpa using hx)) rfl) rfl rfl rfl rfl rfl ?_
              first | refine mr_skipG rfl rfl rfl rfl rfl rfl rfl ?_ | refine mr_valG rfl (my_fieldF Try.underlying41 rfl I3 S3 rfl rfl rfl rfl) rfl rfl rfl rfl rfl ?_
              first | refine mr_skipG rfl rfl rfl rfl rfl rfl rfl ?_ | refine mr_valG rfl (my_loadF Try.underlying3 rfl rfl (fun h => absurd (show false = true from h) Bool.false_ne_true) rfl) rfl rfl rfl rfl rfl ?_
              first | refine mr_skipG rfl rfl rfl rfl rfl rfl rfl ?_ | refine mr_valG rfl (MY.to (a' := tv false) (my_neq rfl rfl) (congrArg tv (decide_eq_false (by rw [verR_at hw.srt hx]; simp)))) rfl rfl rfl rfl rfl ?_
              refine mr_val rfl (my_pickF rfl (Sm.v _)) rfl rfl rfl ?_
              refine mr_nil ?_
              refine z_seq ?_
              refine m_condF rfl ?_
              refine m_skip ?_
              refine z_blk ?_
              refine z_seq ?_
              refine m_region ?_
              refine ml_val (my_move (Sm.v _)) rfl rfl rfl ?_
              refine ml_val (my_add64 rfl rfl (by omega)) rfl rfl rfl ?_
              refine ml_val (my_assign (Sm.v _)) rfl rfl rfl ?_
              refine ml_nil ?_
              exact z_lpN (s.recs.length - (j + 1)) (by omega) ⟨j + 1, rfl, rfl, rfl, rfl, rfl, congrArg (fun n : Nat => iv .i64 (n : Int)) (cnt_no hx hpx).symm, rfl, by omega, rfl⟩
          · skip
            refine ml_val (MY.to (a' := tv false) (my_geq rfl rfl) (congrArg tv (decide_eq_false (by omega)))) rfl rfl rfl ?_
            refine ml_val (my_move (Sm.v _)) rfl rfl rfl ?_
            refine ml_skipG rfl rfl rfl rfl rfl rfl ?_
            refine ml_skipG rfl rfl rfl rfl rfl rfl ?_
            refine ml_skipG rfl rfl rfl rfl rfl rfl ?_
            refine ml_skipG rfl rfl rfl rfl rfl rfl ?_
            refine ml_skipG rfl rfl rfl rfl rfl rfl ?_
            refine ml_skipG rfl rfl rfl rfl rfl rfl ?_
            refine ml_skipG rfl rfl rfl rfl rfl rfl ?_
            refine ml_skipG rfl rfl rfl rfl rfl rfl ?_
            refine ml_skipG rfl rfl rfl rfl rfl rfl ?_
            refine ml_skipG rfl rfl rfl rfl rfl rfl ?_
            refine ml_val (my_pickF rfl (Sm.v _)) rfl rfl rfl ?_
            refine ml_nil ?_
            refine z_seq ?_
            refine m_condF rfl ?_
            refine m_skip ?_
            refine z_seq ?_
            refine m_seq ?_
            have hpx : pre x.key (nameOf k) = false := pre_no (fun h => hle h.1)
            refine m_region ?_
            refine ml_val (my_move (Sm.ptr _ _ _)) rfl rfl rfl ?_
            refine ml_val (my_move (Sm.sl _)) rfl rfl rfl ?_
            refine ml_val (my_move (Sm.v _)) rfl rfl rfl ?_
            refine ml_val (my_indexS Try.underlying38 I41 S41 rfl rfl (by omega) (recsA_get (by simpa using hx)) rfl) rfl rfl rfl ?_
            refine ml_val (my_fieldF Try.underlying41 rfl I9 S9 rfl rfl rfl rfl) rfl rfl rfl ?_
            refine ml_val (my_loadF Try.underlying9 rfl rfl (fun h => absurd (show false = true from h) Bool.false_ne_true) rfl) rfl rfl rfl ?_
            refine ml_ow rfl (mo_call [0, 1] fn13 rfl rfl (Get_c p r s hw x.key hv) rfl rfl (fun Hs' a hp => ?_))
            obtain ⟨rfl, rfl⟩ := hp
            refine ml_norm [2, 3] [⟨_, _⟩, ⟨_, _⟩] (by decide) rfl ?_
            refine ml_val (my_move (Sm.tup _)) rfl rfl rfl ?_
            refine ml_val (my_extract rfl rfl) rfl rfl rfl ?_
            refine ml_val (my_extract rfl rfl) rfl rfl rfl ?_
            refine ml_val (my_assign (Sm.sl _)) rfl rfl rfl ?_
            refine ml_val (my_assign (Sm.v _)) rfl rfl rfl ?_
            refine ml_nil ?_
            refine z_seq ?_
            refine m_seq ?_
            refine m_regionD (fun i => List.contains [] i) [] [(0, true), (1, true), (2, true), (3, true), (4, true), (5, true), (6, true), (7, true), (8, true), (9, true), (10, true), (11, true), (12, true), (13, true), (14, true), (15, true), (16, true), (17, true)] mixed (by kernel_rfl) ?_
            refine mr_val rfl (my_move (Sm.sl _)) rfl rfl rfl ?_
            refine mr_val rfl (my_b2s (l := valR s.recs x.key) Try.underlying28 Try.underlying5 Try.underlying9 rfl) rfl rfl rfl ?_
            refine mr_val rfl (my_move (Sm.sl _)) rfl rfl rfl ?_
            refine mr_val rfl (my_move (Sm.v _)) rfl rfl rfl ?_
            refine mr_val rfl (my_indexS Try.underlying38 I41 S41 rfl rfl (by omega) (recsA_get (by simpa using hx)) rfl) rfl rfl rfl ?_
            refine mr_val rfl (my_fieldF Try.underlying41 rfl I28 S28 rfl rfl rfl rfl) rfl rfl rfl ?_
            refine mr_val rfl (my_loadF Try.underlying28 rfl rfl (fun h => absurd (show false = true from h) Bool.false_ne_true) rfl) rfl rfl rfl ?_
            refine mr_val rfl (my_b2s (l := x.val) Try.underlying28 Try.underlying5 Try.underlying9 rfl) rfl rfl rfl ?_
            refine mr_val rfl (MY.to (a' := tv false) (my_sneq rfl rfl) (congrArg tv (decide_eq_false (by rw [valR_at hw.srt hx]; simp)))) rfl rfl rfl ?_
            refine mr_val rfl (my_move (Sm.v _)) rfl rfl rfl ?_
            first | refine mr_skipG rfl rfl rfl rfl rfl rfl rfl ?_ | refine mr_valG rfl (my_move (Sm.v _)) rfl rfl rfl rfl rfl ?_
            first | refine mr_skipG rfl rfl rfl rfl rfl rfl rfl ?_ | refine mr_valG rfl (my_move (Sm.sl _)) rfl rfl rfl rfl rfl ?_
            first | refine mr_skipG rfl rfl rfl rfl rfl rfl rfl ?_ | refine mr_valG rfl (my_move (Sm.v _)) rfl rfl rfl rfl rfl ?_
            first | refine mr_skipG rfl rfl rfl rfl rfl rfl rfl ?_ | refine mr_valG rfl (my_indexS Try.underlying38 I41 S41 rfl rfl (by omega) (recsA_get (by simpa using hx)) rfl) rfl rfl rfl rfl rfl ?_
            first | refine mr_skipG rfl rfl rfl rfl rfl rfl rfl ?_ | refine mr_valG rfl (my_fieldF Try.underlying41 rfl I3 S3 rfl rfl rfl rfl) rfl rfl rfl rfl rfl ?_
            first | refine mr_skipG rfl rfl rfl rfl rfl rfl rfl ?_ | refine mr_valG rfl (my_loadF Try.underlying3 rfl rfl (fun h => absurd (show false = true from h) Bool.false_ne_true) rfl) rfl rfl rfl rfl rfl ?_
            first | refine mr_skipG rfl rfl rfl rfl rfl rfl rfl ?_ | refine mr_valG rfl (MY.to (a' := tv false) (my_neq rfl rfl) (congrArg tv (decide_eq_false (by rw [verR_at hw.srt hx]; simp)))) rfl rfl rfl rfl rfl ?_
            refine mr_val rfl (my_pickF rfl (Sm.v _)) rfl rfl rfl ?_
            refine mr_nil ?_
            refine z_seq ?_
            refine m_condF rfl ?_
            refine m_skip ?_
            refine z_blk ?_
            refine z_seq ?_
            refine m_region ?_
            refine ml_val (my_move (Sm.v _)) rfl rfl rfl ?_
            refine ml_val (my_add64 rfl rfl (by omega)) rfl rfl rfl ?_
            refine ml_val (my_assign (Sm.v _)) rfl rfl rfl ?_
            refine ml_nil ?_
            exact z_lpN (s.recs.length - (j + 1)) (by omega) ⟨j + 1, rfl, rfl, rfl, rfl, rfl, congrArg (fun n : Nat => iv .i64 (n : Int)) (cnt_no hx hpx).symm, rfl, by omega, rfl⟩
      · skip
        have hje : j = s.recs.length := by omega
        have hce : cnt s.recs (nameOf k) j = (scanR s.recs (nameOf k)).length := by rw [hje, cnt_end hw.srt]
        refine m_exit ?_
        refine z_seqX ?_
        refine z_lpX ?_
        refine z_blkX ?_
        refine z_seq ?_
        refine m_seq ?_
        refine m_region ?_
        refine ml_ow rfl (mo_call [] fn10 rfl rfl (known_c) rfl rfl (fun Hs' a hp => ?_))
        obtain ⟨rfl, rfl⟩ := hp
        refine ml_norm [0, 1] [⟨_, _⟩, ⟨_, _⟩] (by decide) rfl ?_
        refine ml_val (my_move (Sm.v _)) rfl rfl rfl ?_
        first | refine ml_skipG rfl rfl rfl rfl rfl rfl ?_ | refine ml_valG (my_move (Sm.v _)) rfl rfl rfl rfl rfl ?_
        first | refine ml_skipG rfl rfl rfl rfl rfl rfl ?_ | refine ml_valG (my_move (Sm.sl _)) rfl rfl rfl rfl rfl ?_
        refine ml_valG (MY.to (a' := iv .i64 ((scanR s.recs (nameOf k)).length : Int)) (my_lenS Try.underlying38 rfl) (by rw [recsA_length])) rfl rfl rfl rfl rfl ?_
        refine ml_valG (MY.to (a' := tv true) (my_eql rfl rfl) (congrArg tv (decide_eq_true (by rw [hce])))) rfl rfl rfl rfl rfl ?_
        refine ml_val (my_pickT rfl (Sm.v _)) rfl rfl rfl ?_
        refine ml_val (my_move (Sm.v _)) rfl rfl rfl ?_
        first | refine ml_skipG rfl rfl rfl rfl rfl rfl ?_ | refine ml_valG (my_move (Sm.sl _)) rfl rfl rfl rfl rfl ?_
        refine ml_valG (MY.to (a' := iv .i64 (s.recs.length : Int)) (my_lenS Try.underlying38 rfl) (by rw [recsA_length])) rfl rfl rfl rfl rfl ?_
        first | refine ml_skipG rfl rfl rfl rfl rfl rfl ?_ | refine ml_valG (my_move (Sm.ptr _ _ _)) rfl rfl rfl rfl rfl ?_
        refine ml_owG rfl rfl rfl (mo_call [0, 1] fn11 rfl rfl (Len_c p r s) rfl rfl (fun Hs' a hp => ?_))
        obtain ⟨rfl, rfl⟩ := hp
        refine ml_norm [2, 3] [⟨_, _⟩, ⟨_, _⟩] (by decide) rfl ?_
        refine ml_valG (MY.to (a' := tv true) (my_eql rfl rfl) (congrArg tv (decide_eq_true rfl))) rfl rfl rfl rfl rfl ?_
        refine ml_val (my_pickT rfl (Sm.v _)) rfl rfl rfl ?_
        refine ml_val (my_move (Sm.v _)) rfl rfl rfl ?_
        first | refine ml_skipG rfl rfl rfl rfl rfl rfl ?_ | refine ml_valG (my_move (Sm.ptr _ _ _)) rfl rfl rfl rfl rfl ?_
        first | refine ml_skipG rfl rfl rfl rfl rfl rfl ?_ | refine ml_valG (my_move (Sm.v _)) rfl rfl rfl rfl rfl ?_
        refine ml_owG rfl rfl rfl (mo_call [0, 1] fn16 rfl rfl (Scan_c p r s hw hv (nameOf k)) rfl rfl (fun Hs' a hp => ?_))
        obtain ⟨q, rfl, rfl⟩ := hp
        refine ml_norm [2, 3, 4] [⟨_, _⟩, ⟨_, _⟩, ⟨_, _⟩] (by decide) rfl ?_
        refine ml_pre (sh_frz 143 (q := 2) rfl rfl) ?_
        refine ml_norm [0, 1] [⟨_, _⟩, ⟨_, _⟩] (by decide) rfl ?_
        first | refine ml_skipG rfl rfl rfl rfl rfl rfl ?_ | refine ml_valG (my_move (Sm.sl _)) rfl rfl rfl rfl rfl ?_
        refine ml_owG rfl rfl rfl (mo_call [] fn17 rfl rfl (Same_c (scanR s.recs (nameOf k)) (scanR s.recs (nameOf k)) (by have := cnt_le s.recs (nameOf k) j; omega)) rfl rfl (fun Hs' a hp => ?_))
        obtain ⟨rfl, rfl⟩ := hp
        refine ml_norm [0, 1] [⟨_, _⟩, ⟨_, _⟩] (by decide) rfl ?_
        refine ml_val (my_pickT rfl (Sm.v _)) rfl rfl rfl ?_
        refine ml_val (my_assign (Sm.v _)) rfl rfl rfl ?_
        refine ml_nil ?_
        refine z_seq ?_
        refine m_ret ?_
        exact ⟨tv true, mres1 rfl (by show tv (sameR _ _) = _; rw [sameR_self]), rfl⟩
  · skip
    refine ml_val (MY.to (a' := tv false) (my_lss rfl rfl) (congrArg tv (decide_eq_false (by omega)))) rfl rfl rfl ?_
    refine ml_val (my_move (Sm.v _)) rfl rfl rfl ?_
    refine ml_skipG rfl rfl rfl rfl rfl rfl ?_
    refine ml_skipG rfl rfl rfl rfl rfl rfl ?_
    refine ml_val (my_pickF rfl (Sm.v _)) rfl rfl rfl ?_
    refine ml_nil ?_
    refine z_seq ?_
    refine m_condF rfl ?_
    refine m_exit ?_
    refine z_seqX ?_
    refine z_lpX ?_
    refine z_blkX ?_
    refine z_seq ?_
    refine m_seq ?_
    refine m_region ?_
    refine ml_val (my_move (Sm.v _)) rfl rfl rfl ?_
    refine ml_ow rfl (mo_call [] fn12 rfl rfl (Name_c k) rfl rfl (fun Hs' a hp => ?_))
    obtain ⟨rfl, rfl⟩ := hp
    refine ml_norm [0, 1] [⟨_, _⟩, ⟨_, _⟩] (by decide) rfl ?_
    refine ml_val (my_assign (Sm.v _)) rfl rfl rfl ?_
    refine ml_nil ?_
    refine z_seq ?_
    refine m_seq ?_
    refine m_region ?_
    refine ml_val (my_move (Sm.ptr _ _ _)) rfl rfl rfl ?_
    refine ml_ow rfl (mo_call [0, 1] fn16 rfl rfl (ScanA_c p r s hw hv) rfl rfl (fun Hs' a hp => ?_))
    obtain ⟨q, rfl, rfl⟩ := hp
    refine ml_norm [2, 3, 4] [⟨_, _⟩, ⟨_, _⟩, ⟨_, _⟩] (by decide) rfl ?_
    refine ml_pre (sh_frz 49 (q := 2) rfl rfl) ?_
    refine ml_norm [0, 1] [⟨_, _⟩, ⟨_, _⟩] (by decide) rfl ?_
    refine ml_val (my_assign (Sm.sl _)) rfl rfl rfl ?_
    refine ml_nil ?_
    refine z_seq ?_
    refine m_seq ?_
    refine m_region ?_
    refine ml_val (my_move (Sm.ptr _ _ _)) rfl rfl rfl ?_
    refine ml_val (my_move (Sm.v _)) rfl rfl rfl ?_
    refine ml_ow rfl (mo_call [0, 1] fn16 rfl rfl (Scan_c p r s hw hv (nameOf k)) rfl rfl (fun Hs' a hp => ?_))
    obtain ⟨q, rfl, rfl⟩ := hp
    refine ml_norm [2, 3, 4] [⟨_, _⟩, ⟨_, _⟩, ⟨_, _⟩] (by decide) rfl ?_
    refine ml_pre (sh_frz 52 (q := 2) rfl rfl) ?_
    refine ml_norm [0, 1] [⟨_, _⟩, ⟨_, _⟩] (by decide) rfl ?_
    refine ml_val (my_assign (Sm.sl _)) rfl rfl rfl ?_
    refine ml_nil ?_
    refine z_seq ?_
    refine m_seq ?_
    refine m_region ?_
    refine ml_val (my_assign (Sm.v _)) rfl rfl rfl ?_
    refine ml_nil ?_
    refine z_seq ?_
    refine m_seq ?_
    refine m_seq ?_
    refine m_region ?_
    refine ml_val (my_assign (Sm.v _)) rfl rfl rfl ?_
    refine ml_nil ?_
    refine z_seq ?_
    refine m_block ?_
    refine m_loop (fun m Hs α => ∃ (j : Nat), Hs = SH p r s ∧ α 5 = .ptr p [] 0 ∧ α 7 = sv (nameOf k) ∧ α 8 = .sl (recsA s.recs) ∧ α 9 = .sl (recsA (scanR s.recs (nameOf k))) ∧ α 10 = iv .i64 (cnt s.recs (nameOf k) j : Int) ∧ α 11 = iv .i64 (j : Int) ∧ j ≤ s.recs.length ∧ m = s.recs.length - j) s.recs.length ⟨0, rfl, rfl, rfl, rfl, rfl, rfl, rfl, by omega, rfl⟩ ?_
    rintro m Hs α ⟨j, rfl, e5, e7, e8, e9, e10, e11, hj, rfl⟩
    have hcl := cnt_le s.recs (nameOf k) j
    obtain ⟨σ, rfl⟩ : ∃ σ, α = ua (ua (ua (ua (ua (ua σ 5 (.ptr p [] 0)) 7 (sv (nameOf k))) 8 (.sl (recsA s.recs))) 9 (.sl (recsA (scanR s.recs (nameOf k))))) 10 (iv .i64 (cnt s.recs (nameOf k) j : Int))) 11 (iv .i64 (j : Int)) := ⟨α, by rw [ua_self α e5, ua_self α e7, ua_self α e8, ua_self α e9, ua_self α e10, ua_self α e11]⟩
    clear e5 e7 e8 e9 e10 e11
    refine m_seq ?_
    refine m_seq ?_
    refine m_region ?_
    refine ml_val (my_move (Sm.v _)) rfl rfl rfl ?_
    refine ml_val (my_move (Sm.sl _)) rfl rfl rfl ?_
    refine ml_val (MY.to (a' := iv .i64 (s.recs.length : Int)) (my_lenS Try.underlying38 rfl) (by rw [recsA_length])) rfl rfl rfl ?_
    refine ml_val (my_lss rfl rfl) rfl rfl rfl ?_
    refine ml_nil ?_
    refine z_seq ?_
    refine m_condp rfl (fun hjl => ?_) (fun hjl => ?_)
    · skip
      obtain ⟨x, hx⟩ : ∃ x, s.recs[j]? = some x := ⟨s.recs[j], List.getElem?_eq_getElem (by omega)⟩
      refine m_skip ?_
      refine z_seq ?_
      refine m_seq ?_
      refine m_block ?_
      refine m_seq ?_
      refine m_seq ?_
      refine m_regionD (fun i => List.contains [] i) [] [(0, true), (1, true), (2, true), (3, true), (4, true), (5, true), (6, true), (7, true), (8, true), (9, true), (10, true), (11, true), (12, true), (13, true), (14, true), (15, true)] mixed (by kernel_rfl) ?_
      refine mr_val rfl (my_move (Sm.v _)) rfl rfl rfl ?_
      by_cases hj0 : 0 < j
      · skip
        obtain ⟨y, hy⟩ : ∃ y, s.recs[j - 1]? = some y := ⟨s.recs[j - 1], List.getElem?_eq_getElem (by omega)⟩
        have hyx := srt_get hw.srt hy hx (by omega)
        refine mr_val rfl (MY.to (a' := tv true) (my_gtr rfl rfl) (congrArg tv (decide_eq_true (by omega)))) rfl rfl rfl ?_
        refine mr_val rfl (my_move (Sm.v _)) rfl rfl rfl ?_
        first | refine mr_skipG rfl rfl rfl rfl rfl rfl rfl ?_ | refine mr_valG rfl (my_move (Sm.sl _)) rfl rfl rfl rfl rfl ?_
        first | refine mr_skipG rfl rfl rfl rfl rfl rfl rfl ?_ | refine mr_valG rfl (my_move (Sm.v _)) rfl rfl rfl rfl rfl ?_
        first | refine mr_skipG rfl rfl rfl rfl rfl rfl rfl ?_ | refine mr_valG rfl (MY.to (a' := iv .i64 ((j - 1 : Nat) : Int)) (my_sub64 rfl rfl (by omega)) (congrArg (iv .i64) (by omega))) rfl rfl rfl rfl rfl ?_
        first | refine mr_skipG rfl rfl rfl rfl rfl rfl rfl ?_ | refine mr_valG rfl (my_indexS Try.underlying38 I41 S41 rfl rfl (by omega) (recsA_get (by simpa using hy)) rfl) rfl rfl rfl rfl rfl ?_
        first | refine mr_skipG rfl rfl rfl rfl rfl rfl rfl ?_ | refine mr_valG rfl (my_fieldF Try.underlying41 rfl I9 S9 rfl rfl rfl rfl) rfl rfl rfl rfl rfl ?_
        first | refine mr_skipG rfl rfl rfl rfl rfl rfl rfl ?_ | refine mr_valG rfl (my_loadF Try.underlying9 rfl rfl (fun h => absurd (show false = true from h) Bool.false_ne_true) rfl) rfl rfl rfl rfl rfl ?_
        first | refine mr_skipG rfl rfl rfl rfl rfl rfl rfl ?_ | refine mr_valG rfl (my_move (Sm.sl _)) rfl rfl rfl rfl rfl ?_
        first | refine mr_skipG rfl rfl rfl rfl rfl rfl rfl ?_ | refine mr_valG rfl (my_move (Sm.v _)) rfl rfl rfl rfl rfl ?_
        first | refine mr_skipG rfl rfl rfl rfl rfl rfl rfl ?_ | refine mr_valG rfl (my_indexS Try.underlying38 I41 S41 rfl rfl (by omega) (recsA_get (by simpa using hx)) rfl) rfl rfl rfl rfl rfl ?_
        first | refine mr_skipG rfl rfl rfl rfl rfl rfl rfl ?_ | refine mr_valG rfl (my_fieldF Try.underlying41 rfl I9 S9 rfl rfl rfl rfl) rfl rfl rfl rfl rfl ?_
        first | refine mr_skipG rfl rfl rfl rfl rfl rfl rfl ?_ | refine mr_valG rfl (my_loadF Try.underlying9 rfl rfl (fun h => absurd (show false = true from h) Bool.false_ne_true) rfl) rfl rfl rfl rfl rfl ?_
        first | refine mr_skipG rfl rfl rfl rfl rfl rfl rfl ?_ | refine mr_valG rfl (MY.to (a' := tv false) (my_sgeq rfl rfl) (by rw [hyx]; rfl)) rfl rfl rfl rfl rfl ?_
        refine mr_val rfl (my_pickT rfl (Sm.v _)) rfl rfl rfl ?_
        refine mr_nil ?_
        refine z_seq ?_
        refine m_condF rfl ?_
        refine m_skip ?_
        refine z_seq ?_
        refine m_seq ?_
        refine m_seq ?_
        refine m_region ?_
        refine ml_val (my_move (Sm.sl _)) rfl rfl rfl ?_
        refine ml_val (my_move (Sm.v _)) rfl rfl rfl ?_
        refine ml_val (my_indexS Try.underlying38 I41 S41 rfl rfl (by omega) (recsA_get (by simpa using hx)) rfl) rfl rfl rfl ?_
        refine ml_val (my_fieldF Try.underlying41 rfl I9 S9 rfl rfl rfl rfl) rfl rfl rfl ?_
        refine ml_val (my_loadF Try.underlying9 rfl rfl (fun h => absurd (show false = true from h) Bool.false_ne_true) rfl) rfl rfl rfl ?_
        refine ml_val (my_lenStr Try.underlying9 rfl) rfl rfl rfl ?_
        refine ml_val (my_move (Sm.v _)) rfl rfl rfl ?_
        refine ml_val (my_lenStr Try.underlying9 rfl) rfl rfl rfl ?_
        by_cases hle : (nameOf k).size ≤ x.key.size
        · skip
          refine ml_val (MY.to (a' := tv true) (my_geq rfl rfl) (congrArg tv (decide_eq_true (by omega)))) rfl rfl rfl ?_
          refine ml_val (my_move (Sm.v _)) rfl rfl rfl ?_
          first | refine ml_skipG rfl rfl rfl rfl rfl rfl ?_ | refine ml_valG (my_move (Sm.sl _)) rfl rfl rfl rfl rfl ?_
          first | refine ml_skipG rfl rfl rfl rfl rfl rfl ?_ | refine ml_valG (my_move (Sm.v _)) rfl rfl rfl rfl rfl ?_
          refine ml_valG (my_indexS Try.underlying38 I41 S41 rfl rfl (by omega) (recsA_get (by simpa using hx)) rfl) rfl rfl rfl rfl rfl ?_
          first | refine ml_skipG rfl rfl rfl rfl rfl rfl ?_ | refine ml_valG (my_fieldF Try.underlying41 rfl I9 S9 rfl rfl rfl rfl) rfl rfl rfl rfl rfl ?_
          first | refine ml_skipG rfl rfl rfl rfl rfl rfl ?_ | refine ml_valG (my_loadF Try.underlying9 rfl rfl (fun h => absurd (show false = true from h) Bool.false_ne_true) rfl) rfl rfl rfl rfl rfl ?_
          first | refine ml_skipG rfl rfl rfl rfl rfl rfl ?_ | refine ml_valG (my_move (Sm.v _)) rfl rfl rfl rfl rfl ?_
          first | refine ml_skipG rfl rfl rfl rfl rfl rfl ?_ | refine ml_valG (my_lenStr Try.underlying9 rfl) rfl rfl rfl rfl rfl ?_
          refine ml_valG (my_strHi Try.underlying9 rfl rfl (by omega) (by omega)) rfl rfl rfl rfl rfl ?_
          first | refine ml_skipG rfl rfl rfl rfl rfl rfl ?_ | refine ml_valG (my_move (Sm.v _)) rfl rfl rfl rfl rfl ?_
          refine ml_valG (my_seql rfl rfl) rfl rfl rfl rfl rfl ?_
          refine ml_val (my_pickT rfl (Sm.v _)) rfl rfl rfl ?_
          refine ml_nil ?_
          refine z_seq ?_
          refine m_condp rfl (fun hex => ?_) (fun hex => ?_)
          · skip
            have hpx : pre x.key (nameOf k) = true := pre_yes hle (by simpa using hex)
            refine m_region ?_
            refine ml_val (my_move (Sm.v _)) rfl rfl rfl ?_
            refine ml_val (MY.to (a' := iv .i64 (cnt s.recs (nameOf k) (j + 1) : Int)) (my_add64 rfl rfl (by omega)) (by rw [cnt_yes hx hpx]; rfl)) rfl rfl rfl ?_
            refine ml_val (my_assign (Sm.v _)) rfl rfl rfl ?_
            refine ml_nil ?_
            refine z_seq ?_
            refine m_seq ?_
            refine m_region ?_
            refine ml_val (my_move (Sm.ptr _ _ _)) rfl rfl rfl ?_
            refine ml_val (my_move (Sm.sl _)) rfl rfl rfl ?_
            refine ml_val (my_move (Sm.v _)) rfl rfl rfl ?_
            refine ml_val (my_indexS Try.underlying38 I41 S41 rfl rfl (by omega) (recsA_get (by simpa using hx)) rfl) rfl rfl rfl ?_
            refine ml_val (my_fieldF Try.underlying41 rfl I9 S9 rfl rfl rfl rfl) rfl rfl rfl ?_
            refine ml_val (my_loadF Try.underlying9 rfl rfl (fun h => absurd (show false = true from h) Bool.false_ne_true) rfl) rfl rfl rfl ?_
            refine ml_ow rfl (mo_call [0, 1] fn13 rfl rfl (Get_c p r s hw x.key hv) rfl rfl (fun Hs' a hp => ?_))
            obtain ⟨rfl, rfl⟩ := hp
            refine ml_norm [2, 3] [⟨_, _⟩, ⟨_, _⟩] (by decide) rfl ?_
            refine ml_val (my_move (Sm.tup _)) rfl rfl rfl ?_
            refine ml_val (my_extract rfl rfl) rfl rfl rfl ?_
            refine ml_val (my_extract rfl rfl) rfl rfl rfl ?_
            refine ml_val (my_assign (Sm.sl _)) rfl rfl rfl ?_
            refine ml_val (my_assign (Sm.v _)) rfl rfl rfl ?_
            refine ml_nil ?_
            refine z_seq ?_
            refine m_seq ?_
            refine m_regionD (fun i => List.contains [] i) [] [(0, true), (1, true), (2, true), (3, true), (4, true), (5, true), (6, true), (7, true), (8, true), (9, true), (10, true), (11, true), (12, true), (13, true), (14, true), (15, true), (16, true), (17, true)] mixed (by kernel_rfl) ?_
            refine mr_val rfl (my_move (Sm.sl _)) rfl rfl rfl ?_
            refine mr_val rfl (my_b2s (l := valR s.recs x.key) Try.underlying28 Try.underlying5 Try.underlying9 rfl) rfl rfl rfl ?_
            refine mr_val rfl (my_move (Sm.sl _)) rfl rfl rfl ?_
            refine mr_val rfl (my_move (Sm.v _)) rfl rfl rfl ?_
            refine mr_val rfl (my_indexS Try.underlying38 I41 S41 rfl rfl (by omega) (recsA_get (by simpa using hx)) rfl) rfl rfl rfl ?_
            refine mr_val rfl (my_fieldF Try.underlying41 rfl I28 S28 rfl rfl rfl rfl) rfl rfl rfl ?_
            refine mr_val rfl (my_loadF Try.underlying28 rfl rfl (fun h => absurd (show false = true from h) Bool.false_ne_true) rfl) rfl rfl rfl ?_
            refine mr_val rfl (my_b2s (l := x.val) Try.underlying28 Try.underlying5 Try.underlying9 rfl) rfl rfl rfl ?_
            refine mr_val rfl (MY.to (a' := tv false) (my_sneq rfl rfl) (congrArg tv (decide_eq_false (by rw [valR_at hw.srt hx]; simp)))) rfl rfl rfl ?_
            refine mr_val rfl (my_move (Sm.v _)) rfl rfl rfl ?_
            first | refine mr_skipG rfl rfl rfl rfl rfl rfl rfl ?_ | refine mr_valG rfl (my_move (Sm.v _)) rfl rfl rfl rfl rfl ?_
            first | refine mr_skipG rfl rfl rfl rfl rfl rfl rfl ?_ | refine mr_valG rfl (my_move (Sm.sl _)) rfl rfl rfl rfl rfl ?_
            first | refine mr_skipG rfl rfl rfl rfl rfl rfl rfl ?_ | refine mr_valG rfl (my_move (Sm.v _)) rfl rfl rfl rfl rfl ?_
            first | refine mr_skipG rfl rfl rfl rfl rfl rfl rfl ?_ | refine mr_valG rfl (my_indexS Try.underlying38 I41 S41 rfl rfl (by omega) (recsA_get (by simpa using hx)) rfl) rfl rfl rfl rfl rfl ?_
            first | refine mr_skipG rfl rfl rfl rfl rfl rfl rfl ?_ | refine mr_valG rfl (my_fieldF Try.underlying41 rfl I3 S3 rfl rfl rfl rfl) rfl rfl rfl rfl rfl ?_
            first | refine mr_skipG rfl rfl rfl rfl rfl rfl rfl ?_ | refine mr_valG rfl (my_loadF Try.underlying3 rfl rfl (fun h => absurd (show false = true from h) Bool.false_ne_true) rfl) rfl rfl rfl rfl rfl ?_
            first | refine mr_skipG rfl rfl rfl rfl rfl rfl rfl ?_ | refine mr_valG rfl (MY.to (a' := tv false) (my_neq rfl rfl) (congrArg tv (decide_eq_false (by rw [verR_at hw.srt hx]; simp)))) rfl rfl rfl rfl rfl ?_
            refine mr_val rfl (my_pickF rfl (Sm.v _)) rfl rfl rfl ?_
            refine mr_nil ?_
            refine z_seq ?_
            refine m_condF rfl ?_
            refine m_skip ?_
            refine z_blk ?_
            refine z_seq ?_
            refine m_region ?_
            refine ml_val (my_move (Sm.v _)) rfl rfl rfl ?_
            refine ml_val (my_add64 rfl rfl (by omega)) rfl rfl rfl ?_
            refine ml_val (my_assign (Sm.v _)) rfl rfl rfl ?_
            refine ml_nil ?_
            exact z_lpN (s.recs.length - (j + 1)) (by omega) ⟨j + 1, rfl, rfl, rfl, rfl, rfl, rfl, rfl, by omega, rfl⟩
          · skip
            have hpx : pre x.key (nameOf k) = false := pre_no (fun h => hex (by simpa using h.2))
            refine m_skip ?_
            refine z_seq ?_
            refine m_seq ?_
            refine m_region ?_
            refine ml_val (my_move (Sm.ptr _ _ _)) rfl rfl rfl ?_
            refine ml_val (my_move (Sm.sl _)) rfl rfl rfl ?_
            refine ml_val (my_move (Sm.v _)) rfl rfl rfl ?_
            refine ml_val (my_indexS Try.underlying38 I41 S41 rfl rfl (by omega) (recsA_get (by simpa using hx)) rfl) rfl rfl rfl ?_
            refine ml_val (my_fieldF Try.underlying41 rfl I9 S9 rfl rfl rfl rfl) rfl rfl rfl ?_
            refine ml_val (my_loadF Try.underlying9 rfl rfl (fun h => absurd (show false = true from h) Bool.false_ne_true) rfl) rfl rfl rfl ?_
            refine ml_ow rfl (mo_call [0, 1] fn13 rfl rfl (Get_c p r s hw x.key hv) rfl rfl (fun Hs' a hp => ?_))
            obtain ⟨rfl, rfl⟩ := hp
            refine ml_norm [2, 3] [⟨_, _⟩, ⟨_, _⟩] (by decide) rfl ?_
            refine ml_val (my_move (Sm.tup _)) rfl rfl rfl ?_
            refine ml_val (my_extract rfl rfl) rfl rfl rfl ?_
            refine ml_val (my_extract rfl rfl) rfl rfl rfl ?_
            refine ml_val (my_assign (Sm.sl _)) rfl rfl rfl ?_
            refine ml_val (my_assign (Sm.v _)) rfl rfl rfl ?_
            refine ml_nil ?_
            refine z_seq ?_
            refine m_seq ?_
            refine m_regionD (fun i => List.contains [] i) [] [(0, true), (1, true), (2, true), (3, true), (4, true), (5, true), (6, true), (7, true), (8, true), (9, true), (10, true), (11, true), (12, true), (13, true), (14, true), (15, true), (16, true), (17, true)] mixed (by kernel_rfl) ?_
            refine mr_val rfl (my_move (Sm.sl _)) rfl rfl rfl ?_
            refine mr_val rfl (my_b2s (l := valR s.recs x.key) Try.underlying28 Try.underlying5 Try.underlying9 rfl) rfl rfl rfl ?_
            refine mr_val rfl (my_move (Sm.sl _)) rfl rfl rfl ?_
            refine mr_val rfl (my_move (Sm.v _)) rfl rfl rfl ?_
            refine mr_val rfl (my_indexS Try.underlying38 I41 S41 rfl rfl (by omega) (recsA_get (by simpa using hx)) rfl) rfl rfl rfl ?_
            refine mr_val rfl (my_fieldF Try.underlying41 rfl I28 S28 rfl rfl rfl rfl) rfl rfl rfl ?_
            refine mr_val rfl (my_loadF Try.underlying28 rfl rfl (fun h => absurd (show false = true from h) Bool.false_ne_true) rfl) rfl rfl rfl ?_
            refine mr_val rfl (my_b2s (l := x.val) Try.underlying28 Try.underlying5 Try.underlying9 rfl) rfl rfl rfl ?_
            refine mr_val rfl (MY.to (a' := tv false) (my_sneq rfl rfl) (congrArg tv (decide_eq_false (by rw [valR_at hw.srt hx]; simp)))) rfl rfl rfl ?_
            refine mr_val rfl (my_move (Sm.v _)) rfl rfl rfl ?_
            first | refine mr_skipG rfl rfl rfl rfl rfl rfl rfl ?_ | refine mr_valG rfl (my_move (Sm.v _)) rfl rfl rfl rfl rfl ?_
            first | refine mr_skipG rfl rfl rfl rfl rfl rfl rfl ?_ | refine mr_valG rfl (my_move (Sm.sl _)) rfl rfl rfl rfl rfl ?_
            first | refine mr_skipG rfl rfl rfl rfl rfl rfl rfl ?_ | refine mr_valG rfl (my_move (Sm.v _)) rfl rfl rfl rfl rfl ?_
            first | refine mr_skipG rfl rfl rfl rfl rfl rfl rfl ?_ | refine mr_valG rfl (my_indexS Try.underlying38 I41 S41 rfl rfl (by omega) (recsA_get (by simpa using hx)) rfl) rfl rfl rfl rfl rfl ?_
            first | refine mr_skipG rfl rfl rfl rfl rfl rfl rfl ?_ | refine mr_valG rfl (my_fieldF Try.underlying41 rfl I3 S3 rfl rfl rfl rfl) rfl rfl rfl rfl rfl ?_
            first | refine mr_skipG rfl rfl rfl rfl rfl rfl rfl ?_ | refine mr_valG rfl (my_loadF Try.underlying3 rfl rfl (fun h => absurd (show false = true from h) Bool.false_ne_true) rfl) rfl rfl rfl rfl rfl ?_
            first | refine mr_skipG rfl rfl rfl rfl rfl rfl rfl ?_ | refine mr_valG rfl (MY.to (a' := tv false) (my_neq rfl rfl) (congrArg tv (decide_eq_false (by rw [verR_at hw.srt hx]; simp)))) rfl rfl rfl rfl rfl ?_
            refine mr_val rfl (my_pickF rfl (Sm.v _)) rfl rfl rfl ?_
            refine mr_nil ?_
            refine z_seq ?_
            refine m_condF rfl ?_
            refine m_skip ?_
            refine z_blk ?_
            refine z_seq ?_
            refine m_region ?_
            refine ml_val (my_move (Sm.v _)) rfl rfl rfl ?_
            refine ml_val (my_add64 rfl rfl (by omega)) rfl rfl rfl ?_
            refine ml_val (my_assign (Sm.v _)) rfl rfl rfl ?_
            refine ml_nil ?_
            exact z_lpN (s.recs.length - (j + 1)) (by omega) ⟨j + 1, rfl, rfl, rfl, rfl, rfl, congrArg (fun n : Nat => iv .i64 (n : Int)) (cnt_no hx hpx).symm, rfl, by omega, rfl⟩
        · skip
          refine ml_val (MY.to (a' := tv false) (my_geq rfl rfl) (congrArg tv (decide_eq_false (by omega)))) rfl rfl rfl ?_
          refine ml_val (my_move (Sm.v _)) rfl rfl rfl ?_
          refine ml_skipG rfl rfl rfl rfl rfl rfl ?_
          refine ml_skipG rfl rfl rfl rfl rfl rfl ?_
          refine ml_skipG rfl rfl rfl rfl rfl rfl ?_
          refine ml_skipG rfl rfl rfl rfl rfl rfl ?_
          refine ml_skipG rfl rfl rfl rfl rfl rfl ?_
          refine ml_skipG rfl rfl rfl rfl rfl rfl ?_
          refine ml_skipG rfl rfl rfl rfl rfl rfl ?_
          refine ml_skipG rfl rfl rfl rfl rfl rfl ?_
          refine ml_skipG rfl rfl rfl rfl rfl rfl ?_
          refine ml_skipG rfl rfl rfl rfl rfl rfl ?_
          refine ml_val (my_pickF rfl (Sm.v _)) rfl rfl rfl ?_
          refine ml_nil ?_
          refine z_seq ?_
          refine m_condF rfl ?_
          refine m_skip ?_
          refine z_seq ?_
          refine m_seq ?_
          have hpx : pre x.key (nameOf k) = false := pre_no (fun h => hle h.1)
          refine m_region ?_
          refine ml_val (my_move (Sm.ptr _ _ _)) rfl rfl rfl ?_
          refine ml_val (my_move (Sm.sl _)) rfl rfl rfl ?_
          refine ml_val (my_move (Sm.v _)) rfl rfl rfl ?_
          refine ml_val (my_indexS Try.underlying38 I41 S41 rfl rfl (by omega) (recsA_get (by simpa using hx)) rfl) rfl rfl rfl ?_
          refine ml_val (my_fieldF Try.underlying41 rfl I9 S9 rfl rfl rfl rfl) rfl rfl rfl ?_
          refine ml_val (my_loadF Try.underlying9 rfl rfl (fun h => absurd (show false = true from h) Bool.false_ne_true) rfl) rfl rfl rfl ?_
          refine ml_ow rfl (mo_call [0, 1] fn13 rfl rfl (Get_c p r s hw x.key hv) rfl rfl (fun Hs' a hp => ?_))
          obtain ⟨rfl, rfl⟩ := hp
          refine ml_norm [2, 3] [⟨_, _⟩, ⟨_, _⟩] (by decide) rfl ?_
          refine ml_val (my_move (Sm.tup _)) rfl rfl rfl ?_
          refine ml_val (my_extract rfl rfl) rfl rfl rfl ?_
          refine ml_val (my_extract rfl rfl) rfl rfl rfl ?_
          refine ml_val (my_assign (Sm.sl _)) rfl rfl rfl ?_
          refine ml_val (my_assign (Sm.v _)) rfl rfl rfl ?_
          refine ml_nil ?_
          refine z_seq ?_
          refine m_seq ?_
          refine m_regionD (fun i => List.contains [] i) [] [(0, true), (1, true), (2, true), (3, true), (4, true), (5, true), (6, true), (7, true), (8, true), (9, true), (10, true), (11, true), (12, true), (13, true), (14, true), (15, true), (16, true), (17, true)] mixed (by kernel_rfl) ?_
          refine mr_val rfl (my_move (Sm.sl _)) rfl rfl rfl ?_
          refine mr_val rfl (my_b2s (l := valR s.recs x.key) Try.underlying28 Try.underlying5 Try.underlying9 rfl) rfl rfl rfl ?_
          refine mr_val rfl (my_move (Sm.sl _)) rfl rfl rfl ?_
          refine mr_val rfl (my_move (Sm.v _)) rfl rfl rfl ?_
          refine mr_val rfl (my_indexS Try.underlying38 I41 S41 rfl rfl (by omega) (recsA_get (by simpa using hx)) rfl) rfl rfl rfl ?_
          refine mr_val rfl (my_fieldF Try.underlying41 rfl I28 S28 rfl rfl rfl rfl) rfl rfl rfl ?_
          refine mr_val rfl (my_loadF Try.underlying28 rfl rfl (fun h => absurd (show false = true from h) Bool.false_ne_true) rfl) rfl rfl rfl ?_
          refine mr_val rfl (my_b2s (l := x.val) Try.underlying28 Try.underlying5 Try.underlying9 rfl) rfl rfl rfl ?_
          refine mr_val rfl (MY.to (a' := tv false) (my_sneq rfl rfl) (congrArg tv (decide_eq_false (by rw [valR_at hw.srt hx]; simp)))) rfl rfl rfl ?_
          refine mr_val rfl (my_move (Sm.v _)) rfl rfl rfl ?_
          first | refine mr_skipG rfl rfl rfl rfl rfl rfl rfl ?_ | refine mr_valG rfl (my_move (Sm.v _)) rfl rfl rfl rfl rfl ?_
          first | refine mr_skipG rfl rfl rfl rfl rfl rfl rfl ?_ | refine mr_valG rfl (my_move (Sm.sl _)) rfl rfl rfl rfl rfl ?_
          first | refine mr_skipG rfl rfl rfl rfl rfl rfl rfl ?_ | refine mr_valG rfl (my_move (Sm.v _)) rfl rfl rfl rfl rfl ?_
          first | refine mr_skipG rfl rfl rfl rfl rfl rfl rfl ?_ | refine mr_valG rfl (my_indexS Try.underlying38 I41 S41 rfl rfl (by omega) (recsA_get (by simpa using hx)) rfl) rfl rfl rfl rfl rfl ?_
          first | refine mr_skipG rfl rfl rfl rfl rfl rfl rfl ?_ | refine mr_valG rfl (my_fieldF Try.underlying41 rfl I3 S3 rfl rfl rfl rfl) rfl rfl rfl rfl rfl ?_
          first | refine mr_skipG rfl rfl rfl rfl rfl rfl rfl ?_ | refine mr_valG rfl (my_loadF Try.underlying3 rfl rfl (fun h => absurd (show false = true from h) Bool.false_ne_true) rfl) rfl rfl rfl rfl rfl ?_
          first | refine mr_skipG rfl rfl rfl rfl rfl rfl rfl ?_ | refine mr_valG rfl (MY.to (a' := tv false) (my_neq rfl rfl) (congrArg tv (decide_eq_false (by rw [verR_at hw.srt hx]; simp)))) rfl rfl rfl rfl rfl ?_
          refine mr_val rfl (my_pickF rfl (Sm.v _)) rfl rfl rfl ?_
          refine mr_nil ?_
          refine z_seq ?_
          refine m_condF rfl ?_
          refine m_skip ?_
          refine z_blk ?_
          refine z_seq ?_
          refine m_region ?_
          refine ml_val (my_move (Sm.v _)) rfl rfl rfl ?_
          refine ml_val (my_add64 rfl rfl (by omega)) rfl rfl rfl ?_
          refine ml_val (my_assign (Sm.v _)) rfl rfl rfl ?_
          refine ml_nil ?_
          exact z_lpN (s.recs.length - (j + 1)) (by omega) ⟨j + 1, rfl, rfl, rfl, rfl, rfl, congrArg (fun n : Nat => iv .i64 (n : Int)) (cnt_no hx hpx).symm, rfl, by omega, rfl⟩
      · skip
        refine mr_val rfl (MY.to (a' := tv false) (my_gtr rfl rfl) (congrArg tv (decide_eq_false (by omega)))) rfl rfl rfl ?_
        refine mr_val rfl (my_move (Sm.v _)) rfl rfl rfl ?_
        first | refine mr_skipG rfl rfl rfl rfl rfl rfl rfl ?_ | refine mr_valG rfl (my_move (Sm.sl _)) rfl rfl rfl rfl rfl ?_
        first | refine mr_skipG rfl rfl rfl rfl rfl rfl rfl ?_ | refine mr_valG rfl (my_move (Sm.v _)) rfl rfl rfl rfl rfl ?_
        first | refine mr_skipG rfl rfl rfl rfl rfl rfl rfl ?_ | refine mr_valG rfl (my_sub64 rfl rfl (by omega)) rfl rfl rfl rfl rfl ?_
        first | refine mr_skipG rfl rfl rfl rfl rfl rfl rfl ?_ | refine mr_valG rfl (my_indexS Try.underlying38 I41 S41 rfl rfl (by omega) (rfl) rfl) rfl rfl rfl rfl rfl ?_
        first | refine mr_skipG rfl rfl rfl rfl rfl rfl rfl ?_ | refine mr_valG rfl (my_fieldF Try.underlying41 rfl I9 S9 rfl rfl rfl rfl) rfl rfl rfl rfl rfl ?_
        first | refine mr_skipG rfl rfl rfl rfl rfl rfl rfl ?_ | refine mr_valG rfl (my_loadF Try.underlying9 rfl rfl (fun h => absurd (show false = true from h) Bool.false_ne_true) rfl) rfl rfl rfl rfl rfl ?_
        first | refine mr_skipG rfl rfl rfl rfl rfl rfl rfl ?_ | refine mr_valG rfl (my_move (Sm.sl _)) rfl rfl rfl rfl rfl ?_
        first | refine mr_skipG rfl rfl rfl rfl rfl rfl rfl ?_ | refine mr_valG rfl (my_move (Sm.v _)) rfl rfl rfl rfl rfl ?_
        first | refine mr_skipG rfl rfl rfl rfl rfl rfl rfl ?_ | refine mr_valG rfl (my_indexS Try.underlying38 I41 S41 rfl rfl (by omega) (rfl) rfl) rfl rfl rfl rfl rfl ?_
        first | refine mr_skipG rfl rfl rfl rfl rfl rfl rfl ?_ | refine mr_valG rfl (my_fieldF Try.underlying41 rfl I9 S9 rfl rfl rfl rfl) rfl rfl rfl rfl rfl ?_
        first | refine mr_skipG rfl rfl rfl rfl rfl rfl rfl ?_ | refine mr_valG rfl (my_loadF Try.underlying9 rfl rfl (fun h => absurd (show false = true from h) Bool.false_ne_true) rfl) rfl rfl rfl rfl rfl ?_
        first | refine mr_skipG rfl rfl rfl rfl rfl rfl rfl ?_ | refine mr_valG rfl (my_sgeq rfl rfl) rfl rfl rfl rfl rfl ?_
        refine mr_val rfl (my_pickF rfl (Sm.v _)) rfl rfl rfl ?_
        refine mr_nil ?_
        refine z_seq ?_
        refine m_condF rfl ?_
        refine m_skip ?_
        refine z_seq ?_
        refine m_seq ?_
        refine m_seq ?_
        refine m_region ?_
        refine ml_val (my_move (Sm.sl _)) rfl rfl rfl ?_
        refine ml_val (my_move (Sm.v _)) rfl rfl rfl ?_
        refine ml_val (my_indexS Try.underlying38 I41 S41 rfl rfl (by omega) (recsA_get (by simpa using hx)) rfl) rfl rfl rfl ?_
        refine ml_val (my_fieldF Try.underlying41 rfl I9 S9 rfl rfl rfl rfl) rfl rfl rfl ?_
        refine ml_val (my_loadF Try.underlying9 rfl rfl (fun h => absurd (show false = true from h) Bool.false_ne_true) rfl) rfl rfl rfl ?_
        refine ml_val (my_lenStr Try.underlying9 rfl) rfl rfl rfl ?_
        refine ml_val (my_move (Sm.v _)) rfl rfl rfl ?_
        refine ml_val (my_lenStr Try.underlying9 rfl) rfl rfl rfl ?_
        by_cases hle : (nameOf k).size ≤ x.key.size
        · skip
          refine ml_val (MY.to (a' := tv true) (my_geq rfl rfl) (congrArg tv (decide_eq_true (by omega)))) rfl rfl rfl ?_
          refine ml_val (my_move (Sm.v _)) rfl rfl rfl ?_
          first | refine ml_skipG rfl rfl rfl rfl rfl rfl ?_ | refine ml_valG (my_move (Sm.sl _)) rfl rfl rfl rfl rfl ?_
          first | refine ml_skipG rfl rfl rfl rfl rfl rfl ?_ | refine ml_valG (my_move (Sm.v _)) rfl rfl rfl rfl rfl ?_
          refine ml_valG (my_indexS Try.underlying38 I41 S41 rfl rfl (by omega) (recsA_get (by simpa using hx)) rfl) rfl rfl rfl rfl rfl ?_
          first | refine ml_skipG rfl rfl rfl rfl rfl rfl ?_ | refine ml_valG (my_fieldF Try.underlying41 rfl I9 S9 rfl rfl rfl rfl) rfl rfl rfl rfl rfl ?_
          first | refine ml_skipG rfl rfl rfl rfl rfl rfl ?_ | refine ml_valG (my_loadF Try.underlying9 rfl rfl (fun h => absurd (show false = true from h) Bool.false_ne_true) rfl) rfl rfl rfl rfl rfl ?_
          first | refine ml_skipG rfl rfl rfl rfl rfl rfl ?_ | refine ml_valG (my_move (Sm.v _)) rfl rfl rfl rfl rfl ?_
          first | refine ml_skipG rfl rfl rfl rfl rfl rfl ?_ | refine ml_valG (my_lenStr Try.underlying9 rfl) rfl rfl rfl rfl rfl ?_
          refine ml_valG (my_strHi Try.underlying9 rfl rfl (by omega) (by omega)) rfl rfl rfl rfl rfl ?_
          first | refine ml_skipG rfl rfl rfl rfl rfl rfl ?_ | refine ml_valG (my_move (Sm.v _)) rfl rfl rfl rfl rfl ?_
          refine ml_valG (my_seql rfl rfl) rfl rfl rfl rfl rfl ?_
          refine ml_val (my_pickT rfl (Sm.v _)) rfl rfl rfl ?_
          refine ml_nil ?_
          refine z_seq ?_
          refine m_condp rfl (fun hex => ?_) (fun hex => ?_)
          · skip
            have hpx : pre x.key (nameOf k) = true := pre_yes hle (by simpa using hex)
            refine m_region ?_
            refine ml_val (my_move (Sm.v _)) rfl rfl rfl ?_
            refine ml_val (MY.to (a' := iv .i64 (cnt s.recs (nameOf k) (j + 1) : Int)) (my_add64 rfl rfl (by omega)) (by rw [cnt_yes hx hpx]; rfl)) rfl rfl rfl ?_
            refine ml_val (my_assign (Sm.v _)) rfl rfl rfl ?_
            refine ml_nil ?_
            refine z_seq ?_
            refine m_seq ?_
            refine m_region ?_
            refine ml_val (my_move (Sm.ptr _ _ _)) rfl rfl rfl ?_
            refine ml_val (my_move (Sm.sl _)) rfl rfl rfl ?_
            refine ml_val (my_move (Sm.v _)) rfl rfl rfl ?_
            refine ml_val (my_indexS Try.underlying38 I41 S41 rfl rfl (by omega) (recsA_get (by simpa using hx)) rfl) rfl rfl rfl ?_
            refine ml_val (my_fieldF Try.underlying41 rfl I9 S9 rfl rfl rfl rfl) rfl rfl rfl ?_
            refine ml_val (my_loadF Try.underlying9 rfl rfl (fun h => absurd (show false = true from h) Bool.false_ne_true) rfl) rfl rfl rfl ?_
            refine ml_ow rfl (mo_call [0, 1] fn13 rfl rfl (Get_c p r s hw x.key hv) rfl rfl (fun Hs' a hp => ?_))
            obtain ⟨rfl, rfl⟩ := hp
            refine ml_norm [2, 3] [⟨_, _⟩, ⟨_, _⟩] (by decide) rfl ?_
            refine ml_val (my_move (Sm.tup _)) rfl rfl rfl ?_
            refine ml_val (my_extract rfl rfl) rfl rfl rfl ?_
            refine ml_val (my_extract rfl rfl) rfl rfl rfl ?_
            refine ml_val (my_assign (Sm.sl _)) rfl rfl rfl ?_
            refine ml_val (my_assign (Sm.v _)) rfl rfl rfl ?_
            refine ml_nil ?_
            refine z_seq ?_
            refine m_seq ?_
            refine m_regionD (fun i => List.contains [] i) [] [(0, true), (1, true), (2, true), (3, true), (4, true), (5, true), (6, true), (7, true), (8, true), (9, true), (10, true), (11, true), (12, true), (13, true), (14, true), (15, true), (16, true), (17, true)] mixed (by kernel_rfl) ?_
            refine mr_val rfl (my_move (Sm.sl _)) rfl rfl rfl ?_
            refine mr_val rfl (my_b2s (l := valR s.recs x.key) Try.underlying28 Try.underlying5 Try.underlying9 rfl) rfl rfl rfl ?_
            refine mr_val rfl (my_move (Sm.sl _)) rfl rfl rfl ?_
            refine mr_val rfl (my_move (Sm.v _)) rfl rfl rfl ?_
            refine mr_val rfl (my_indexS Try.underlying38 I41 S41 rfl rfl (by omega) (recsA_get (by simpa using hx)) rfl) rfl rfl rfl ?_
            refine mr_val rfl (my_fieldF Try.underlying41 rfl I28 S28 rfl rfl rfl rfl) rfl rfl rfl ?_
            refine mr_val rfl (my_loadF Try.underlying28 rfl rfl (fun h => absurd (show false = true from h) Bool.false_ne_true) rfl) rfl rfl rfl ?_
            refine mr_val rfl (my_b2s (l := x.val) Try.underlying28 Try.underlying5 Try.underlying9 rfl) rfl rfl rfl ?_
            refine mr_val rfl (MY.to (a' := tv false) (my_sneq rfl rfl) (congrArg tv (decide_eq_false (by rw [valR_at hw.srt hx]; simp)))) rfl rfl rfl ?_
            refine mr_val rfl (my_move (Sm.v _)) rfl rfl rfl ?_
            first | refine mr_skipG rfl rfl rfl rfl rfl rfl rfl ?_ | refine mr_valG rfl (my_move (Sm.v _)) rfl rfl rfl rfl rfl ?_
            first | refine mr_skipG rfl rfl rfl rfl rfl rfl rfl ?_ | refine mr_valG rfl (my_move (Sm.sl _)) rfl rfl rfl rfl rfl ?_
            first | refine mr_skipG rfl rfl rfl rfl rfl rfl rfl ?_ | refine mr_valG rfl (my_move (Sm.v _)) rfl rfl rfl rfl rfl ?_
            first | refine mr_skipG rfl rfl rfl rfl rfl rfl rfl ?_ | refine mr_valG rfl (my_indexS Try.underlying38 I41 S41 rfl rfl (by omega) (recsA_get (by simpa using hx)) rfl) rfl rfl rfl rfl rfl ?_
            first | refine mr_skipG rfl rfl rfl rfl rfl rfl rfl ?_ | refine mr_valG rfl (my_fieldF Try.underlying41 rfl I3 S3 rfl rfl rfl rfl) rfl rfl rfl rfl rfl ?_
            first | refine mr_skipG rfl rfl rfl rfl rfl rfl rfl ?_ | refine mr_valG rfl (my_loadF Try.underlying3 rfl rfl (fun h => absurd (show false = true from h) Bool.false_ne_true) rfl) rfl rfl rfl rfl rfl ?_
            first | refine mr_skipG rfl rfl rfl rfl rfl rfl rfl ?_ | refine mr_valG rfl (MY.to (a' := tv false) (my_neq rfl rfl) (congrArg tv (decide_eq_false (by rw [verR_at hw.srt hx]; simp)))) rfl rfl rfl rfl rfl ?_
            refine mr_val rfl (my_pickF rfl (Sm.v _)) rfl rfl rfl ?_
            refine mr_nil ?_
            refine z_seq ?_
            refine m_condF rfl ?_
            refine m_skip ?_
            refine z_blk ?_
            refine z_seq ?_
            refine m_region ?_
            refine ml_val (my_move (Sm.v _)) rfl rfl rfl ?_
            refine ml_val (my_add64 rfl rfl (by omega)) rfl rfl rfl ?_
            refine ml_val (my_assign (Sm.v _)) rfl rfl rfl ?_
            refine ml_nil ?_
            exact z_lpN (s.recs.length - (j + 1)) (by omega) ⟨j + 1, rfl, rfl, rfl, rfl, rfl, rfl, rfl, by omega, rfl⟩
          · skip
            have hpx : pre x.key (nameOf k) = false := pre_no (fun h => hex (by simpa using h.2))
            refine m_skip ?_
            refine z_seq ?_
            refine m_seq ?_
            refine m_region ?_
            refine ml_val (my_move (Sm.ptr _ _ _)) rfl rfl rfl ?_
            refine ml_val (my_move (Sm.sl _)) rfl rfl rfl ?_
            refine ml_val (my_move (Sm.v _)) rfl rfl rfl ?_
            refine ml_val (my_indexS Try.underlying38 I41 S41 rfl rfl (by omega) (recsA_get (by simpa using hx)) rfl) rfl rfl rfl ?_
            refine ml_val (my_fieldF Try.underlying41 rfl I9 S9 rfl rfl rfl rfl) rfl rfl rfl ?_
            refine ml_val (my_loadF Try.underlying9 rfl rfl (fun h => absurd (show false = true from h) Bool.false_ne_true) rfl) rfl rfl rfl ?_
            refine ml_ow rfl (mo_call [0, 1] fn13 rfl rfl (Get_c p r s hw x.key hv) rfl rfl (fun Hs' a hp => ?_))
            obtain ⟨rfl, rfl⟩ := hp
            refine ml_norm [2, 3] [⟨_, _⟩, ⟨_, _⟩] (by decide) rfl ?_
            refine ml_val (my_move (Sm.tup _)) rfl rfl rfl ?_
            refine ml_val (my_extract rfl rfl) rfl rfl rfl ?_
            refine ml_val (my_extract rfl rfl) rfl rfl rfl ?_
            refine ml_val (my_assign (Sm.sl _)) rfl rfl rfl ?_
            refine ml_val (my_assign (Sm.v _)) rfl rfl rfl ?_
            refine ml_nil ?_
            refine z_seq ?_
            refine m_seq ?_
            refine m_regionD (fun i => List.contains [] i) [] [(0, true), (1, true), (2, true), (3, true), (4, true), (5, true), (6, true), (7, true), (8, true), (9, true), (10, true), (11, true), (12, true), (13, true), (14, true), (15, true), (16, true), (17, true)] mixed (by kernel_rfl) ?_
            refine mr_val rfl (my_move (Sm.sl _)) rfl rfl rfl ?_
            refine mr_val rfl (my_b2s (l := valR s.recs x.key) Try.underlying28 Try.underlying5 Try.underlying9 rfl) rfl rfl rfl ?_
            refine mr_val rfl (my_move (Sm.sl _)) rfl rfl rfl ?_
            refine mr_val rfl (my_move (Sm.v _)) rfl rfl rfl ?_
            refine mr_val rfl (my_indexS Try.underlying38 I41 S41 rfl rfl (by omega) (recsA_get (by simpa using hx)) rfl) rfl rfl rfl ?_
            refine mr_val rfl (my_fieldF Try.underlying41 rfl I28 S28 rfl rfl rfl rfl) rfl rfl rfl ?_
            refine mr_val rfl (my_loadF Try.underlying28 rfl rfl (fun h => absurd (show false = true from h) Bool.false_ne_true) rfl) rfl rfl rfl ?_
            refine mr_val rfl (my_b2s (l := x.val) Try.underlying28 Try.underlying5 Try.underlying9 rfl) rfl rfl rfl ?_
            refine mr_val rfl (MY.to (a' := tv false) (my_sneq rfl rfl) (congrArg tv (decide_eq_false (by rw [valR_at hw.srt hx]; simp)))) rfl rfl rfl ?_
            refine mr_val rfl (my_move (Sm.v _)) rfl rfl rfl ?_
            first | refine mr_skipG rfl rfl rfl rfl rfl rfl rfl ?_ | refine mr_valG rfl (my_move (Sm.v _)) rfl rfl rfl rfl rfl ?_
            first | refine mr_skipG rfl rfl rfl rfl rfl rfl rfl ?_ | refine mr_valG rfl (my_move (Sm.sl _)) rfl rfl rfl rfl rfl ?_
            first | refine mr_skipG rfl rfl rfl rfl rfl rfl rfl ?_ | refine mr_valG rfl (my_move (Sm.v _)) rfl rfl rfl rfl rfl ?_
            first | refine mr_skipG rfl rfl rfl rfl rfl rfl rfl ?_ | refine mr_valG rfl (my_indexS Try.underlying38 I41 S41 rfl rfl (by omega) (recsA_get (by simpa using hx)) rfl) rfl rfl rfl rfl rfl ?_
            first | refine mr_skipG rfl rfl rfl rfl rfl rfl rfl ?_ | refine mr_valG rfl (my_fieldF Try.underlying41 rfl I3 S3 rfl rfl rfl rfl) rfl rfl rfl rfl rfl ?_
            first | refine mr_skipG rfl rfl rfl rfl rfl rfl rfl ?_ | refine mr_valG rfl (my_loadF Try.underlying3 rfl rfl (fun h => absurd (show false = true from h) Bool.false_ne_true) rfl) rfl rfl rfl rfl rfl ?_
            first | refine mr_skipG rfl rfl rfl rfl rfl rfl rfl ?_ | refine mr_valG rfl (MY.to (a' := tv false) (my_neq rfl rfl) (congrArg tv (decide_eq_false (by rw [verR_at hw.srt hx]; simp)))) rfl rfl rfl rfl rfl ?_
            refine mr_val rfl (my_pickF rfl (Sm.v _)) rfl rfl rfl ?_
            refine mr_nil ?_
            refine z_seq ?_
            refine m_condF rfl ?_
            refine m_skip ?_
            refine z_blk ?_
            refine z_seq ?_
            refine m_region ?_
            refine ml_val (my_move (Sm.v _)) rfl rfl rfl ?_
            refine ml_val (my_add64 rfl rfl (by omega)) rfl rfl rfl ?_
            refine ml_val (my_assign (Sm.v _)) rfl rfl rfl ?_
            refine ml_nil ?_
            exact z_lpN (s.recs.length - (j + 1)) (by omega) ⟨j + 1, rfl, rfl, rfl, rfl, rfl, congrArg (fun n : Nat => iv .i64 (n : Int)) (cnt_no hx hpx).symm, rfl, by omega, rfl⟩
        · skip
          refine ml_val (MY.to (a' := tv false) (my_geq rfl rfl) (congrArg tv (decide_eq_false (by omega)))) rfl rfl rfl ?_
          refine ml_val (my_move (Sm.v _)) rfl rfl rfl ?_
          refine ml_skipG rfl rfl rfl rfl rfl rfl ?_
          refine ml_skipG rfl rfl rfl rfl rfl rfl ?_
          refine ml_skipG rfl rfl rfl rfl rfl rfl ?_
          refine ml_skipG rfl rfl rfl rfl rfl rfl ?_
          refine ml_skipG rfl rfl rfl rfl rfl rfl ?_
          refine ml_skipG rfl rfl rfl rfl rfl rfl ?_
          refine ml_skipG rfl rfl rfl rfl rfl rfl ?_
          refine ml_skipG rfl rfl rfl rfl rfl rfl ?_
          refine ml_skipG rfl rfl rfl rfl rfl rfl ?_
          refine ml_skipG rfl rfl rfl rfl rfl rfl ?_
          refine ml_val (my_pickF rfl (Sm.v _)) rfl rfl rfl ?_
          refine ml_nil ?_
          refine z_seq ?_
          refine m_condF rfl ?_
          refine m_skip ?_
          refine z_seq ?_
          refine m_seq ?_
          have hpx : pre x.key (nameOf k) = false := pre_no (fun h => hle h.1)
          refine m_region ?_
          refine ml_val (my_move (Sm.ptr _ _ _)) rfl rfl rfl ?_
          refine ml_val (my_move (Sm.sl _)) rfl rfl rfl ?_
          refine ml_val (my_move (Sm.v _)) rfl rfl rfl ?_
          refine ml_val (my_indexS Try.underlying38 I41 S41 rfl rfl (by omega) (recsA_get (by simpa using hx)) rfl) rfl rfl rfl ?_
          refine ml_val (my_fieldF Try.underlying41 rfl I9 S9 rfl rfl rfl rfl) rfl rfl rfl ?_
          refine ml_val (my_loadF Try.underlying9 rfl rfl (fun h => absurd (show false = true from h) Bool.false_ne_true) rfl) rfl rfl rfl ?_
          refine ml_ow rfl (mo_call [0, 1] fn13 rfl rfl (Get_c p r s hw x.key hv) rfl rfl (fun Hs' a hp => ?_))
          obtain ⟨rfl, rfl⟩ := hp
          refine ml_norm [2, 3] [⟨_, _⟩, ⟨_, _⟩] (by decide) rfl ?_
          refine ml_val (my_move (Sm.tup _)) rfl rfl rfl ?_
          refine ml_val (my_extract rfl rfl) rfl rfl rfl ?_
          refine ml_val (my_extract rfl rfl) rfl rfl rfl ?_
          refine ml_val (my_assign (Sm.sl _)) rfl rfl rfl ?_
          refine ml_val (my_assign (Sm.v _)) rfl rfl rfl ?_
          refine ml_nil ?_
          refine z_seq ?_
          refine m_seq ?_
          refine m_regionD (fun i => List.contains [] i) [] [(0, true), (1, true), (2, true), (3, true), (4, true), (5, true), (6, true), (7, true), (8, true), (9, true), (10, true), (11, true), (12, true), (13, true), (14, true), (15, true), (16, true), (17, true)] mixed (by kernel_rfl) ?_
          refine mr_val rfl (my_move (Sm.sl _)) rfl rfl rfl ?_
          refine mr_val rfl (my_b2s (l := valR s.recs x.key) Try.underlying28 Try.underlying5 Try.underlying9 rfl) rfl rfl rfl ?_
          refine mr_val rfl (my_move (Sm.sl _)) rfl rfl rfl ?_
          refine mr_val rfl (my_move (Sm.v _)) rfl rfl rfl ?_
          refine mr_val rfl (my_indexS Try.underlying38 I41 S41 rfl rfl (by omega) (recsA_get (by simpa using hx)) rfl) rfl rfl rfl ?_
          refine mr_val rfl (my_fieldF Try.underlying41 rfl I28 S28 rfl rfl rfl rfl) rfl rfl rfl ?_
          refine mr_val rfl (my_loadF Try.underlying28 rfl rfl (fun h => absurd (show false = true from h) Bool.false_ne_true) rfl) rfl rfl rfl ?_
          refine mr_val rfl (my_b2s (l := x.val) Try.underlying28 Try.underlying5 Try.underlying9 rfl) rfl rfl rfl ?_
          refine mr_val rfl (MY.to (a' := tv false) (my_sneq rfl rfl) (congrArg tv (decide_eq_false (by rw [valR_at hw.srt hx]; simp)))) rfl rfl rfl ?_
          refine mr_val rfl (my_move (Sm.v _)) rfl rfl rfl ?_
          first | refine mr_skipG rfl rfl rfl rfl rfl rfl rfl ?_ | refine mr_valG rfl (my_move (Sm.v _)) rfl rfl rfl rfl rfl ?_
          first | refine mr_skipG rfl rfl rfl rfl rfl rfl rfl ?_ | refine mr_valG rfl (my_move (Sm.sl _)) rfl rfl rfl rfl rfl ?_
          first | refine mr_skipG rfl rfl rfl rfl rfl rfl rfl ?_ | refine mr_valG rfl (my_move (Sm.v _)) rfl rfl rfl rfl rfl ?_
          first | refine mr_skipG rfl rfl rfl rfl rfl rfl rfl ?_ | refine mr_valG rfl (my_indexS Try.underlying38 I41 S41 rfl rfl (by omega) (recsA_get (by simpa using hx)) rfl) rfl rfl rfl rfl rfl ?_
          first | refine mr_skipG rfl rfl rfl rfl rfl rfl rfl ?_ | refine mr_valG rfl (my_fieldF Try.underlying41 rfl I3 S3 rfl rfl rfl rfl) rfl rfl rfl rfl rfl ?_
          first | refine mr_skipG rfl rfl rfl rfl rfl rfl rfl ?_ | refine mr_valG rfl (my_loadF Try.underlying3 rfl rfl (fun h => absurd (show false = true from h) Bool.false_ne_true) rfl) rfl rfl rfl rfl rfl ?_
          first | refine mr_skipG rfl rfl rfl rfl rfl rfl rfl ?_ | refine mr_valG rfl (MY.to (a' := tv false) (my_neq rfl rfl) (congrArg tv (decide_eq_false (by rw [verR_at hw.srt hx]; simp)))) rfl rfl rfl rfl rfl ?_
          refine mr_val rfl (my_pickF rfl (Sm.v _)) rfl rfl rfl ?_
          refine mr_nil ?_
          refine z_seq ?_
          refine m_condF rfl ?_
          refine m_skip ?_
          refine z_blk ?_
          refine z_seq ?_
          refine m_region ?_
          refine ml_val (my_move (Sm.v _)) rfl rfl rfl ?_
          refine ml_val (my_add64 rfl rfl (by omega)) rfl rfl rfl ?_
          refine ml_val (my_assign (Sm.v _)) rfl rfl rfl ?_
          refine ml_nil ?_
          exact z_lpN (s.recs.length - (j + 1)) (by omega) ⟨j + 1, rfl, rfl, rfl, rfl, rfl, congrArg (fun n : Nat => iv .i64 (n : Int)) (cnt_no hx hpx).symm, rfl, by omega, rfl⟩
    · skip
      have hje : j = s.recs.length := by omega
      have hce : cnt s.recs (nameOf k) j = (scanR s.recs (nameOf k)).length := by rw [hje, cnt_end hw.srt]
      refine m_exit ?_
      refine z_seqX ?_
      refine z_lpX ?_
      refine z_blkX ?_
      refine z_seq ?_
      refine m_seq ?_
      refine m_region ?_
      refine ml_ow rfl (mo_call [] fn10 rfl rfl (known_c) rfl rfl (fun Hs' a hp => ?_))
      obtain ⟨rfl, rfl⟩ := hp
      refine ml_norm [0, 1] [⟨_, _⟩, ⟨_, _⟩] (by decide) rfl ?_
      refine ml_val (my_move (Sm.v _)) rfl rfl rfl ?_
      first | refine ml_skipG rfl rfl rfl rfl rfl rfl ?_ | refine ml_valG (my_move (Sm.v _)) rfl rfl rfl rfl rfl ?_
      first | refine ml_skipG rfl rfl rfl rfl rfl rfl ?_ | refine ml_valG (my_move (Sm.sl _)) rfl rfl rfl rfl rfl ?_
      refine ml_valG (MY.to (a' := iv .i64 ((scanR s.recs (nameOf k)).length : Int)) (my_lenS Try.underlying38 rfl) (by rw [recsA_length])) rfl rfl rfl rfl rfl ?_
      refine ml_valG (MY.to (a' := tv true) (my_eql rfl rfl) (congrArg tv (decide_eq_true (by rw [hce])))) rfl rfl rfl rfl rfl ?_
      refine ml_val (my_pickT rfl (Sm.v _)) rfl rfl rfl ?_
      refine ml_val (my_move (Sm.v _)) rfl rfl rfl ?_
      first | refine ml_skipG rfl rfl rfl rfl rfl rfl ?_ | refine ml_valG (my_move (Sm.sl _)) rfl rfl rfl rfl rfl ?_
      refine ml_valG (MY.to (a' := iv .i64 (s.recs.length : Int)) (my_lenS Try.underlying38 rfl) (by rw [recsA_length])) rfl rfl rfl rfl rfl ?_
      first | refine ml_skipG rfl rfl rfl rfl rfl rfl ?_ | refine ml_valG (my_move (Sm.ptr _ _ _)) rfl rfl rfl rfl rfl ?_
      refine ml_owG rfl rfl rfl (mo_call [0, 1] fn11 rfl rfl (Len_c p r s) rfl rfl (fun Hs' a hp => ?_))
      obtain ⟨rfl, rfl⟩ := hp
      refine ml_norm [2, 3] [⟨_, _⟩, ⟨_, _⟩] (by decide) rfl ?_
      refine ml_valG (MY.to (a' := tv true) (my_eql rfl rfl) (congrArg tv (decide_eq_true rfl))) rfl rfl rfl rfl rfl ?_
      refine ml_val (my_pickT rfl (Sm.v _)) rfl rfl rfl ?_
      refine ml_val (my_move (Sm.v _)) rfl rfl rfl ?_
      first | refine ml_skipG rfl rfl rfl rfl rfl rfl ?_ | refine ml_valG (my_move (Sm.ptr _ _ _)) rfl rfl rfl rfl rfl ?_
      first | refine ml_skipG rfl rfl rfl rfl rfl rfl ?_ | refine ml_valG (my_move (Sm.v _)) rfl rfl rfl rfl rfl ?_
      refine ml_owG rfl rfl rfl (mo_call [0, 1] fn16 rfl rfl (Scan_c p r s hw hv (nameOf k)) rfl rfl (fun Hs' a hp => ?_))
      obtain ⟨q, rfl, rfl⟩ := hp
      refine ml_norm [2, 3, 4] [⟨_, _⟩, ⟨_, _⟩, ⟨_, _⟩] (by decide) rfl ?_
      refine ml_pre (sh_frz 143 (q := 2) rfl rfl) ?_
      refine ml_norm [0, 1] [⟨_, _⟩, ⟨_, _⟩] (by decide) rfl ?_
      first | refine ml_skipG rfl rfl rfl rfl rfl rfl ?_ | refine ml_valG (my_move (Sm.sl _)) rfl rfl rfl rfl rfl ?_
      refine ml_owG rfl rfl rfl (mo_call [] fn17 rfl rfl (Same_c (scanR s.recs (nameOf k)) (scanR s.recs (nameOf k)) (by have := cnt_le s.recs (nameOf k) j; omega)) rfl rfl (fun Hs' a hp => ?_))
      obtain ⟨rfl, rfl⟩ := hp
      refine ml_norm [0, 1] [⟨_, _⟩, ⟨_, _⟩] (by decide) rfl ?_
      refine ml_val (my_pickT rfl (Sm.v _)) rfl rfl rfl ?_
      refine ml_val (my_assign (Sm.v _)) rfl rfl rfl ?_
      refine ml_nil ?_
      refine z_seq ?_
      refine m_ret ?_
      exact ⟨tv true, mres1 rfl (by show tv (sameR _ _) = _; rw [sameR_self]), rfl⟩

end Go.Proofs.Ytlklapledogdcaa.K
