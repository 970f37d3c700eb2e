/- A copy, as the law says. No condition. -/
import Derived.Test.YtlklapledogdcaaSR0
namespace Go.Proofs.Ytlklapledogdcaa.K
open Go

set_option maxRecDepth 100000 in
set_option maxHeartbeats 1000000 in
theorem StoreCopies_m (c : List UInt8) (k : UInt8) : MF Try.prog 7 [.sl (c.map u8A), u8i k] [] (fun _ res => res = tv true) := by
  refine m_enter Try.func7 rfl Try.ntmps7 rfl ?_
  refine m_seq ?_
  refine m_region ?_
  refine ml_val (my_assign (Sm.v _)) rfl rfl rfl ?_
  refine ml_nil ?_
  refine z_seq ?_
  refine m_seq ?_
  refine m_region ?_
  refine ml_ow rfl (mo_call [] fn8 rfl rfl (New_e 9) rfl rfl (fun Hs' a hp => ?_))
  obtain ⟨p, r, s0, hs0, rfl, rfl⟩ := hp
  refine ml_norm [0, 1] [⟨_, _⟩, ⟨_, _⟩] (by decide) rfl ?_
  have hN0 : CI 0 s0 := by rw [hs0]; exact CI.zero
  clear hs0
  refine ml_val (my_assign (Sm.ptr _ _ _)) rfl rfl rfl ?_
  refine ml_nil ?_
  refine z_seq ?_
  refine m_seq ?_
  refine m_seq ?_
  refine m_region ?_
  refine ml_val (my_move (Sm.ptr _ _ _)) rfl rfl rfl ?_
  refine ml_val (my_eqlPtr Try.underlying22 rfl) rfl rfl rfl ?_
  refine ml_nil ?_
  refine z_seq ?_
  refine m_condF rfl ?_
  refine m_skip ?_
  refine z_seq ?_
  refine m_seq ?_
  refine m_seq ?_
  refine m_region ?_
  refine ml_val (my_assign (Sm.v _)) rfl rfl rfl ?_
  refine ml_nil ?_
  refine z_seq ?_
  refine m_block ?_
  refine m_loop (fun m Hs α => ∃ (i r : Nat) (s : St), Hs = SH p r s ∧ α 0 = .sl (c.map u8A) ∧ α 1 = u8i k ∧ α 5 = .ptr p [] 0 ∧ α 6 = iv .i64 (i : Int) ∧ i ≤ 20 ∧ m = 20 - i ∧ i ≤ c.length ∧ CI i s) 20 ⟨0, r, s0, rfl, rfl, rfl, rfl, rfl, by omega, rfl, by omega, hN0⟩ ?_
  clear hN0
  rintro m Hs α ⟨i, r, s, rfl, e0, e1, e5, e6, hi, rfl, hic, hN⟩
  have hw := hN.sv.well (by omega)
  have hv := hN.sv.vals
  have hlen := hN.len
  obtain ⟨σ, rfl⟩ : ∃ σ, α = ua (ua (ua (ua σ 0 (.sl (c.map u8A))) 1 (u8i k)) 5 (.ptr p [] 0)) 6 (iv .i64 (i : Int)) := ⟨α, by rw [ua_self α e0, ua_self α e1, ua_self α e5, ua_self α e6]⟩
  clear e0 e1 e5 e6
  refine m_seq ?_
  refine m_seq ?_
  refine m_region ?_
  refine ml_val (my_move (Sm.v _)) rfl rfl rfl ?_
  refine ml_val (my_move (Sm.sl _)) rfl rfl rfl ?_
  refine ml_val (MY.to (a' := iv .i64 (c.length : Int)) (my_lenS Try.underlying28 rfl) (by rw [List.length_map])) rfl rfl rfl ?_
  by_cases hlc : i < c.length
  · skip
    obtain ⟨x, hx⟩ : ∃ x, c[i]? = some x := ⟨c[i], List.getElem?_eq_getElem hlc⟩
    have hx8 := x.toNat_lt
    refine ml_val (MY.to (a' := tv true) (my_lss rfl rfl) (congrArg tv (decide_eq_true (by omega)))) rfl rfl rfl ?_
    refine ml_val (my_move (Sm.v _)) rfl rfl rfl ?_
    first | refine ml_skipG rfl rfl rfl rfl rfl rfl ?_ | refine ml_valG (my_move (Sm.v _)) rfl rfl rfl rfl rfl ?_
    first | refine ml_skipG rfl rfl rfl rfl rfl rfl ?_ | refine ml_valG (my_lss rfl rfl) rfl rfl rfl rfl rfl ?_
    refine ml_val (my_pickT rfl (Sm.v _)) rfl rfl rfl ?_
    refine ml_nil ?_
    refine z_seq ?_
    refine m_condp rfl (fun h20 => ?_) (fun h20 => ?_)
    · skip
      refine m_skip ?_
      refine z_seq ?_
      refine m_seq ?_
      refine m_block ?_
      refine m_regionT (fun i => List.contains [] i) [] (.val 0 (.val 1 (.val 2 (.val 3 (.val 4 (.val 6 (.val 7 (.val 8 (.val 9 (.two 5 (.done [(10, false), (11, false)]) 10 (.done [(5, false), (11, false)]))))))))))) mixed (by kernel_rfl) ?_
      refine mt_val rfl (my_move (Sm.ptr _ _ _)) rfl rfl rfl ?_
      refine mt_val rfl (my_move (Sm.sl _)) rfl rfl rfl ?_
      refine mt_val rfl (my_move (Sm.v _)) rfl rfl rfl ?_
      refine mt_val rfl (my_indexS Try.underlying28 I5 S5 rfl rfl (by omega) (u8_at (by simpa using hx)) rfl) rfl rfl rfl ?_
      refine mt_val rfl (my_loadF Try.underlying5 rfl rfl (fun h => absurd (show false = true from h) Bool.false_ne_true) rfl) rfl rfl rfl ?_
      refine mt_val rfl (my_move (Sm.sl _)) rfl rfl rfl ?_
      refine mt_val rfl (my_move (Sm.v _)) rfl rfl rfl ?_
      refine mt_val rfl (my_indexS Try.underlying28 I5 S5 rfl rfl (by omega) (u8_at (by simpa using hx)) rfl) rfl rfl rfl ?_
      refine mt_val rfl (my_loadF Try.underlying5 rfl rfl (fun h => absurd (show false = true from h) Bool.false_ne_true) rfl) rfl rfl rfl ?_
      refine mt_two rfl rfl rfl rfl rfl rfl (mo_call [] fn12 rfl rfl (Name_c x) rfl rfl (fun Hs' a hp => ?_)) (mo_frz 41 (mo_lit (W := []) (ls := (([x]) : List UInt8).map u8A) (xs := [_]) Try.underlying28 I5 Z5 S5 rfl rfl rfl rfl rfl rfl rfl (fun k1 => ⟨k1, _, rfl, rfl, ?_⟩)))
      · skip
        obtain ⟨rfl, rfl⟩ := hp
        refine mt_norm [0, 1] [⟨_, _⟩, ⟨_, _⟩] (by decide) rfl rfl (by first | exact fun _ _ => rfl | (intro i hi; simp at hi; done) | (intro i hi; simp at hi; rcases hi with rfl | rfl | rfl <;> rfl) | (intro i hi; simp at hi; rcases hi with rfl | rfl <;> rfl) | (intro i hi; simp at hi; subst hi; rfl)) ?_
        refine mt_done ?_
        refine mr_ow rfl rfl rfl (mo_frz 41 (mo_lit (W := []) (ls := (([x]) : List UInt8).map u8A) (xs := [_]) Try.underlying28 I5 Z5 S5 rfl rfl rfl rfl rfl rfl rfl (fun k1 => ⟨k1, _, rfl, rfl, ?_⟩)))
        refine mr_ow rfl rfl rfl (mo_call [0, 1] fn9 rfl rfl (Put_c p r s hw (nameOf x) [x] (by simp)) rfl rfl (fun Hs' a hp => ?_))
        obtain ⟨r1, s1, a1, b1, hc1, rfl, rfl⟩ := hp
        refine mr_norm [2, 3] [⟨_, _⟩, ⟨_, _⟩] (by decide) rfl (by first | exact fun _ _ => rfl | (intro i hi; simp at hi; done) | (intro i hi; simp at hi; rcases hi with rfl | rfl | rfl <;> rfl) | (intro i hi; simp at hi; rcases hi with rfl | rfl <;> rfl) | (intro i hi; simp at hi; subst hi; rfl)) ?_
        have hN1 := hN.step (nameOf_mem x) (by simp) hc1
        refine mr_nil ?_
        refine z_blk ?_
        refine z_seq ?_
        refine m_region ?_
        refine ml_val (my_move (Sm.v _)) rfl rfl rfl ?_
        refine ml_val (my_add64 rfl rfl (by omega)) rfl rfl rfl ?_
        refine ml_val (my_assign (Sm.v _)) rfl rfl rfl ?_
        refine ml_nil ?_
        exact z_lpN (20 - (i + 1)) (by omega) ⟨i + 1, r1, s1, rfl, rfl, rfl, rfl, rfl, by omega, rfl, by omega, hN1⟩
      · skip
        refine mt_done ?_
        refine mr_ow rfl rfl rfl (mo_call [] fn12 rfl rfl (Name_c x) rfl rfl (fun Hs' a hp => ?_))
        obtain ⟨rfl, rfl⟩ := hp
        refine mr_norm [0, 1] [⟨_, _⟩, ⟨_, _⟩] (by decide) rfl (by first | exact fun _ _ => rfl | (intro i hi; simp at hi; done) | (intro i hi; simp at hi; rcases hi with rfl | rfl | rfl <;> rfl) | (intro i hi; simp at hi; rcases hi with rfl | rfl <;> rfl) | (intro i hi; simp at hi; subst hi; rfl)) ?_
        refine mr_ow rfl rfl rfl (mo_call [0, 1] fn9 rfl rfl (Put_c p r s hw (nameOf x) [x] (by simp)) rfl rfl (fun Hs' a hp => ?_))
        obtain ⟨r1, s1, a1, b1, hc1, rfl, rfl⟩ := hp
        refine mr_norm [2, 3] [⟨_, _⟩, ⟨_, _⟩] (by decide) rfl (by first | exact fun _ _ => rfl | (intro i hi; simp at hi; done) | (intro i hi; simp at hi; rcases hi with rfl | rfl | rfl <;> rfl) | (intro i hi; simp at hi; rcases hi with rfl | rfl <;> rfl) | (intro i hi; simp at hi; subst hi; rfl)) ?_
        have hN1 := hN.step (nameOf_mem x) (by simp) hc1
        refine mr_nil ?_
        refine z_blk ?_
        refine z_seq ?_
        refine m_region ?_
        refine ml_val (my_move (Sm.v _)) rfl rfl rfl ?_
        refine ml_val (my_add64 rfl rfl (by omega)) rfl rfl rfl ?_
        refine ml_val (my_assign (Sm.v _)) rfl rfl rfl ?_
        refine ml_nil ?_
        exact z_lpN (20 - (i + 1)) (by omega) ⟨i + 1, r1, s1, rfl, rfl, rfl, rfl, rfl, by omega, rfl, by omega, hN1⟩
    · skip
      clear hx hx8
      have him : i = min c.length 20 := by omega
      refine m_exit ?_
      refine z_seqX ?_
      refine z_lpX ?_
      refine z_blkX ?_
      refine z_seq ?_
      refine m_seq ?_
      refine m_region ?_
      refine ml_val (my_move (Sm.ptr _ _ _)) rfl rfl rfl ?_
      refine ml_ow rfl (mo_call [0, 1] fn24 rfl rfl (Copy_c p r s hw hv) rfl rfl (fun Hs' a hp => ?_))
      obtain ⟨p2, r2, rfl, rfl⟩ := hp
      refine ml_norm [2, 3, 4, 5] [⟨_, _⟩, ⟨_, _⟩, ⟨_, _⟩, ⟨_, _⟩] (by decide) rfl ?_
      refine ml_val (my_assign (Sm.ptr _ _ _)) rfl rfl rfl ?_
      refine ml_nil ?_
      refine z_seq ?_
      refine m_seq ?_
      refine m_seq ?_
      refine m_region ?_
      refine ml_val (my_move (Sm.ptr _ _ _)) rfl rfl rfl ?_
      refine ml_val (my_eqlPtr Try.underlying22 rfl) rfl rfl rfl ?_
      refine ml_nil ?_
      refine z_seq ?_
      refine m_condF rfl ?_
      refine m_skip ?_
      refine z_seq ?_
      refine m_seq ?_
      refine m_region ?_
      refine ml_val (my_move (Sm.ptr _ _ _)) rfl rfl rfl ?_
      refine ml_ow rfl (mo_call [0, 1] fn16 rfl rfl (ScanA_c p r s hw hv) rfl rfl (fun Hs' a hp => ?_))
      obtain ⟨q, rfl, rfl⟩ := hp
      refine ml_norm [4, 5, 2, 3, 6] [⟨_, _⟩, ⟨_, _⟩, ⟨_, _⟩, ⟨_, _⟩, ⟨_, _⟩] (by decide) rfl ?_
      refine ml_pre (sh_frz 48 (q := 4) rfl rfl) ?_
      refine ml_norm [0, 1, 2, 3] [⟨_, _⟩, ⟨_, _⟩, ⟨_, _⟩, ⟨_, _⟩] (by decide) rfl ?_
      refine ml_val (my_assign (Sm.sl _)) rfl rfl rfl ?_
      refine ml_nil ?_
      refine z_seq ?_
      refine m_seq ?_
      refine m_region ?_
      refine ml_val (my_move (Sm.ptr _ _ _)) rfl rfl rfl ?_
      refine ml_ow rfl (mo_call [2, 3] fn16 rfl rfl (ScanA_c p2 r2 s hw hv) rfl rfl (fun Hs' a hp => ?_))
      obtain ⟨q, rfl, rfl⟩ := hp
      refine ml_norm [0, 1, 4, 5, 6] [⟨_, _⟩, ⟨_, _⟩, ⟨_, _⟩, ⟨_, _⟩, ⟨_, _⟩] (by decide) rfl ?_
      refine ml_pre (sh_frz 50 (q := 4) rfl rfl) ?_
      refine ml_norm [0, 1, 2, 3] [⟨_, _⟩, ⟨_, _⟩, ⟨_, _⟩, ⟨_, _⟩] (by decide) rfl ?_
      refine ml_val (my_move (Sm.sl _)) rfl rfl rfl ?_
      refine ml_ow rfl (mo_call [] fn17 rfl rfl (Same1_c s.recs (by omega)) rfl rfl (fun Hs' a hp => ?_))
      obtain ⟨rfl, rfl⟩ := hp
      refine ml_norm [0, 1, 2, 3] [⟨_, _⟩, ⟨_, _⟩, ⟨_, _⟩, ⟨_, _⟩] (by decide) rfl ?_
      refine ml_val (my_assign (Sm.v _)) rfl rfl rfl ?_
      refine ml_nil ?_
      refine z_seq ?_
      refine m_seq ?_
      refine m_region ?_
      refine ml_val (my_move (Sm.ptr _ _ _)) rfl rfl rfl ?_
      refine ml_ow rfl (mo_lit (W := []) (ls := ([120] : List UInt8).map u8A) (xs := [_]) Try.underlying28 I5 Z5 S5 rfl rfl rfl rfl rfl rfl rfl (fun k2 => ?_))
      refine ml_ow rfl (mo_convB (W := [4]) Try.underlying28 Try.underlying5 rfl (q := 4) rfl (by simp) rfl rfl ?_)
      refine ml_norm [0, 1, 2, 3] [⟨_, _⟩, ⟨_, _⟩, ⟨_, _⟩, ⟨_, _⟩] (by decide) rfl ?_
      refine ml_ow rfl (mo_call [2, 3] fn9 rfl rfl (Put_c p2 r2 s hw kN [120] (by simp)) rfl rfl (fun Hs' a hp => ?_))
      obtain ⟨r3, s3, a1, b1, hc1, rfl, rfl⟩ := hp
      refine ml_norm [0, 1, 4, 5] [⟨_, _⟩, ⟨_, _⟩, ⟨_, _⟩, ⟨_, _⟩] (by decide) rfl ?_
      obtain ⟨rfl, hS3, hv3⟩ := hN.new (by simp) hc1
      refine ml_val (my_move (Sm.tup _)) rfl rfl rfl ?_
      refine ml_val (my_extract rfl rfl) rfl rfl rfl ?_
      refine ml_val (my_extract rfl rfl) rfl rfl rfl ?_
      refine ml_val (my_assign (Sm.v _)) rfl rfl rfl ?_
      refine ml_val (my_assign (Sm.v _)) rfl rfl rfl ?_
      refine ml_nil ?_
      refine z_seq ?_
      refine m_seq ?_
      refine m_region ?_
      refine ml_val (my_move (Sm.ptr _ _ _)) rfl rfl rfl ?_
      refine ml_ow rfl (mo_lit (W := []) (ls := ([121] : List UInt8).map u8A) (xs := [_]) Try.underlying28 I5 Z5 S5 rfl rfl rfl rfl rfl rfl rfl (fun k3 => ?_))
      refine ml_ow rfl (mo_convB (W := [4]) Try.underlying28 Try.underlying5 rfl (q := 4) rfl (by simp) rfl rfl ?_)
      refine ml_norm [0, 1, 2, 3] [⟨_, _⟩, ⟨_, _⟩, ⟨_, _⟩, ⟨_, _⟩] (by decide) rfl ?_
      refine ml_ow rfl (mo_call [0, 1] fn9 rfl rfl (Put_c p r s hw kN [121] (by simp)) rfl rfl (fun Hs' a hp => ?_))
      obtain ⟨r4, s4, a2, b2, hc2, rfl, rfl⟩ := hp
      refine ml_norm [4, 2, 3, 5] [⟨_, _⟩, ⟨_, _⟩, ⟨_, _⟩, ⟨_, _⟩] (by decide) rfl ?_
      obtain ⟨rfl, hS4, hv4⟩ := hN.new (by simp) hc2
      refine ml_val (my_move (Sm.tup _)) rfl rfl rfl ?_
      refine ml_val (my_extract rfl rfl) rfl rfl rfl ?_
      refine ml_val (my_extract rfl rfl) rfl rfl rfl ?_
      refine ml_val (my_assign (Sm.v _)) rfl rfl rfl ?_
      refine ml_val (my_assign (Sm.v _)) rfl rfl rfl ?_
      refine ml_nil ?_
      refine z_seq ?_
      refine m_seq ?_
      refine m_region ?_
      refine ml_val (my_move (Sm.ptr _ _ _)) rfl rfl rfl ?_
      refine ml_val (my_move (Sm.v _)) rfl rfl rfl ?_
      refine ml_ow rfl (mo_call [] fn12 rfl rfl (Name_c k) rfl rfl (fun Hs' a hp => ?_))
      obtain ⟨rfl, rfl⟩ := hp
      refine ml_norm [0, 1, 2, 3] [⟨_, _⟩, ⟨_, _⟩, ⟨_, _⟩, ⟨_, _⟩] (by decide) rfl ?_
      refine ml_ow rfl (mo_call [1, 2] fn15 rfl rfl (Del_c p2 r3 s3 (hS3.well (by omega)) (nameOf k) 0) rfl rfl (fun Hs' a hp => ?_))
      obtain ⟨r5, s5, d5, hd5, rfl, rfl⟩ := hp
      refine ml_norm [0, 4, 3, 5] [⟨_, _⟩, ⟨_, _⟩, ⟨_, _⟩, ⟨_, _⟩] (by decide) rfl ?_
      obtain rfl := del0 hS3 hd5
      refine ml_nil ?_
      refine z_seq ?_
      refine m_seq ?_
      refine m_region ?_
      refine ml_val (my_move (Sm.ptr _ _ _)) rfl rfl rfl ?_
      refine ml_ow rfl (mo_call [0, 2] fn13 rfl rfl (Get_c p r4 s4 (hS4.well (by omega)) kN hS4.vals) rfl rfl (fun Hs' a hp => ?_))
      obtain ⟨rfl, rfl⟩ := hp
      refine ml_norm [4, 1, 5, 3] [⟨_, _⟩, ⟨_, _⟩, ⟨_, _⟩, ⟨_, _⟩] (by decide) rfl ?_
      refine ml_val (my_move (Sm.tup _)) rfl rfl rfl ?_
      refine ml_val (my_extract rfl rfl) rfl rfl rfl ?_
      refine ml_val (my_extract rfl rfl) rfl rfl rfl ?_
      refine ml_val (my_assign (Sm.sl _)) rfl rfl rfl ?_
      refine ml_val (my_assign (Sm.v _)) rfl rfl rfl ?_
      refine ml_nil ?_
      refine z_seq ?_
      refine m_seq ?_
      refine m_region ?_
      refine ml_val (my_move (Sm.ptr _ _ _)) rfl rfl rfl ?_
      refine ml_ow rfl (mo_call [1, 3] fn13 rfl rfl (Get_c p2 r5 s5 (hS3.well (by omega)) kN hS3.vals) rfl rfl (fun Hs' a hp => ?_))
      obtain ⟨rfl, rfl⟩ := hp
      refine ml_norm [0, 4, 2, 5] [⟨_, _⟩, ⟨_, _⟩, ⟨_, _⟩, ⟨_, _⟩] (by decide) rfl ?_
      refine ml_val (my_move (Sm.tup _)) rfl rfl rfl ?_
      refine ml_val (my_extract rfl rfl) rfl rfl rfl ?_
      refine ml_val (my_extract rfl rfl) rfl rfl rfl ?_
      refine ml_val (my_assign (Sm.sl _)) rfl rfl rfl ?_
      refine ml_val (my_assign (Sm.v _)) rfl rfl rfl ?_
      refine ml_nil ?_
      refine z_seq ?_
      refine m_seq ?_
      refine m_region ?_
      refine ml_ow rfl (mo_call [] fn10 rfl rfl (known_c) rfl rfl (fun Hs' a hp => ?_))
      obtain ⟨rfl, rfl⟩ := hp
      refine ml_norm [0, 1, 2, 3] [⟨_, _⟩, ⟨_, _⟩, ⟨_, _⟩, ⟨_, _⟩] (by decide) rfl ?_
      refine ml_val (my_move (Sm.v _)) rfl rfl rfl ?_
      first | refine ml_skipG rfl rfl rfl rfl rfl rfl ?_ | refine ml_valG (my_move (Sm.v _)) rfl rfl rfl rfl rfl ?_
      refine ml_val (my_pickT rfl (Sm.v _)) rfl rfl rfl ?_
      refine ml_val (my_move (Sm.v _)) rfl rfl rfl ?_
      first | refine ml_skipG rfl rfl rfl rfl rfl rfl ?_ | refine ml_valG (my_move (Sm.v _)) rfl rfl rfl rfl rfl ?_
      first | refine ml_skipG rfl rfl rfl rfl rfl rfl ?_ | refine ml_valG (my_move (Sm.v _)) rfl rfl rfl rfl rfl ?_
      refine ml_valG (MY.to (a' := tv true) (my_eql rfl rfl) (congrArg tv (decide_eq_true rfl))) rfl rfl rfl rfl rfl ?_
      refine ml_val (my_pickT rfl (Sm.v _)) rfl rfl rfl ?_
      refine ml_val (my_move (Sm.v _)) rfl rfl rfl ?_
      first | refine ml_skipG rfl rfl rfl rfl rfl rfl ?_ | refine ml_valG (my_move (Sm.sl _)) rfl rfl rfl rfl rfl ?_
      refine ml_valG (my_b2s (l := valR s4.recs kN) Try.underlying28 Try.underlying5 Try.underlying9 rfl) rfl rfl rfl rfl rfl ?_
      refine ml_valG (MY.to (a' := tv true) (my_seql rfl rfl) (congrArg tv (decide_eq_true (by rw [hv4])))) rfl rfl rfl rfl rfl ?_
      refine ml_val (my_pickT rfl (Sm.v _)) rfl rfl rfl ?_
      refine ml_val (my_move (Sm.v _)) rfl rfl rfl ?_
      first | refine ml_skipG rfl rfl rfl rfl rfl rfl ?_ | refine ml_valG (my_move (Sm.sl _)) rfl rfl rfl rfl rfl ?_
      refine ml_valG (my_b2s (l := valR s5.recs kN) Try.underlying28 Try.underlying5 Try.underlying9 rfl) rfl rfl rfl rfl rfl ?_
      refine ml_valG (MY.to (a' := tv true) (my_seql rfl rfl) (congrArg tv (decide_eq_true (by rw [hv3])))) rfl rfl rfl rfl rfl ?_
      refine ml_val (my_pickT rfl (Sm.v _)) rfl rfl rfl ?_
      refine ml_val (my_move (Sm.v _)) rfl rfl rfl ?_
      first | refine ml_skipG rfl rfl rfl rfl rfl rfl ?_ | refine ml_valG (my_move (Sm.v _)) rfl rfl rfl rfl rfl ?_
      first | refine ml_skipG rfl rfl rfl rfl rfl rfl ?_ | refine ml_valG (my_move (Sm.sl _)) rfl rfl rfl rfl rfl ?_
      refine ml_valG (MY.to (a' := iv .i64 (c.length : Int)) (my_lenS Try.underlying28 rfl) (by rw [List.length_map])) rfl rfl rfl rfl rfl ?_
      refine ml_valG (MY.to (a' := iv .i64 ((min c.length 20 : Nat) : Int)) (my_min rfl rfl) (congrArg (iv .i64) (by omega))) rfl rfl rfl rfl rfl ?_
      refine ml_valG (my_add64 rfl rfl (by omega)) rfl rfl rfl rfl rfl ?_
      refine ml_valG (MY.to (a' := tv true) (my_eql rfl rfl) (congrArg tv (decide_eq_true (by rw [him])))) rfl rfl rfl rfl rfl ?_
      refine ml_val (my_pickT rfl (Sm.v _)) rfl rfl rfl ?_
      refine ml_val (my_assign (Sm.v _)) rfl rfl rfl ?_
      refine ml_nil ?_
      refine z_seq ?_
      refine m_ret ?_
      exact ⟨tv true, mres1 rfl rfl, rfl⟩
  · skip
    refine ml_val (MY.to (a' := tv false) (my_lss rfl rfl) (congrArg tv (decide_eq_false (by omega)))) rfl rfl rfl ?_
    refine ml_val (my_move (Sm.v _)) rfl rfl rfl ?_
    refine ml_skipG rfl rfl rfl rfl rfl rfl ?_
    refine ml_skipG rfl rfl rfl rfl rfl rfl ?_
    refine ml_val (my_pickF rfl (Sm.v _)) rfl rfl rfl ?_
    refine ml_nil ?_
    refine z_seq ?_
    refine m_condF rfl ?_
    refine m_exit ?_
    refine z_seqX ?_
    refine z_lpX ?_
    refine z_blkX ?_
    refine z_seq ?_
    refine m_seq ?_
    have him : i = min c.length 20 := by omega
    refine m_region ?_
    refine ml_val (my_move (Sm.ptr _ _ _)) rfl rfl rfl ?_
    refine ml_ow rfl (mo_call [0, 1] fn24 rfl rfl (Copy_c p r s hw hv) rfl rfl (fun Hs' a hp => ?_))
    obtain ⟨p2, r2, rfl, rfl⟩ := hp
    refine ml_norm [2, 3, 4, 5] [⟨_, _⟩, ⟨_, _⟩, ⟨_, _⟩, ⟨_, _⟩] (by decide) rfl ?_
    refine ml_val (my_assign (Sm.ptr _ _ _)) rfl rfl rfl ?_
    refine ml_nil ?_
    refine z_seq ?_
    refine m_seq ?_
    refine m_seq ?_
    refine m_region ?_
    refine ml_val (my_move (Sm.ptr _ _ _)) rfl rfl rfl ?_
    refine ml_val (my_eqlPtr Try.underlying22 rfl) rfl rfl rfl ?_
    refine ml_nil ?_
    refine z_seq ?_
    refine m_condF rfl ?_
    refine m_skip ?_
    refine z_seq ?_
    refine m_seq ?_
    refine m_region ?_
    refine ml_val (my_move (Sm.ptr _ _ _)) rfl rfl rfl ?_
    refine ml_ow rfl (mo_call [0, 1] fn16 rfl rfl (ScanA_c p r s hw hv) rfl rfl (fun Hs' a hp => ?_))
    obtain ⟨q, rfl, rfl⟩ := hp
    refine ml_norm [4, 5, 2, 3, 6] [⟨_, _⟩, ⟨_, _⟩, ⟨_, _⟩, ⟨_, _⟩, ⟨_, _⟩] (by decide) rfl ?_
    refine ml_pre (sh_frz 48 (q := 4) rfl rfl) ?_
    refine ml_norm [0, 1, 2, 3] [⟨_, _⟩, ⟨_, _⟩, ⟨_, _⟩, ⟨_, _⟩] (by decide) rfl ?_
    refine ml_val (my_assign (Sm.sl _)) rfl rfl rfl ?_
    refine ml_nil ?_
    refine z_seq ?_
    refine m_seq ?_
    refine m_region ?_
    refine ml_val (my_move (Sm.ptr _ _ _)) rfl rfl rfl ?_
    refine ml_ow rfl (mo_call [2, 3] fn16 rfl rfl (ScanA_c p2 r2 s hw hv) rfl rfl (fun Hs' a hp => ?_))
    obtain ⟨q, rfl, rfl⟩ := hp
    refine ml_norm [0, 1, 4, 5, 6] [⟨_, _⟩, ⟨_, _⟩, ⟨_, _⟩, ⟨_, _⟩, ⟨_, _⟩] (by decide) rfl ?_
    refine ml_pre (sh_frz 50 (q := 4) rfl rfl) ?_
    refine ml_norm [0, 1, 2, 3] [⟨_, _⟩, ⟨_, _⟩, ⟨_, _⟩, ⟨_, _⟩] (by decide) rfl ?_
    refine ml_val (my_move (Sm.sl _)) rfl rfl rfl ?_
    refine ml_ow rfl (mo_call [] fn17 rfl rfl (Same1_c s.recs (by omega)) rfl rfl (fun Hs' a hp => ?_))
    obtain ⟨rfl, rfl⟩ := hp
    refine ml_norm [0, 1, 2, 3] [⟨_, _⟩, ⟨_, _⟩, ⟨_, _⟩, ⟨_, _⟩] (by decide) rfl ?_
    refine ml_val (my_assign (Sm.v _)) rfl rfl rfl ?_
    refine ml_nil ?_
    refine z_seq ?_
    refine m_seq ?_
    refine m_region ?_
    refine ml_val (my_move (Sm.ptr _ _ _)) rfl rfl rfl ?_
    refine ml_ow rfl (mo_lit (W := []) (ls := ([120] : List UInt8).map u8A) (xs := [_]) Try.underlying28 I5 Z5 S5 rfl rfl rfl rfl rfl rfl rfl (fun k4 => ?_))
    refine ml_ow rfl (mo_convB (W := [4]) Try.underlying28 Try.underlying5 rfl (q := 4) rfl (by simp) rfl rfl ?_)
    refine ml_norm [0, 1, 2, 3] [⟨_, _⟩, ⟨_, _⟩, ⟨_, _⟩, ⟨_, _⟩] (by decide) rfl ?_
    refine ml_ow rfl (mo_call [2, 3] fn9 rfl rfl (Put_c p2 r2 s hw kN [120] (by simp)) rfl rfl (fun Hs' a hp => ?_))
    obtain ⟨r3, s3, a1, b1, hc1, rfl, rfl⟩ := hp
    refine ml_norm [0, 1, 4, 5] [⟨_, _⟩, ⟨_, _⟩, ⟨_, _⟩, ⟨_, _⟩] (by decide) rfl ?_
    obtain ⟨rfl, hS3, hv3⟩ := hN.new (by simp) hc1
    refine ml_val (my_move (Sm.tup _)) rfl rfl rfl ?_
    refine ml_val (my_extract rfl rfl) rfl rfl rfl ?_
    refine ml_val (my_extract rfl rfl) rfl rfl rfl ?_
    refine ml_val (my_assign (Sm.v _)) rfl rfl rfl ?_
    refine ml_val (my_assign (Sm.v _)) rfl rfl rfl ?_
    refine ml_nil ?_
    refine z_seq ?_
    refine m_seq ?_
    refine m_region ?_
    refine ml_val (my_move (Sm.ptr _ _ _)) rfl rfl rfl ?_
    refine ml_ow rfl (mo_lit (W := []) (ls := ([121] : List UInt8).map u8A) (xs := [_]) Try.underlying28 I5 Z5 S5 rfl rfl rfl rfl rfl rfl rfl (fun k5 => ?_))
    refine ml_ow rfl (mo_convB (W := [4]) Try.underlying28 Try.underlying5 rfl (q := 4) rfl (by simp) rfl rfl ?_)
    refine ml_norm [0, 1, 2, 3] [⟨_, _⟩, ⟨_, _⟩, ⟨_, _⟩, ⟨_, _⟩] (by decide) rfl ?_
    refine ml_ow rfl (mo_call [0, 1] fn9 rfl rfl (Put_c p r s hw kN [121] (by simp)) rfl rfl (fun Hs' a hp => ?_))
    obtain ⟨r4, s4, a2, b2, hc2, rfl, rfl⟩ := hp
    refine ml_norm [4, 2, 3, 5] [⟨_, _⟩, ⟨_, _⟩, ⟨_, _⟩, ⟨_, _⟩] (by decide) rfl ?_
    obtain ⟨rfl, hS4, hv4⟩ := hN.new (by simp) hc2
    refine ml_val (my_move (Sm.tup _)) rfl rfl rfl ?_
    refine ml_val (my_extract rfl rfl) rfl rfl rfl ?_
    refine ml_val (my_extract rfl rfl) rfl rfl rfl ?_
    refine ml_val (my_assign (Sm.v _)) rfl rfl rfl ?_
    refine ml_val (my_assign (Sm.v _)) rfl rfl rfl ?_
    refine ml_nil ?_
    refine z_seq ?_
    refine m_seq ?_
    refine m_region ?_
    refine ml_val (my_move (Sm.ptr _ _ _)) rfl rfl rfl ?_
    refine ml_val (my_move (Sm.v _)) rfl rfl rfl ?_
    refine ml_ow rfl (mo_call [] fn12 rfl rfl (Name_c k) rfl rfl (fun Hs' a hp => ?_))
    obtain ⟨rfl, rfl⟩ := hp
    refine ml_norm [0, 1, 2, 3] [⟨_, _⟩, ⟨_, _⟩, ⟨_, _⟩, ⟨_, _⟩] (by decide) rfl ?_
    refine ml_ow rfl (mo_call [1, 2] fn15 rfl rfl (Del_c p2 r3 s3 (hS3.well (by omega)) (nameOf k) 0) rfl rfl (fun Hs' a hp => ?_))
    obtain ⟨r5, s5, d5, hd5, rfl, rfl⟩ := hp
    refine ml_norm [0, 4, 3, 5] [⟨_, _⟩, ⟨_, _⟩, ⟨_, _⟩, ⟨_, _⟩] (by decide) rfl ?_
    obtain rfl := del0 hS3 hd5
    refine ml_nil ?_
    refine z_seq ?_
    refine m_seq ?_
    refine m_region ?_
    refine ml_val (my_move (Sm.ptr _ _ _)) rfl rfl rfl ?_
    refine ml_ow rfl (mo_call [0, 2] fn13 rfl rfl (Get_c p r4 s4 (hS4.well (by omega)) kN hS4.vals) rfl rfl (fun Hs' a hp => ?_))
    obtain ⟨rfl, rfl⟩ := hp
    refine ml_norm [4, 1, 5, 3] [⟨_, _⟩, ⟨_, _⟩, ⟨_, _⟩, ⟨_, _⟩] (by decide) rfl ?_
    refine ml_val (my_move (Sm.tup _)) rfl rfl rfl ?_
    refine ml_val (my_extract rfl rfl) rfl rfl rfl ?_
    refine ml_val (my_extract rfl rfl) rfl rfl rfl ?_
    refine ml_val (my_assign (Sm.sl _)) rfl rfl rfl ?_
    refine ml_val (my_assign (Sm.v _)) rfl rfl rfl ?_
    refine ml_nil ?_
    refine z_seq ?_
    refine m_seq ?_
    refine m_region ?_
    refine ml_val (my_move (Sm.ptr _ _ _)) rfl rfl rfl ?_
    refine ml_ow rfl (mo_call [1, 3] fn13 rfl rfl (Get_c p2 r5 s5 (hS3.well (by omega)) kN hS3.vals) rfl rfl (fun Hs' a hp => ?_))
    obtain ⟨rfl, rfl⟩ := hp
    refine ml_norm [0, 4, 2, 5] [⟨_, _⟩, ⟨_, _⟩, ⟨_, _⟩, ⟨_, _⟩] (by decide) rfl ?_
    refine ml_val (my_move (Sm.tup _)) rfl rfl rfl ?_
    refine ml_val (my_extract rfl rfl) rfl rfl rfl ?_
    refine ml_val (my_extract rfl rfl) rfl rfl rfl ?_
    refine ml_val (my_assign (Sm.sl _)) rfl rfl rfl ?_
    refine ml_val (my_assign (Sm.v _)) rfl rfl rfl ?_
    refine ml_nil ?_
    refine z_seq ?_
    refine m_seq ?_
    refine m_region ?_
    refine ml_ow rfl (mo_call [] fn10 rfl rfl (known_c) rfl rfl (fun Hs' a hp => ?_))
    obtain ⟨rfl, rfl⟩ := hp
    refine ml_norm [0, 1, 2, 3] [⟨_, _⟩, ⟨_, _⟩, ⟨_, _⟩, ⟨_, _⟩] (by decide) rfl ?_
    refine ml_val (my_move (Sm.v _)) rfl rfl rfl ?_
    first | refine ml_skipG rfl rfl rfl rfl rfl rfl ?_ | refine ml_valG (my_move (Sm.v _)) rfl rfl rfl rfl rfl ?_
    refine ml_val (my_pickT rfl (Sm.v _)) rfl rfl rfl ?_
    refine ml_val (my_move (Sm.v _)) rfl rfl rfl ?_
    first | refine ml_skipG rfl rfl rfl rfl rfl rfl ?_ | refine ml_valG (my_move (Sm.v _)) rfl rfl rfl rfl rfl ?_
    first | refine ml_skipG rfl rfl rfl rfl rfl rfl ?_ | refine ml_valG (my_move (Sm.v _)) rfl rfl rfl rfl rfl ?_
    refine ml_valG (MY.to (a' := tv true) (my_eql rfl rfl) (congrArg tv (decide_eq_true rfl))) rfl rfl rfl rfl rfl ?_
    refine ml_val (my_pickT rfl (Sm.v _)) rfl rfl rfl ?_
    refine ml_val (my_move (Sm.v _)) rfl rfl rfl ?_
    first | refine ml_skipG rfl rfl rfl rfl rfl rfl ?_ | refine ml_valG (my_move (Sm.sl _)) rfl rfl rfl rfl rfl ?_
    refine ml_valG (my_b2s (l := valR s4.recs kN) Try.underlying28 Try.underlying5 Try.underlying9 rfl) rfl rfl rfl rfl rfl ?_
    refine ml_valG (MY.to (a' := tv true) (my_seql rfl rfl) (congrArg tv (decide_eq_true (by rw [hv4])))) rfl rfl rfl rfl rfl ?_
    refine ml_val (my_pickT rfl (Sm.v _)) rfl rfl rfl ?_
    refine ml_val (my_move (Sm.v _)) rfl rfl rfl ?_
    first | refine ml_skipG rfl rfl rfl rfl rfl rfl ?_ | refine ml_valG (my_move (Sm.sl _)) rfl rfl rfl rfl rfl ?_
    refine ml_valG (my_b2s (l := valR s5.recs kN) Try.underlying28 Try.underlying5 Try.underlying9 rfl) rfl rfl rfl rfl rfl ?_
    refine ml_valG (MY.to (a' := tv true) (my_seql rfl rfl) (congrArg tv (decide_eq_true (by rw [hv3])))) rfl rfl rfl rfl rfl ?_
    refine ml_val (my_pickT rfl (Sm.v _)) rfl rfl rfl ?_
    refine ml_val (my_move (Sm.v _)) rfl rfl rfl ?_
    first | refine ml_skipG rfl rfl rfl rfl rfl rfl ?_ | refine ml_valG (my_move (Sm.v _)) rfl rfl rfl rfl rfl ?_
    first | refine ml_skipG rfl rfl rfl rfl rfl rfl ?_ | refine ml_valG (my_move (Sm.sl _)) rfl rfl rfl rfl rfl ?_
    refine ml_valG (MY.to (a' := iv .i64 (c.length : Int)) (my_lenS Try.underlying28 rfl) (by rw [List.length_map])) rfl rfl rfl rfl rfl ?_
    refine ml_valG (MY.to (a' := iv .i64 ((min c.length 20 : Nat) : Int)) (my_min rfl rfl) (congrArg (iv .i64) (by omega))) rfl rfl rfl rfl rfl ?_
    refine ml_valG (my_add64 rfl rfl (by omega)) rfl rfl rfl rfl rfl ?_
    refine ml_valG (MY.to (a' := tv true) (my_eql rfl rfl) (congrArg tv (decide_eq_true (by rw [him])))) rfl rfl rfl rfl rfl ?_
    refine ml_val (my_pickT rfl (Sm.v _)) rfl rfl rfl ?_
    refine ml_val (my_assign (Sm.v _)) rfl rfl rfl ?_
    refine ml_nil ?_
    refine z_seq ?_
    refine m_ret ?_
    exact ⟨tv true, mres1 rfl rfl, rfl⟩

end Go.Proofs.Ytlklapledogdcaa.K
