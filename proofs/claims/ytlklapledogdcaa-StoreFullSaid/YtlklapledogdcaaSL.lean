/- A store that is filled up, as the law says. No condition. -/
import Derived.Test.YtlklapledogdcaaSG
namespace Go.Proofs.Ytlklapledogdcaa.K
open Go

set_option maxRecDepth 100000 in
set_option maxHeartbeats 1000000 in
theorem StoreFull_m (a b : UInt8) : MF Try.prog 3 [u8i a, u8i b] [] (fun _ res => res = tv true) := by
  refine m_enter Try.func3 rfl Try.ntmps3 rfl ?_
  obtain ⟨q, hq⟩ : ∃ q, q = a.toNat % 6 := ⟨_, rfl⟩
  have hq5 : q ≤ 5 := by omega
  refine m_seq ?_
  refine m_region ?_
  refine ml_val (my_assign (Sm.v _)) rfl rfl rfl ?_
  refine ml_nil ?_
  refine z_seq ?_
  refine m_seq ?_
  refine m_region ?_
  refine ml_val (my_move (Sm.v _)) rfl rfl rfl ?_
  refine ml_val (MY.to (a' := iv .u8 (q : Int)) (my_rem rfl rfl (by decide)) (congrArg (iv .u8) ((rem6 a).trans (by rw [hq])))) rfl rfl rfl ?_
  refine ml_val (MY.to (a' := iv .i64 (q : Int)) (my_conv ⟨_, Try.underlying5⟩ Try.underlying3 rfl) (congrArg (iv .i64) (wrapNat (by omega)))) rfl rfl rfl ?_
  refine ml_val (my_assign (Sm.v _)) rfl rfl rfl ?_
  refine ml_nil ?_
  refine z_seq ?_
  refine m_seq ?_
  refine m_region ?_
  refine ml_val (my_move (Sm.v _)) rfl rfl rfl ?_
  refine ml_ow rfl (mo_call [] fn8 rfl rfl (New_e (q : Int)) rfl rfl (fun Hs' a hp => ?_))
  obtain ⟨p, r, s0, hs0, rfl, rfl⟩ := hp
  refine ml_norm [0, 1] [⟨_, _⟩, ⟨_, _⟩] (by decide) rfl ?_
  have hF0 : FI q 0 s0 := by rw [hs0]; exact FI.zero q
  clear hs0
  refine ml_val (my_assign (Sm.ptr _ _ _)) rfl rfl rfl ?_
  refine ml_nil ?_
  refine z_seq ?_
  refine m_seq ?_
  refine m_seq ?_
  refine m_region ?_
  refine ml_val (my_move (Sm.ptr _ _ _)) rfl rfl rfl ?_
  refine ml_val (my_eqlPtr Try.underlying22 rfl) rfl rfl rfl ?_
  refine ml_nil ?_
  refine z_seq ?_
  refine m_condF rfl ?_
  refine m_skip ?_
  refine z_seq ?_
  refine m_seq ?_
  refine m_seq ?_
  refine m_region ?_
  refine ml_val (my_assign (Sm.v _)) rfl rfl rfl ?_
  refine ml_nil ?_
  refine z_seq ?_
  refine m_block ?_
  refine m_loop (fun m Hs α => ∃ (i r : Nat) (s : St), Hs = SH p r s ∧ α 1 = u8i b ∧ α 5 = iv .i64 (q : Int) ∧ α 6 = .ptr p [] 0 ∧ α 7 = iv .i64 (i : Int) ∧ i ≤ 9 ∧ m = 9 - i ∧ FI q i s) 9 ⟨0, r, s0, rfl, rfl, rfl, rfl, rfl, by omega, rfl, hF0⟩ ?_
  clear hF0
  rintro m Hs α ⟨i, r, s, rfl, e1, e5, e6, e7, hi, rfl, hF⟩
  obtain ⟨σ, rfl⟩ : ∃ σ, α = ua (ua (ua (ua σ 1 (u8i b)) 5 (iv .i64 (q : Int))) 6 (.ptr p [] 0)) 7 (iv .i64 (i : Int)) := ⟨α, by rw [ua_self α e1, ua_self α e5, ua_self α e6, ua_self α e7]⟩
  clear e1 e5 e6 e7
  refine m_seq ?_
  refine m_seq ?_
  refine m_region ?_
  refine ml_val (my_move (Sm.v _)) rfl rfl rfl ?_
  refine ml_val (my_lss rfl rfl) rfl rfl rfl ?_
  refine ml_nil ?_
  refine z_seq ?_
  refine m_condp rfl (fun hlt => ?_) (fun hlt => ?_)
  · skip
    refine m_skip ?_
    refine z_seq ?_
    refine m_seq ?_
    refine m_block ?_
    refine m_seq ?_
    refine m_region ?_
    refine ml_val (my_move (Sm.ptr _ _ _)) rfl rfl rfl ?_
    refine ml_val (my_move (Sm.v _)) rfl rfl rfl ?_
    refine ml_val (my_conv ⟨_, Try.underlying3⟩ Try.underlying5 rfl) rfl rfl rfl ?_
    refine ml_val (MY.to (a' := u8A (UInt8.ofNat (97 + i))) (my_add rfl rfl) (congrArg (iv .u8) (addByte (by omega)))) rfl rfl rfl ?_
    refine ml_ow rfl (mo_lit (W := []) (ls := (([UInt8.ofNat (97 + i)]) : List UInt8).map u8A) (xs := [_]) Try.underlying28 I5 Z5 S5 rfl rfl rfl rfl rfl rfl rfl (fun k1 => ?_))
    refine ml_pre (sh_frz 32 (q := 2) rfl rfl) ?_
    refine ml_norm [0, 1] [⟨_, _⟩, ⟨_, _⟩] (by decide) rfl ?_
    refine ml_val (MY.to (a' := sv (ky i)) (my_b2s (l := [UInt8.ofNat (97 + i)]) Try.underlying28 Try.underlying5 Try.underlying9 rfl) rfl) rfl rfl rfl ?_
    refine ml_val (my_move (Sm.v _)) rfl rfl rfl ?_
    refine ml_ow rfl (mo_lit (W := []) (ls := (([b]) : List UInt8).map u8A) (xs := [_]) Try.underlying28 I5 Z5 S5 rfl rfl rfl rfl rfl rfl rfl (fun k2 => ?_))
    refine ml_pre (sh_frz 35 (q := 2) rfl rfl) ?_
    refine ml_norm [0, 1] [⟨_, _⟩, ⟨_, _⟩] (by decide) rfl ?_
    refine ml_ow rfl (mo_call [0, 1] fn9 rfl rfl (Put_c p r s (hF.sv.well (by omega)) (ky i) [b] (by simp)) rfl rfl (fun Hs' a hp => ?_))
    obtain ⟨r1, s1, a1, b1, hc1, rfl, rfl⟩ := hp
    refine ml_norm [2, 3] [⟨_, _⟩, ⟨_, _⟩] (by decide) rfl ?_
    obtain ⟨hF1, hb⟩ := hF.step (by omega) (by simp) hc1
    refine ml_val (my_move (Sm.tup _)) rfl rfl rfl ?_
    refine ml_val (my_extract rfl rfl) rfl rfl rfl ?_
    refine ml_val (my_extract rfl rfl) rfl rfl rfl ?_
    refine ml_val (my_assign (Sm.v _)) rfl rfl rfl ?_
    refine ml_val (my_assign (Sm.v _)) rfl rfl rfl ?_
    refine ml_nil ?_
    refine z_seq ?_
    refine m_seq ?_
    refine m_region ?_
    refine ml_val (my_move (Sm.v _)) rfl rfl rfl ?_
    by_cases hiq : i < q
    · skip
      rw [if_pos hiq] at hb
      refine ml_val (MY.to (a' := tv true) (my_eql rfl rfl) (congrArg tv (decide_eq_true hb))) rfl rfl rfl ?_
      refine ml_val (my_move (Sm.v _)) rfl rfl rfl ?_
      refine ml_val (my_move (Sm.v _)) rfl rfl rfl ?_
      refine ml_val (MY.to (a' := tv true) (my_lss rfl rfl) (congrArg tv (decide_eq_true (by omega)))) rfl rfl rfl ?_
      refine ml_val (my_bneq Try.underlying4 rfl rfl) rfl rfl rfl ?_
      refine ml_val (my_move (Sm.v _)) rfl rfl rfl ?_
      first | refine ml_skipG rfl rfl rfl rfl rfl rfl ?_ | refine ml_valG (my_move (Sm.v _)) rfl rfl rfl rfl rfl ?_
      first | refine ml_skipG rfl rfl rfl rfl rfl rfl ?_ | refine ml_valG (MY.to (a' := tv false) (my_neq rfl rfl) (congrArg tv (decide_eq_false (by omega)))) rfl rfl rfl rfl rfl ?_
      first | refine ml_skipG rfl rfl rfl rfl rfl rfl ?_ | refine ml_valG (my_move (Sm.v _)) rfl rfl rfl rfl rfl ?_
      refine ml_skipG rfl rfl rfl rfl rfl rfl ?_
      refine ml_skipG rfl rfl rfl rfl rfl rfl ?_
      first | refine ml_skipG rfl rfl rfl rfl rfl rfl ?_ | refine ml_valG (my_pickF rfl (Sm.v _)) rfl rfl rfl rfl rfl ?_
      refine ml_val (my_pickF rfl (Sm.v _)) rfl rfl rfl ?_
      refine ml_nil ?_
      refine z_seq ?_
      refine m_condF rfl ?_
      refine m_skip ?_
      refine z_blk ?_
      refine z_seq ?_
      refine m_region ?_
      refine ml_val (my_move (Sm.v _)) rfl rfl rfl ?_
      refine ml_val (my_add64 rfl rfl (by omega)) rfl rfl rfl ?_
      refine ml_val (my_assign (Sm.v _)) rfl rfl rfl ?_
      refine ml_nil ?_
      exact z_lpN (9 - (i + 1)) (by omega) ⟨i + 1, r1, s1, rfl, rfl, rfl, rfl, rfl, by omega, by omega, hF1⟩
    · skip
      rw [if_neg hiq] at hb
      refine ml_val (MY.to (a' := tv false) (my_eql rfl rfl) (congrArg tv (decide_eq_false (by omega)))) rfl rfl rfl ?_
      refine ml_val (my_move (Sm.v _)) rfl rfl rfl ?_
      refine ml_val (my_move (Sm.v _)) rfl rfl rfl ?_
      refine ml_val (MY.to (a' := tv false) (my_lss rfl rfl) (congrArg tv (decide_eq_false (by omega)))) rfl rfl rfl ?_
      refine ml_val (my_bneq Try.underlying4 rfl rfl) rfl rfl rfl ?_
      refine ml_val (my_move (Sm.v _)) rfl rfl rfl ?_
      first | refine ml_skipG rfl rfl rfl rfl rfl rfl ?_ | refine ml_valG (my_move (Sm.v _)) rfl rfl rfl rfl rfl ?_
      first | refine ml_skipG rfl rfl rfl rfl rfl rfl ?_ | refine ml_valG (MY.to (a' := tv true) (my_neq rfl rfl) (congrArg tv (decide_eq_true (by omega)))) rfl rfl rfl rfl rfl ?_
      first | refine ml_skipG rfl rfl rfl rfl rfl rfl ?_ | refine ml_valG (my_move (Sm.v _)) rfl rfl rfl rfl rfl ?_
      first | refine ml_skipG rfl rfl rfl rfl rfl rfl ?_ | refine ml_valG (my_move (Sm.v _)) rfl rfl rfl rfl rfl ?_
      first | refine ml_skipG rfl rfl rfl rfl rfl rfl ?_ | refine ml_valG (MY.to (a' := tv false) (my_neq rfl rfl) (congrArg tv (decide_eq_false (by omega)))) rfl rfl rfl rfl rfl ?_
      first | refine ml_skipG rfl rfl rfl rfl rfl rfl ?_ | refine ml_valG (my_pickT rfl (Sm.v _)) rfl rfl rfl rfl rfl ?_
      refine ml_val (my_pickF rfl (Sm.v _)) rfl rfl rfl ?_
      refine ml_nil ?_
      refine z_seq ?_
      refine m_condF rfl ?_
      refine m_skip ?_
      refine z_blk ?_
      refine z_seq ?_
      refine m_region ?_
      refine ml_val (my_move (Sm.v _)) rfl rfl rfl ?_
      refine ml_val (my_add64 rfl rfl (by omega)) rfl rfl rfl ?_
      refine ml_val (my_assign (Sm.v _)) rfl rfl rfl ?_
      refine ml_nil ?_
      exact z_lpN (9 - (i + 1)) (by omega) ⟨i + 1, r1, s1, rfl, rfl, rfl, rfl, rfl, by omega, by omega, hF1⟩
  · skip
    have hi9 : i = 9 := by omega
    subst hi9
    have hE0 := hF.end hq5
    refine m_exit ?_
    refine z_seqX ?_
    refine z_lpX ?_
    refine z_blkX ?_
    refine z_seq ?_
    refine m_seq ?_
    refine m_region ?_
    refine ml_val (my_move (Sm.ptr _ _ _)) rfl rfl rfl ?_
    refine ml_ow rfl (mo_lit (W := []) (ls := ([97, 103, 97, 105, 110] : List UInt8).map u8A) (xs := [_, _, _, _, _]) Try.underlying28 I5 Z5 S5 rfl rfl rfl rfl rfl rfl rfl (fun k3 => ?_))
    refine ml_ow rfl (mo_convB (W := [2]) Try.underlying28 Try.underlying5 rfl (q := 2) rfl (by simp) rfl rfl ?_)
    refine ml_norm [0, 1] [⟨_, _⟩, ⟨_, _⟩] (by decide) rfl ?_
    refine ml_ow rfl (mo_call [0, 1] fn9 rfl rfl (Put_c p r s (hF.sv.well (by omega)) (ky 0) [97, 103, 97, 105, 110] (by simp)) rfl rfl (fun Hs' a hp => ?_))
    obtain ⟨r1, s1, a1, b1, hc1, rfl, rfl⟩ := hp
    refine ml_norm [2, 3] [⟨_, _⟩, ⟨_, _⟩] (by decide) rfl ?_
    obtain ⟨hE1, hf⟩ := hE0.step hc1
    rw [if_neg (by simp)] at hf
    refine ml_val (my_move (Sm.tup _)) rfl rfl rfl ?_
    refine ml_val (my_extract rfl rfl) rfl rfl rfl ?_
    refine ml_val (my_extract rfl rfl) rfl rfl rfl ?_
    refine ml_val (my_assign (Sm.v _)) rfl rfl rfl ?_
    refine ml_val (my_assign (Sm.v _)) rfl rfl rfl ?_
    refine ml_nil ?_
    refine z_seq ?_
    refine m_seq ?_
    refine m_region ?_
    refine ml_val (my_move (Sm.ptr _ _ _)) rfl rfl rfl ?_
    obtain ⟨v2, hv2⟩ : ∃ v, v = List.replicate 60001 (0 : UInt8) := ⟨_, rfl⟩
    have hv2l : v2.length = 60001 := by rw [hv2, List.length_replicate]
    refine ml_ow rfl (mo_make (W := []) Try.underlying28 I5 Z5 S5 (by rw [B5]; decide) rfl rfl rfl (by decide) rfl (v2.map u8A) (by rw [hv2, rep_u8]) (fun k4 => ?_))
    refine ml_pre (sh_frz 62 (q := 2) rfl rfl) ?_
    refine ml_norm [0, 1] [⟨_, _⟩, ⟨_, _⟩] (by decide) rfl ?_
    refine ml_ow rfl (mo_call [0, 1] fn9 rfl rfl (Put_c p r1 s1 (hE1.sv.well (by omega)) (ky 0) v2 (by omega)) rfl rfl (fun Hs' a hp => ?_))
    obtain ⟨r2, s2, a2, b2, hc2, rfl, rfl⟩ := hp
    refine ml_norm [2, 3] [⟨_, _⟩, ⟨_, _⟩] (by decide) rfl ?_
    obtain ⟨hE2, hg⟩ := hE1.step hc2
    rw [if_pos (by omega)] at hg
    refine ml_val (my_move (Sm.tup _)) rfl rfl rfl ?_
    refine ml_val (my_extract rfl rfl) rfl rfl rfl ?_
    refine ml_val (my_extract rfl rfl) rfl rfl rfl ?_
    refine ml_val (my_assign (Sm.v _)) rfl rfl rfl ?_
    refine ml_val (my_assign (Sm.v _)) rfl rfl rfl ?_
    refine ml_nil ?_
    refine z_seq ?_
    refine m_seq ?_
    refine m_region ?_
    refine ml_val (my_move (Sm.ptr _ _ _)) rfl rfl rfl ?_
    obtain ⟨v3, hv3⟩ : ∃ v, v = List.replicate 60000 (0 : UInt8) := ⟨_, rfl⟩
    have hv3l : v3.length = 60000 := by rw [hv3, List.length_replicate]
    refine ml_ow rfl (mo_make (W := []) Try.underlying28 I5 Z5 S5 (by rw [B5]; decide) rfl rfl rfl (by decide) rfl (v3.map u8A) (by rw [hv3, rep_u8]) (fun k5 => ?_))
    refine ml_pre (sh_frz 68 (q := 2) rfl rfl) ?_
    refine ml_norm [0, 1] [⟨_, _⟩, ⟨_, _⟩] (by decide) rfl ?_
    refine ml_ow rfl (mo_call [0, 1] fn9 rfl rfl (Put_c p r2 s2 (hE2.sv.well (by omega)) (ky 0) v3 (by omega)) rfl rfl (fun Hs' a hp => ?_))
    obtain ⟨r3, s3, a3, b3, hc3, rfl, rfl⟩ := hp
    refine ml_norm [2, 3] [⟨_, _⟩, ⟨_, _⟩] (by decide) rfl ?_
    obtain ⟨hE3, hh⟩ := hE2.step hc3
    rw [if_neg (by omega)] at hh
    refine ml_val (my_move (Sm.tup _)) rfl rfl rfl ?_
    refine ml_val (my_extract rfl rfl) rfl rfl rfl ?_
    refine ml_val (my_extract rfl rfl) rfl rfl rfl ?_
    refine ml_val (my_assign (Sm.v _)) rfl rfl rfl ?_
    refine ml_val (my_assign (Sm.v _)) rfl rfl rfl ?_
    refine ml_nil ?_
    refine z_seq ?_
    refine m_seq ?_
    refine m_region ?_
    refine ml_ow rfl (mo_call [] fn10 rfl rfl (known_c) rfl rfl (fun Hs' a hp => ?_))
    obtain ⟨rfl, rfl⟩ := hp
    refine ml_norm [0, 1] [⟨_, _⟩, ⟨_, _⟩] (by decide) rfl ?_
    refine ml_val (my_move (Sm.v _)) rfl rfl rfl ?_
    first | refine ml_skipG rfl rfl rfl rfl rfl rfl ?_ | refine ml_valG (my_move (Sm.ptr _ _ _)) rfl rfl rfl rfl rfl ?_
    refine ml_owG rfl rfl rfl (mo_call [0, 1] fn11 rfl rfl (Len_c p r3 s3) rfl rfl (fun Hs' a hp => ?_))
    obtain ⟨rfl, rfl⟩ := hp
    refine ml_norm [2, 3] [⟨_, _⟩, ⟨_, _⟩] (by decide) rfl ?_
    first | refine ml_skipG rfl rfl rfl rfl rfl rfl ?_ | refine ml_valG (my_move (Sm.v _)) rfl rfl rfl rfl rfl ?_
    first | refine ml_skipG rfl rfl rfl rfl rfl rfl ?_ | refine ml_valG (MY.to (a' := tv true) (my_eql rfl rfl) (congrArg tv (decide_eq_true (by rw [hE3.len])))) rfl rfl rfl rfl rfl ?_
    refine ml_val (my_pickT rfl (Sm.v _)) rfl rfl rfl ?_
    refine ml_val (my_move (Sm.v _)) rfl rfl rfl ?_
    first | refine ml_skipG rfl rfl rfl rfl rfl rfl ?_ | refine ml_valG (my_move (Sm.v _)) rfl rfl rfl rfl rfl ?_
    first | refine ml_skipG rfl rfl rfl rfl rfl rfl ?_ | refine ml_valG (my_eql rfl rfl) rfl rfl rfl rfl rfl ?_
    first | refine ml_skipG rfl rfl rfl rfl rfl rfl ?_ | refine ml_valG (my_move (Sm.v _)) rfl rfl rfl rfl rfl ?_
    first | refine ml_skipG rfl rfl rfl rfl rfl rfl ?_ | refine ml_valG (my_gtr rfl rfl) rfl rfl rfl rfl rfl ?_
    first | refine ml_skipG rfl rfl rfl rfl rfl rfl ?_ | refine ml_valG (MY.to (a' := tv true) (my_beql Try.underlying4 rfl rfl) (congrArg tv (by rw [hf]; by_cases h : 0 < q <;> simp [h]))) rfl rfl rfl rfl rfl ?_
    refine ml_val (my_pickT rfl (Sm.v _)) rfl rfl rfl ?_
    refine ml_val (my_move (Sm.v _)) rfl rfl rfl ?_
    first | refine ml_skipG rfl rfl rfl rfl rfl rfl ?_ | refine ml_valG (my_move (Sm.v _)) rfl rfl rfl rfl rfl ?_
    first | refine ml_skipG rfl rfl rfl rfl rfl rfl ?_ | refine ml_valG (MY.to (a' := tv true) (my_eql rfl rfl) (congrArg tv (decide_eq_true hg))) rfl rfl rfl rfl rfl ?_
    refine ml_val (my_pickT rfl (Sm.v _)) rfl rfl rfl ?_
    refine ml_val (my_move (Sm.v _)) rfl rfl rfl ?_
    first | refine ml_skipG rfl rfl rfl rfl rfl rfl ?_ | refine ml_valG (my_move (Sm.v _)) rfl rfl rfl rfl rfl ?_
    first | refine ml_skipG rfl rfl rfl rfl rfl rfl ?_ | refine ml_valG (my_eql rfl rfl) rfl rfl rfl rfl rfl ?_
    first | refine ml_skipG rfl rfl rfl rfl rfl rfl ?_ | refine ml_valG (my_move (Sm.v _)) rfl rfl rfl rfl rfl ?_
    first | refine ml_skipG rfl rfl rfl rfl rfl rfl ?_ | refine ml_valG (my_gtr rfl rfl) rfl rfl rfl rfl rfl ?_
    first | refine ml_skipG rfl rfl rfl rfl rfl rfl ?_ | refine ml_valG (MY.to (a' := tv true) (my_beql Try.underlying4 rfl rfl) (congrArg tv (by rw [hh]; by_cases h : 0 < q <;> simp [h]))) rfl rfl rfl rfl rfl ?_
    refine ml_val (my_pickT rfl (Sm.v _)) rfl rfl rfl ?_
    refine ml_val (my_assign (Sm.v _)) rfl rfl rfl ?_
    refine ml_nil ?_
    refine z_seq ?_
    refine m_ret ?_
    exact ⟨tv true, mres1 rfl rfl, rfl⟩

end Go.Proofs.Ytlklapledogdcaa.K
