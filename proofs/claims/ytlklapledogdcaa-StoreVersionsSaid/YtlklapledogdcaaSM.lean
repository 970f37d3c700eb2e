/- Versions, as the law says. No condition. -/
import Derived.Test.YtlklapledogdcaaSG
namespace Go.Proofs.Ytlklapledogdcaa.K
open Go

set_option maxRecDepth 100000 in
set_option maxHeartbeats 1000000 in
theorem StoreVersions_m (c : List UInt8) : MF Try.prog 4 [.sl (c.map u8A)] [] (fun _ res => res = tv true) := by
  refine m_enter Try.func4 rfl Try.ntmps4 rfl ?_
  refine m_seq ?_
  refine m_region ?_
  refine ml_val (my_assign (Sm.v _)) rfl rfl rfl ?_
  refine ml_nil ?_
  refine z_seq ?_
  refine m_seq ?_
  refine m_region ?_
  refine ml_ow rfl (mo_call [] fn8 rfl rfl (New_e 20) rfl rfl (fun Hs' a hp => ?_))
  obtain ⟨p, r, s0, hs0, rfl, rfl⟩ := hp
  refine ml_norm [0, 1] [⟨_, _⟩, ⟨_, _⟩] (by decide) rfl ?_
  have hV0 : VI 0 s0 := by rw [hs0]; exact VI.zero
  have hc0 : s0.count = 0 := by rw [hs0]
  clear hs0
  refine ml_val (my_assign (Sm.ptr _ _ _)) rfl rfl rfl ?_
  refine ml_nil ?_
  refine z_seq ?_
  refine m_seq ?_
  refine m_seq ?_
  refine m_region ?_
  refine ml_val (my_move (Sm.ptr _ _ _)) rfl rfl rfl ?_
  refine ml_val (my_eqlPtr Try.underlying22 rfl) rfl rfl rfl ?_
  refine ml_nil ?_
  refine z_seq ?_
  refine m_condF rfl ?_
  refine m_skip ?_
  refine z_seq ?_
  refine m_seq ?_
  refine m_region ?_
  refine ml_val (my_assign (Sm.v _)) rfl rfl rfl ?_
  refine ml_nil ?_
  refine z_seq ?_
  refine m_seq ?_
  refine m_seq ?_
  refine m_region ?_
  refine ml_val (my_assign (Sm.v _)) rfl rfl rfl ?_
  refine ml_nil ?_
  refine z_seq ?_
  refine m_block ?_
  refine m_loop (fun m Hs α => ∃ (i r : Nat) (s : St), Hs = SH p r s ∧ α 0 = .sl (c.map u8A) ∧ α 3 = .ptr p [] 0 ∧ α 4 = iv .i64 s.count ∧ α 5 = iv .i64 (i : Int) ∧ i ≤ 30 ∧ m = 30 - i ∧ VI i s) 30 ⟨0, r, s0, rfl, rfl, rfl, by rw [hc0]; rfl, rfl, by omega, rfl, hV0⟩ ?_
  clear hV0 hc0
  rintro m Hs α ⟨i, r, s, rfl, e0, e3, e4, e5, hi, rfl, hV⟩
  obtain ⟨σ, rfl⟩ : ∃ σ, α = ua (ua (ua (ua σ 0 (.sl (c.map u8A))) 3 (.ptr p [] 0)) 4 (iv .i64 s.count)) 5 (iv .i64 (i : Int)) := ⟨α, by rw [ua_self α e0, ua_self α e3, ua_self α e4, ua_self α e5]⟩
  clear e0 e3 e4 e5
  refine m_seq ?_
  refine m_seq ?_
  refine m_region ?_
  refine ml_val (my_move (Sm.v _)) rfl rfl rfl ?_
  refine ml_val (my_move (Sm.sl _)) rfl rfl rfl ?_
  refine ml_val (MY.to (a' := iv .i64 (c.length : Int)) (my_lenS Try.underlying28 rfl) (by rw [List.length_map])) rfl rfl rfl ?_
  by_cases hlc : i < c.length
  · skip
    obtain ⟨x, hx⟩ : ∃ x, c[i]? = some x := ⟨c[i], List.getElem?_eq_getElem hlc⟩
    have hx8 := x.toNat_lt
    have hver := hV.ver (nameOf x)
    have hcn := hV.sv.cnt
    refine ml_val (MY.to (a' := tv true) (my_lss rfl rfl) (congrArg tv (decide_eq_true (by omega)))) rfl rfl rfl ?_
    refine ml_val (my_move (Sm.v _)) rfl rfl rfl ?_
    first | refine ml_skipG rfl rfl rfl rfl rfl rfl ?_ | refine ml_valG (my_move (Sm.v _)) rfl rfl rfl rfl rfl ?_
    first | refine ml_skipG rfl rfl rfl rfl rfl rfl ?_ | refine ml_valG (my_lss rfl rfl) rfl rfl rfl rfl rfl ?_
    refine ml_val (my_pickT rfl (Sm.v _)) rfl rfl rfl ?_
    refine ml_nil ?_
    refine z_seq ?_
    refine m_condp rfl (fun h30 => ?_) (fun h30 => ?_)
    · skip
      refine m_skip ?_
      refine z_seq ?_
      refine m_seq ?_
      refine m_block ?_
      refine m_seq ?_
      refine m_region ?_
      refine ml_val (my_move (Sm.sl _)) rfl rfl rfl ?_
      refine ml_val (my_move (Sm.v _)) rfl rfl rfl ?_
      refine ml_val (my_indexS Try.underlying28 I5 S5 rfl rfl (by omega) (u8_at (by simpa using hx)) rfl) rfl rfl rfl ?_
      refine ml_val (my_loadF Try.underlying5 rfl rfl (fun h => absurd (show false = true from h) Bool.false_ne_true) rfl) rfl rfl rfl ?_
      refine ml_ow rfl (mo_call [] fn12 rfl rfl (Name_c x) rfl rfl (fun Hs' a hp => ?_))
      obtain ⟨rfl, rfl⟩ := hp
      refine ml_norm [0, 1] [⟨_, _⟩, ⟨_, _⟩] (by decide) rfl ?_
      refine ml_val (my_assign (Sm.v _)) rfl rfl rfl ?_
      refine ml_nil ?_
      refine z_seq ?_
      refine m_seq ?_
      refine m_region ?_
      refine ml_val (my_move (Sm.ptr _ _ _)) rfl rfl rfl ?_
      refine ml_val (my_move (Sm.v _)) rfl rfl rfl ?_
      refine ml_ow rfl (mo_call [0, 1] fn13 rfl rfl (Get_c p r s (hV.sv.well (by omega)) (nameOf x) hV.sv.vals) rfl rfl (fun Hs' a hp => ?_))
      obtain ⟨rfl, rfl⟩ := hp
      refine ml_norm [2, 3] [⟨_, _⟩, ⟨_, _⟩] (by decide) rfl ?_
      refine ml_val (my_move (Sm.tup _)) rfl rfl rfl ?_
      refine ml_val (my_extract rfl rfl) rfl rfl rfl ?_
      refine ml_val (my_extract rfl rfl) rfl rfl rfl ?_
      refine ml_val (my_assign (Sm.sl _)) rfl rfl rfl ?_
      refine ml_val (my_assign (Sm.v _)) rfl rfl rfl ?_
      refine ml_nil ?_
      refine z_seq ?_
      refine m_seq ?_
      refine m_region ?_
      refine ml_val (my_move (Sm.ptr _ _ _)) rfl rfl rfl ?_
      refine ml_val (my_move (Sm.v _)) rfl rfl rfl ?_
      refine ml_val (my_move (Sm.v _)) rfl rfl rfl ?_
      refine ml_val (my_add64 rfl rfl (by omega)) rfl rfl rfl ?_
      refine ml_val (my_move (Sm.sl _)) rfl rfl rfl ?_
      refine ml_val (my_move (Sm.v _)) rfl rfl rfl ?_
      refine ml_val (my_indexS Try.underlying28 I5 S5 rfl rfl (by omega) (u8_at (by simpa using hx)) rfl) rfl rfl rfl ?_
      refine ml_val (my_loadF Try.underlying5 rfl rfl (fun h => absurd (show false = true from h) Bool.false_ne_true) rfl) rfl rfl rfl ?_
      refine ml_val (my_quo rfl rfl (by decide)) rfl rfl rfl ?_
      refine ml_val (MY.to (a' := iv .i64 ((x.toNat / 128 : Nat) : Int)) (my_conv ⟨_, Try.underlying5⟩ Try.underlying3 rfl) (congrArg (iv .i64) (quo128 x))) rfl rfl rfl ?_
      refine ml_val (my_add64 rfl rfl (by omega)) rfl rfl rfl ?_
      refine ml_ow rfl (mo_call [0, 1] fn14 rfl rfl (mf_args (Cas_e p r s (hV.sv.well (by omega)) (nameOf x) (verR s.recs (nameOf x) + 1 + ((x.toNat / 128 : Nat) : Int)) [] (by simp)) (.cons1 (.cons1 (.cons1 (.consN .nil))))) rfl rfl (fun Hs' a hp => ?_))
      obtain ⟨r1, s1, a1, b1, hc1, rfl, rfl⟩ := hp
      refine ml_norm [2, 3] [⟨_, _⟩, ⟨_, _⟩] (by decide) rfl ?_
      obtain ⟨rfl, hb1⟩ := hV.no (by omega) hc1
      refine ml_val (my_move (Sm.tup _)) rfl rfl rfl ?_
      refine ml_val (my_extract rfl rfl) rfl rfl rfl ?_
      refine ml_val (my_extract rfl rfl) rfl rfl rfl ?_
      refine ml_val (my_assign (Sm.v _)) rfl rfl rfl ?_
      refine ml_val (my_assign (Sm.v _)) rfl rfl rfl ?_
      refine ml_nil ?_
      refine z_seq ?_
      refine m_seq ?_
      refine m_region ?_
      refine ml_val (my_move (Sm.ptr _ _ _)) rfl rfl rfl ?_
      refine ml_val (my_move (Sm.v _)) rfl rfl rfl ?_
      refine ml_val (my_move (Sm.v _)) rfl rfl rfl ?_
      refine ml_val (my_move (Sm.sl _)) rfl rfl rfl ?_
      refine ml_val (my_move (Sm.v _)) rfl rfl rfl ?_
      refine ml_val (my_indexS Try.underlying28 I5 S5 rfl rfl (by omega) (u8_at (by simpa using hx)) rfl) rfl rfl rfl ?_
      refine ml_val (my_loadF Try.underlying5 rfl rfl (fun h => absurd (show false = true from h) Bool.false_ne_true) rfl) rfl rfl rfl ?_
      refine ml_ow rfl (mo_lit (W := []) (ls := (([x]) : List UInt8).map u8A) (xs := [_]) Try.underlying28 I5 Z5 S5 rfl rfl rfl rfl rfl rfl rfl (fun k1 => ?_))
      refine ml_pre (sh_frz 60 (q := 2) rfl rfl) ?_
      refine ml_norm [0, 1] [⟨_, _⟩, ⟨_, _⟩] (by decide) rfl ?_
      refine ml_ow rfl (mo_call [0, 1] fn14 rfl rfl (Cas_e p r1 s1 (hV.sv.well (by omega)) (nameOf x) (verR s1.recs (nameOf x)) [x] (by simp)) rfl rfl (fun Hs' a hp => ?_))
      obtain ⟨r2, s2, a2, b2, hc2, rfl, rfl⟩ := hp
      refine ml_norm [2, 3] [⟨_, _⟩, ⟨_, _⟩] (by decide) rfl ?_
      obtain ⟨hP, ha2, hb2⟩ := hV.put (nameOf_mem x) hc2
      refine ml_val (my_move (Sm.tup _)) rfl rfl rfl ?_
      refine ml_val (my_extract rfl rfl) rfl rfl rfl ?_
      refine ml_val (my_extract rfl rfl) rfl rfl rfl ?_
      refine ml_val (my_assign (Sm.v _)) rfl rfl rfl ?_
      refine ml_val (my_assign (Sm.v _)) rfl rfl rfl ?_
      refine ml_nil ?_
      refine z_seq ?_
      refine m_seq ?_
      refine m_seq ?_
      refine m_region ?_
      refine ml_val (my_move (Sm.v _)) rfl rfl rfl ?_
      refine ml_val (MY.to (a' := tv false) (my_neq rfl rfl) (congrArg tv (decide_eq_false (by omega)))) rfl rfl rfl ?_
      refine ml_val (my_move (Sm.v _)) rfl rfl rfl ?_
      first | refine ml_skipG rfl rfl rfl rfl rfl rfl ?_ | refine ml_valG (my_move (Sm.v _)) rfl rfl rfl rfl rfl ?_
      first | refine ml_skipG rfl rfl rfl rfl rfl rfl ?_ | refine ml_valG (MY.to (a' := tv false) (my_neq rfl rfl) (congrArg tv (decide_eq_false (by omega)))) rfl rfl rfl rfl rfl ?_
      refine ml_val (my_pickF rfl (Sm.v _)) rfl rfl rfl ?_
      refine ml_val (my_move (Sm.v _)) rfl rfl rfl ?_
      first | refine ml_skipG rfl rfl rfl rfl rfl rfl ?_ | refine ml_valG (my_move (Sm.v _)) rfl rfl rfl rfl rfl ?_
      first | refine ml_skipG rfl rfl rfl rfl rfl rfl ?_ | refine ml_valG (my_move (Sm.v _)) rfl rfl rfl rfl rfl ?_
      first | refine ml_skipG rfl rfl rfl rfl rfl rfl ?_ | refine ml_valG (MY.to (a' := tv false) (my_leq rfl rfl) (congrArg tv (decide_eq_false (by omega)))) rfl rfl rfl rfl rfl ?_
      refine ml_val (my_pickF rfl (Sm.v _)) rfl rfl rfl ?_
      refine ml_val (my_move (Sm.v _)) rfl rfl rfl ?_
      first | refine ml_skipG rfl rfl rfl rfl rfl rfl ?_ | refine ml_valG (my_move (Sm.v _)) rfl rfl rfl rfl rfl ?_
      first | refine ml_skipG rfl rfl rfl rfl rfl rfl ?_ | refine ml_valG (my_move (Sm.v _)) rfl rfl rfl rfl rfl ?_
      first | refine ml_skipG rfl rfl rfl rfl rfl rfl ?_ | refine ml_valG (MY.to (a' := tv false) (my_gtr rfl rfl) (congrArg tv (decide_eq_false (by omega)))) rfl rfl rfl rfl rfl ?_
      refine ml_val (my_pickF rfl (Sm.v _)) rfl rfl rfl ?_
      refine ml_nil ?_
      refine z_seq ?_
      refine m_condF rfl ?_
      refine m_skip ?_
      refine z_seq ?_
      refine m_seq ?_
      refine m_region ?_
      refine ml_val (my_move (Sm.v _)) rfl rfl rfl ?_
      refine ml_val (my_assign (Sm.v _)) rfl rfl rfl ?_
      refine ml_nil ?_
      refine z_seq ?_
      refine m_seq ?_
      refine m_region ?_
      refine ml_val (my_move (Sm.sl _)) rfl rfl rfl ?_
      refine ml_val (my_move (Sm.v _)) rfl rfl rfl ?_
      refine ml_val (my_indexS Try.underlying28 I5 S5 rfl rfl (by omega) (u8_at (by simpa using hx)) rfl) rfl rfl rfl ?_
      refine ml_val (my_loadF Try.underlying5 rfl rfl (fun h => absurd (show false = true from h) Bool.false_ne_true) rfl) rfl rfl rfl ?_
      refine ml_val (MY.to (a' := iv .u8 ((x.toNat % 5 : Nat) : Int)) (my_rem rfl rfl (by decide)) (congrArg (iv .u8) (rem5 x))) rfl rfl rfl ?_
      refine ml_val (my_eql rfl rfl) rfl rfl rfl ?_
      refine ml_nil ?_
      refine z_seq ?_
      refine m_condp rfl (fun h5 => ?_) (fun h5 => ?_)
      · skip
        refine m_seq ?_
        refine m_seq ?_
        refine m_region ?_
        refine ml_val (my_move (Sm.ptr _ _ _)) rfl rfl rfl ?_
        refine ml_val (my_move (Sm.v _)) rfl rfl rfl ?_
        refine ml_val (my_move (Sm.v _)) rfl rfl rfl ?_
        refine ml_val (my_add64 rfl rfl (by omega)) rfl rfl rfl ?_
        refine ml_ow rfl (mo_call [0, 1] fn15 rfl rfl (Del_c p r2 s2 (hP.sv.well (by omega)) (nameOf x) (a2 + 1)) rfl rfl (fun Hs' a hp => ?_))
        obtain ⟨r3, s3, d1, hd1, rfl, rfl⟩ := hp
        refine ml_norm [2, 3] [⟨_, _⟩, ⟨_, _⟩] (by decide) rfl ?_
        rw [ha2] at hd1
        obtain ⟨rfl, hd1b⟩ := hP.other hd1
        refine ml_val (MY.to (a' := tv false) (my_neq rfl rfl) (congrArg tv (decide_eq_false (by omega)))) rfl rfl rfl ?_
        refine ml_val (my_move (Sm.v _)) rfl rfl rfl ?_
        first | refine ml_skipG rfl rfl rfl rfl rfl rfl ?_ | refine ml_valG (my_move (Sm.ptr _ _ _)) rfl rfl rfl rfl rfl ?_
        first | refine ml_skipG rfl rfl rfl rfl rfl rfl ?_ | refine ml_valG (my_move (Sm.v _)) rfl rfl rfl rfl rfl ?_
        first | refine ml_skipG rfl rfl rfl rfl rfl rfl ?_ | refine ml_valG (my_move (Sm.v _)) rfl rfl rfl rfl rfl ?_
        refine ml_owG rfl rfl rfl (mo_call [0, 1] fn15 rfl rfl (Del_c p r3 s3 (hP.sv.well (by omega)) (nameOf x) a2) rfl rfl (fun Hs' a hp => ?_))
        obtain ⟨r4, s4, d2, hd2, rfl, rfl⟩ := hp
        refine ml_norm [2, 3] [⟨_, _⟩, ⟨_, _⟩] (by decide) rfl ?_
        rw [ha2] at hd2
        obtain ⟨hD, hd2b⟩ := hP.gone hd2
        first | refine ml_skipG rfl rfl rfl rfl rfl rfl ?_ | refine ml_valG (MY.to (a' := tv false) (my_neq rfl rfl) (congrArg tv (decide_eq_false (by omega)))) rfl rfl rfl rfl rfl ?_
        refine ml_val (my_pickF rfl (Sm.v _)) rfl rfl rfl ?_
        refine ml_val (my_move (Sm.v _)) rfl rfl rfl ?_
        first | refine ml_skipG rfl rfl rfl rfl rfl rfl ?_ | refine ml_valG (my_move (Sm.ptr _ _ _)) rfl rfl rfl rfl rfl ?_
        first | refine ml_skipG rfl rfl rfl rfl rfl rfl ?_ | refine ml_valG (my_move (Sm.v _)) rfl rfl rfl rfl rfl ?_
        first | refine ml_skipG rfl rfl rfl rfl rfl rfl ?_ | refine ml_valG (my_move (Sm.v _)) rfl rfl rfl rfl rfl ?_
        refine ml_owG rfl rfl rfl (mo_call [0, 1] fn15 rfl rfl (Del_c p r4 s4 (hD.sv.well (by omega)) (nameOf x) a2) rfl rfl (fun Hs' a hp => ?_))
        obtain ⟨r5, s5, d3, hd3, rfl, rfl⟩ := hp
        refine ml_norm [2, 3] [⟨_, _⟩, ⟨_, _⟩] (by decide) rfl ?_
        obtain ⟨rfl, hd3b⟩ := hD.none hd3
        first | refine ml_skipG rfl rfl rfl rfl rfl rfl ?_ | refine ml_valG (MY.to (a' := tv false) (my_neq rfl rfl) (congrArg tv (decide_eq_false (by omega)))) rfl rfl rfl rfl rfl ?_
        refine ml_val (my_pickF rfl (Sm.v _)) rfl rfl rfl ?_
        refine ml_nil ?_
        refine z_seq ?_
        refine m_condF rfl ?_
        refine m_skip ?_
        refine z_seq ?_
        refine m_region ?_
        refine ml_val (my_move (Sm.v _)) rfl rfl rfl ?_
        refine ml_val (my_add64 rfl rfl (by omega)) rfl rfl rfl ?_
        refine ml_val (my_assign (Sm.v _)) rfl rfl rfl ?_
        refine ml_nil ?_
        refine z_blk ?_
        refine z_seq ?_
        refine m_region ?_
        refine ml_val (my_move (Sm.v _)) rfl rfl rfl ?_
        refine ml_val (my_add64 rfl rfl (by omega)) rfl rfl rfl ?_
        refine ml_val (my_assign (Sm.v _)) rfl rfl rfl ?_
        refine ml_nil ?_
        exact z_lpN (30 - (i + 1)) (by omega) ⟨i + 1, r5, s5, rfl, rfl, rfl, congrArg (iv .i64) (by rw [hD.cnt]; omega), rfl, by omega, rfl, hD.keep⟩
      · skip
        refine m_skip ?_
        refine z_blk ?_
        refine z_seq ?_
        refine m_region ?_
        refine ml_val (my_move (Sm.v _)) rfl rfl rfl ?_
        refine ml_val (my_add64 rfl rfl (by omega)) rfl rfl rfl ?_
        refine ml_val (my_assign (Sm.v _)) rfl rfl rfl ?_
        refine ml_nil ?_
        exact z_lpN (30 - (i + 1)) (by omega) ⟨i + 1, r2, s2, rfl, rfl, rfl, congrArg (iv .i64) (by rw [hP.cnt]; omega), rfl, by omega, rfl, hP.keep⟩
    · skip
      skip
      refine m_exit ?_
      refine z_seqX ?_
      refine z_lpX ?_
      refine z_blkX ?_
      refine z_seq ?_
      refine m_seq ?_
      refine m_region ?_
      refine ml_ow rfl (mo_call [] fn10 rfl rfl (known_c) rfl rfl (fun Hs' a hp => ?_))
      obtain ⟨rfl, rfl⟩ := hp
      refine ml_norm [0, 1] [⟨_, _⟩, ⟨_, _⟩] (by decide) rfl ?_
      refine ml_val (my_assign (Sm.v _)) rfl rfl rfl ?_
      refine ml_nil ?_
      refine z_seq ?_
      refine m_ret ?_
      exact ⟨tv true, mres1 rfl rfl, rfl⟩
  · skip
    refine ml_val (MY.to (a' := tv false) (my_lss rfl rfl) (congrArg tv (decide_eq_false (by omega)))) rfl rfl rfl ?_
    refine ml_val (my_move (Sm.v _)) rfl rfl rfl ?_
    refine ml_skipG rfl rfl rfl rfl rfl rfl ?_
    refine ml_skipG rfl rfl rfl rfl rfl rfl ?_
    refine ml_val (my_pickF rfl (Sm.v _)) rfl rfl rfl ?_
    refine ml_nil ?_
    refine z_seq ?_
    refine m_condF rfl ?_
    refine m_exit ?_
    refine z_seqX ?_
    refine z_lpX ?_
    refine z_blkX ?_
    refine z_seq ?_
    refine m_seq ?_
    refine m_region ?_
    refine ml_ow rfl (mo_call [] fn10 rfl rfl (known_c) rfl rfl (fun Hs' a hp => ?_))
    obtain ⟨rfl, rfl⟩ := hp
    refine ml_norm [0, 1] [⟨_, _⟩, ⟨_, _⟩] (by decide) rfl ?_
    refine ml_val (my_assign (Sm.v _)) rfl rfl rfl ?_
    refine ml_nil ?_
    refine z_seq ?_
    refine m_ret ?_
    exact ⟨tv true, mres1 rfl rfl, rfl⟩

end Go.Proofs.Ytlklapledogdcaa.K
