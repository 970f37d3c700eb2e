/- Whatever is put and taken away is told as the document says. No condition. -/
import Derived.Test.YtlklapledogdcaaSW
namespace Go.Proofs.Ytlklapledogdcaa.K
open Go

set_option maxRecDepth 100000 in
set_option maxHeartbeats 1000000 in
theorem StoreActs_m (c : List UInt8) (x : Int) (raw : ByteArray) (ver : Int) (b : List UInt8) : MF Try.prog 6 [.sl (c.map u8A), iv .i8 x, sv raw, iv .i64 ver, .sl (b.map u8A)] [] (fun _ res => res = tv true) := by
  refine m_enter Try.func6 rfl Try.ntmps6 rfl ?_
  obtain ⟨M, hM⟩ : ∃ M, M = x.tmod 8 := ⟨_, rfl⟩
  have hM7 := tmod8 (x := x)
  rw [← hM] at hM7
  refine m_seq ?_
  refine m_region ?_
  refine ml_val (my_assign (Sm.v _)) rfl rfl rfl ?_
  refine ml_nil ?_
  refine z_seq ?_
  refine m_seq ?_
  refine m_seq ?_
  refine m_region ?_
  refine ml_val (my_move (Sm.sl _)) rfl rfl rfl ?_
  refine ml_val (MY.to (a' := iv .i64 (b.length : Int)) (my_lenS Try.underlying28 rfl) (by rw [List.length_map])) rfl rfl rfl ?_
  by_cases hb : 100 < b.length
  · skip
    refine ml_val (MY.to (a' := tv true) (my_gtr rfl rfl) (congrArg tv (decide_eq_true (by omega)))) rfl rfl rfl ?_
    refine ml_val (my_move (Sm.v _)) rfl rfl rfl ?_
    refine ml_skipG rfl rfl rfl rfl rfl rfl ?_
    refine ml_skipG rfl rfl rfl rfl rfl rfl ?_
    refine ml_val (my_pickT rfl (Sm.v _)) rfl rfl rfl ?_
    refine ml_nil ?_
    refine z_seq ?_
    refine m_condT rfl ?_
    refine m_seq ?_
    refine m_region ?_
    refine ml_ow rfl (mo_call [] fn10 rfl rfl (known_c) rfl rfl (fun Hs' a hp => ?_))
    obtain ⟨rfl, rfl⟩ := hp
    refine ml_norm [] [] (by decide) rfl ?_
    refine ml_val (my_assign (Sm.v _)) rfl rfl rfl ?_
    refine ml_nil ?_
    refine z_seq ?_
    refine m_ret ?_
    refine z_seqR ?_
    exact ⟨tv true, mres1 rfl rfl, rfl⟩
  · skip
    refine ml_val (MY.to (a' := tv false) (my_gtr rfl rfl) (congrArg tv (decide_eq_false (by omega)))) rfl rfl rfl ?_
    refine ml_val (my_move (Sm.v _)) rfl rfl rfl ?_
    refine ml_owG rfl rfl rfl (mo_call [] fn10 rfl rfl (known_c) rfl rfl (fun Hs' a hp => ?_))
    obtain ⟨rfl, rfl⟩ := hp
    refine ml_norm [] [] (by decide) rfl ?_
    refine ml_valG (MY.to (a' := tv false) (my_not rfl) rfl) rfl rfl rfl rfl rfl ?_
    refine ml_val (my_pickF rfl (Sm.v _)) rfl rfl rfl ?_
    refine ml_nil ?_
    refine z_seq ?_
    refine m_condF rfl ?_
    refine m_skip ?_
    refine z_seq ?_
    refine m_seq ?_
    refine m_region ?_
    refine ml_val (my_move (Sm.v _)) rfl rfl rfl ?_
    refine ml_val (MY.to (a' := iv .i8 M) (my_rem rfl rfl (by decide)) (by rw [hM])) rfl rfl rfl ?_
    refine ml_val (MY.to (a' := iv .i64 M) (my_conv ⟨_, Try.underlying44⟩ Try.underlying3 rfl) (congrArg (iv .i64) (wrap64_eq (by omega) (by omega)))) rfl rfl rfl ?_
    refine ml_ow rfl (mo_call [] fn8 rfl rfl (New_e M) rfl rfl (fun Hs' a hp => ?_))
    obtain ⟨p, r, s0, hs0, rfl, rfl⟩ := hp
    refine ml_norm [0, 1] [⟨_, _⟩, ⟨_, _⟩] (by decide) rfl ?_
    subst hs0
    refine ml_val (my_assign (Sm.ptr _ _ _)) rfl rfl rfl ?_
    refine ml_nil ?_
    refine z_seq ?_
    refine m_seq ?_
    refine m_region ?_
    refine ml_val (my_move (Sm.v _)) rfl rfl rfl ?_
    refine ml_val (MY.to (a' := iv .i8 M) (my_rem rfl rfl (by decide)) (by rw [hM])) rfl rfl rfl ?_
    refine ml_val (MY.to (a' := iv .i64 M) (my_conv ⟨_, Try.underlying44⟩ Try.underlying3 rfl) (congrArg (iv .i64) (wrap64_eq (by omega) (by omega)))) rfl rfl rfl ?_
    refine ml_ow rfl (mo_call [] fn18 rfl rfl (New_t M) rfl rfl (fun Hs' a hp => ?_))
    obtain ⟨rfl, rfl⟩ := hp
    refine ml_norm [0, 1] [⟨_, _⟩, ⟨_, _⟩] (by decide) rfl ?_
    refine ml_ow rfl (mo_alloc (W := []) I46 Z46 RZ46s rfl (fun k1 => ?_))
    refine ml_ow rfl (mo_store I46 S46 rfl rfl rfl (q := 2) rfl rfl rfl rfl rfl ?_)
    refine ml_nil ?_
    refine z_seq ?_
    refine m_seq ?_
    refine m_seq ?_
    refine m_region ?_
    refine ml_val (my_move (Sm.ptr _ _ _)) rfl rfl rfl ?_
    refine ml_val (my_eqlPtr Try.underlying22 rfl) rfl rfl rfl ?_
    refine ml_nil ?_
    refine z_seq ?_
    refine m_condF rfl ?_
    refine m_skip ?_
    refine z_seq ?_
    refine m_seq ?_
    refine m_seq ?_
    refine m_region ?_
    refine ml_val (my_assign (Sm.v _)) rfl rfl rfl ?_
    refine ml_nil ?_
    refine z_seq ?_
    refine m_block ?_
    refine m_loop (fun m Hs α => ∃ (i r : Nat) (s : St), Hs = [⟨p, .box 58 (.agg [iv .i64 s.most, .osl r, iv .i64 s.count])⟩, ⟨r, .row 41 3 (recsA s.recs)⟩, ⟨k1, .box 46 (.agg [iv .i64 s.most, .sl (recsA s.recs), iv .i64 s.count])⟩] ∧ α 0 = .sl (c.map u8A) ∧ α 2 = sv raw ∧ α 3 = iv .i64 ver ∧ α 4 = .sl (b.map u8A) ∧ α 11 = .ptr p [] 0 ∧ α 12 = .ptr k1 [] 0 ∧ α 13 = iv .i64 (i : Int) ∧ i ≤ 62 ∧ m = 63 - i ∧ SV i s) 63 ⟨0, r, ⟨max M 0, [], 0⟩, rfl, rfl, rfl, rfl, rfl, rfl, rfl, rfl, by omega, rfl, .new _ _⟩ ?_
    rintro m Hs α ⟨i, r, s, rfl, e0, e2, e3, e4, e11, e12, e13, hi, rfl, hS⟩
    have hw := hS.well (by omega)
    have hlen : s.recs.length ≤ 1000000 := by have := hS.len; omega
    obtain ⟨σ, rfl⟩ : ∃ σ, α = ua (ua (ua (ua (ua (ua (ua σ 0 (.sl (c.map u8A))) 2 (sv raw)) 3 (iv .i64 ver)) 4 (.sl (b.map u8A))) 11 (.ptr p [] 0)) 12 (.ptr k1 [] 0)) 13 (iv .i64 (i : Int)) := ⟨α, by rw [ua_self α e0, ua_self α e2, ua_self α e3, ua_self α e4, ua_self α e11, ua_self α e12, ua_self α e13]⟩
    clear e0 e2 e3 e4 e11 e12 e13
    refine m_seq ?_
    refine m_seq ?_
    refine m_region ?_
    refine ml_val (my_move (Sm.v _)) rfl rfl rfl ?_
    refine ml_val (MY.to (a' := iv .i64 ((i + 2 : Nat) : Int)) (my_add64 rfl rfl (by omega)) (congrArg (iv .i64) (by omega))) rfl rfl rfl ?_
    refine ml_val (my_move (Sm.sl _)) rfl rfl rfl ?_
    refine ml_val (MY.to (a' := iv .i64 (c.length : Int)) (my_lenS Try.underlying28 rfl) (by rw [List.length_map])) rfl rfl rfl ?_
    by_cases hlc : i + 2 < c.length
    · skip
      obtain ⟨x0, hx0⟩ : ∃ x, c[i + 0]? = some x := ⟨c[i + 0], List.getElem?_eq_getElem (by omega)⟩
      have hx08 := x0.toNat_lt
      obtain ⟨x1, hx1⟩ : ∃ x, c[i + 1]? = some x := ⟨c[i + 1], List.getElem?_eq_getElem (by omega)⟩
      have hx18 := x1.toNat_lt
      obtain ⟨x2, hx2⟩ : ∃ x, c[i + 2]? = some x := ⟨c[i + 2], List.getElem?_eq_getElem (by omega)⟩
      have hx28 := x2.toNat_lt
      refine ml_val (MY.to (a' := tv true) (my_lss rfl rfl) (congrArg tv (decide_eq_true (by omega)))) rfl rfl rfl ?_
      refine ml_val (my_move (Sm.v _)) rfl rfl rfl ?_
      first | refine ml_skipG rfl rfl rfl rfl rfl rfl ?_ | refine ml_valG (my_move (Sm.v _)) rfl rfl rfl rfl rfl ?_
      first | refine ml_skipG rfl rfl rfl rfl rfl rfl ?_ | refine ml_valG (my_lss rfl rfl) rfl rfl rfl rfl rfl ?_
      refine ml_val (my_pickT rfl (Sm.v _)) rfl rfl rfl ?_
      refine ml_nil ?_
      refine z_seq ?_
      refine m_condp rfl (fun h60 => ?_) (fun h60 => ?_)
      · skip
        refine m_skip ?_
        refine z_seq ?_
        refine m_seq ?_
        refine m_block ?_
        refine m_seq ?_
        refine m_region ?_
        refine ml_val (my_move (Sm.sl _)) rfl rfl rfl ?_
        refine ml_val (my_move (Sm.v _)) rfl rfl rfl ?_
        refine ml_val (MY.to (a' := iv .i64 ((i + 1 : Nat) : Int)) (my_add64 rfl rfl (by omega)) (congrArg (iv .i64) (by omega))) rfl rfl rfl ?_
        refine ml_val (my_indexS Try.underlying28 I5 S5 rfl rfl (by omega) (u8_at (show c[((i + 1 : Nat) : Int).toNat]? = _ from hx1)) rfl) rfl rfl rfl ?_
        refine ml_val (my_loadF Try.underlying5 rfl rfl (fun h => absurd (show false = true from h) Bool.false_ne_true) rfl) rfl rfl rfl ?_
        refine ml_ow rfl (mo_call [] fn12 rfl rfl (Name_c x1) rfl rfl (fun Hs' a hp => ?_))
        obtain ⟨rfl, rfl⟩ := hp
        refine ml_norm [0, 1, 2] [⟨_, _⟩, ⟨_, _⟩, ⟨_, _⟩] (by decide) rfl ?_
        refine ml_val (my_assign (Sm.v _)) rfl rfl rfl ?_
        refine ml_nil ?_
        refine z_seq ?_
        refine m_seq ?_
        refine m_seq ?_
        refine m_region ?_
        refine ml_val (my_move (Sm.sl _)) rfl rfl rfl ?_
        refine ml_val (my_move (Sm.v _)) rfl rfl rfl ?_
        refine ml_val (my_indexS Try.underlying28 I5 S5 rfl rfl (by omega) (u8_at (show c[((i + 0 : Nat) : Int).toNat]? = _ from hx0)) rfl) rfl rfl rfl ?_
        refine ml_val (my_loadF Try.underlying5 rfl rfl (fun h => absurd (show false = true from h) Bool.false_ne_true) rfl) rfl rfl rfl ?_
        refine ml_val (my_gtr rfl rfl) rfl rfl rfl ?_
        refine ml_nil ?_
        refine z_seq ?_
        refine m_cutN (fun Hs α => ∃ (key : ByteArray), Hs = [⟨p, .box 58 (.agg [iv .i64 s.most, .osl r, iv .i64 s.count])⟩, ⟨r, .row 41 3 (recsA s.recs)⟩, ⟨k1, .box 46 (.agg [iv .i64 s.most, .sl (recsA s.recs), iv .i64 s.count])⟩] ∧ α 0 = .sl (c.map u8A) ∧ α 2 = sv raw ∧ α 3 = iv .i64 ver ∧ α 4 = .sl (b.map u8A) ∧ α 11 = .ptr p [] 0 ∧ α 12 = .ptr k1 [] 0 ∧ α 13 = iv .i64 (i : Int) ∧ α 14 = sv key) ?_ ?_
        · skip
          refine m_condp rfl (fun h230 => ?_) (fun h230 => ?_)
          · skip
            refine m_region ?_
            refine ml_val (my_move (Sm.v _)) rfl rfl rfl ?_
            refine ml_val (my_assign (Sm.v _)) rfl rfl rfl ?_
            refine ml_nil ?_
            exact ⟨_, rfl, rfl, rfl, rfl, rfl, rfl, rfl, rfl, rfl⟩
          · skip
            refine m_skip ?_
            exact ⟨_, rfl, rfl, rfl, rfl, rfl, rfl, rfl, rfl, rfl⟩
        rintro Hs α ⟨key, rfl, e0, e2, e3, e4, e11, e12, e13, e14⟩
        obtain ⟨σ, rfl⟩ : ∃ σ, α = ua (ua (ua (ua (ua (ua (ua (ua σ 0 (.sl (c.map u8A))) 2 (sv raw)) 3 (iv .i64 ver)) 4 (.sl (b.map u8A))) 11 (.ptr p [] 0)) 12 (.ptr k1 [] 0)) 13 (iv .i64 (i : Int))) 14 (sv key) := ⟨α, by rw [ua_self α e0, ua_self α e2, ua_self α e3, ua_self α e4, ua_self α e11, ua_self α e12, ua_self α e13, ua_self α e14]⟩
        clear e0 e2 e3 e4 e11 e12 e13 e14
        refine z_seq ?_
        refine m_seq ?_
        refine m_region ?_
        refine ml_val (my_load Try.underlying46 rfl (q := 2) rfl rfl rfl rfl rfl (fun _ => ⟨_, I46, S46⟩) rfl rfl) rfl rfl rfl ?_
        refine ml_val (my_move (Sm.v _)) rfl rfl rfl ?_
        refine ml_ow rfl (mo_call [] fn19 rfl rfl (Get_t s.most s.recs s.count key hlen) rfl rfl (fun Hs' a hp => ?_))
        obtain ⟨rfl, rfl⟩ := hp
        refine ml_norm [0, 1, 2] [⟨_, _⟩, ⟨_, _⟩, ⟨_, _⟩] (by decide) rfl ?_
        refine ml_val (my_move (Sm.tup _)) rfl rfl rfl ?_
        refine ml_val (my_extract rfl rfl) rfl rfl rfl ?_
        refine ml_val (my_extract rfl rfl) rfl rfl rfl ?_
        refine ml_val (my_assign (Sm.sl _)) rfl rfl rfl ?_
        refine ml_val (my_assign (Sm.v _)) rfl rfl rfl ?_
        refine ml_nil ?_
        refine z_seq ?_
        refine m_seq ?_
        refine m_seq ?_
        refine m_region ?_
        refine ml_val (my_move (Sm.sl _)) rfl rfl rfl ?_
        refine ml_val (my_move (Sm.v _)) rfl rfl rfl ?_
        refine ml_val (MY.to (a' := iv .i64 ((i + 2 : Nat) : Int)) (my_add64 rfl rfl (by omega)) (congrArg (iv .i64) (by omega))) rfl rfl rfl ?_
        refine ml_val (my_indexS Try.underlying28 I5 S5 rfl rfl (by omega) (u8_at (show c[((i + 2 : Nat) : Int).toNat]? = _ from hx2)) rfl) rfl rfl rfl ?_
        refine ml_val (my_loadF Try.underlying5 rfl rfl (fun h => absurd (show false = true from h) Bool.false_ne_true) rfl) rfl rfl rfl ?_
        refine ml_val (my_gtr rfl rfl) rfl rfl rfl ?_
        refine ml_nil ?_
        refine z_seq ?_
        refine m_cutN (fun Hs α => ∃ (now : Int), Hs = [⟨p, .box 58 (.agg [iv .i64 s.most, .osl r, iv .i64 s.count])⟩, ⟨r, .row 41 3 (recsA s.recs)⟩, ⟨k1, .box 46 (.agg [iv .i64 s.most, .sl (recsA s.recs), iv .i64 s.count])⟩] ∧ α 0 = .sl (c.map u8A) ∧ α 2 = sv raw ∧ α 3 = iv .i64 ver ∧ α 4 = .sl (b.map u8A) ∧ α 11 = .ptr p [] 0 ∧ α 12 = .ptr k1 [] 0 ∧ α 13 = iv .i64 (i : Int) ∧ α 14 = sv key ∧ α 16 = iv .i64 now) ?_ ?_
        · skip
          refine m_condp rfl (fun h200 => ?_) (fun h200 => ?_)
          · skip
            refine m_region ?_
            refine ml_val (my_move (Sm.sl _)) rfl rfl rfl ?_
            refine ml_val (my_move (Sm.v _)) rfl rfl rfl ?_
            refine ml_val (MY.to (a' := iv .i64 ((i + 2 : Nat) : Int)) (my_add64 rfl rfl (by omega)) (congrArg (iv .i64) (by omega))) rfl rfl rfl ?_
            refine ml_val (my_indexS Try.underlying28 I5 S5 rfl rfl (by omega) (u8_at (show c[((i + 2 : Nat) : Int).toNat]? = _ from hx2)) rfl) rfl rfl rfl ?_
            refine ml_val (my_loadF Try.underlying5 rfl rfl (fun h => absurd (show false = true from h) Bool.false_ne_true) rfl) rfl rfl rfl ?_
            refine ml_val (MY.to (a' := iv .u8 ((x2.toNat % 9 : Nat) : Int)) (my_rem rfl rfl (by decide)) (congrArg (iv .u8) (remN x2 9))) rfl rfl rfl ?_
            refine ml_val (MY.to (a' := iv .i64 ((x2.toNat % 9 : Nat) : Int)) (my_conv ⟨_, Try.underlying5⟩ Try.underlying3 rfl) (congrArg (iv .i64) (wrapNat (by omega)))) rfl rfl rfl ?_
            refine ml_val (my_sub64 rfl rfl (by omega)) rfl rfl rfl ?_
            refine ml_val (my_assign (Sm.v _)) rfl rfl rfl ?_
            refine ml_nil ?_
            exact ⟨_, rfl, rfl, rfl, rfl, rfl, rfl, rfl, rfl, rfl, rfl⟩
          · skip
            refine m_skip ?_
            exact ⟨_, rfl, rfl, rfl, rfl, rfl, rfl, rfl, rfl, rfl, rfl⟩
        rintro Hs α ⟨now, rfl, e0, e2, e3, e4, e11, e12, e13, e14, e16⟩
        obtain ⟨σ, rfl⟩ : ∃ σ, α = ua (ua (ua (ua (ua (ua (ua (ua (ua σ 0 (.sl (c.map u8A))) 2 (sv raw)) 3 (iv .i64 ver)) 4 (.sl (b.map u8A))) 11 (.ptr p [] 0)) 12 (.ptr k1 [] 0)) 13 (iv .i64 (i : Int))) 14 (sv key)) 16 (iv .i64 now) := ⟨α, by rw [ua_self α e0, ua_self α e2, ua_self α e3, ua_self α e4, ua_self α e11, ua_self α e12, ua_self α e13, ua_self α e14, ua_self α e16]⟩
        clear e0 e2 e3 e4 e11 e12 e13 e14 e16
        refine z_seq ?_
        refine m_seq ?_
        refine m_seq ?_
        refine m_region ?_
        refine ml_val (my_move (Sm.sl _)) rfl rfl rfl ?_
        refine ml_val (my_move (Sm.v _)) rfl rfl rfl ?_
        refine ml_val (MY.to (a' := iv .i64 ((i + 2 : Nat) : Int)) (my_add64 rfl rfl (by omega)) (congrArg (iv .i64) (by omega))) rfl rfl rfl ?_
        refine ml_val (my_indexS Try.underlying28 I5 S5 rfl rfl (by omega) (u8_at (show c[((i + 2 : Nat) : Int).toNat]? = _ from hx2)) rfl) rfl rfl rfl ?_
        refine ml_val (my_loadF Try.underlying5 rfl rfl (fun h => absurd (show false = true from h) Bool.false_ne_true) rfl) rfl rfl rfl ?_
        refine ml_val (my_eql rfl rfl) rfl rfl rfl ?_
        refine ml_nil ?_
        refine z_seq ?_
        refine m_cutN (fun Hs α => ∃ (now : Int), Hs = [⟨p, .box 58 (.agg [iv .i64 s.most, .osl r, iv .i64 s.count])⟩, ⟨r, .row 41 3 (recsA s.recs)⟩, ⟨k1, .box 46 (.agg [iv .i64 s.most, .sl (recsA s.recs), iv .i64 s.count])⟩] ∧ α 0 = .sl (c.map u8A) ∧ α 2 = sv raw ∧ α 3 = iv .i64 ver ∧ α 4 = .sl (b.map u8A) ∧ α 11 = .ptr p [] 0 ∧ α 12 = .ptr k1 [] 0 ∧ α 13 = iv .i64 (i : Int) ∧ α 14 = sv key ∧ α 16 = iv .i64 now) ?_ ?_
        · skip
          refine m_condp rfl (fun h255 => ?_) (fun h255 => ?_)
          · skip
            refine m_region ?_
            refine ml_val (my_move (Sm.v _)) rfl rfl rfl ?_
            refine ml_val (my_assign (Sm.v _)) rfl rfl rfl ?_
            refine ml_nil ?_
            exact ⟨_, rfl, rfl, rfl, rfl, rfl, rfl, rfl, rfl, rfl, rfl⟩
          · skip
            refine m_skip ?_
            exact ⟨_, rfl, rfl, rfl, rfl, rfl, rfl, rfl, rfl, rfl, rfl⟩
        rintro Hs α ⟨now, rfl, e0, e2, e3, e4, e11, e12, e13, e14, e16⟩
        obtain ⟨σ, rfl⟩ : ∃ σ, α = ua (ua (ua (ua (ua (ua (ua (ua (ua σ 0 (.sl (c.map u8A))) 2 (sv raw)) 3 (iv .i64 ver)) 4 (.sl (b.map u8A))) 11 (.ptr p [] 0)) 12 (.ptr k1 [] 0)) 13 (iv .i64 (i : Int))) 14 (sv key)) 16 (iv .i64 now) := ⟨α, by rw [ua_self α e0, ua_self α e2, ua_self α e3, ua_self α e4, ua_self α e11, ua_self α e12, ua_self α e13, ua_self α e14, ua_self α e16]⟩
        clear e0 e2 e3 e4 e11 e12 e13 e14 e16
        refine z_seq ?_
        refine m_seq ?_
        refine m_regionD (fun i => List.contains [] i) [] [(0, true), (1, true), (2, true), (3, true), (4, true), (5, true), (6, true), (7, true), (8, true), (9, false), (10, true)] mixed (by kernel_rfl) ?_
        refine mr_val rfl (my_move (Sm.sl _)) rfl rfl rfl ?_
        refine mr_val rfl (my_move (Sm.v _)) rfl rfl rfl ?_
        refine mr_val rfl (my_indexS Try.underlying28 I5 S5 rfl rfl (by omega) (u8_at (show c[((i + 0 : Nat) : Int).toNat]? = _ from hx0)) rfl) rfl rfl rfl ?_
        refine mr_val rfl (my_loadF Try.underlying5 rfl rfl (fun h => absurd (show false = true from h) Bool.false_ne_true) rfl) rfl rfl rfl ?_
        refine mr_val rfl (my_move (Sm.sl _)) rfl rfl rfl ?_
        refine mr_val rfl (my_move (Sm.v _)) rfl rfl rfl ?_
        refine mr_val rfl (MY.to (a' := iv .i64 ((i + 2 : Nat) : Int)) (my_add64 rfl rfl (by omega)) (congrArg (iv .i64) (by omega))) rfl rfl rfl ?_
        refine mr_val rfl (my_indexS Try.underlying28 I5 S5 rfl rfl (by omega) (u8_at (show c[((i + 2 : Nat) : Int).toNat]? = _ from hx2)) rfl) rfl rfl rfl ?_
        refine mr_val rfl (my_loadF Try.underlying5 rfl rfl (fun h => absurd (show false = true from h) Bool.false_ne_true) rfl) rfl rfl rfl ?_
        refine mr_ow rfl rfl rfl (mo_frz 112 (mo_lit (W := []) (ls := ([x0, x2] : List UInt8).map u8A) (xs := [_, _]) Try.underlying28 I5 Z5 S5 rfl rfl rfl rfl rfl rfl rfl (fun k2 => ⟨k2, _, rfl, rfl, ?_⟩)))
        refine mr_val rfl (my_assign (Sm.sl _)) rfl rfl rfl ?_
        refine mr_nil ?_
        refine z_seq ?_
        refine m_seq ?_
        refine m_seq ?_
        refine m_region ?_
        refine ml_val (my_move (Sm.sl _)) rfl rfl rfl ?_
        refine ml_val (my_move (Sm.v _)) rfl rfl rfl ?_
        refine ml_val (MY.to (a' := iv .i64 ((i + 2 : Nat) : Int)) (my_add64 rfl rfl (by omega)) (congrArg (iv .i64) (by omega))) rfl rfl rfl ?_
        refine ml_val (my_indexS Try.underlying28 I5 S5 rfl rfl (by omega) (u8_at (show c[((i + 2 : Nat) : Int).toNat]? = _ from hx2)) rfl) rfl rfl rfl ?_
        refine ml_val (my_loadF Try.underlying5 rfl rfl (fun h => absurd (show false = true from h) Bool.false_ne_true) rfl) rfl rfl rfl ?_
        refine ml_val (MY.to (a' := iv .u8 ((x2.toNat % 16 : Nat) : Int)) (my_rem rfl rfl (by decide)) (congrArg (iv .u8) (remN x2 16))) rfl rfl rfl ?_
        refine ml_val (my_eql rfl rfl) rfl rfl rfl ?_
        refine ml_nil ?_
        refine z_seq ?_
        refine m_cutN (fun Hs α => ∃ (v : List UInt8), v.length ≤ 100 ∧ Hs = [⟨p, .box 58 (.agg [iv .i64 s.most, .osl r, iv .i64 s.count])⟩, ⟨r, .row 41 3 (recsA s.recs)⟩, ⟨k1, .box 46 (.agg [iv .i64 s.most, .sl (recsA s.recs), iv .i64 s.count])⟩] ∧ α 0 = .sl (c.map u8A) ∧ α 2 = sv raw ∧ α 3 = iv .i64 ver ∧ α 4 = .sl (b.map u8A) ∧ α 11 = .ptr p [] 0 ∧ α 12 = .ptr k1 [] 0 ∧ α 13 = iv .i64 (i : Int) ∧ α 14 = sv key ∧ α 16 = iv .i64 now ∧ α 17 = .sl (v.map u8A)) ?_ ?_
        · skip
          refine m_condp rfl (fun h16 => ?_) (fun h16 => ?_)
          · skip
            refine m_region ?_
            refine ml_val (my_move (Sm.sl _)) rfl rfl rfl ?_
            refine ml_val (my_assign (Sm.sl _)) rfl rfl rfl ?_
            refine ml_nil ?_
            exact ⟨b, by omega, rfl, rfl, rfl, rfl, rfl, rfl, rfl, rfl, rfl, rfl, rfl⟩
          · skip
            refine m_skip ?_
            exact ⟨[x0, x2], by simp, rfl, rfl, rfl, rfl, rfl, rfl, rfl, rfl, rfl, rfl, rfl⟩
        rintro Hs α ⟨v, hv1, rfl, e0, e2, e3, e4, e11, e12, e13, e14, e16, e17⟩
        obtain ⟨σ, rfl⟩ : ∃ σ, α = ua (ua (ua (ua (ua (ua (ua (ua (ua (ua σ 0 (.sl (c.map u8A))) 2 (sv raw)) 3 (iv .i64 ver)) 4 (.sl (b.map u8A))) 11 (.ptr p [] 0)) 12 (.ptr k1 [] 0)) 13 (iv .i64 (i : Int))) 14 (sv key)) 16 (iv .i64 now)) 17 (.sl (v.map u8A)) := ⟨α, by rw [ua_self α e0, ua_self α e2, ua_self α e3, ua_self α e4, ua_self α e11, ua_self α e12, ua_self α e13, ua_self α e14, ua_self α e16, ua_self α e17]⟩
        clear e0 e2 e3 e4 e11 e12 e13 e14 e16 e17
        refine z_seq ?_
        refine m_seq ?_
        refine m_region ?_
        refine ml_val (my_assign (Sm.v _)) rfl rfl rfl ?_
        refine ml_nil ?_
        refine z_seq ?_
        refine m_seq ?_
        refine m_region ?_
        refine ml_val (my_assign (Sm.v _)) rfl rfl rfl ?_
        refine ml_nil ?_
        refine z_seq ?_
        refine m_seq ?_
        refine m_region ?_
        refine ml_val (my_assign (Sm.v _)) rfl rfl rfl ?_
        refine ml_nil ?_
        refine z_seq ?_
        refine m_seq ?_
        refine m_region ?_
        refine ml_val (my_assign (Sm.v _)) rfl rfl rfl ?_
        refine ml_nil ?_
        refine z_seq ?_
        refine m_seq ?_
        refine m_seq ?_
        refine m_region ?_
        refine ml_val (my_move (Sm.sl _)) rfl rfl rfl ?_
        refine ml_val (my_move (Sm.v _)) rfl rfl rfl ?_
        refine ml_val (my_indexS Try.underlying28 I5 S5 rfl rfl (by omega) (u8_at (show c[((i + 0 : Nat) : Int).toNat]? = _ from hx0)) rfl) rfl rfl rfl ?_
        refine ml_val (my_loadF Try.underlying5 rfl rfl (fun h => absurd (show false = true from h) Bool.false_ne_true) rfl) rfl rfl rfl ?_
        refine ml_val (MY.to (a' := iv .u8 ((x0.toNat % 4 : Nat) : Int)) (my_rem rfl rfl (by decide)) (congrArg (iv .u8) (remN x0 4))) rfl rfl rfl ?_
        refine ml_nil ?_
        refine z_seq ?_
        refine m_block ?_
        refine m_seq ?_
        refine m_seq ?_
        refine m_region ?_
        have h4 : x0.toNat % 4 = 0 ∨ x0.toNat % 4 = 1 ∨ x0.toNat % 4 = 2 ∨ x0.toNat % 4 = 3 := by omega
        rcases h4 with h4 | h4 | h4 | h4
        · skip
          refine ml_val (MY.to (a' := tv true) (my_eql rfl rfl) (congrArg tv (decide_eq_true (by omega)))) rfl rfl rfl ?_
          refine ml_val (my_assign (Sm.v _)) rfl rfl rfl ?_
          refine ml_nil ?_
          refine z_seq ?_
          refine m_condT rfl ?_
          refine m_skip ?_
          refine z_seq ?_
          refine m_condT rfl ?_
          refine m_seq ?_
          refine m_region ?_
          refine ml_val (my_move (Sm.ptr _ _ _)) rfl rfl rfl ?_
          refine ml_val (my_move (Sm.v _)) rfl rfl rfl ?_
          refine ml_val (my_move (Sm.v _)) rfl rfl rfl ?_
          refine ml_val (my_move (Sm.sl _)) rfl rfl rfl ?_
          refine ml_ow rfl (mo_call [0, 1] fn14 rfl rfl (Cas_e p r s hw key now v (by omega)) rfl rfl (fun Hs' a hp => ?_))
          obtain ⟨r1, s1, a1, b1, hc1, rfl, rfl⟩ := hp
          refine ml_norm [3, 2, 4] [⟨_, _⟩, ⟨_, _⟩, ⟨_, _⟩] (by decide) rfl ?_
          obtain ⟨hS1, hb1⟩ := hS.casE hc1
          refine ml_val (my_move (Sm.tup _)) rfl rfl rfl ?_
          refine ml_val (my_extract rfl rfl) rfl rfl rfl ?_
          refine ml_val (my_extract rfl rfl) rfl rfl rfl ?_
          refine ml_val (my_assign (Sm.v _)) rfl rfl rfl ?_
          refine ml_val (my_assign (Sm.v _)) rfl rfl rfl ?_
          refine ml_nil ?_
          refine z_seq ?_
          refine m_seq ?_
          refine m_region ?_
          refine ml_val (my_load Try.underlying46 rfl (q := 1) rfl rfl rfl rfl rfl (fun _ => ⟨_, I46, S46⟩) rfl rfl) rfl rfl rfl ?_
          refine ml_val (my_move (Sm.v _)) rfl rfl rfl ?_
          refine ml_val (my_move (Sm.v _)) rfl rfl rfl ?_
          refine ml_val (my_move (Sm.sl _)) rfl rfl rfl ?_
          refine ml_ow rfl (mo_call [] fn20 rfl rfl (CasT_e hS (by omega) hc1) rfl rfl (fun Hs' a hp => ?_))
          obtain ⟨rfl, rfl⟩ := hp
          refine ml_norm [0, 1, 2] [⟨_, _⟩, ⟨_, _⟩, ⟨_, _⟩] (by decide) rfl ?_
          refine ml_val (my_move (Sm.tup _)) rfl rfl rfl ?_
          refine ml_val (my_extract rfl rfl) rfl rfl rfl ?_
          refine ml_val (my_extract rfl rfl) rfl rfl rfl ?_
          refine ml_val (my_extract rfl rfl) rfl rfl rfl ?_
          refine ml_ow rfl (mo_alloc (W := []) I46 Z46 RZ46s rfl (fun k3 => ?_))
          refine ml_ow rfl (mo_store I46 S46 rfl rfl rfl (q := 3) rfl rfl rfl rfl rfl ?_)
          refine ml_val (my_assign (Sm.v _)) rfl rfl rfl ?_
          refine ml_val (my_assign (Sm.v _)) rfl rfl rfl ?_
          refine ml_nil ?_
          refine z_seq ?_
          refine m_seq ?_
          refine m_region ?_
          refine ml_val (my_load Try.underlying46 rfl (q := 3) rfl rfl rfl rfl rfl (fun _ => ⟨_, I46, S46⟩) rfl rfl) rfl rfl rfl ?_
          refine ml_ow rfl (mo_store I46 S46 rfl rfl rfl (q := 1) rfl rfl rfl rfl rfl ?_)
          refine ml_nil ?_
          refine z_seq ?_
          refine m_seq ?_
          refine m_region ?_
          refine ml_val (my_move (Sm.v _)) rfl rfl rfl ?_
          refine ml_val (my_assign (Sm.v _)) rfl rfl rfl ?_
          refine ml_nil ?_
          refine z_seq ?_
          refine m_seq ?_
          refine m_region ?_
          refine ml_val (my_move (Sm.v _)) rfl rfl rfl ?_
          refine ml_val (my_assign (Sm.v _)) rfl rfl rfl ?_
          refine ml_nil ?_
          refine z_seq ?_
          refine m_seq ?_
          refine m_region ?_
          refine ml_val (my_move (Sm.v _)) rfl rfl rfl ?_
          refine ml_val (MY.to (a' := iv .i64 b1) (my_conv ⟨_, Try.underlying24⟩ Try.underlying3 rfl) (congrArg (iv .i64) (wrap64_eq (by omega) (by omega)))) rfl rfl rfl ?_
          refine ml_val (my_assign (Sm.v _)) rfl rfl rfl ?_
          refine ml_nil ?_
          refine z_seq ?_
          refine m_region ?_
          refine ml_val (my_move (Sm.v _)) rfl rfl rfl ?_
          refine ml_val (my_assign (Sm.v _)) rfl rfl rfl ?_
          refine ml_nil ?_
          refine z_blk ?_
          refine z_seq ?_
          refine m_seq ?_
          refine m_region ?_
          refine ml_val (my_move (Sm.v _)) rfl rfl rfl ?_
          refine ml_val (my_move (Sm.v _)) rfl rfl rfl ?_
          refine ml_val (MY.to (a' := tv false) (my_neq rfl rfl) (congrArg tv (decide_eq_false (fun h => h rfl)))) rfl rfl rfl ?_
          refine ml_val (my_move (Sm.v _)) rfl rfl rfl ?_
          first | refine ml_skipG rfl rfl rfl rfl rfl rfl ?_ | refine ml_valG (my_move (Sm.v _)) rfl rfl rfl rfl rfl ?_
          first | refine ml_skipG rfl rfl rfl rfl rfl rfl ?_ | refine ml_valG (my_move (Sm.v _)) rfl rfl rfl rfl rfl ?_
          refine ml_valG (MY.to (a' := tv false) (my_neq rfl rfl) (congrArg tv (decide_eq_false (fun h => h rfl)))) rfl rfl rfl rfl rfl ?_
          refine ml_val (my_pickF rfl (Sm.v _)) rfl rfl rfl ?_
          refine ml_val (my_move (Sm.v _)) rfl rfl rfl ?_
          first | refine ml_skipG rfl rfl rfl rfl rfl rfl ?_ | refine ml_valG (my_move (Sm.ptr _ _ _)) rfl rfl rfl rfl rfl ?_
          first | refine ml_skipG rfl rfl rfl rfl rfl rfl ?_ | refine ml_valG (my_load Try.underlying46 rfl (q := 1) rfl rfl rfl rfl rfl (fun _ => ⟨_, I46, S46⟩) rfl rfl) rfl rfl rfl rfl rfl ?_
          first | refine ml_skipG rfl rfl rfl rfl rfl rfl ?_ | refine ml_valG (my_move (Sm.v _)) rfl rfl rfl rfl rfl ?_
          refine ml_owG rfl rfl rfl (mo_call [0, 2] fn23 rfl rfl (alike_c p r1 s1 (hS1.well (by omega)) hS1.vals key) rfl rfl (fun Hs' a hp => ?_))
          obtain ⟨rfl, rfl⟩ := hp
          refine ml_norm [4, 1, 5, 3] [⟨_, _⟩, ⟨_, _⟩, ⟨_, _⟩, ⟨_, _⟩] (by decide) rfl ?_
          refine ml_valG (MY.to (a' := tv false) (my_not rfl) rfl) rfl rfl rfl rfl rfl ?_
          refine ml_val (my_pickF rfl (Sm.v _)) rfl rfl rfl ?_
          refine ml_nil ?_
          refine z_seq ?_
          refine m_condF rfl ?_
          refine m_skip ?_
          refine z_blk ?_
          refine z_seq ?_
          refine m_norm [0, 2, 1] [⟨_, _⟩, ⟨_, _⟩, ⟨_, _⟩] (by decide) rfl ?_
          refine m_region ?_
          refine ml_val (my_move (Sm.v _)) rfl rfl rfl ?_
          refine ml_val (MY.to (a' := iv .i64 ((i + 3 : Nat) : Int)) (my_add64 rfl rfl (by omega)) (congrArg (iv .i64) (by omega))) rfl rfl rfl ?_
          refine ml_val (my_assign (Sm.v _)) rfl rfl rfl ?_
          refine ml_nil ?_
          exact z_lpN (63 - (i + 3)) (by omega) ⟨i + 3, r1, s1, rfl, rfl, rfl, rfl, rfl, rfl, rfl, rfl, by omega, rfl, hS1.mono (by omega)⟩
        · skip
          refine ml_val (MY.to (a' := tv false) (my_eql rfl rfl) (congrArg tv (decide_eq_false (by omega)))) rfl rfl rfl ?_
          refine ml_val (my_assign (Sm.v _)) rfl rfl rfl ?_
          refine ml_nil ?_
          refine z_seq ?_
          refine m_condF rfl ?_
          refine m_region ?_
          refine ml_val (MY.to (a' := tv true) (my_eql rfl rfl) (congrArg tv (decide_eq_true (by omega)))) rfl rfl rfl ?_
          refine ml_val (my_assign (Sm.v _)) rfl rfl rfl ?_
          refine ml_nil ?_
          refine z_seq ?_
          refine m_condT rfl ?_
          refine m_seq ?_
          refine m_region ?_
          refine ml_val (my_move (Sm.ptr _ _ _)) rfl rfl rfl ?_
          refine ml_val (my_move (Sm.v _)) rfl rfl rfl ?_
          refine ml_val (my_move (Sm.v _)) rfl rfl rfl ?_
          refine ml_val (my_move (Sm.sl _)) rfl rfl rfl ?_
          refine ml_ow rfl (mo_call [0, 1] fn14 rfl rfl (Cas_e p r s hw key now v (by omega)) rfl rfl (fun Hs' a hp => ?_))
          obtain ⟨r1, s1, a1, b1, hc1, rfl, rfl⟩ := hp
          refine ml_norm [3, 2, 4] [⟨_, _⟩, ⟨_, _⟩, ⟨_, _⟩] (by decide) rfl ?_
          obtain ⟨hS1, hb1⟩ := hS.casE hc1
          refine ml_val (my_move (Sm.tup _)) rfl rfl rfl ?_
          refine ml_val (my_extract rfl rfl) rfl rfl rfl ?_
          refine ml_val (my_extract rfl rfl) rfl rfl rfl ?_
          refine ml_val (my_assign (Sm.v _)) rfl rfl rfl ?_
          refine ml_val (my_assign (Sm.v _)) rfl rfl rfl ?_
          refine ml_nil ?_
          refine z_seq ?_
          refine m_seq ?_
          refine m_region ?_
          refine ml_val (my_load Try.underlying46 rfl (q := 1) rfl rfl rfl rfl rfl (fun _ => ⟨_, I46, S46⟩) rfl rfl) rfl rfl rfl ?_
          refine ml_val (my_move (Sm.v _)) rfl rfl rfl ?_
          refine ml_val (my_move (Sm.v _)) rfl rfl rfl ?_
          refine ml_val (my_move (Sm.sl _)) rfl rfl rfl ?_
          refine ml_ow rfl (mo_call [] fn20 rfl rfl (CasT_e hS (by omega) hc1) rfl rfl (fun Hs' a hp => ?_))
          obtain ⟨rfl, rfl⟩ := hp
          refine ml_norm [0, 1, 2] [⟨_, _⟩, ⟨_, _⟩, ⟨_, _⟩] (by decide) rfl ?_
          refine ml_val (my_move (Sm.tup _)) rfl rfl rfl ?_
          refine ml_val (my_extract rfl rfl) rfl rfl rfl ?_
          refine ml_val (my_extract rfl rfl) rfl rfl rfl ?_
          refine ml_val (my_extract rfl rfl) rfl rfl rfl ?_
          refine ml_ow rfl (mo_alloc (W := []) I46 Z46 RZ46s rfl (fun k4 => ?_))
          refine ml_ow rfl (mo_store I46 S46 rfl rfl rfl (q := 3) rfl rfl rfl rfl rfl ?_)
          refine ml_val (my_assign (Sm.v _)) rfl rfl rfl ?_
          refine ml_val (my_assign (Sm.v _)) rfl rfl rfl ?_
          refine ml_nil ?_
          refine z_seq ?_
          refine m_seq ?_
          refine m_region ?_
          refine ml_val (my_load Try.underlying46 rfl (q := 3) rfl rfl rfl rfl rfl (fun _ => ⟨_, I46, S46⟩) rfl rfl) rfl rfl rfl ?_
          refine ml_ow rfl (mo_store I46 S46 rfl rfl rfl (q := 1) rfl rfl rfl rfl rfl ?_)
          refine ml_nil ?_
          refine z_seq ?_
          refine m_seq ?_
          refine m_region ?_
          refine ml_val (my_move (Sm.v _)) rfl rfl rfl ?_
          refine ml_val (my_assign (Sm.v _)) rfl rfl rfl ?_
          refine ml_nil ?_
          refine z_seq ?_
          refine m_seq ?_
          refine m_region ?_
          refine ml_val (my_move (Sm.v _)) rfl rfl rfl ?_
          refine ml_val (my_assign (Sm.v _)) rfl rfl rfl ?_
          refine ml_nil ?_
          refine z_seq ?_
          refine m_seq ?_
          refine m_region ?_
          refine ml_val (my_move (Sm.v _)) rfl rfl rfl ?_
          refine ml_val (MY.to (a' := iv .i64 b1) (my_conv ⟨_, Try.underlying24⟩ Try.underlying3 rfl) (congrArg (iv .i64) (wrap64_eq (by omega) (by omega)))) rfl rfl rfl ?_
          refine ml_val (my_assign (Sm.v _)) rfl rfl rfl ?_
          refine ml_nil ?_
          refine z_seq ?_
          refine m_region ?_
          refine ml_val (my_move (Sm.v _)) rfl rfl rfl ?_
          refine ml_val (my_assign (Sm.v _)) rfl rfl rfl ?_
          refine ml_nil ?_
          refine z_blk ?_
          refine z_seq ?_
          refine m_seq ?_
          refine m_region ?_
          refine ml_val (my_move (Sm.v _)) rfl rfl rfl ?_
          refine ml_val (my_move (Sm.v _)) rfl rfl rfl ?_
          refine ml_val (MY.to (a' := tv false) (my_neq rfl rfl) (congrArg tv (decide_eq_false (fun h => h rfl)))) rfl rfl rfl ?_
          refine ml_val (my_move (Sm.v _)) rfl rfl rfl ?_
          first | refine ml_skipG rfl rfl rfl rfl rfl rfl ?_ | refine ml_valG (my_move (Sm.v _)) rfl rfl rfl rfl rfl ?_
          first | refine ml_skipG rfl rfl rfl rfl rfl rfl ?_ | refine ml_valG (my_move (Sm.v _)) rfl rfl rfl rfl rfl ?_
          refine ml_valG (MY.to (a' := tv false) (my_neq rfl rfl) (congrArg tv (decide_eq_false (fun h => h rfl)))) rfl rfl rfl rfl rfl ?_
          refine ml_val (my_pickF rfl (Sm.v _)) rfl rfl rfl ?_
          refine ml_val (my_move (Sm.v _)) rfl rfl rfl ?_
          first | refine ml_skipG rfl rfl rfl rfl rfl rfl ?_ | refine ml_valG (my_move (Sm.ptr _ _ _)) rfl rfl rfl rfl rfl ?_
          first | refine ml_skipG rfl rfl rfl rfl rfl rfl ?_ | refine ml_valG (my_load Try.underlying46 rfl (q := 1) rfl rfl rfl rfl rfl (fun _ => ⟨_, I46, S46⟩) rfl rfl) rfl rfl rfl rfl rfl ?_
          first | refine ml_skipG rfl rfl rfl rfl rfl rfl ?_ | refine ml_valG (my_move (Sm.v _)) rfl rfl rfl rfl rfl ?_
          refine ml_owG rfl rfl rfl (mo_call [0, 2] fn23 rfl rfl (alike_c p r1 s1 (hS1.well (by omega)) hS1.vals key) rfl rfl (fun Hs' a hp => ?_))
          obtain ⟨rfl, rfl⟩ := hp
          refine ml_norm [4, 1, 5, 3] [⟨_, _⟩, ⟨_, _⟩, ⟨_, _⟩, ⟨_, _⟩] (by decide) rfl ?_
          refine ml_valG (MY.to (a' := tv false) (my_not rfl) rfl) rfl rfl rfl rfl rfl ?_
          refine ml_val (my_pickF rfl (Sm.v _)) rfl rfl rfl ?_
          refine ml_nil ?_
          refine z_seq ?_
          refine m_condF rfl ?_
          refine m_skip ?_
          refine z_blk ?_
          refine z_seq ?_
          refine m_norm [0, 2, 1] [⟨_, _⟩, ⟨_, _⟩, ⟨_, _⟩] (by decide) rfl ?_
          refine m_region ?_
          refine ml_val (my_move (Sm.v _)) rfl rfl rfl ?_
          refine ml_val (MY.to (a' := iv .i64 ((i + 3 : Nat) : Int)) (my_add64 rfl rfl (by omega)) (congrArg (iv .i64) (by omega))) rfl rfl rfl ?_
          refine ml_val (my_assign (Sm.v _)) rfl rfl rfl ?_
          refine ml_nil ?_
          exact z_lpN (63 - (i + 3)) (by omega) ⟨i + 3, r1, s1, rfl, rfl, rfl, rfl, rfl, rfl, rfl, rfl, by omega, rfl, hS1.mono (by omega)⟩
        · skip
          refine ml_val (MY.to (a' := tv false) (my_eql rfl rfl) (congrArg tv (decide_eq_false (by omega)))) rfl rfl rfl ?_
          refine ml_val (my_assign (Sm.v _)) rfl rfl rfl ?_
          refine ml_nil ?_
          refine z_seq ?_
          refine m_condF rfl ?_
          refine m_region ?_
          refine ml_val (MY.to (a' := tv false) (my_eql rfl rfl) (congrArg tv (decide_eq_false (by omega)))) rfl rfl rfl ?_
          refine ml_val (my_assign (Sm.v _)) rfl rfl rfl ?_
          refine ml_nil ?_
          refine z_seq ?_
          refine m_condF rfl ?_
          refine m_seq ?_
          refine m_region ?_
          refine ml_val (MY.to (a' := tv true) (my_eql rfl rfl) (congrArg tv (decide_eq_true (by omega)))) rfl rfl rfl ?_
          refine ml_val (my_assign (Sm.v _)) rfl rfl rfl ?_
          refine ml_nil ?_
          refine z_seq ?_
          refine m_condT rfl ?_
          refine m_seq ?_
          refine m_region ?_
          refine ml_val (my_move (Sm.ptr _ _ _)) rfl rfl rfl ?_
          refine ml_val (my_move (Sm.v _)) rfl rfl rfl ?_
          refine ml_val (my_move (Sm.sl _)) rfl rfl rfl ?_
          refine ml_ow rfl (mo_call [0, 1] fn9 rfl rfl (Put_c p r s hw key v (by omega)) rfl rfl (fun Hs' a hp => ?_))
          obtain ⟨r1, s1, a1, b1, hc1, rfl, rfl⟩ := hp
          refine ml_norm [3, 2, 4] [⟨_, _⟩, ⟨_, _⟩, ⟨_, _⟩] (by decide) rfl ?_
          obtain ⟨hS1, hb1⟩ := hS.putE hc1
          refine ml_val (my_move (Sm.tup _)) rfl rfl rfl ?_
          refine ml_val (my_extract rfl rfl) rfl rfl rfl ?_
          refine ml_val (my_extract rfl rfl) rfl rfl rfl ?_
          refine ml_val (my_assign (Sm.v _)) rfl rfl rfl ?_
          refine ml_val (my_assign (Sm.v _)) rfl rfl rfl ?_
          refine ml_nil ?_
          refine z_seq ?_
          refine m_seq ?_
          refine m_region ?_
          refine ml_val (my_load Try.underlying46 rfl (q := 1) rfl rfl rfl rfl rfl (fun _ => ⟨_, I46, S46⟩) rfl rfl) rfl rfl rfl ?_
          refine ml_val (my_move (Sm.v _)) rfl rfl rfl ?_
          refine ml_val (my_move (Sm.sl _)) rfl rfl rfl ?_
          refine ml_ow rfl (mo_call [] fn21 rfl rfl (PutT_e hS (by omega) hc1) rfl rfl (fun Hs' a hp => ?_))
          obtain ⟨rfl, rfl⟩ := hp
          refine ml_norm [0, 1, 2] [⟨_, _⟩, ⟨_, _⟩, ⟨_, _⟩] (by decide) rfl ?_
          refine ml_val (my_move (Sm.tup _)) rfl rfl rfl ?_
          refine ml_val (my_extract rfl rfl) rfl rfl rfl ?_
          refine ml_val (my_extract rfl rfl) rfl rfl rfl ?_
          refine ml_val (my_extract rfl rfl) rfl rfl rfl ?_
          refine ml_ow rfl (mo_alloc (W := []) I46 Z46 RZ46s rfl (fun k5 => ?_))
          refine ml_ow rfl (mo_store I46 S46 rfl rfl rfl (q := 3) rfl rfl rfl rfl rfl ?_)
          refine ml_val (my_assign (Sm.v _)) rfl rfl rfl ?_
          refine ml_val (my_assign (Sm.v _)) rfl rfl rfl ?_
          refine ml_nil ?_
          refine z_seq ?_
          refine m_seq ?_
          refine m_region ?_
          refine ml_val (my_load Try.underlying46 rfl (q := 3) rfl rfl rfl rfl rfl (fun _ => ⟨_, I46, S46⟩) rfl rfl) rfl rfl rfl ?_
          refine ml_ow rfl (mo_store I46 S46 rfl rfl rfl (q := 1) rfl rfl rfl rfl rfl ?_)
          refine ml_nil ?_
          refine z_seq ?_
          refine m_seq ?_
          refine m_region ?_
          refine ml_val (my_move (Sm.v _)) rfl rfl rfl ?_
          refine ml_val (my_assign (Sm.v _)) rfl rfl rfl ?_
          refine ml_nil ?_
          refine z_seq ?_
          refine m_seq ?_
          refine m_region ?_
          refine ml_val (my_move (Sm.v _)) rfl rfl rfl ?_
          refine ml_val (my_assign (Sm.v _)) rfl rfl rfl ?_
          refine ml_nil ?_
          refine z_seq ?_
          refine m_seq ?_
          refine m_region ?_
          refine ml_val (my_move (Sm.v _)) rfl rfl rfl ?_
          refine ml_val (MY.to (a' := iv .i64 b1) (my_conv ⟨_, Try.underlying24⟩ Try.underlying3 rfl) (congrArg (iv .i64) (wrap64_eq (by omega) (by omega)))) rfl rfl rfl ?_
          refine ml_val (my_assign (Sm.v _)) rfl rfl rfl ?_
          refine ml_nil ?_
          refine z_seq ?_
          refine m_region ?_
          refine ml_val (my_move (Sm.v _)) rfl rfl rfl ?_
          refine ml_val (my_assign (Sm.v _)) rfl rfl rfl ?_
          refine ml_nil ?_
          refine z_blk ?_
          refine z_seq ?_
          refine m_seq ?_
          refine m_region ?_
          refine ml_val (my_move (Sm.v _)) rfl rfl rfl ?_
          refine ml_val (my_move (Sm.v _)) rfl rfl rfl ?_
          refine ml_val (MY.to (a' := tv false) (my_neq rfl rfl) (congrArg tv (decide_eq_false (fun h => h rfl)))) rfl rfl rfl ?_
          refine ml_val (my_move (Sm.v _)) rfl rfl rfl ?_
          first | refine ml_skipG rfl rfl rfl rfl rfl rfl ?_ | refine ml_valG (my_move (Sm.v _)) rfl rfl rfl rfl rfl ?_
          first | refine ml_skipG rfl rfl rfl rfl rfl rfl ?_ | refine ml_valG (my_move (Sm.v _)) rfl rfl rfl rfl rfl ?_
          refine ml_valG (MY.to (a' := tv false) (my_neq rfl rfl) (congrArg tv (decide_eq_false (fun h => h rfl)))) rfl rfl rfl rfl rfl ?_
          refine ml_val (my_pickF rfl (Sm.v _)) rfl rfl rfl ?_
          refine ml_val (my_move (Sm.v _)) rfl rfl rfl ?_
          first | refine ml_skipG rfl rfl rfl rfl rfl rfl ?_ | refine ml_valG (my_move (Sm.ptr _ _ _)) rfl rfl rfl rfl rfl ?_
          first | refine ml_skipG rfl rfl rfl rfl rfl rfl ?_ | refine ml_valG (my_load Try.underlying46 rfl (q := 1) rfl rfl rfl rfl rfl (fun _ => ⟨_, I46, S46⟩) rfl rfl) rfl rfl rfl rfl rfl ?_
          first | refine ml_skipG rfl rfl rfl rfl rfl rfl ?_ | refine ml_valG (my_move (Sm.v _)) rfl rfl rfl rfl rfl ?_
          refine ml_owG rfl rfl rfl (mo_call [0, 2] fn23 rfl rfl (alike_c p r1 s1 (hS1.well (by omega)) hS1.vals key) rfl rfl (fun Hs' a hp => ?_))
          obtain ⟨rfl, rfl⟩ := hp
          refine ml_norm [4, 1, 5, 3] [⟨_, _⟩, ⟨_, _⟩, ⟨_, _⟩, ⟨_, _⟩] (by decide) rfl ?_
          refine ml_valG (MY.to (a' := tv false) (my_not rfl) rfl) rfl rfl rfl rfl rfl ?_
          refine ml_val (my_pickF rfl (Sm.v _)) rfl rfl rfl ?_
          refine ml_nil ?_
          refine z_seq ?_
          refine m_condF rfl ?_
          refine m_skip ?_
          refine z_blk ?_
          refine z_seq ?_
          refine m_norm [0, 2, 1] [⟨_, _⟩, ⟨_, _⟩, ⟨_, _⟩] (by decide) rfl ?_
          refine m_region ?_
          refine ml_val (my_move (Sm.v _)) rfl rfl rfl ?_
          refine ml_val (MY.to (a' := iv .i64 ((i + 3 : Nat) : Int)) (my_add64 rfl rfl (by omega)) (congrArg (iv .i64) (by omega))) rfl rfl rfl ?_
          refine ml_val (my_assign (Sm.v _)) rfl rfl rfl ?_
          refine ml_nil ?_
          exact z_lpN (63 - (i + 3)) (by omega) ⟨i + 3, r1, s1, rfl, rfl, rfl, rfl, rfl, rfl, rfl, rfl, by omega, rfl, hS1.mono (by omega)⟩
        · skip
          refine ml_val (MY.to (a' := tv false) (my_eql rfl rfl) (congrArg tv (decide_eq_false (by omega)))) rfl rfl rfl ?_
          refine ml_val (my_assign (Sm.v _)) rfl rfl rfl ?_
          refine ml_nil ?_
          refine z_seq ?_
          refine m_condF rfl ?_
          refine m_region ?_
          refine ml_val (MY.to (a' := tv false) (my_eql rfl rfl) (congrArg tv (decide_eq_false (by omega)))) rfl rfl rfl ?_
          refine ml_val (my_assign (Sm.v _)) rfl rfl rfl ?_
          refine ml_nil ?_
          refine z_seq ?_
          refine m_condF rfl ?_
          refine m_seq ?_
          refine m_region ?_
          refine ml_val (MY.to (a' := tv false) (my_eql rfl rfl) (congrArg tv (decide_eq_false (by omega)))) rfl rfl rfl ?_
          refine ml_val (my_assign (Sm.v _)) rfl rfl rfl ?_
          refine ml_nil ?_
          refine z_seq ?_
          refine m_condF rfl ?_
          refine m_seq ?_
          refine m_region ?_
          refine ml_val (my_move (Sm.ptr _ _ _)) rfl rfl rfl ?_
          refine ml_val (my_move (Sm.v _)) rfl rfl rfl ?_
          refine ml_val (my_move (Sm.v _)) rfl rfl rfl ?_
          refine ml_ow rfl (mo_call [0, 1] fn15 rfl rfl (Del_c p r s hw key now) rfl rfl (fun Hs' a hp => ?_))
          obtain ⟨r1, s1, b1, hc1, rfl, rfl⟩ := hp
          refine ml_norm [3, 2, 4] [⟨_, _⟩, ⟨_, _⟩, ⟨_, _⟩] (by decide) rfl ?_
          obtain ⟨hS1, hb1⟩ := hS.delE hc1
          refine ml_val (my_assign (Sm.v _)) rfl rfl rfl ?_
          refine ml_nil ?_
          refine z_seq ?_
          refine m_seq ?_
          refine m_region ?_
          refine ml_val (my_load Try.underlying46 rfl (q := 1) rfl rfl rfl rfl rfl (fun _ => ⟨_, I46, S46⟩) rfl rfl) rfl rfl rfl ?_
          refine ml_val (my_move (Sm.v _)) rfl rfl rfl ?_
          refine ml_val (my_move (Sm.v _)) rfl rfl rfl ?_
          refine ml_ow rfl (mo_call [] fn22 rfl rfl (DelT_e hS (by omega) hc1) rfl rfl (fun Hs' a hp => ?_))
          obtain ⟨rfl, rfl⟩ := hp
          refine ml_norm [0, 1, 2] [⟨_, _⟩, ⟨_, _⟩, ⟨_, _⟩] (by decide) rfl ?_
          refine ml_val (my_move (Sm.tup _)) rfl rfl rfl ?_
          refine ml_val (my_extract rfl rfl) rfl rfl rfl ?_
          refine ml_val (my_extract rfl rfl) rfl rfl rfl ?_
          refine ml_ow rfl (mo_alloc (W := []) I46 Z46 RZ46s rfl (fun k6 => ?_))
          refine ml_ow rfl (mo_store I46 S46 rfl rfl rfl (q := 3) rfl rfl rfl rfl rfl ?_)
          refine ml_val (my_assign (Sm.v _)) rfl rfl rfl ?_
          refine ml_nil ?_
          refine z_seq ?_
          refine m_seq ?_
          refine m_region ?_
          refine ml_val (my_load Try.underlying46 rfl (q := 3) rfl rfl rfl rfl rfl (fun _ => ⟨_, I46, S46⟩) rfl rfl) rfl rfl rfl ?_
          refine ml_ow rfl (mo_store I46 S46 rfl rfl rfl (q := 1) rfl rfl rfl rfl rfl ?_)
          refine ml_nil ?_
          refine z_seq ?_
          refine m_seq ?_
          refine m_region ?_
          refine ml_val (my_move (Sm.v _)) rfl rfl rfl ?_
          refine ml_val (MY.to (a' := iv .i64 b1) (my_conv ⟨_, Try.underlying24⟩ Try.underlying3 rfl) (congrArg (iv .i64) (wrap64_eq (by omega) (by omega)))) rfl rfl rfl ?_
          refine ml_val (my_assign (Sm.v _)) rfl rfl rfl ?_
          refine ml_nil ?_
          refine z_seq ?_
          refine m_region ?_
          refine ml_val (my_move (Sm.v _)) rfl rfl rfl ?_
          refine ml_val (my_assign (Sm.v _)) rfl rfl rfl ?_
          refine ml_nil ?_
          refine z_blk ?_
          refine z_seq ?_
          refine m_seq ?_
          refine m_region ?_
          refine ml_val (my_move (Sm.v _)) rfl rfl rfl ?_
          refine ml_val (my_move (Sm.v _)) rfl rfl rfl ?_
          refine ml_val (MY.to (a' := tv false) (my_neq rfl rfl) (congrArg tv (decide_eq_false (fun h => h rfl)))) rfl rfl rfl ?_
          refine ml_val (my_move (Sm.v _)) rfl rfl rfl ?_
          first | refine ml_skipG rfl rfl rfl rfl rfl rfl ?_ | refine ml_valG (my_move (Sm.v _)) rfl rfl rfl rfl rfl ?_
          first | refine ml_skipG rfl rfl rfl rfl rfl rfl ?_ | refine ml_valG (my_move (Sm.v _)) rfl rfl rfl rfl rfl ?_
          refine ml_valG (MY.to (a' := tv false) (my_neq rfl rfl) (congrArg tv (decide_eq_false (fun h => h rfl)))) rfl rfl rfl rfl rfl ?_
          refine ml_val (my_pickF rfl (Sm.v _)) rfl rfl rfl ?_
          refine ml_val (my_move (Sm.v _)) rfl rfl rfl ?_
          first | refine ml_skipG rfl rfl rfl rfl rfl rfl ?_ | refine ml_valG (my_move (Sm.ptr _ _ _)) rfl rfl rfl rfl rfl ?_
          first | refine ml_skipG rfl rfl rfl rfl rfl rfl ?_ | refine ml_valG (my_load Try.underlying46 rfl (q := 1) rfl rfl rfl rfl rfl (fun _ => ⟨_, I46, S46⟩) rfl rfl) rfl rfl rfl rfl rfl ?_
          first | refine ml_skipG rfl rfl rfl rfl rfl rfl ?_ | refine ml_valG (my_move (Sm.v _)) rfl rfl rfl rfl rfl ?_
          refine ml_owG rfl rfl rfl (mo_call [0, 2] fn23 rfl rfl (alike_c p r1 s1 (hS1.well (by omega)) hS1.vals key) rfl rfl (fun Hs' a hp => ?_))
          obtain ⟨rfl, rfl⟩ := hp
          refine ml_norm [4, 1, 5, 3] [⟨_, _⟩, ⟨_, _⟩, ⟨_, _⟩, ⟨_, _⟩] (by decide) rfl ?_
          refine ml_valG (MY.to (a' := tv false) (my_not rfl) rfl) rfl rfl rfl rfl rfl ?_
          refine ml_val (my_pickF rfl (Sm.v _)) rfl rfl rfl ?_
          refine ml_nil ?_
          refine z_seq ?_
          refine m_condF rfl ?_
          refine m_skip ?_
          refine z_blk ?_
          refine z_seq ?_
          refine m_norm [0, 2, 1] [⟨_, _⟩, ⟨_, _⟩, ⟨_, _⟩] (by decide) rfl ?_
          refine m_region ?_
          refine ml_val (my_move (Sm.v _)) rfl rfl rfl ?_
          refine ml_val (MY.to (a' := iv .i64 ((i + 3 : Nat) : Int)) (my_add64 rfl rfl (by omega)) (congrArg (iv .i64) (by omega))) rfl rfl rfl ?_
          refine ml_val (my_assign (Sm.v _)) rfl rfl rfl ?_
          refine ml_nil ?_
          exact z_lpN (63 - (i + 3)) (by omega) ⟨i + 3, r1, s1, rfl, rfl, rfl, rfl, rfl, rfl, rfl, rfl, by omega, rfl, hS1.mono (by omega)⟩
      · skip
        skip
        refine m_exit ?_
        refine z_seqX ?_
        refine z_lpX ?_
        refine z_blkX ?_
        refine z_seq ?_
        refine m_seq ?_
        refine m_region ?_
        refine ml_val (my_assign (Sm.v _)) rfl rfl rfl ?_
        refine ml_nil ?_
        refine z_seq ?_
        refine m_ret ?_
        exact ⟨tv true, mres1 rfl rfl, rfl⟩
    · skip
      refine ml_val (MY.to (a' := tv false) (my_lss rfl rfl) (congrArg tv (decide_eq_false (by omega)))) rfl rfl rfl ?_
      refine ml_val (my_move (Sm.v _)) rfl rfl rfl ?_
      refine ml_skipG rfl rfl rfl rfl rfl rfl ?_
      refine ml_skipG rfl rfl rfl rfl rfl rfl ?_
      refine ml_val (my_pickF rfl (Sm.v _)) rfl rfl rfl ?_
      refine ml_nil ?_
      refine z_seq ?_
      refine m_condF rfl ?_
      refine m_exit ?_
      refine z_seqX ?_
      refine z_lpX ?_
      refine z_blkX ?_
      refine z_seq ?_
      refine m_seq ?_
      refine m_region ?_
      refine ml_val (my_assign (Sm.v _)) rfl rfl rfl ?_
      refine ml_nil ?_
      refine z_seq ?_
      refine m_ret ?_
      exact ⟨tv true, mres1 rfl rfl, rfl⟩

end Go.Proofs.Ytlklapledogdcaa.K
