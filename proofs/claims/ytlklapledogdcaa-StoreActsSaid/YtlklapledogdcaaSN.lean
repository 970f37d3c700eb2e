/- A scan: what it goes through. Condition: the store is well. -/
import Derived.Test.YtlklapledogdcaaSN0
import Derived.Test.YtlklapledogdcaaMT
namespace Go.Proofs.Ytlklapledogdcaa.K
open Go

set_option maxRecDepth 100000 in
set_option maxHeartbeats 1000000 in
theorem from_c (p : Nat) (pf : ByteArray) : MF Try.prog 30 [.ptr p [] 0, sv pf] [] (fun Hs' res => ∃ c1 c2, Hs' = [⟨c1, .box 22 (.ptr p [] 0)⟩, ⟨c2, .box 9 (sv pf)⟩] ∧ res = .fn (.func 39) [] [.ptr c1 [] 0, .ptr c2 [] 0]) := by
  refine m_enter Try.func30 rfl Try.ntmps30 rfl ?_
  refine m_seq ?_
  refine m_region ?_
  refine ml_ow rfl (mo_box (W := []) rfl rfl rfl (fun k1 => ?_))
  refine ml_ow rfl (mo_box (W := []) rfl rfl rfl (fun k2 => ?_))
  refine ml_val (my_assign (by first | exact Sm.v _ | exact Sm.fn _ _ _)) rfl rfl rfl ?_
  refine ml_nil ?_
  refine z_seq ?_
  refine m_seq ?_
  refine m_region ?_
  refine ml_val (my_func (fs := []) (cs := [.tmp 2, .tmp 3]) rfl rfl) rfl rfl rfl ?_
  refine ml_val (my_assign (by first | exact Sm.v _ | exact Sm.fn _ _ _)) rfl rfl rfl ?_
  refine ml_nil ?_
  refine z_seq ?_
  refine m_ret ?_
  exact ⟨.fn (.func 39) [] [.ptr k1 [] 0, .ptr k2 [] 0], mres1 rfl rfl, k1, k2, rfl, rfl⟩

set_option maxRecDepth 100000 in
set_option maxHeartbeats 1000000 in
theorem from1_c (p r c1 c2 c5 q0 : Nat) (s : St) (hw : SW s) (pf : ByteArray) (g0 : G) (l : Nat) (lr : Loop) (hsz : lr.params.size = 1) (hyd : ∀ (pr : List Rc) (x : Rc) (q : Nat), pr.length < s.recs.length → x ∈ s.recs → MYd Try.prog g0 l lr [recA x] [⟨c5, .box 38 (.osl q)⟩, ⟨q, .row 41 3 (recsA pr)⟩] (RD c5 pr x)) : MF Try.prog 39 [.fn (.yield l) [] [], .ptr c1 [] 0, .ptr c2 [] 0] (SO p r c1 c2 c5 q0 s pf [] ++ [⟨0, .gh (YG g0 l lr)⟩]) (fun Hs' _ => ∃ q, Hs' = SO p r c1 c2 c5 q s pf (scanR s.recs pf)) := by
  refine m_enter Try.func39 rfl Try.ntmps39 rfl ?_
  unfold SO
  obtain ⟨L, hL⟩ : ∃ L, L = s.recs.drop (lb s.recs pf) := ⟨_, rfl⟩
  have hlb := lb_le s.recs pf
  have hlen := hw.len
  have hLl : L.length = s.recs.length - lb s.recs pf := by rw [hL, List.length_drop]
  have hLx : ∀ j, L[j]? = s.recs[lb s.recs pf + j]? := fun j => by rw [hL, List.getElem?_drop]
  refine m_seq ?_
  refine m_region ?_
  refine ml_val (my_load Try.underlying22 rfl (q := 4) rfl rfl rfl rfl rfl (fun h => absurd (show false = true from h) Bool.false_ne_true) rfl rfl) rfl rfl rfl ?_
  refine ml_val (my_load Try.underlying9 rfl (q := 5) rfl rfl rfl rfl rfl (fun h => absurd (show false = true from h) Bool.false_ne_true) rfl rfl) rfl rfl rfl ?_
  refine ml_ow rfl (mo_call [0, 1] fn26 rfl rfl (find_c p r s hw pf) rfl rfl (fun Hs' a hp => ?_))
  obtain ⟨rfl, rfl⟩ := hp
  refine ml_norm [7, 8, 2, 3, 4, 5, 6] [⟨_, _⟩, ⟨_, _⟩, ⟨_, _⟩, ⟨_, _⟩, ⟨_, _⟩, ⟨_, _⟩, ⟨_, _⟩] (by decide) rfl ?_
  refine ml_val (my_move (Sm.tup _)) rfl rfl rfl ?_
  refine ml_val (my_extract rfl rfl) rfl rfl rfl ?_
  refine ml_val (my_extract rfl rfl) rfl rfl rfl ?_
  refine ml_val (my_assign (Sm.v _)) rfl rfl rfl ?_
  refine ml_val (my_assign (Sm.v _)) rfl rfl rfl ?_
  refine ml_nil ?_
  refine z_seq ?_
  refine m_seq ?_
  refine m_region ?_
  refine ml_val (my_load Try.underlying22 rfl (q := 4) rfl rfl rfl rfl rfl (fun h => absurd (show false = true from h) Bool.false_ne_true) rfl rfl) rfl rfl rfl ?_
  refine ml_val (my_nil rfl) rfl rfl rfl ?_
  refine ml_val (my_field Try.underlying58 rfl I38 S38 rfl rfl rfl) rfl rfl rfl ?_
  refine ml_val (my_load Try.underlying38 rfl (q := 0) rfl rfl rfl rfl rfl (fun h => absurd (show false = true from h) Bool.false_ne_true) rfl rfl) rfl rfl rfl ?_
  refine ml_val (my_move (Sm.v _)) rfl rfl rfl ?_
  refine ml_val (my_loO (n' := L.length) (off' := lb s.recs pf * 3) Try.underlying38 I41 S41 (q := 1) rfl rfl rfl (by omega) (by rw [recsA_length]; omega) (by rw [recsA_length]; omega) (by omega)) rfl rfl rfl ?_
  refine ml_val (my_lenG Try.underlying38 rfl) rfl rfl rfl ?_
  refine ml_val (my_move (Sm.v _)) rfl rfl rfl ?_
  refine ml_nil ?_
  refine z_seq ?_
  refine m_block ?_
  refine m_loop (fun m Hs α => ∃ (j q : Nat), Hs = SO p r c1 c2 c5 q s pf (L.take j) ++ [⟨0, .gh (YG g0 l lr)⟩] ∧ α 0 = .fn (.yield l) [] [] ∧ α 2 = .ptr c2 [] 0 ∧ α 19 = .seg r (lb s.recs pf * 3) L.length ∧ α 20 = iv .i64 (L.length : Int) ∧ α 21 = iv .i64 (j : Int) ∧ j ≤ L.length ∧ m = L.length - j ∧ (∀ y ∈ L.take j, pre y.key pf = true)) L.length ⟨0, q0, rfl, rfl, rfl, rfl, rfl, rfl, by omega, by omega, fun y hy => by simp at hy⟩ ?_
  rintro m Hs α ⟨j, q, rfl, e0, e2, e19, e20, e21, hj, rfl, hall⟩
  unfold SO
  obtain ⟨σ, rfl⟩ : ∃ σ, α = ua (ua (ua (ua (ua σ 0 (.fn (.yield l) [] [])) 2 (.ptr c2 [] 0)) 19 (.seg r (lb s.recs pf * 3) L.length)) 20 (iv .i64 (L.length : Int))) 21 (iv .i64 (j : Int)) := ⟨α, by rw [ua_self α e0, ua_self α e2, ua_self α e19, ua_self α e20, ua_self α e21]⟩
  clear e0 e2 e19 e20 e21
  refine m_seq ?_
  refine m_region ?_
  refine ml_val (my_lss rfl rfl) rfl rfl rfl ?_
  refine ml_nil ?_
  refine z_seq ?_
  refine m_seq ?_
  refine m_condp rfl (fun hlt => ?_) (fun hlt => ?_)
  · skip
    obtain ⟨x, hx⟩ : ∃ x, L[j]? = some x := ⟨L[j], List.getElem?_eq_getElem (by omega)⟩
    have hxr : s.recs[lb s.recs pf + j]? = some x := (hLx j).symm.trans hx
    refine m_skip ?_
    refine z_seq ?_
    refine m_seq ?_
    refine m_block ?_
    refine m_seq ?_
    refine m_region ?_
    refine ml_val (my_indexG [lb s.recs pf + j] (off' := (lb s.recs pf + j) * 3) Try.underlying38 I41 S41 rfl rfl (by omega) (by omega) (by omega)) rfl rfl rfl ?_
    refine ml_val (my_loadR (i := lb s.recs pf + j) (el := recA x) Try.underlying41 rfl (q := 1) rfl (recsA_get hxr) rfl rfl rfl (fun _ => ⟨_, I41, S41⟩) rfl rfl) rfl rfl rfl ?_
    refine ml_ow rfl (mo_alloc (W := []) I41 Z41 RZ41s rfl (fun k1 => ?_))
    refine ml_ow rfl (mo_store I41 S41 rfl rfl rfl (q := 7) rfl rfl rfl rfl rfl ?_)
    refine ml_nil ?_
    refine z_seq ?_
    refine m_seq ?_
    refine m_regionI ?_
    refine mli_one rfl ?_
    refine ml_val (my_field Try.underlying41 rfl I9 S9 rfl rfl rfl) rfl rfl rfl ?_
    refine ml_nil (zi_op ?_)
    refine mli_one rfl ?_
    refine ml_val (my_load Try.underlying9 rfl (q := 7) rfl rfl rfl rfl rfl (fun h => absurd (show false = true from h) Bool.false_ne_true) rfl rfl) rfl rfl rfl ?_
    refine ml_nil (zi_op ?_)
    refine mli_one rfl ?_
    refine ml_val (my_load Try.underlying9 rfl (q := 5) rfl rfl rfl rfl rfl (fun h => absurd (show false = true from h) Bool.false_ne_true) rfl rfl) rfl rfl rfl ?_
    refine ml_nil (zi_op ?_)
    refine mli_one rfl ?_
    refine ml_ow rfl (mo_call [] fn40 rfl rfl (HasPrefix_c x.key pf) rfl rfl (fun Hs' a hp => ?_))
    obtain ⟨rfl, rfl⟩ := hp
    refine ml_norm [0, 1, 2, 3, 4, 5, 6, 7] [⟨_, _⟩, ⟨_, _⟩, ⟨_, _⟩, ⟨_, _⟩, ⟨_, _⟩, ⟨_, _⟩, ⟨_, _⟩, ⟨_, _⟩] (by decide) rfl ?_
    refine ml_nil (zi_op ?_)
    cases hpx : pre x.key pf
    · skip
      refine mli_one rfl ?_
      refine ml_val (MY.to (a' := tv true) (my_not rfl) rfl) rfl rfl rfl ?_
      refine ml_nil (zi_op ?_)
      refine mli_one rfl ?_
      refine ml_val (my_move (Sm.v _)) rfl rfl rfl ?_
      refine ml_nil (zi_op ?_)
      refine mli_one rfl ?_
      refine ml_skipG rfl rfl rfl rfl rfl rfl ?_
      refine ml_nil (zi_op ?_)
      refine mli_one rfl ?_
      refine ml_skipG rfl rfl rfl rfl rfl rfl ?_
      refine ml_nil (zi_op ?_)
      refine mli_one rfl ?_
      refine ml_skipG rfl rfl rfl rfl rfl rfl ?_
      refine ml_nil (zi_op ?_)
      refine mli_one rfl ?_
      refine ml_skipG rfl rfl rfl rfl rfl rfl ?_
      refine ml_nil (zi_op ?_)
      refine mli_one rfl ?_
      refine ml_val (my_pickT rfl (Sm.v _)) rfl rfl rfl ?_
      refine ml_nil (zi_op ?_)
      refine mli_nil ?_
      refine z_seq ?_
      refine m_condT rfl ?_
      refine m_norm [0, 1, 2, 3, 4, 5] [⟨_, _⟩, ⟨_, _⟩, ⟨_, _⟩, ⟨_, _⟩, ⟨_, _⟩, ⟨_, _⟩] (by decide) rfl ?_
      refine m_ret ?_
      refine z_blkR ?_
      refine z_seqR ?_
      refine z_lpR ?_
      refine z_blkR ?_
      exact ⟨.tup [], mres0 rfl, q, by rw [show scanR s.recs pf = L.take j from by unfold scanR; rw [← hL]; exact tw_stop hx hpx hall]⟩
    · skip
      refine mli_one rfl ?_
      refine ml_val (MY.to (a' := tv false) (my_not rfl) rfl) rfl rfl rfl ?_
      refine ml_nil (zi_op ?_)
      refine mli_one rfl ?_
      refine ml_val (my_move (Sm.v _)) rfl rfl rfl ?_
      refine ml_nil (zi_op ?_)
      refine mli_one rfl ?_
      refine ml_valG (my_move (Sm.fn _ _ _)) rfl rfl rfl rfl rfl ?_
      refine ml_nil (zi_op ?_)
      refine mli_one rfl ?_
      refine ml_valG (my_load Try.underlying41 rfl (q := 7) rfl rfl rfl rfl rfl (fun _ => ⟨_, I41, S41⟩) rfl rfl) rfl rfl rfl rfl rfl ?_
      refine ml_nil (zi_op ?_)
      refine mli_yieldG [2, 3] (q := 6) (xs := [.tmp 32]) (ls := [recA x]) rfl rfl rfl rfl rfl (hsz.symm) (hyd (L.take j) x q (by rw [List.length_take]; omega) (List.mem_of_getElem? hxr)) rfl rfl (fun Hs' a hp => ?_)
      obtain ⟨q', rfl, rfl⟩ := hp
      refine mli_norm [0, 1, 8, 9, 4, 5, 6, 7] [⟨_, _⟩, ⟨_, _⟩, ⟨_, _⟩, ⟨_, _⟩, ⟨_, _⟩, ⟨_, _⟩, ⟨_, _⟩, ⟨_, _⟩] (by decide) rfl ?_
      refine mli_one rfl ?_
      refine ml_valG (MY.to (a' := tv false) (my_not rfl) rfl) rfl rfl rfl rfl rfl ?_
      refine ml_nil (zi_op ?_)
      refine mli_one rfl ?_
      refine ml_val (my_pickF rfl (Sm.v _)) rfl rfl rfl ?_
      refine ml_nil (zi_op ?_)
      refine mli_nil ?_
      refine z_seq ?_
      refine m_condF rfl ?_
      refine m_skip ?_
      refine z_blk ?_
      refine z_seq ?_
      refine m_norm [0, 1, 2, 3, 4, 5, 6] [⟨_, _⟩, ⟨_, _⟩, ⟨_, _⟩, ⟨_, _⟩, ⟨_, _⟩, ⟨_, _⟩, ⟨_, _⟩] (by decide) rfl ?_
      refine m_region ?_
      refine ml_val (my_add64 rfl rfl (by omega)) rfl rfl rfl ?_
      refine ml_val (my_move (Sm.v _)) rfl rfl rfl ?_
      refine ml_nil ?_
      refine z_lpN (L.length - (j + 1)) (by omega) ⟨j + 1, q', ?_, rfl, rfl, rfl, rfl, rfl, by omega, rfl, ?_⟩
      · rw [take_snoc hx]; rfl
      · rw [take_snoc hx]; intro y hy; rcases List.mem_append.1 hy with hy | hy
        · exact hall y hy
        · simp at hy; subst hy; exact hpx
  · skip
    have hj2 : j = L.length := by omega
    refine m_norm [0, 1, 2, 3, 4, 5] [⟨_, _⟩, ⟨_, _⟩, ⟨_, _⟩, ⟨_, _⟩, ⟨_, _⟩, ⟨_, _⟩] (by decide) rfl ?_
    refine m_exit ?_
    refine z_seqX ?_
    refine z_lpX ?_
    refine z_blkX ?_
    exact ⟨.tup [], mres0 rfl, q, by rw [show scanR s.recs pf = L.take j from by unfold scanR; rw [← hL]; exact (tw_all (fun y hy => hall y (by rw [hj2, List.take_length]; exact hy))).trans (by rw [hj2, List.take_length])]⟩

set_option maxRecDepth 100000 in
set_option maxHeartbeats 1000000 in
theorem Scan_c (p r : Nat) (s : St) (hw : SW s) (hv : ∀ x ∈ s.recs, x.val.length ≤ 100000000) (pf : ByteArray) : MF Try.prog 16 [.ptr p [] 0, sv pf] (SH p r s) (fun Hs' res => ∃ q, Hs' = SH p r s ++ [⟨q, .row 41 3 (recsA (scanR s.recs pf))⟩] ∧ res = .osl q) := .of fun g w vs S0 hH hr => by
  have hvl : vs.toArray.size = 2 := by simpa using hr.length
  have hlen := hw.len
  refine k_enterM Try.func16 rfl Try.ntmps16 (by rw [hvl]; rfl) ?_
  have hE := hr.env
  refine k_seq (k_of_mc (q := fun Hs α => Hs = SH p r s ∧ α 0 = .ptr p [] 0 ∧ α 1 = sv pf) ?_ hH hE ?_)
  · skip
    refine m_region ?_
    refine ml_val (my_assign Sm.nl) rfl rfl rfl ?_
    refine ml_nil ?_
    exact ⟨rfl, rfl, rfl⟩
  rintro g1 _ α1 ρ1 w1 l1 hH1 hE1 ⟨rfl, e0, e1⟩
  obtain ⟨σ1, rfl⟩ : ∃ σ, α1 = ua (ua σ 0 (.ptr p [] 0)) 1 (sv pf) := ⟨α1, by rw [ua_self α1 e0, ua_self α1 e1]⟩
  clear e0 e1
  refine x_seq (k_seq (k_of_mc (q := fun Hs α => ∃ k5, Hs = SH p r s ++ [⟨k5, .box 38 .nl⟩] ∧ α 0 = .ptr p [] 0 ∧ α 1 = sv pf ∧ α 5 = .ptr k5 [] 0) ?_ hH1 hE1 ?_))
  · skip
    refine m_region ?_
    refine ml_ow rfl (mo_alloc (W := []) I38 Z38 RZ38 rfl (fun k1 => ?_))
    refine ml_nil ?_
    exact ⟨k1, rfl, rfl, rfl, rfl⟩
  rintro g2 _ α2 ρ2 w2 l2 hH2 hE2 ⟨k5, rfl, e0, e1, e5⟩
  obtain ⟨σ2, rfl⟩ : ∃ σ, α2 = ua (ua (ua σ 0 (.ptr p [] 0)) 1 (sv pf)) 5 (.ptr k5 [] 0) := ⟨α2, by rw [ua_self α2 e0, ua_self α2 e1, ua_self α2 e5]⟩
  clear e0 e1 e5
  refine x_seq (k_seq (k_seq (k_of_mc (q := fun Hs α => ∃ c1 c2 q, Hs = SO p r c1 c2 k5 q s pf [] ∧ α 5 = .ptr k5 [] 0 ∧ α 9 = .fn (.func 39) [] [.ptr c1 [] 0, .ptr c2 [] 0]) ?_ hH2 hE2 ?_)))
  · unfold SH
    refine m_own_in (q := 2) [] 41 3 rfl rfl ?_
    intro q
    refine m_region ?_
    refine ml_val (my_move (Sm.ptr _ _ _)) rfl rfl rfl ?_
    refine ml_val (my_move (Sm.v _)) rfl rfl rfl ?_
    refine ml_ow rfl (mo_call [] fn30 rfl rfl (from_c p pf) rfl rfl (fun Hs' a hp => ?_))
    obtain ⟨c1, c2, rfl, rfl⟩ := hp
    refine ml_norm [0, 1, 2, 3, 4, 5] [⟨_, _⟩, ⟨_, _⟩, ⟨_, _⟩, ⟨_, _⟩, ⟨_, _⟩, ⟨_, _⟩] (by decide) rfl ?_
    refine ml_nil ?_
    exact ⟨c1, c2, q, rfl, rfl, rfl⟩
  rintro g3 _ α3 ρ3 w3 l3 hH3 hE3 ⟨c1, c2, q, rfl, e5, e9⟩
  obtain ⟨σ3, rfl⟩ : ∃ σ, α3 = ua (ua σ 5 (.ptr k5 [] 0)) 9 (.fn (.func 39) [] [.ptr c1 [] 0, .ptr c2 [] 0]) := ⟨α3, by rw [ua_self α3 e5, ua_self α3 e9]⟩
  clear e5 e9
  refine x_seq (k_block (k_rangeF (post := fun Hs' _ => ∃ q, Hs' = SO p r c1 c2 k5 q s pf (scanR s.recs pf)) hH3 hE3 rfl rfl fn39 ?_ (fun Hs' a ⟨_, h⟩ => by subst h; rfl) ?_))
  · intro l lr hst hpe htm hps hra hrb
    refine from1_c p r c1 c2 k5 q s hw pf g3 l lr (by rw [hps]; rfl) (fun pr x q' hlt hx => ?_)
    have hxl := hv x hx
    refine myd_of (n := 20) (α := ua (ua σ3 5 (.ptr k5 [] 0)) 9 (.fn (.func 39) [] [.ptr c1 [] 0, .ptr c2 [] 0])) hps rfl htm hE3 hst hpe rfl ?_
    rw [hra, hrb]
    refine mi_region rfl ?_
    refine ml_ow rfl (mo_alloc (W := []) I41 Z41 RZ41s rfl (fun k1 => ?_))
    refine ml_ow rfl (mo_store I41 S41 rfl rfl rfl (q := 2) rfl rfl rfl rfl rfl ?_)
    refine ml_nil ?_
    refine zi_end ?_
    refine mi_block ?_
    refine mi_seq ?_
    refine mi_region rfl ?_
    refine ml_val (my_field Try.underlying41 rfl I28 S28 rfl rfl rfl) rfl rfl rfl ?_
    refine ml_val (my_load Try.underlying28 rfl (q := 2) rfl rfl rfl rfl rfl (fun h => absurd (show false = true from h) Bool.false_ne_true) rfl rfl) rfl rfl rfl ?_
    refine ml_ow rfl (mo_call [] fn27 rfl rfl (clone_c x.val hxl) rfl rfl (fun Hs' a hp => ?_))
    obtain ⟨rfl, rfl⟩ := hp
    refine ml_norm [0, 1, 2] [⟨_, _⟩, ⟨_, _⟩, ⟨_, _⟩] (by decide) rfl ?_
    refine ml_val (my_field Try.underlying41 rfl I28 S28 rfl rfl rfl) rfl rfl rfl ?_
    refine ml_ow rfl (mo_store I28 S28 rfl rfl rfl (q := 2) rfl rfl rfl rfl rfl ?_)
    refine ml_nil ?_
    refine zi_seq ?_
    refine mi_region rfl ?_
    refine ml_val (my_load Try.underlying38 rfl (q := 0) rfl rfl rfl rfl rfl (fun h => absurd (show false = true from h) Bool.false_ne_true) rfl rfl) rfl rfl rfl ?_
    refine ml_val (my_load Try.underlying41 rfl (q := 2) rfl rfl rfl rfl rfl (fun _ => ⟨_, I41, S41⟩) rfl rfl) rfl rfl rfl ?_
    refine ml_ow rfl (mo_lit (W := []) (xs := [_]) Try.underlying38 I41 Z41 S41 rfl rfl rfl rfl rfl rfl rfl (fun k2 => ?_))
    refine ml_pre (sh_frz 17 (q := 3) rfl rfl) ?_
    refine ml_norm [0, 1, 2] [⟨_, _⟩, ⟨_, _⟩, ⟨_, _⟩] (by decide) rfl ?_
    refine ml_ow rfl (mo_append Try.underlying38 I41 Z41 S41 rfl (by decide) (by rw [B41]; decide) rfl (q := 1) rfl rfl (fun a ha => by simp at ha; subst ha; rfl) (by rw [recsA_length]; simp; omega) rfl (W := [1]) rfl (fun k3 => ?_))
    refine ml_ow rfl (mo_store I38 S38 rfl rfl rfl (q := 0) rfl rfl rfl rfl rfl ?_)
    refine ml_norm [0, 1] [⟨_, _⟩, ⟨_, _⟩] (by decide) rfl ?_
    refine ml_nil ?_
    refine z_blk ?_
    exact ⟨_, by rw [show recsA (pr ++ [x]) = recsA pr ++ [recA x] from by simp [recsA]]; rfl, rfl⟩
  · rintro D w4 g4 _ a hH4 l4 hE4 hD hle hFD ⟨q', rfl⟩
    have hm : MY Try.prog 20 (SO p r c1 c2 k5 q' s pf (scanR s.recs pf)) allR (ua (ua σ3 5 (.ptr k5 [] 0)) 9 (.fn (.func 39) [] [.ptr c1 [] 0, .ptr c2 [] 0])) ⟨some 19, .load 38 (.tmp 5), 38, "store.go:65", #[], none⟩ (.osl q') := my_load Try.underlying38 rfl (q := 2) rfl rfl rfl rfl rfl (fun h => absurd (show false = true from h) Bool.false_ne_true) rfl rfl
    obtain ⟨v1, hv1, hY1⟩ := hm.out w S0 g4 ρ3 w4 hH4 hE4
    refine x_blk (x_seq (k_seq (k_region (kl_val (hY1 w4 (hH4.stab _)) rfl rfl rfl (kl_val y_assign rfl rfl rfl (kl_nil (x_seq (k_ret ?_))))))))
    have hp := hH4.pick [0, 1, 3] (by decide) (by intro q hq; simp at hq; rcases hq with rfl | rfl | rfl <;> simp [SO])
    exact leave_mark (Hs' := SH p r s ++ [⟨q', .row 41 3 (recsA (scanR s.recs pf))⟩]) (a := .osl q') hp (((l1.trans l2).trans l3).trans l4) hD hle hFD (res1 rfl rfl) hv1 ⟨q', rfl, rfl⟩

end Go.Proofs.Ytlklapledogdcaa.K
