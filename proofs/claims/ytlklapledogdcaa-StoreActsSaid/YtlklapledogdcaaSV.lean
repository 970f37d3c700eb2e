/- The document's answer: its acts. No condition. -/
import Derived.Test.YtlklapledogdcaaSU
namespace Go.Proofs.Ytlklapledogdcaa.K
open Go

set_option maxRecDepth 100000 in
set_option maxHeartbeats 1000000 in
theorem Cas_k (m : Int) (l : List Rc) (n : Int) (k : ByteArray) (v : Int) (b : List UInt8) (hl : l.length ≤ 1000000) (hn : 0 ≤ n ∧ n ≤ 1000000) : MF Try.prog 20 [tA m l n, sv k, iv .i64 v, .sl (b.map u8A)] [] (fun _ res => res = .tup [tA m (casT m l n k v b).1 (casT m l n k v b).2.1, iv .i64 (casT m l n k v b).2.2.1, iv .i64 (casT m l n k v b).2.2.2]) := by
  refine m_enter Try.func20 rfl Try.ntmps20 rfl ?_
  unfold tA
  refine m_seq ?_
  refine m_region ?_
  refine ml_ow rfl (mo_box (W := []) rfl rfl rfl (fun k1 => ?_))
  refine ml_ow rfl (mo_alloc (W := []) I46 Z46 RZ46s rfl (fun k2 => ?_))
  refine ml_val (my_assign (Sm.v _)) rfl rfl rfl ?_
  refine ml_val (my_assign (Sm.v _)) rfl rfl rfl ?_
  refine ml_nil ?_
  refine z_seq ?_
  refine m_seq ?_
  refine m_seq ?_
  refine m_region ?_
  refine ml_val (my_move (Sm.sl _)) rfl rfl rfl ?_
  refine ml_val (MY.to (a' := iv .i64 (b.length : Int)) (my_lenS Try.underlying28 rfl) (by rw [List.length_map])) rfl rfl rfl ?_
  refine ml_val (my_gtr rfl rfl) rfl rfl rfl ?_
  refine ml_nil ?_
  refine z_seq ?_
  refine m_condp rfl (fun h1 => ?_) (fun h1 => ?_)
  · skip
    refine m_seq ?_
    refine m_region ?_
    refine ml_val (my_load Try.underlying46 rfl (q := 0) rfl rfl rfl rfl rfl (fun _ => ⟨_, I46, S46⟩) rfl rfl) rfl rfl rfl ?_
    refine ml_ow rfl (mo_store I46 S46 rfl rfl rfl (q := 1) rfl rfl rfl rfl rfl ?_)
    refine ml_val (my_assign (Sm.v _)) rfl rfl rfl ?_
    refine ml_val (my_assign (Sm.v _)) rfl rfl rfl ?_
    refine ml_nil ?_
    refine z_seq ?_
    refine m_ret ?_
    refine z_seqR ?_
    exact ⟨.tup [tA m (l) (n), iv .i64 (0), iv .i64 3], mresv3 rfl (mrv_cell rfl (my_load Try.underlying46 rfl (q := 1) rfl rfl rfl rfl rfl (fun _ => ⟨_, I46, S46⟩) rfl rfl)) (mrv_tmp rfl) (mrv_tmp rfl), by rw [show casT m l n k v b = (l, n, 0, 3) from by unfold casT; rw [if_pos (by omega)]]; rfl⟩
  · skip
    refine m_skip ?_
    refine z_seq ?_
    refine m_seq ?_
    refine m_region ?_
    refine ml_val (my_load Try.underlying46 rfl (q := 0) rfl rfl rfl rfl rfl (fun _ => ⟨_, I46, S46⟩) rfl rfl) rfl rfl rfl ?_
    refine ml_val (my_move (Sm.v _)) rfl rfl rfl ?_
    refine ml_ow rfl (mo_call [] fn19 rfl rfl (Get_t m l n k hl) rfl rfl (fun Hs' a hp => ?_))
    obtain ⟨rfl, rfl⟩ := hp
    refine ml_norm [0, 1] [⟨_, _⟩, ⟨_, _⟩] (by decide) rfl ?_
    refine ml_val (my_move (Sm.tup _)) rfl rfl rfl ?_
    refine ml_val (my_extract rfl rfl) rfl rfl rfl ?_
    refine ml_val (my_extract rfl rfl) rfl rfl rfl ?_
    refine ml_val (my_assign (Sm.sl _)) rfl rfl rfl ?_
    refine ml_val (my_assign (Sm.v _)) rfl rfl rfl ?_
    refine ml_nil ?_
    refine z_seq ?_
    refine m_seq ?_
    refine m_seq ?_
    refine m_region ?_
    refine ml_val (my_move (Sm.v _)) rfl rfl rfl ?_
    refine ml_val (my_move (Sm.v _)) rfl rfl rfl ?_
    refine ml_val (my_neq rfl rfl) rfl rfl rfl ?_
    refine ml_nil ?_
    refine z_seq ?_
    refine m_condp rfl (fun h2 => ?_) (fun h2 => ?_)
    · skip
      refine m_seq ?_
      refine m_region ?_
      refine ml_val (my_load Try.underlying46 rfl (q := 0) rfl rfl rfl rfl rfl (fun _ => ⟨_, I46, S46⟩) rfl rfl) rfl rfl rfl ?_
      refine ml_ow rfl (mo_store I46 S46 rfl rfl rfl (q := 1) rfl rfl rfl rfl rfl ?_)
      refine ml_val (my_assign (Sm.v _)) rfl rfl rfl ?_
      refine ml_val (my_assign (Sm.v _)) rfl rfl rfl ?_
      refine ml_nil ?_
      refine z_seq ?_
      refine m_ret ?_
      refine z_seqR ?_
      exact ⟨.tup [tA m (l) (n), iv .i64 (0), iv .i64 30], mresv3 rfl (mrv_cell rfl (my_load Try.underlying46 rfl (q := 1) rfl rfl rfl rfl rfl (fun _ => ⟨_, I46, S46⟩) rfl rfl)) (mrv_tmp rfl) (mrv_tmp rfl), by rw [show casT m l n k v b = (l, n, 0, 30) from by unfold casT; rw [if_neg (by omega)]; rw [if_pos h2]]; rfl⟩
    · skip
      replace h2 : verO (look l k) = v := by simpa using h2
      refine m_skip ?_
      refine z_seq ?_
      refine m_seq ?_
      refine m_seq ?_
      refine m_region ?_
      refine ml_val (my_move (Sm.v _)) rfl rfl rfl ?_
      by_cases h0 : verO (look l k) = 0
      · skip
        refine ml_val (MY.to (a' := tv true) (my_eql rfl rfl) (congrArg tv (decide_eq_true h0))) rfl rfl rfl ?_
        refine ml_val (my_move (Sm.v _)) rfl rfl rfl ?_
        first | refine ml_skipG rfl rfl rfl rfl rfl rfl ?_ | refine ml_valG (my_field Try.underlying46 rfl I38 S38 rfl rfl rfl) rfl rfl rfl rfl rfl ?_
        first | refine ml_skipG rfl rfl rfl rfl rfl rfl ?_ | refine ml_valG (my_load Try.underlying38 rfl (q := 0) rfl rfl rfl rfl rfl (fun h => absurd (show false = true from h) Bool.false_ne_true) rfl rfl) rfl rfl rfl rfl rfl ?_
        refine ml_valG (MY.to (a' := iv .i64 (l.length : Int)) (my_lenS Try.underlying38 rfl) (by rw [recsA_length])) rfl rfl rfl rfl rfl ?_
        refine ml_valG (my_field Try.underlying46 rfl I3 S3 rfl rfl rfl) rfl rfl rfl rfl rfl ?_
        first | refine ml_skipG rfl rfl rfl rfl rfl rfl ?_ | refine ml_valG (my_load Try.underlying3 rfl (q := 0) rfl rfl rfl rfl rfl (fun h => absurd (show false = true from h) Bool.false_ne_true) rfl rfl) rfl rfl rfl rfl rfl ?_
        refine ml_valG (my_geq rfl rfl) rfl rfl rfl rfl rfl ?_
        refine ml_val (my_pickT rfl (Sm.v _)) rfl rfl rfl ?_
        refine ml_nil ?_
        refine z_seq ?_
        refine m_condp rfl (fun h3 => ?_) (fun h3 => ?_)
        · skip
          refine m_seq ?_
          refine m_region ?_
          refine ml_val (my_load Try.underlying46 rfl (q := 0) rfl rfl rfl rfl rfl (fun _ => ⟨_, I46, S46⟩) rfl rfl) rfl rfl rfl ?_
          refine ml_ow rfl (mo_store I46 S46 rfl rfl rfl (q := 1) rfl rfl rfl rfl rfl ?_)
          refine ml_val (my_assign (Sm.v _)) rfl rfl rfl ?_
          refine ml_val (my_assign (Sm.v _)) rfl rfl rfl ?_
          refine ml_nil ?_
          refine z_seq ?_
          refine m_ret ?_
          refine z_seqR ?_
          exact ⟨.tup [tA m (l) (n), iv .i64 (0), iv .i64 31], mresv3 rfl (mrv_cell rfl (my_load Try.underlying46 rfl (q := 1) rfl rfl rfl rfl rfl (fun _ => ⟨_, I46, S46⟩) rfl rfl)) (mrv_tmp rfl) (mrv_tmp rfl), by rw [show casT m l n k v b = (l, n, 0, 31) from by unfold casT; rw [if_neg (by omega)]; rw [if_neg (fun h => h h2)]; rw [if_pos ⟨h0, by omega⟩]]; rfl⟩
        · skip
          refine m_skip ?_
          refine z_seq ?_
          refine m_seq ?_
          have hc3 : ¬ (verO (look l k) = 0 ∧ m ≤ (l.length : Int)) := fun h => h3 (by have := h.2; omega)
          refine m_region ?_
          refine ml_val (my_field Try.underlying46 rfl I3 S3 rfl rfl rfl) rfl rfl rfl ?_
          refine ml_val (my_load Try.underlying3 rfl (q := 0) rfl rfl rfl rfl rfl (fun h => absurd (show false = true from h) Bool.false_ne_true) rfl rfl) rfl rfl rfl ?_
          refine ml_val (my_add64 rfl rfl (by omega)) rfl rfl rfl ?_
          refine ml_val (my_field Try.underlying46 rfl I3 S3 rfl rfl rfl) rfl rfl rfl ?_
          refine ml_ow rfl (mo_store I3 S3 rfl rfl rfl (q := 0) rfl rfl rfl rfl rfl ?_)
          refine ml_nil ?_
          refine z_seq ?_
          refine m_seq ?_
          refine m_region ?_
          refine ml_val (my_field Try.underlying46 rfl I38 S38 rfl rfl rfl) rfl rfl rfl ?_
          refine ml_val (my_load Try.underlying38 rfl (q := 0) rfl rfl rfl rfl rfl (fun h => absurd (show false = true from h) Bool.false_ne_true) rfl rfl) rfl rfl rfl ?_
          refine ml_val (my_move (Sm.v _)) rfl rfl rfl ?_
          refine ml_val (my_field Try.underlying46 rfl I3 S3 rfl rfl rfl) rfl rfl rfl ?_
          refine ml_val (my_load Try.underlying3 rfl (q := 0) rfl rfl rfl rfl rfl (fun h => absurd (show false = true from h) Bool.false_ne_true) rfl rfl) rfl rfl rfl ?_
          refine ml_val (my_move (Sm.sl _)) rfl rfl rfl ?_
          refine ml_val (my_build (ps := [(_, _), (_, _), (_, _)]) BL41 RZ41s rfl rfl rfl) rfl rfl rfl ?_
          refine ml_ow rfl (mo_call [] fn31 rfl rfl (laid_t l ⟨k, n + 1, b⟩ hl) rfl rfl (fun Hs' a hp => ?_))
          obtain ⟨rfl, rfl⟩ := hp
          refine ml_norm [0, 1] [⟨_, _⟩, ⟨_, _⟩] (by decide) rfl ?_
          refine ml_val (my_field Try.underlying46 rfl I38 S38 rfl rfl rfl) rfl rfl rfl ?_
          refine ml_ow rfl (mo_store I38 S38 rfl rfl rfl (q := 0) rfl rfl rfl rfl rfl ?_)
          refine ml_nil ?_
          refine z_seq ?_
          refine m_seq ?_
          refine m_regionD (fun i => List.contains [0] i) [] [(0, true), (1, true), (2, true), (3, false), (4, true), (5, true)] mixed (by kernel_rfl) ?_
          refine mr_val rfl (my_load Try.underlying46 rfl (q := 0) rfl rfl rfl rfl rfl (fun _ => ⟨_, I46, S46⟩) rfl rfl) rfl rfl rfl ?_
          refine mr_val rfl (my_field Try.underlying46 rfl I3 S3 rfl rfl rfl) rfl rfl rfl ?_
          refine mr_val rfl (my_load Try.underlying3 rfl (q := 0) rfl rfl rfl rfl rfl (fun h => absurd (show false = true from h) Bool.false_ne_true) rfl rfl) rfl rfl rfl ?_
          refine mr_ow rfl rfl rfl (mo_store I46 S46 rfl rfl rfl (q := 1) rfl rfl rfl rfl rfl ?_)
          refine mr_val rfl (my_assign (Sm.v _)) rfl rfl rfl ?_
          refine mr_val rfl (my_assign (Sm.v _)) rfl rfl rfl ?_
          refine mr_nil ?_
          refine z_seq ?_
          refine m_ret ?_
          exact ⟨.tup [tA m (laidR l ⟨k, n + 1, b⟩) (n + 1), iv .i64 (n + 1), iv .i64 0], mresv3 rfl (mrv_cell rfl (my_load Try.underlying46 rfl (q := 1) rfl rfl rfl rfl rfl (fun _ => ⟨_, I46, S46⟩) rfl rfl)) (mrv_tmp rfl) (mrv_tmp rfl), by rw [show casT m l n k v b = (laidR l ⟨k, n + 1, b⟩, n + 1, n + 1, 0) from by unfold casT; rw [if_neg (by omega)]; rw [if_neg (fun h => h h2)]; rw [if_neg hc3]]; rfl⟩
      · skip
        refine ml_val (MY.to (a' := tv false) (my_eql rfl rfl) (congrArg tv (decide_eq_false h0))) rfl rfl rfl ?_
        refine ml_val (my_move (Sm.v _)) rfl rfl rfl ?_
        refine ml_skipG rfl rfl rfl rfl rfl rfl ?_
        refine ml_skipG rfl rfl rfl rfl rfl rfl ?_
        refine ml_skipG rfl rfl rfl rfl rfl rfl ?_
        refine ml_skipG rfl rfl rfl rfl rfl rfl ?_
        refine ml_skipG rfl rfl rfl rfl rfl rfl ?_
        refine ml_skipG rfl rfl rfl rfl rfl rfl ?_
        refine ml_val (my_pickF rfl (Sm.v _)) rfl rfl rfl ?_
        refine ml_nil ?_
        refine z_seq ?_
        refine m_condF rfl ?_
        refine m_skip ?_
        refine z_seq ?_
        refine m_seq ?_
        have hc3 : ¬ (verO (look l k) = 0 ∧ m ≤ (l.length : Int)) := fun h => h0 h.1
        refine m_region ?_
        refine ml_val (my_field Try.underlying46 rfl I3 S3 rfl rfl rfl) rfl rfl rfl ?_
        refine ml_val (my_load Try.underlying3 rfl (q := 0) rfl rfl rfl rfl rfl (fun h => absurd (show false = true from h) Bool.false_ne_true) rfl rfl) rfl rfl rfl ?_
        refine ml_val (my_add64 rfl rfl (by omega)) rfl rfl rfl ?_
        refine ml_val (my_field Try.underlying46 rfl I3 S3 rfl rfl rfl) rfl rfl rfl ?_
        refine ml_ow rfl (mo_store I3 S3 rfl rfl rfl (q := 0) rfl rfl rfl rfl rfl ?_)
        refine ml_nil ?_
        refine z_seq ?_
        refine m_seq ?_
        refine m_region ?_
        refine ml_val (my_field Try.underlying46 rfl I38 S38 rfl rfl rfl) rfl rfl rfl ?_
        refine ml_val (my_load Try.underlying38 rfl (q := 0) rfl rfl rfl rfl rfl (fun h => absurd (show false = true from h) Bool.false_ne_true) rfl rfl) rfl rfl rfl ?_
        refine ml_val (my_move (Sm.v _)) rfl rfl rfl ?_
        refine ml_val (my_field Try.underlying46 rfl I3 S3 rfl rfl rfl) rfl rfl rfl ?_
        refine ml_val (my_load Try.underlying3 rfl (q := 0) rfl rfl rfl rfl rfl (fun h => absurd (show false = true from h) Bool.false_ne_true) rfl rfl) rfl rfl rfl ?_
        refine ml_val (my_move (Sm.sl _)) rfl rfl rfl ?_
        refine ml_val (my_build (ps := [(_, _), (_, _), (_, _)]) BL41 RZ41s rfl rfl rfl) rfl rfl rfl ?_
        refine ml_ow rfl (mo_call [] fn31 rfl rfl (laid_t l ⟨k, n + 1, b⟩ hl) rfl rfl (fun Hs' a hp => ?_))
        obtain ⟨rfl, rfl⟩ := hp
        refine ml_norm [0, 1] [⟨_, _⟩, ⟨_, _⟩] (by decide) rfl ?_
        refine ml_val (my_field Try.underlying46 rfl I38 S38 rfl rfl rfl) rfl rfl rfl ?_
        refine ml_ow rfl (mo_store I38 S38 rfl rfl rfl (q := 0) rfl rfl rfl rfl rfl ?_)
        refine ml_nil ?_
        refine z_seq ?_
        refine m_seq ?_
        refine m_regionD (fun i => List.contains [0] i) [] [(0, true), (1, true), (2, true), (3, false), (4, true), (5, true)] mixed (by kernel_rfl) ?_
        refine mr_val rfl (my_load Try.underlying46 rfl (q := 0) rfl rfl rfl rfl rfl (fun _ => ⟨_, I46, S46⟩) rfl rfl) rfl rfl rfl ?_
        refine mr_val rfl (my_field Try.underlying46 rfl I3 S3 rfl rfl rfl) rfl rfl rfl ?_
        refine mr_val rfl (my_load Try.underlying3 rfl (q := 0) rfl rfl rfl rfl rfl (fun h => absurd (show false = true from h) Bool.false_ne_true) rfl rfl) rfl rfl rfl ?_
        refine mr_ow rfl rfl rfl (mo_store I46 S46 rfl rfl rfl (q := 1) rfl rfl rfl rfl rfl ?_)
        refine mr_val rfl (my_assign (Sm.v _)) rfl rfl rfl ?_
        refine mr_val rfl (my_assign (Sm.v _)) rfl rfl rfl ?_
        refine mr_nil ?_
        refine z_seq ?_
        refine m_ret ?_
        exact ⟨.tup [tA m (laidR l ⟨k, n + 1, b⟩) (n + 1), iv .i64 (n + 1), iv .i64 0], mresv3 rfl (mrv_cell rfl (my_load Try.underlying46 rfl (q := 1) rfl rfl rfl rfl rfl (fun _ => ⟨_, I46, S46⟩) rfl rfl)) (mrv_tmp rfl) (mrv_tmp rfl), by rw [show casT m l n k v b = (laidR l ⟨k, n + 1, b⟩, n + 1, n + 1, 0) from by unfold casT; rw [if_neg (by omega)]; rw [if_neg (fun h => h h2)]; rw [if_neg hc3]]; rfl⟩

theorem Cas_t (m : Int) (l : List Rc) (n : Int) (k : ByteArray) (v : Int) (b : List UInt8) (hl : l.length ≤ 1000000) (hn : 0 ≤ n ∧ n ≤ 1000000) : MF Try.prog 20 [tA m l n, sv k, iv .i64 v, .sl (b.map u8A)] [] (fun Hs' res => Hs' = [] ∧ res = .tup [tA m (casT m l n k v b).1 (casT m l n k v b).2.1, iv .i64 (casT m l n k v b).2.2.1, iv .i64 (casT m l n k v b).2.2.2]) := mf_none (Cas_k m l n k v b hl hn)

set_option maxRecDepth 100000 in
set_option maxHeartbeats 1000000 in
theorem Put_k (m : Int) (l : List Rc) (n : Int) (k : ByteArray) (b : List UInt8) (hl : l.length ≤ 1000000) (hn : 0 ≤ n ∧ n ≤ 1000000) : MF Try.prog 21 [tA m l n, sv k, .sl (b.map u8A)] [] (fun _ res => res = .tup [tA m (casT m l n k (verO (look l k)) b).1 (casT m l n k (verO (look l k)) b).2.1, iv .i64 (casT m l n k (verO (look l k)) b).2.2.1, iv .i64 (casT m l n k (verO (look l k)) b).2.2.2]) := by
  refine m_enter Try.func21 rfl Try.ntmps21 rfl ?_
  unfold tA
  refine m_seq ?_
  refine m_region ?_
  refine ml_ow rfl (mo_box (W := []) rfl rfl rfl (fun k1 => ?_))
  refine ml_ow rfl (mo_alloc (W := []) I46 Z46 RZ46s rfl (fun k2 => ?_))
  refine ml_val (my_assign (Sm.v _)) rfl rfl rfl ?_
  refine ml_val (my_assign (Sm.v _)) rfl rfl rfl ?_
  refine ml_nil ?_
  refine z_seq ?_
  refine m_seq ?_
  refine m_region ?_
  refine ml_val (my_load Try.underlying46 rfl (q := 0) rfl rfl rfl rfl rfl (fun _ => ⟨_, I46, S46⟩) rfl rfl) rfl rfl rfl ?_
  refine ml_val (my_move (Sm.v _)) rfl rfl rfl ?_
  refine ml_ow rfl (mo_call [] fn19 rfl rfl (Get_t m l n k hl) rfl rfl (fun Hs' a hp => ?_))
  obtain ⟨rfl, rfl⟩ := hp
  refine ml_norm [0, 1] [⟨_, _⟩, ⟨_, _⟩] (by decide) rfl ?_
  refine ml_val (my_move (Sm.tup _)) rfl rfl rfl ?_
  refine ml_val (my_extract rfl rfl) rfl rfl rfl ?_
  refine ml_val (my_extract rfl rfl) rfl rfl rfl ?_
  refine ml_val (my_assign (Sm.sl _)) rfl rfl rfl ?_
  refine ml_val (my_assign (Sm.v _)) rfl rfl rfl ?_
  refine ml_nil ?_
  refine z_seq ?_
  refine m_seq ?_
  refine m_region ?_
  refine ml_val (my_load Try.underlying46 rfl (q := 0) rfl rfl rfl rfl rfl (fun _ => ⟨_, I46, S46⟩) rfl rfl) rfl rfl rfl ?_
  refine ml_val (my_move (Sm.v _)) rfl rfl rfl ?_
  refine ml_val (my_move (Sm.v _)) rfl rfl rfl ?_
  refine ml_val (my_move (Sm.sl _)) rfl rfl rfl ?_
  refine ml_ow rfl (mo_call [] fn20 rfl rfl (Cas_t m l n k (verO (look l k)) b hl hn) rfl rfl (fun Hs' a hp => ?_))
  obtain ⟨rfl, rfl⟩ := hp
  refine ml_norm [0, 1] [⟨_, _⟩, ⟨_, _⟩] (by decide) rfl ?_
  generalize casT m l n k (verO (look l k)) b = c
  refine ml_val (my_move (Sm.tup _)) rfl rfl rfl ?_
  refine ml_val (my_extract rfl rfl) rfl rfl rfl ?_
  refine ml_val (my_extract rfl rfl) rfl rfl rfl ?_
  refine ml_val (my_extract rfl rfl) rfl rfl rfl ?_
  refine ml_ow rfl (mo_alloc (W := []) I46 Z46 RZ46s rfl (fun k3 => ?_))
  refine ml_ow rfl (mo_store I46 S46 rfl rfl rfl (q := 2) rfl rfl rfl rfl rfl ?_)
  refine ml_val (my_assign (Sm.v _)) rfl rfl rfl ?_
  refine ml_val (my_assign (Sm.v _)) rfl rfl rfl ?_
  refine ml_nil ?_
  refine z_seq ?_
  refine m_seq ?_
  refine m_region ?_
  refine ml_val (my_load Try.underlying46 rfl (q := 2) rfl rfl rfl rfl rfl (fun _ => ⟨_, I46, S46⟩) rfl rfl) rfl rfl rfl ?_
  refine ml_val (my_move (Sm.v _)) rfl rfl rfl ?_
  refine ml_val (my_move (Sm.v _)) rfl rfl rfl ?_
  refine ml_ow rfl (mo_store I46 S46 rfl rfl rfl (q := 1) rfl rfl rfl rfl rfl ?_)
  refine ml_val (my_assign (Sm.v _)) rfl rfl rfl ?_
  refine ml_val (my_assign (Sm.v _)) rfl rfl rfl ?_
  refine ml_nil ?_
  refine z_seq ?_
  refine m_ret ?_
  exact ⟨.tup [tA m c.1 c.2.1, iv .i64 c.2.2.1, iv .i64 c.2.2.2], mresv3 rfl (mrv_cell rfl (my_load Try.underlying46 rfl (q := 1) rfl rfl rfl rfl rfl (fun _ => ⟨_, I46, S46⟩) rfl rfl)) (mrv_tmp rfl) (mrv_tmp rfl), rfl⟩

theorem Put_t (m : Int) (l : List Rc) (n : Int) (k : ByteArray) (b : List UInt8) (hl : l.length ≤ 1000000) (hn : 0 ≤ n ∧ n ≤ 1000000) : MF Try.prog 21 [tA m l n, sv k, .sl (b.map u8A)] [] (fun Hs' res => Hs' = [] ∧ res = .tup [tA m (casT m l n k (verO (look l k)) b).1 (casT m l n k (verO (look l k)) b).2.1, iv .i64 (casT m l n k (verO (look l k)) b).2.2.1, iv .i64 (casT m l n k (verO (look l k)) b).2.2.2]) := mf_none (Put_k m l n k b hl hn)

set_option maxRecDepth 100000 in
set_option maxHeartbeats 1000000 in
theorem Delete_k (m : Int) (l : List Rc) (n : Int) (k : ByteArray) (v : Int) (hl : l.length ≤ 1000000) (hn : 0 ≤ n ∧ n ≤ 1000000) : MF Try.prog 22 [tA m l n, sv k, iv .i64 v] [] (fun _ res => res = .tup [tA m (delT l n k v).1 (delT l n k v).2.1, iv .i64 (delT l n k v).2.2]) := by
  refine m_enter Try.func22 rfl Try.ntmps22 rfl ?_
  unfold tA
  refine m_seq ?_
  refine m_region ?_
  refine ml_ow rfl (mo_box (W := []) rfl rfl rfl (fun k1 => ?_))
  refine ml_ow rfl (mo_alloc (W := []) I46 Z46 RZ46s rfl (fun k2 => ?_))
  refine ml_val (my_assign (Sm.v _)) rfl rfl rfl ?_
  refine ml_nil ?_
  refine z_seq ?_
  refine m_seq ?_
  refine m_region ?_
  refine ml_val (my_load Try.underlying46 rfl (q := 0) rfl rfl rfl rfl rfl (fun _ => ⟨_, I46, S46⟩) rfl rfl) rfl rfl rfl ?_
  refine ml_val (my_move (Sm.v _)) rfl rfl rfl ?_
  refine ml_ow rfl (mo_call [] fn19 rfl rfl (Get_t m l n k hl) rfl rfl (fun Hs' a hp => ?_))
  obtain ⟨rfl, rfl⟩ := hp
  refine ml_norm [0, 1] [⟨_, _⟩, ⟨_, _⟩] (by decide) rfl ?_
  refine ml_val (my_move (Sm.tup _)) rfl rfl rfl ?_
  refine ml_val (my_extract rfl rfl) rfl rfl rfl ?_
  refine ml_val (my_extract rfl rfl) rfl rfl rfl ?_
  refine ml_val (my_assign (Sm.sl _)) rfl rfl rfl ?_
  refine ml_val (my_assign (Sm.v _)) rfl rfl rfl ?_
  refine ml_nil ?_
  refine z_seq ?_
  refine m_seq ?_
  refine m_seq ?_
  refine m_region ?_
  refine ml_val (my_move (Sm.v _)) rfl rfl rfl ?_
  refine ml_val (my_eql rfl rfl) rfl rfl rfl ?_
  refine ml_nil ?_
  refine z_seq ?_
  refine m_condp rfl (fun h1 => ?_) (fun h1 => ?_)
  · skip
    refine m_seq ?_
    refine m_region ?_
    refine ml_val (my_load Try.underlying46 rfl (q := 0) rfl rfl rfl rfl rfl (fun _ => ⟨_, I46, S46⟩) rfl rfl) rfl rfl rfl ?_
    refine ml_ow rfl (mo_store I46 S46 rfl rfl rfl (q := 1) rfl rfl rfl rfl rfl ?_)
    refine ml_val (my_assign (Sm.v _)) rfl rfl rfl ?_
    refine ml_nil ?_
    refine z_seq ?_
    refine m_ret ?_
    refine z_seqR ?_
    exact ⟨.tup [tA m (l) (n), iv .i64 32], mresv2 rfl (mrv_cell rfl (my_load Try.underlying46 rfl (q := 1) rfl rfl rfl rfl rfl (fun _ => ⟨_, I46, S46⟩) rfl rfl)) (mrv_tmp rfl), by rw [show delT l n k v = (l, n, 32) from by unfold delT; rw [if_pos h1]]; rfl⟩
  · skip
    refine m_skip ?_
    refine z_seq ?_
    refine m_seq ?_
    refine m_seq ?_
    refine m_region ?_
    refine ml_val (my_move (Sm.v _)) rfl rfl rfl ?_
    refine ml_val (my_move (Sm.v _)) rfl rfl rfl ?_
    refine ml_val (my_neq rfl rfl) rfl rfl rfl ?_
    refine ml_nil ?_
    refine z_seq ?_
    refine m_condp rfl (fun h2 => ?_) (fun h2 => ?_)
    · skip
      refine m_seq ?_
      refine m_region ?_
      refine ml_val (my_load Try.underlying46 rfl (q := 0) rfl rfl rfl rfl rfl (fun _ => ⟨_, I46, S46⟩) rfl rfl) rfl rfl rfl ?_
      refine ml_ow rfl (mo_store I46 S46 rfl rfl rfl (q := 1) rfl rfl rfl rfl rfl ?_)
      refine ml_val (my_assign (Sm.v _)) rfl rfl rfl ?_
      refine ml_nil ?_
      refine z_seq ?_
      refine m_ret ?_
      refine z_seqR ?_
      exact ⟨.tup [tA m (l) (n), iv .i64 30], mresv2 rfl (mrv_cell rfl (my_load Try.underlying46 rfl (q := 1) rfl rfl rfl rfl rfl (fun _ => ⟨_, I46, S46⟩) rfl rfl)) (mrv_tmp rfl), by rw [show delT l n k v = (l, n, 30) from by unfold delT; rw [if_neg h1]; rw [if_pos h2]]; rfl⟩
    · skip
      replace h2 : verO (look l k) = v := by simpa using h2
      refine m_skip ?_
      refine z_seq ?_
      refine m_seq ?_
      refine m_region ?_
      refine ml_val (my_field Try.underlying46 rfl I3 S3 rfl rfl rfl) rfl rfl rfl ?_
      refine ml_val (my_load Try.underlying3 rfl (q := 0) rfl rfl rfl rfl rfl (fun h => absurd (show false = true from h) Bool.false_ne_true) rfl rfl) rfl rfl rfl ?_
      refine ml_val (my_add64 rfl rfl (by omega)) rfl rfl rfl ?_
      refine ml_val (my_field Try.underlying46 rfl I3 S3 rfl rfl rfl) rfl rfl rfl ?_
      refine ml_ow rfl (mo_store I3 S3 rfl rfl rfl (q := 0) rfl rfl rfl rfl rfl ?_)
      refine ml_nil ?_
      refine z_seq ?_
      refine m_seq ?_
      refine m_region ?_
      refine ml_val (my_field Try.underlying46 rfl I38 S38 rfl rfl rfl) rfl rfl rfl ?_
      refine ml_val (my_load Try.underlying38 rfl (q := 0) rfl rfl rfl rfl rfl (fun h => absurd (show false = true from h) Bool.false_ne_true) rfl rfl) rfl rfl rfl ?_
      refine ml_val (my_move (Sm.v _)) rfl rfl rfl ?_
      refine ml_ow rfl (mo_call [] fn32 rfl rfl (without_t l k hl) rfl rfl (fun Hs' a hp => ?_))
      obtain ⟨rfl, rfl⟩ := hp
      refine ml_norm [0, 1] [⟨_, _⟩, ⟨_, _⟩] (by decide) rfl ?_
      refine ml_val (my_field Try.underlying46 rfl I38 S38 rfl rfl rfl) rfl rfl rfl ?_
      refine ml_ow rfl (mo_store I38 S38 rfl rfl rfl (q := 0) rfl rfl rfl rfl rfl ?_)
      refine ml_nil ?_
      refine z_seq ?_
      refine m_seq ?_
      refine m_region ?_
      refine ml_val (my_load Try.underlying46 rfl (q := 0) rfl rfl rfl rfl rfl (fun _ => ⟨_, I46, S46⟩) rfl rfl) rfl rfl rfl ?_
      refine ml_ow rfl (mo_store I46 S46 rfl rfl rfl (q := 1) rfl rfl rfl rfl rfl ?_)
      refine ml_val (my_assign (Sm.v _)) rfl rfl rfl ?_
      refine ml_nil ?_
      refine z_seq ?_
      refine m_ret ?_
      exact ⟨.tup [tA m (withoutR l k) (n + 1), iv .i64 0], mresv2 rfl (mrv_cell rfl (my_load Try.underlying46 rfl (q := 1) rfl rfl rfl rfl rfl (fun _ => ⟨_, I46, S46⟩) rfl rfl)) (mrv_tmp rfl), by rw [show delT l n k v = (withoutR l k, n + 1, 0) from by unfold delT; rw [if_neg h1]; rw [if_neg (fun h => h h2)]]; rfl⟩

theorem Delete_t (m : Int) (l : List Rc) (n : Int) (k : ByteArray) (v : Int) (hl : l.length ≤ 1000000) (hn : 0 ≤ n ∧ n ≤ 1000000) : MF Try.prog 22 [tA m l n, sv k, iv .i64 v] [] (fun Hs' res => Hs' = [] ∧ res = .tup [tA m (delT l n k v).1 (delT l n k v).2.1, iv .i64 (delT l n k v).2.2]) := mf_none (Delete_k m l n k v hl hn)

end Go.Proofs.Ytlklapledogdcaa.K
