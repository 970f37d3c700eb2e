/- All bytes as a thing, or an error. Conditions: the bytes lie in blocks that are there. -/
import Derived.Test.YthpocekigliomaaKQ
import Derived.Test.YthpocekigliomaaKRd
namespace Go.Proofs.Ythpocekigliomaa.K
open Go

set_option maxRecDepth 100000 in
set_option maxHeartbeats 1000000 in
theorem clList_ret {b4 b5 : Nat} {w : World} :
    CallsD Try.prog 113 #[.pointer (some ⟨b4, 0, none⟩), .pointer (some ⟨b5, 0, none⟩)] .returning w (fun e u' w' => u' = .returning ∧ ((∃ v, e = .returned v) ∧ Ext w w')) := by
  refine k_recover (n := 15) .returning .returning .nilIface Try.func113 rfl Try.ntmps113 rfl rfl (fun c cs h => .inr ⟨rec_return c cs h, rfl, rfl⟩) ?_
  rw [args2]
  refine k_block ?_
  refine k_seq ?_
  refine k_region ?_
  refine kl_val (y_eqlN Try.underlying20 rfl) rfl rfl rfl ?_
  refine kl_nil ?_
  refine x_seq ?_
  refine k_condT rfl ?_
  refine k_region ?_
  refine kl_val (y_assign) rfl rfl rfl ?_
  refine kl_nil ?_
  refine x_blk ?_
  exact k_end0 rfl ⟨⟨_, rfl⟩, Fr.refl _ _⟩

theorem zoneList : One' ([Value.int .i64 0, Value.int .i64 0] ++ List.replicate 32 (Value.int .u8 0) ++ [Value.slice none 0 0] ++ List.replicate 64 (Value.int .u8 0) : List Value) := by
  have h : (([Value.int .i64 0, Value.int .i64 0] ++ List.replicate 32 (Value.int .u8 0) ++ [Value.slice none 0 0] ++ List.replicate 64 (Value.int .u8 0) : List Value)).all (fun u => u.oneCell') = true := by decide +kernel
  intro u hu
  exact List.all_eq_true.1 h u hu

set_option maxRecDepth 100000 in
set_option maxHeartbeats 1000000 in
theorem clList_pan {b4 b5 e : Nat} {xs4 xs5 : List Value} {w : World} (hb4 : Bx w b4 47 xs4) (hb5 : Bx w b5 28 xs5) (hl4 : xs4.length = 99) (hl5 : xs5.length = 1) (hne : b4 ≠ b5) :
    CallsD Try.prog 113 #[.pointer (some ⟨b4, 0, none⟩), .pointer (some ⟨b5, 0, none⟩)] (.panicking [{ v := .iface 172 (.agg #[.int .u16 (e : Int)]), recovered := false }]) w (fun ek u' w' => u' = (.panicking [{ v := .iface 172 (.agg #[.int .u16 (e : Int)]), recovered := true }]) ∧ ((∃ v, ek = .returned v) ∧ Bx w' b4 47 (([Value.int .i64 0, Value.int .i64 0] ++ List.replicate 32 (Value.int .u8 0) ++ [Value.slice none 0 0] ++ List.replicate 64 (Value.int .u8 0) : List Value)) ∧ Bx w' b5 28 [.int .u16 (e : Int)] ∧ Fr (fun i => i = b4 ∨ i = b5) w w')) := by
  refine k_recover (n := 15) (.panicking [{ v := .iface 172 (.agg #[.int .u16 (e : Int)]), recovered := false }]) (.panicking [{ v := .iface 172 (.agg #[.int .u16 (e : Int)]), recovered := true }]) (.iface 172 (.agg #[.int .u16 (e : Int)])) Try.func113 rfl Try.ntmps113 rfl rfl (fun c cs h => .inl (rec_panic _ c cs h)) ?_
  rw [args2]
  have hl4' := hb4.lt
  have hl5' := hb5.lt
  refine k_block ?_
  refine k_seq ?_
  refine k_region ?_
  refine kl_val (y_eqlI Try.underlying20 rfl rfl) rfl rfl rfl ?_
  refine kl_nil ?_
  refine x_seq ?_
  refine k_condF rfl ?_
  refine k_seq ?_
  refine k_region ?_
  refine kl_val (y_assertOk Try.underlying172 rfl rfl) rfl rfl rfl ?_
  refine kl_val (y_extract rfl rfl) rfl rfl rfl ?_
  refine kl_val (y_extract rfl rfl) rfl rfl rfl ?_
  refine kl_nil ?_
  refine x_seq ?_
  refine k_condT rfl ?_
  refine k_seq ?_
  refine k_region ?_
  refine kl_ow rfl (ow_alloc I172 Z172 rfl (fun w1 bq hbq hf1 he1 hz1 => ?_))
  refine kl_ow rfl (ow_store (b := bq) (o := 0) I172 S172 rfl (v := .agg #[.int .u16 (e : Int)]) (xs := [.int .u16 (e : Int)]) rfl hbq rfl rfl (Nat.le_refl 1) (One'.single rfl) (fun w2 hbq2 hf2 hz2 => ?_))
  replace hbq := bx_eq hbq2 (splice_all rfl)
  have hE : Ext w w2 := ext_store hf1 hf2 (by omega)
  replace hb4 := hb4.keep hE (fun h => h)
  replace hb5 := hb5.keep hE (fun h => h)
  refine kl_nil ?_
  refine x_seq ?_
  refine k_seq ?_
  refine k_region ?_
  refine kl_ow rfl (ow_alloc I47 Z47 rfl (fun w3 bz hbz hf3 he3 hz3 => ?_))
  replace hbz := bx_eq hbz (show _ = (([Value.int .i64 0, Value.int .i64 0] ++ List.replicate 32 (Value.int .u8 0) ++ [Value.slice none 0 0] ++ List.replicate 64 (Value.int .u8 0) : List Value)) from rfl)
  replace hbq := hbq.keep hf3 (fun h => h)
  replace hb4 := hb4.keep hf3 (fun h => h)
  replace hb5 := hb5.keep hf3 (fun h => h)
  replace hE : Ext w w3 := hE.trans hf3
  refine kl_nil ?_
  refine x_seq ?_
  refine k_regionD (S := fun w' => Bx w' bq 172 [.int .u16 (e : Int)] ∧ Bx w' bz 47 (([Value.int .i64 0, Value.int .i64 0] ++ List.replicate 32 (Value.int .u8 0) ++ [Value.slice none 0 0] ++ List.replicate 64 (Value.int .u8 0) : List Value))) [] [(0, true), (1, true), (2, true), (3, false), (4, false)] mixed (fun _ _ _ _ _ h => h) (by kernel_rfl) ?_
  replace hbq : Bx w3.drew bq _ _ := hbq
  replace hbz : Bx w3.drew bz _ _ := hbz
  replace hb4 : Bx w3.drew b4 _ _ := hb4
  replace hb5 : Bx w3.drew b5 _ _ := hb5
  replace hE : Ext w w3.drew := Fr.drew hE
  have hS8 := And.intro hbq hbz
  have hzz : w3.drew.heap.size = w3.heap.size := rfl
  refine kr_val rfl (hS8) (fun w' hS' => y_load rfl (ld_aggB Try.underlying47 rfl I47 S47 (by simp) hS'.2.cs)) rfl rfl rfl ?_
  refine kr_val rfl (hS8) (fun w' hS' => y_fieldAddr Try.underlying172 rfl I28 S28 rfl rfl) rfl rfl rfl ?_
  refine kr_val rfl (hS8) (fun w' hS' => y_load rfl (ld_one Try.underlying28 rfl (hS'.1.cs.at (i := 0) rfl))) rfl rfl rfl ?_
  refine kr_ow rfl rfl (ow_store (b := b4) (o := 0) I47 S47 rfl (v := .agg (([Value.int .i64 0, Value.int .i64 0] ++ List.replicate 32 (Value.int .u8 0) ++ [Value.slice none 0 0] ++ List.replicate 64 (Value.int .u8 0) : List Value)).toArray) (xs := (([Value.int .i64 0, Value.int .i64 0] ++ List.replicate 32 (Value.int .u8 0) ++ [Value.slice none 0 0] ++ List.replicate 64 (Value.int .u8 0) : List Value))) rfl hb4 rfl (by simp) (by simp only [List.length_append, List.length_replicate, List.length_cons, List.length_nil]; omega) (zoneList) (fun w5 hb4' hf5 hz5 => ?_))
  replace hb4 := bx_eq hb4' (splice_all (by rw [hl4]; simp))
  replace hb5 := hb5.keep hf5 (by omega)
  replace hbq := hbq.keep hf5 (by omega)
  replace hbz := hbz.keep hf5 (by omega)
  replace hS8 := And.intro hbq hbz
  refine ⟨(fun _ => hS8), ?_⟩
  refine kr_ow rfl rfl (ow_store (b := b5) (o := 0) I28 S28 rfl (v := .int .u16 (e : Int)) (xs := [.int .u16 (e : Int)]) rfl hb5 rfl rfl (by rw [hl5]; exact Nat.le_refl 1) (One'.single rfl) (fun w6 hb5' hf6 hz6 => ?_))
  replace hb5 := bx_eq hb5' (splice_all hl5)
  replace hb4 := hb4.keep hf6 (by omega)
  replace hbq := hbq.keep hf6 (by omega)
  replace hbz := hbz.keep hf6 (by omega)
  replace hS8 := And.intro hbq hbz
  refine ⟨(fun _ => hS8), ?_⟩
  refine kr_nil ?_
  refine x_blk ?_
  exact k_end0 rfl ⟨⟨_, rfl⟩, hb4, hb5, (hE.fr.trans' hf5 (fun i hi e => .inl e)).trans' hf6 (fun i hi e => .inr e)⟩

set_option maxRecDepth 100000 in
set_option maxHeartbeats 2000000 in
theorem wholeList_R {v : Value} {bs : List UInt8} {B : Nat → Prop} {w : World} (hb : SlR w B v 1 bs.length (bvs bs)) (hB : ∀ b, B b → b < w.heap.size) :
    Ret Try.prog 85 #[v, .func (.func 86) #[] #[]] w (fun u w' => Ext w w' ∧ WholeR (pWhole pLst bs) (fun v x => ∃ cs, v = .agg cs.toArray ∧ LstR w' (Nw w w') cs x) (.agg (([Value.int .i64 0, Value.int .i64 0] ++ List.replicate 32 (Value.int .u8 0) ++ [Value.slice none 0 0] ++ List.replicate 64 (Value.int .u8 0) : List Value)).toArray) u) := by
  refine k_enterD Try.func85 rfl Try.ntmps85 rfl ?_
  rw [args2]
  refine k_seq ?_
  refine k_region ?_
  refine kl_ow rfl (ow_alloc I47 Z47 rfl (fun w1 b4 hb4 hf4 he4 hz4 => ?_))
  replace hb4 := bx_eq hb4 (show _ = (([Value.int .i64 0, Value.int .i64 0] ++ List.replicate 32 (Value.int .u8 0) ++ [Value.slice none 0 0] ++ List.replicate 64 (Value.int .u8 0) : List Value)) from rfl)
  have hl4 : ((([Value.int .i64 0, Value.int .i64 0] ++ List.replicate 32 (Value.int .u8 0) ++ [Value.slice none 0 0] ++ List.replicate 64 (Value.int .u8 0) : List Value)) : List Value).length = 99 := by simp
  refine kl_ow rfl (ow_alloc I28 Z28 rfl (fun w2 b5 hb5 hf5 he5 hz5 => ?_))
  replace hb5 : Bx w2 b5 28 [.int .u16 0] := hb5
  have hE : Ext w w2 := hf4.trans hf5
  replace hb4 := hb4.keep hf5 (fun h => h)
  obtain ⟨a, cap, rfl⟩ := hb.form
  replace hb := hb.keep hE (fun _ _ h => h)
  have hw2 : w2.heap.size = w.heap.size + 2 := by omega
  refine kl_nil ?_
  refine x_seq ?_
  refine k_seq ?_
  refine k_seq ?_
  refine k_region ?_
  refine kl_val (y_move) rfl rfl rfl ?_
  refine kl_val (y_lenS Try.underlying22 rfl) rfl rfl rfl ?_
  refine kl_val (y_gtr rfl rfl) rfl rfl rfl ?_
  refine kl_nil ?_
  refine x_seq ?_
  refine k_condp rfl (fun hlong => ?_) (fun hlong => ?_)
  · skip
    refine k_seq ?_
    refine k_region ?_
    refine kl_val (y_load rfl (ld_aggB Try.underlying47 rfl I47 S47 (by simp) hb4.cs)) rfl rfl rfl ?_
    refine kl_ow rfl (ow_store (b := b4) (o := 0) I47 S47 rfl (v := .agg (([Value.int .i64 0, Value.int .i64 0] ++ List.replicate 32 (Value.int .u8 0) ++ [Value.slice none 0 0] ++ List.replicate 64 (Value.int .u8 0) : List Value)).toArray) (xs := (([Value.int .i64 0, Value.int .i64 0] ++ List.replicate 32 (Value.int .u8 0) ++ [Value.slice none 0 0] ++ List.replicate 64 (Value.int .u8 0) : List Value))) rfl hb4 rfl (by simp) (by rw [hl4]; show 0 + ((([Value.int .i64 0, Value.int .i64 0] ++ List.replicate 32 (Value.int .u8 0) ++ [Value.slice none 0 0] ++ List.replicate 64 (Value.int .u8 0) : List Value)) : List Value).length ≤ _; rw [show ((([Value.int .i64 0, Value.int .i64 0] ++ List.replicate 32 (Value.int .u8 0) ++ [Value.slice none 0 0] ++ List.replicate 64 (Value.int .u8 0) : List Value)) : List Value).length = 99 from by simp]; omega) (zoneList) (fun w5 hb4' hf5 hz5 => ?_))
    replace hb4 := bx_eq hb4' (splice_all rfl)
    replace hb5 := hb5.keep hf5 (by omega)
    replace hE := hE.trans' hf5 (fun i hi e => absurd e (by omega))
    refine kl_ow rfl (ow_store (b := b5) (o := 0) I28 S28 rfl (v := .int .u16 3) (xs := [.int .u16 3]) rfl hb5 rfl rfl (Nat.le_refl 1) (One'.single rfl) (fun w6 hb5' hf6 hz6 => ?_))
    replace hb5 := bx_eq hb5' (splice_all rfl)
    replace hb4 := hb4.keep hf6 (by omega)
    replace hE := hE.trans' hf6 (fun i hi e => absurd e (by omega))
    refine kl_nil ?_
    refine x_seq ?_
    refine k_ret ?_
    refine x_seqR ?_
    exact kD_nil (res_cells2 rfl (ac_tmp rfl) (ac_tmp rfl) (ld_aggB Try.underlying47 rfl I47 S47 (by simp) hb4.cs) (ld_one Try.underlying28 rfl (hb5.cs.at (i := 0) rfl))) ⟨_, rfl, hE, .inr ⟨3, by unfold pWhole; rw [if_pos (by omega)], rfl⟩⟩
  · skip
    have hP : ∀ (w' : World) (e : Nat) (xs4 xs5 : List Value), Bx w' b4 47 xs4 → Bx w' b5 28 xs5 → xs4.length = 99 → xs5.length = 1 → Ext w w' → pWhole pLst bs = .error e → ∀ tmps : Array Value, tmps.getD 4 undef = .pointer (some ⟨b4, 0, none⟩) → tmps.getD 5 undef = .pointer (some ⟨b5, 0, none⟩) →
        Leaves Try.prog Try.f85 tmps (fun e w' => ∃ v, e = .returned v ∧ Ext w w' ∧ WholeR (pWhole pLst bs) (fun v x => ∃ cs, v = .agg cs.toArray ∧ LstR w' (Nw w w') cs x) (.agg (([Value.int .i64 0, Value.int .i64 0] ++ List.replicate 32 (Value.int .u8 0) ++ [Value.slice none 0 0] ++ List.replicate 64 (Value.int .u8 0) : List Value)).toArray) v) [{ target := .fn (.func 113) #[.pointer (some ⟨b4, 0, none⟩), .pointer (some ⟨b5, 0, none⟩)], args := #[] }] (.panicking (wrong e)) w' := by
      intro w' e xs4 xs5 h4 h5 hl4 hl5 hE' hq tmps ht4 ht5
      refine leaves_cons (by simp) (invoke_closure fn113 _ _) ?_
      refine (clList_pan h4 h5 hl4 hl5 (by omega)).mono ?_
      rintro ek u' w2 ⟨rfl, ⟨v, rfl⟩, g4, g5, hf⟩
      exact ⟨_, res_cells2 rfl ht4 ht5 (ld_aggB Try.underlying47 rfl I47 S47 (by simp) g4.cs) (ld_one Try.underlying28 rfl (g5.cs.at (i := 0) rfl)), _, rfl, hE'.trans' hf (fun i hi e => absurd e (by omega)), .inr ⟨e, hq, rfl⟩⟩
    have hQ : ∀ (w' : World) (v : Value) (tmps : Array Value), tmps.getD 4 undef = .pointer (some ⟨b4, 0, none⟩) → tmps.getD 5 undef = .pointer (some ⟨b5, 0, none⟩) → Ext w w' → (∀ w2, Ext w' w2 → Ld Try.prog w2 47 ⟨b4, 0, none⟩ v ∧ (∃ xs, Bx w2 b5 28 [xs] ∧ WholeR (pWhole pLst bs) (fun v x => ∃ cs, v = .agg cs.toArray ∧ LstR w2 (Nw w w2) cs x) (.agg (([Value.int .i64 0, Value.int .i64 0] ++ List.replicate 32 (Value.int .u8 0) ++ [Value.slice none 0 0] ++ List.replicate 64 (Value.int .u8 0) : List Value)).toArray) (.tuple #[v, xs]))) →
        Leaves Try.prog Try.f85 tmps (fun e w' => ∃ v, e = .returned v ∧ Ext w w' ∧ WholeR (pWhole pLst bs) (fun v x => ∃ cs, v = .agg cs.toArray ∧ LstR w' (Nw w w') cs x) (.agg (([Value.int .i64 0, Value.int .i64 0] ++ List.replicate 32 (Value.int .u8 0) ++ [Value.slice none 0 0] ++ List.replicate 64 (Value.int .u8 0) : List Value)).toArray) v) [{ target := .fn (.func 113) #[.pointer (some ⟨b4, 0, none⟩), .pointer (some ⟨b5, 0, none⟩)], args := #[] }] .returning w' := by
      intro w' v tmps ht4 ht5 hE' hv
      refine leaves_cons (by simp) (invoke_closure fn113 _ _) ?_
      refine clList_ret.mono ?_
      rintro ek u' w2 ⟨rfl, ⟨v', rfl⟩, hf⟩
      obtain ⟨hl, xs, hb5', hW⟩ := hv w2 hf
      exact ⟨_, res_cells2 rfl ht4 ht5 hl (ld_one Try.underlying28 rfl (hb5'.cs.at (i := 0) rfl)), _, rfl, hE'.trans hf, hW⟩
    refine k_skip ?_
    refine x_seq ?_
    refine k_seq ?_
    refine k_region ?_
    refine kl_val (y_func2 rfl rfl) rfl rfl rfl ?_
    refine kl_ow rfl (ow_defer0 rfl ?_)
    refine kl_nil ?_
    refine x_seq ?_
    refine k_seq ?_
    refine k_region ?_
    refine kl_val (y_move) rfl rfl rfl ?_
    refine kl_val (y_build (cells := #[.slice a bs.length cap]) rfl (by kernel_rfl)) rfl rfl rfl ?_
    refine kl_ow rfl (ow_box rfl rfl (fun w3 bp hbp hf3 he3 hz3 => ?_))
    replace hbp : Bx w3 bp 173 [.slice a bs.length cap] := hbp
    have hR : Rd w3 B ⟨bp, 0, none⟩ (.slice a bs.length cap) bs := ⟨hbp.cs.at (i := 0) rfl, by unfold Bx at hbp; simp [World.frozen?, hbp], hb.keep hf3 (fun _ _ h => h), fun i hi => (by have h1 := hB i hi; show i < bp; omega), by omega⟩
    replace hb4 := hb4.keep hf3 (fun h => h)
    replace hb5 := hb5.keep hf3 (fun h => h)
    replace hE := hE.trans hf3
    refine kl_val (y_assign) rfl rfl rfl ?_
    refine kl_nil ?_
    refine x_seq ?_
    refine k_seq ?_
    refine k_region ?_
    refine kl_val (y_move) rfl rfl rfl ?_
    refine kl_val (y_move) rfl rfl rfl ?_
    refine kl_ow rfl (ow_call1 fn86 rfl rfl rfl (list_r hR) (kret_retP (fun u w4 ⟨x, rest, v4, hx, hR4, hf, hu⟩ => ?_) (fun c w' ⟨e, he, hc, hf⟩ => (by intro tmps ht; subst hc; exact hP w' e _ _ (hb4.keep hf (by show ¬ b4 = bp; omega)) (hb5.keep hf (by show ¬ b5 = bp; omega)) hl4 rfl (hE.trans' hf (fun i hi e => absurd (show i = bp from e) (by omega))) (by unfold pWhole; rw [if_neg (by omega), he]) tmps (ht 4) (ht 5)))))
    obtain ⟨cs, rfl, hX⟩ := hu
    have hcl := hX.length
    have hone := hX.one
    replace hb4 := hb4.keep hf (by show ¬ b4 = bp; omega)
    replace hb5 := hb5.keep hf (by show ¬ b5 = bp; omega)
    replace hE := hE.trans' hf (fun i hi e => absurd (show i = bp from e) (by omega))
    have hs4 := hf.size
    clear hR hf
    refine kl_ow rfl (ow_store (b := b4) (o := 0) I47 S47 rfl (v := .agg cs.toArray) (xs := cs) rfl hb4 rfl (hcl) (by rw [hl4]; show 0 + (cs : List Value).length ≤ _; rw [show (cs : List Value).length = 99 from hcl]; omega) (hone) (fun w5 hb4' hf5 hz5 => ?_))
    replace hb4 := bx_eq hb4' (splice_all (by rw [hl4]; exact (hcl).symm))
    replace hb5 := hb5.keep hf5 (by omega)
    replace hE := hE.trans' hf5 (fun i hi e => absurd e (by omega))
    replace hX := hX.keep hf5 (fun i hi => by have := hi.1; omega)
    replace hR4 := hR4.keep hf5 (by show ¬ bp = b4; omega) (fun i hi => by have := hB i hi; omega)
    obtain ⟨ra, rc, rfl⟩ := hR4.sl.form
    refine kl_nil ?_
    refine x_seq ?_
    refine k_seq ?_
    refine k_seq ?_
    refine k_region ?_
    refine kl_val (y_move) rfl rfl rfl ?_
    refine kl_val (y_nil rfl) rfl rfl rfl ?_
    refine kl_val (y_fieldAddr Try.underlying173 rfl I22 S22 rfl rfl) rfl rfl rfl ?_
    refine kl_val (y_load rfl (ld_one Try.underlying22 rfl hR4.cell)) rfl rfl rfl ?_
    refine kl_val (y_lenS Try.underlying22 rfl) rfl rfl rfl ?_
    refine kl_val (y_gtr rfl rfl) rfl rfl rfl ?_
    refine kl_nil ?_
    refine x_seq ?_
    refine k_condp rfl (fun hrest => ?_) (fun hrest => ?_)
    · skip
      refine k_region ?_
      exact kl_ow rfl (ow_call1 fn99 rfl rfl rfl (fail_p 11) (kret_retP (fun _ _ h => h.elim) (fun c w' hc => (by intro tmps ht; rw [hc.1, hc.2]; exact hP _ 11 _ _ hb4 hb5 (hcl) rfl hE (by unfold pWhole; rw [if_neg (by omega), hx]; show (if rest = [] then _ else _) = _; rw [if_neg (by rintro rfl; simp at hrest)]) tmps (ht 4) (ht 5)))))
    · skip
      have hr0 : rest = [] := List.eq_nil_of_length_eq_zero (by omega)
      subst hr0
      refine k_skip ?_
      refine x_seq ?_
      refine k_seq ?_
      refine k_region ?_
      refine kl_val (y_load rfl (ld_aggB Try.underlying47 rfl I47 S47 (hcl) hb4.cs)) rfl rfl rfl ?_
      refine kl_ow rfl (ow_store (b := b4) (o := 0) I47 S47 rfl (v := .agg cs.toArray) (xs := cs) rfl hb4 rfl (hcl) (by omega) (hone) (fun w6 hb4' hf6 hz6 => ?_))
      replace hb4 := bx_eq hb4' (splice_all rfl)
      replace hb5 := hb5.keep hf6 (by omega)
      replace hE := hE.trans' hf6 (fun i hi e => absurd e (by omega))
      replace hX := hX.keep hf6 (fun i hi => by have := hi.1; omega)
      refine kl_ow rfl (ow_store (b := b5) (o := 0) I28 S28 rfl (v := .int .u16 0) (xs := [.int .u16 0]) rfl hb5 rfl rfl (Nat.le_refl 1) (One'.single rfl) (fun w7 hb5' hf7 hz7 => ?_))
      replace hb5 := bx_eq hb5' (splice_all rfl)
      replace hb4 := hb4.keep hf7 (by omega)
      replace hE := hE.trans' hf7 (fun i hi e => absurd e (by omega))
      replace hX := hX.keep hf7 (fun i hi => by have := hi.1; omega)
      refine kl_nil ?_
      refine x_seq ?_
      refine k_ret ?_
      refine kD_R (hQ _ (.agg cs.toArray) _ (ac_tmp rfl) (ac_tmp rfl) hE (fun w2 hf => ?_))
      have g4 := hb4.keep hf (fun h => h)
      exact ⟨(ld_aggB Try.underlying47 rfl I47 S47 (hcl) g4.cs), _, hb5.keep hf (fun h => h), .inl ⟨x, _, by unfold pWhole; rw [if_neg (by omega), hx]; rfl, rfl, ⟨cs, rfl, (hX.keep hf (fun _ _ h => h)).mono (fun i hi => ⟨by have := hi.1; omega, by have h1 := hi.2; have h2 := hf.size; omega⟩)⟩⟩⟩

set_option maxRecDepth 100000 in
set_option maxHeartbeats 1000000 in
theorem clEnvelope_ret {b4 b5 : Nat} {w : World} :
    CallsD Try.prog 120 #[.pointer (some ⟨b4, 0, none⟩), .pointer (some ⟨b5, 0, none⟩)] .returning w (fun e u' w' => u' = .returning ∧ ((∃ v, e = .returned v) ∧ Ext w w')) := by
  refine k_recover (n := 15) .returning .returning .nilIface Try.func120 rfl Try.ntmps120 rfl rfl (fun c cs h => .inr ⟨rec_return c cs h, rfl, rfl⟩) ?_
  rw [args2]
  refine k_block ?_
  refine k_seq ?_
  refine k_region ?_
  refine kl_val (y_eqlN Try.underlying20 rfl) rfl rfl rfl ?_
  refine kl_nil ?_
  refine x_seq ?_
  refine k_condT rfl ?_
  refine k_region ?_
  refine kl_val (y_assign) rfl rfl rfl ?_
  refine kl_nil ?_
  refine x_blk ?_
  exact k_end0 rfl ⟨⟨_, rfl⟩, Fr.refl _ _⟩

theorem zoneEnvelope : One' ([Value.int .i64 0, Value.int .i64 0, Value.bool false] ++ List.replicate 32 (Value.int .u8 0) ++ [Value.int .i64 0, Value.int .i64 0] ++ List.replicate 32 (Value.int .u8 0) ++ [Value.int .i64 0, Value.int .i64 0, Value.slice none 0 0] : List Value) := by
  have h : (([Value.int .i64 0, Value.int .i64 0, Value.bool false] ++ List.replicate 32 (Value.int .u8 0) ++ [Value.int .i64 0, Value.int .i64 0] ++ List.replicate 32 (Value.int .u8 0) ++ [Value.int .i64 0, Value.int .i64 0, Value.slice none 0 0] : List Value)).all (fun u => u.oneCell') = true := by decide +kernel
  intro u hu
  exact List.all_eq_true.1 h u hu

set_option maxRecDepth 100000 in
set_option maxHeartbeats 1000000 in
theorem clEnvelope_pan {b4 b5 e : Nat} {xs4 xs5 : List Value} {w : World} (hb4 : Bx w b4 38 xs4) (hb5 : Bx w b5 28 xs5) (hl4 : xs4.length = 72) (hl5 : xs5.length = 1) (hne : b4 ≠ b5) :
    CallsD Try.prog 120 #[.pointer (some ⟨b4, 0, none⟩), .pointer (some ⟨b5, 0, none⟩)] (.panicking [{ v := .iface 172 (.agg #[.int .u16 (e : Int)]), recovered := false }]) w (fun ek u' w' => u' = (.panicking [{ v := .iface 172 (.agg #[.int .u16 (e : Int)]), recovered := true }]) ∧ ((∃ v, ek = .returned v) ∧ Bx w' b4 38 (([Value.int .i64 0, Value.int .i64 0, Value.bool false] ++ List.replicate 32 (Value.int .u8 0) ++ [Value.int .i64 0, Value.int .i64 0] ++ List.replicate 32 (Value.int .u8 0) ++ [Value.int .i64 0, Value.int .i64 0, Value.slice none 0 0] : List Value)) ∧ Bx w' b5 28 [.int .u16 (e : Int)] ∧ Fr (fun i => i = b4 ∨ i = b5) w w')) := by
  refine k_recover (n := 15) (.panicking [{ v := .iface 172 (.agg #[.int .u16 (e : Int)]), recovered := false }]) (.panicking [{ v := .iface 172 (.agg #[.int .u16 (e : Int)]), recovered := true }]) (.iface 172 (.agg #[.int .u16 (e : Int)])) Try.func120 rfl Try.ntmps120 rfl rfl (fun c cs h => .inl (rec_panic _ c cs h)) ?_
  rw [args2]
  have hl4' := hb4.lt
  have hl5' := hb5.lt
  refine k_block ?_
  refine k_seq ?_
  refine k_region ?_
  refine kl_val (y_eqlI Try.underlying20 rfl rfl) rfl rfl rfl ?_
  refine kl_nil ?_
  refine x_seq ?_
  refine k_condF rfl ?_
  refine k_seq ?_
  refine k_region ?_
  refine kl_val (y_assertOk Try.underlying172 rfl rfl) rfl rfl rfl ?_
  refine kl_val (y_extract rfl rfl) rfl rfl rfl ?_
  refine kl_val (y_extract rfl rfl) rfl rfl rfl ?_
  refine kl_nil ?_
  refine x_seq ?_
  refine k_condT rfl ?_
  refine k_seq ?_
  refine k_region ?_
  refine kl_ow rfl (ow_alloc I172 Z172 rfl (fun w1 bq hbq hf1 he1 hz1 => ?_))
  refine kl_ow rfl (ow_store (b := bq) (o := 0) I172 S172 rfl (v := .agg #[.int .u16 (e : Int)]) (xs := [.int .u16 (e : Int)]) rfl hbq rfl rfl (Nat.le_refl 1) (One'.single rfl) (fun w2 hbq2 hf2 hz2 => ?_))
  replace hbq := bx_eq hbq2 (splice_all rfl)
  have hE : Ext w w2 := ext_store hf1 hf2 (by omega)
  replace hb4 := hb4.keep hE (fun h => h)
  replace hb5 := hb5.keep hE (fun h => h)
  refine kl_nil ?_
  refine x_seq ?_
  refine k_seq ?_
  refine k_region ?_
  refine kl_ow rfl (ow_alloc I38 Z38 rfl (fun w3 bz hbz hf3 he3 hz3 => ?_))
  replace hbz := bx_eq hbz (show _ = (([Value.int .i64 0, Value.int .i64 0, Value.bool false] ++ List.replicate 32 (Value.int .u8 0) ++ [Value.int .i64 0, Value.int .i64 0] ++ List.replicate 32 (Value.int .u8 0) ++ [Value.int .i64 0, Value.int .i64 0, Value.slice none 0 0] : List Value)) from rfl)
  replace hbq := hbq.keep hf3 (fun h => h)
  replace hb4 := hb4.keep hf3 (fun h => h)
  replace hb5 := hb5.keep hf3 (fun h => h)
  replace hE : Ext w w3 := hE.trans hf3
  refine kl_nil ?_
  refine x_seq ?_
  refine k_regionD (S := fun w' => Bx w' bq 172 [.int .u16 (e : Int)] ∧ Bx w' bz 38 (([Value.int .i64 0, Value.int .i64 0, Value.bool false] ++ List.replicate 32 (Value.int .u8 0) ++ [Value.int .i64 0, Value.int .i64 0] ++ List.replicate 32 (Value.int .u8 0) ++ [Value.int .i64 0, Value.int .i64 0, Value.slice none 0 0] : List Value))) [] [(0, true), (1, true), (2, true), (3, false), (4, false)] mixed (fun _ _ _ _ _ h => h) (by kernel_rfl) ?_
  replace hbq : Bx w3.drew bq _ _ := hbq
  replace hbz : Bx w3.drew bz _ _ := hbz
  replace hb4 : Bx w3.drew b4 _ _ := hb4
  replace hb5 : Bx w3.drew b5 _ _ := hb5
  replace hE : Ext w w3.drew := Fr.drew hE
  have hS8 := And.intro hbq hbz
  have hzz : w3.drew.heap.size = w3.heap.size := rfl
  refine kr_val rfl (hS8) (fun w' hS' => y_load rfl (ld_aggB Try.underlying38 rfl I38 S38 (by simp) hS'.2.cs)) rfl rfl rfl ?_
  refine kr_val rfl (hS8) (fun w' hS' => y_fieldAddr Try.underlying172 rfl I28 S28 rfl rfl) rfl rfl rfl ?_
  refine kr_val rfl (hS8) (fun w' hS' => y_load rfl (ld_one Try.underlying28 rfl (hS'.1.cs.at (i := 0) rfl))) rfl rfl rfl ?_
  refine kr_ow rfl rfl (ow_store (b := b4) (o := 0) I38 S38 rfl (v := .agg (([Value.int .i64 0, Value.int .i64 0, Value.bool false] ++ List.replicate 32 (Value.int .u8 0) ++ [Value.int .i64 0, Value.int .i64 0] ++ List.replicate 32 (Value.int .u8 0) ++ [Value.int .i64 0, Value.int .i64 0, Value.slice none 0 0] : List Value)).toArray) (xs := (([Value.int .i64 0, Value.int .i64 0, Value.bool false] ++ List.replicate 32 (Value.int .u8 0) ++ [Value.int .i64 0, Value.int .i64 0] ++ List.replicate 32 (Value.int .u8 0) ++ [Value.int .i64 0, Value.int .i64 0, Value.slice none 0 0] : List Value))) rfl hb4 rfl (by simp) (by simp only [List.length_append, List.length_replicate, List.length_cons, List.length_nil]; omega) (zoneEnvelope) (fun w5 hb4' hf5 hz5 => ?_))
  replace hb4 := bx_eq hb4' (splice_all (by rw [hl4]; simp))
  replace hb5 := hb5.keep hf5 (by omega)
  replace hbq := hbq.keep hf5 (by omega)
  replace hbz := hbz.keep hf5 (by omega)
  replace hS8 := And.intro hbq hbz
  refine ⟨(fun _ => hS8), ?_⟩
  refine kr_ow rfl rfl (ow_store (b := b5) (o := 0) I28 S28 rfl (v := .int .u16 (e : Int)) (xs := [.int .u16 (e : Int)]) rfl hb5 rfl rfl (by rw [hl5]; exact Nat.le_refl 1) (One'.single rfl) (fun w6 hb5' hf6 hz6 => ?_))
  replace hb5 := bx_eq hb5' (splice_all hl5)
  replace hb4 := hb4.keep hf6 (by omega)
  replace hbq := hbq.keep hf6 (by omega)
  replace hbz := hbz.keep hf6 (by omega)
  replace hS8 := And.intro hbq hbz
  refine ⟨(fun _ => hS8), ?_⟩
  refine kr_nil ?_
  refine x_blk ?_
  exact k_end0 rfl ⟨⟨_, rfl⟩, hb4, hb5, (hE.fr.trans' hf5 (fun i hi e => .inl e)).trans' hf6 (fun i hi e => .inr e)⟩

set_option maxRecDepth 100000 in
set_option maxHeartbeats 2000000 in
theorem wholeEnvelope_R {v : Value} {bs : List UInt8} {B : Nat → Prop} {w : World} (hb : SlR w B v 1 bs.length (bvs bs)) (hB : ∀ b, B b → b < w.heap.size) :
    Ret Try.prog 89 #[v, .func (.func 90) #[] #[]] w (fun u w' => Ext w w' ∧ WholeR (pWhole pEnv bs) (fun v x => ∃ cs, v = .agg cs.toArray ∧ EnvR w' (Nw w w') cs x) (.agg (([Value.int .i64 0, Value.int .i64 0, Value.bool false] ++ List.replicate 32 (Value.int .u8 0) ++ [Value.int .i64 0, Value.int .i64 0] ++ List.replicate 32 (Value.int .u8 0) ++ [Value.int .i64 0, Value.int .i64 0, Value.slice none 0 0] : List Value)).toArray) u) := by
  refine k_enterD Try.func89 rfl Try.ntmps89 rfl ?_
  rw [args2]
  refine k_seq ?_
  refine k_region ?_
  refine kl_ow rfl (ow_alloc I38 Z38 rfl (fun w1 b4 hb4 hf4 he4 hz4 => ?_))
  replace hb4 := bx_eq hb4 (show _ = (([Value.int .i64 0, Value.int .i64 0, Value.bool false] ++ List.replicate 32 (Value.int .u8 0) ++ [Value.int .i64 0, Value.int .i64 0] ++ List.replicate 32 (Value.int .u8 0) ++ [Value.int .i64 0, Value.int .i64 0, Value.slice none 0 0] : List Value)) from rfl)
  have hl4 : ((([Value.int .i64 0, Value.int .i64 0, Value.bool false] ++ List.replicate 32 (Value.int .u8 0) ++ [Value.int .i64 0, Value.int .i64 0] ++ List.replicate 32 (Value.int .u8 0) ++ [Value.int .i64 0, Value.int .i64 0, Value.slice none 0 0] : List Value)) : List Value).length = 72 := by simp
  refine kl_ow rfl (ow_alloc I28 Z28 rfl (fun w2 b5 hb5 hf5 he5 hz5 => ?_))
  replace hb5 : Bx w2 b5 28 [.int .u16 0] := hb5
  have hE : Ext w w2 := hf4.trans hf5
  replace hb4 := hb4.keep hf5 (fun h => h)
  obtain ⟨a, cap, rfl⟩ := hb.form
  replace hb := hb.keep hE (fun _ _ h => h)
  have hw2 : w2.heap.size = w.heap.size + 2 := by omega
  refine kl_nil ?_
  refine x_seq ?_
  refine k_seq ?_
  refine k_seq ?_
  refine k_region ?_
  refine kl_val (y_move) rfl rfl rfl ?_
  refine kl_val (y_lenS Try.underlying22 rfl) rfl rfl rfl ?_
  refine kl_val (y_gtr rfl rfl) rfl rfl rfl ?_
  refine kl_nil ?_
  refine x_seq ?_
  refine k_condp rfl (fun hlong => ?_) (fun hlong => ?_)
  · skip
    refine k_seq ?_
    refine k_region ?_
    refine kl_val (y_load rfl (ld_aggB Try.underlying38 rfl I38 S38 (by simp) hb4.cs)) rfl rfl rfl ?_
    refine kl_ow rfl (ow_store (b := b4) (o := 0) I38 S38 rfl (v := .agg (([Value.int .i64 0, Value.int .i64 0, Value.bool false] ++ List.replicate 32 (Value.int .u8 0) ++ [Value.int .i64 0, Value.int .i64 0] ++ List.replicate 32 (Value.int .u8 0) ++ [Value.int .i64 0, Value.int .i64 0, Value.slice none 0 0] : List Value)).toArray) (xs := (([Value.int .i64 0, Value.int .i64 0, Value.bool false] ++ List.replicate 32 (Value.int .u8 0) ++ [Value.int .i64 0, Value.int .i64 0] ++ List.replicate 32 (Value.int .u8 0) ++ [Value.int .i64 0, Value.int .i64 0, Value.slice none 0 0] : List Value))) rfl hb4 rfl (by simp) (by rw [hl4]; show 0 + ((([Value.int .i64 0, Value.int .i64 0, Value.bool false] ++ List.replicate 32 (Value.int .u8 0) ++ [Value.int .i64 0, Value.int .i64 0] ++ List.replicate 32 (Value.int .u8 0) ++ [Value.int .i64 0, Value.int .i64 0, Value.slice none 0 0] : List Value)) : List Value).length ≤ _; rw [show ((([Value.int .i64 0, Value.int .i64 0, Value.bool false] ++ List.replicate 32 (Value.int .u8 0) ++ [Value.int .i64 0, Value.int .i64 0] ++ List.replicate 32 (Value.int .u8 0) ++ [Value.int .i64 0, Value.int .i64 0, Value.slice none 0 0] : List Value)) : List Value).length = 72 from by simp]; omega) (zoneEnvelope) (fun w5 hb4' hf5 hz5 => ?_))
    replace hb4 := bx_eq hb4' (splice_all rfl)
    replace hb5 := hb5.keep hf5 (by omega)
    replace hE := hE.trans' hf5 (fun i hi e => absurd e (by omega))
    refine kl_ow rfl (ow_store (b := b5) (o := 0) I28 S28 rfl (v := .int .u16 3) (xs := [.int .u16 3]) rfl hb5 rfl rfl (Nat.le_refl 1) (One'.single rfl) (fun w6 hb5' hf6 hz6 => ?_))
    replace hb5 := bx_eq hb5' (splice_all rfl)
    replace hb4 := hb4.keep hf6 (by omega)
    replace hE := hE.trans' hf6 (fun i hi e => absurd e (by omega))
    refine kl_nil ?_
    refine x_seq ?_
    refine k_ret ?_
    refine x_seqR ?_
    exact kD_nil (res_cells2 rfl (ac_tmp rfl) (ac_tmp rfl) (ld_aggB Try.underlying38 rfl I38 S38 (by simp) hb4.cs) (ld_one Try.underlying28 rfl (hb5.cs.at (i := 0) rfl))) ⟨_, rfl, hE, .inr ⟨3, by unfold pWhole; rw [if_pos (by omega)], rfl⟩⟩
  · skip
    have hP : ∀ (w' : World) (e : Nat) (xs4 xs5 : List Value), Bx w' b4 38 xs4 → Bx w' b5 28 xs5 → xs4.length = 72 → xs5.length = 1 → Ext w w' → pWhole pEnv bs = .error e → ∀ tmps : Array Value, tmps.getD 4 undef = .pointer (some ⟨b4, 0, none⟩) → tmps.getD 5 undef = .pointer (some ⟨b5, 0, none⟩) →
        Leaves Try.prog Try.f89 tmps (fun e w' => ∃ v, e = .returned v ∧ Ext w w' ∧ WholeR (pWhole pEnv bs) (fun v x => ∃ cs, v = .agg cs.toArray ∧ EnvR w' (Nw w w') cs x) (.agg (([Value.int .i64 0, Value.int .i64 0, Value.bool false] ++ List.replicate 32 (Value.int .u8 0) ++ [Value.int .i64 0, Value.int .i64 0] ++ List.replicate 32 (Value.int .u8 0) ++ [Value.int .i64 0, Value.int .i64 0, Value.slice none 0 0] : List Value)).toArray) v) [{ target := .fn (.func 120) #[.pointer (some ⟨b4, 0, none⟩), .pointer (some ⟨b5, 0, none⟩)], args := #[] }] (.panicking (wrong e)) w' := by
      intro w' e xs4 xs5 h4 h5 hl4 hl5 hE' hq tmps ht4 ht5
      refine leaves_cons (by simp) (invoke_closure fn120 _ _) ?_
      refine (clEnvelope_pan h4 h5 hl4 hl5 (by omega)).mono ?_
      rintro ek u' w2 ⟨rfl, ⟨v, rfl⟩, g4, g5, hf⟩
      exact ⟨_, res_cells2 rfl ht4 ht5 (ld_aggB Try.underlying38 rfl I38 S38 (by simp) g4.cs) (ld_one Try.underlying28 rfl (g5.cs.at (i := 0) rfl)), _, rfl, hE'.trans' hf (fun i hi e => absurd e (by omega)), .inr ⟨e, hq, rfl⟩⟩
    have hQ : ∀ (w' : World) (v : Value) (tmps : Array Value), tmps.getD 4 undef = .pointer (some ⟨b4, 0, none⟩) → tmps.getD 5 undef = .pointer (some ⟨b5, 0, none⟩) → Ext w w' → (∀ w2, Ext w' w2 → Ld Try.prog w2 38 ⟨b4, 0, none⟩ v ∧ (∃ xs, Bx w2 b5 28 [xs] ∧ WholeR (pWhole pEnv bs) (fun v x => ∃ cs, v = .agg cs.toArray ∧ EnvR w2 (Nw w w2) cs x) (.agg (([Value.int .i64 0, Value.int .i64 0, Value.bool false] ++ List.replicate 32 (Value.int .u8 0) ++ [Value.int .i64 0, Value.int .i64 0] ++ List.replicate 32 (Value.int .u8 0) ++ [Value.int .i64 0, Value.int .i64 0, Value.slice none 0 0] : List Value)).toArray) (.tuple #[v, xs]))) →
        Leaves Try.prog Try.f89 tmps (fun e w' => ∃ v, e = .returned v ∧ Ext w w' ∧ WholeR (pWhole pEnv bs) (fun v x => ∃ cs, v = .agg cs.toArray ∧ EnvR w' (Nw w w') cs x) (.agg (([Value.int .i64 0, Value.int .i64 0, Value.bool false] ++ List.replicate 32 (Value.int .u8 0) ++ [Value.int .i64 0, Value.int .i64 0] ++ List.replicate 32 (Value.int .u8 0) ++ [Value.int .i64 0, Value.int .i64 0, Value.slice none 0 0] : List Value)).toArray) v) [{ target := .fn (.func 120) #[.pointer (some ⟨b4, 0, none⟩), .pointer (some ⟨b5, 0, none⟩)], args := #[] }] .returning w' := by
      intro w' v tmps ht4 ht5 hE' hv
      refine leaves_cons (by simp) (invoke_closure fn120 _ _) ?_
      refine clEnvelope_ret.mono ?_
      rintro ek u' w2 ⟨rfl, ⟨v', rfl⟩, hf⟩
      obtain ⟨hl, xs, hb5', hW⟩ := hv w2 hf
      exact ⟨_, res_cells2 rfl ht4 ht5 hl (ld_one Try.underlying28 rfl (hb5'.cs.at (i := 0) rfl)), _, rfl, hE'.trans hf, hW⟩
    refine k_skip ?_
    refine x_seq ?_
    refine k_seq ?_
    refine k_region ?_
    refine kl_val (y_func2 rfl rfl) rfl rfl rfl ?_
    refine kl_ow rfl (ow_defer0 rfl ?_)
    refine kl_nil ?_
    refine x_seq ?_
    refine k_seq ?_
    refine k_region ?_
    refine kl_val (y_move) rfl rfl rfl ?_
    refine kl_val (y_build (cells := #[.slice a bs.length cap]) rfl (by kernel_rfl)) rfl rfl rfl ?_
    refine kl_ow rfl (ow_box rfl rfl (fun w3 bp hbp hf3 he3 hz3 => ?_))
    replace hbp : Bx w3 bp 173 [.slice a bs.length cap] := hbp
    have hR : Rd w3 B ⟨bp, 0, none⟩ (.slice a bs.length cap) bs := ⟨hbp.cs.at (i := 0) rfl, by unfold Bx at hbp; simp [World.frozen?, hbp], hb.keep hf3 (fun _ _ h => h), fun i hi => (by have h1 := hB i hi; show i < bp; omega), by omega⟩
    replace hb4 := hb4.keep hf3 (fun h => h)
    replace hb5 := hb5.keep hf3 (fun h => h)
    replace hE := hE.trans hf3
    refine kl_val (y_assign) rfl rfl rfl ?_
    refine kl_nil ?_
    refine x_seq ?_
    refine k_seq ?_
    refine k_region ?_
    refine kl_val (y_move) rfl rfl rfl ?_
    refine kl_val (y_move) rfl rfl rfl ?_
    refine kl_ow rfl (ow_call1 fn90 rfl rfl rfl (envelope_r hR) (kret_retP (fun u w4 ⟨x, rest, v4, hx, hR4, hf, hu⟩ => ?_) (fun c w' ⟨e, he, hc, hf⟩ => (by intro tmps ht; subst hc; exact hP w' e _ _ (hb4.keep hf (by show ¬ b4 = bp; omega)) (hb5.keep hf (by show ¬ b5 = bp; omega)) hl4 rfl (hE.trans' hf (fun i hi e => absurd (show i = bp from e) (by omega))) (by unfold pWhole; rw [if_neg (by omega), he]) tmps (ht 4) (ht 5)))))
    obtain ⟨cs, rfl, hX⟩ := hu
    have hcl := hX.length
    have hone := hX.one
    replace hb4 := hb4.keep hf (by show ¬ b4 = bp; omega)
    replace hb5 := hb5.keep hf (by show ¬ b5 = bp; omega)
    replace hE := hE.trans' hf (fun i hi e => absurd (show i = bp from e) (by omega))
    have hs4 := hf.size
    clear hR hf
    refine kl_ow rfl (ow_store (b := b4) (o := 0) I38 S38 rfl (v := .agg cs.toArray) (xs := cs) rfl hb4 rfl (hcl) (by rw [hl4]; show 0 + (cs : List Value).length ≤ _; rw [show (cs : List Value).length = 72 from hcl]; omega) (hone) (fun w5 hb4' hf5 hz5 => ?_))
    replace hb4 := bx_eq hb4' (splice_all (by rw [hl4]; exact (hcl).symm))
    replace hb5 := hb5.keep hf5 (by omega)
    replace hE := hE.trans' hf5 (fun i hi e => absurd e (by omega))
    replace hX := hX.keep hf5 (fun i hi => by have := hi.1; omega)
    replace hR4 := hR4.keep hf5 (by show ¬ bp = b4; omega) (fun i hi => by have := hB i hi; omega)
    obtain ⟨ra, rc, rfl⟩ := hR4.sl.form
    refine kl_nil ?_
    refine x_seq ?_
    refine k_seq ?_
    refine k_seq ?_
    refine k_region ?_
    refine kl_val (y_move) rfl rfl rfl ?_
    refine kl_val (y_nil rfl) rfl rfl rfl ?_
    refine kl_val (y_fieldAddr Try.underlying173 rfl I22 S22 rfl rfl) rfl rfl rfl ?_
    refine kl_val (y_load rfl (ld_one Try.underlying22 rfl hR4.cell)) rfl rfl rfl ?_
    refine kl_val (y_lenS Try.underlying22 rfl) rfl rfl rfl ?_
    refine kl_val (y_gtr rfl rfl) rfl rfl rfl ?_
    refine kl_nil ?_
    refine x_seq ?_
    refine k_condp rfl (fun hrest => ?_) (fun hrest => ?_)
    · skip
      refine k_region ?_
      exact kl_ow rfl (ow_call1 fn99 rfl rfl rfl (fail_p 11) (kret_retP (fun _ _ h => h.elim) (fun c w' hc => (by intro tmps ht; rw [hc.1, hc.2]; exact hP _ 11 _ _ hb4 hb5 (hcl) rfl hE (by unfold pWhole; rw [if_neg (by omega), hx]; show (if rest = [] then _ else _) = _; rw [if_neg (by rintro rfl; simp at hrest)]) tmps (ht 4) (ht 5)))))
    · skip
      have hr0 : rest = [] := List.eq_nil_of_length_eq_zero (by omega)
      subst hr0
      refine k_skip ?_
      refine x_seq ?_
      refine k_seq ?_
      refine k_region ?_
      refine kl_val (y_load rfl (ld_aggB Try.underlying38 rfl I38 S38 (hcl) hb4.cs)) rfl rfl rfl ?_
      refine kl_ow rfl (ow_store (b := b4) (o := 0) I38 S38 rfl (v := .agg cs.toArray) (xs := cs) rfl hb4 rfl (hcl) (by omega) (hone) (fun w6 hb4' hf6 hz6 => ?_))
      replace hb4 := bx_eq hb4' (splice_all rfl)
      replace hb5 := hb5.keep hf6 (by omega)
      replace hE := hE.trans' hf6 (fun i hi e => absurd e (by omega))
      replace hX := hX.keep hf6 (fun i hi => by have := hi.1; omega)
      refine kl_ow rfl (ow_store (b := b5) (o := 0) I28 S28 rfl (v := .int .u16 0) (xs := [.int .u16 0]) rfl hb5 rfl rfl (Nat.le_refl 1) (One'.single rfl) (fun w7 hb5' hf7 hz7 => ?_))
      replace hb5 := bx_eq hb5' (splice_all rfl)
      replace hb4 := hb4.keep hf7 (by omega)
      replace hE := hE.trans' hf7 (fun i hi e => absurd e (by omega))
      replace hX := hX.keep hf7 (fun i hi => by have := hi.1; omega)
      refine kl_nil ?_
      refine x_seq ?_
      refine k_ret ?_
      refine kD_R (hQ _ (.agg cs.toArray) _ (ac_tmp rfl) (ac_tmp rfl) hE (fun w2 hf => ?_))
      have g4 := hb4.keep hf (fun h => h)
      exact ⟨(ld_aggB Try.underlying38 rfl I38 S38 (hcl) g4.cs), _, hb5.keep hf (fun h => h), .inl ⟨x, _, by unfold pWhole; rw [if_neg (by omega), hx]; rfl, rfl, ⟨cs, rfl, (hX.keep hf (fun _ _ h => h)).mono (fun i hi => ⟨by have := hi.1; omega, by have h1 := hi.2; have h2 := hf.size; omega⟩)⟩⟩⟩

set_option maxRecDepth 100000 in
set_option maxHeartbeats 1000000 in
theorem clRequest_ret {b4 b5 : Nat} {w : World} :
    CallsD Try.prog 106 #[.pointer (some ⟨b4, 0, none⟩), .pointer (some ⟨b5, 0, none⟩)] .returning w (fun e u' w' => u' = .returning ∧ ((∃ v, e = .returned v) ∧ Ext w w')) := by
  refine k_recover (n := 15) .returning .returning .nilIface Try.func106 rfl Try.ntmps106 rfl rfl (fun c cs h => .inr ⟨rec_return c cs h, rfl, rfl⟩) ?_
  rw [args2]
  refine k_block ?_
  refine k_seq ?_
  refine k_region ?_
  refine kl_val (y_eqlN Try.underlying20 rfl) rfl rfl rfl ?_
  refine kl_nil ?_
  refine x_seq ?_
  refine k_condT rfl ?_
  refine k_region ?_
  refine kl_val (y_assign) rfl rfl rfl ?_
  refine kl_nil ?_
  refine x_blk ?_
  exact k_end0 rfl ⟨⟨_, rfl⟩, Fr.refl _ _⟩

theorem zoneRequest : One' ([Value.int .u8 0, Value.int .i64 0, Value.int .i64 0, Value.string ByteArray.empty, Value.string ByteArray.empty, Value.string ByteArray.empty, Value.int .i64 0, Value.int .i64 0] ++ List.replicate 32 (Value.int .u8 0) ++ [Value.slice none 0 0] ++ List.replicate 96 (Value.int .u8 0) ++ [Value.int .i64 0] ++ List.replicate 96 (Value.int .u8 0) ++ [Value.slice none 0 0, Value.int .i64 0, Value.slice none 0 0] : List Value) := by
  have h : (([Value.int .u8 0, Value.int .i64 0, Value.int .i64 0, Value.string ByteArray.empty, Value.string ByteArray.empty, Value.string ByteArray.empty, Value.int .i64 0, Value.int .i64 0] ++ List.replicate 32 (Value.int .u8 0) ++ [Value.slice none 0 0] ++ List.replicate 96 (Value.int .u8 0) ++ [Value.int .i64 0] ++ List.replicate 96 (Value.int .u8 0) ++ [Value.slice none 0 0, Value.int .i64 0, Value.slice none 0 0] : List Value)).all (fun u => u.oneCell') = true := by decide +kernel
  intro u hu
  exact List.all_eq_true.1 h u hu

set_option maxRecDepth 100000 in
set_option maxHeartbeats 1000000 in
theorem clRequest_pan {b4 b5 e : Nat} {xs4 xs5 : List Value} {w : World} (hb4 : Bx w b4 53 xs4) (hb5 : Bx w b5 28 xs5) (hl4 : xs4.length = 237) (hl5 : xs5.length = 1) (hne : b4 ≠ b5) :
    CallsD Try.prog 106 #[.pointer (some ⟨b4, 0, none⟩), .pointer (some ⟨b5, 0, none⟩)] (.panicking [{ v := .iface 172 (.agg #[.int .u16 (e : Int)]), recovered := false }]) w (fun ek u' w' => u' = (.panicking [{ v := .iface 172 (.agg #[.int .u16 (e : Int)]), recovered := true }]) ∧ ((∃ v, ek = .returned v) ∧ Bx w' b4 53 (([Value.int .u8 0, Value.int .i64 0, Value.int .i64 0, Value.string ByteArray.empty, Value.string ByteArray.empty, Value.string ByteArray.empty, Value.int .i64 0, Value.int .i64 0] ++ List.replicate 32 (Value.int .u8 0) ++ [Value.slice none 0 0] ++ List.replicate 96 (Value.int .u8 0) ++ [Value.int .i64 0] ++ List.replicate 96 (Value.int .u8 0) ++ [Value.slice none 0 0, Value.int .i64 0, Value.slice none 0 0] : List Value)) ∧ Bx w' b5 28 [.int .u16 (e : Int)] ∧ Fr (fun i => i = b4 ∨ i = b5) w w')) := by
  refine k_recover (n := 15) (.panicking [{ v := .iface 172 (.agg #[.int .u16 (e : Int)]), recovered := false }]) (.panicking [{ v := .iface 172 (.agg #[.int .u16 (e : Int)]), recovered := true }]) (.iface 172 (.agg #[.int .u16 (e : Int)])) Try.func106 rfl Try.ntmps106 rfl rfl (fun c cs h => .inl (rec_panic _ c cs h)) ?_
  rw [args2]
  have hl4' := hb4.lt
  have hl5' := hb5.lt
  refine k_block ?_
  refine k_seq ?_
  refine k_region ?_
  refine kl_val (y_eqlI Try.underlying20 rfl rfl) rfl rfl rfl ?_
  refine kl_nil ?_
  refine x_seq ?_
  refine k_condF rfl ?_
  refine k_seq ?_
  refine k_region ?_
  refine kl_val (y_assertOk Try.underlying172 rfl rfl) rfl rfl rfl ?_
  refine kl_val (y_extract rfl rfl) rfl rfl rfl ?_
  refine kl_val (y_extract rfl rfl) rfl rfl rfl ?_
  refine kl_nil ?_
  refine x_seq ?_
  refine k_condT rfl ?_
  refine k_seq ?_
  refine k_region ?_
  refine kl_ow rfl (ow_alloc I172 Z172 rfl (fun w1 bq hbq hf1 he1 hz1 => ?_))
  refine kl_ow rfl (ow_store (b := bq) (o := 0) I172 S172 rfl (v := .agg #[.int .u16 (e : Int)]) (xs := [.int .u16 (e : Int)]) rfl hbq rfl rfl (Nat.le_refl 1) (One'.single rfl) (fun w2 hbq2 hf2 hz2 => ?_))
  replace hbq := bx_eq hbq2 (splice_all rfl)
  have hE : Ext w w2 := ext_store hf1 hf2 (by omega)
  replace hb4 := hb4.keep hE (fun h => h)
  replace hb5 := hb5.keep hE (fun h => h)
  refine kl_nil ?_
  refine x_seq ?_
  refine k_seq ?_
  refine k_region ?_
  refine kl_ow rfl (ow_alloc I53 Z53 rfl (fun w3 bz hbz hf3 he3 hz3 => ?_))
  replace hbz := bx_eq hbz (show _ = (([Value.int .u8 0, Value.int .i64 0, Value.int .i64 0, Value.string ByteArray.empty, Value.string ByteArray.empty, Value.string ByteArray.empty, Value.int .i64 0, Value.int .i64 0] ++ List.replicate 32 (Value.int .u8 0) ++ [Value.slice none 0 0] ++ List.replicate 96 (Value.int .u8 0) ++ [Value.int .i64 0] ++ List.replicate 96 (Value.int .u8 0) ++ [Value.slice none 0 0, Value.int .i64 0, Value.slice none 0 0] : List Value)) from rfl)
  replace hbq := hbq.keep hf3 (fun h => h)
  replace hb4 := hb4.keep hf3 (fun h => h)
  replace hb5 := hb5.keep hf3 (fun h => h)
  replace hE : Ext w w3 := hE.trans hf3
  refine kl_nil ?_
  refine x_seq ?_
  refine k_regionD (S := fun w' => Bx w' bq 172 [.int .u16 (e : Int)] ∧ Bx w' bz 53 (([Value.int .u8 0, Value.int .i64 0, Value.int .i64 0, Value.string ByteArray.empty, Value.string ByteArray.empty, Value.string ByteArray.empty, Value.int .i64 0, Value.int .i64 0] ++ List.replicate 32 (Value.int .u8 0) ++ [Value.slice none 0 0] ++ List.replicate 96 (Value.int .u8 0) ++ [Value.int .i64 0] ++ List.replicate 96 (Value.int .u8 0) ++ [Value.slice none 0 0, Value.int .i64 0, Value.slice none 0 0] : List Value))) [] [(0, true), (1, true), (2, true), (3, false), (4, false)] mixed (fun _ _ _ _ _ h => h) (by kernel_rfl) ?_
  replace hbq : Bx w3.drew bq _ _ := hbq
  replace hbz : Bx w3.drew bz _ _ := hbz
  replace hb4 : Bx w3.drew b4 _ _ := hb4
  replace hb5 : Bx w3.drew b5 _ _ := hb5
  replace hE : Ext w w3.drew := Fr.drew hE
  have hS8 := And.intro hbq hbz
  have hzz : w3.drew.heap.size = w3.heap.size := rfl
  refine kr_val rfl (hS8) (fun w' hS' => y_load rfl (ld_aggB Try.underlying53 rfl I53 S53 (by simp) hS'.2.cs)) rfl rfl rfl ?_
  refine kr_val rfl (hS8) (fun w' hS' => y_fieldAddr Try.underlying172 rfl I28 S28 rfl rfl) rfl rfl rfl ?_
  refine kr_val rfl (hS8) (fun w' hS' => y_load rfl (ld_one Try.underlying28 rfl (hS'.1.cs.at (i := 0) rfl))) rfl rfl rfl ?_
  refine kr_ow rfl rfl (ow_store (b := b4) (o := 0) I53 S53 rfl (v := .agg (([Value.int .u8 0, Value.int .i64 0, Value.int .i64 0, Value.string ByteArray.empty, Value.string ByteArray.empty, Value.string ByteArray.empty, Value.int .i64 0, Value.int .i64 0] ++ List.replicate 32 (Value.int .u8 0) ++ [Value.slice none 0 0] ++ List.replicate 96 (Value.int .u8 0) ++ [Value.int .i64 0] ++ List.replicate 96 (Value.int .u8 0) ++ [Value.slice none 0 0, Value.int .i64 0, Value.slice none 0 0] : List Value)).toArray) (xs := (([Value.int .u8 0, Value.int .i64 0, Value.int .i64 0, Value.string ByteArray.empty, Value.string ByteArray.empty, Value.string ByteArray.empty, Value.int .i64 0, Value.int .i64 0] ++ List.replicate 32 (Value.int .u8 0) ++ [Value.slice none 0 0] ++ List.replicate 96 (Value.int .u8 0) ++ [Value.int .i64 0] ++ List.replicate 96 (Value.int .u8 0) ++ [Value.slice none 0 0, Value.int .i64 0, Value.slice none 0 0] : List Value))) rfl hb4 rfl (by simp) (by simp only [List.length_append, List.length_replicate, List.length_cons, List.length_nil]; omega) (zoneRequest) (fun w5 hb4' hf5 hz5 => ?_))
  replace hb4 := bx_eq hb4' (splice_all (by rw [hl4]; simp))
  replace hb5 := hb5.keep hf5 (by omega)
  replace hbq := hbq.keep hf5 (by omega)
  replace hbz := hbz.keep hf5 (by omega)
  replace hS8 := And.intro hbq hbz
  refine ⟨(fun _ => hS8), ?_⟩
  refine kr_ow rfl rfl (ow_store (b := b5) (o := 0) I28 S28 rfl (v := .int .u16 (e : Int)) (xs := [.int .u16 (e : Int)]) rfl hb5 rfl rfl (by rw [hl5]; exact Nat.le_refl 1) (One'.single rfl) (fun w6 hb5' hf6 hz6 => ?_))
  replace hb5 := bx_eq hb5' (splice_all hl5)
  replace hb4 := hb4.keep hf6 (by omega)
  replace hbq := hbq.keep hf6 (by omega)
  replace hbz := hbz.keep hf6 (by omega)
  replace hS8 := And.intro hbq hbz
  refine ⟨(fun _ => hS8), ?_⟩
  refine kr_nil ?_
  refine x_blk ?_
  exact k_end0 rfl ⟨⟨_, rfl⟩, hb4, hb5, (hE.fr.trans' hf5 (fun i hi e => .inl e)).trans' hf6 (fun i hi e => .inr e)⟩

set_option maxRecDepth 100000 in
set_option maxHeartbeats 2000000 in
theorem wholeRequest_R {v : Value} {bs : List UInt8} {B : Nat → Prop} {w : World} (hb : SlR w B v 1 bs.length (bvs bs)) (hB : ∀ b, B b → b < w.heap.size) :
    Ret Try.prog 83 #[v, .func (.func 84) #[] #[]] w (fun u w' => Ext w w' ∧ WholeR (pWhole pReq bs) (fun v x => ∃ cs, v = .agg cs.toArray ∧ ReqR w' (Nw w w') cs x) (.agg (([Value.int .u8 0, Value.int .i64 0, Value.int .i64 0, Value.string ByteArray.empty, Value.string ByteArray.empty, Value.string ByteArray.empty, Value.int .i64 0, Value.int .i64 0] ++ List.replicate 32 (Value.int .u8 0) ++ [Value.slice none 0 0] ++ List.replicate 96 (Value.int .u8 0) ++ [Value.int .i64 0] ++ List.replicate 96 (Value.int .u8 0) ++ [Value.slice none 0 0, Value.int .i64 0, Value.slice none 0 0] : List Value)).toArray) u) := by
  refine k_enterD Try.func83 rfl Try.ntmps83 rfl ?_
  rw [args2]
  refine k_seq ?_
  refine k_region ?_
  refine kl_ow rfl (ow_alloc I53 Z53 rfl (fun w1 b4 hb4 hf4 he4 hz4 => ?_))
  replace hb4 := bx_eq hb4 (show _ = (([Value.int .u8 0, Value.int .i64 0, Value.int .i64 0, Value.string ByteArray.empty, Value.string ByteArray.empty, Value.string ByteArray.empty, Value.int .i64 0, Value.int .i64 0] ++ List.replicate 32 (Value.int .u8 0) ++ [Value.slice none 0 0] ++ List.replicate 96 (Value.int .u8 0) ++ [Value.int .i64 0] ++ List.replicate 96 (Value.int .u8 0) ++ [Value.slice none 0 0, Value.int .i64 0, Value.slice none 0 0] : List Value)) from rfl)
  have hl4 : ((([Value.int .u8 0, Value.int .i64 0, Value.int .i64 0, Value.string ByteArray.empty, Value.string ByteArray.empty, Value.string ByteArray.empty, Value.int .i64 0, Value.int .i64 0] ++ List.replicate 32 (Value.int .u8 0) ++ [Value.slice none 0 0] ++ List.replicate 96 (Value.int .u8 0) ++ [Value.int .i64 0] ++ List.replicate 96 (Value.int .u8 0) ++ [Value.slice none 0 0, Value.int .i64 0, Value.slice none 0 0] : List Value)) : List Value).length = 237 := by simp
  refine kl_ow rfl (ow_alloc I28 Z28 rfl (fun w2 b5 hb5 hf5 he5 hz5 => ?_))
  replace hb5 : Bx w2 b5 28 [.int .u16 0] := hb5
  have hE : Ext w w2 := hf4.trans hf5
  replace hb4 := hb4.keep hf5 (fun h => h)
  obtain ⟨a, cap, rfl⟩ := hb.form
  replace hb := hb.keep hE (fun _ _ h => h)
  have hw2 : w2.heap.size = w.heap.size + 2 := by omega
  refine kl_nil ?_
  refine x_seq ?_
  refine k_seq ?_
  refine k_seq ?_
  refine k_region ?_
  refine kl_val (y_move) rfl rfl rfl ?_
  refine kl_val (y_lenS Try.underlying22 rfl) rfl rfl rfl ?_
  refine kl_val (y_gtr rfl rfl) rfl rfl rfl ?_
  refine kl_nil ?_
  refine x_seq ?_
  refine k_condp rfl (fun hlong => ?_) (fun hlong => ?_)
  · skip
    refine k_seq ?_
    refine k_region ?_
    refine kl_val (y_load rfl (ld_aggB Try.underlying53 rfl I53 S53 (by simp) hb4.cs)) rfl rfl rfl ?_
    refine kl_ow rfl (ow_store (b := b4) (o := 0) I53 S53 rfl (v := .agg (([Value.int .u8 0, Value.int .i64 0, Value.int .i64 0, Value.string ByteArray.empty, Value.string ByteArray.empty, Value.string ByteArray.empty, Value.int .i64 0, Value.int .i64 0] ++ List.replicate 32 (Value.int .u8 0) ++ [Value.slice none 0 0] ++ List.replicate 96 (Value.int .u8 0) ++ [Value.int .i64 0] ++ List.replicate 96 (Value.int .u8 0) ++ [Value.slice none 0 0, Value.int .i64 0, Value.slice none 0 0] : List Value)).toArray) (xs := (([Value.int .u8 0, Value.int .i64 0, Value.int .i64 0, Value.string ByteArray.empty, Value.string ByteArray.empty, Value.string ByteArray.empty, Value.int .i64 0, Value.int .i64 0] ++ List.replicate 32 (Value.int .u8 0) ++ [Value.slice none 0 0] ++ List.replicate 96 (Value.int .u8 0) ++ [Value.int .i64 0] ++ List.replicate 96 (Value.int .u8 0) ++ [Value.slice none 0 0, Value.int .i64 0, Value.slice none 0 0] : List Value))) rfl hb4 rfl (by simp) (by rw [hl4]; show 0 + ((([Value.int .u8 0, Value.int .i64 0, Value.int .i64 0, Value.string ByteArray.empty, Value.string ByteArray.empty, Value.string ByteArray.empty, Value.int .i64 0, Value.int .i64 0] ++ List.replicate 32 (Value.int .u8 0) ++ [Value.slice none 0 0] ++ List.replicate 96 (Value.int .u8 0) ++ [Value.int .i64 0] ++ List.replicate 96 (Value.int .u8 0) ++ [Value.slice none 0 0, Value.int .i64 0, Value.slice none 0 0] : List Value)) : List Value).length ≤ _; rw [show ((([Value.int .u8 0, Value.int .i64 0, Value.int .i64 0, Value.string ByteArray.empty, Value.string ByteArray.empty, Value.string ByteArray.empty, Value.int .i64 0, Value.int .i64 0] ++ List.replicate 32 (Value.int .u8 0) ++ [Value.slice none 0 0] ++ List.replicate 96 (Value.int .u8 0) ++ [Value.int .i64 0] ++ List.replicate 96 (Value.int .u8 0) ++ [Value.slice none 0 0, Value.int .i64 0, Value.slice none 0 0] : List Value)) : List Value).length = 237 from by simp]; omega) (zoneRequest) (fun w5 hb4' hf5 hz5 => ?_))
    replace hb4 := bx_eq hb4' (splice_all rfl)
    replace hb5 := hb5.keep hf5 (by omega)
    replace hE := hE.trans' hf5 (fun i hi e => absurd e (by omega))
    refine kl_ow rfl (ow_store (b := b5) (o := 0) I28 S28 rfl (v := .int .u16 3) (xs := [.int .u16 3]) rfl hb5 rfl rfl (Nat.le_refl 1) (One'.single rfl) (fun w6 hb5' hf6 hz6 => ?_))
    replace hb5 := bx_eq hb5' (splice_all rfl)
    replace hb4 := hb4.keep hf6 (by omega)
    replace hE := hE.trans' hf6 (fun i hi e => absurd e (by omega))
    refine kl_nil ?_
    refine x_seq ?_
    refine k_ret ?_
    refine x_seqR ?_
    exact kD_nil (res_cells2 rfl (ac_tmp rfl) (ac_tmp rfl) (ld_aggB Try.underlying53 rfl I53 S53 (by simp) hb4.cs) (ld_one Try.underlying28 rfl (hb5.cs.at (i := 0) rfl))) ⟨_, rfl, hE, .inr ⟨3, by unfold pWhole; rw [if_pos (by omega)], rfl⟩⟩
  · skip
    have hP : ∀ (w' : World) (e : Nat) (xs4 xs5 : List Value), Bx w' b4 53 xs4 → Bx w' b5 28 xs5 → xs4.length = 237 → xs5.length = 1 → Ext w w' → pWhole pReq bs = .error e → ∀ tmps : Array Value, tmps.getD 4 undef = .pointer (some ⟨b4, 0, none⟩) → tmps.getD 5 undef = .pointer (some ⟨b5, 0, none⟩) →
        Leaves Try.prog Try.f83 tmps (fun e w' => ∃ v, e = .returned v ∧ Ext w w' ∧ WholeR (pWhole pReq bs) (fun v x => ∃ cs, v = .agg cs.toArray ∧ ReqR w' (Nw w w') cs x) (.agg (([Value.int .u8 0, Value.int .i64 0, Value.int .i64 0, Value.string ByteArray.empty, Value.string ByteArray.empty, Value.string ByteArray.empty, Value.int .i64 0, Value.int .i64 0] ++ List.replicate 32 (Value.int .u8 0) ++ [Value.slice none 0 0] ++ List.replicate 96 (Value.int .u8 0) ++ [Value.int .i64 0] ++ List.replicate 96 (Value.int .u8 0) ++ [Value.slice none 0 0, Value.int .i64 0, Value.slice none 0 0] : List Value)).toArray) v) [{ target := .fn (.func 106) #[.pointer (some ⟨b4, 0, none⟩), .pointer (some ⟨b5, 0, none⟩)], args := #[] }] (.panicking (wrong e)) w' := by
      intro w' e xs4 xs5 h4 h5 hl4 hl5 hE' hq tmps ht4 ht5
      refine leaves_cons (by simp) (invoke_closure fn106 _ _) ?_
      refine (clRequest_pan h4 h5 hl4 hl5 (by omega)).mono ?_
      rintro ek u' w2 ⟨rfl, ⟨v, rfl⟩, g4, g5, hf⟩
      exact ⟨_, res_cells2 rfl ht4 ht5 (ld_aggB Try.underlying53 rfl I53 S53 (by simp) g4.cs) (ld_one Try.underlying28 rfl (g5.cs.at (i := 0) rfl)), _, rfl, hE'.trans' hf (fun i hi e => absurd e (by omega)), .inr ⟨e, hq, rfl⟩⟩
    have hQ : ∀ (w' : World) (v : Value) (tmps : Array Value), tmps.getD 4 undef = .pointer (some ⟨b4, 0, none⟩) → tmps.getD 5 undef = .pointer (some ⟨b5, 0, none⟩) → Ext w w' → (∀ w2, Ext w' w2 → Ld Try.prog w2 53 ⟨b4, 0, none⟩ v ∧ (∃ xs, Bx w2 b5 28 [xs] ∧ WholeR (pWhole pReq bs) (fun v x => ∃ cs, v = .agg cs.toArray ∧ ReqR w2 (Nw w w2) cs x) (.agg (([Value.int .u8 0, Value.int .i64 0, Value.int .i64 0, Value.string ByteArray.empty, Value.string ByteArray.empty, Value.string ByteArray.empty, Value.int .i64 0, Value.int .i64 0] ++ List.replicate 32 (Value.int .u8 0) ++ [Value.slice none 0 0] ++ List.replicate 96 (Value.int .u8 0) ++ [Value.int .i64 0] ++ List.replicate 96 (Value.int .u8 0) ++ [Value.slice none 0 0, Value.int .i64 0, Value.slice none 0 0] : List Value)).toArray) (.tuple #[v, xs]))) →
        Leaves Try.prog Try.f83 tmps (fun e w' => ∃ v, e = .returned v ∧ Ext w w' ∧ WholeR (pWhole pReq bs) (fun v x => ∃ cs, v = .agg cs.toArray ∧ ReqR w' (Nw w w') cs x) (.agg (([Value.int .u8 0, Value.int .i64 0, Value.int .i64 0, Value.string ByteArray.empty, Value.string ByteArray.empty, Value.string ByteArray.empty, Value.int .i64 0, Value.int .i64 0] ++ List.replicate 32 (Value.int .u8 0) ++ [Value.slice none 0 0] ++ List.replicate 96 (Value.int .u8 0) ++ [Value.int .i64 0] ++ List.replicate 96 (Value.int .u8 0) ++ [Value.slice none 0 0, Value.int .i64 0, Value.slice none 0 0] : List Value)).toArray) v) [{ target := .fn (.func 106) #[.pointer (some ⟨b4, 0, none⟩), .pointer (some ⟨b5, 0, none⟩)], args := #[] }] .returning w' := by
      intro w' v tmps ht4 ht5 hE' hv
      refine leaves_cons (by simp) (invoke_closure fn106 _ _) ?_
      refine clRequest_ret.mono ?_
      rintro ek u' w2 ⟨rfl, ⟨v', rfl⟩, hf⟩
      obtain ⟨hl, xs, hb5', hW⟩ := hv w2 hf
      exact ⟨_, res_cells2 rfl ht4 ht5 hl (ld_one Try.underlying28 rfl (hb5'.cs.at (i := 0) rfl)), _, rfl, hE'.trans hf, hW⟩
    refine k_skip ?_
    refine x_seq ?_
    refine k_seq ?_
    refine k_region ?_
    refine kl_val (y_func2 rfl rfl) rfl rfl rfl ?_
    refine kl_ow rfl (ow_defer0 rfl ?_)
    refine kl_nil ?_
    refine x_seq ?_
    refine k_seq ?_
    refine k_region ?_
    refine kl_val (y_move) rfl rfl rfl ?_
    refine kl_val (y_build (cells := #[.slice a bs.length cap]) rfl (by kernel_rfl)) rfl rfl rfl ?_
    refine kl_ow rfl (ow_box rfl rfl (fun w3 bp hbp hf3 he3 hz3 => ?_))
    replace hbp : Bx w3 bp 173 [.slice a bs.length cap] := hbp
    have hR : Rd w3 B ⟨bp, 0, none⟩ (.slice a bs.length cap) bs := ⟨hbp.cs.at (i := 0) rfl, by unfold Bx at hbp; simp [World.frozen?, hbp], hb.keep hf3 (fun _ _ h => h), fun i hi => (by have h1 := hB i hi; show i < bp; omega), by omega⟩
    replace hb4 := hb4.keep hf3 (fun h => h)
    replace hb5 := hb5.keep hf3 (fun h => h)
    replace hE := hE.trans hf3
    refine kl_val (y_assign) rfl rfl rfl ?_
    refine kl_nil ?_
    refine x_seq ?_
    refine k_seq ?_
    refine k_region ?_
    refine kl_val (y_move) rfl rfl rfl ?_
    refine kl_val (y_move) rfl rfl rfl ?_
    refine kl_ow rfl (ow_call1 fn84 rfl rfl rfl (request_r hR) (kret_retP (fun u w4 ⟨x, rest, v4, hx, hR4, hf, hu⟩ => ?_) (fun c w' ⟨e, he, hc, hf⟩ => (by intro tmps ht; subst hc; exact hP w' e _ _ (hb4.keep hf (by show ¬ b4 = bp; omega)) (hb5.keep hf (by show ¬ b5 = bp; omega)) hl4 rfl (hE.trans' hf (fun i hi e => absurd (show i = bp from e) (by omega))) (by unfold pWhole; rw [if_neg (by omega), he]) tmps (ht 4) (ht 5)))))
    obtain ⟨cs, rfl, hX⟩ := hu
    have hcl := hX.length
    have hone := hX.one
    replace hb4 := hb4.keep hf (by show ¬ b4 = bp; omega)
    replace hb5 := hb5.keep hf (by show ¬ b5 = bp; omega)
    replace hE := hE.trans' hf (fun i hi e => absurd (show i = bp from e) (by omega))
    have hs4 := hf.size
    clear hR hf
    refine kl_ow rfl (ow_store (b := b4) (o := 0) I53 S53 rfl (v := .agg cs.toArray) (xs := cs) rfl hb4 rfl (hcl) (by rw [hl4]; show 0 + (cs : List Value).length ≤ _; rw [show (cs : List Value).length = 237 from hcl]; omega) (hone) (fun w5 hb4' hf5 hz5 => ?_))
    replace hb4 := bx_eq hb4' (splice_all (by rw [hl4]; exact (hcl).symm))
    replace hb5 := hb5.keep hf5 (by omega)
    replace hE := hE.trans' hf5 (fun i hi e => absurd e (by omega))
    replace hX := hX.keep hf5 (fun i hi => by have := hi.1; omega)
    replace hR4 := hR4.keep hf5 (by show ¬ bp = b4; omega) (fun i hi => by have := hB i hi; omega)
    obtain ⟨ra, rc, rfl⟩ := hR4.sl.form
    refine kl_nil ?_
    refine x_seq ?_
    refine k_seq ?_
    refine k_seq ?_
    refine k_region ?_
    refine kl_val (y_move) rfl rfl rfl ?_
    refine kl_val (y_nil rfl) rfl rfl rfl ?_
    refine kl_val (y_fieldAddr Try.underlying173 rfl I22 S22 rfl rfl) rfl rfl rfl ?_
    refine kl_val (y_load rfl (ld_one Try.underlying22 rfl hR4.cell)) rfl rfl rfl ?_
    refine kl_val (y_lenS Try.underlying22 rfl) rfl rfl rfl ?_
    refine kl_val (y_gtr rfl rfl) rfl rfl rfl ?_
    refine kl_nil ?_
    refine x_seq ?_
    refine k_condp rfl (fun hrest => ?_) (fun hrest => ?_)
    · skip
      refine k_region ?_
      exact kl_ow rfl (ow_call1 fn99 rfl rfl rfl (fail_p 11) (kret_retP (fun _ _ h => h.elim) (fun c w' hc => (by intro tmps ht; rw [hc.1, hc.2]; exact hP _ 11 _ _ hb4 hb5 (hcl) rfl hE (by unfold pWhole; rw [if_neg (by omega), hx]; show (if rest = [] then _ else _) = _; rw [if_neg (by rintro rfl; simp at hrest)]) tmps (ht 4) (ht 5)))))
    · skip
      have hr0 : rest = [] := List.eq_nil_of_length_eq_zero (by omega)
      subst hr0
      refine k_skip ?_
      refine x_seq ?_
      refine k_seq ?_
      refine k_region ?_
      refine kl_val (y_load rfl (ld_aggB Try.underlying53 rfl I53 S53 (hcl) hb4.cs)) rfl rfl rfl ?_
      refine kl_ow rfl (ow_store (b := b4) (o := 0) I53 S53 rfl (v := .agg cs.toArray) (xs := cs) rfl hb4 rfl (hcl) (by omega) (hone) (fun w6 hb4' hf6 hz6 => ?_))
      replace hb4 := bx_eq hb4' (splice_all rfl)
      replace hb5 := hb5.keep hf6 (by omega)
      replace hE := hE.trans' hf6 (fun i hi e => absurd e (by omega))
      replace hX := hX.keep hf6 (fun i hi => by have := hi.1; omega)
      refine kl_ow rfl (ow_store (b := b5) (o := 0) I28 S28 rfl (v := .int .u16 0) (xs := [.int .u16 0]) rfl hb5 rfl rfl (Nat.le_refl 1) (One'.single rfl) (fun w7 hb5' hf7 hz7 => ?_))
      replace hb5 := bx_eq hb5' (splice_all rfl)
      replace hb4 := hb4.keep hf7 (by omega)
      replace hE := hE.trans' hf7 (fun i hi e => absurd e (by omega))
      replace hX := hX.keep hf7 (fun i hi => by have := hi.1; omega)
      refine kl_nil ?_
      refine x_seq ?_
      refine k_ret ?_
      refine kD_R (hQ _ (.agg cs.toArray) _ (ac_tmp rfl) (ac_tmp rfl) hE (fun w2 hf => ?_))
      have g4 := hb4.keep hf (fun h => h)
      exact ⟨(ld_aggB Try.underlying53 rfl I53 S53 (hcl) g4.cs), _, hb5.keep hf (fun h => h), .inl ⟨x, _, by unfold pWhole; rw [if_neg (by omega), hx]; rfl, rfl, ⟨cs, rfl, (hX.keep hf (fun _ _ h => h)).mono (fun i hi => ⟨by have := hi.1; omega, by have h1 := hi.2; have h2 := hf.size; omega⟩)⟩⟩⟩

set_option maxRecDepth 100000 in
set_option maxHeartbeats 1000000 in
theorem clResponse_ret {b4 b5 : Nat} {w : World} :
    CallsD Try.prog 122 #[.pointer (some ⟨b4, 0, none⟩), .pointer (some ⟨b5, 0, none⟩)] .returning w (fun e u' w' => u' = .returning ∧ ((∃ v, e = .returned v) ∧ Ext w w')) := by
  refine k_recover (n := 15) .returning .returning .nilIface Try.func122 rfl Try.ntmps122 rfl rfl (fun c cs h => .inr ⟨rec_return c cs h, rfl, rfl⟩) ?_
  rw [args2]
  refine k_block ?_
  refine k_seq ?_
  refine k_region ?_
  refine kl_val (y_eqlN Try.underlying20 rfl) rfl rfl rfl ?_
  refine kl_nil ?_
  refine x_seq ?_
  refine k_condT rfl ?_
  refine k_region ?_
  refine kl_val (y_assign) rfl rfl rfl ?_
  refine kl_nil ?_
  refine x_blk ?_
  exact k_end0 rfl ⟨⟨_, rfl⟩, Fr.refl _ _⟩

theorem zoneResponse : One' ([Value.int .u16 0, Value.int .i64 0, Value.int .i64 0] ++ List.replicate 32 (Value.int .u8 0) ++ [Value.slice none 0 0] ++ List.replicate 64 (Value.int .u8 0) ++ [Value.int .i64 0, Value.int .i64 0] ++ List.replicate 64 (Value.int .u8 0) ++ [Value.int .i64 0] ++ List.replicate 96 (Value.int .u8 0) ++ [Value.slice none 0 0, Value.slice none 0 0] : List Value) := by
  have h : (([Value.int .u16 0, Value.int .i64 0, Value.int .i64 0] ++ List.replicate 32 (Value.int .u8 0) ++ [Value.slice none 0 0] ++ List.replicate 64 (Value.int .u8 0) ++ [Value.int .i64 0, Value.int .i64 0] ++ List.replicate 64 (Value.int .u8 0) ++ [Value.int .i64 0] ++ List.replicate 96 (Value.int .u8 0) ++ [Value.slice none 0 0, Value.slice none 0 0] : List Value)).all (fun u => u.oneCell') = true := by decide +kernel
  intro u hu
  exact List.all_eq_true.1 h u hu

set_option maxRecDepth 100000 in
set_option maxHeartbeats 1000000 in
theorem clResponse_pan {b4 b5 e : Nat} {xs4 xs5 : List Value} {w : World} (hb4 : Bx w b4 61 xs4) (hb5 : Bx w b5 28 xs5) (hl4 : xs4.length = 265) (hl5 : xs5.length = 1) (hne : b4 ≠ b5) :
    CallsD Try.prog 122 #[.pointer (some ⟨b4, 0, none⟩), .pointer (some ⟨b5, 0, none⟩)] (.panicking [{ v := .iface 172 (.agg #[.int .u16 (e : Int)]), recovered := false }]) w (fun ek u' w' => u' = (.panicking [{ v := .iface 172 (.agg #[.int .u16 (e : Int)]), recovered := true }]) ∧ ((∃ v, ek = .returned v) ∧ Bx w' b4 61 (([Value.int .u16 0, Value.int .i64 0, Value.int .i64 0] ++ List.replicate 32 (Value.int .u8 0) ++ [Value.slice none 0 0] ++ List.replicate 64 (Value.int .u8 0) ++ [Value.int .i64 0, Value.int .i64 0] ++ List.replicate 64 (Value.int .u8 0) ++ [Value.int .i64 0] ++ List.replicate 96 (Value.int .u8 0) ++ [Value.slice none 0 0, Value.slice none 0 0] : List Value)) ∧ Bx w' b5 28 [.int .u16 (e : Int)] ∧ Fr (fun i => i = b4 ∨ i = b5) w w')) := by
  refine k_recover (n := 15) (.panicking [{ v := .iface 172 (.agg #[.int .u16 (e : Int)]), recovered := false }]) (.panicking [{ v := .iface 172 (.agg #[.int .u16 (e : Int)]), recovered := true }]) (.iface 172 (.agg #[.int .u16 (e : Int)])) Try.func122 rfl Try.ntmps122 rfl rfl (fun c cs h => .inl (rec_panic _ c cs h)) ?_
  rw [args2]
  have hl4' := hb4.lt
  have hl5' := hb5.lt
  refine k_block ?_
  refine k_seq ?_
  refine k_region ?_
  refine kl_val (y_eqlI Try.underlying20 rfl rfl) rfl rfl rfl ?_
  refine kl_nil ?_
  refine x_seq ?_
  refine k_condF rfl ?_
  refine k_seq ?_
  refine k_region ?_
  refine kl_val (y_assertOk Try.underlying172 rfl rfl) rfl rfl rfl ?_
  refine kl_val (y_extract rfl rfl) rfl rfl rfl ?_
  refine kl_val (y_extract rfl rfl) rfl rfl rfl ?_
  refine kl_nil ?_
  refine x_seq ?_
  refine k_condT rfl ?_
  refine k_seq ?_
  refine k_region ?_
  refine kl_ow rfl (ow_alloc I172 Z172 rfl (fun w1 bq hbq hf1 he1 hz1 => ?_))
  refine kl_ow rfl (ow_store (b := bq) (o := 0) I172 S172 rfl (v := .agg #[.int .u16 (e : Int)]) (xs := [.int .u16 (e : Int)]) rfl hbq rfl rfl (Nat.le_refl 1) (One'.single rfl) (fun w2 hbq2 hf2 hz2 => ?_))
  replace hbq := bx_eq hbq2 (splice_all rfl)
  have hE : Ext w w2 := ext_store hf1 hf2 (by omega)
  replace hb4 := hb4.keep hE (fun h => h)
  replace hb5 := hb5.keep hE (fun h => h)
  refine kl_nil ?_
  refine x_seq ?_
  refine k_seq ?_
  refine k_region ?_
  refine kl_ow rfl (ow_alloc I61 Z61 rfl (fun w3 bz hbz hf3 he3 hz3 => ?_))
  replace hbz := bx_eq hbz (show _ = (([Value.int .u16 0, Value.int .i64 0, Value.int .i64 0] ++ List.replicate 32 (Value.int .u8 0) ++ [Value.slice none 0 0] ++ List.replicate 64 (Value.int .u8 0) ++ [Value.int .i64 0, Value.int .i64 0] ++ List.replicate 64 (Value.int .u8 0) ++ [Value.int .i64 0] ++ List.replicate 96 (Value.int .u8 0) ++ [Value.slice none 0 0, Value.slice none 0 0] : List Value)) from rfl)
  replace hbq := hbq.keep hf3 (fun h => h)
  replace hb4 := hb4.keep hf3 (fun h => h)
  replace hb5 := hb5.keep hf3 (fun h => h)
  replace hE : Ext w w3 := hE.trans hf3
  refine kl_nil ?_
  refine x_seq ?_
  refine k_regionD (S := fun w' => Bx w' bq 172 [.int .u16 (e : Int)] ∧ Bx w' bz 61 (([Value.int .u16 0, Value.int .i64 0, Value.int .i64 0] ++ List.replicate 32 (Value.int .u8 0) ++ [Value.slice none 0 0] ++ List.replicate 64 (Value.int .u8 0) ++ [Value.int .i64 0, Value.int .i64 0] ++ List.replicate 64 (Value.int .u8 0) ++ [Value.int .i64 0] ++ List.replicate 96 (Value.int .u8 0) ++ [Value.slice none 0 0, Value.slice none 0 0] : List Value))) [] [(0, true), (1, true), (2, true), (3, false), (4, false)] mixed (fun _ _ _ _ _ h => h) (by kernel_rfl) ?_
  replace hbq : Bx w3.drew bq _ _ := hbq
  replace hbz : Bx w3.drew bz _ _ := hbz
  replace hb4 : Bx w3.drew b4 _ _ := hb4
  replace hb5 : Bx w3.drew b5 _ _ := hb5
  replace hE : Ext w w3.drew := Fr.drew hE
  have hS8 := And.intro hbq hbz
  have hzz : w3.drew.heap.size = w3.heap.size := rfl
  refine kr_val rfl (hS8) (fun w' hS' => y_load rfl (ld_aggB Try.underlying61 rfl I61 S61 (by simp) hS'.2.cs)) rfl rfl rfl ?_
  refine kr_val rfl (hS8) (fun w' hS' => y_fieldAddr Try.underlying172 rfl I28 S28 rfl rfl) rfl rfl rfl ?_
  refine kr_val rfl (hS8) (fun w' hS' => y_load rfl (ld_one Try.underlying28 rfl (hS'.1.cs.at (i := 0) rfl))) rfl rfl rfl ?_
  refine kr_ow rfl rfl (ow_store (b := b4) (o := 0) I61 S61 rfl (v := .agg (([Value.int .u16 0, Value.int .i64 0, Value.int .i64 0] ++ List.replicate 32 (Value.int .u8 0) ++ [Value.slice none 0 0] ++ List.replicate 64 (Value.int .u8 0) ++ [Value.int .i64 0, Value.int .i64 0] ++ List.replicate 64 (Value.int .u8 0) ++ [Value.int .i64 0] ++ List.replicate 96 (Value.int .u8 0) ++ [Value.slice none 0 0, Value.slice none 0 0] : List Value)).toArray) (xs := (([Value.int .u16 0, Value.int .i64 0, Value.int .i64 0] ++ List.replicate 32 (Value.int .u8 0) ++ [Value.slice none 0 0] ++ List.replicate 64 (Value.int .u8 0) ++ [Value.int .i64 0, Value.int .i64 0] ++ List.replicate 64 (Value.int .u8 0) ++ [Value.int .i64 0] ++ List.replicate 96 (Value.int .u8 0) ++ [Value.slice none 0 0, Value.slice none 0 0] : List Value))) rfl hb4 rfl (by simp) (by simp only [List.length_append, List.length_replicate, List.length_cons, List.length_nil]; omega) (zoneResponse) (fun w5 hb4' hf5 hz5 => ?_))
  replace hb4 := bx_eq hb4' (splice_all (by rw [hl4]; simp))
  replace hb5 := hb5.keep hf5 (by omega)
  replace hbq := hbq.keep hf5 (by omega)
  replace hbz := hbz.keep hf5 (by omega)
  replace hS8 := And.intro hbq hbz
  refine ⟨(fun _ => hS8), ?_⟩
  refine kr_ow rfl rfl (ow_store (b := b5) (o := 0) I28 S28 rfl (v := .int .u16 (e : Int)) (xs := [.int .u16 (e : Int)]) rfl hb5 rfl rfl (by rw [hl5]; exact Nat.le_refl 1) (One'.single rfl) (fun w6 hb5' hf6 hz6 => ?_))
  replace hb5 := bx_eq hb5' (splice_all hl5)
  replace hb4 := hb4.keep hf6 (by omega)
  replace hbq := hbq.keep hf6 (by omega)
  replace hbz := hbz.keep hf6 (by omega)
  replace hS8 := And.intro hbq hbz
  refine ⟨(fun _ => hS8), ?_⟩
  refine kr_nil ?_
  refine x_blk ?_
  exact k_end0 rfl ⟨⟨_, rfl⟩, hb4, hb5, (hE.fr.trans' hf5 (fun i hi e => .inl e)).trans' hf6 (fun i hi e => .inr e)⟩

set_option maxRecDepth 100000 in
set_option maxHeartbeats 2000000 in
theorem wholeResponse_R {v : Value} {bs : List UInt8} {B : Nat → Prop} {w : World} (hb : SlR w B v 1 bs.length (bvs bs)) (hB : ∀ b, B b → b < w.heap.size) :
    Ret Try.prog 91 #[v, .func (.func 92) #[] #[]] w (fun u w' => Ext w w' ∧ WholeR (pWhole pRsp bs) (fun v x => ∃ cs, v = .agg cs.toArray ∧ RspR w' (Nw w w') cs x) (.agg (([Value.int .u16 0, Value.int .i64 0, Value.int .i64 0] ++ List.replicate 32 (Value.int .u8 0) ++ [Value.slice none 0 0] ++ List.replicate 64 (Value.int .u8 0) ++ [Value.int .i64 0, Value.int .i64 0] ++ List.replicate 64 (Value.int .u8 0) ++ [Value.int .i64 0] ++ List.replicate 96 (Value.int .u8 0) ++ [Value.slice none 0 0, Value.slice none 0 0] : List Value)).toArray) u) := by
  refine k_enterD Try.func91 rfl Try.ntmps91 rfl ?_
  rw [args2]
  refine k_seq ?_
  refine k_region ?_
  refine kl_ow rfl (ow_alloc I61 Z61 rfl (fun w1 b4 hb4 hf4 he4 hz4 => ?_))
  replace hb4 := bx_eq hb4 (show _ = (([Value.int .u16 0, Value.int .i64 0, Value.int .i64 0] ++ List.replicate 32 (Value.int .u8 0) ++ [Value.slice none 0 0] ++ List.replicate 64 (Value.int .u8 0) ++ [Value.int .i64 0, Value.int .i64 0] ++ List.replicate 64 (Value.int .u8 0) ++ [Value.int .i64 0] ++ List.replicate 96 (Value.int .u8 0) ++ [Value.slice none 0 0, Value.slice none 0 0] : List Value)) from rfl)
  have hl4 : ((([Value.int .u16 0, Value.int .i64 0, Value.int .i64 0] ++ List.replicate 32 (Value.int .u8 0) ++ [Value.slice none 0 0] ++ List.replicate 64 (Value.int .u8 0) ++ [Value.int .i64 0, Value.int .i64 0] ++ List.replicate 64 (Value.int .u8 0) ++ [Value.int .i64 0] ++ List.replicate 96 (Value.int .u8 0) ++ [Value.slice none 0 0, Value.slice none 0 0] : List Value)) : List Value).length = 265 := by simp
  refine kl_ow rfl (ow_alloc I28 Z28 rfl (fun w2 b5 hb5 hf5 he5 hz5 => ?_))
  replace hb5 : Bx w2 b5 28 [.int .u16 0] := hb5
  have hE : Ext w w2 := hf4.trans hf5
  replace hb4 := hb4.keep hf5 (fun h => h)
  obtain ⟨a, cap, rfl⟩ := hb.form
  replace hb := hb.keep hE (fun _ _ h => h)
  have hw2 : w2.heap.size = w.heap.size + 2 := by omega
  refine kl_nil ?_
  refine x_seq ?_
  refine k_seq ?_
  refine k_seq ?_
  refine k_region ?_
  refine kl_val (y_move) rfl rfl rfl ?_
  refine kl_val (y_lenS Try.underlying22 rfl) rfl rfl rfl ?_
  refine kl_val (y_gtr rfl rfl) rfl rfl rfl ?_
  refine kl_nil ?_
  refine x_seq ?_
  refine k_condp rfl (fun hlong => ?_) (fun hlong => ?_)
  · skip
    refine k_seq ?_
    refine k_region ?_
    refine kl_val (y_load rfl (ld_aggB Try.underlying61 rfl I61 S61 (by simp) hb4.cs)) rfl rfl rfl ?_
    refine kl_ow rfl (ow_store (b := b4) (o := 0) I61 S61 rfl (v := .agg (([Value.int .u16 0, Value.int .i64 0, Value.int .i64 0] ++ List.replicate 32 (Value.int .u8 0) ++ [Value.slice none 0 0] ++ List.replicate 64 (Value.int .u8 0) ++ [Value.int .i64 0, Value.int .i64 0] ++ List.replicate 64 (Value.int .u8 0) ++ [Value.int .i64 0] ++ List.replicate 96 (Value.int .u8 0) ++ [Value.slice none 0 0, Value.slice none 0 0] : List Value)).toArray) (xs := (([Value.int .u16 0, Value.int .i64 0, Value.int .i64 0] ++ List.replicate 32 (Value.int .u8 0) ++ [Value.slice none 0 0] ++ List.replicate 64 (Value.int .u8 0) ++ [Value.int .i64 0, Value.int .i64 0] ++ List.replicate 64 (Value.int .u8 0) ++ [Value.int .i64 0] ++ List.replicate 96 (Value.int .u8 0) ++ [Value.slice none 0 0, Value.slice none 0 0] : List Value))) rfl hb4 rfl (by simp) (by rw [hl4]; show 0 + ((([Value.int .u16 0, Value.int .i64 0, Value.int .i64 0] ++ List.replicate 32 (Value.int .u8 0) ++ [Value.slice none 0 0] ++ List.replicate 64 (Value.int .u8 0) ++ [Value.int .i64 0, Value.int .i64 0] ++ List.replicate 64 (Value.int .u8 0) ++ [Value.int .i64 0] ++ List.replicate 96 (Value.int .u8 0) ++ [Value.slice none 0 0, Value.slice none 0 0] : List Value)) : List Value).length ≤ _; rw [show ((([Value.int .u16 0, Value.int .i64 0, Value.int .i64 0] ++ List.replicate 32 (Value.int .u8 0) ++ [Value.slice none 0 0] ++ List.replicate 64 (Value.int .u8 0) ++ [Value.int .i64 0, Value.int .i64 0] ++ List.replicate 64 (Value.int .u8 0) ++ [Value.int .i64 0] ++ List.replicate 96 (Value.int .u8 0) ++ [Value.slice none 0 0, Value.slice none 0 0] : List Value)) : List Value).length = 265 from by simp]; omega) (zoneResponse) (fun w5 hb4' hf5 hz5 => ?_))
    replace hb4 := bx_eq hb4' (splice_all rfl)
    replace hb5 := hb5.keep hf5 (by omega)
    replace hE := hE.trans' hf5 (fun i hi e => absurd e (by omega))
    refine kl_ow rfl (ow_store (b := b5) (o := 0) I28 S28 rfl (v := .int .u16 3) (xs := [.int .u16 3]) rfl hb5 rfl rfl (Nat.le_refl 1) (One'.single rfl) (fun w6 hb5' hf6 hz6 => ?_))
    replace hb5 := bx_eq hb5' (splice_all rfl)
    replace hb4 := hb4.keep hf6 (by omega)
    replace hE := hE.trans' hf6 (fun i hi e => absurd e (by omega))
    refine kl_nil ?_
    refine x_seq ?_
    refine k_ret ?_
    refine x_seqR ?_
    exact kD_nil (res_cells2 rfl (ac_tmp rfl) (ac_tmp rfl) (ld_aggB Try.underlying61 rfl I61 S61 (by simp) hb4.cs) (ld_one Try.underlying28 rfl (hb5.cs.at (i := 0) rfl))) ⟨_, rfl, hE, .inr ⟨3, by unfold pWhole; rw [if_pos (by omega)], rfl⟩⟩
  · skip
    have hP : ∀ (w' : World) (e : Nat) (xs4 xs5 : List Value), Bx w' b4 61 xs4 → Bx w' b5 28 xs5 → xs4.length = 265 → xs5.length = 1 → Ext w w' → pWhole pRsp bs = .error e → ∀ tmps : Array Value, tmps.getD 4 undef = .pointer (some ⟨b4, 0, none⟩) → tmps.getD 5 undef = .pointer (some ⟨b5, 0, none⟩) →
        Leaves Try.prog Try.f91 tmps (fun e w' => ∃ v, e = .returned v ∧ Ext w w' ∧ WholeR (pWhole pRsp bs) (fun v x => ∃ cs, v = .agg cs.toArray ∧ RspR w' (Nw w w') cs x) (.agg (([Value.int .u16 0, Value.int .i64 0, Value.int .i64 0] ++ List.replicate 32 (Value.int .u8 0) ++ [Value.slice none 0 0] ++ List.replicate 64 (Value.int .u8 0) ++ [Value.int .i64 0, Value.int .i64 0] ++ List.replicate 64 (Value.int .u8 0) ++ [Value.int .i64 0] ++ List.replicate 96 (Value.int .u8 0) ++ [Value.slice none 0 0, Value.slice none 0 0] : List Value)).toArray) v) [{ target := .fn (.func 122) #[.pointer (some ⟨b4, 0, none⟩), .pointer (some ⟨b5, 0, none⟩)], args := #[] }] (.panicking (wrong e)) w' := by
      intro w' e xs4 xs5 h4 h5 hl4 hl5 hE' hq tmps ht4 ht5
      refine leaves_cons (by simp) (invoke_closure fn122 _ _) ?_
      refine (clResponse_pan h4 h5 hl4 hl5 (by omega)).mono ?_
      rintro ek u' w2 ⟨rfl, ⟨v, rfl⟩, g4, g5, hf⟩
      exact ⟨_, res_cells2 rfl ht4 ht5 (ld_aggB Try.underlying61 rfl I61 S61 (by simp) g4.cs) (ld_one Try.underlying28 rfl (g5.cs.at (i := 0) rfl)), _, rfl, hE'.trans' hf (fun i hi e => absurd e (by omega)), .inr ⟨e, hq, rfl⟩⟩
    have hQ : ∀ (w' : World) (v : Value) (tmps : Array Value), tmps.getD 4 undef = .pointer (some ⟨b4, 0, none⟩) → tmps.getD 5 undef = .pointer (some ⟨b5, 0, none⟩) → Ext w w' → (∀ w2, Ext w' w2 → Ld Try.prog w2 61 ⟨b4, 0, none⟩ v ∧ (∃ xs, Bx w2 b5 28 [xs] ∧ WholeR (pWhole pRsp bs) (fun v x => ∃ cs, v = .agg cs.toArray ∧ RspR w2 (Nw w w2) cs x) (.agg (([Value.int .u16 0, Value.int .i64 0, Value.int .i64 0] ++ List.replicate 32 (Value.int .u8 0) ++ [Value.slice none 0 0] ++ List.replicate 64 (Value.int .u8 0) ++ [Value.int .i64 0, Value.int .i64 0] ++ List.replicate 64 (Value.int .u8 0) ++ [Value.int .i64 0] ++ List.replicate 96 (Value.int .u8 0) ++ [Value.slice none 0 0, Value.slice none 0 0] : List Value)).toArray) (.tuple #[v, xs]))) →
        Leaves Try.prog Try.f91 tmps (fun e w' => ∃ v, e = .returned v ∧ Ext w w' ∧ WholeR (pWhole pRsp bs) (fun v x => ∃ cs, v = .agg cs.toArray ∧ RspR w' (Nw w w') cs x) (.agg (([Value.int .u16 0, Value.int .i64 0, Value.int .i64 0] ++ List.replicate 32 (Value.int .u8 0) ++ [Value.slice none 0 0] ++ List.replicate 64 (Value.int .u8 0) ++ [Value.int .i64 0, Value.int .i64 0] ++ List.replicate 64 (Value.int .u8 0) ++ [Value.int .i64 0] ++ List.replicate 96 (Value.int .u8 0) ++ [Value.slice none 0 0, Value.slice none 0 0] : List Value)).toArray) v) [{ target := .fn (.func 122) #[.pointer (some ⟨b4, 0, none⟩), .pointer (some ⟨b5, 0, none⟩)], args := #[] }] .returning w' := by
      intro w' v tmps ht4 ht5 hE' hv
      refine leaves_cons (by simp) (invoke_closure fn122 _ _) ?_
      refine clResponse_ret.mono ?_
      rintro ek u' w2 ⟨rfl, ⟨v', rfl⟩, hf⟩
      obtain ⟨hl, xs, hb5', hW⟩ := hv w2 hf
      exact ⟨_, res_cells2 rfl ht4 ht5 hl (ld_one Try.underlying28 rfl (hb5'.cs.at (i := 0) rfl)), _, rfl, hE'.trans hf, hW⟩
    refine k_skip ?_
    refine x_seq ?_
    refine k_seq ?_
    refine k_region ?_
    refine kl_val (y_func2 rfl rfl) rfl rfl rfl ?_
    refine kl_ow rfl (ow_defer0 rfl ?_)
    refine kl_nil ?_
    refine x_seq ?_
    refine k_seq ?_
    refine k_region ?_
    refine kl_val (y_move) rfl rfl rfl ?_
    refine kl_val (y_build (cells := #[.slice a bs.length cap]) rfl (by kernel_rfl)) rfl rfl rfl ?_
    refine kl_ow rfl (ow_box rfl rfl (fun w3 bp hbp hf3 he3 hz3 => ?_))
    replace hbp : Bx w3 bp 173 [.slice a bs.length cap] := hbp
    have hR : Rd w3 B ⟨bp, 0, none⟩ (.slice a bs.length cap) bs := ⟨hbp.cs.at (i := 0) rfl, by unfold Bx at hbp; simp [World.frozen?, hbp], hb.keep hf3 (fun _ _ h => h), fun i hi => (by have h1 := hB i hi; show i < bp; omega), by omega⟩
    replace hb4 := hb4.keep hf3 (fun h => h)
    replace hb5 := hb5.keep hf3 (fun h => h)
    replace hE := hE.trans hf3
    refine kl_val (y_assign) rfl rfl rfl ?_
    refine kl_nil ?_
    refine x_seq ?_
    refine k_seq ?_
    refine k_region ?_
    refine kl_val (y_move) rfl rfl rfl ?_
    refine kl_val (y_move) rfl rfl rfl ?_
    refine kl_ow rfl (ow_call1 fn92 rfl rfl rfl (response_r hR) (kret_retP (fun u w4 ⟨x, rest, v4, hx, hR4, hf, hu⟩ => ?_) (fun c w' ⟨e, he, hc, hf⟩ => (by intro tmps ht; subst hc; exact hP w' e _ _ (hb4.keep hf (by show ¬ b4 = bp; omega)) (hb5.keep hf (by show ¬ b5 = bp; omega)) hl4 rfl (hE.trans' hf (fun i hi e => absurd (show i = bp from e) (by omega))) (by unfold pWhole; rw [if_neg (by omega), he]) tmps (ht 4) (ht 5)))))
    obtain ⟨cs, rfl, hX⟩ := hu
    have hcl := hX.length
    have hone := hX.one
    replace hb4 := hb4.keep hf (by show ¬ b4 = bp; omega)
    replace hb5 := hb5.keep hf (by show ¬ b5 = bp; omega)
    replace hE := hE.trans' hf (fun i hi e => absurd (show i = bp from e) (by omega))
    have hs4 := hf.size
    clear hR hf
    refine kl_ow rfl (ow_store (b := b4) (o := 0) I61 S61 rfl (v := .agg cs.toArray) (xs := cs) rfl hb4 rfl (hcl) (by rw [hl4]; show 0 + (cs : List Value).length ≤ _; rw [show (cs : List Value).length = 265 from hcl]; omega) (hone) (fun w5 hb4' hf5 hz5 => ?_))
    replace hb4 := bx_eq hb4' (splice_all (by rw [hl4]; exact (hcl).symm))
    replace hb5 := hb5.keep hf5 (by omega)
    replace hE := hE.trans' hf5 (fun i hi e => absurd e (by omega))
    replace hX := hX.keep hf5 (fun i hi => by have := hi.1; omega)
    replace hR4 := hR4.keep hf5 (by show ¬ bp = b4; omega) (fun i hi => by have := hB i hi; omega)
    obtain ⟨ra, rc, rfl⟩ := hR4.sl.form
    refine kl_nil ?_
    refine x_seq ?_
    refine k_seq ?_
    refine k_seq ?_
    refine k_region ?_
    refine kl_val (y_move) rfl rfl rfl ?_
    refine kl_val (y_nil rfl) rfl rfl rfl ?_
    refine kl_val (y_fieldAddr Try.underlying173 rfl I22 S22 rfl rfl) rfl rfl rfl ?_
    refine kl_val (y_load rfl (ld_one Try.underlying22 rfl hR4.cell)) rfl rfl rfl ?_
    refine kl_val (y_lenS Try.underlying22 rfl) rfl rfl rfl ?_
    refine kl_val (y_gtr rfl rfl) rfl rfl rfl ?_
    refine kl_nil ?_
    refine x_seq ?_
    refine k_condp rfl (fun hrest => ?_) (fun hrest => ?_)
    · skip
      refine k_region ?_
      exact kl_ow rfl (ow_call1 fn99 rfl rfl rfl (fail_p 11) (kret_retP (fun _ _ h => h.elim) (fun c w' hc => (by intro tmps ht; rw [hc.1, hc.2]; exact hP _ 11 _ _ hb4 hb5 (hcl) rfl hE (by unfold pWhole; rw [if_neg (by omega), hx]; show (if rest = [] then _ else _) = _; rw [if_neg (by rintro rfl; simp at hrest)]) tmps (ht 4) (ht 5)))))
    · skip
      have hr0 : rest = [] := List.eq_nil_of_length_eq_zero (by omega)
      subst hr0
      refine k_skip ?_
      refine x_seq ?_
      refine k_seq ?_
      refine k_region ?_
      refine kl_val (y_load rfl (ld_aggB Try.underlying61 rfl I61 S61 (hcl) hb4.cs)) rfl rfl rfl ?_
      refine kl_ow rfl (ow_store (b := b4) (o := 0) I61 S61 rfl (v := .agg cs.toArray) (xs := cs) rfl hb4 rfl (hcl) (by omega) (hone) (fun w6 hb4' hf6 hz6 => ?_))
      replace hb4 := bx_eq hb4' (splice_all rfl)
      replace hb5 := hb5.keep hf6 (by omega)
      replace hE := hE.trans' hf6 (fun i hi e => absurd e (by omega))
      replace hX := hX.keep hf6 (fun i hi => by have := hi.1; omega)
      refine kl_ow rfl (ow_store (b := b5) (o := 0) I28 S28 rfl (v := .int .u16 0) (xs := [.int .u16 0]) rfl hb5 rfl rfl (Nat.le_refl 1) (One'.single rfl) (fun w7 hb5' hf7 hz7 => ?_))
      replace hb5 := bx_eq hb5' (splice_all rfl)
      replace hb4 := hb4.keep hf7 (by omega)
      replace hE := hE.trans' hf7 (fun i hi e => absurd e (by omega))
      replace hX := hX.keep hf7 (fun i hi => by have := hi.1; omega)
      refine kl_nil ?_
      refine x_seq ?_
      refine k_ret ?_
      refine kD_R (hQ _ (.agg cs.toArray) _ (ac_tmp rfl) (ac_tmp rfl) hE (fun w2 hf => ?_))
      have g4 := hb4.keep hf (fun h => h)
      exact ⟨(ld_aggB Try.underlying61 rfl I61 S61 (hcl) g4.cs), _, hb5.keep hf (fun h => h), .inl ⟨x, _, by unfold pWhole; rw [if_neg (by omega), hx]; rfl, rfl, ⟨cs, rfl, (hX.keep hf (fun _ _ h => h)).mono (fun i hi => ⟨by have := hi.1; omega, by have h1 := hi.2; have h2 := hf.size; omega⟩)⟩⟩⟩

set_option maxRecDepth 100000 in
set_option maxHeartbeats 1000000 in
theorem clAccount_ret {b4 b5 : Nat} {w : World} :
    CallsD Try.prog 116 #[.pointer (some ⟨b4, 0, none⟩), .pointer (some ⟨b5, 0, none⟩)] .returning w (fun e u' w' => u' = .returning ∧ ((∃ v, e = .returned v) ∧ Ext w w')) := by
  refine k_recover (n := 15) .returning .returning .nilIface Try.func116 rfl Try.ntmps116 rfl rfl (fun c cs h => .inr ⟨rec_return c cs h, rfl, rfl⟩) ?_
  rw [args2]
  refine k_block ?_
  refine k_seq ?_
  refine k_region ?_
  refine kl_val (y_eqlN Try.underlying20 rfl) rfl rfl rfl ?_
  refine kl_nil ?_
  refine x_seq ?_
  refine k_condT rfl ?_
  refine k_region ?_
  refine kl_val (y_assign) rfl rfl rfl ?_
  refine kl_nil ?_
  refine x_blk ?_
  exact k_end0 rfl ⟨⟨_, rfl⟩, Fr.refl _ _⟩

theorem zoneAccount : One' ([Value.int .i64 0, Value.string ByteArray.empty, Value.int .i64 0, Value.int .i64 0, Value.int .i64 0, Value.int .i64 0] ++ List.replicate 32 (Value.int .u8 0) ++ [Value.slice none 0 0] ++ List.replicate 64 (Value.int .u8 0) ++ [Value.slice none 0 0, Value.slice none 0 0] : List Value) := by
  have h : (([Value.int .i64 0, Value.string ByteArray.empty, Value.int .i64 0, Value.int .i64 0, Value.int .i64 0, Value.int .i64 0] ++ List.replicate 32 (Value.int .u8 0) ++ [Value.slice none 0 0] ++ List.replicate 64 (Value.int .u8 0) ++ [Value.slice none 0 0, Value.slice none 0 0] : List Value)).all (fun u => u.oneCell') = true := by decide +kernel
  intro u hu
  exact List.all_eq_true.1 h u hu

set_option maxRecDepth 100000 in
set_option maxHeartbeats 1000000 in
theorem clAccount_pan {b4 b5 e : Nat} {xs4 xs5 : List Value} {w : World} (hb4 : Bx w b4 72 xs4) (hb5 : Bx w b5 28 xs5) (hl4 : xs4.length = 105) (hl5 : xs5.length = 1) (hne : b4 ≠ b5) :
    CallsD Try.prog 116 #[.pointer (some ⟨b4, 0, none⟩), .pointer (some ⟨b5, 0, none⟩)] (.panicking [{ v := .iface 172 (.agg #[.int .u16 (e : Int)]), recovered := false }]) w (fun ek u' w' => u' = (.panicking [{ v := .iface 172 (.agg #[.int .u16 (e : Int)]), recovered := true }]) ∧ ((∃ v, ek = .returned v) ∧ Bx w' b4 72 (([Value.int .i64 0, Value.string ByteArray.empty, Value.int .i64 0, Value.int .i64 0, Value.int .i64 0, Value.int .i64 0] ++ List.replicate 32 (Value.int .u8 0) ++ [Value.slice none 0 0] ++ List.replicate 64 (Value.int .u8 0) ++ [Value.slice none 0 0, Value.slice none 0 0] : List Value)) ∧ Bx w' b5 28 [.int .u16 (e : Int)] ∧ Fr (fun i => i = b4 ∨ i = b5) w w')) := by
  refine k_recover (n := 15) (.panicking [{ v := .iface 172 (.agg #[.int .u16 (e : Int)]), recovered := false }]) (.panicking [{ v := .iface 172 (.agg #[.int .u16 (e : Int)]), recovered := true }]) (.iface 172 (.agg #[.int .u16 (e : Int)])) Try.func116 rfl Try.ntmps116 rfl rfl (fun c cs h => .inl (rec_panic _ c cs h)) ?_
  rw [args2]
  have hl4' := hb4.lt
  have hl5' := hb5.lt
  refine k_block ?_
  refine k_seq ?_
  refine k_region ?_
  refine kl_val (y_eqlI Try.underlying20 rfl rfl) rfl rfl rfl ?_
  refine kl_nil ?_
  refine x_seq ?_
  refine k_condF rfl ?_
  refine k_seq ?_
  refine k_region ?_
  refine kl_val (y_assertOk Try.underlying172 rfl rfl) rfl rfl rfl ?_
  refine kl_val (y_extract rfl rfl) rfl rfl rfl ?_
  refine kl_val (y_extract rfl rfl) rfl rfl rfl ?_
  refine kl_nil ?_
  refine x_seq ?_
  refine k_condT rfl ?_
  refine k_seq ?_
  refine k_region ?_
  refine kl_ow rfl (ow_alloc I172 Z172 rfl (fun w1 bq hbq hf1 he1 hz1 => ?_))
  refine kl_ow rfl (ow_store (b := bq) (o := 0) I172 S172 rfl (v := .agg #[.int .u16 (e : Int)]) (xs := [.int .u16 (e : Int)]) rfl hbq rfl rfl (Nat.le_refl 1) (One'.single rfl) (fun w2 hbq2 hf2 hz2 => ?_))
  replace hbq := bx_eq hbq2 (splice_all rfl)
  have hE : Ext w w2 := ext_store hf1 hf2 (by omega)
  replace hb4 := hb4.keep hE (fun h => h)
  replace hb5 := hb5.keep hE (fun h => h)
  refine kl_nil ?_
  refine x_seq ?_
  refine k_seq ?_
  refine k_region ?_
  refine kl_ow rfl (ow_alloc I72 Z72 rfl (fun w3 bz hbz hf3 he3 hz3 => ?_))
  replace hbz := bx_eq hbz (show _ = (([Value.int .i64 0, Value.string ByteArray.empty, Value.int .i64 0, Value.int .i64 0, Value.int .i64 0, Value.int .i64 0] ++ List.replicate 32 (Value.int .u8 0) ++ [Value.slice none 0 0] ++ List.replicate 64 (Value.int .u8 0) ++ [Value.slice none 0 0, Value.slice none 0 0] : List Value)) from rfl)
  replace hbq := hbq.keep hf3 (fun h => h)
  replace hb4 := hb4.keep hf3 (fun h => h)
  replace hb5 := hb5.keep hf3 (fun h => h)
  replace hE : Ext w w3 := hE.trans hf3
  refine kl_nil ?_
  refine x_seq ?_
  refine k_regionD (S := fun w' => Bx w' bq 172 [.int .u16 (e : Int)] ∧ Bx w' bz 72 (([Value.int .i64 0, Value.string ByteArray.empty, Value.int .i64 0, Value.int .i64 0, Value.int .i64 0, Value.int .i64 0] ++ List.replicate 32 (Value.int .u8 0) ++ [Value.slice none 0 0] ++ List.replicate 64 (Value.int .u8 0) ++ [Value.slice none 0 0, Value.slice none 0 0] : List Value))) [] [(0, true), (1, true), (2, true), (3, false), (4, false)] mixed (fun _ _ _ _ _ h => h) (by kernel_rfl) ?_
  replace hbq : Bx w3.drew bq _ _ := hbq
  replace hbz : Bx w3.drew bz _ _ := hbz
  replace hb4 : Bx w3.drew b4 _ _ := hb4
  replace hb5 : Bx w3.drew b5 _ _ := hb5
  replace hE : Ext w w3.drew := Fr.drew hE
  have hS8 := And.intro hbq hbz
  have hzz : w3.drew.heap.size = w3.heap.size := rfl
  refine kr_val rfl (hS8) (fun w' hS' => y_load rfl (ld_aggB Try.underlying72 rfl I72 S72 (by simp) hS'.2.cs)) rfl rfl rfl ?_
  refine kr_val rfl (hS8) (fun w' hS' => y_fieldAddr Try.underlying172 rfl I28 S28 rfl rfl) rfl rfl rfl ?_
  refine kr_val rfl (hS8) (fun w' hS' => y_load rfl (ld_one Try.underlying28 rfl (hS'.1.cs.at (i := 0) rfl))) rfl rfl rfl ?_
  refine kr_ow rfl rfl (ow_store (b := b4) (o := 0) I72 S72 rfl (v := .agg (([Value.int .i64 0, Value.string ByteArray.empty, Value.int .i64 0, Value.int .i64 0, Value.int .i64 0, Value.int .i64 0] ++ List.replicate 32 (Value.int .u8 0) ++ [Value.slice none 0 0] ++ List.replicate 64 (Value.int .u8 0) ++ [Value.slice none 0 0, Value.slice none 0 0] : List Value)).toArray) (xs := (([Value.int .i64 0, Value.string ByteArray.empty, Value.int .i64 0, Value.int .i64 0, Value.int .i64 0, Value.int .i64 0] ++ List.replicate 32 (Value.int .u8 0) ++ [Value.slice none 0 0] ++ List.replicate 64 (Value.int .u8 0) ++ [Value.slice none 0 0, Value.slice none 0 0] : List Value))) rfl hb4 rfl (by simp) (by simp only [List.length_append, List.length_replicate, List.length_cons, List.length_nil]; omega) (zoneAccount) (fun w5 hb4' hf5 hz5 => ?_))
  replace hb4 := bx_eq hb4' (splice_all (by rw [hl4]; simp))
  replace hb5 := hb5.keep hf5 (by omega)
  replace hbq := hbq.keep hf5 (by omega)
  replace hbz := hbz.keep hf5 (by omega)
  replace hS8 := And.intro hbq hbz
  refine ⟨(fun _ => hS8), ?_⟩
  refine kr_ow rfl rfl (ow_store (b := b5) (o := 0) I28 S28 rfl (v := .int .u16 (e : Int)) (xs := [.int .u16 (e : Int)]) rfl hb5 rfl rfl (by rw [hl5]; exact Nat.le_refl 1) (One'.single rfl) (fun w6 hb5' hf6 hz6 => ?_))
  replace hb5 := bx_eq hb5' (splice_all hl5)
  replace hb4 := hb4.keep hf6 (by omega)
  replace hbq := hbq.keep hf6 (by omega)
  replace hbz := hbz.keep hf6 (by omega)
  replace hS8 := And.intro hbq hbz
  refine ⟨(fun _ => hS8), ?_⟩
  refine kr_nil ?_
  refine x_blk ?_
  exact k_end0 rfl ⟨⟨_, rfl⟩, hb4, hb5, (hE.fr.trans' hf5 (fun i hi e => .inl e)).trans' hf6 (fun i hi e => .inr e)⟩

set_option maxRecDepth 100000 in
set_option maxHeartbeats 2000000 in
theorem wholeAccount_R {v : Value} {bs : List UInt8} {B : Nat → Prop} {w : World} (hb : SlR w B v 1 bs.length (bvs bs)) (hB : ∀ b, B b → b < w.heap.size) :
    Ret Try.prog 87 #[v, .func (.func 88) #[] #[]] w (fun u w' => Ext w w' ∧ WholeR (pWhole pAcct bs) (fun v x => ∃ cs, v = .agg cs.toArray ∧ AcctR w' (Nw w w') cs x) (.agg (([Value.int .i64 0, Value.string ByteArray.empty, Value.int .i64 0, Value.int .i64 0, Value.int .i64 0, Value.int .i64 0] ++ List.replicate 32 (Value.int .u8 0) ++ [Value.slice none 0 0] ++ List.replicate 64 (Value.int .u8 0) ++ [Value.slice none 0 0, Value.slice none 0 0] : List Value)).toArray) u) := by
  refine k_enterD Try.func87 rfl Try.ntmps87 rfl ?_
  rw [args2]
  refine k_seq ?_
  refine k_region ?_
  refine kl_ow rfl (ow_alloc I72 Z72 rfl (fun w1 b4 hb4 hf4 he4 hz4 => ?_))
  replace hb4 := bx_eq hb4 (show _ = (([Value.int .i64 0, Value.string ByteArray.empty, Value.int .i64 0, Value.int .i64 0, Value.int .i64 0, Value.int .i64 0] ++ List.replicate 32 (Value.int .u8 0) ++ [Value.slice none 0 0] ++ List.replicate 64 (Value.int .u8 0) ++ [Value.slice none 0 0, Value.slice none 0 0] : List Value)) from rfl)
  have hl4 : ((([Value.int .i64 0, Value.string ByteArray.empty, Value.int .i64 0, Value.int .i64 0, Value.int .i64 0, Value.int .i64 0] ++ List.replicate 32 (Value.int .u8 0) ++ [Value.slice none 0 0] ++ List.replicate 64 (Value.int .u8 0) ++ [Value.slice none 0 0, Value.slice none 0 0] : List Value)) : List Value).length = 105 := by simp
  refine kl_ow rfl (ow_alloc I28 Z28 rfl (fun w2 b5 hb5 hf5 he5 hz5 => ?_))
  replace hb5 : Bx w2 b5 28 [.int .u16 0] := hb5
  have hE : Ext w w2 := hf4.trans hf5
  replace hb4 := hb4.keep hf5 (fun h => h)
  obtain ⟨a, cap, rfl⟩ := hb.form
  replace hb := hb.keep hE (fun _ _ h => h)
  have hw2 : w2.heap.size = w.heap.size + 2 := by omega
  refine kl_nil ?_
  refine x_seq ?_
  refine k_seq ?_
  refine k_seq ?_
  refine k_region ?_
  refine kl_val (y_move) rfl rfl rfl ?_
  refine kl_val (y_lenS Try.underlying22 rfl) rfl rfl rfl ?_
  refine kl_val (y_gtr rfl rfl) rfl rfl rfl ?_
  refine kl_nil ?_
  refine x_seq ?_
  refine k_condp rfl (fun hlong => ?_) (fun hlong => ?_)
  · skip
    refine k_seq ?_
    refine k_region ?_
    refine kl_val (y_load rfl (ld_aggB Try.underlying72 rfl I72 S72 (by simp) hb4.cs)) rfl rfl rfl ?_
    refine kl_ow rfl (ow_store (b := b4) (o := 0) I72 S72 rfl (v := .agg (([Value.int .i64 0, Value.string ByteArray.empty, Value.int .i64 0, Value.int .i64 0, Value.int .i64 0, Value.int .i64 0] ++ List.replicate 32 (Value.int .u8 0) ++ [Value.slice none 0 0] ++ List.replicate 64 (Value.int .u8 0) ++ [Value.slice none 0 0, Value.slice none 0 0] : List Value)).toArray) (xs := (([Value.int .i64 0, Value.string ByteArray.empty, Value.int .i64 0, Value.int .i64 0, Value.int .i64 0, Value.int .i64 0] ++ List.replicate 32 (Value.int .u8 0) ++ [Value.slice none 0 0] ++ List.replicate 64 (Value.int .u8 0) ++ [Value.slice none 0 0, Value.slice none 0 0] : List Value))) rfl hb4 rfl (by simp) (by rw [hl4]; show 0 + ((([Value.int .i64 0, Value.string ByteArray.empty, Value.int .i64 0, Value.int .i64 0, Value.int .i64 0, Value.int .i64 0] ++ List.replicate 32 (Value.int .u8 0) ++ [Value.slice none 0 0] ++ List.replicate 64 (Value.int .u8 0) ++ [Value.slice none 0 0, Value.slice none 0 0] : List Value)) : List Value).length ≤ _; rw [show ((([Value.int .i64 0, Value.string ByteArray.empty, Value.int .i64 0, Value.int .i64 0, Value.int .i64 0, Value.int .i64 0] ++ List.replicate 32 (Value.int .u8 0) ++ [Value.slice none 0 0] ++ List.replicate 64 (Value.int .u8 0) ++ [Value.slice none 0 0, Value.slice none 0 0] : List Value)) : List Value).length = 105 from by simp]; omega) (zoneAccount) (fun w5 hb4' hf5 hz5 => ?_))
    replace hb4 := bx_eq hb4' (splice_all rfl)
    replace hb5 := hb5.keep hf5 (by omega)
    replace hE := hE.trans' hf5 (fun i hi e => absurd e (by omega))
    refine kl_ow rfl (ow_store (b := b5) (o := 0) I28 S28 rfl (v := .int .u16 3) (xs := [.int .u16 3]) rfl hb5 rfl rfl (Nat.le_refl 1) (One'.single rfl) (fun w6 hb5' hf6 hz6 => ?_))
    replace hb5 := bx_eq hb5' (splice_all rfl)
    replace hb4 := hb4.keep hf6 (by omega)
    replace hE := hE.trans' hf6 (fun i hi e => absurd e (by omega))
    refine kl_nil ?_
    refine x_seq ?_
    refine k_ret ?_
    refine x_seqR ?_
    exact kD_nil (res_cells2 rfl (ac_tmp rfl) (ac_tmp rfl) (ld_aggB Try.underlying72 rfl I72 S72 (by simp) hb4.cs) (ld_one Try.underlying28 rfl (hb5.cs.at (i := 0) rfl))) ⟨_, rfl, hE, .inr ⟨3, by unfold pWhole; rw [if_pos (by omega)], rfl⟩⟩
  · skip
    have hP : ∀ (w' : World) (e : Nat) (xs4 xs5 : List Value), Bx w' b4 72 xs4 → Bx w' b5 28 xs5 → xs4.length = 105 → xs5.length = 1 → Ext w w' → pWhole pAcct bs = .error e → ∀ tmps : Array Value, tmps.getD 4 undef = .pointer (some ⟨b4, 0, none⟩) → tmps.getD 5 undef = .pointer (some ⟨b5, 0, none⟩) →
        Leaves Try.prog Try.f87 tmps (fun e w' => ∃ v, e = .returned v ∧ Ext w w' ∧ WholeR (pWhole pAcct bs) (fun v x => ∃ cs, v = .agg cs.toArray ∧ AcctR w' (Nw w w') cs x) (.agg (([Value.int .i64 0, Value.string ByteArray.empty, Value.int .i64 0, Value.int .i64 0, Value.int .i64 0, Value.int .i64 0] ++ List.replicate 32 (Value.int .u8 0) ++ [Value.slice none 0 0] ++ List.replicate 64 (Value.int .u8 0) ++ [Value.slice none 0 0, Value.slice none 0 0] : List Value)).toArray) v) [{ target := .fn (.func 116) #[.pointer (some ⟨b4, 0, none⟩), .pointer (some ⟨b5, 0, none⟩)], args := #[] }] (.panicking (wrong e)) w' := by
      intro w' e xs4 xs5 h4 h5 hl4 hl5 hE' hq tmps ht4 ht5
      refine leaves_cons (by simp) (invoke_closure fn116 _ _) ?_
      refine (clAccount_pan h4 h5 hl4 hl5 (by omega)).mono ?_
      rintro ek u' w2 ⟨rfl, ⟨v, rfl⟩, g4, g5, hf⟩
      exact ⟨_, res_cells2 rfl ht4 ht5 (ld_aggB Try.underlying72 rfl I72 S72 (by simp) g4.cs) (ld_one Try.underlying28 rfl (g5.cs.at (i := 0) rfl)), _, rfl, hE'.trans' hf (fun i hi e => absurd e (by omega)), .inr ⟨e, hq, rfl⟩⟩
    have hQ : ∀ (w' : World) (v : Value) (tmps : Array Value), tmps.getD 4 undef = .pointer (some ⟨b4, 0, none⟩) → tmps.getD 5 undef = .pointer (some ⟨b5, 0, none⟩) → Ext w w' → (∀ w2, Ext w' w2 → Ld Try.prog w2 72 ⟨b4, 0, none⟩ v ∧ (∃ xs, Bx w2 b5 28 [xs] ∧ WholeR (pWhole pAcct bs) (fun v x => ∃ cs, v = .agg cs.toArray ∧ AcctR w2 (Nw w w2) cs x) (.agg (([Value.int .i64 0, Value.string ByteArray.empty, Value.int .i64 0, Value.int .i64 0, Value.int .i64 0, Value.int .i64 0] ++ List.replicate 32 (Value.int .u8 0) ++ [Value.slice none 0 0] ++ List.replicate 64 (Value.int .u8 0) ++ [Value.slice none 0 0, Value.slice none 0 0] : List Value)).toArray) (.tuple #[v, xs]))) →
        Leaves Try.prog Try.f87 tmps (fun e w' => ∃ v, e = .returned v ∧ Ext w w' ∧ WholeR (pWhole pAcct bs) (fun v x => ∃ cs, v = .agg cs.toArray ∧ AcctR w' (Nw w w') cs x) (.agg (([Value.int .i64 0, Value.string ByteArray.empty, Value.int .i64 0, Value.int .i64 0, Value.int .i64 0, Value.int .i64 0] ++ List.replicate 32 (Value.int .u8 0) ++ [Value.slice none 0 0] ++ List.replicate 64 (Value.int .u8 0) ++ [Value.slice none 0 0, Value.slice none 0 0] : List Value)).toArray) v) [{ target := .fn (.func 116) #[.pointer (some ⟨b4, 0, none⟩), .pointer (some ⟨b5, 0, none⟩)], args := #[] }] .returning w' := by
      intro w' v tmps ht4 ht5 hE' hv
      refine leaves_cons (by simp) (invoke_closure fn116 _ _) ?_
      refine clAccount_ret.mono ?_
      rintro ek u' w2 ⟨rfl, ⟨v', rfl⟩, hf⟩
      obtain ⟨hl, xs, hb5', hW⟩ := hv w2 hf
      exact ⟨_, res_cells2 rfl ht4 ht5 hl (ld_one Try.underlying28 rfl (hb5'.cs.at (i := 0) rfl)), _, rfl, hE'.trans hf, hW⟩
    refine k_skip ?_
    refine x_seq ?_
    refine k_seq ?_
    refine k_region ?_
    refine kl_val (y_func2 rfl rfl) rfl rfl rfl ?_
    refine kl_ow rfl (ow_defer0 rfl ?_)
    refine kl_nil ?_
    refine x_seq ?_
    refine k_seq ?_
    refine k_region ?_
    refine kl_val (y_move) rfl rfl rfl ?_
    refine kl_val (y_build (cells := #[.slice a bs.length cap]) rfl (by kernel_rfl)) rfl rfl rfl ?_
    refine kl_ow rfl (ow_box rfl rfl (fun w3 bp hbp hf3 he3 hz3 => ?_))
    replace hbp : Bx w3 bp 173 [.slice a bs.length cap] := hbp
    have hR : Rd w3 B ⟨bp, 0, none⟩ (.slice a bs.length cap) bs := ⟨hbp.cs.at (i := 0) rfl, by unfold Bx at hbp; simp [World.frozen?, hbp], hb.keep hf3 (fun _ _ h => h), fun i hi => (by have h1 := hB i hi; show i < bp; omega), by omega⟩
    replace hb4 := hb4.keep hf3 (fun h => h)
    replace hb5 := hb5.keep hf3 (fun h => h)
    replace hE := hE.trans hf3
    refine kl_val (y_assign) rfl rfl rfl ?_
    refine kl_nil ?_
    refine x_seq ?_
    refine k_seq ?_
    refine k_region ?_
    refine kl_val (y_move) rfl rfl rfl ?_
    refine kl_val (y_move) rfl rfl rfl ?_
    refine kl_ow rfl (ow_call1 fn88 rfl rfl rfl (account_r hR) (kret_retP (fun u w4 ⟨x, rest, v4, hx, hR4, hf, hu⟩ => ?_) (fun c w' ⟨e, he, hc, hf⟩ => (by intro tmps ht; subst hc; exact hP w' e _ _ (hb4.keep hf (by show ¬ b4 = bp; omega)) (hb5.keep hf (by show ¬ b5 = bp; omega)) hl4 rfl (hE.trans' hf (fun i hi e => absurd (show i = bp from e) (by omega))) (by unfold pWhole; rw [if_neg (by omega), he]) tmps (ht 4) (ht 5)))))
    obtain ⟨cs, rfl, hX⟩ := hu
    have hcl := hX.length
    have hone := hX.one
    replace hb4 := hb4.keep hf (by show ¬ b4 = bp; omega)
    replace hb5 := hb5.keep hf (by show ¬ b5 = bp; omega)
    replace hE := hE.trans' hf (fun i hi e => absurd (show i = bp from e) (by omega))
    have hs4 := hf.size
    clear hR hf
    refine kl_ow rfl (ow_store (b := b4) (o := 0) I72 S72 rfl (v := .agg cs.toArray) (xs := cs) rfl hb4 rfl (hcl) (by rw [hl4]; show 0 + (cs : List Value).length ≤ _; rw [show (cs : List Value).length = 105 from hcl]; omega) (hone) (fun w5 hb4' hf5 hz5 => ?_))
    replace hb4 := bx_eq hb4' (splice_all (by rw [hl4]; exact (hcl).symm))
    replace hb5 := hb5.keep hf5 (by omega)
    replace hE := hE.trans' hf5 (fun i hi e => absurd e (by omega))
    replace hX := hX.keep hf5 (fun i hi => by have := hi.1; omega)
    replace hR4 := hR4.keep hf5 (by show ¬ bp = b4; omega) (fun i hi => by have := hB i hi; omega)
    obtain ⟨ra, rc, rfl⟩ := hR4.sl.form
    refine kl_nil ?_
    refine x_seq ?_
    refine k_seq ?_
    refine k_seq ?_
    refine k_region ?_
    refine kl_val (y_move) rfl rfl rfl ?_
    refine kl_val (y_nil rfl) rfl rfl rfl ?_
    refine kl_val (y_fieldAddr Try.underlying173 rfl I22 S22 rfl rfl) rfl rfl rfl ?_
    refine kl_val (y_load rfl (ld_one Try.underlying22 rfl hR4.cell)) rfl rfl rfl ?_
    refine kl_val (y_lenS Try.underlying22 rfl) rfl rfl rfl ?_
    refine kl_val (y_gtr rfl rfl) rfl rfl rfl ?_
    refine kl_nil ?_
    refine x_seq ?_
    refine k_condp rfl (fun hrest => ?_) (fun hrest => ?_)
    · skip
      refine k_region ?_
      exact kl_ow rfl (ow_call1 fn99 rfl rfl rfl (fail_p 11) (kret_retP (fun _ _ h => h.elim) (fun c w' hc => (by intro tmps ht; rw [hc.1, hc.2]; exact hP _ 11 _ _ hb4 hb5 (hcl) rfl hE (by unfold pWhole; rw [if_neg (by omega), hx]; show (if rest = [] then _ else _) = _; rw [if_neg (by rintro rfl; simp at hrest)]) tmps (ht 4) (ht 5)))))
    · skip
      have hr0 : rest = [] := List.eq_nil_of_length_eq_zero (by omega)
      subst hr0
      refine k_skip ?_
      refine x_seq ?_
      refine k_seq ?_
      refine k_region ?_
      refine kl_val (y_load rfl (ld_aggB Try.underlying72 rfl I72 S72 (hcl) hb4.cs)) rfl rfl rfl ?_
      refine kl_ow rfl (ow_store (b := b4) (o := 0) I72 S72 rfl (v := .agg cs.toArray) (xs := cs) rfl hb4 rfl (hcl) (by omega) (hone) (fun w6 hb4' hf6 hz6 => ?_))
      replace hb4 := bx_eq hb4' (splice_all rfl)
      replace hb5 := hb5.keep hf6 (by omega)
      replace hE := hE.trans' hf6 (fun i hi e => absurd e (by omega))
      replace hX := hX.keep hf6 (fun i hi => by have := hi.1; omega)
      refine kl_ow rfl (ow_store (b := b5) (o := 0) I28 S28 rfl (v := .int .u16 0) (xs := [.int .u16 0]) rfl hb5 rfl rfl (Nat.le_refl 1) (One'.single rfl) (fun w7 hb5' hf7 hz7 => ?_))
      replace hb5 := bx_eq hb5' (splice_all rfl)
      replace hb4 := hb4.keep hf7 (by omega)
      replace hE := hE.trans' hf7 (fun i hi e => absurd e (by omega))
      replace hX := hX.keep hf7 (fun i hi => by have := hi.1; omega)
      refine kl_nil ?_
      refine x_seq ?_
      refine k_ret ?_
      refine kD_R (hQ _ (.agg cs.toArray) _ (ac_tmp rfl) (ac_tmp rfl) hE (fun w2 hf => ?_))
      have g4 := hb4.keep hf (fun h => h)
      exact ⟨(ld_aggB Try.underlying72 rfl I72 S72 (hcl) g4.cs), _, hb5.keep hf (fun h => h), .inl ⟨x, _, by unfold pWhole; rw [if_neg (by omega), hx]; rfl, rfl, ⟨cs, rfl, (hX.keep hf (fun _ _ h => h)).mono (fun i hi => ⟨by have := hi.1; omega, by have h1 := hi.2; have h2 := hf.size; omega⟩)⟩⟩⟩

end Go.Proofs.Ythpocekigliomaa.K
