/- What the laws draw: requests. Condition: the bytes are there. -/
import Derived.Test.YthpocekigliomaaKT
import Derived.Test.YthpocekigliomaaKCb
import Derived.Test.YthpocekigliomaaKCc
namespace Go.Proofs.Ythpocekigliomaa.K
open Go

set_option maxRecDepth 100000 in
set_option maxHeartbeats 1000000 in
theorem Request_c {v : Value} {c : By} {B : Nat → Prop} {w : World} (hb : SlR w B v 1 c.length (bvs c)) (hB : ∀ b, B b → b < w.heap.size) :
    Ret Try.prog 15 #[v] w (fun u w' => (∃ cs, u = .agg cs.toArray ∧ ReqR w' (fun b => b < w'.heap.size) cs (chReq c)) ∧ Ext w w') := by
  refine k_enter1 Try.func15 rfl Try.ntmps15 rfl ?_
  have hE : Ext w w := Fr.refl _ _
  obtain ⟨va, vc, rfl⟩ := hb.form
  refine k_seq ?_
  refine k_region ?_
  refine kl_ow rfl (ow_alloc I53 Z53 rfl (fun w1 b0 hb0 hf0 he0 hz0 => ?_))
  have hE := hf0
  replace hb := hb.keep hf0 (fun _ _ h => h)
  replace hb0 := bx_eq hb0 (show _ = ([Value.int .u8 0, Value.int .i64 0, Value.int .i64 0, Value.string ByteArray.empty, Value.string ByteArray.empty, Value.string ByteArray.empty, Value.int .i64 0, Value.int .i64 0] ++ List.replicate 32 (Value.int .u8 0) ++ [Value.slice none 0 0] ++ List.replicate 96 (Value.int .u8 0) ++ [Value.int .i64 0] ++ List.replicate 96 (Value.int .u8 0) ++ [Value.slice none 0 0, Value.int .i64 0, Value.slice none 0 0] : List Value) from rfl)
  refine kl_nil ?_
  refine x_seq ?_
  refine k_seq ?_
  refine k_cutN (fun ρ w9 => ∃ (b3 : Nat) (lv : Value), ρ 0 = (.slice va c.length vc) ∧ ρ 2 = .pointer (some ⟨b0, 0, none⟩) ∧ ρ 3 = .pointer (some ⟨b3, 0, none⟩) ∧ lv.oneCell' = true ∧ Bx w9 b3 53 (reqCells (chReq0 c) lv (.slice none 0 0) (.slice none 0 0)) ∧ SlR w9 B (.slice va c.length vc) 1 c.length (bvs c) ∧ Bx w9 b0 53 ([Value.int .u8 0, Value.int .i64 0, Value.int .i64 0, Value.string ByteArray.empty, Value.string ByteArray.empty, Value.string ByteArray.empty, Value.int .i64 0, Value.int .i64 0] ++ List.replicate 32 (Value.int .u8 0) ++ [Value.slice none 0 0] ++ List.replicate 96 (Value.int .u8 0) ++ [Value.int .i64 0] ++ List.replicate 96 (Value.int .u8 0) ++ [Value.slice none 0 0, Value.int .i64 0, Value.slice none 0 0] : List Value) ∧ SlX IdKeyR 33 w9 (fun q => q < w9.heap.size ∧ q ≠ b3 ∧ q ≠ b0) lv (chReq c).list.devices ∧ Ext w w9 ∧ b0 ≠ b3 ∧ w.heap.size ≤ b3) ?_ ?_
  · skip
    refine k_regionT (S := fun w' => SlR w' B (.slice va c.length vc) 1 c.length (bvs c)) [] (.val 0 (.val 4 (.val 6 (.val 8 (.val 9 (.val 10 (.val 11 (.val 12 (.val 13 (.val 14 (.val 16 (.val 18 (.two 1 (.val 2 (.val 3 (.two 5 (.two 7 (.two 15 (.two 17 (.two 19 (.done [(20, true), (21, false), (22, false)]) 21 (.done [(19, false), (20, true), (22, false)])) 21 (.done [(17, false), (19, false), (20, true), (22, false)])) 21 (.done [(15, false), (17, false), (19, false), (20, true), (22, false)])) 21 (.done [(7, false), (15, false), (17, false), (19, false), (20, true), (22, false)])) 21 (.done [(5, false), (7, false), (15, false), (17, false), (19, false), (20, true), (22, false)])))) 21 (.done [(1, false), (2, true), (3, true), (5, false), (7, false), (15, false), (17, false), (19, false), (20, true), (22, false)])))))))))))))) mixed (fun _ _ _ _ _ h => h) (by kernel_rfl) ?_
    have hE' : Ext w1 w1.drew := Fr.drew1 _ _
    have hcap := hb.cap
    replace hb : SlR w1.drew B _ 1 _ _ := hb.keep hE' (fun _ _ h => h)
    replace hE := hE.trans hE'
    replace hb0 := hb0.keep hE' (fun h => h)
    refine kt_val rfl (hb) (fun w' hS' => y_move) rfl rfl rfl ?_
    refine kt_val rfl (hb) (fun w' hS' => y_move) rfl rfl rfl ?_
    refine kt_val rfl (hb) (fun w' hS' => y_move) rfl rfl rfl ?_
    refine kt_val rfl (hb) (fun w' hS' => y_move) rfl rfl rfl ?_
    refine kt_val rfl (hb) (fun w' hS' => y_move) rfl rfl rfl ?_
    refine kt_val rfl (hb) (fun w' hS' => y_lenS Try.underlying22 rfl) rfl rfl rfl ?_
    refine kt_val rfl (hb) (fun w' hS' => Y.cast (v' := .int .i64 ((min c.length 3 : Nat) : Int)) (y_min rfl rfl) (congrArg (Value.int .i64) (by omega))) rfl rfl rfl ?_
    refine kt_val rfl (hb) (fun w' hS' => Y.cast (v' := .slice va (min c.length 3) vc) (y_sliceHi Try.underlying22 I5 rfl rfl (by omega) (by omega)) (by simp)) rfl rfl rfl ?_
    refine kt_val rfl (hb) (fun w' hS' => y_b2s Try.underlying22 Try.underlying5 Try.underlying9 rfl (hS'.toB (min c.length 3) (Nat.min_le_left _ _))) rfl rfl rfl ?_
    refine kt_val rfl (hb) (fun w' hS' => y_move) rfl rfl rfl ?_
    refine kt_val rfl (hb) (fun w' hS' => y_move) rfl rfl rfl ?_
    refine kt_val rfl (hb) (fun w' hS' => y_move) rfl rfl rfl ?_
    refine kt_two rfl rfl rfl rfl ?_ ?_
    · skip
      refine ow_call2 fn53 rfl rfl rfl rfl (number_c hb (i := 0) (by omega)) (kret_ret (fun u w2 ⟨hu, hE'⟩ => ?_))
      subst hu
      have hn := nm_le (c := c) (i := 0) (by omega)
      replace hb := hb.keep hE' (fun _ _ h => h)
      replace hE := hE.trans hE'
      have hl0 := hb0.lt
      replace hb0 := hb0.keep hE' (fun h => h)
      try have hl3 := hb3.lt
      try replace hb3 := hb3.keep hE' (fun h => h)
      try replace hL := hL.keep hE' (fun _ _ h => h) (fun _ _ h => ⟨h.len, h.eq⟩)
      have := hE'.size
      refine ⟨(fun _ => hb), ?_⟩
      refine kt_val rfl (hb) (fun w' hS' => Y.cast (v' := .int .i64 ((nm c 0 % 15 : Nat) : Int)) (y_rem' rfl rfl (by omega) (by omega)) (congrArg (Value.int .i64) (by omega))) rfl rfl rfl ?_
      refine kt_val rfl (hb) (fun w' hS' => Y.cast (v' := .int .u8 ((nm c 0 % 15 : Nat) : Int)) (y_conv_int ⟨_, Try.underlying3⟩ Try.underlying5 rfl) (congrArg (Value.int .u8) (wrap8_eq (by omega) (by omega)))) rfl rfl rfl ?_
      refine kt_two rfl rfl rfl rfl ?_ ?_
      · skip
        refine ow_call2 fn53 rfl rfl rfl rfl (number_c hb (i := 1) (by omega)) (kret_ret (fun u w3 ⟨hu, hE'⟩ => ?_))
        subst hu
        have hn := nm_le (c := c) (i := 1) (by omega)
        replace hb := hb.keep hE' (fun _ _ h => h)
        replace hE := hE.trans hE'
        have hl0 := hb0.lt
        replace hb0 := hb0.keep hE' (fun h => h)
        try have hl3 := hb3.lt
        try replace hb3 := hb3.keep hE' (fun h => h)
        try replace hL := hL.keep hE' (fun _ _ h => h) (fun _ _ h => ⟨h.len, h.eq⟩)
        have := hE'.size
        refine ⟨(fun _ => hb), ?_⟩
        refine kt_two rfl rfl rfl rfl ?_ ?_
        · skip
          refine ow_call2 fn53 rfl rfl rfl rfl (number_c hb (i := 2) (by omega)) (kret_ret (fun u w4 ⟨hu, hE'⟩ => ?_))
          subst hu
          have hn := nm_le (c := c) (i := 2) (by omega)
          replace hb := hb.keep hE' (fun _ _ h => h)
          replace hE := hE.trans hE'
          have hl0 := hb0.lt
          replace hb0 := hb0.keep hE' (fun h => h)
          try have hl3 := hb3.lt
          try replace hb3 := hb3.keep hE' (fun h => h)
          try replace hL := hL.keep hE' (fun _ _ h => h) (fun _ _ h => ⟨h.len, h.eq⟩)
          have := hE'.size
          refine ⟨(fun _ => hb), ?_⟩
          refine kt_two rfl rfl rfl rfl ?_ ?_
          · skip
            refine ow_call1 fn36 rfl rfl rfl (List_c hb (fun j hj => by have := hB j hj; have := hE.size; omega)) (kret_ret (fun u w5 ⟨⟨lc, hu, hL⟩, hE'⟩ => ?_))
            subst hu
            replace hb := hb.keep hE' (fun _ _ h => h)
            replace hE := hE.trans hE'
            have hl0 := hb0.lt
            replace hb0 := hb0.keep hE' (fun h => h)
            try have hl3 := hb3.lt
            try replace hb3 := hb3.keep hE' (fun h => h)
            try replace hL := hL.keep hE' (fun _ _ h => h) (fun _ _ h => ⟨h.len, h.eq⟩)
            have := hE'.size
            obtain ⟨lv, rfl, hL, _, _⟩ := hL.open
            have hlv := hL.one
            refine ⟨(fun _ => hb), ?_⟩
            refine kt_two rfl rfl rfl rfl ?_ ?_
            · skip
              refine ow_call2 fn54 rfl rfl rfl rfl (key_c hb (i := 3) (by omega)) (kret_ret (fun u w6 ⟨hu, hE'⟩ => ?_))
              subst hu
              replace hb := hb.keep hE' (fun _ _ h => h)
              replace hE := hE.trans hE'
              have hl0 := hb0.lt
              replace hb0 := hb0.keep hE' (fun h => h)
              try have hl3 := hb3.lt
              try replace hb3 := hb3.keep hE' (fun h => h)
              try replace hL := hL.keep hE' (fun _ _ h => h) (fun _ _ h => ⟨h.len, h.eq⟩)
              have := hE'.size
              refine ⟨(fun _ => hb), ?_⟩
              refine kt_two rfl rfl rfl rfl ?_ ?_
              · skip
                refine ow_call2 fn53 rfl rfl rfl rfl (number_c hb (i := 4) (by omega)) (kret_ret (fun u w7 ⟨hu, hE'⟩ => ?_))
                subst hu
                have hn := nm_le (c := c) (i := 4) (by omega)
                replace hb := hb.keep hE' (fun _ _ h => h)
                replace hE := hE.trans hE'
                have hl0 := hb0.lt
                replace hb0 := hb0.keep hE' (fun h => h)
                try have hl3 := hb3.lt
                try replace hb3 := hb3.keep hE' (fun h => h)
                try replace hL := hL.keep hE' (fun _ _ h => h) (fun _ _ h => ⟨h.len, h.eq⟩)
                have := hE'.size
                refine ⟨(fun _ => hb), ?_⟩
                refine kt_done ?_
                refine kr_val rfl (hb) (fun w' hS' => y_build (cells := (reqCells (chReq0 c) lv (.slice none 0 0) (.slice none 0 0)).toArray) rfl (by kernel_rfl)) rfl rfl rfl ?_
                refine kr_ow rfl rfl (ow_alloc I53 Z53 rfl (fun w8 b3 hb3 hE' he3 hz3 => ?_))
                have hl0 := hb0.lt
                replace hb := hb.keep hE' (fun _ _ h => h)
                replace hE := hE.trans hE'
                have hl0 := hb0.lt
                replace hb0 := hb0.keep hE' (fun h => h)
                try have hl3 := hb3.lt
                try replace hL := hL.keep hE' (fun _ _ h => h) (fun _ _ h => ⟨h.len, h.eq⟩)
                have := hE'.size
                replace hb3 := bx_eq hb3 (show _ = ([Value.int .u8 0, Value.int .i64 0, Value.int .i64 0, Value.string ByteArray.empty, Value.string ByteArray.empty, Value.string ByteArray.empty, Value.int .i64 0, Value.int .i64 0] ++ List.replicate 32 (Value.int .u8 0) ++ [Value.slice none 0 0] ++ List.replicate 96 (Value.int .u8 0) ++ [Value.int .i64 0] ++ List.replicate 96 (Value.int .u8 0) ++ [Value.slice none 0 0, Value.int .i64 0, Value.slice none 0 0] : List Value) from rfl)
                have h03 : b0 ≠ b3 := by omega
                have hw3 : w.heap.size ≤ b3 := by omega
                refine ⟨(fun _ => hb), ?_⟩
                refine kr_ow rfl rfl (ow_store (b := b3) (o := 0) I53 S53 rfl (v := .agg (reqCells (chReq0 c) lv (.slice none 0 0) (.slice none 0 0)).toArray) (xs := reqCells (chReq0 c) lv (.slice none 0 0) (.slice none 0 0)) rfl hb3 rfl (req_len (chReq0_L c)) (by rw [req_len (chReq0_L c)]; simp) (req_one hlv.1 rfl rfl) (fun w9 hb9 hf9 hz9 => ?_))
                replace hb3 := bx_eq hb9 (splice_all (by rw [req_len (chReq0_L c)]; simp))
                replace hb := hb.keep hf9 (fun j hj e => by have e' : j = b3 := e; have := hB j hj; omega)
                replace hb0 := hb0.keep hf9 (fun e => h03 e)
                have hL' := (hL.mono (B' := fun q => q < w9.heap.size ∧ q ≠ b3 ∧ q ≠ b0) (fun q hq => ⟨by have := hq.2; omega, by have := hq.1; have := hq.2; omega, by have := hq.1; omega⟩) (fun _ _ h => ⟨h.len, h.eq⟩)).keep hf9 (fun q hq e => hq.2.1 e) (fun _ _ h => ⟨h.len, h.eq⟩)
                replace hE := ext_store hE hf9 hw3
                refine ⟨(fun _ => hb), ?_⟩
                refine kr_nil ?_
                exact ⟨rfl, b3, lv, rfl, rfl, rfl, hlv.1, hb3, hb, hb0, hL', hE, h03, hw3⟩
              · skip
                refine ow_alloc I53 Z53 rfl (fun w8 b3 hb3 hE' he3 hz3 => ?_)
                have hl0 := hb0.lt
                replace hb := hb.keep hE' (fun _ _ h => h)
                replace hE := hE.trans hE'
                have hl0 := hb0.lt
                replace hb0 := hb0.keep hE' (fun h => h)
                try have hl3 := hb3.lt
                try replace hL := hL.keep hE' (fun _ _ h => h) (fun _ _ h => ⟨h.len, h.eq⟩)
                have := hE'.size
                replace hb3 := bx_eq hb3 (show _ = ([Value.int .u8 0, Value.int .i64 0, Value.int .i64 0, Value.string ByteArray.empty, Value.string ByteArray.empty, Value.string ByteArray.empty, Value.int .i64 0, Value.int .i64 0] ++ List.replicate 32 (Value.int .u8 0) ++ [Value.slice none 0 0] ++ List.replicate 96 (Value.int .u8 0) ++ [Value.int .i64 0] ++ List.replicate 96 (Value.int .u8 0) ++ [Value.slice none 0 0, Value.int .i64 0, Value.slice none 0 0] : List Value) from rfl)
                have h03 : b0 ≠ b3 := by omega
                have hw3 : w.heap.size ≤ b3 := by omega
                refine ⟨(fun _ => hb), ?_⟩
                refine kt_done ?_
                refine kr_ow rfl rfl (ow_call2 fn53 rfl rfl rfl rfl (number_c hb (i := 4) (by omega)) (kret_ret (fun u w7 ⟨hu, hE'⟩ => ?_)))
                subst hu
                have hn := nm_le (c := c) (i := 4) (by omega)
                replace hb := hb.keep hE' (fun _ _ h => h)
                replace hE := hE.trans hE'
                have hl0 := hb0.lt
                replace hb0 := hb0.keep hE' (fun h => h)
                try have hl3 := hb3.lt
                try replace hb3 := hb3.keep hE' (fun h => h)
                try replace hL := hL.keep hE' (fun _ _ h => h) (fun _ _ h => ⟨h.len, h.eq⟩)
                have := hE'.size
                refine ⟨(fun _ => hb), ?_⟩
                refine kr_val rfl (hb) (fun w' hS' => y_build (cells := (reqCells (chReq0 c) lv (.slice none 0 0) (.slice none 0 0)).toArray) rfl (by kernel_rfl)) rfl rfl rfl ?_
                refine kr_ow rfl rfl (ow_store (b := b3) (o := 0) I53 S53 rfl (v := .agg (reqCells (chReq0 c) lv (.slice none 0 0) (.slice none 0 0)).toArray) (xs := reqCells (chReq0 c) lv (.slice none 0 0) (.slice none 0 0)) rfl hb3 rfl (req_len (chReq0_L c)) (by rw [req_len (chReq0_L c)]; simp) (req_one hlv.1 rfl rfl) (fun w9 hb9 hf9 hz9 => ?_))
                replace hb3 := bx_eq hb9 (splice_all (by rw [req_len (chReq0_L c)]; simp))
                replace hb := hb.keep hf9 (fun j hj e => by have e' : j = b3 := e; have := hB j hj; omega)
                replace hb0 := hb0.keep hf9 (fun e => h03 e)
                have hL' := (hL.mono (B' := fun q => q < w9.heap.size ∧ q ≠ b3 ∧ q ≠ b0) (fun q hq => ⟨by have := hq.2; omega, by have := hq.1; have := hq.2; omega, by have := hq.1; omega⟩) (fun _ _ h => ⟨h.len, h.eq⟩)).keep hf9 (fun q hq e => hq.2.1 e) (fun _ _ h => ⟨h.len, h.eq⟩)
                replace hE := ext_store hE hf9 hw3
                refine ⟨(fun _ => hb), ?_⟩
                refine kr_nil ?_
                exact ⟨rfl, b3, lv, rfl, rfl, rfl, hlv.1, hb3, hb, hb0, hL', hE, h03, hw3⟩
            · skip
              refine ow_alloc I53 Z53 rfl (fun w8 b3 hb3 hE' he3 hz3 => ?_)
              have hl0 := hb0.lt
              replace hb := hb.keep hE' (fun _ _ h => h)
              replace hE := hE.trans hE'
              have hl0 := hb0.lt
              replace hb0 := hb0.keep hE' (fun h => h)
              try have hl3 := hb3.lt
              try replace hL := hL.keep hE' (fun _ _ h => h) (fun _ _ h => ⟨h.len, h.eq⟩)
              have := hE'.size
              replace hb3 := bx_eq hb3 (show _ = ([Value.int .u8 0, Value.int .i64 0, Value.int .i64 0, Value.string ByteArray.empty, Value.string ByteArray.empty, Value.string ByteArray.empty, Value.int .i64 0, Value.int .i64 0] ++ List.replicate 32 (Value.int .u8 0) ++ [Value.slice none 0 0] ++ List.replicate 96 (Value.int .u8 0) ++ [Value.int .i64 0] ++ List.replicate 96 (Value.int .u8 0) ++ [Value.slice none 0 0, Value.int .i64 0, Value.slice none 0 0] : List Value) from rfl)
              have h03 : b0 ≠ b3 := by omega
              have hw3 : w.heap.size ≤ b3 := by omega
              refine ⟨(fun _ => hb), ?_⟩
              refine kt_done ?_
              refine kr_ow rfl rfl (ow_call2 fn54 rfl rfl rfl rfl (key_c hb (i := 3) (by omega)) (kret_ret (fun u w6 ⟨hu, hE'⟩ => ?_)))
              subst hu
              replace hb := hb.keep hE' (fun _ _ h => h)
              replace hE := hE.trans hE'
              have hl0 := hb0.lt
              replace hb0 := hb0.keep hE' (fun h => h)
              try have hl3 := hb3.lt
              try replace hb3 := hb3.keep hE' (fun h => h)
              try replace hL := hL.keep hE' (fun _ _ h => h) (fun _ _ h => ⟨h.len, h.eq⟩)
              have := hE'.size
              refine ⟨(fun _ => hb), ?_⟩
              refine kr_ow rfl rfl (ow_call2 fn53 rfl rfl rfl rfl (number_c hb (i := 4) (by omega)) (kret_ret (fun u w7 ⟨hu, hE'⟩ => ?_)))
              subst hu
              have hn := nm_le (c := c) (i := 4) (by omega)
              replace hb := hb.keep hE' (fun _ _ h => h)
              replace hE := hE.trans hE'
              have hl0 := hb0.lt
              replace hb0 := hb0.keep hE' (fun h => h)
              try have hl3 := hb3.lt
              try replace hb3 := hb3.keep hE' (fun h => h)
              try replace hL := hL.keep hE' (fun _ _ h => h) (fun _ _ h => ⟨h.len, h.eq⟩)
              have := hE'.size
              refine ⟨(fun _ => hb), ?_⟩
              refine kr_val rfl (hb) (fun w' hS' => y_build (cells := (reqCells (chReq0 c) lv (.slice none 0 0) (.slice none 0 0)).toArray) rfl (by kernel_rfl)) rfl rfl rfl ?_
              refine kr_ow rfl rfl (ow_store (b := b3) (o := 0) I53 S53 rfl (v := .agg (reqCells (chReq0 c) lv (.slice none 0 0) (.slice none 0 0)).toArray) (xs := reqCells (chReq0 c) lv (.slice none 0 0) (.slice none 0 0)) rfl hb3 rfl (req_len (chReq0_L c)) (by rw [req_len (chReq0_L c)]; simp) (req_one hlv.1 rfl rfl) (fun w9 hb9 hf9 hz9 => ?_))
              replace hb3 := bx_eq hb9 (splice_all (by rw [req_len (chReq0_L c)]; simp))
              replace hb := hb.keep hf9 (fun j hj e => by have e' : j = b3 := e; have := hB j hj; omega)
              replace hb0 := hb0.keep hf9 (fun e => h03 e)
              have hL' := (hL.mono (B' := fun q => q < w9.heap.size ∧ q ≠ b3 ∧ q ≠ b0) (fun q hq => ⟨by have := hq.2; omega, by have := hq.1; have := hq.2; omega, by have := hq.1; omega⟩) (fun _ _ h => ⟨h.len, h.eq⟩)).keep hf9 (fun q hq e => hq.2.1 e) (fun _ _ h => ⟨h.len, h.eq⟩)
              replace hE := ext_store hE hf9 hw3
              refine ⟨(fun _ => hb), ?_⟩
              refine kr_nil ?_
              exact ⟨rfl, b3, lv, rfl, rfl, rfl, hlv.1, hb3, hb, hb0, hL', hE, h03, hw3⟩
          · skip
            refine ow_alloc I53 Z53 rfl (fun w8 b3 hb3 hE' he3 hz3 => ?_)
            have hl0 := hb0.lt
            replace hb := hb.keep hE' (fun _ _ h => h)
            replace hE := hE.trans hE'
            have hl0 := hb0.lt
            replace hb0 := hb0.keep hE' (fun h => h)
            try have hl3 := hb3.lt
            try replace hL := hL.keep hE' (fun _ _ h => h) (fun _ _ h => ⟨h.len, h.eq⟩)
            have := hE'.size
            replace hb3 := bx_eq hb3 (show _ = ([Value.int .u8 0, Value.int .i64 0, Value.int .i64 0, Value.string ByteArray.empty, Value.string ByteArray.empty, Value.string ByteArray.empty, Value.int .i64 0, Value.int .i64 0] ++ List.replicate 32 (Value.int .u8 0) ++ [Value.slice none 0 0] ++ List.replicate 96 (Value.int .u8 0) ++ [Value.int .i64 0] ++ List.replicate 96 (Value.int .u8 0) ++ [Value.slice none 0 0, Value.int .i64 0, Value.slice none 0 0] : List Value) from rfl)
            have h03 : b0 ≠ b3 := by omega
            have hw3 : w.heap.size ≤ b3 := by omega
            refine ⟨(fun _ => hb), ?_⟩
            refine kt_done ?_
            refine kr_ow rfl rfl (ow_call1 fn36 rfl rfl rfl (List_c hb (fun j hj => by have := hB j hj; have := hE.size; omega)) (kret_ret (fun u w5 ⟨⟨lc, hu, hL⟩, hE'⟩ => ?_)))
            subst hu
            replace hb := hb.keep hE' (fun _ _ h => h)
            replace hE := hE.trans hE'
            have hl0 := hb0.lt
            replace hb0 := hb0.keep hE' (fun h => h)
            try have hl3 := hb3.lt
            try replace hb3 := hb3.keep hE' (fun h => h)
            try replace hL := hL.keep hE' (fun _ _ h => h) (fun _ _ h => ⟨h.len, h.eq⟩)
            have := hE'.size
            obtain ⟨lv, rfl, hL, _, _⟩ := hL.open
            have hlv := hL.one
            refine ⟨(fun _ => hb), ?_⟩
            refine kr_ow rfl rfl (ow_call2 fn54 rfl rfl rfl rfl (key_c hb (i := 3) (by omega)) (kret_ret (fun u w6 ⟨hu, hE'⟩ => ?_)))
            subst hu
            replace hb := hb.keep hE' (fun _ _ h => h)
            replace hE := hE.trans hE'
            have hl0 := hb0.lt
            replace hb0 := hb0.keep hE' (fun h => h)
            try have hl3 := hb3.lt
            try replace hb3 := hb3.keep hE' (fun h => h)
            try replace hL := hL.keep hE' (fun _ _ h => h) (fun _ _ h => ⟨h.len, h.eq⟩)
            have := hE'.size
            refine ⟨(fun _ => hb), ?_⟩
            refine kr_ow rfl rfl (ow_call2 fn53 rfl rfl rfl rfl (number_c hb (i := 4) (by omega)) (kret_ret (fun u w7 ⟨hu, hE'⟩ => ?_)))
            subst hu
            have hn := nm_le (c := c) (i := 4) (by omega)
            replace hb := hb.keep hE' (fun _ _ h => h)
            replace hE := hE.trans hE'
            have hl0 := hb0.lt
            replace hb0 := hb0.keep hE' (fun h => h)
            try have hl3 := hb3.lt
            try replace hb3 := hb3.keep hE' (fun h => h)
            try replace hL := hL.keep hE' (fun _ _ h => h) (fun _ _ h => ⟨h.len, h.eq⟩)
            have := hE'.size
            refine ⟨(fun _ => hb), ?_⟩
            refine kr_val rfl (hb) (fun w' hS' => y_build (cells := (reqCells (chReq0 c) lv (.slice none 0 0) (.slice none 0 0)).toArray) rfl (by kernel_rfl)) rfl rfl rfl ?_
            refine kr_ow rfl rfl (ow_store (b := b3) (o := 0) I53 S53 rfl (v := .agg (reqCells (chReq0 c) lv (.slice none 0 0) (.slice none 0 0)).toArray) (xs := reqCells (chReq0 c) lv (.slice none 0 0) (.slice none 0 0)) rfl hb3 rfl (req_len (chReq0_L c)) (by rw [req_len (chReq0_L c)]; simp) (req_one hlv.1 rfl rfl) (fun w9 hb9 hf9 hz9 => ?_))
            replace hb3 := bx_eq hb9 (splice_all (by rw [req_len (chReq0_L c)]; simp))
            replace hb := hb.keep hf9 (fun j hj e => by have e' : j = b3 := e; have := hB j hj; omega)
            replace hb0 := hb0.keep hf9 (fun e => h03 e)
            have hL' := (hL.mono (B' := fun q => q < w9.heap.size ∧ q ≠ b3 ∧ q ≠ b0) (fun q hq => ⟨by have := hq.2; omega, by have := hq.1; have := hq.2; omega, by have := hq.1; omega⟩) (fun _ _ h => ⟨h.len, h.eq⟩)).keep hf9 (fun q hq e => hq.2.1 e) (fun _ _ h => ⟨h.len, h.eq⟩)
            replace hE := ext_store hE hf9 hw3
            refine ⟨(fun _ => hb), ?_⟩
            refine kr_nil ?_
            exact ⟨rfl, b3, lv, rfl, rfl, rfl, hlv.1, hb3, hb, hb0, hL', hE, h03, hw3⟩
        · skip
          refine ow_alloc I53 Z53 rfl (fun w8 b3 hb3 hE' he3 hz3 => ?_)
          have hl0 := hb0.lt
          replace hb := hb.keep hE' (fun _ _ h => h)
          replace hE := hE.trans hE'
          have hl0 := hb0.lt
          replace hb0 := hb0.keep hE' (fun h => h)
          try have hl3 := hb3.lt
          try replace hL := hL.keep hE' (fun _ _ h => h) (fun _ _ h => ⟨h.len, h.eq⟩)
          have := hE'.size
          replace hb3 := bx_eq hb3 (show _ = ([Value.int .u8 0, Value.int .i64 0, Value.int .i64 0, Value.string ByteArray.empty, Value.string ByteArray.empty, Value.string ByteArray.empty, Value.int .i64 0, Value.int .i64 0] ++ List.replicate 32 (Value.int .u8 0) ++ [Value.slice none 0 0] ++ List.replicate 96 (Value.int .u8 0) ++ [Value.int .i64 0] ++ List.replicate 96 (Value.int .u8 0) ++ [Value.slice none 0 0, Value.int .i64 0, Value.slice none 0 0] : List Value) from rfl)
          have h03 : b0 ≠ b3 := by omega
          have hw3 : w.heap.size ≤ b3 := by omega
          refine ⟨(fun _ => hb), ?_⟩
          refine kt_done ?_
          refine kr_ow rfl rfl (ow_call2 fn53 rfl rfl rfl rfl (number_c hb (i := 2) (by omega)) (kret_ret (fun u w4 ⟨hu, hE'⟩ => ?_)))
          subst hu
          have hn := nm_le (c := c) (i := 2) (by omega)
          replace hb := hb.keep hE' (fun _ _ h => h)
          replace hE := hE.trans hE'
          have hl0 := hb0.lt
          replace hb0 := hb0.keep hE' (fun h => h)
          try have hl3 := hb3.lt
          try replace hb3 := hb3.keep hE' (fun h => h)
          try replace hL := hL.keep hE' (fun _ _ h => h) (fun _ _ h => ⟨h.len, h.eq⟩)
          have := hE'.size
          refine ⟨(fun _ => hb), ?_⟩
          refine kr_ow rfl rfl (ow_call1 fn36 rfl rfl rfl (List_c hb (fun j hj => by have := hB j hj; have := hE.size; omega)) (kret_ret (fun u w5 ⟨⟨lc, hu, hL⟩, hE'⟩ => ?_)))
          subst hu
          replace hb := hb.keep hE' (fun _ _ h => h)
          replace hE := hE.trans hE'
          have hl0 := hb0.lt
          replace hb0 := hb0.keep hE' (fun h => h)
          try have hl3 := hb3.lt
          try replace hb3 := hb3.keep hE' (fun h => h)
          try replace hL := hL.keep hE' (fun _ _ h => h) (fun _ _ h => ⟨h.len, h.eq⟩)
          have := hE'.size
          obtain ⟨lv, rfl, hL, _, _⟩ := hL.open
          have hlv := hL.one
          refine ⟨(fun _ => hb), ?_⟩
          refine kr_ow rfl rfl (ow_call2 fn54 rfl rfl rfl rfl (key_c hb (i := 3) (by omega)) (kret_ret (fun u w6 ⟨hu, hE'⟩ => ?_)))
          subst hu
          replace hb := hb.keep hE' (fun _ _ h => h)
          replace hE := hE.trans hE'
          have hl0 := hb0.lt
          replace hb0 := hb0.keep hE' (fun h => h)
          try have hl3 := hb3.lt
          try replace hb3 := hb3.keep hE' (fun h => h)
          try replace hL := hL.keep hE' (fun _ _ h => h) (fun _ _ h => ⟨h.len, h.eq⟩)
          have := hE'.size
          refine ⟨(fun _ => hb), ?_⟩
          refine kr_ow rfl rfl (ow_call2 fn53 rfl rfl rfl rfl (number_c hb (i := 4) (by omega)) (kret_ret (fun u w7 ⟨hu, hE'⟩ => ?_)))
          subst hu
          have hn := nm_le (c := c) (i := 4) (by omega)
          replace hb := hb.keep hE' (fun _ _ h => h)
          replace hE := hE.trans hE'
          have hl0 := hb0.lt
          replace hb0 := hb0.keep hE' (fun h => h)
          try have hl3 := hb3.lt
          try replace hb3 := hb3.keep hE' (fun h => h)
          try replace hL := hL.keep hE' (fun _ _ h => h) (fun _ _ h => ⟨h.len, h.eq⟩)
          have := hE'.size
          refine ⟨(fun _ => hb), ?_⟩
          refine kr_val rfl (hb) (fun w' hS' => y_build (cells := (reqCells (chReq0 c) lv (.slice none 0 0) (.slice none 0 0)).toArray) rfl (by kernel_rfl)) rfl rfl rfl ?_
          refine kr_ow rfl rfl (ow_store (b := b3) (o := 0) I53 S53 rfl (v := .agg (reqCells (chReq0 c) lv (.slice none 0 0) (.slice none 0 0)).toArray) (xs := reqCells (chReq0 c) lv (.slice none 0 0) (.slice none 0 0)) rfl hb3 rfl (req_len (chReq0_L c)) (by rw [req_len (chReq0_L c)]; simp) (req_one hlv.1 rfl rfl) (fun w9 hb9 hf9 hz9 => ?_))
          replace hb3 := bx_eq hb9 (splice_all (by rw [req_len (chReq0_L c)]; simp))
          replace hb := hb.keep hf9 (fun j hj e => by have e' : j = b3 := e; have := hB j hj; omega)
          replace hb0 := hb0.keep hf9 (fun e => h03 e)
          have hL' := (hL.mono (B' := fun q => q < w9.heap.size ∧ q ≠ b3 ∧ q ≠ b0) (fun q hq => ⟨by have := hq.2; omega, by have := hq.1; have := hq.2; omega, by have := hq.1; omega⟩) (fun _ _ h => ⟨h.len, h.eq⟩)).keep hf9 (fun q hq e => hq.2.1 e) (fun _ _ h => ⟨h.len, h.eq⟩)
          replace hE := ext_store hE hf9 hw3
          refine ⟨(fun _ => hb), ?_⟩
          refine kr_nil ?_
          exact ⟨rfl, b3, lv, rfl, rfl, rfl, hlv.1, hb3, hb, hb0, hL', hE, h03, hw3⟩
      · skip
        refine ow_alloc I53 Z53 rfl (fun w8 b3 hb3 hE' he3 hz3 => ?_)
        have hl0 := hb0.lt
        replace hb := hb.keep hE' (fun _ _ h => h)
        replace hE := hE.trans hE'
        have hl0 := hb0.lt
        replace hb0 := hb0.keep hE' (fun h => h)
        try have hl3 := hb3.lt
        try replace hL := hL.keep hE' (fun _ _ h => h) (fun _ _ h => ⟨h.len, h.eq⟩)
        have := hE'.size
        replace hb3 := bx_eq hb3 (show _ = ([Value.int .u8 0, Value.int .i64 0, Value.int .i64 0, Value.string ByteArray.empty, Value.string ByteArray.empty, Value.string ByteArray.empty, Value.int .i64 0, Value.int .i64 0] ++ List.replicate 32 (Value.int .u8 0) ++ [Value.slice none 0 0] ++ List.replicate 96 (Value.int .u8 0) ++ [Value.int .i64 0] ++ List.replicate 96 (Value.int .u8 0) ++ [Value.slice none 0 0, Value.int .i64 0, Value.slice none 0 0] : List Value) from rfl)
        have h03 : b0 ≠ b3 := by omega
        have hw3 : w.heap.size ≤ b3 := by omega
        refine ⟨(fun _ => hb), ?_⟩
        refine kt_done ?_
        refine kr_ow rfl rfl (ow_call2 fn53 rfl rfl rfl rfl (number_c hb (i := 1) (by omega)) (kret_ret (fun u w3 ⟨hu, hE'⟩ => ?_)))
        subst hu
        have hn := nm_le (c := c) (i := 1) (by omega)
        replace hb := hb.keep hE' (fun _ _ h => h)
        replace hE := hE.trans hE'
        have hl0 := hb0.lt
        replace hb0 := hb0.keep hE' (fun h => h)
        try have hl3 := hb3.lt
        try replace hb3 := hb3.keep hE' (fun h => h)
        try replace hL := hL.keep hE' (fun _ _ h => h) (fun _ _ h => ⟨h.len, h.eq⟩)
        have := hE'.size
        refine ⟨(fun _ => hb), ?_⟩
        refine kr_ow rfl rfl (ow_call2 fn53 rfl rfl rfl rfl (number_c hb (i := 2) (by omega)) (kret_ret (fun u w4 ⟨hu, hE'⟩ => ?_)))
        subst hu
        have hn := nm_le (c := c) (i := 2) (by omega)
        replace hb := hb.keep hE' (fun _ _ h => h)
        replace hE := hE.trans hE'
        have hl0 := hb0.lt
        replace hb0 := hb0.keep hE' (fun h => h)
        try have hl3 := hb3.lt
        try replace hb3 := hb3.keep hE' (fun h => h)
        try replace hL := hL.keep hE' (fun _ _ h => h) (fun _ _ h => ⟨h.len, h.eq⟩)
        have := hE'.size
        refine ⟨(fun _ => hb), ?_⟩
        refine kr_ow rfl rfl (ow_call1 fn36 rfl rfl rfl (List_c hb (fun j hj => by have := hB j hj; have := hE.size; omega)) (kret_ret (fun u w5 ⟨⟨lc, hu, hL⟩, hE'⟩ => ?_)))
        subst hu
        replace hb := hb.keep hE' (fun _ _ h => h)
        replace hE := hE.trans hE'
        have hl0 := hb0.lt
        replace hb0 := hb0.keep hE' (fun h => h)
        try have hl3 := hb3.lt
        try replace hb3 := hb3.keep hE' (fun h => h)
        try replace hL := hL.keep hE' (fun _ _ h => h) (fun _ _ h => ⟨h.len, h.eq⟩)
        have := hE'.size
        obtain ⟨lv, rfl, hL, _, _⟩ := hL.open
        have hlv := hL.one
        refine ⟨(fun _ => hb), ?_⟩
        refine kr_ow rfl rfl (ow_call2 fn54 rfl rfl rfl rfl (key_c hb (i := 3) (by omega)) (kret_ret (fun u w6 ⟨hu, hE'⟩ => ?_)))
        subst hu
        replace hb := hb.keep hE' (fun _ _ h => h)
        replace hE := hE.trans hE'
        have hl0 := hb0.lt
        replace hb0 := hb0.keep hE' (fun h => h)
        try have hl3 := hb3.lt
        try replace hb3 := hb3.keep hE' (fun h => h)
        try replace hL := hL.keep hE' (fun _ _ h => h) (fun _ _ h => ⟨h.len, h.eq⟩)
        have := hE'.size
        refine ⟨(fun _ => hb), ?_⟩
        refine kr_ow rfl rfl (ow_call2 fn53 rfl rfl rfl rfl (number_c hb (i := 4) (by omega)) (kret_ret (fun u w7 ⟨hu, hE'⟩ => ?_)))
        subst hu
        have hn := nm_le (c := c) (i := 4) (by omega)
        replace hb := hb.keep hE' (fun _ _ h => h)
        replace hE := hE.trans hE'
        have hl0 := hb0.lt
        replace hb0 := hb0.keep hE' (fun h => h)
        try have hl3 := hb3.lt
        try replace hb3 := hb3.keep hE' (fun h => h)
        try replace hL := hL.keep hE' (fun _ _ h => h) (fun _ _ h => ⟨h.len, h.eq⟩)
        have := hE'.size
        refine ⟨(fun _ => hb), ?_⟩
        refine kr_val rfl (hb) (fun w' hS' => y_build (cells := (reqCells (chReq0 c) lv (.slice none 0 0) (.slice none 0 0)).toArray) rfl (by kernel_rfl)) rfl rfl rfl ?_
        refine kr_ow rfl rfl (ow_store (b := b3) (o := 0) I53 S53 rfl (v := .agg (reqCells (chReq0 c) lv (.slice none 0 0) (.slice none 0 0)).toArray) (xs := reqCells (chReq0 c) lv (.slice none 0 0) (.slice none 0 0)) rfl hb3 rfl (req_len (chReq0_L c)) (by rw [req_len (chReq0_L c)]; simp) (req_one hlv.1 rfl rfl) (fun w9 hb9 hf9 hz9 => ?_))
        replace hb3 := bx_eq hb9 (splice_all (by rw [req_len (chReq0_L c)]; simp))
        replace hb := hb.keep hf9 (fun j hj e => by have e' : j = b3 := e; have := hB j hj; omega)
        replace hb0 := hb0.keep hf9 (fun e => h03 e)
        have hL' := (hL.mono (B' := fun q => q < w9.heap.size ∧ q ≠ b3 ∧ q ≠ b0) (fun q hq => ⟨by have := hq.2; omega, by have := hq.1; have := hq.2; omega, by have := hq.1; omega⟩) (fun _ _ h => ⟨h.len, h.eq⟩)).keep hf9 (fun q hq e => hq.2.1 e) (fun _ _ h => ⟨h.len, h.eq⟩)
        replace hE := ext_store hE hf9 hw3
        refine ⟨(fun _ => hb), ?_⟩
        refine kr_nil ?_
        exact ⟨rfl, b3, lv, rfl, rfl, rfl, hlv.1, hb3, hb, hb0, hL', hE, h03, hw3⟩
    · skip
      refine ow_alloc I53 Z53 rfl (fun w8 b3 hb3 hE' he3 hz3 => ?_)
      have hl0 := hb0.lt
      replace hb := hb.keep hE' (fun _ _ h => h)
      replace hE := hE.trans hE'
      have hl0 := hb0.lt
      replace hb0 := hb0.keep hE' (fun h => h)
      try have hl3 := hb3.lt
      try replace hL := hL.keep hE' (fun _ _ h => h) (fun _ _ h => ⟨h.len, h.eq⟩)
      have := hE'.size
      replace hb3 := bx_eq hb3 (show _ = ([Value.int .u8 0, Value.int .i64 0, Value.int .i64 0, Value.string ByteArray.empty, Value.string ByteArray.empty, Value.string ByteArray.empty, Value.int .i64 0, Value.int .i64 0] ++ List.replicate 32 (Value.int .u8 0) ++ [Value.slice none 0 0] ++ List.replicate 96 (Value.int .u8 0) ++ [Value.int .i64 0] ++ List.replicate 96 (Value.int .u8 0) ++ [Value.slice none 0 0, Value.int .i64 0, Value.slice none 0 0] : List Value) from rfl)
      have h03 : b0 ≠ b3 := by omega
      have hw3 : w.heap.size ≤ b3 := by omega
      refine ⟨(fun _ => hb), ?_⟩
      refine kt_done ?_
      refine kr_ow rfl rfl (ow_call2 fn53 rfl rfl rfl rfl (number_c hb (i := 0) (by omega)) (kret_ret (fun u w2 ⟨hu, hE'⟩ => ?_)))
      subst hu
      have hn := nm_le (c := c) (i := 0) (by omega)
      replace hb := hb.keep hE' (fun _ _ h => h)
      replace hE := hE.trans hE'
      have hl0 := hb0.lt
      replace hb0 := hb0.keep hE' (fun h => h)
      try have hl3 := hb3.lt
      try replace hb3 := hb3.keep hE' (fun h => h)
      try replace hL := hL.keep hE' (fun _ _ h => h) (fun _ _ h => ⟨h.len, h.eq⟩)
      have := hE'.size
      refine ⟨(fun _ => hb), ?_⟩
      refine kr_val rfl (hb) (fun w' hS' => Y.cast (v' := .int .i64 ((nm c 0 % 15 : Nat) : Int)) (y_rem' rfl rfl (by omega) (by omega)) (congrArg (Value.int .i64) (by omega))) rfl rfl rfl ?_
      refine kr_val rfl (hb) (fun w' hS' => Y.cast (v' := .int .u8 ((nm c 0 % 15 : Nat) : Int)) (y_conv_int ⟨_, Try.underlying3⟩ Try.underlying5 rfl) (congrArg (Value.int .u8) (wrap8_eq (by omega) (by omega)))) rfl rfl rfl ?_
      refine kr_ow rfl rfl (ow_call2 fn53 rfl rfl rfl rfl (number_c hb (i := 1) (by omega)) (kret_ret (fun u w3 ⟨hu, hE'⟩ => ?_)))
      subst hu
      have hn := nm_le (c := c) (i := 1) (by omega)
      replace hb := hb.keep hE' (fun _ _ h => h)
      replace hE := hE.trans hE'
      have hl0 := hb0.lt
      replace hb0 := hb0.keep hE' (fun h => h)
      try have hl3 := hb3.lt
      try replace hb3 := hb3.keep hE' (fun h => h)
      try replace hL := hL.keep hE' (fun _ _ h => h) (fun _ _ h => ⟨h.len, h.eq⟩)
      have := hE'.size
      refine ⟨(fun _ => hb), ?_⟩
      refine kr_ow rfl rfl (ow_call2 fn53 rfl rfl rfl rfl (number_c hb (i := 2) (by omega)) (kret_ret (fun u w4 ⟨hu, hE'⟩ => ?_)))
      subst hu
      have hn := nm_le (c := c) (i := 2) (by omega)
      replace hb := hb.keep hE' (fun _ _ h => h)
      replace hE := hE.trans hE'
      have hl0 := hb0.lt
      replace hb0 := hb0.keep hE' (fun h => h)
      try have hl3 := hb3.lt
      try replace hb3 := hb3.keep hE' (fun h => h)
      try replace hL := hL.keep hE' (fun _ _ h => h) (fun _ _ h => ⟨h.len, h.eq⟩)
      have := hE'.size
      refine ⟨(fun _ => hb), ?_⟩
      refine kr_ow rfl rfl (ow_call1 fn36 rfl rfl rfl (List_c hb (fun j hj => by have := hB j hj; have := hE.size; omega)) (kret_ret (fun u w5 ⟨⟨lc, hu, hL⟩, hE'⟩ => ?_)))
      subst hu
      replace hb := hb.keep hE' (fun _ _ h => h)
      replace hE := hE.trans hE'
      have hl0 := hb0.lt
      replace hb0 := hb0.keep hE' (fun h => h)
      try have hl3 := hb3.lt
      try replace hb3 := hb3.keep hE' (fun h => h)
      try replace hL := hL.keep hE' (fun _ _ h => h) (fun _ _ h => ⟨h.len, h.eq⟩)
      have := hE'.size
      obtain ⟨lv, rfl, hL, _, _⟩ := hL.open
      have hlv := hL.one
      refine ⟨(fun _ => hb), ?_⟩
      refine kr_ow rfl rfl (ow_call2 fn54 rfl rfl rfl rfl (key_c hb (i := 3) (by omega)) (kret_ret (fun u w6 ⟨hu, hE'⟩ => ?_)))
      subst hu
      replace hb := hb.keep hE' (fun _ _ h => h)
      replace hE := hE.trans hE'
      have hl0 := hb0.lt
      replace hb0 := hb0.keep hE' (fun h => h)
      try have hl3 := hb3.lt
      try replace hb3 := hb3.keep hE' (fun h => h)
      try replace hL := hL.keep hE' (fun _ _ h => h) (fun _ _ h => ⟨h.len, h.eq⟩)
      have := hE'.size
      refine ⟨(fun _ => hb), ?_⟩
      refine kr_ow rfl rfl (ow_call2 fn53 rfl rfl rfl rfl (number_c hb (i := 4) (by omega)) (kret_ret (fun u w7 ⟨hu, hE'⟩ => ?_)))
      subst hu
      have hn := nm_le (c := c) (i := 4) (by omega)
      replace hb := hb.keep hE' (fun _ _ h => h)
      replace hE := hE.trans hE'
      have hl0 := hb0.lt
      replace hb0 := hb0.keep hE' (fun h => h)
      try have hl3 := hb3.lt
      try replace hb3 := hb3.keep hE' (fun h => h)
      try replace hL := hL.keep hE' (fun _ _ h => h) (fun _ _ h => ⟨h.len, h.eq⟩)
      have := hE'.size
      refine ⟨(fun _ => hb), ?_⟩
      refine kr_val rfl (hb) (fun w' hS' => y_build (cells := (reqCells (chReq0 c) lv (.slice none 0 0) (.slice none 0 0)).toArray) rfl (by kernel_rfl)) rfl rfl rfl ?_
      refine kr_ow rfl rfl (ow_store (b := b3) (o := 0) I53 S53 rfl (v := .agg (reqCells (chReq0 c) lv (.slice none 0 0) (.slice none 0 0)).toArray) (xs := reqCells (chReq0 c) lv (.slice none 0 0) (.slice none 0 0)) rfl hb3 rfl (req_len (chReq0_L c)) (by rw [req_len (chReq0_L c)]; simp) (req_one hlv.1 rfl rfl) (fun w9 hb9 hf9 hz9 => ?_))
      replace hb3 := bx_eq hb9 (splice_all (by rw [req_len (chReq0_L c)]; simp))
      replace hb := hb.keep hf9 (fun j hj e => by have e' : j = b3 := e; have := hB j hj; omega)
      replace hb0 := hb0.keep hf9 (fun e => h03 e)
      have hL' := (hL.mono (B' := fun q => q < w9.heap.size ∧ q ≠ b3 ∧ q ≠ b0) (fun q hq => ⟨by have := hq.2; omega, by have := hq.1; have := hq.2; omega, by have := hq.1; omega⟩) (fun _ _ h => ⟨h.len, h.eq⟩)).keep hf9 (fun q hq e => hq.2.1 e) (fun _ _ h => ⟨h.len, h.eq⟩)
      replace hE := ext_store hE hf9 hw3
      refine ⟨(fun _ => hb), ?_⟩
      refine kr_nil ?_
      exact ⟨rfl, b3, lv, rfl, rfl, rfl, hlv.1, hb3, hb, hb0, hL', hE, h03, hw3⟩
  · skip
    clear hb hb0 hE
    have hw0 : w.heap.size ≤ b0 := by omega
    rintro ρ w9 ⟨b3, lv, e0, e2, e3, hlv, hb3, hb, hb0, hL, hE, h03, hw3⟩
    have hwb : w.heap.size ≤ b0 ∧ w.heap.size ≤ b3 := ⟨hw0, hw3⟩
    obtain ⟨σ, rfl⟩ : ∃ σ, ρ = upd (upd (upd σ 0 (.slice va c.length vc)) 2 (.pointer (some ⟨b0, 0, none⟩))) 3 (.pointer (some ⟨b3, 0, none⟩)) := ⟨ρ, by rw [upd_self ρ e0, upd_self ρ e2, upd_self ρ e3]⟩
    clear e0 e2 e3
    refine x_seq ?_
    refine k_seq ?_
    refine k_region ?_
    refine kl_val (y_move) rfl rfl rfl ?_
    refine kl_ow rfl (ow_call2 fn53 rfl rfl rfl rfl (number_c hb (i := 5) (by omega)) (kret_ret (fun u wa ⟨hu, hE'⟩ => ?_)))
    subst hu
    have hn := nm_le (c := c) (i := 5) (by omega)
    replace hb := hb.keep hE' (fun _ _ h => h)
    replace hE := hE.trans hE'
    replace hb0 := hb0.keep hE' (fun h => h)
    have := hE'.size
    replace hb3 := hb3.keep hE' (fun h => h)
    replace hL := hL.keep hE' (fun _ _ h => h) (fun _ _ h => ⟨h.len, h.eq⟩)
    refine kl_val (y_move) rfl rfl rfl ?_
    refine kl_ow rfl (ow_call2 fn54 rfl rfl rfl rfl (key_c hb (i := 6) (by omega)) (kret_ret (fun u wb ⟨hu, hE'⟩ => ?_)))
    subst hu
    replace hb := hb.keep hE' (fun _ _ h => h)
    replace hE := hE.trans hE'
    replace hb0 := hb0.keep hE' (fun h => h)
    have := hE'.size
    replace hb3 := hb3.keep hE' (fun h => h)
    replace hL := hL.keep hE' (fun _ _ h => h) (fun _ _ h => ⟨h.len, h.eq⟩)
    refine kl_val (y_build (cells := (idkCells (chReq c).signed).toArray) rfl (by kernel_rfl)) rfl rfl rfl ?_
    refine kl_val (y_fieldAddr Try.underlying53 rfl I49 S49 rfl rfl) rfl rfl rfl ?_
    refine kl_ow rfl (ow_store (b := b3) (o := 137) I49 S49 rfl (v := .agg (idkCells (chReq c).signed).toArray) (xs := idkCells (chReq c).signed) rfl hb3 rfl (idk_len (k := (chReq c).signed) (keyOf_len _ _)) (by rw [req_len (chReq0_L c), (idk_len (k := (chReq c).signed) (keyOf_len _ _))]; exact Nat.le_of_ble_eq_true rfl) (idk_one _ _) (fun w7 hb7 hf7 hz7 => ?_))
    replace hb3 := bx_eq hb7 ((req_signed (chReq0_L c) (keyOf_len _ _)).trans (show _ = reqCells (chReq1 c) lv (.slice none 0 0) (.slice none 0 0) from rfl))
    replace hb := hb.keep hf7 (fun q hq e => by have e' : q = b3 := e; have := hB q hq; omega)
    replace hb0 := hb0.keep hf7 (fun e => h03 e)
    replace hL := hL.keep hf7 (fun q hq e => hq.2.1 e) (fun _ _ h => ⟨h.len, h.eq⟩)
    have := hf7.size
    replace hE := ext_store hE hf7 hwb.2
    refine kl_nil ?_
    refine x_seq ?_
    refine k_seq ?_
    refine k_region ?_
    refine kl_val (y_move) rfl rfl rfl ?_
    refine kl_ow rfl (ow_call2 fn53 rfl rfl rfl rfl (number_c hb (i := 7) (by omega)) (kret_ret (fun u wc ⟨hu, hE'⟩ => ?_)))
    subst hu
    have hn := nm_le (c := c) (i := 7) (by omega)
    replace hb := hb.keep hE' (fun _ _ h => h)
    replace hE := hE.trans hE'
    replace hb0 := hb0.keep hE' (fun h => h)
    have := hE'.size
    replace hb3 := hb3.keep hE' (fun h => h)
    replace hL := hL.keep hE' (fun _ _ h => h) (fun _ _ h => ⟨h.len, h.eq⟩)
    refine kl_val (Y.cast (v' := bv (UInt8.ofNat (nm c 7))) (y_conv_int ⟨_, Try.underlying3⟩ Try.underlying5 rfl) (byteNat _)) rfl rfl rfl ?_
    refine kl_val (y_build (cells := (bvs (sigOf c 7)).toArray) rfl (by kernel_rfl)) rfl rfl rfl ?_
    refine kl_val (y_fieldAddr Try.underlying53 rfl I45 S45 rfl rfl) rfl rfl rfl ?_
    refine kl_ow rfl (ow_store (b := b3) (o := 170) I45 S45 rfl (v := .agg (bvs (sigOf c 7)).toArray) (xs := bvs (sigOf c 7)) rfl hb3 rfl (bv64 (sigOf_len c 7)) (by rw [req_len (chReq1_L c), (bv64 (sigOf_len c 7))]; exact Nat.le_of_ble_eq_true rfl) (bvs_one _) (fun w7 hb7 hf7 hz7 => ?_))
    replace hb3 := bx_eq hb7 ((req_sig (chReq1_L c) (sigOf_len _ _)).trans (show _ = reqCells (chReq c) lv (.slice none 0 0) (.slice none 0 0) from rfl))
    replace hb := hb.keep hf7 (fun q hq e => by have e' : q = b3 := e; have := hB q hq; omega)
    replace hb0 := hb0.keep hf7 (fun e => h03 e)
    replace hL := hL.keep hf7 (fun q hq e => hq.2.1 e) (fun _ _ h => ⟨h.len, h.eq⟩)
    have := hf7.size
    replace hE := ext_store hE hf7 hwb.2
    refine kl_nil ?_
    refine x_seq ?_
    refine k_seq ?_
    refine k_region ?_
    refine kl_val (y_move) rfl rfl rfl ?_
    refine kl_ow rfl (ow_call2 fn57 rfl rfl rfl rfl (Prekeys_c hb (fun j hj => by have := hB j hj; have := hE.size; omega) (i := 8) (by omega)) (kret_ret (fun ov wo ⟨hO, hE'⟩ => ?_)))
    have hl3 := hb3.lt
    have hl0 := hb0.lt
    replace hb := hb.keep hE' (fun _ _ h => h)
    replace hE := hE.trans hE'
    replace hb0 := hb0.keep hE' (fun h => h)
    have := hE'.size
    replace hb3 := hb3.keep hE' (fun h => h)
    replace hL := hL.keep hE' (fun _ _ h => h) (fun _ _ h => ⟨h.len, h.eq⟩)
    replace hO := hO.mono (B' := fun q => q < wo.heap.size ∧ q ≠ b3 ∧ q ≠ b0) (fun q hq => ⟨hq.2, by have := hq.1; omega, by have := hq.1; omega⟩) (fun _ _ h => ⟨h.len, h.eq⟩)
    have hov := hO.one
    refine kl_val (y_fieldAddr Try.underlying53 rfl I50 S50 rfl rfl) rfl rfl rfl ?_
    refine kl_ow rfl (ow_store (b := b3) (o := 234) I50 S50 rfl (v := ov) (xs := [ov]) rfl hb3 hov.2 rfl (by rw [req_len (chReq_L c)]; exact Nat.le_of_ble_eq_true rfl) (One'.single hov.1) (fun wA hb7 hf7 hz7 => ?_))
    replace hb3 := bx_eq hb7 (req_ones (chReq_L c))
    replace hb := hb.keep hf7 (fun q hq e => by have e' : q = b3 := e; have := hB q hq; omega)
    replace hb0 := hb0.keep hf7 (fun e => h03 e)
    replace hL := hL.keep hf7 (fun q hq e => hq.2.1 e) (fun _ _ h => ⟨h.len, h.eq⟩)
    have := hf7.size
    replace hO := hO.keep hf7 (fun q hq e => hq.2.1 e) (fun _ _ h => ⟨h.len, h.eq⟩)
    replace hE := ext_store hE hf7 hwb.2
    have h3A : b3 < wA.heap.size := hb3.lt
    have h0A : b0 < wA.heap.size := hb0.lt
    have hEA := hE.size
    clear hf7 hz7 hl3 hl0
    refine kl_nil ?_
    refine x_seq ?_
    refine k_seq ?_
    refine k_seq ?_
    refine k_region ?_
    refine kl_val (y_assign) rfl rfl rfl ?_
    refine kl_nil ?_
    refine x_seq ?_
    refine k_block ?_
    replace hL : SlX IdKeyR 33 wA (fun q => q < wA.heap.size ∧ q ≠ b3 ∧ q ≠ b0) lv (chReq c).list.devices := hL.mono (fun q hq => ⟨by have := hq.1; omega, hq.2⟩) (fun _ _ h => ⟨h.len, h.eq⟩)
    have hOA : SlX IdKeyR 33 wA (fun q => q < wA.heap.size ∧ q ≠ b3 ∧ q ≠ b0) ov (chPres c 8) := hO.mono (fun q hq => ⟨by have := hq.1; omega, hq.2⟩) (fun _ _ h => ⟨h.len, h.eq⟩)
    clear hO
    refine k_loop (fun m ρ w' => ∃ (j : Nat) (iv : Value), ρ 0 = (.slice va c.length vc) ∧ ρ 2 = .pointer (some ⟨b0, 0, none⟩) ∧ ρ 3 = .pointer (some ⟨b3, 0, none⟩) ∧ ρ 4 = .int .i64 (j : Int) ∧ j ≤ nm c 9 % 3 ∧ m = nm c 9 % 3 - j ∧ Ext w w' ∧ SlR w' B (.slice va c.length vc) 1 c.length (bvs c) ∧ Bx w' b0 53 ([Value.int .u8 0, Value.int .i64 0, Value.int .i64 0, Value.string ByteArray.empty, Value.string ByteArray.empty, Value.string ByteArray.empty, Value.int .i64 0, Value.int .i64 0] ++ List.replicate 32 (Value.int .u8 0) ++ [Value.slice none 0 0] ++ List.replicate 96 (Value.int .u8 0) ++ [Value.int .i64 0] ++ List.replicate 96 (Value.int .u8 0) ++ [Value.slice none 0 0, Value.int .i64 0, Value.slice none 0 0] : List Value) ∧ Bx w' b3 53 (reqCells (chReq c) lv ov iv) ∧ SlX IdKeyR 33 w' (fun q => q < wA.heap.size ∧ q ≠ b3 ∧ q ≠ b0) lv (chReq c).list.devices ∧ SlX IdKeyR 33 w' (fun q => q < wA.heap.size ∧ q ≠ b3 ∧ q ≠ b0) ov (chPres c 8) ∧ OwnX (fun w' (_ : Nat → Prop) cs x => ItemR w' B cs x) 73 55 w' (New wA) iv ((List.range j).map (chItem c)) ∧ wA.heap.size ≤ w'.heap.size) (nm c 9 % 3) ⟨0, .slice none 0 0, rfl, rfl, rfl, rfl, by omega, rfl, hE, hb, hb0, hb3, hL, hOA, OwnX.nil, Nat.le_refl _⟩ ?_
    clear hb hb0 hb3 hE hL hOA
    rintro m ρ w1 ⟨j, iv, e0, e2, e3, e4, hj, rfl, hE, hb, hb0, hb3, hL, hO, hX, hsA⟩
    obtain ⟨σ, rfl⟩ : ∃ σ, ρ = upd (upd (upd (upd σ 0 (.slice va c.length vc)) 2 (.pointer (some ⟨b0, 0, none⟩))) 3 (.pointer (some ⟨b3, 0, none⟩))) 4 (.int .i64 (j : Int)) := ⟨ρ, by rw [upd_self ρ e0, upd_self ρ e2, upd_self ρ e3, upd_self ρ e4]⟩
    clear e0 e2 e3 e4
    refine k_seq ?_
    refine k_seq ?_
    refine k_region ?_
    refine kl_val (y_move) rfl rfl rfl ?_
    refine kl_val (y_move) rfl rfl rfl ?_
    refine kl_ow rfl (ow_call2 fn53 rfl rfl rfl rfl (number_c hb (i := 9) (by omega)) (kret_ret (fun u w2 ⟨hu, hE'⟩ => ?_)))
    subst hu
    have hn := nm_le (c := c) (i := 9) (by omega)
    replace hb := hb.keep hE' (fun _ _ h => h)
    replace hE := hE.trans hE'
    replace hb0 := hb0.keep hE' (fun h => h)
    replace hb3 := hb3.keep hE' (fun h => h)
    replace hL := hL.keep hE' (fun _ _ h => h) (fun _ _ h => ⟨h.len, h.eq⟩)
    replace hO := hO.keep hE' (fun _ _ h => h) (fun _ _ h => ⟨h.len, h.eq⟩)
    replace hX := hX.keep hE' (fun _ _ h => h) (fun cs x h => h.keep hE' (fun _ _ h => h))
    replace hsA := Nat.le_trans hsA hE'.size
    refine kl_val (Y.cast (v' := .int .i64 ((nm c 9 % 3 : Nat) : Int)) (y_rem' rfl rfl (by omega) (by omega)) (congrArg (Value.int .i64) (by omega))) rfl rfl rfl ?_
    refine kl_val (y_lss rfl rfl) rfl rfl rfl ?_
    refine kl_nil ?_
    refine x_seq ?_
    refine k_condp rfl (fun hlt => ?_) (fun hlt => ?_)
    · skip
      refine k_skip ?_
      refine x_seq ?_
      refine k_seq ?_
      refine k_block ?_
      refine k_regionD (S := fun w' => w'.cell? ((⟨b3, 0, none⟩ : Addr).add 236) = some iv) [14] [(0, true), (1, true), (2, true), (3, true), (4, true), (6, true), (7, true), (8, true), (5, false), (9, false), (10, true), (11, false), (12, false), (13, true), (14, false)] mixed (fun _ _ _ _ _ h => h) (by kernel_rfl) ?_
      have hE' : Ext w2 w2.drew := Fr.drew1 _ _
      have hS8 : w2.drew.cell? ((⟨b3, 0, none⟩ : Addr).add 236) = some iv := hE'.cell (hb3.cs.at (req_get (chReq_L c))) (fun h => h)
      replace hb : SlR w2.drew B _ 1 _ _ := hb.keep hE' (fun _ _ h => h)
      replace hE := hE.trans hE'
      replace hb0 := hb0.keep hE' (fun h => h)
      replace hb3 := hb3.keep hE' (fun h => h)
      replace hL := hL.keep hE' (fun _ _ h => h) (fun _ _ h => ⟨h.len, h.eq⟩)
      replace hO := hO.keep hE' (fun _ _ h => h) (fun _ _ h => ⟨h.len, h.eq⟩)
      replace hX := hX.keep hE' (fun _ _ h => h) (fun cs x h => h.keep hE' (fun _ _ h => h))
      replace hsA := Nat.le_trans hsA hE'.size
      refine kr_val rfl (hS8) (fun w' hS' => y_fieldAddr Try.underlying53 rfl I51 S51 rfl rfl) rfl rfl rfl ?_
      refine kr_val rfl (hS8) (fun w' hS' => y_load rfl (ld_one Try.underlying51 rfl hS')) rfl rfl rfl ?_
      refine kr_val rfl (hS8) (fun w' hS' => y_move) rfl rfl rfl ?_
      refine kr_val rfl (hS8) (fun w' hS' => y_move) rfl rfl rfl ?_
      refine kr_val rfl (hS8) (fun w' hS' => Y.cast (v' := .int .i64 ((10 + j : Nat) : Int)) (y_add64 rfl rfl (by omega)) (congrArg (Value.int .i64) (by omega))) rfl rfl rfl ?_
      refine kr_val rfl (hS8) (fun w' hS' => y_move) rfl rfl rfl ?_
      refine kr_val rfl (hS8) (fun w' hS' => y_move) rfl rfl rfl ?_
      refine kr_val rfl (hS8) (fun w' hS' => Y.cast (v' := .int .i64 ((11 + j : Nat) : Int)) (y_add64 rfl rfl (by omega)) (congrArg (Value.int .i64) (by omega))) rfl rfl rfl ?_
      refine kr_ow rfl rfl (ow_call2 fn53 rfl rfl rfl rfl (number_c hb (i := 10 + j) (by omega)) (kret_ret (fun u w3 ⟨hu, hE'⟩ => ?_)))
      subst hu
      have hn := nm_le (c := c) (i := 10 + j) (by omega)
      replace hb := hb.keep hE' (fun _ _ h => h)
      replace hE := hE.trans hE'
      replace hb0 := hb0.keep hE' (fun h => h)
      replace hb3 := hb3.keep hE' (fun h => h)
      replace hL := hL.keep hE' (fun _ _ h => h) (fun _ _ h => ⟨h.len, h.eq⟩)
      replace hO := hO.keep hE' (fun _ _ h => h) (fun _ _ h => ⟨h.len, h.eq⟩)
      replace hX := hX.keep hE' (fun _ _ h => h) (fun cs x h => h.keep hE' (fun _ _ h => h))
      replace hsA := Nat.le_trans hsA hE'.size
      replace hS8 := hE'.cell hS8 (fun h => h)
      refine ⟨(fun _ => hS8), ?_⟩
      refine kr_ow rfl rfl (ow_call2 fn12 rfl rfl rfl rfl (Envelope_c hb (fun q hq => by have := hB q hq; have := hE.size; omega) (i := 11 + j) (by omega)) (kret_ret (fun u w4 ⟨⟨cx, hu, hev⟩, hE'⟩ => ?_)))
      subst hu
      replace hb := hb.keep hE' (fun _ _ h => h)
      replace hE := hE.trans hE'
      replace hb0 := hb0.keep hE' (fun h => h)
      replace hb3 := hb3.keep hE' (fun h => h)
      replace hL := hL.keep hE' (fun _ _ h => h) (fun _ _ h => ⟨h.len, h.eq⟩)
      replace hO := hO.keep hE' (fun _ _ h => h) (fun _ _ h => ⟨h.len, h.eq⟩)
      replace hX := hX.keep hE' (fun _ _ h => h) (fun cs x h => h.keep hE' (fun _ _ h => h))
      replace hsA := Nat.le_trans hsA hE'.size
      replace hS8 := hE'.cell hS8 (fun h => h)
      obtain ⟨ev1, rfl, _, hee, heh⟩ := hev.open
      refine ⟨(fun _ => hS8), ?_⟩
      refine kr_val rfl (hS8) (fun w' hS' => y_build (cells := (([i64 (nm c (10 + j))] ++ envCells (chEnv c (11 + j)) ev1)).toArray) rfl (by kernel_rfl)) rfl rfl rfl ?_
      refine kr_ow rfl rfl (ow_slice1 Try.underlying51 I55 Z55 S55 rfl rfl (v := .agg (([i64 (nm c (10 + j))] ++ envCells (chEnv c (11 + j)) ev1)).toArray) rfl (by decide) (by decide) rfl (fun w5 b5 hb5 hf5 he5 hz5 => ?_))
      replace hb := hb.keep hf5 (fun _ _ h => h)
      replace hE := hE.trans hf5
      replace hb0 := hb0.keep hf5 (fun h => h)
      replace hb3 := hb3.keep hf5 (fun h => h)
      replace hL := hL.keep hf5 (fun _ _ h => h) (fun _ _ h => ⟨h.len, h.eq⟩)
      replace hO := hO.keep hf5 (fun _ _ h => h) (fun _ _ h => ⟨h.len, h.eq⟩)
      replace hX := hX.keep hf5 (fun _ _ h => h) (fun cs x h => h.keep hf5 (fun _ _ h => h))
      replace hsA := Nat.le_trans hsA hf5.size
      replace hS8 := hf5.cell hS8 (fun h => h)
      replace hev := hev.keep hf5 (fun _ _ h => h)
      refine ⟨(fun _ => hS8), ?_⟩
      refine kr_ow rfl rfl (ow_appendX Try.underlying51 I55 Z55 S55 rfl (by decide) (by rw [B55]; decide) rfl hX rfl (cs := ([i64 (nm c (10 + j))] ++ envCells (chEnv c (11 + j)) ev1)) (x := chItem c j) (bx_eq hb5 (by simp [Value.cells])) (by rw [List.length_append, env_len hee heh]; rfl) ((One'.single rfl).append hev.one) ⟨_, hev, rfl⟩ (fun q hq => Nat.le_trans hsA hq) (by simp; omega) rfl (fun v' w' hf hle cs x hR => hR.keep hf (fun q hq h => by have h2 := hX.new _ h; have := hB q hq; unfold New at h2; omega)) (fun iv' w6 hX' hf6 => ?_))
      have hno : ∀ q, ownB iv q → wA.heap.size ≤ q := fun q h => hX.new _ h
      replace hb := hb.keep hf6 (fun q hq h => by have := hno q h; have := hB q hq; omega)
      replace hb0 := hb0.keep hf6 (fun h => by have := hno _ h; omega)
      replace hb3 := hb3.keep hf6 (fun h => by have := hno _ h; omega)
      replace hL := hL.keep hf6 (fun q hq h => by have := hno q h; have := hq.1; omega) (fun _ _ h => ⟨h.len, h.eq⟩)
      replace hO := hO.keep hf6 (fun q hq h => by have := hno q h; have := hq.1; omega) (fun _ _ h => ⟨h.len, h.eq⟩)
      replace hS8 := hf6.cell hS8 (fun h => by have := hno _ h; exact absurd this (Nat.not_le.2 h3A))
      replace hE := hE.trans' hf6 (fun q hq h => by have := hno q h; omega)
      replace hsA := Nat.le_trans hsA hf6.size
      replace hX := hX'
      clear hno
      refine ⟨(fun _ => hS8), ?_⟩
      refine kr_val rfl (hS8) (fun w' hS' => y_fieldAddr Try.underlying53 rfl I51 S51 rfl rfl) rfl rfl rfl ?_
      refine kr_ow rfl rfl (ow_store (b := b3) (o := 236) I51 S51 rfl (v := iv') (xs := [iv']) rfl hb3 hX.one.2 rfl (by rw [req_len (chReq_L c)]; exact Nat.le_of_ble_eq_true rfl) (One'.single hX.one.1) (fun w7 hb7 hf7 hz7 => ?_))
      replace hb3 := bx_eq hb7 (req_items (chReq_L c))
      replace hb := hb.keep hf7 (fun q hq e => by have e' : q = b3 := e; have := hB q hq; omega)
      replace hb0 := hb0.keep hf7 (fun e => h03 e)
      replace hL := hL.keep hf7 (fun q hq e => hq.2.1 e) (fun _ _ h => ⟨h.len, h.eq⟩)
      replace hO := hO.keep hf7 (fun q hq e => hq.2.1 e) (fun _ _ h => ⟨h.len, h.eq⟩)
      replace hE := ext_store hE hf7 hwb.2
      replace hX := hX.keep hf7 (fun q hq e => by have e' : q = b3 := e; unfold New at hq; omega) (fun cs x h => h.keep hf7 (fun q hq e => by have e' : q = b3 := e; have := hB q hq; omega))
      replace hsA := Nat.le_trans hsA hf7.size
      refine ⟨(fun h => absurd h (by decide)), ?_⟩
      refine kr_nil ?_
      refine x_blk ?_
      refine x_seq ?_
      refine k_region ?_
      refine kl_val (y_move) rfl rfl rfl ?_
      refine kl_val (Y.cast (v' := .int .i64 ((j + 1 : Nat) : Int)) (y_add64 rfl rfl (by omega)) (congrArg (Value.int .i64) (by omega))) rfl rfl rfl ?_
      refine kl_val (y_assign) rfl rfl rfl ?_
      refine kl_nil ?_
      refine x_lpN (nm c 9 % 3 - (j + 1)) (by omega) ⟨j + 1, iv', rfl, rfl, rfl, rfl, by omega, rfl, hE, hb, hb0, hb3, hL, hO, by rw [← range_next]; exact hX, hsA⟩
    · skip
      obtain rfl : j = nm c 9 % 3 := by omega
      refine k_exit ?_
      refine x_seqX ?_
      refine x_lpX ?_
      refine x_blkX ?_
      refine x_seq ?_
      refine k_seq ?_
      refine k_region ?_
      refine kl_val (y_load rfl (ld_aggB Try.underlying53 rfl I53 S53 (req_len (chReq_L c)) hb3.cs)) rfl rfl rfl ?_
      refine kl_ow rfl (ow_store (b := b0) (o := 0) I53 S53 rfl (v := .agg (reqCells (chReq c) lv ov iv).toArray) (xs := reqCells (chReq c) lv ov iv) rfl hb0 rfl (req_len (chReq_L c)) (by rw [req_len (chReq_L c)]; simp) (req_one hL.one.1 hO.one.1 hX.one.1) (fun wg hbg hfg hzg => ?_))
      replace hb0 := bx_eq hbg (splice_all (by rw [req_len (chReq_L c)]; simp))
      replace hE := ext_store hE hfg hwb.1
      replace hL := hL.keep hfg (fun q hq e => hq.2.2 e) (fun _ _ h => ⟨h.len, h.eq⟩)
      replace hO := hO.keep hfg (fun q hq e => hq.2.2 e) (fun _ _ h => ⟨h.len, h.eq⟩)
      replace hX := hX.keep hfg (fun q hq e => by have e' : q = b0 := e; unfold New at hq; omega) (fun cs x h => h.keep hfg (fun q hq e => by have e' : q = b0 := e; have := hB q hq; omega))
      have hsg := hfg.size
      have hR : ReqR wg (fun b => b < wg.heap.size) (reqCells (chReq c) lv ov iv) (chReq c) := reqR_mk (chReq_L c) (by show nm c 0 % 15 < 256; omega) (hL.mono (fun q hq => by have := hq.1; omega) (fun _ _ h => ⟨h.len, h.eq⟩)) (hO.mono (fun q hq => by have := hq.1; omega) (fun _ _ h => ⟨h.len, h.eq⟩)) ((hX.sl (fun _ _ h => h)).conv (fun q hq => hq.2) (fun _ _ h => h.mono (fun q hq => by have := hB q hq; have := hE.size; omega)))
      refine kl_nil ?_
      refine x_seq ?_
      refine k_ret ?_
      exact k_retC rfl rfl (ld_aggB Try.underlying53 rfl I53 S53 (req_len (chReq_L c)) hb0.cs) ⟨_, rfl, ⟨_, rfl, hR⟩, hE⟩

end Go.Proofs.Ythpocekigliomaa.K
