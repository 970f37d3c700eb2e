/- What the laws draw of their bytes, as Lean functions; steps for it. No condition. -/
import Derived.Test.YthpocekigliomaaKL
import Derived.Test.YthpocekigliomaaKE
import Derived.Test.YthpocekigliomaaKQb
import Derived.Test.YthpocekigliomaaKWd
namespace Go.Proofs.Ythpocekigliomaa.K
open Go

theorem ow_sliceC {P : Program} {n : Nat} {ρ : Env} {k : Ks} {ds : List Deferred} {w : World} {ty : TypeId} {pos : String} {af : Array Edge} {g : Option (Nat × Bool)} {next : List Deferred → Env → World → Prop}
    {t : Tmp} {T : TypeId} {m : Nat} {l : List (Nat × Operand)} {ps : List (Nat × Value)} {cells : Array Value} {e : TypeId} {ti : TypeInfo} {z : Value} (hu : P.underlying T = some (.slice e)) (hi : P.info? e = some ti) (hz : ti.zero = some z) (hs : ti.size = 1)
    (hzs : z.cells.size = 1) (hp : l.map (fun p => (p.1, ev n ρ p.2)) = ps) (hf : Instr.fill (fun i => some (i * 1, 1)) ((Array.range (m * 1)).map (z.cells[· % 1]!)) ps = some cells) (hm : ¬ m = 0) (hb : m ≤ 16777216) (hdn : Nat.blt t n = true)
    (h : ∀ w' b, Bx w' b e cells.toList → Ext w w' → b = w.heap.size → w'.heap.size = w.heap.size + 1 → next ds (upd ρ t (.slice (some ⟨b, 0, none⟩) m m)) w') :
    OW P n k ⟨some t, .buildSlice T m l.toArray, ty, pos, af, g⟩ ds ρ w next := by
  refine ow_value (w' := w.alloc (.cells cells e)) (v := .slice (some ⟨w.heap.size, 0, none⟩) m m) ?_ rfl hdn (h _ _ (Bx.new _ _ _) (Fr.alloc1 _ _ _) rfl (by simp))
  have hnl : ¬ 16777216 < m := by omega
  simp only [execOp, Instr.buildSlice, underlying, hu, Sem.run_bind, run_program, Result.andThen_ok, Sem.run_pure, sizeOf, typeInfo, hi, hs, zeroValue]
  simp only [Nat.mul_one] at hf
  simp [hm, hnl, hz, hp, hzs, hf, newRow, hi]

/-! ### What is drawn -/
abbrev By := List UInt8
def pool (i : Nat) : Nat := ([127, 128, 16383, 16384, 1099511627775, 1099511627776] : List Nat).getD i 0
def nm (c : By) (i : Nat) : Nat :=
  if c.length = 0 then i else if 200 < (c.getD (i % c.length) 0).toNat then pool ((c.getD (i % c.length) 0).toNat % 6) else (c.getD (i % c.length) 0).toNat % 20
def keyOf (c : By) (i : Nat) : By := UInt8.ofNat (nm c i) :: UInt8.ofNat i :: List.replicate 30 0
def sigOf (c : By) (i : Nat) : By := UInt8.ofNat (nm c i) :: List.replicate 63 0
def chPre (c : By) (i j : Nat) : IdKey := ⟨nm c (i + j + 1), keyOf c (i + j + 2)⟩
def chPres (c : By) (i : Nat) : List IdKey := (List.range (nm c i % 4)).map (chPre c i)
def chDev (c : By) (j : Nat) : IdKey := ⟨nm c (6 + j), keyOf c (7 + j)⟩
def chList (c : By) : Lst := ⟨nm c 1, nm c 2, keyOf c 3, (List.range (nm c 5 % 5)).map (chDev c), sigOf c 4⟩
def chList0 (c : By) : Lst := ⟨nm c 1, nm c 2, keyOf c 3, [], sigOf c 4⟩
def chEnv (c : By) (i : Nat) : Env' :=
  ⟨nm c i, nm c (i + 1), decide (nm c (i + 2) % 2 = 1), keyOf c (i + 3), nm c (i + 4), ((min (nm c (i + 5)) 1099511627775 : Nat) : Int) - 1, ⟨keyOf c (i + 6), nm c (i + 7), nm c (i + 8)⟩, c.take (min c.length (nm c (i + 9) % 10))⟩

theorem pool_le (i : Nat) : pool i ≤ 1099511627776 := by
  unfold pool
  rcases (by omega : i = 0 ∨ i = 1 ∨ i = 2 ∨ i = 3 ∨ i = 4 ∨ i = 5 ∨ 6 ≤ i) with rfl | rfl | rfl | rfl | rfl | rfl | h
  any_goals decide
  rw [List.getD_eq_getElem?_getD, List.getElem?_eq_none (by simpa using h)]; decide
theorem nm_le {c : By} {i : Nat} (h : i ≤ 1000000) : nm c i ≤ 1099511627776 := by
  unfold nm
  split
  · omega
  · split
    · exact pool_le _
    · omega
theorem nm_Nn {c : By} {i : Nat} (h : i ≤ 1000000) : Nn (nm c i) := ⟨by omega, by have := nm_le (c := c) h; omega⟩
theorem keyOf_len (c : By) (i : Nat) : (keyOf c i).length = 32 := by simp [keyOf]
theorem byteNat (n : Nat) : Value.int .u8 (IntKind.u8.wrap (n : Int)) = bv (UInt8.ofNat n) := by
  rw [wrap8_mod]; unfold bv; congr 1
theorem wrapByte (b : UInt8) : IntKind.i64.wrap (b.toNat : Int) = (b.toNat : Int) := by
  have := b.toNat_lt; exact wrap64_eq (by omega) (by omega)
theorem SlR.bytes {w : World} {B : Nat → Prop} {v : Value} {c : By} (h : SlR w B v 1 c.length (bvs c)) {j : Nat} (hj : j < c.length) : ∃ a cap, v = .slice (some a) c.length cap ∧ w.cell? (a.add (j * 1)) = some (bv (c.getD j 0)) := by
  rcases h.2 with ⟨_, h0⟩ | ⟨a, cap, rfl, _, _, h3⟩
  · omega
  · refine ⟨a, cap, rfl, ?_⟩
    rw [Nat.mul_one]
    refine h3 j _ ?_
    simp [bvs, List.getElem?_eq_getElem hj, List.getD_eq_getElem?_getD]
theorem nm_pool {c : By} {i : Nat} (h0 : c.length ≠ 0) (h : 200 < (c.getD (i % c.length) 0).toNat) : nm c i = pool ((c.getD (i % c.length) 0).toNat % 6) := by unfold nm; rw [if_neg h0, if_pos h]
theorem nm_small {c : By} {i : Nat} (h0 : c.length ≠ 0) (h : ¬ 200 < (c.getD (i % c.length) 0).toNat) : nm c i = (c.getD (i % c.length) 0).toNat % 20 := by unfold nm; rw [if_neg h0, if_neg h]
theorem nm_zero {c : By} {i : Nat} (h0 : c.length = 0) : nm c i = i := by unfold nm; rw [if_pos h0]
def poolV : List Value := [.int .i64 127, .int .i64 128, .int .i64 16383, .int .i64 16384, .int .i64 1099511627775, .int .i64 1099511627776]
theorem pool_at {m : Nat} (h : m < 6) : poolV[m]? = some (.int .i64 (pool m : Int)) := by
  rcases (by omega : m = 0 ∨ m = 1 ∨ m = 2 ∨ m = 3 ∨ m = 4 ∨ m = 5) with rfl | rfl | rfl | rfl | rfl | rfl <;> rfl
/-! ### Envelopes and lists, field by field -/
def hdrCells (h : Hdr) : List Value := bvs h.ratchet ++ ([i64 h.prev] ++ [i64 h.n])
def envCells (x : Env') (v : Value) : List Value :=
  [i64 x.src] ++ ([i64 x.device] ++ ([.bool x.first] ++ (bvs x.eph ++ ([i64 x.signed] ++ ([i64 x.one] ++ (hdrCells x.head ++ [v]))))))
def chEnv0 (c : By) (i : Nat) : Env' := { chEnv c i with head := ⟨List.replicate 32 0, 0, 0⟩, body := [] }
def chEnv1 (c : By) (i : Nat) : Env' := { chEnv c i with body := [] }
theorem envR_mk {w : World} {B : Nat → Prop} {x : Env'} {v : Value} (h1 : x.eph.length = 32) (h2 : x.head.ratchet.length = 32) (h : SlR w B v 1 x.body.length (bvs x.body)) : EnvR w B (envCells x v) x :=
  ⟨h1, ⟨_, v, ⟨h2, rfl⟩, h, rfl⟩⟩
theorem hdr_len {h : Hdr} (hh : h.ratchet.length = 32) : (hdrCells h).length = 34 := by simp [hdrCells, hh]
theorem env_head {x : Env'} {v : Value} {h : Hdr} (h1 : x.eph.length = 32) (h2 : x.head.ratchet.length = 32) (h3 : h.ratchet.length = 32) : splice (envCells x v) 37 (hdrCells h) = envCells { x with head := h } v := by
  unfold envCells
  refine sp_next (a := 1) (o := 36) rfl (sp_next (a := 1) (o := 35) rfl (sp_next (a := 1) (o := 34) rfl (sp_next (a := 32) (o := 2) (by simp [h1]) (sp_next (a := 1) (o := 1) rfl (sp_next (a := 1) (o := 0) rfl (sp_here ?_))))))
  rw [hdr_len h2, hdr_len h3]
theorem env_body {x : Env'} {v v' : Value} (h1 : x.eph.length = 32) (h2 : x.head.ratchet.length = 32) : splice (envCells x v) 71 [v'] = envCells x v' := by
  unfold envCells
  exact sp_next (a := 1) (o := 70) rfl (sp_next (a := 1) (o := 69) rfl (sp_next (a := 1) (o := 68) rfl (sp_next (a := 32) (o := 36) (by simp [h1]) (sp_next (a := 1) (o := 35) rfl (sp_next (a := 1) (o := 34) rfl (sp_next (a := 34) (o := 0) (hdr_len h2) (sp_last rfl)))))))
theorem chEnv_eph (c : By) (i : Nat) : (chEnv c i).eph.length = 32 := keyOf_len _ _
theorem chEnv_head (c : By) (i : Nat) : (chEnv c i).head.ratchet.length = 32 := keyOf_len _ _
theorem SlR.cap {w : World} {B : Nat → Prop} {a : Option Addr} {cap sz n : Nat} {cs : List Value} (h : SlR w B (.slice a n cap) sz n cs) : n ≤ cap := by
  rcases h.2 with ⟨h, _⟩ | ⟨a, c, h, h1, _⟩
  · injection h; omega
  · injection h with _ _ h; omega
def lstCells (x : Lst) (v : Value) : List Value := [i64 x.account] ++ ([i64 x.version] ++ (bvs x.ident ++ ([v] ++ bvs x.sig)))
theorem sigOf_len (c : By) (i : Nat) : (sigOf c i).length = 64 := by simp [sigOf]
theorem lst_dev {x : Lst} {v v' : Value} (h : x.ident.length = 32) : splice (lstCells x v) 34 [v'] = lstCells x v' := by
  unfold lstCells
  exact sp_next (a := 1) (o := 33) rfl (sp_next (a := 1) (o := 32) rfl (sp_next (a := 32) (o := 0) (by simp [h]) (sp_here rfl)))
theorem lst_get {x : Lst} {v : Value} (h : x.ident.length = 32) : (lstCells x v)[34]? = some v :=
  pc_get (pc_drop (a := 1) (o := 33) rfl (pc_drop (a := 1) (o := 32) rfl (pc_drop (a := 32) (o := 0) (by simp [h]) (pc_take rfl))))
theorem lst_len {x : Lst} {v : Value} (h : x.ident.length = 32) (h' : x.sig.length = 64) : (lstCells x v).length = 99 := by simp [lstCells, h, h']
theorem lst_one {x : Lst} {v : Value} (hv : v.oneCell' = true) : One' (lstCells x v) :=
  (One'.single rfl).append ((One'.single rfl).append (One'.append (bvs_one _) ((One'.single hv).append (bvs_one _))))
/-! ### Equal or not -/
theorem eqT {p : Prop} [Decidable p] (h : p) : decide p = true := decide_eq_true h
theorem eqF {p : Prop} [Decidable p] (h : ¬ p) : decide p = false := decide_eq_false h
theorem beqT {a b : Bool} (h : a = b) : (a == b) = true := by subst h; simp
theorem beqF {a b : Bool} (h : ¬ a = b) : (a == b) = false := by cases a <;> cases b <;> simp_all
theorem baT {a b : By} (h : a = b) : decide ((⟨a.toArray⟩ : ByteArray) = ⟨b.toArray⟩) = true := by subst h; simp
theorem baF {a b : By} (h : ¬ a = b) : decide ((⟨a.toArray⟩ : ByteArray) = ⟨b.toArray⟩) = false := by
  refine decide_eq_false (fun e => h ?_)
  have := congrArg (fun z => z.data.toList) e
  simpa using this
theorem hdrT {a b : Hdr} (h : a = b) : (decide (a.ratchet = b.ratchet) && (decide (a.prev = b.prev) && (decide (a.n = b.n) && true))) = true := by subst h; simp
theorem hdrF {a b : Hdr} (h : ¬ a = b) : (decide (a.ratchet = b.ratchet) && (decide (a.prev = b.prev) && (decide (a.n = b.n) && true))) = false := by
  cases a; cases b; simp at h ⊢; exact h
theorem idkT {a b : IdKey} (h : a = b) : (decide (a.id = b.id) && (decide (a.key = b.key) && true)) = true := by subst h; simp
theorem idkF {a b : IdKey} (h : ¬ a = b) : (decide (a.id = b.id) && (decide (a.key = b.key) && true)) = false := by
  cases a; cases b; simp at h ⊢; exact h
theorem bv32 {l : By} (h : l.length = 32) : (bvs l).length = 32 := by simp [h]
theorem bv64 {l : By} (h : l.length = 64) : (bvs l).length = 64 := by simp [h]
theorem hd34 {h : Hdr} (hh : h.ratchet.length = 32) : (bvs h.ratchet ++ ([i64 h.prev] ++ [i64 h.n])).length = 34 := hdr_len hh
/-! ### One envelope after another -/
theorem pHdr_w {x : Hdr} (h : x.Ok) (r : By) : pHdr (wHdr x ++ r) = .ok (x, r) := by
  unfold pHdr wHdr
  simp only [List.append_assoc]
  rw [pBind_ok (pTake_app h.ratchet), pBind_ok (pN_numI h.prev.1 h.prev.2), pBind_ok (pN_numI h.n.1 h.n.2), toNat' h.prev, toNat' h.n]
  rfl
theorem pEnv_w {x : Env'} (h : x.Ok) (r : By) : pEnv (wEnv x ++ r) = .ok (x, r) := by
  have e : min x.one 1099511627775 + 1 = x.one + 1 := by have := h.one.2; omega
  unfold pEnv wEnv
  rw [e]
  simp only [List.append_assoc]
  rw [pBind_ok (pN_numI h.src.1 h.src.2), pBind_ok (pN_numI h.device.1 h.device.2), pBind_ok pTruth_w, pBind_ok (pTake_app h.eph), pBind_ok (pN_numI h.signed.1 h.signed.2), pBind_ok (pN_numI h.one.1 h.one.2),
    pBind_ok (pHdr_w h.head _), pBind_ok (pText_w h.body), toNat' h.src, toNat' h.device, toNat' h.signed, toNat' h.one, show x.one + 1 - 1 = x.one by omega]
  rfl
theorem wEnv_inj {x y : Env'} (hx : x.Ok) (hy : y.Ok) (h : wEnv x = wEnv y) : x = y := by
  have h1 := pEnv_w hx []
  rw [h, pEnv_w hy []] at h1
  injection h1 with h1
  injection h1 with h1 _
  exact h1.symm
theorem wEnv_len {x : Env'} (h : x.Ok) : (wEnv x).length ≤ 61000 := by
  have h1 := numI_length x.src
  have h2 := numI_length x.device
  have h3 := wTruth_length x.first
  have h4 := h.eph
  have h5 := numI_length x.signed
  have h6 := numI_length (min x.one 1099511627775 + 1)
  have h7 := wText_length x.body
  have h8 := numI_length x.head.prev
  have h9 := numI_length x.head.n
  have ha := h.head.ratchet
  have hb := h.body
  simp only [wEnv, wHdr, List.length_append]
  omega
theorem beq_env {x y : Env'} {b : Bool} (hx : x.Ok) (hy : y.Ok) (h : b = true ↔ x = y) : (decide ((⟨(wEnv x).toArray⟩ : ByteArray) = ⟨(wEnv y).toArray⟩) == b) = true := by
  by_cases e : x = y
  · subst e; rw [h.2 rfl]; simp
  · have hb : b = false := by cases b with
      | false => rfl
      | true => exact absurd (h.1 rfl) e
    rw [hb, baF (fun e' => e (wEnv_inj hx hy e'))]; rfl
theorem chEnv_ok (c : By) {i : Nat} (h : i ≤ 1000) : (chEnv c i).Ok := by
  refine ⟨nm_Nn (by omega), nm_Nn (by omega), keyOf_len _ _, nm_Nn (by omega), ?_, ⟨keyOf_len _ _, nm_Nn (by omega), nm_Nn (by omega)⟩, ?_⟩
  · have := nm_le (c := c) (i := i + 5) (by omega)
    constructor <;> (show _ ≤ _; simp only [chEnv]; omega)
  · simp only [chEnv, List.length_take]; omega
theorem chEnv_body (c : By) (i : Nat) : (chEnv c i).body.length ≤ 9 := by simp only [chEnv, List.length_take]; omega
theorem EnvR.open {w : World} {B : Nat → Prop} {cx : List Value} {x : Env'} (h : EnvR w B cx x) : ∃ v, cx = envCells x v ∧ SlR w B v 1 x.body.length (bvs x.body) ∧ x.eph.length = 32 ∧ x.head.ratchet.length = 32 := by
  obtain ⟨h1, hc, v, ⟨h2, rfl⟩, h3, rfl⟩ := h
  exact ⟨v, rfl, h3, h1, h2⟩
theorem env_len {x : Env'} {v : Value} (h1 : x.eph.length = 32) (h2 : x.head.ratchet.length = 32) : (envCells x v).length = 72 := by simp [envCells, hdrCells, h1, h2]
theorem env_src {x : Env'} {v : Value} (s : Int) : splice (envCells x v) 0 [i64 s] = envCells { x with src := s } v := sp_here rfl
theorem env_first {x : Env'} {v : Value} (s : Bool) : splice (envCells x v) 2 [.bool s] = envCells { x with first := s } v :=
  sp_next (a := 1) (o := 1) rfl (sp_next (a := 1) (o := 0) rfl (sp_here rfl))
theorem env_one {x : Env'} {v : Value} (h : x.eph.length = 32) (s : Int) : splice (envCells x v) 36 [i64 s] = envCells { x with one := s } v :=
  sp_next (a := 1) (o := 35) rfl (sp_next (a := 1) (o := 34) rfl (sp_next (a := 1) (o := 33) rfl (sp_next (a := 32) (o := 1) (by simp [h]) (sp_next (a := 1) (o := 0) rfl (sp_here rfl)))))
theorem sp_left {p q xs r : List Value} {o : Nat} (h : o + xs.length ≤ p.length) (hp : splice p o xs = r) : splice (p ++ q) o xs = r ++ q := by
  subst hp
  unfold splice
  rw [List.take_append_of_le_length (by omega), List.drop_append_of_le_length (by omega)]
  simp only [List.append_assoc]
theorem env_n {x : Env'} {v : Value} (h : x.eph.length = 32) (h' : x.head.ratchet.length = 32) (s : Int) : splice (envCells x v) 70 [i64 s] = envCells { x with head := { x.head with n := s } } v :=
  sp_next (a := 1) (o := 69) rfl (sp_next (a := 1) (o := 68) rfl (sp_next (a := 1) (o := 67) rfl (sp_next (a := 32) (o := 35) (by simp [h]) (sp_next (a := 1) (o := 34) rfl (sp_next (a := 1) (o := 33) rfl
    (sp_left (by rw [hdr_len h']; exact Nat.le_refl _) (sp_next (a := 32) (o := 1) (by simp [h']) (sp_next (a := 1) (o := 0) rfl (sp_last rfl)))))))))
theorem env_eph {x : Env'} {v : Value} (h : x.eph.length = 32) (b : UInt8) {j : Nat} (hj : j < 32) : splice (envCells x v) (3 + j) [bv b] = envCells { x with eph := x.eph.set j b } v := by
  rw [show 3 + j = 1 + (1 + (1 + j)) by omega]
  refine sp_next (a := 1) rfl (sp_next (a := 1) rfl (sp_next (a := 1) rfl (sp_left (by simp [h]; omega) ?_)))
  unfold splice
  show _ = bvs (x.eph.set j b)
  have hj' : j < x.eph.length := by omega
  rw [List.set_eq_take_append_cons_drop, if_pos hj']
  simp [bvs]
theorem env_eph_get {x : Env'} {v : Value} (h : x.eph.length = 32) {j : Nat} (hj : j < 32) : (envCells x v)[3 + j]? = some (bv (x.eph.getD j 0)) := by
  have hj' : j < x.eph.length := by omega
  rw [show 3 + j = j + 1 + 1 + 1 by omega]
  show (bvs x.eph ++ _)[j]? = _
  rw [List.getElem?_append_left (by simpa using hj')]
  simp [bvs, hj']
theorem addr0 (b o : Nat) : (⟨b, 0, none⟩ : Addr).add o = ⟨b, o, none⟩ := by
  simp [Addr.add]
  exact fun h => h.symm
theorem addr3 (b o : Nat) : ((⟨b, 0, none⟩ : Addr).add 3).add o = ⟨b, 3 + o, none⟩ := by
  rw [addr0]; unfold Addr.add; simp
theorem env_n_get {x : Env'} {v : Value} (h : x.eph.length = 32) (h' : x.head.ratchet.length = 32) : ((envCells x v).drop 70).take 1 = [i64 x.head.n] := by
  have e : envCells x v = [i64 x.src] ++ ([i64 x.device] ++ ([.bool x.first] ++ (bvs x.eph ++ ([i64 x.signed] ++ ([i64 x.one] ++ (bvs x.head.ratchet ++ ([i64 x.head.prev] ++ ([i64 x.head.n] ++ [v])))))))) := by simp [envCells, hdrCells]
  rw [e]
  exact pc_drop (a := 1) (o := 69) rfl (pc_drop (a := 1) (o := 68) rfl (pc_drop (a := 1) (o := 67) rfl (pc_drop (a := 32) (o := 35) (bv32 h) (pc_drop (a := 1) (o := 34) rfl (pc_drop (a := 1) (o := 33) rfl (pc_drop (a := 32) (o := 1) (bv32 h') (pc_drop (a := 1) (o := 0) rfl (pc_take rfl))))))))
theorem byte_inc (b : UInt8) : Value.int .u8 (IntKind.u8.wrap ((b.toNat : Int) + 1)) = bv (b + 1) := by
  rw [wrap8_mod]; unfold bv; congr 1
theorem ow_appendR {P : Program} {n : Nat} {ρ : Env} {k : Ks} {ds : List Deferred} {w : World} {ty : TypeId} {pos : String} {af : Array Edge} {g : Option (Nat × Bool)} {next : List Deferred → Env → World → Prop}
    {t : Tmp} {s x : Operand} {T : TypeId} {e : TypeId} {ti : TypeInfo} {z : Value} {size : Nat} (ht : P.underlying T = some (.slice e)) (hi : P.info? e = some ti) (hz : ti.zero = some z)
    (hsize : ti.size = size) (hzs : z.cells.size = size) (hsz : 0 < size) (hbytes : ti.bytes ≤ 100000) {v u : Value} {m j : Nat} {xs cs : List Value} (hs : ev n ρ s = v) (hown : w.ownsRow 0 e size v m xs)
    {B : Nat → Prop} (hx : ev n ρ x = u) (hr : SlR w B u size j cs) (h1 : One' cs) (h63 : m + j ≤ 1000000000) (hdn : Nat.blt t n = true)
    (h : ∀ v' w', w'.ownsRow 0 e size v' (m + j) (xs ++ cs) → Fr (ownB v) w w' → (v'.ownBlock = v.ownBlock ∨ ∀ b, ownB v' b → w.heap.size ≤ b) → next ds (upd ρ t v') w') :
    OW P n k ⟨some t, .call { callee := .builtin .append, args := #[s, x], argTypes := #[T, T] }, ty, pos, af, g⟩ ds ρ w next := by
  rcases hr.2 with ⟨rfl, rfl⟩ | ⟨a, cap, rfl, _, _, h3⟩
  · have hcs : cs = [] := by have := hr.1; simpa using this
    subst hcs
    have hr := run_append_owned_none (P := P) (w := w) 0 T ty e ti size ht hi v m xs hown
    have hrun : (execOp (ev n ρ) ⟨some t, .call { callee := .builtin .append, args := #[s, x], argTypes := #[T, T] }, ty, pos, af, g⟩).run P w = .ok (.value v) w := by
      simp only [execOp, resolve, invoke, builtin, Sem.run_bind, Sem.run_pure, Result.andThen_ok, List.map_toArray, List.map_cons, List.map_nil, hs, hx, hr]
    exact ow_value hrun rfl hdn (h v w (by simpa using hown) (Fr.refl _ _) (.inl rfl))
  · exact ow_append ht hi hz hsize hzs hsz hbytes hs hown hx hr.1 h3 h1 h63 hdn (fun v' w' g1 g2 g3 _ => h v' w' g1 g2 g3)
theorem OwnX.one {X : Type} {R : World → (Nat → Prop) → List Value → X → Prop} {sz : Nat} {e : TypeId} {w : World} {B : Nat → Prop} {v : Value} {xs : List X} (h : OwnX R sz e w B v xs) : v.oneCell' = true ∧ v.cells = #[v] := by
  obtain ⟨css, h1, _⟩ := h.ex
  exact (SlR.ofOwn (B := fun _ => True) h1 (fun _ _ => trivial)).one
theorem range_next {X : Type} (f : Nat → X) (j : Nat) : (List.range j).map f ++ [f j] = (List.range (j + 1)).map f := by rw [List.range_succ, List.map_append]; rfl
theorem idk_one (i : Int) (k : By) : One' ([i64 i] ++ bvs k) := (One'.single rfl).append (bvs_one _)
theorem SlX.conv {X : Type} {R R2 : World → (Nat → Prop) → List Value → X → Prop} {sz : Nat} {w : World} {B B' : Nat → Prop} {v : Value} {xs : List X} (h : SlX R sz w B v xs) (hB : ∀ b, B b → B' b) (hR : ∀ cs x, R w B cs x → R2 w B' cs x) : SlX R2 sz w B' v xs := by
  obtain ⟨css, h1, h2, h3⟩ := h.ex
  exact ⟨css, h1.mono hB, h2, fun i x cs hx hc => ⟨(h3 i x cs hx hc).1, hR _ _ (h3 i x cs hx hc).2⟩⟩
theorem LstR.open {w : World} {B : Nat → Prop} {cx : List Value} {x : Lst} (h : LstR w B cx x) : ∃ v, cx = lstCells x v ∧ SlX IdKeyR 33 w B v x.devices ∧ x.ident.length = 32 ∧ x.sig.length = 64 := by
  obtain ⟨h1, h2, v, h3, rfl⟩ := h
  exact ⟨v, rfl, h3, h1, h2⟩
/-! ### Requests, field by field -/
def idkCells (k : IdKey) : List Value := [i64 k.id] ++ bvs k.key
def reqCells (x : Req) (lv ov iv : Value) : List Value :=
  [.int .u8 x.kind] ++ ([i64 x.account] ++ ([i64 x.device] ++ ([.string x.pin] ++ ([.string x.next] ++ ([.string x.name] ++ (lstCells x.list lv ++ (bvs x.token ++ (idkCells x.signed ++ (bvs x.sig ++ ([ov] ++ ([i64 x.version] ++ [iv])))))))))))
structure ReqL (x : Req) : Prop where
  i : x.list.ident.length = 32
  g : x.list.sig.length = 64
  t : x.token.length = 32
  k : x.signed.key.length = 32
  s : x.sig.length = 64
theorem idk_len {k : IdKey} (h : k.key.length = 32) : (idkCells k).length = 33 := by simp [idkCells, h]
theorem req_len {x : Req} {lv ov iv : Value} (h : ReqL x) : (reqCells x lv ov iv).length = 237 := by
  simp [reqCells, lst_len h.i h.g, idk_len h.k, h.t, h.s]
theorem req_one {x : Req} {lv ov iv : Value} (h1 : lv.oneCell' = true) (h2 : ov.oneCell' = true) (h3 : iv.oneCell' = true) : One' (reqCells x lv ov iv) :=
  (One'.single rfl).append ((One'.single rfl).append ((One'.single rfl).append ((One'.single rfl).append ((One'.single rfl).append ((One'.single rfl).append ((lst_one h1).append (One'.append (bvs_one _) ((idk_one _ _).append (One'.append (bvs_one _) ((One'.single h2).append ((One'.single rfl).append (One'.single h3)))))))))))) 
theorem sp6 {c0 c1 c2 c3 c4 c5 : Value} {q r xs : List Value} {o : Nat} (h : splice q o xs = r) :
    splice ([c0] ++ ([c1] ++ ([c2] ++ ([c3] ++ ([c4] ++ ([c5] ++ q)))))) (6 + o) xs = [c0] ++ ([c1] ++ ([c2] ++ ([c3] ++ ([c4] ++ ([c5] ++ r))))) := by
  rw [show 6 + o = 1 + (1 + (1 + (1 + (1 + (1 + o))))) by omega]
  exact sp_next rfl (sp_next rfl (sp_next rfl (sp_next rfl (sp_next rfl (sp_next rfl h)))))
theorem req_signed {x : Req} {lv ov iv : Value} (h : ReqL x) {k : IdKey} (hk : k.key.length = 32) : splice (reqCells x lv ov iv) 137 (idkCells k) = reqCells { x with signed := k } lv ov iv :=
  sp6 (o := 131) (sp_next (a := 99) (o := 32) (lst_len h.i h.g) (sp_next (a := 32) (o := 0) (bv32 h.t) (sp_here (by rw [idk_len h.k, idk_len hk]))))
theorem req_sig {x : Req} {lv ov iv : Value} (h : ReqL x) {g : By} (hg : g.length = 64) : splice (reqCells x lv ov iv) 170 (bvs g) = reqCells { x with sig := g } lv ov iv :=
  sp6 (o := 164) (sp_next (a := 99) (o := 65) (lst_len h.i h.g) (sp_next (a := 32) (o := 33) (bv32 h.t) (sp_next (a := 33) (o := 0) (idk_len h.k) (sp_here (by simp [h.s, hg])))))
theorem req_ones {x : Req} {lv ov ov' iv : Value} (h : ReqL x) : splice (reqCells x lv ov iv) 234 [ov'] = reqCells x lv ov' iv :=
  sp6 (o := 228) (sp_next (a := 99) (o := 129) (lst_len h.i h.g) (sp_next (a := 32) (o := 97) (bv32 h.t) (sp_next (a := 33) (o := 64) (idk_len h.k) (sp_next (a := 64) (o := 0) (bv64 h.s) (sp_here rfl)))))
theorem req_items {x : Req} {lv ov iv iv' : Value} (h : ReqL x) : splice (reqCells x lv ov iv) 236 [iv'] = reqCells x lv ov iv' :=
  sp6 (o := 230) (sp_next (a := 99) (o := 131) (lst_len h.i h.g) (sp_next (a := 32) (o := 99) (bv32 h.t) (sp_next (a := 33) (o := 66) (idk_len h.k) (sp_next (a := 64) (o := 2) (bv64 h.s) (sp_next (a := 1) (o := 1) rfl (sp_next (a := 1) (o := 0) rfl (sp_last rfl)))))))
theorem req_get {x : Req} {lv ov iv : Value} (h : ReqL x) : (reqCells x lv ov iv)[236]? = some iv :=
  pc_get (pc_drop (a := 1) (o := 235) rfl (pc_drop (a := 1) (o := 234) rfl (pc_drop (a := 1) (o := 233) rfl (pc_drop (a := 1) (o := 232) rfl (pc_drop (a := 1) (o := 231) rfl (pc_drop (a := 1) (o := 230) rfl
    (pc_drop (a := 99) (o := 131) (lst_len h.i h.g) (pc_drop (a := 32) (o := 99) (bv32 h.t) (pc_drop (a := 33) (o := 66) (idk_len h.k) (pc_drop (a := 64) (o := 2) (bv64 h.s) (pc_drop (a := 1) (o := 1) rfl (pc_drop (a := 1) (o := 0) rfl (pc_last rfl)))))))))))))
def chItem (c : By) (j : Nat) : Item' := ⟨nm c (10 + j), chEnv c (11 + j)⟩
def z32 : By := List.replicate 32 0
def z64 : By := List.replicate 64 0
def pinOf (c : By) : ByteArray := ⟨(c.take (min c.length 3)).toArray⟩
def chReq (c : By) : Req :=
  ⟨nm c 0 % 15, nm c 1, nm c 2, pinOf c, ByteArray.empty, ⟨#[97]⟩, chList c, keyOf c 3, ⟨nm c 5, keyOf c 6⟩, sigOf c 7, chPres c 8, nm c 4, (List.range (nm c 9 % 3)).map (chItem c)⟩
def chReq0 (c : By) : Req := { chReq c with signed := ⟨0, z32⟩, sig := z64 }
def chReq1 (c : By) : Req := { chReq c with sig := z64 }
theorem chReq_L (c : By) : ReqL (chReq c) := ⟨keyOf_len _ _, sigOf_len _ _, keyOf_len _ _, keyOf_len _ _, sigOf_len _ _⟩
theorem chReq0_L (c : By) : ReqL (chReq0 c) := ⟨keyOf_len _ _, sigOf_len _ _, keyOf_len _ _, by simp [chReq0, z32], by simp [chReq0, z64]⟩
theorem chReq1_L (c : By) : ReqL (chReq1 c) := ⟨keyOf_len _ _, sigOf_len _ _, keyOf_len _ _, keyOf_len _ _, by simp [chReq1, z64]⟩
theorem reqR_mk {w : World} {B : Nat → Prop} {x : Req} {lv ov iv : Value} (h : ReqL x) (hk : x.kind < 256) (hl : SlX IdKeyR 33 w B lv x.list.devices) (ho : SlX IdKeyR 33 w B ov x.ones) (hi : SlX ItemR 73 w B iv x.items) : ReqR w B (reqCells x lv ov iv) x :=
  ⟨h.t, h.s, hk, ⟨_, _, ov, iv, ⟨h.i, h.g, ⟨lv, hl, rfl⟩⟩, ⟨h.k, rfl⟩, ho, hi, rfl⟩⟩
theorem SlR.toB {w : World} {B : Nat → Prop} {va : Option Addr} {vc : Nat} {c : By} (h : SlR w B (.slice va c.length vc) 1 c.length (bvs c)) (n : Nat) (hn : n ≤ c.length) : SlR w B (.slice va n vc) 1 (c.take n).length (bvs (c.take n)) := (h.take n hn).2
end Go.Proofs.Ythpocekigliomaa.K
