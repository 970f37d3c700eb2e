/- The reader of bytes: what it answers as Lean functions; its struct; slices that a call collects. No condition. -/
import Derived.Test.YthpocekigliomaaKD
namespace Go.Proofs.Ythpocekigliomaa.K
open Go

/-! ### What bytes tell -/
abbrev PR (X : Type) := List UInt8 → Except Nat (X × List UInt8)
def pBind {X Z : Type} (a : PR X) (f : X → PR Z) : PR Z := fun bs =>
  match a bs with
  | .ok (x, r) => f x r
  | .error e => .error e
def pPure {X : Type} (x : X) : PR X := fun bs => .ok (x, bs)
theorem pBind_ok {X Z : Type} {a : PR X} {f : X → PR Z} {bs r : List UInt8} {x : X} (h : a bs = .ok (x, r)) : pBind a f bs = f x r := by simp [pBind, h]
theorem pBind_err {X Z : Type} {a : PR X} {f : X → PR Z} {bs : List UInt8} {e : Nat} (h : a bs = .error e) : pBind a f bs = .error e := by simp [pBind, h]
def pTake (n : Nat) : PR (List UInt8) := fun bs => if bs.length < n then .error 10 else .ok (bs.take n, bs.drop n)
def pNumFrom (most : Nat) : Nat → Nat → Nat → PR Nat
  | 0, _, _ => fun _ => .error 11
  | k + 1, i, n => fun bs => match bs with
    | [] => .error 10
    | b :: r => if 128 ≤ b.toNat then pNumFrom most k (i + 1) (n + b.toNat % 128 * 128 ^ i) r
      else if (b.toNat = 0 ∧ 0 < i) ∨ most < n + b.toNat % 128 * 128 ^ i then .error 11 else .ok (n + b.toNat % 128 * 128 ^ i, r)
def pNum (most : Nat) : PR Nat := pNumFrom most 6 0 0
def pN : PR Nat := pNum 1099511627776
def pText : PR (List UInt8) := pBind (pNum 60000) pTake
def pTruth : PR Bool := pBind (pTake 1) fun b bs => if 1 < (b.headD 0).toNat then .error 11 else .ok (b.headD 0 == 1, bs)
def pAllN {X : Type} (get : PR X) : Nat → PR (List X)
  | 0 => pPure []
  | n + 1 => pBind get fun x => pBind (pAllN get n) fun xs => pPure (x :: xs)
def pAll {X : Type} (get : PR X) : PR (List X) := pBind (pNum 60000) (pAllN get)
def pIdKey : PR IdKey := pBind pN fun i => pBind (pTake 32) fun k => pPure ⟨i, k⟩
def pHdr : PR Hdr := pBind (pTake 32) fun k => pBind pN fun p => pBind pN fun n => pPure ⟨k, p, n⟩
def pEnv : PR Env' := pBind pN fun f => pBind pN fun d => pBind pTruth fun t => pBind (pTake 32) fun e => pBind pN fun s => pBind pN fun o => pBind pHdr fun h => pBind pText fun b =>
  pPure ⟨f, d, t, e, s, (o : Int) - 1, h, b⟩
def pItem : PR Item' := pBind pN fun d => pBind pEnv fun e => pPure ⟨d, e⟩
def pLst : PR Lst := pBind pN fun a => pBind pN fun v => pBind (pTake 32) fun i => pBind (pAll pIdKey) fun d => pBind (pTake 64) fun s => pPure ⟨a, v, i, d, s⟩
def pBdl : PR Bdl := pBind pN fun a => pBind pN fun d => pBind (pTake 32) fun i => pBind (pTake 32) fun k => pBind pIdKey fun s => pBind (pTake 64) fun g => pBind (pAll pIdKey) fun o => pPure ⟨a, d, i, k, s, g, o⟩
def pSlot : PR Slot' := pBind pN fun d => pBind pIdKey fun s => pBind (pTake 64) fun g => pBind (pAll pIdKey) fun o => pBind pN fun l => pBind (pAll pEnv) fun m => pPure ⟨d, s, g, o, l, m⟩
def bytesOf (l : List UInt8) : ByteArray := ⟨l.toArray⟩
def pReq : PR Req := pBind (pNum 255) fun k => pBind pN fun a => pBind pN fun d => pBind pText fun p => pBind pText fun x => pBind pText fun m => pBind pLst fun l => pBind (pTake 32) fun t =>
  pBind pIdKey fun s => pBind (pTake 64) fun g => pBind (pAll pIdKey) fun o => pBind pN fun v => pBind (pAll pItem) fun i => pPure ⟨k, a, d, bytesOf p, bytesOf x, bytesOf m, l, t, s, g, o, v, i⟩
def pRsp : PR Rsp := pBind (pNum 255) fun e => pBind pLst fun l => pBind pBdl fun b => pBind (pAll pEnv) fun m => pPure ⟨e, l, b, m⟩
def pAcct : PR Acct := pBind pN fun i => pBind pText fun p => pBind pN fun w => pBind pN fun u => pBind pLst fun l => pBind (pAll pSlot) fun s => pBind (pAll (pTake 32)) fun t => pPure ⟨i, bytesOf p, w, u, l, s, t⟩
def pUsr : PR Usr := pBind pText fun n => pBind pN fun a => pBind pTruth fun s => pPure ⟨bytesOf n, a, s⟩
def pUsers : PR (List Usr) := pAll pUsr
/-- All bytes, and no more. -/
def pWhole {X : Type} (get : PR X) (bs : List UInt8) : Except Nat X :=
  if 60000 < bs.length then .error 3 else
  match get bs with
  | .error e => .error e
  | .ok (x, r) => if r = [] then .ok x else .error 11

/-! ### The reader's struct -/
structure Rd (w : World) (B : Nat → Prop) (p : Addr) (v : Value) (bs : List UInt8) : Prop where
  cell : w.cell? p = some v
  free : w.frozen? p = false
  sl : SlR w B v 1 bs.length (bvs bs)
  old : ∀ b, B b → b < p.block
  len : bs.length ≤ 60000
theorem Rd.no {w : World} {B : Nat → Prop} {p : Addr} {v : Value} {bs : List UInt8} (h : Rd w B p v bs) : ∀ b, B b → ¬ b = p.block := fun b hb => by have := h.old b hb; omega
theorem Rd.lt {w : World} {B : Nat → Prop} {p : Addr} {v : Value} {bs : List UInt8} (h : Rd w B p v bs) : p.block < w.heap.size := World.block_lt_of_cell? w p h.cell
theorem Rd.keep {S : Nat → Prop} {w w' : World} {B : Nat → Prop} {p : Addr} {v : Value} {bs : List UInt8} (h : Rd w B p v bs) (hf : Fr S w w') (hp : ¬ S p.block) (hn : ∀ b, B b → ¬ S b) : Rd w' B p v bs :=
  ⟨hf.cell h.cell hp, by rw [hf.frozen h.lt hp]; exact h.free, h.sl.keep hf hn, h.old, h.len⟩
theorem Rd.ext {w w' : World} {B : Nat → Prop} {p : Addr} {v : Value} {bs : List UInt8} (h : Rd w B p v bs) (hf : Ext w w') : Rd w' B p v bs := h.keep hf (fun h => h) (fun _ _ h => h)
/-- The reader's field is written anew. -/
theorem Rd.set {w : World} {B : Nat → Prop} {p : Addr} {v v' : Value} {bs bs' : List UInt8} (h : Rd w B p v bs) (hs : SlR w B v' 1 bs'.length (bvs bs')) (hl : bs'.length ≤ bs.length) :
    Rd (w.setCell p v') B p v' bs' ∧ Fr (· = p.block) w (w.setCell p v') := by
  have hset : Fr (· = p.block) w (w.setCell p v') := (Fr.refl _ _).setCell p v' (fun _ => rfl)
  exact ⟨⟨World.cell?_setCell_same w p v' h.cell, by rw [World.frozen?_setCell]; exact h.free, hs.keep hset h.no, h.old, Nat.le_trans hl h.len⟩, hset⟩
theorem SlR.take {w : World} {B : Nat → Prop} {a : Option Addr} {cap : Nat} {bs : List UInt8} (h : SlR w B (.slice a bs.length cap) 1 bs.length (bvs bs)) (n : Nat) (hn : n ≤ bs.length) :
    n ≤ cap ∧ SlR w B (.slice a n cap) 1 (bs.take n).length (bvs (bs.take n)) := by
  have hl : (bs.take n).length = n := by simp; omega
  rcases h.2 with ⟨e, h0⟩ | ⟨a', cap', e, h1, h2, h3⟩
  · simp only [Value.slice.injEq] at e
    obtain ⟨rfl, hb, rfl⟩ := e
    have : n = 0 := by omega
    subst this
    exact ⟨Nat.le_refl _, by simp [bvs], .inl ⟨by simp, by simp⟩⟩
  · simp only [Value.slice.injEq] at e
    obtain ⟨rfl, -, rfl⟩ := e
    refine ⟨by omega, by rw [bvs_length]; omega, .inr ⟨a', cap, by rw [hl], by omega, h2, fun j v hj => h3 j v ?_⟩⟩
    simp only [bvs, List.map_take, List.getElem?_take] at hj ⊢
    split at hj
    · exact hj
    · cases hj
theorem SlR.drop {w : World} {B : Nat → Prop} {a : Option Addr} {cap : Nat} {bs : List UInt8} (h : SlR w B (.slice a bs.length cap) 1 bs.length (bvs bs)) (n : Nat) (hn : n ≤ bs.length) :
    SlR w B (.slice (if cap = n then a else a.map (·.add (n * 1))) (bs.length - n) (cap - n)) 1 (bs.drop n).length (bvs (bs.drop n)) := by
  have hl : (bs.drop n).length = bs.length - n := by simp
  rcases h.2 with ⟨e, h0⟩ | ⟨a', cap', e, h1, h2, h3⟩
  · simp only [Value.slice.injEq] at e
    obtain ⟨rfl, hb, rfl⟩ := e
    have : n = 0 := by omega
    subst this
    have hb' : bs = [] := List.eq_nil_of_length_eq_zero hb
    subst hb'
    exact ⟨by simp [bvs], .inl ⟨by simp, by simp⟩⟩
  · simp only [Value.slice.injEq] at e
    obtain ⟨rfl, -, rfl⟩ := e
    refine ⟨by rw [bvs_length]; omega, ?_⟩
    by_cases hc : cap = n
    · subst hc
      have hb0 : bs.drop cap = [] := List.drop_of_length_le (by omega)
      exact .inr ⟨a', cap - cap, by simp, by rw [hl]; omega, h2, by rw [hb0]; exact Cs.nil _ _⟩
    · refine .inr ⟨a'.add n, cap - n, by simp [hc], by rw [hl]; omega, by rw [add_block]; exact h2, fun j v hj => ?_⟩
      rw [add_add]
      refine h3 (n + j) v ?_
      simpa [bvs, List.getElem?_drop, List.map_drop] using hj

def wrong (e : Nat) : List PanicEntry := [{ v := .iface 172 (.agg #[.int .u16 e]), recovered := false }]

/-- A contract of a reader: by what the bytes tell. -/
def ReadC {X : Type} (P : Program) (f : FuncId) (args : Array Value) (w : World) (B : Nat → Prop) (p : Addr) (r : Except Nat (X × List UInt8)) (R : World → Value → X → Prop) : Prop :=
  RetP P f args w (fun u w' => ∃ x rest v', r = .ok (x, rest) ∧ Rd w' B p v' rest ∧ Fr (· = p.block) w w' ∧ R w' u x) (fun c w' => ∃ e, r = .error e ∧ c = wrong e ∧ Fr (· = p.block) w w')

/-- New blocks. -/
def New (w : World) (b : Nat) : Prop := w.heap.size ≤ b
/-- Blocks that were made between. -/
def Nw (w w' : World) (b : Nat) : Prop := w.heap.size ≤ b ∧ b < w'.heap.size
theorem nw_le {S : Nat → Prop} {a w w' : World} (h : Fr S w w') : ∀ b, Nw a w b → Nw a w' b := fun _ hb => ⟨hb.1, Nat.lt_of_lt_of_le hb.2 h.size⟩
theorem nw_up {a a' w : World} (h : a.heap.size ≤ a'.heap.size) : ∀ b, Nw a' w b → Nw a w b := fun _ hb => ⟨Nat.le_trans h hb.1, hb.2⟩

/-! ### Slices that are collected -/
/-- Blocks of B that are there and are not the slice's own. -/
def Bes (B : Nat → Prop) (w : World) (v : Value) (b : Nat) : Prop := B b ∧ b < w.heap.size ∧ ¬ ownB v b
structure OwnX {X : Type} (R : World → (Nat → Prop) → List Value → X → Prop) (sz : Nat) (e : TypeId) (w : World) (B : Nat → Prop) (v : Value) (xs : List X) : Prop where
  of ::
  ex : ∃ css : List (List Value), w.ownsRow 0 e sz v xs.length css.flatten ∧ css.length = xs.length ∧ ∀ (i : Nat) (x : X) (cs : List Value), xs[i]? = some x → css[i]? = some cs → cs.length = sz ∧ R w (Bes B w v) cs x
  new : ∀ b, ownB v b → B b
section
variable {X : Type} {R : World → (Nat → Prop) → List Value → X → Prop} {sz : Nat} {e : TypeId} {w w' : World} {B : Nat → Prop} {v : Value} {xs : List X}
theorem OwnX.nil : OwnX R sz e w B (.slice none 0 0) [] := ⟨⟨[], World.ownsRow_nil _ _ _ _, rfl, fun _ _ _ h => by simp at h⟩, fun _ h => by cases h⟩
theorem OwnX.sl {a : World} (h : OwnX R sz e w (New a) v xs) (hm : ∀ cs x, R w (Bes (New a) w v) cs x → R w (Nw a w) cs x) : SlX R sz w (Nw a w) v xs := by
  obtain ⟨css, h1, h2, h3⟩ := h.ex
  exact ⟨css, SlR.ofOwn h1 (fun b hb => ⟨h.new b hb, own_lt h1 hb⟩), h2, fun i x cs hx hc => ⟨(h3 i x cs hx hc).1, hm _ _ (h3 i x cs hx hc).2⟩⟩
theorem bes_nw {a w : World} {v : Value} : ∀ b, Bes (New a) w v b → Nw a w b := fun _ h => ⟨h.1, h.2.1⟩
theorem bes_le {S : Nat → Prop} {B : Nat → Prop} {w w' : World} {v : Value} (h : Fr S w w') : ∀ b, Bes B w v b → Bes B w' v b := fun _ hb => ⟨hb.1, Nat.lt_of_lt_of_le hb.2.1 h.size, hb.2.2⟩
theorem OwnX.keep {S : Nat → Prop} (h : OwnX R sz e w B v xs) (hf : Fr S w w') (hn : ∀ b, B b → ¬ S b) (hR : ∀ cs x, R w (Bes B w v) cs x → R w' (Bes B w' v) cs x) : OwnX R sz e w' B v xs := by
  obtain ⟨css, h1, h2, h3⟩ := h.ex
  exact ⟨⟨css, own_keep h1 hf (fun b hb => hn b (h.new b hb)), h2, fun i x cs hx hc => ⟨(h3 i x cs hx hc).1, hR _ _ (h3 i x cs hx hc).2⟩⟩, h.new⟩
theorem OwnX.lt (h : OwnX R sz e w B v xs) : ∀ b, ownB v b → b < w.heap.size := fun b hb => by obtain ⟨css, h1, _⟩ := h.ex; exact own_lt h1 hb
end
/-- 'out = append(out, x)', behind it. -/
theorem ow_appendX {P : Program} {n : Nat} {ρ : Env} {k : Ks} {ds : List Deferred} {w : World} {ty : TypeId} {pos : String} {af : Array Edge} {g : Option (Nat × Bool)} {next : List Deferred → Env → World → Prop}
    {X : Type} {R : World → (Nat → Prop) → List Value → X → Prop} {B : Nat → Prop} {xs : List X} {x : X}
    {t : Tmp} {s y : Operand} {T : TypeId} {e : TypeId} {ti : TypeInfo} {z : Value} {size : Nat} (ht : P.underlying T = some (.slice e)) (hi : P.info? e = some ti) (hz : ti.zero = some z)
    (hsize : ti.size = size) (hzs : z.cells.size = size) (hsz : 0 < size) (hbytes : ti.bytes ≤ 100000) {v : Value} (hs : ev n ρ s = v) (h : OwnX R size e w B v xs)
    {b : Nat} {T' : TypeId} {cs : List Value} (hy : ev n ρ y = .slice (some ⟨b, 0, none⟩) 1 1) (hb : Bx w b T' cs) (hcl : cs.length = size) (h1 : One' cs) (hR : R w (Bes B w v) cs x)
    (hB : ∀ b, w.heap.size ≤ b → B b) (h63 : xs.length + 1 ≤ 1000000000) (hdn : Nat.blt t n = true)
    (hkeep : ∀ v' w', Fr (ownB v) w w' → (∀ b, Bes B w v b → Bes B w' v' b) → ∀ cs x, R w (Bes B w v) cs x → R w' (Bes B w' v') cs x)
    (hnext : ∀ v' w', OwnX R size e w' B v' (xs ++ [x]) → Fr (ownB v) w w' → next ds (upd ρ t v') w') :
    OW P n k ⟨some t, .call { callee := .builtin .append, args := #[s, y], argTypes := #[T, T] }, ty, pos, af, g⟩ ds ρ w next := by
  obtain ⟨css, g1, g2, g3⟩ := h.ex
  refine ow_append ht hi hz hsize hzs hsz hbytes hs g1 hy (news := cs) (by omega) hb.cs h1 h63 hdn (fun v' w' ho hf hfr _ => ?_)
  have hle : ∀ b, Bes B w v b → Bes B w' v' b := fun b hb => ⟨hb.1, Nat.lt_of_lt_of_le hb.2.1 hf.size, fun hb' => by
    rcases hfr with e' | e'
    · exact hb.2.2 (by unfold ownB at *; rw [← e']; exact hb')
    · have := e' b hb'; have := hb.2.1; omega⟩
  refine hnext v' w' ⟨⟨css ++ [cs], ?_, by simp [g2], fun i a c ha hc => ?_⟩, fun b hb' => ?_⟩ hf
  · rw [List.length_append, List.length_singleton, List.flatten_append, List.flatten_singleton]; exact ho
  · by_cases hi' : i < xs.length
    · rw [List.getElem?_append_left hi'] at ha
      rw [List.getElem?_append_left (by omega)] at hc
      exact ⟨(g3 i a c ha hc).1, hkeep v' w' hf hle _ _ (g3 i a c ha hc).2⟩
    · have he : i = xs.length := by
        have := (List.getElem?_eq_some_iff.1 ha).1
        simp at this; omega
      subst he
      rw [List.getElem?_append_right (Nat.le_refl _)] at ha
      rw [List.getElem?_append_right (by omega), g2] at hc
      simp at ha hc
      subst ha; subst hc
      exact ⟨hcl, hkeep v' w' hf hle _ _ hR⟩
  · rcases hfr with e' | e'
    · exact h.new b (by unfold ownB at *; rw [← e']; exact hb')
    · exact hB b (e' b hb')

/-! ### Rows that are filled field by field -/
theorem bx_eq {w : World} {b : Nat} {T : TypeId} {cs cs' : List Value} (h : Bx w b T cs) (e : cs = cs') : Bx w b T cs' := e ▸ h
theorem sp_here {p q xs : List Value} (h : p.length = xs.length) : splice (p ++ q) 0 xs = xs ++ q := by
  unfold splice; simp [← h]
theorem sp_last {p xs : List Value} (h : p.length = xs.length) : splice p 0 xs = xs := splice_all h
theorem sp_next {p q r xs : List Value} {a o : Nat} (h : p.length = a) (hq : splice q o xs = r) : splice (p ++ q) (a + o) xs = p ++ r := by
  subst h; subst hq
  unfold splice
  rw [List.take_append, List.take_of_length_le (by omega), List.drop_append, List.drop_of_length_le (by omega), List.nil_append]
  simp only [List.append_assoc]
  congr 2
  · congr 1; omega
  · congr 2; omega
theorem res_cell {P : Program} {fn : Func} {n : Nat} {ρ : Env} {w : World} {a : Tmp} {t : TypeId} {ad : Addr} {v : Value} (hr : fn.results = #[.cell a t]) (hv : ev n ρ (.tmp a) = .pointer (some ad)) (hl : Ld P w t ad v) : Res P fn n ρ w v := by
  have h1 := ac_get n ρ a
  simp only [ev] at hv
  unfold Ld at hl
  have h2 := h1.trans hv
  simp only [Array.getD_eq_getD_getElem?] at h2
  simp only [Res, results, hr, ac]
  simp [h2, hl, asAddr]
theorem k_retC {P : Program} {fn : Func} {n : Nat} {ρ : Env} {w : World} {R' : Ending → World → Prop} {a : Tmp} {t : TypeId} {ad : Addr} {v : Value} (hr : fn.results = #[.cell a t]) (hv : ev n ρ (.tmp a) = .pointer (some ad)) (hl : Ld P w t ad v) (h : R' (.returned v) w) :
    (kFn P fn n R').R [] ρ w := ⟨rfl, v, res_cell hr hv hl, h⟩

theorem ow_copy {P : Program} {n : Nat} {ρ : Env} {k : Ks} {ds : List Deferred} {w : World} {ty : TypeId} {pos : String} {af : Array Edge} {g : Option (Nat × Bool)} {next : List Deferred → Env → World → Prop}
    {t : Tmp} {dT sT e : TypeId} {ti : TypeInfo} {x y : Operand} {b dl dc sl sc : Nat} {T : TypeId} {cs news : List Value} {a : Addr} (hu : P.underlying dT = some (.slice e)) (hi : P.info? e = some ti) (hs : ti.size = 1)
    (hx : ev n ρ x = .slice (some ⟨b, 0, none⟩) dl dc) (hy : ev n ρ y = .slice (some a) sl sc) (hb : Bx w b T cs) (hcs : Cs w a news) (hn : news.length = Nat.min sl dl) (hfit : news.length ≤ cs.length) (h1 : ∀ u ∈ news, u.oneCell' = true)
    (hdn : Nat.blt t n = true) (h : ∀ w', Bx w' b T (splice cs 0 news) → Fr (· = b) w w' → w'.heap.size = w.heap.size → next ds (upd ρ t (.int .i64 news.length)) w') :
    OW P n k ⟨some t, .call { callee := .builtin .copy, args := #[x, y], argTypes := #[dT, sT] }, ty, pos, af, g⟩ ds ρ w next := by
  have hr := run_copy_row P w dT sT ty e b 0 dl dc a sl sc cs.toArray T news hu (by rw [hi]; simp [hs]) hb hn hcs (by simpa using hfit) h1
  refine ow_value (w' := w.setRow b ((cs.toArray).toList.take 0 ++ news ++ (cs.toArray).toList.drop (0 + news.length)).toArray) (v := .int .i64 news.length) ?_ rfl hdn (h _ ?_ (setRow_fr w b _) (by simp [World.setRow]))
  · simp only [execOp, resolve, invoke, builtin, Sem.run_bind, Sem.run_pure, Result.andThen_ok, List.map_toArray, List.map_cons, List.map_nil, hx, hy, hr, goInt]
  · unfold Bx
    rw [setRow_heap w b _ _ T _ hb]
    simp [splice]

/-! ### Steps of what bytes tell -/
theorem pTake_ok {n : Nat} {bs x r : List UInt8} (h : pTake n bs = .ok (x, r)) : n ≤ bs.length ∧ x = bs.take n ∧ r = bs.drop n := by
  unfold pTake at h
  split at h
  · cases h
  · rename_i hn
    simp only [Except.ok.injEq, Prod.mk.injEq] at h
    exact ⟨by omega, h.1.symm, h.2.symm⟩
theorem pTake_one {bs x r : List UInt8} (h : pTake 1 bs = .ok (x, r)) : ∃ b, bs = b :: r ∧ x = [b] := by
  obtain ⟨h1, h2, h3⟩ := pTake_ok h
  cases bs with
  | nil => simp at h1
  | cons b t => exact ⟨b, by simpa using h3.symm, by simpa using h2⟩
theorem pTake_err {n : Nat} {bs : List UInt8} {e : Nat} (h : pTake n bs = .error e) : e = 10 ∧ bs.length < n := by
  unfold pTake at h
  split at h
  · rename_i hn; cases h; exact ⟨rfl, hn⟩
  · cases h
theorem SlR.byte {w : World} {B : Nat → Prop} {u : Value} {b : UInt8} (h : SlR w B u 1 [b].length (bvs [b])) : ∃ a cap, u = .slice (some a) 1 cap ∧ w.cell? (a.add 0) = some (bv b) := by
  rcases h.2 with ⟨_, h0⟩ | ⟨a, cap, rfl, _, _, h3⟩
  · simp at h0
  · exact ⟨a, cap, rfl, h3 0 _ rfl⟩
theorem num_more {most k i n : Nat} {b : UInt8} {r : List UInt8} (hb : 128 ≤ b.toNat) : pNumFrom most (k + 1) i n (b :: r) = pNumFrom most k (i + 1) (n + b.toNat % 128 * 128 ^ i) r := by
  simp only [pNumFrom]; rw [if_pos hb]
theorem num_bad {most k i n : Nat} {b : UInt8} {r : List UInt8} (hb : ¬ 128 ≤ b.toNat) (h : (b.toNat = 0 ∧ 0 < i) ∨ most < n + b.toNat % 128 * 128 ^ i) : pNumFrom most (k + 1) i n (b :: r) = .error 11 := by
  simp only [pNumFrom]; rw [if_neg hb, if_pos h]
theorem num_good {most k i n : Nat} {b : UInt8} {r : List UInt8} (hb : ¬ 128 ≤ b.toNat) (h : ¬ ((b.toNat = 0 ∧ 0 < i) ∨ most < n + b.toNat % 128 * 128 ^ i)) :
    pNumFrom most (k + 1) i n (b :: r) = .ok (n + b.toNat % 128 * 128 ^ i, r) := by
  simp only [pNumFrom]; rw [if_neg hb, if_neg h]
theorem num_short {most k i n : Nat} : pNumFrom most (k + 1) i n [] = .error 10 := rfl
theorem pTruth_bad {b : UInt8} {r : List UInt8} (h : 1 < b.toNat) : pTruth (b :: r) = .error 11 := by
  simp [pTruth, pBind, pTake, h]
theorem pTruth_good {b : UInt8} {r : List UInt8} (h : ¬ 1 < b.toNat) : pTruth (b :: r) = .ok (b == 1, r) := by
  simp [pTruth, pBind, pTake, h]
theorem pTruth_err {bs : List UInt8} {e : Nat} (h : pTake 1 bs = .error e) : pTruth bs = .error e := pBind_err h
theorem truth_eq (b : UInt8) : decide ((b.toNat : Int) = 1) = (b == 1) := by
  have h : ∀ m : Nat, m < 256 → decide ((m : Int) = 1) = (UInt8.ofNat m == 1) := by decide +kernel
  have := h b.toNat b.toNat_lt
  rwa [UInt8.ofNat_toNat] at this
theorem pAllN_ok {X : Type} {get : PR X} {k : Nat} {bs rest : List UInt8} {x : X} (xs : List X) (h : get bs = .ok (x, rest)) :
    (pAllN get (k + 1) bs).map (fun q => (xs ++ q.1, q.2)) = (pAllN get k rest).map (fun q => ((xs ++ [x]) ++ q.1, q.2)) := by
  simp only [pAllN, pBind_ok h]
  unfold pBind pPure
  cases pAllN get k rest with
  | error e => rfl
  | ok q => simp [Except.map]
theorem pAllN_err {X : Type} {get : PR X} {k : Nat} {bs : List UInt8} {e : Nat} (xs : List X) (h : get bs = .error e) :
    (pAllN get (k + 1) bs).map (fun q => (xs ++ q.1, q.2)) = .error e := by
  simp only [pAllN, pBind_err h]; rfl
theorem pAllN_zero {X : Type} {get : PR X} {bs : List UInt8} (xs : List X) : (pAllN get 0 bs).map (fun q => (xs ++ q.1, q.2)) = .ok (xs, bs) := by
  simp [pAllN, pPure, Except.map]

/-- A string as bytes of the call's own. -/
theorem ow_s2b {P : Program} {n : Nat} {ρ : Env} {k : Ks} {ds : List Deferred} {w : World} {ty : TypeId} {pos : String} {af : Array Edge} {g : Option (Nat × Bool)} {next : List Deferred → Env → World → Prop}
    {t : Tmp} {D T e : TypeId} {x : Operand} {l : List UInt8} (hd : P.underlying D = some .string) (hs : P.underlying T = some (.slice e)) (he : P.underlying e = some (.int .u8)) (hx : ev n ρ x = .string ⟨l.toArray⟩) (hdn : Nat.blt t n = true)
    (h : ∀ v w', SlR w' (Nw w w') v 1 l.length (bvs l) → Ext w w' → next ds (upd ρ t v) w') :
    OW P n k ⟨some t, .convert D T x, ty, pos, af, g⟩ ds ρ w next := by
  have hr := Go.Lib.run_convert_string_bytes (P := P) w D T e ⟨l.toArray⟩ hd hs he
  have hsz : (ByteArray.mk l.toArray).size = l.length := by simp [ByteArray.size]
  have hx2 : Ext w (Go.Lib.bytesWorld w e ⟨l.toArray⟩) := ⟨by simp [Go.Lib.bytesWorld, World.freeze]; rfl, by simp [Go.Lib.bytesWorld, World.freeze], by simp [Go.Lib.bytesWorld, World.freeze]; rfl, by rw [Go.Lib.bytesWorld_size]; omega, fun b hb _ => Go.Lib.bytesWorld_at_old w e _ b hb⟩
  refine ow_value (w' := Go.Lib.bytesWorld w e ⟨l.toArray⟩) ?_ rfl hdn (h _ _ ⟨by rw [bvs_length]; omega, .inr ⟨⟨w.heap.size, 0, none⟩, grownCap w (ByteArray.mk l.toArray).size 0 e, by rw [hsz], ?_, ⟨Nat.le_refl _, by rw [Go.Lib.bytesWorld_size]; exact Nat.lt_succ_self _⟩, fun j v hj => ?_⟩⟩ hx2)
  · simp only [execOp, hx, Sem.run_bind, hr, Result.andThen_ok, Sem.run_pure]
    rw [hsz]
  · have := grownCap_ge w (ByteArray.mk l.toArray).size 0 e; omega
  · have hlt : j < l.length := by have := (List.getElem?_eq_some_iff.1 hj).1; rwa [bvs_length] at this
    rw [add_mk, Nat.zero_add, Go.Lib.bytesWorld_cell w e _ j (by omega)]
    simp only [bvs, List.getElem?_map] at hj
    rw [List.getElem?_eq_getElem hlt] at hj
    simp only [Option.map_some, Option.some.injEq] at hj
    rw [← hj]
    simp [bv, hlt]

/-! ### The bits of a number -/
theorem and127 (b : UInt8) : IntKind.u8.wrap ((BitVec.ofInt 8 (b.toNat : Int) &&& BitVec.ofInt 8 127).toNat : Int) = ((b.toNat % 128 : Nat) : Int) := by
  have h : ∀ m : Nat, m < 256 → IntKind.u8.wrap ((BitVec.ofInt 8 (m : Int) &&& BitVec.ofInt 8 127).toNat : Int) = ((m % 128 : Nat) : Int) := by decide +kernel
  exact h _ b.toNat_lt
theorem and128 (b : UInt8) : decide (IntKind.u8.wrap ((BitVec.ofInt 8 (b.toNat : Int) &&& BitVec.ofInt 8 128).toNat : Int) ≠ 0) = decide (128 ≤ b.toNat) := by
  have h : ∀ m : Nat, m < 256 → decide (IntKind.u8.wrap ((BitVec.ofInt 8 (m : Int) &&& BitVec.ofInt 8 128).toNat : Int) ≠ 0) = decide (128 ≤ m) := by decide +kernel
  exact h _ b.toNat_lt
theorem pow128 (i : Nat) : (2 : Nat) ^ (7 * i) = 128 ^ i := by rw [Nat.pow_mul]
theorem shl_or {n c i : Nat} (hn : n < 128 ^ i) (hc : c < 128) (hi : i < 6) :
    IntKind.i64.wrap ((BitVec.ofInt 64 (n : Int) ||| BitVec.ofInt 64 (IntKind.i64.wrap ((c : Int) * 2 ^ (min (7 * (i : Int)).toNat IntKind.i64.bits)))).toNat : Int) = ((n + c * 128 ^ i : Nat) : Int) := by
  have e1 : (min (7 * (i : Int)).toNat IntKind.i64.bits) = 7 * i := by
    have : (7 * (i : Int)).toNat = 7 * i := by omega
    rw [this]; simp only [IntKind.bits]; omega
  have e2 : ((c : Int) * 2 ^ (7 * i)) = ((c * 128 ^ i : Nat) : Int) := by rw [← pow128]; push_cast; rfl
  have hp : (128 : Nat) ^ i ≤ 128 ^ 5 := Nat.pow_le_pow_right (by decide) (by omega)
  have hcp : c * 128 ^ i ≤ 127 * 128 ^ 5 := Nat.mul_le_mul (by omega) hp
  have hnp : n < 128 ^ 5 := Nat.lt_of_lt_of_le hn hp
  rw [e1, e2, wrap64_eq (a := ((c * 128 ^ i : Nat) : Int)) (by omega) (by omega)]
  have e3 : (BitVec.ofInt 64 (n : Int) ||| BitVec.ofInt 64 ((c * 128 ^ i : Nat) : Int)).toNat = n + c * 128 ^ i := by
    rw [BitVec.toNat_or, BitVec.toNat_ofInt, BitVec.toNat_ofInt]
    have f1 : ((n : Int) % (2 ^ 64 : Nat)).toNat = n := by rw [Int.emod_eq_of_lt (by omega) (by omega)]; omega
    have f2 : (((c * 128 ^ i : Nat) : Int) % (2 ^ 64 : Nat)).toNat = c * 128 ^ i := by rw [Int.emod_eq_of_lt (by omega) (by omega)]; omega
    rw [f1, f2, Nat.or_comm, ← pow128, Nat.mul_comm c, ← Nat.two_pow_add_eq_or_of_lt (by rw [pow128]; exact hn)]
    omega
  rw [e3, wrap64_eq (by omega) (by omega)]
end Go.Proofs.Ythpocekigliomaa.K
