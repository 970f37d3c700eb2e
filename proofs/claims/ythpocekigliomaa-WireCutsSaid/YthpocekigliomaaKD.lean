/- The data of the wire as Lean data: what cells they are, what bytes are written of them. No condition. -/
import Derived.Test.YthpocekigliomaaKW
namespace Go.Proofs.Ythpocekigliomaa.K
open Go

/-! ### Pieces of a row of cells -/
theorem pc_drop {p q xs : List Value} {a o m : Nat} (h : p.length = a) (hq : (q.drop o).take m = xs) : ((p ++ q).drop (a + o)).take m = xs := by
  rw [← h, List.drop_append, List.drop_of_length_le (by omega), List.nil_append, show p.length + o - p.length = o by omega]; exact hq
theorem pc_take {p q : List Value} {m : Nat} (h : p.length = m) : ((p ++ q).drop 0).take m = p := by
  rw [← h]; simp
theorem pc_last {p : List Value} {m : Nat} (h : p.length = m) : (p.drop 0).take m = p := by
  rw [← h]; simp
theorem pc_get {cs : List Value} {o : Nat} {v : Value} (h : (cs.drop o).take 1 = [v]) : cs[o]? = some v := by
  have := congrArg (·[0]?) h
  simpa [List.getElem?_take, List.getElem?_drop] using this
theorem bx_cell {w : World} {b : Nat} {T : TypeId} {cs : List Value} (hb : Bx w b T cs) {o : Nat} {v : Value} (h : (cs.drop o).take 1 = [v]) : w.cell? ((⟨b, 0, none⟩ : Addr).add o) = some v :=
  hb.cs.at (pc_get h)
theorem splice_all {z cs : List Value} (h : z.length = cs.length) : splice z 0 cs = cs := by
  unfold splice; rw [List.drop_of_length_le (by omega)]; simp

theorem ow_boxA {P : Program} {n : Nat} {ρ : Env} {k : Ks} {ds : List Deferred} {w : World} {ty : TypeId} {pos : String} {af : Array Edge} {g : Option (Nat × Bool)} {next : List Deferred → Env → World → Prop}
    {t : Tmp} {T : TypeId} {x : Operand} {cs : List Value} (hx : ev n ρ x = .agg cs.toArray) (hdn : Nat.blt t n = true)
    (h : ∀ w' b, Bx w' b T cs → Ext w w' → b = w.heap.size → w'.heap.size = w.heap.size + 1 → next ds (upd ρ t (.pointer (some ⟨b, 0, none⟩))) w') :
    OW P n k ⟨some t, .box T x, ty, pos, af, g⟩ ds ρ w next := ow_box hx hdn h
theorem ld_aggB {P : Program} {w : World} {t : TypeId} {u : TypeDesc} {a : Addr} {cs : List Value} {ti : TypeInfo} {m : Nat} (hu : P.underlying t = some u) (hn : aggU u = true) (hi : P.info? t = some ti) (hs : ti.size = m) (hm : cs.length = m)
    (hc : Cs w a cs) : Ld P w t a (.agg cs.toArray) := ld_agg hu hn hi (hs.trans hm.symm) hc

/-! ### Slices that are read -/
/-- The slice v has n elements of sz cells, cs, in blocks of B. -/
def SlR (w : World) (B : Nat → Prop) (v : Value) (sz n : Nat) (cs : List Value) : Prop :=
  cs.length = n * sz ∧ ((v = .slice none 0 0 ∧ n = 0) ∨ ∃ a cap, v = .slice (some a) n cap ∧ n ≤ cap ∧ B a.block ∧ Cs w a cs)

theorem SlR.keep {S : Nat → Prop} {w w' : World} {B : Nat → Prop} {v : Value} {sz n : Nat} {cs : List Value} (h : SlR w B v sz n cs) (hf : Fr S w w') (hn : ∀ b, B b → ¬ S b) : SlR w' B v sz n cs := by
  refine ⟨h.1, ?_⟩
  rcases h.2 with h | ⟨a, cap, e, h1, h2, h3⟩
  · exact .inl h
  · exact .inr ⟨a, cap, e, h1, h2, h3.keep hf (hn _ h2)⟩
theorem SlR.mono {w : World} {B B' : Nat → Prop} {v : Value} {sz n : Nat} {cs : List Value} (h : SlR w B v sz n cs) (hB : ∀ b, B b → B' b) : SlR w B' v sz n cs := by
  refine ⟨h.1, ?_⟩
  rcases h.2 with h | ⟨a, cap, e, h1, h2, h3⟩
  · exact .inl h
  · exact .inr ⟨a, cap, e, h1, hB _ h2, h3⟩
theorem SlR.form {w : World} {B : Nat → Prop} {v : Value} {sz n : Nat} {cs : List Value} (h : SlR w B v sz n cs) : ∃ a cap, v = .slice a n cap := by
  rcases h.2 with ⟨rfl, rfl⟩ | ⟨a, cap, rfl, _⟩
  · exact ⟨_, _, rfl⟩
  · exact ⟨_, _, rfl⟩
theorem SlR.nil (w : World) (B : Nat → Prop) (sz : Nat) : SlR w B (.slice none 0 0) sz 0 [] := ⟨by simp, .inl ⟨rfl, rfl⟩⟩
theorem SlR.one {w : World} {B : Nat → Prop} {v : Value} {sz n : Nat} {cs : List Value} (h : SlR w B v sz n cs) : v.oneCell' = true ∧ v.cells = #[v] := by
  obtain ⟨a, cap, rfl⟩ := h.form; exact ⟨rfl, rfl⟩
/-- What a call's own slice reads as. -/
theorem SlR.ofOwn {w : World} {e sz n : Nat} {v : Value} {cs : List Value} {B : Nat → Prop} (h : w.ownsRow 0 e sz v n cs) (hB : ∀ b, ownB v b → B b) : SlR w B v sz n cs := by
  refine ⟨h.1, ?_⟩
  rcases h.2 with ⟨rfl, rfl⟩ | ⟨b, cap, cur, rfl, _, h2, h3, _, _, h5⟩
  · exact .inl ⟨rfl, rfl⟩
  · refine .inr ⟨⟨b, 0, none⟩, cap, rfl, h3, hB _ rfl, fun j u hj => ?_⟩
    rw [add_mk]
    simp only [World.cell?, h2]
    rw [← h5, List.getElem?_take] at hj
    split at hj
    · simpa using hj
    · cases hj

/-- Elements that read as xs by R. -/
structure SlX {X : Type} (R : World → (Nat → Prop) → List Value → X → Prop) (sz : Nat) (w : World) (B : Nat → Prop) (v : Value) (xs : List X) : Prop where
  of ::
  ex : ∃ css : List (List Value), SlR w B v sz xs.length css.flatten ∧ css.length = xs.length ∧ ∀ (i : Nat) (x : X) (cs : List Value), xs[i]? = some x → css[i]? = some cs → cs.length = sz ∧ R w B cs x

theorem flatten_len {css : List (List Value)} {sz : Nat} (h : ∀ cs ∈ css, cs.length = sz) : css.flatten.length = css.length * sz := by
  induction css with
  | nil => simp
  | cons c r ih =>
    simp only [List.flatten_cons, List.length_append, List.length_cons]
    rw [ih (fun cs hc => h cs (by simp [hc])), h c (by simp), Nat.add_mul]; omega
theorem flatten_at {css : List (List Value)} {sz : Nat} (h : ∀ cs ∈ css, cs.length = sz) {i : Nat} {cs : List Value} (hi : css[i]? = some cs) : (css.flatten.drop (i * sz)).take sz = cs := by
  induction css generalizing i with
  | nil => simp at hi
  | cons c r ih =>
    have hc := h c (by simp)
    cases i with
    | zero =>
      simp at hi; subst hi
      rw [List.flatten_cons, Nat.zero_mul]
      exact pc_take hc
    | succ i =>
      simp at hi
      rw [List.flatten_cons, Nat.add_mul, Nat.one_mul, Nat.add_comm]
      exact pc_drop hc (ih (fun cs hx => h cs (by simp [hx])) hi)

section
variable {X : Type} {R : World → (Nat → Prop) → List Value → X → Prop} {sz : Nat} {w w' : World} {B : Nat → Prop} {v : Value} {xs : List X}
theorem SlX.form (h : SlX R sz w B v xs) : ∃ a cap, v = .slice a xs.length cap := by obtain ⟨css, h, _⟩ := h.ex; exact h.form
theorem SlX.one (h : SlX R sz w B v xs) : v.oneCell' = true ∧ v.cells = #[v] := by obtain ⟨css, h, _⟩ := h.ex; exact h.one
theorem SlX.keep {S : Nat → Prop} (h : SlX R sz w B v xs) (hf : Fr S w w') (hn : ∀ b, B b → ¬ S b) (hR : ∀ cs x, R w B cs x → R w' B cs x) : SlX R sz w' B v xs := by
  obtain ⟨css, h1, h2, h3⟩ := h.ex
  exact ⟨css, h1.keep hf hn, h2, fun i x cs hx hc => ⟨(h3 i x cs hx hc).1, hR _ _ (h3 i x cs hx hc).2⟩⟩
theorem SlX.mono {B' : Nat → Prop} (h : SlX R sz w B v xs) (hB : ∀ b, B b → B' b) (hR : ∀ cs x, R w B cs x → R w B' cs x) : SlX R sz w B' v xs := by
  obtain ⟨css, h1, h2, h3⟩ := h.ex
  exact ⟨css, h1.mono hB, h2, fun i x cs hx hc => ⟨(h3 i x cs hx hc).1, hR _ _ (h3 i x cs hx hc).2⟩⟩
theorem SlX.nil (R : World → (Nat → Prop) → List Value → X → Prop) (sz : Nat) (w : World) (B : Nat → Prop) : SlX R sz w B (.slice none 0 0) [] := ⟨[], SlR.nil _ _ _, rfl, fun _ _ _ h => by simp at h⟩
/-- The i-th element. -/
theorem SlX.get (h : SlX R sz w B v xs) {i : Nat} {x : X} (hi : xs[i]? = some x) : ∃ a cap cs, v = .slice (some a) xs.length cap ∧ cs.length = sz ∧ R w B cs x ∧ Cs w (a.add (i * sz)) cs := by
  obtain ⟨css, h1, h2, h3⟩ := h.ex
  have hlt := (List.getElem?_eq_some_iff.1 hi).1
  have hall : ∀ cs ∈ css, cs.length = sz := fun cs hc => by
    obtain ⟨j, hj⟩ := List.getElem?_of_mem hc
    have hj' : j < xs.length := by have := (List.getElem?_eq_some_iff.1 hj).1; omega
    exact (h3 j xs[j] cs (List.getElem?_eq_getElem hj') hj).1
  have hci : css[i]? = some css[i] := List.getElem?_eq_getElem (by omega)
  rcases h1.2 with ⟨_, h0⟩ | ⟨a, cap, rfl, _, _, hcs⟩
  · omega
  · refine ⟨a, cap, css[i], rfl, (h3 i x _ hi hci).1, (h3 i x _ hi hci).2, ?_⟩
    have := hcs.sub (i * sz) sz
    rwa [flatten_at hall hci] at this
end

/-! ### The data -/
def One' (cs : List Value) : Prop := ∀ u ∈ cs, u.oneCell' = true
theorem One'.append {a b : List Value} (ha : One' a) (hb : One' b) : One' (a ++ b) := fun u hu => by
  rcases List.mem_append.1 hu with h | h
  · exact ha u h
  · exact hb u h
theorem One'.single {v : Value} (h : v.oneCell' = true) : One' [v] := fun u hu => by simp at hu; subst hu; exact h

structure IdKey where
  id : Int
  key : List UInt8
structure Hdr where
  ratchet : List UInt8
  prev : Int
  n : Int
structure Env' where
  src : Int
  device : Int
  first : Bool
  eph : List UInt8
  signed : Int
  one : Int
  head : Hdr
  body : List UInt8
structure Item' where
  device : Int
  env : Env'
structure Lst where
  account : Int
  version : Int
  ident : List UInt8
  devices : List IdKey
  sig : List UInt8
structure Bdl where
  account : Int
  device : Int
  ident : List UInt8
  key : List UInt8
  signed : IdKey
  sig : List UInt8
  one : List IdKey
structure Slot' where
  device : Int
  signed : IdKey
  sig : List UInt8
  ones : List IdKey
  last : Int
  mail : List Env'
structure Req where
  kind : Nat
  account : Int
  device : Int
  pin : ByteArray
  next : ByteArray
  name : ByteArray
  list : Lst
  token : List UInt8
  signed : IdKey
  sig : List UInt8
  ones : List IdKey
  version : Int
  items : List Item'
structure Rsp where
  err : Nat
  list : Lst
  bundle : Bdl
  mail : List Env'
structure Acct where
  id : Int
  pin : ByteArray
  wrong : Int
  till : Int
  list : Lst
  slots : List Slot'
  tokens : List (List UInt8)
structure Usr where
  name : ByteArray
  account : Int
  sure : Bool

def i64 (x : Int) : Value := .int .i64 x

structure KeyR (_w : World) (_B : Nat → Prop) (cs : List Value) (x : List UInt8) : Prop where
  len : x.length = 32
  eq : cs = bvs x
structure IdKeyR (_w : World) (_B : Nat → Prop) (cs : List Value) (x : IdKey) : Prop where
  len : x.key.length = 32
  eq : cs = [i64 x.id] ++ bvs x.key
structure HdrR (_w : World) (_B : Nat → Prop) (cs : List Value) (x : Hdr) : Prop where
  len : x.ratchet.length = 32
  eq : cs = bvs x.ratchet ++ ([i64 x.prev] ++ [i64 x.n])
structure EnvR (w : World) (B : Nat → Prop) (cs : List Value) (x : Env') : Prop where
  leph : x.eph.length = 32
  ex : ∃ hc v, HdrR w B hc x.head ∧ SlR w B v 1 x.body.length (bvs x.body) ∧
    cs = [i64 x.src] ++ ([i64 x.device] ++ ([.bool x.first] ++ (bvs x.eph ++ ([i64 x.signed] ++ ([i64 x.one] ++ (hc ++ [v]))))))
structure ItemR (w : World) (B : Nat → Prop) (cs : List Value) (x : Item') : Prop where
  ex : ∃ ec, EnvR w B ec x.env ∧ cs = [i64 x.device] ++ ec
structure LstR (w : World) (B : Nat → Prop) (cs : List Value) (x : Lst) : Prop where
  lid : x.ident.length = 32
  lsig : x.sig.length = 64
  ex : ∃ v, SlX IdKeyR 33 w B v x.devices ∧ cs = [i64 x.account] ++ ([i64 x.version] ++ (bvs x.ident ++ ([v] ++ bvs x.sig)))
structure BdlR (w : World) (B : Nat → Prop) (cs : List Value) (x : Bdl) : Prop where
  lid : x.ident.length = 32
  lkey : x.key.length = 32
  lsig : x.sig.length = 64
  ex : ∃ pc v, IdKeyR w B pc x.signed ∧ SlX IdKeyR 33 w B v x.one ∧ cs = [i64 x.account] ++ ([i64 x.device] ++ (bvs x.ident ++ (bvs x.key ++ (pc ++ (bvs x.sig ++ [v])))))
structure SlotR (w : World) (B : Nat → Prop) (cs : List Value) (x : Slot') : Prop where
  lsig : x.sig.length = 64
  ex : ∃ pc v u, IdKeyR w B pc x.signed ∧ SlX IdKeyR 33 w B v x.ones ∧ SlX EnvR 72 w B u x.mail ∧ cs = [i64 x.device] ++ (pc ++ (bvs x.sig ++ ([v] ++ ([i64 x.last] ++ [u]))))
structure ReqR (w : World) (B : Nat → Prop) (cs : List Value) (x : Req) : Prop where
  ltok : x.token.length = 32
  lsig : x.sig.length = 64
  lkind : x.kind < 256
  ex : ∃ lc pc v u, LstR w B lc x.list ∧ IdKeyR w B pc x.signed ∧ SlX IdKeyR 33 w B v x.ones ∧ SlX ItemR 73 w B u x.items ∧
    cs = [.int .u8 x.kind] ++ ([i64 x.account] ++ ([i64 x.device] ++ ([.string x.pin] ++ ([.string x.next] ++ ([.string x.name] ++ (lc ++ (bvs x.token ++ (pc ++ (bvs x.sig ++ ([v] ++ ([i64 x.version] ++ [u])))))))))))
structure RspR (w : World) (B : Nat → Prop) (cs : List Value) (x : Rsp) : Prop where
  lerr : x.err < 65536
  ex : ∃ lc bc u, LstR w B lc x.list ∧ BdlR w B bc x.bundle ∧ SlX EnvR 72 w B u x.mail ∧ cs = [.int .u16 x.err] ++ (lc ++ (bc ++ [u]))
structure AcctR (w : World) (B : Nat → Prop) (cs : List Value) (x : Acct) : Prop where
  ex : ∃ lc v u, LstR w B lc x.list ∧ SlX SlotR 101 w B v x.slots ∧ SlX KeyR 32 w B u x.tokens ∧ cs = [i64 x.id] ++ ([.string x.pin] ++ ([i64 x.wrong] ++ ([i64 x.till] ++ (lc ++ ([v] ++ [u])))))
structure UsrR (_w : World) (_B : Nat → Prop) (cs : List Value) (x : Usr) : Prop where
  eq : cs = [.string x.name] ++ ([i64 x.account] ++ [.bool x.sure])

theorem IdKeyR.length {w : World} {B : Nat → Prop} {cs : List Value} {x : IdKey} (h : IdKeyR w B cs x) : cs.length = 33 := by rw [h.eq]; simp [bvs_length, h.len]
theorem HdrR.length {w : World} {B : Nat → Prop} {cs : List Value} {x : Hdr} (h : HdrR w B cs x) : cs.length = 34 := by rw [h.eq]; simp [bvs_length, h.len]
theorem EnvR.length {w : World} {B : Nat → Prop} {cs : List Value} {x : Env'} (h : EnvR w B cs x) : cs.length = 72 := by
  obtain ⟨hc, v, h1, _, rfl⟩ := h.ex; simp [bvs_length, h.leph, h1.length]
theorem ItemR.length {w : World} {B : Nat → Prop} {cs : List Value} {x : Item'} (h : ItemR w B cs x) : cs.length = 73 := by
  obtain ⟨ec, h1, rfl⟩ := h.ex; simp [h1.length]
theorem LstR.length {w : World} {B : Nat → Prop} {cs : List Value} {x : Lst} (h : LstR w B cs x) : cs.length = 99 := by
  obtain ⟨v, _, rfl⟩ := h.ex; simp [bvs_length, h.lid, h.lsig]
theorem BdlR.length {w : World} {B : Nat → Prop} {cs : List Value} {x : Bdl} (h : BdlR w B cs x) : cs.length = 164 := by
  obtain ⟨pc, v, h1, _, rfl⟩ := h.ex; simp [bvs_length, h.lid, h.lkey, h.lsig, h1.length]

theorem SlotR.length {w : World} {B : Nat → Prop} {cs : List Value} {x : Slot'} (h : SlotR w B cs x) : cs.length = 101 := by
  obtain ⟨pc, v, u, h1, _, _, rfl⟩ := h.ex; simp [h.lsig, h1.length]
theorem UsrR.length {w : World} {B : Nat → Prop} {cs : List Value} {x : Usr} (h : UsrR w B cs x) : cs.length = 3 := by rw [h.eq]; rfl
theorem One'.bvs (l : List UInt8) : One' (bvs l) := bvs_one l
theorem IdKeyR.one {w : World} {B : Nat → Prop} {cs : List Value} {x : IdKey} (h : IdKeyR w B cs x) : One' cs := by rw [h.eq]; exact (One'.single rfl).append (One'.bvs _)
theorem KeyR.one {w : World} {B : Nat → Prop} {cs : List Value} {x : List UInt8} (h : KeyR w B cs x) : One' cs := by rw [h.eq]; exact One'.bvs _
theorem HdrR.one {w : World} {B : Nat → Prop} {cs : List Value} {x : Hdr} (h : HdrR w B cs x) : One' cs := by rw [h.eq]; exact (One'.bvs _).append ((One'.single rfl).append (One'.single rfl))
theorem EnvR.one {w : World} {B : Nat → Prop} {cs : List Value} {x : Env'} (h : EnvR w B cs x) : One' cs := by
  obtain ⟨hc, v, h1, h2, rfl⟩ := h.ex
  exact (One'.single rfl).append ((One'.single rfl).append ((One'.single rfl).append ((One'.bvs _).append ((One'.single rfl).append ((One'.single rfl).append (h1.one.append (One'.single h2.one.1)))))))
theorem ItemR.one {w : World} {B : Nat → Prop} {cs : List Value} {x : Item'} (h : ItemR w B cs x) : One' cs := by
  obtain ⟨ec, h1, rfl⟩ := h.ex; exact (One'.single rfl).append h1.one
theorem LstR.one {w : World} {B : Nat → Prop} {cs : List Value} {x : Lst} (h : LstR w B cs x) : One' cs := by
  obtain ⟨v, h1, rfl⟩ := h.ex
  exact (One'.single rfl).append ((One'.single rfl).append ((One'.bvs _).append ((One'.single h1.one.1).append (One'.bvs _))))
theorem BdlR.one {w : World} {B : Nat → Prop} {cs : List Value} {x : Bdl} (h : BdlR w B cs x) : One' cs := by
  obtain ⟨pc, v, h1, h2, rfl⟩ := h.ex
  exact (One'.single rfl).append ((One'.single rfl).append ((One'.bvs _).append ((One'.bvs _).append (h1.one.append ((One'.bvs _).append (One'.single h2.one.1))))))
theorem SlotR.one {w : World} {B : Nat → Prop} {cs : List Value} {x : Slot'} (h : SlotR w B cs x) : One' cs := by
  obtain ⟨pc, v, u, h1, h2, h3, rfl⟩ := h.ex
  exact (One'.single rfl).append (h1.one.append ((One'.bvs _).append ((One'.single h2.one.1).append ((One'.single rfl).append (One'.single h3.one.1)))))
theorem UsrR.one {w : World} {B : Nat → Prop} {cs : List Value} {x : Usr} (h : UsrR w B cs x) : One' cs := by
  rw [h.eq]; exact (One'.single rfl).append ((One'.single rfl).append (One'.single rfl))

theorem ReqR.length {w : World} {B : Nat → Prop} {cs : List Value} {x : Req} (h : ReqR w B cs x) : cs.length = 237 := by
  obtain ⟨lc, pc, v, u, h1, h2, _, _, rfl⟩ := h.ex; simp [h.ltok, h.lsig, h1.length, h2.length]
theorem RspR.length {w : World} {B : Nat → Prop} {cs : List Value} {x : Rsp} (h : RspR w B cs x) : cs.length = 265 := by
  obtain ⟨lc, bc, u, h1, h2, _, rfl⟩ := h.ex; simp [h1.length, h2.length]
theorem AcctR.length {w : World} {B : Nat → Prop} {cs : List Value} {x : Acct} (h : AcctR w B cs x) : cs.length = 105 := by
  obtain ⟨lc, v, u, h1, _, _, rfl⟩ := h.ex; simp [h1.length]
theorem ReqR.one {w : World} {B : Nat → Prop} {cs : List Value} {x : Req} (h : ReqR w B cs x) : One' cs := by
  obtain ⟨lc, pc, v, u, h1, h2, h3, h4, rfl⟩ := h.ex
  exact (One'.single rfl).append ((One'.single rfl).append ((One'.single rfl).append ((One'.single rfl).append ((One'.single rfl).append ((One'.single rfl).append (h1.one.append ((One'.bvs _).append (h2.one.append ((One'.bvs _).append ((One'.single h3.one.1).append ((One'.single rfl).append (One'.single h4.one.1))))))))))))
theorem RspR.one {w : World} {B : Nat → Prop} {cs : List Value} {x : Rsp} (h : RspR w B cs x) : One' cs := by
  obtain ⟨lc, bc, u, h1, h2, h3, rfl⟩ := h.ex
  exact (One'.single rfl).append (h1.one.append (h2.one.append (One'.single h3.one.1)))
theorem AcctR.one {w : World} {B : Nat → Prop} {cs : List Value} {x : Acct} (h : AcctR w B cs x) : One' cs := by
  obtain ⟨lc, v, u, h1, h2, h3, rfl⟩ := h.ex
  exact (One'.single rfl).append ((One'.single rfl).append ((One'.single rfl).append ((One'.single rfl).append (h1.one.append ((One'.single h2.one.1).append (One'.single h3.one.1))))))

section
variable {S : Nat → Prop} {w w' : World} {B B' : Nat → Prop} {cs : List Value}
theorem KeyR.keep {x : List UInt8} (h : KeyR w B cs x) (w' : World) (B' : Nat → Prop) : KeyR w' B' cs x := ⟨h.len, h.eq⟩
theorem IdKeyR.keep {x : IdKey} (h : IdKeyR w B cs x) (w' : World) (B' : Nat → Prop) : IdKeyR w' B' cs x := ⟨h.len, h.eq⟩
theorem HdrR.keep {x : Hdr} (h : HdrR w B cs x) (w' : World) (B' : Nat → Prop) : HdrR w' B' cs x := ⟨h.len, h.eq⟩
theorem UsrR.keep {x : Usr} (h : UsrR w B cs x) (w' : World) (B' : Nat → Prop) : UsrR w' B' cs x := ⟨h.eq⟩
theorem EnvR.keep {x : Env'} (h : EnvR w B cs x) (hf : Fr S w w') (hn : ∀ b, B b → ¬ S b) : EnvR w' B cs x := by
  obtain ⟨hc, v, h1, h2, e⟩ := h.ex; exact ⟨h.leph, hc, v, h1.keep _ _, h2.keep hf hn, e⟩
theorem EnvR.mono {x : Env'} (h : EnvR w B cs x) (hB : ∀ b, B b → B' b) : EnvR w B' cs x := by
  obtain ⟨hc, v, h1, h2, e⟩ := h.ex; exact ⟨h.leph, hc, v, h1.keep _ _, h2.mono hB, e⟩
theorem ItemR.keep {x : Item'} (h : ItemR w B cs x) (hf : Fr S w w') (hn : ∀ b, B b → ¬ S b) : ItemR w' B cs x := by
  obtain ⟨ec, h1, e⟩ := h.ex; exact ⟨ec, h1.keep hf hn, e⟩
theorem ItemR.mono {x : Item'} (h : ItemR w B cs x) (hB : ∀ b, B b → B' b) : ItemR w B' cs x := by
  obtain ⟨ec, h1, e⟩ := h.ex; exact ⟨ec, h1.mono hB, e⟩
theorem LstR.keep {x : Lst} (h : LstR w B cs x) (hf : Fr S w w') (hn : ∀ b, B b → ¬ S b) : LstR w' B cs x := by
  obtain ⟨v, h1, e⟩ := h.ex; exact ⟨h.lid, h.lsig, v, h1.keep hf hn (fun _ _ h => h.keep _ _), e⟩
theorem LstR.mono {x : Lst} (h : LstR w B cs x) (hB : ∀ b, B b → B' b) : LstR w B' cs x := by
  obtain ⟨v, h1, e⟩ := h.ex; exact ⟨h.lid, h.lsig, v, h1.mono hB (fun _ _ h => h.keep _ _), e⟩
theorem BdlR.keep {x : Bdl} (h : BdlR w B cs x) (hf : Fr S w w') (hn : ∀ b, B b → ¬ S b) : BdlR w' B cs x := by
  obtain ⟨pc, v, h1, h2, e⟩ := h.ex; exact ⟨h.lid, h.lkey, h.lsig, pc, v, h1.keep _ _, h2.keep hf hn (fun _ _ h => h.keep _ _), e⟩
theorem BdlR.mono {x : Bdl} (h : BdlR w B cs x) (hB : ∀ b, B b → B' b) : BdlR w B' cs x := by
  obtain ⟨pc, v, h1, h2, e⟩ := h.ex; exact ⟨h.lid, h.lkey, h.lsig, pc, v, h1.keep _ _, h2.mono hB (fun _ _ h => h.keep _ _), e⟩
theorem SlotR.keep {x : Slot'} (h : SlotR w B cs x) (hf : Fr S w w') (hn : ∀ b, B b → ¬ S b) : SlotR w' B cs x := by
  obtain ⟨pc, v, u, h1, h2, h3, e⟩ := h.ex; exact ⟨h.lsig, pc, v, u, h1.keep _ _, h2.keep hf hn (fun _ _ h => h.keep _ _), h3.keep hf hn (fun _ _ h => h.keep hf hn), e⟩
theorem SlotR.mono {x : Slot'} (h : SlotR w B cs x) (hB : ∀ b, B b → B' b) : SlotR w B' cs x := by
  obtain ⟨pc, v, u, h1, h2, h3, e⟩ := h.ex; exact ⟨h.lsig, pc, v, u, h1.keep _ _, h2.mono hB (fun _ _ h => h.keep _ _), h3.mono hB (fun _ _ h => h.mono hB), e⟩
theorem ReqR.keep {x : Req} (h : ReqR w B cs x) (hf : Fr S w w') (hn : ∀ b, B b → ¬ S b) : ReqR w' B cs x := by
  obtain ⟨lc, pc, v, u, h1, h2, h3, h4, e⟩ := h.ex
  exact ⟨h.ltok, h.lsig, h.lkind, lc, pc, v, u, h1.keep hf hn, h2.keep _ _, h3.keep hf hn (fun _ _ h => h.keep _ _), h4.keep hf hn (fun _ _ h => h.keep hf hn), e⟩
theorem ReqR.mono {x : Req} (h : ReqR w B cs x) (hB : ∀ b, B b → B' b) : ReqR w B' cs x := by
  obtain ⟨lc, pc, v, u, h1, h2, h3, h4, e⟩ := h.ex
  exact ⟨h.ltok, h.lsig, h.lkind, lc, pc, v, u, h1.mono hB, h2.keep _ _, h3.mono hB (fun _ _ h => h.keep _ _), h4.mono hB (fun _ _ h => h.mono hB), e⟩
theorem RspR.keep {x : Rsp} (h : RspR w B cs x) (hf : Fr S w w') (hn : ∀ b, B b → ¬ S b) : RspR w' B cs x := by
  obtain ⟨lc, bc, u, h1, h2, h3, e⟩ := h.ex; exact ⟨h.lerr, lc, bc, u, h1.keep hf hn, h2.keep hf hn, h3.keep hf hn (fun _ _ h => h.keep hf hn), e⟩
theorem RspR.mono {x : Rsp} (h : RspR w B cs x) (hB : ∀ b, B b → B' b) : RspR w B' cs x := by
  obtain ⟨lc, bc, u, h1, h2, h3, e⟩ := h.ex; exact ⟨h.lerr, lc, bc, u, h1.mono hB, h2.mono hB, h3.mono hB (fun _ _ h => h.mono hB), e⟩
theorem AcctR.keep {x : Acct} (h : AcctR w B cs x) (hf : Fr S w w') (hn : ∀ b, B b → ¬ S b) : AcctR w' B cs x := by
  obtain ⟨lc, v, u, h1, h2, h3, e⟩ := h.ex; exact ⟨lc, v, u, h1.keep hf hn, h2.keep hf hn (fun _ _ h => h.keep hf hn), h3.keep hf hn (fun _ _ h => h.keep _ _), e⟩
theorem AcctR.mono {x : Acct} (h : AcctR w B cs x) (hB : ∀ b, B b → B' b) : AcctR w B' cs x := by
  obtain ⟨lc, v, u, h1, h2, h3, e⟩ := h.ex; exact ⟨lc, v, u, h1.mono hB, h2.mono hB (fun _ _ h => h.mono hB), h3.mono hB (fun _ _ h => h.keep _ _), e⟩
end

/-! ### Bytes that are written -/
def sBytes (s : ByteArray) : List UInt8 := s.data.toList
def wText (l : List UInt8) : List UInt8 := numI l.length ++ l
def wTruth (b : Bool) : List UInt8 := numI (if b then 1 else 0)
def wIdKey (x : IdKey) : List UInt8 := numI x.id ++ x.key
def wHdr (x : Hdr) : List UInt8 := x.ratchet ++ (numI x.prev ++ numI x.n)
def wEach {X : Type} (f : X → List UInt8) (l : List X) : List UInt8 := numI l.length ++ l.flatMap f
def wEnv (x : Env') : List UInt8 :=
  numI x.src ++ (numI x.device ++ (wTruth x.first ++ (x.eph ++ (numI x.signed ++ (numI (min x.one 1099511627775 + 1) ++ (wHdr x.head ++ wText x.body))))))
def wItem (x : Item') : List UInt8 := numI x.device ++ wEnv x.env
def wLst (x : Lst) : List UInt8 := numI x.account ++ (numI x.version ++ (x.ident ++ (wEach wIdKey x.devices ++ x.sig)))
def wBdl (x : Bdl) : List UInt8 := numI x.account ++ (numI x.device ++ (x.ident ++ (x.key ++ (wIdKey x.signed ++ (x.sig ++ wEach wIdKey x.one)))))
def wSlot (x : Slot') : List UInt8 := numI x.device ++ (wIdKey x.signed ++ (x.sig ++ (wEach wIdKey x.ones ++ (numI x.last ++ wEach wEnv x.mail))))
def wReq (x : Req) : List UInt8 :=
  numI x.kind ++ (numI x.account ++ (numI x.device ++ (wText (sBytes x.pin) ++ (wText (sBytes x.next) ++ (wText (sBytes x.name) ++ (wLst x.list ++ (x.token ++ (wIdKey x.signed ++ (x.sig ++ (wEach wIdKey x.ones ++ (numI x.version ++ wEach wItem x.items)))))))))))
def wRsp (x : Rsp) : List UInt8 := numI x.err ++ (wLst x.list ++ (wBdl x.bundle ++ wEach wEnv x.mail))
def wAcct (x : Acct) : List UInt8 :=
  numI x.id ++ (wText (sBytes x.pin) ++ (numI x.wrong ++ (numI x.till ++ (wLst x.list ++ (wEach wSlot x.slots ++ wEach (fun k => k) x.tokens)))))
def wUsr (x : Usr) : List UInt8 := wText (sBytes x.name) ++ (numI x.account ++ wTruth x.sure)

theorem y_indexAddrN {P : Program} {n : Nat} {ρ : Env} {w : World} {d : Option Tmp} {ty : TypeId} {pos : String} {af : Array Edge} {g : Option (Nat × Bool)} {t : TypeId} {x ix : Operand} {a : Addr} {len cap sz i : Nat} {k : IntKind} {e : TypeId} {ti : TypeInfo}
    (hu : P.underlying t = some (.slice e)) (hi : P.info? e = some ti) (hs : ti.size = sz) (hx : ev n ρ x = .slice (some a) len cap) (hix : ev n ρ ix = .int k (i : Int)) (h1 : i < len) :
    Y P n ρ ⟨d, .indexAddr t x ix, ty, pos, af, g⟩ w (.pointer (some (a.add (i * sz)))) := by
  have := y_indexAddr (P := P) (w := w) (d := d) (ty := ty) (pos := pos) (af := af) (g := g) hu hi hs hx hix (by omega) (by omega)
  simpa using this
theorem ext_store {w w1 w2 : World} {b : Nat} (h : Ext w w1) (g : Fr (· = b) w1 w2) (hb : w.heap.size ≤ b) : Ext w w2 := h.trans' g (fun i hi e => absurd e (by omega))
theorem take_flat {X Z : Type} (f : X → List Z) (xs : List X) (i : Nat) (h : i < xs.length) : (xs.take (i + 1)).flatMap f = (xs.take i).flatMap f ++ f xs[i] := by
  rw [List.take_succ_eq_append_getElem h, List.flatMap_append]; simp
theorem take_flat_le {X Z : Type} (f : X → List Z) (xs : List X) (i : Nat) : ((xs.take i).flatMap f).length ≤ (xs.flatMap f).length := by
  have : xs.flatMap f = (xs.take i).flatMap f ++ (xs.drop i).flatMap f := by rw [← List.flatMap_append, List.take_append_drop]
  rw [this, List.length_append]; omega

theorem y_b2s {P : Program} {n : Nat} {ρ : Env} {w : World} {d : Option Tmp} {ty : TypeId} {pos : String} {af : Array Edge} {g : Option (Nat × Bool)} {T D e : TypeId} {x : Operand} {v : Value} {l : List UInt8} {B : Nat → Prop}
    (hs : P.underlying T = some (.slice e)) (he : P.underlying e = some (.int .u8)) (hd : P.underlying D = some .string) (hx : ev n ρ x = v) (h : SlR w B v 1 l.length (bvs l)) :
    Y P n ρ ⟨d, .convert T D x, ty, pos, af, g⟩ w (.string ⟨l.toArray⟩) := by
  have hrun : (convert T D v).run P w = .ok (.string ⟨l.toArray⟩) w := by
    rcases h.2 with ⟨rfl, h0⟩ | ⟨a, cap, rfl, _, _, hcs⟩
    · rw [run_convert_bytes_string w T D e none 0 0 hs he hd]
      have : l = [] := List.eq_nil_of_length_eq_zero h0
      subst this
      rfl
    · rw [run_convert_bytes_string w T D e (some a) _ cap hs he hd]
      have hl := run_loadCells (P := P) hcs
      rw [bvs_length] at hl
      have e2 : bvs l = (l.map fun b => (b.toNat : Int)).map (Value.int .u8) := by simp [bvs, bv, List.map_map, Function.comp_def]
      rw [e2] at hl
      rw [run_bytesToString w a l.length cap (l.map fun b => (b.toNat : Int)) hl, Go.foldl_push_bytes]
      have e3 : (ByteArray.empty.data ++ (List.map (fun n => UInt8.ofNat n.toNat) (l.map fun b => (b.toNat : Int))).toArray) = l.toArray := by
        simp [List.map_map, Function.comp_def]
      rw [e3]
  refine ⟨?_⟩
  simp only [execOp, hx, Sem.run_bind, hrun, Result.andThen_ok, Sem.run_pure]

/-! ### A writer and what it does not write -/
/-- Blocks of B are there, and none of the writer's. -/
structure Sep (w : World) (p : Addr) (v : Value) (B : Nat → Prop) : Prop where
  lt : ∀ b, B b → b < w.heap.size
  no : ∀ b, B b → ¬ WB p v b
theorem Sep.step {w w' : World} {p : Addr} {v v' : Value} {B : Nat → Prop} (h : Sep w p v B) (hs : WS p w v w' v') : Sep w' p v' B :=
  ⟨fun b hb => Nat.lt_of_lt_of_le (h.lt b hb) hs.fr.size, fun b hb => hs.not (h.no b hb) (h.lt b hb)⟩
theorem Sep.ext {w w' : World} {p : Addr} {v : Value} {B : Nat → Prop} (h : Sep w p v B) (hf : Ext w w') : Sep w' p v B := ⟨fun b hb => Nat.lt_of_lt_of_le (h.lt b hb) hf.size, h.no⟩
/-- Block b is none of the writer's. -/
structure Sep1 (w : World) (p : Addr) (v : Value) (b : Nat) : Prop where
  lt : b < w.heap.size
  no : ¬ WB p v b
theorem Sep1.step {w w' : World} {p : Addr} {v v' : Value} {b : Nat} (h : Sep1 w p v b) (hs : WS p w v w' v') : Sep1 w' p v' b :=
  ⟨Nat.lt_of_lt_of_le h.lt hs.fr.size, hs.not h.no h.lt⟩
theorem Sep1.ext {w w' : World} {p : Addr} {v : Value} {b : Nat} (h : Sep1 w p v b) (hf : Ext w w') : Sep1 w' p v b := ⟨Nat.lt_of_lt_of_le h.lt hf.size, h.no⟩
/-- A block that is made behind the writer. -/
theorem Sep1.new {w w' : World} {p : Addr} {v : Value} {l : List UInt8} {b : Nat} (h : Wr w p v l) (hb : b = w.heap.size) (hs : w'.heap.size = w.heap.size + 1) : Sep1 w' p v b :=
  ⟨by omega, fun hw => by have := h.wblt hw; omega⟩

theorem y_build {P : Program} {n : Nat} {ρ : Env} {w : World} {d : Option Tmp} {ty : TypeId} {pos : String} {af : Array Edge} {g : Option (Nat × Bool)} {T : TypeId} {l : List (Nat × Operand)} {ps : List (Nat × Value)} {cells : Array Value}
    (hp : l.map (fun p => (p.1, ev n ρ p.2)) = ps) (hb : P.built T ps = some cells) : Y P n ρ ⟨d, .build T l.toArray, ty, pos, af, g⟩ w (.agg cells) := by
  refine ⟨?_⟩
  have hl : (l.toArray.map fun x => (x.1, ev n ρ x.2)).toList = ps := by simpa using hp
  have := run_build (P := P) w T (l.toArray.map fun x => (x.1, ev n ρ x.2)) cells (by rw [hl]; exact hb)
  simp only [execOp, Sem.run_bind, this, Result.andThen_ok, Sem.run_pure]

/-- Bytes that a call has made. -/
structure Out (w w' : World) (v : Value) (l : List UInt8) : Prop where
  own : w'.ownsRow 0 5 1 v l.length (bvs l)
  ext : Ext w w'
  fresh : ∀ b, ownB v b → w.heap.size ≤ b

theorem wr_new {w : World} {b : Nat} {T : TypeId} (hb : Bx w b T [.slice none 0 0]) : Wr w ⟨b, 0, none⟩ (.slice none 0 0) [] := by
  unfold Bx at hb
  refine ⟨by simp [World.cell?, hb], by simp [World.frozen?, hb], World.ownsRow_nil _ _ _ _, fun h => by cases h⟩
theorem sep_new {w1 : World} {bw : Nat} {B : Nat → Prop} (h : ∀ b, B b → b < bw) (hw : bw < w1.heap.size) : Sep w1 ⟨bw, 0, none⟩ (.slice none 0 0) B :=
  ⟨fun b hb => by have := h b hb; omega, fun i hi => by
    rintro (e | e)
    · have := h i hi
      simp only at e; omega
    · cases e⟩
theorem sep1_new {w1 : World} {bw b : Nat} (h : b < bw) (hw : bw < w1.heap.size) : Sep1 w1 ⟨bw, 0, none⟩ (.slice none 0 0) b :=
  ⟨by omega, by
    rintro (e | e)
    · simp only at e; omega
    · cases e⟩
theorem out_of {w w1 w' : World} {p : Addr} {v' : Value} {l : List UInt8} (hf : Ext w w1) (hp : w.heap.size ≤ p.block) (hS : WS p w1 (.slice none 0 0) w' v') (hW : Wr w' p v' l) : Out w w' v' l := by
  refine ⟨hW.own, hf.trans' hS.fr (fun i hi h => ?_), fun b hb => ?_⟩
  · rcases h with rfl | h
    · omega
    · cases h
  · rcases hS.fresh with e | e
    · unfold ownB at hb; rw [e] at hb; cases hb
    · exact Nat.le_trans hf.size (e b hb)
theorem Out.form {w w' : World} {v : Value} {l : List UInt8} (h : Out w w' v l) : ∃ a cap, v = .slice a l.length cap := (SlR.ofOwn (B := fun _ => True) h.own (fun _ _ => trivial)).form
end Go.Proofs.Ythpocekigliomaa.K
