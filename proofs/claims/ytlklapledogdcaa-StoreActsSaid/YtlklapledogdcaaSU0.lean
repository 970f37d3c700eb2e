/- The plain law of the document's answer: its lists are the store's. No condition. -/
import Derived.Test.YtlklapledogdcaaSR0
import Derived.Test.YtlklapledogdcaaMU
namespace Go.Proofs.Ytlklapledogdcaa.K
open Go

theorem mf_none {P : Program} {f : FuncId} {args : List A} {Q : A → Prop} (h : MF P f args [] (fun _ a => Q a)) : MF P f args [] (fun Hs' a => Hs' = [] ∧ Q a) := .of fun g w vs S0 hH hr =>
  (h.out g w vs S0 hH hr).mono fun _ _ ⟨g', _, a, l, h2, h3, h4⟩ => ⟨g', [], a, l, h2.take 0, h3, rfl, h4⟩
def tA (m : Int) (l : List Rc) (n : Int) : A := .agg [iv .i64 m, .sl (recsA l), iv .i64 n]
def noKey (k : ByteArray) (r : Rc) : Bool := !decide (r.key = k)
def withoutR (l : List Rc) (k : ByteArray) : List Rc := l.filter (noKey k)
def laidR (l : List Rc) (r : Rc) : List Rc := (withoutR l r.key).take (lb (withoutR l r.key) r.key) ++ [r] ++ (withoutR l r.key).drop (lb (withoutR l r.key) r.key)
theorem recsA_snoc (l : List Rc) (x : Rc) : recsA (l ++ [x]) = recsA l ++ [recA x] := by simp [recsA]
theorem fl_yes {l : List Rc} {f : Rc → Bool} {i : Nat} {x : Rc} (hx : l[i]? = some x) (h : f x = true) : (l.take (i + 1)).filter f = (l.take i).filter f ++ [x] := by
  rw [take_snoc hx, List.filter_append]; simp [h]
theorem fl_no {l : List Rc} {f : Rc → Bool} {i : Nat} {x : Rc} (hx : l[i]? = some x) (h : f x = false) : (l.take (i + 1)).filter f = (l.take i).filter f := by
  rw [take_snoc hx, List.filter_append]; simp [h]
theorem fl_len (l : List Rc) (f : Rc → Bool) (i : Nat) : ((l.take i).filter f).length ≤ l.length :=
  Nat.le_trans (List.length_filter_le _ _) (by rw [List.length_take]; omega)
theorem look_at {k : ByteArray} : ∀ {l : List Rc} {i : Nat} {x : Rc}, l[i]? = some x → x.key = k → (∀ y ∈ l.take i, y.key ≠ k) → look l k = some x
  | [], _, _, h, _, _ => by simp at h
  | y :: l, 0, x, h, hk, _ => by simp at h; subst h; simp [look, hk]
  | y :: l, i + 1, x, h, hk, hn => by
    have h1 : y.key ≠ k := hn y (by simp)
    have := look_at (l := l) (i := i) (by simpa using h) hk (fun z hz => hn z (by simp [hz]))
    simpa [look, h1] using this
theorem look_none {k : ByteArray} {l : List Rc} (h : ∀ y ∈ l, y.key ≠ k) : look l k = none := by
  unfold look; rw [List.find?_eq_none]; intro y hy; simp [h y hy]
theorem without_eq {l : List Rc} (h : Srt l) (k : ByteArray) : withoutR l k = l.take (lb l k) ++ l.drop (bif isK l k then lb l k + 1 else lb l k) := by
  have h1 : (l.take (lb l k)).filter (noKey k) = l.take (lb l k) := by
    rw [List.filter_eq_self]; intro r hr
    have := mem_take_lt hr
    unfold noKey
    rw [decide_eq_false (fun e => by rw [e, sLt_irrefl] at this; cases this)]; rfl
  have h2 : (l.drop (bif isK l k then lb l k + 1 else lb l k)).filter (noKey k) = l.drop (bif isK l k then lb l k + 1 else lb l k) := by
    rw [List.filter_eq_self]; intro r hr
    have := mem_drop_gt h hr
    unfold noKey
    rw [decide_eq_false (fun e => by rw [e, sLt_irrefl] at this; cases this)]; rfl
  unfold withoutR
  cases hk : isK l k with
  | false =>
    rw [hk] at h2
    simp only [cond_false] at h2 ⊢
    conv => lhs; rw [← List.take_append_drop (lb l k) l]
    rw [List.filter_append, h1, h2]
  | true =>
    obtain ⟨x, hx, hxk, _⟩ := isK_spec hk
    have hlt := (List.getElem?_eq_some_iff.1 hx).1
    have hxx := (List.getElem?_eq_some_iff.1 hx).2
    rw [hk] at h2
    simp only [cond_true] at h2 ⊢
    have e : l = l.take (lb l k) ++ ([x] ++ l.drop (lb l k + 1)) := by
      rw [← hxx, List.singleton_append, List.getElem_cons_drop, List.take_append_drop]
    conv => lhs; rw [e]
    rw [List.filter_append, List.filter_append, h1, h2]
    simp [noKey, hxk]
theorem lb_without {l : List Rc} (h : Srt l) (k : ByteArray) : lb (withoutR l k) k = lb l k := by
  have hle := lb_le l k
  have hl : (l.take (lb l k)).length = lb l k := by rw [List.length_take, Nat.min_eq_left hle]
  rw [without_eq h]
  refine lb_eq (by rw [List.length_append, hl]; omega) (fun q s hq hs => ?_) (fun s hs => ?_)
  · rw [List.getElem?_append_left (by omega)] at hs
    exact mem_take_lt (List.mem_of_getElem? hs)
  · rw [List.getElem?_append_right (by omega)] at hs
    exact sLt_asymm (mem_drop_gt h (List.mem_of_getElem? hs))
theorem laid_put {l : List Rc} (h : Srt l) (k : ByteArray) (n : Int) (v : List UInt8) : laidR l ⟨k, n, v⟩ = putR l k n v := by
  have hle := lb_le l k
  have hl : (l.take (lb l k)).length = lb l k := by rw [List.length_take, Nat.min_eq_left hle]
  unfold laidR putR
  simp only
  rw [lb_without h, without_eq h]
  congr 1
  · congr 1
    exact List.take_left' hl
  · exact List.drop_left' hl
theorem without_del {l : List Rc} (h : Srt l) {k : ByteArray} (hk : isK l k = true) : withoutR l k = delR l k := by
  rw [without_eq h, hk]; rfl
def casT (m : Int) (l : List Rc) (n : Int) (k : ByteArray) (v : Int) (b : List UInt8) : List Rc × Int × Int × Int :=
  if 60000 < b.length then (l, n, 0, 3) else if verO (look l k) ≠ v then (l, n, 0, 30) else if verO (look l k) = 0 ∧ m ≤ (l.length : Int) then (l, n, 0, 31) else (laidR l ⟨k, n + 1, b⟩, n + 1, n + 1, 0)
def delT (l : List Rc) (n : Int) (k : ByteArray) (v : Int) : List Rc × Int × Int :=
  if verO (look l k) = 0 then (l, n, 32) else if verO (look l k) ≠ v then (l, n, 30) else (withoutR l k, n + 1, 0)
theorem ver_zero {m : Nat} {s : St} (h : SV m s) (k : ByteArray) : verO (look s.recs k) = 0 ↔ isK s.recs k = false := by
  rw [isK_look h.srt]
  cases hl : look s.recs k with
  | none => simp [verO]
  | some r =>
    have := h.ver r (List.mem_of_find?_eq_some hl)
    simp only [verO, Option.isSome_some]
    constructor
    · intro e; omega
    · intro e; cases e
theorem cas_T {m : Nat} {s : St} (h : SV m s) (k : ByteArray) (v : Int) (b : List UInt8) : casT s.most s.recs s.count k v b = ((cas s k v b).1.recs, (cas s k v b).1.count, (cas s k v b).2.1, (cas s k v b).2.2) := by
  unfold casT
  by_cases h1 : 60000 < b.length
  · rw [if_pos h1, cas_long h1]
  rw [if_neg h1]
  by_cases h2 : verO (look s.recs k) ≠ v
  · rw [if_pos h2, cas_ver h1 (by rw [verR_look h.srt]; exact h2)]
  rw [if_neg h2]
  by_cases h3 : verO (look s.recs k) = 0 ∧ s.most ≤ (s.recs.length : Int)
  · rw [if_pos h3, cas_full h1 (by rw [verR_look h.srt]; exact h2) ((ver_zero h k).1 h3.1) h3.2]
  · rw [if_neg h3, cas_put h1 (by rw [verR_look h.srt]; exact h2) (fun e => h3 ⟨(ver_zero h k).2 e.1, e.2⟩)]
    simp only
    rw [laid_put h.srt]
theorem del_T {m : Nat} {s : St} (h : SV m s) (k : ByteArray) (v : Int) : delT s.recs s.count k v = ((del s k v).1.recs, (del s k v).1.count, (del s k v).2) := by
  unfold delT
  by_cases h1 : verO (look s.recs k) = 0
  · rw [if_pos h1, del_none ((ver_zero h k).1 h1)]
  have hk : isK s.recs k = true := by
    cases e : isK s.recs k with
    | true => rfl
    | false => exact absurd ((ver_zero h k).2 e) h1
  rw [if_neg h1]
  by_cases h2 : verO (look s.recs k) ≠ v
  · rw [if_pos h2, del_ver hk (by rw [verR_look h.srt]; exact h2)]
  · rw [if_neg h2, del_ok hk (by rw [verR_look h.srt]; exact h2)]
    simp only
    rw [without_del h.srt hk]
end Go.Proofs.Ytlklapledogdcaa.K
