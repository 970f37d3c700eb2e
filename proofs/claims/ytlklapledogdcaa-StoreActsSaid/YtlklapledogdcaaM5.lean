/- Abstract states of a walk: literals, append, calls, entering and leaving. No condition. -/
import Derived.Test.YtlklapledogdcaaM4
import Derived.Laws.Tables
import Derived.Great.BuildSlice
namespace Go.Proofs.Ytlklapledogdcaa.K
open Go

/-! ### Literals -/
theorem fold_splice (o : Nat) : ∀ (l : List Value) (k : Nat) (cur : List Value), o + k + l.length ≤ cur.length →
    (l.zipIdx k).foldl (fun (cs : Array Value) (x : Value × Nat) => cs.setIfInBounds (o + x.2) x.1) cur.toArray = (splice cur (o + k) l).toArray
  | [], k, cur, _ => by simp [splice]
  | c :: l, k, cur, h => by
    have hlt : o + k < cur.length := by simp at h; omega
    simp only [List.zipIdx_cons, List.foldl_cons]
    rw [List.setIfInBounds_toArray, fold_splice o l (k + 1) _ (by simp at h ⊢; omega)]
    congr 1
    unfold splice
    apply List.ext_getElem?
    intro q
    simp only [List.getElem?_append, List.getElem?_take, List.getElem?_drop, List.getElem?_set, List.length_take, List.length_set, List.length_cons, List.length_append]
    have e1 : min (o + (k + 1)) cur.length = o + k + 1 := by omega
    have e2 : min (o + k) cur.length = o + k := by omega
    simp only [e1, e2]
    by_cases h1 : q < o + k
    · have h2 : q < o + k + 1 := by omega
      have h3 : q < o + (k + 1) := by omega
      have h4 : ¬ o + k = q := by omega
      have h5 : q < o + k + 1 + l.length := by omega
      have h6 : q < o + k + (l.length + 1) := by omega
      simp [h1, h2, h3, h4, h5, h6]
    · by_cases h2 : q = o + k
      · subst h2
        have h3 : o + k < o + (k + 1) := by omega
        have h5 : o + k < o + k + 1 + l.length := by omega
        have h6 : o + k < o + k + (l.length + 1) := by omega
        simp [h3, hlt, h5, h6]
      · have h3 : ¬ q < o + k + 1 := by omega
        by_cases h4 : q < o + k + 1 + l.length
        · have h6 : q < o + k + (l.length + 1) := by omega
          have e3 : q - (o + k) = (q - (o + k + 1)) + 1 := by omega
          simp [h1, h3, h4, h6, e3]
        · have h6 : ¬ q < o + k + (l.length + 1) := by omega
          have e4 : o + (k + 1) + l.length + (q - (o + k + 1 + l.length)) = q := by omega
          have e5 : o + k + (l.length + 1) + (q - (o + k + (l.length + 1))) = q := by omega
          have h7 : ¬ o + k = q := by omega
          simp [h4, h6, e4, e5, h7]

theorem fill_cons {place : Nat → Option (Nat × Nat)} {cur : List Value} {i o m : Nat} {v : Value} {rest : List (Nat × Value)} (hp : place i = some (o, m)) (hv : v.cells.toList.length = m) (hl : o + m ≤ cur.length) :
    Instr.fill place cur.toArray ((i, v) :: rest) = Instr.fill place (splice cur o v.cells.toList).toArray rest := by
  have hv' : v.cells.size = m := by simpa using hv
  simp only [Instr.fill, hp]
  rw [if_neg (by simp [hv']; omega)]
  congr 1
  have e2 : v.cells.zipIdx = (v.cells.toList.zipIdx).toArray := by apply Array.ext'; simp
  rw [e2]
  simp only [List.size_toArray, List.foldl_toArray']
  have := fold_splice o v.cells.toList 0 cur (by omega)
  rw [Nat.add_zero] at this
  exact this

theorem fill_lit (s : Nat) : ∀ (vs : List Value) (j : Nat) (cur : List Value), (∀ v ∈ vs, v.cells.toList.length = s) → cur.length = (j + vs.length) * s →
    Instr.fill (fun i => some (i * s, s)) cur.toArray ((vs.zipIdx j).map fun p => (p.2, p.1)) = some (cur.take (j * s) ++ vs.flatMap fun v => v.cells.toList).toArray
  | [], j, cur, _, hl => by
    simp only [List.zipIdx_nil, List.map_nil, Instr.fill, List.flatMap_nil, List.append_nil]
    rw [List.take_of_length_le (by simp at hl; omega)]
  | v :: vs, j, cur, h, hl => by
    have hv := h v (by simp)
    have hjs : j * s + s ≤ cur.length := by
      rw [hl, ← Nat.succ_mul]; exact Nat.mul_le_mul_right _ (by simp)
    simp only [List.zipIdx_cons, List.map_cons]
    rw [fill_cons rfl hv hjs, fill_lit s vs (j + 1) _ (fun u hu => h u (by simp [hu])) (by
      unfold splice
      simp only [List.length_append, List.length_take, List.length_drop]
      rw [hv, Nat.min_eq_left (by omega)]
      have : (j + 1 + vs.length) * s = cur.length := by rw [hl]; congr 1; simp; omega
      omega)]
    congr 2
    unfold splice
    rw [List.flatMap_cons, ← List.append_assoc]
    congr 1
    have e : (j + 1) * s = (cur.take (j * s) ++ v.cells.toList).length := by
      rw [List.length_append, List.length_take, Nat.min_eq_left (by omega), hv, Nat.succ_mul]
    rw [e]; exact List.take_left

section
variable {P : Program} {n : Nat} {Hs : List En} {Rs : Nat → Bool} {α : Nat → A} {d : Option Tmp} {ty : TypeId} {pos : String} {af : Array Edge} {gd : Option (Nat × Bool)} {next : List En → (Nat → A) → Prop}

theorem RVs.flat {g : G} {s : Nat} : ∀ {ls : List A} {vs : List Value}, RVs g ls vs → (∀ a ∈ ls, wholeA a = true) → RL g ls (vs.flatMap fun v => v.cells.toList)
  | _, _, .nil, _ => .nil
  | _, _, .cons h h', hw => by
    rw [List.flatMap_cons]
    exact .cons (h.cells (hw _ (by simp))) (RVs.flat (s := s) h' (fun a ha => hw a (by simp [ha])))
theorem RVs.lens {g : G} {s : Nat} : ∀ {ls : List A} {vs : List Value}, RVs g ls vs → (∀ a ∈ ls, wholeA a = true) → (∀ a ∈ ls, sz a = s) → ∀ v ∈ vs, v.cells.toList.length = s
  | _, _, .nil, _, _ => by simp
  | _, _, .cons h h', hw, hs => fun v hv => by
    rcases List.mem_cons.1 hv with rfl | hv
    · rw [(h.cells (hw _ (by simp))).len, hs _ (by simp)]
    · exact RVs.lens h' (fun a ha => hw a (by simp [ha])) (fun a ha => hs a (by simp [ha])) v hv
theorem RVs.append {g : G} : ∀ {a b : List A} {c d : List Value}, RVs g a c → RVs g b d → RVs g (a ++ b) (c ++ d)
  | _, _, _, _, .nil, h => h
  | _, _, _, _, .cons h h', k => .cons h (RVs.append h' k)
theorem RVs.length {g : G} : ∀ {ls : List A} {vs : List Value}, RVs g ls vs → vs.length = ls.length
  | _, _, .nil => rfl
  | _, _, .cons _ h' => by simp [RVs.length h']
theorem ER.evs {g : G} {α : Nat → A} {ρ : Env} (h : ER g α ρ) (n : Nat) : ∀ (xs : List Operand), xs.all okC = true → RVs g (xs.map (ea n α)) (xs.map (K.ev n ρ))
  | [], _ => .nil
  | x :: xs, ho => by
    simp only [List.all_cons, Bool.and_eq_true] at ho
    exact .cons (h.ev n x ho.1) (ER.evs h n xs ho.2)

/-- []T{x0, x1, ..} -/
theorem mo_lit {W : List Nat} {t : Tmp} {T e : TypeId} {xs : List Operand} {ls : List A} {ti : TypeInfo} {z : Value} {s : Nat} (hu : P.underlying T = some (.slice e)) (hi : P.info? e = some ti) (hz : ti.zero = some z) (hs : ti.size = s) (hzs : z.cells.size = s) (hx : xs.map (ea n α) = ls)
    (hwb : (ls.all fun a => wholeA a && Nat.beq (sz a) s) = true) (h0b : Nat.blt 0 s = true) (hl0b : Nat.blt 0 xs.length = true) (hbb : Nat.ble (xs.length * s) 16777216 = true) (hdn : Nat.blt t n = true) (h : ∀ k, next (Hs ++ [⟨k, .row e s ls⟩]) (ua α t (.osl k))) {parts : Array (Nat × Operand)} {len : Nat}
    (hp : parts = ((xs.zipIdx).map fun p => (p.2, p.1)).toArray := by rfl) (hlen : len = xs.length := by rfl) (ho : xs.all okC = true := by rfl) : MO P n W ⟨some t, .buildSlice T len parts, ty, pos, af, gd⟩ Hs α next := .of fun w0 S0 g ρ w k hH hE => by
  subst hp hlen
  have h0 : 0 < s := Nat.le_of_ble_eq_true h0b
  have hl0 : 0 < xs.length := Nat.le_of_ble_eq_true hl0b
  have hb : xs.length * s ≤ 16777216 := Nat.le_of_ble_eq_true hbb
  have hw : ∀ a ∈ ls, wholeA a = true := fun a ha => by have := List.all_eq_true.1 hwb a ha; simp only [Bool.and_eq_true] at this; exact this.1
  have hsz : ∀ a ∈ ls, sz a = s := fun a ha => by have := List.all_eq_true.1 hwb a ha; simp only [Bool.and_eq_true] at this; exact Nat.eq_of_beq_eq_true this.2
  have hv := hE.evs n xs ho
  rw [hx] at hv
  have hlv := hv.length
  have hf := fill_lit s (xs.map (ev n ρ)) 0 (((Array.range (xs.length * s)).map (z.cells[· % s]!)).toList) (hv.lens hw hsz) (by simp)
  simp only [Nat.zero_mul, List.take_zero, List.nil_append, Array.toArray_toList] at hf
  have hrun := run_buildSlice (P := P) w T e xs.length ((((xs.zipIdx).map fun p => (p.2, p.1)).toArray).map fun x => (x.1, ev n ρ x.2)) _ ti z hu hi hz (by rw [hs]; omega) (by rw [hs]; have := Nat.mul_pos hl0 h0; omega) (by
    rw [hs, hzs]
    rw [show (((((xs.zipIdx).map fun p => (p.2, p.1)).toArray).map fun x => (x.1, ev n ρ x.2)).toList) = (((xs.map (ev n ρ)).zipIdx 0).map fun p => (p.2, p.1)) by
      simp [List.zipIdx_map, List.map_map, Function.comp_def]]
    exact hf)
  refine ow_value (w' := w.alloc (.cells ((xs.map (K.ev n ρ)).flatMap fun v => v.cells.toList).toArray e)) (v := .slice (some ⟨w.heap.size, 0, none⟩) xs.length xs.length) (by simp only [execOp, Sem.run_bind, hrun, Result.andThen_ok, Sem.run_pure]) rfl hdn ?_
  have hlas : ls.length = xs.length := by rw [← hx]; simp
  have hflat : ((xs.map (K.ev n ρ)).flatMap fun v => v.cells.toList).length = ls.length * s := by rw [(hv.flat (s := s) hw).len, szL_uni hsz]
  have hRL := hv.flat (s := s) hw
  generalize (xs.map (K.ev n ρ)).flatMap (fun v => v.cells.toList) = X at hflat hRL
  have hcap : xs.length ≤ maxLen := by unfold maxLen; have := Nat.mul_le_mul_left xs.length h0; omega
  refine lftW_push (ob := .row e s ls) hH hE (Fr.alloc1 _ _ _) rfl (by simp) rfl (fun g' l hm => ⟨_, X, hm, ⟨hflat, .inr ⟨w.heap.size, xs.length, X.toArray, by rw [hlas], Nat.zero_le _, heap_alloc_new w _, by omega, hcap, by simpa [hlas] using hflat, ?_⟩⟩, hRL.up l, hsz⟩) (.osl (g.push_at _) rfl) (h g.lim)
  exact List.take_of_length_le (by simp only; omega)

/-- Trees of plain cells. -/
theorem rc_v (g : G) {x : Value} (h : x.oneCell' = true) : RC g (.v x) [x] := .v x h
theorem rl_rep (g : G) {x : Value} (h : x.oneCell' = true) (m : Nat) : RL g (List.replicate m (.v x)) (List.replicate m x) := by
  induction m with
  | zero => exact .nil
  | succ m ih => rw [List.replicate_succ, List.replicate_succ]; exact .cons (.v x h) ih
theorem rc_arr (g : G) {x : Value} (h : x.oneCell' = true) (m : Nat) : RC g (.arr m 1 (List.replicate m (.v x))) (List.replicate m x) := .arr (by simp) (fun y hy => by rw [(List.mem_replicate.1 hy).2]; rfl) (rl_rep g h m)

/-- make([]T, m) of one cell an element -/
theorem mo_make {W : List Nat} {t : Tmp} {T e : TypeId} {x y : Operand} {ti : TypeInfo} {z : Value} {m : Nat} (hu : P.underlying T = some (.slice e)) (hi : P.info? e = some ti) (hz : ti.zero = some z) (hs : ti.size = 1) (hby : ti.bytes ≤ 100000) (hzc : z.oneCell' = true) (hx : ea n α x = .v (.int .i64 (m : Int))) (hy : ea n α y = .v (.int .i64 (m : Int)))
    (hm : m ≤ 1000000) (hdn : Nat.blt t n = true) (ls : List A) (hls : ls = List.replicate m (.v z)) (h : ∀ k, next (Hs ++ [⟨k, .row e 1 ls⟩]) (ua α t (.osl k))) (ho : okC x = true := by rfl) (ho' : okC y = true := by rfl) : MO P n W ⟨some t, .makeSlice T x y, ty, pos, af, gd⟩ Hs α next := .of fun w0 S0 g ρ w k hH hE => by
  subst hls
  have h1 := ea_v hE hx ho
  have h2 := ea_v hE hy ho'
  have hb : (ti.bytes : Int) * (m : Int) ≤ 281474976710656 := by
    rw [← Int.natCast_mul]
    have := Nat.mul_le_mul hby hm
    omega
  have hr := run_makeSlice (P := P) (w := w) T e ti z hu hi hz .i64 .i64 (m : Int) (m : Int) (by omega) (by omega) (by rw [hs]; omega) hb (by omega)
  rw [hs, Nat.mul_one, Int.toNat_natCast] at hr
  have hc : madeCells z.cells m = Array.replicate m z := by
    rw [one_cells hzc]
    apply Array.ext
    · simp [madeCells]
    · intro i h1 h2
      simp [madeCells, Nat.mod_one]
  rw [hc] at hr
  refine ow_value (w' := w.alloc (.cells (Array.replicate m z) e)) (v := .slice (some ⟨w.heap.size, 0, none⟩) m m) (by simp only [execOp, Sem.run_bind, h1, h2, hr, Result.andThen_ok, Sem.run_pure]) rfl hdn ?_
  refine lftW_push (ob := .row e 1 (List.replicate m (.v z))) hH hE (Fr.alloc1 _ _ _) rfl (by simp) rfl (fun g' l hm' => ⟨_, List.replicate m z, hm', ⟨by simp, .inr ⟨w.heap.size, m, Array.replicate m z, by simp, Nat.zero_le _, heap_alloc_new w _, by simp, by unfold maxLen; omega, by simp, by simp⟩⟩, rl_rep _ hzc m, fun a ha => by rw [(List.mem_replicate.1 ha).2]; rfl⟩) (.osl (g.push_at _) rfl) (h g.lim)

/-- []T{} -/
theorem mo_lit0 {W : List Nat} {t : Tmp} {T e : TypeId} {ti : TypeInfo} {s : Nat} (hu : P.underlying T = some (.slice e)) (hi : P.info? e = some ti) (_hs : ti.size = s) (hdn : Nat.blt t n = true) (h : ∀ k, next (Hs ++ [⟨k, .row e s []⟩]) (ua α t (.osl k))) :
    MO P n W ⟨some t, .buildSlice T 0 #[], ty, pos, af, gd⟩ Hs α next := .of fun w0 S0 g ρ w k hH hE => by
  refine ow_value (w' := w.alloc (.cells #[] e)) (v := .slice (some ⟨w.heap.size, 0, none⟩) 0 0) ?_ rfl hdn ?_
  · simp [execOp, Instr.buildSlice, underlying, hu, sizeOf, typeInfo, hi, Instr.fill, newRow]
    rw [show Array.map (fun _ => (default : Value)) (Array.range 0) = #[] from by apply Array.ext'; simp]
  · refine lftW_push (ob := .row e s []) hH hE (Fr.alloc1 _ _ _) rfl (by simp) rfl (fun g' l hm => ⟨_, [], hm, ⟨by simp, .inr ⟨w.heap.size, 0, #[], rfl, Nat.zero_le _, heap_alloc_new w _, by simp, by decide, by simp, by simp⟩⟩, .nil, by simp⟩) (.osl (g.push_at _) rfl) (h g.lim)

/-- Parts of a struct or an array that is built. -/
def bldOk (place : Nat → Option (Nat × Nat)) : A → List (Nat × A) → A → Prop
  | t, [], t' => t = t'
  | t, (i, a) :: r, t' => ∃ old, getA t [i] = some old ∧ sz a = sz old ∧ wholeA a = true ∧ place i = some (offA t [i], sz old) ∧ bldOk place (setA t [i] a) r t'
theorem bld_ok {g : G} {place : Nat → Option (Nat × Nat)} : ∀ {ps : List (Nat × A)} {vs : List (Nat × Value)} {t t' : A} {cs : List Value}, RC g t cs → bldOk place t ps t' → ps.map (·.1) = vs.map (·.1) → RVs g (ps.map (·.2)) (vs.map (·.2)) →
    ∃ cs', Instr.fill place cs.toArray vs = some cs'.toArray ∧ RC g t' cs'
  | [], [], _, _, cs, h, hb, _, _ => by cases hb; exact ⟨cs, rfl, h⟩
  | [], _ :: _, _, _, _, _, _, h, _ => by simp at h
  | _ :: _, [], _, _, _, _, _, h, _ => by simp at h
  | (i, a) :: ps, (j, v) :: vs, t, t', cs, h, hb, he, hr => by
    obtain ⟨old, hg, hsz, hw, hp, hb⟩ := hb
    simp only [List.map_cons, List.cons.injEq] at he hr
    obtain ⟨rfl, he⟩ := he
    cases hr with
    | cons hv hr =>
      obtain ⟨pre, c, post, rfl, hpre, hrc, hset⟩ := get_RC [i] h hg
      have hc := hv.cells hw
      have hcl : v.cells.toList.length = c.length := by rw [hc.len, hrc.len, hsz]
      rw [fill_cons (hp.trans (by rw [← hpre, ← hrc.len])) hcl (by simp), splice_mid _ _ _ _ hcl]
      exact bld_ok (hset a _ hc hsz) hb he hr
def bldA (place : Nat → Option (Nat × Nat)) : A → List (Nat × A) → Option A
  | t, [] => some t
  | t, (i, a) :: r => match getA t [i], place i with
    | some old, some (o, m) => bif Nat.beq (sz a) (sz old) && (wholeA a && (Nat.beq o (offA t [i]) && Nat.beq m (sz old))) then bldA place (setA t [i] a) r else none
    | _, _ => none
theorem bldA_ok {place : Nat → Option (Nat × Nat)} : ∀ {ps : List (Nat × A)} {t t' : A}, bldA place t ps = some t' → bldOk place t ps t'
  | [], t, t', h => by simpa [bldA, bldOk] using h
  | (i, a) :: ps, t, t', h => by
    unfold bldA at h
    cases hg : getA t [i] with
    | none => simp [hg] at h
    | some old =>
      cases hp : place i with
      | none => simp [hg, hp] at h
      | some om =>
        obtain ⟨o, m⟩ := om
        simp only [hg, hp] at h
        cases hc : (Nat.beq (sz a) (sz old) && (wholeA a && (Nat.beq o (offA t [i]) && Nat.beq m (sz old)))) with
        | false => rw [hc] at h; cases h
        | true =>
          rw [hc] at h
          simp only [Bool.and_eq_true] at hc
          obtain ⟨h1, h2, h3, h4⟩ := hc
          refine ⟨old, hg, Nat.eq_of_beq_eq_true h1, h2, ?_, bldA_ok h⟩
          rw [hp, Nat.eq_of_beq_eq_true h3, Nat.eq_of_beq_eq_true h4]
theorem my_build {T : TypeId} {ps : List (Nat × Operand)} {ls : List (Nat × A)} {place : Nat → Option (Nat × Nat)} {zt t' : A} {zc : List Value} (hbuilt : ∀ vs, P.built T vs = Instr.fill place zc.toArray vs) (hz : ∀ g, RC g zt zc) (hx : ps.map (fun p => (p.1, ea n α p.2)) = ls) (hb : bldA place zt ls = some t')
    (ha : aggA t' = true) {parts : Array (Nat × Operand)} (hp : parts = ps.toArray := by rfl) (ho : (ps.map (·.2)).all okC = true := by rfl) : MY P n Hs Rs α ⟨d, .build T parts, ty, pos, af, gd⟩ t' := my_of fun g ρ hE => by
  subst hp
  have hv := hE.evs n (ps.map (·.2)) ho
  obtain ⟨cs', hf, hr⟩ := bld_ok (vs := ps.map fun p => (p.1, ev n ρ p.2)) (hz g) (bldA_ok hb) (by rw [← hx]; simp [List.map_map, Function.comp_def]) (by
    rw [← hx]
    simpa [List.map_map, Function.comp_def] using hv)
  refine ⟨.agg cs'.toArray, hr.vala ha, fun w => ?_⟩
  refine ⟨?_⟩
  have := run_build (P := P) w T (ps.toArray.map fun x => (x.1, ev n ρ x.2)) cs'.toArray (by rw [hbuilt]; simpa using hf)
  simp only [execOp, Sem.run_bind, this, Result.andThen_ok, Sem.run_pure]

/-! ### append -/
theorem G.push_F (g : G) (v : Value) : (g.push v).F = g.F := rfl
def setEn : List En → Nat → En → List En
  | [], _, _ => []
  | _ :: es, 0, f => f :: es
  | e :: es, i + 1, f => e :: setEn es i f
theorem setEn_get : ∀ (Hs : List En) (i : Nat) (f : En) (j : Nat) (e : En), (setEn Hs i f)[j]? = some e → (j = i ∧ e = f) ∨ (j ≠ i ∧ Hs[j]? = some e)
  | [], _, _, _, _, h => by simp [setEn] at h
  | _ :: _, 0, f, 0, e, h => by simp [setEn] at h; exact .inl ⟨rfl, h.symm⟩
  | _ :: _, 0, f, j + 1, e, h => by simp [setEn] at h; exact .inr ⟨by simp, by simpa using h⟩
  | _ :: _, i + 1, f, 0, e, h => by simp [setEn] at h; exact .inr ⟨by simp, by simpa using h⟩
  | _ :: es, i + 1, f, j + 1, e, h => by
    simp [setEn] at h
    rcases setEn_get es i f j e h with ⟨h1, h2⟩ | ⟨h1, h2⟩
    · exact .inl ⟨by omega, h2⟩
    · exact .inr ⟨by omega, by simpa using h2⟩
theorem setEn_of {Hs : List En} {q i : Nat} {f e : En} (h : Hs[i]? = some e) (hne : i ≠ q) : (setEn Hs q f)[i]? = some e := by
  induction Hs generalizing q i with
  | nil => simp at h
  | cons x xs ih =>
    cases q with
    | zero =>
      cases i with
      | zero => exact absurd rfl hne
      | succ i => simpa [setEn] using h
    | succ q =>
      cases i with
      | zero => simpa [setEn] using h
      | succ i => simp only [setEn, List.getElem?_cons_succ] at h ⊢; exact ih h (by omega)

/-- An object gives way to another one. -/
theorem HR.repl {w0 : World} {S0 : Nat → Prop} {g : G} {w w' : World} (h : HR w0 S0 g Hs w) {q k : Nat} {ob ob' : Ob} {v' : Value} (hq : Hs[q]? = some ⟨k, ob⟩) (hl : ob.live) (hf : Fr (fun b => g.blk k = some b) w w') (ho : OR (g.push v') w' g.lim ob')
    (hb : ∀ b, blkV v' = some b → (g.blk k = some b ∨ w.heap.size ≤ b) ∧ b < w'.heap.size) : HR w0 S0 (g.push v') (setEn Hs q ⟨g.lim, ob'⟩) w' := by
  have hfro : g.fro w' := h.fro.keep hf (fun b hb => (h.own q _ b hq hl hb).2.2)
  have hold : ∀ (i : Nat) (e : En) (b : Nat), i ≠ q → Hs[i]? = some e → e.ob.live → (g.push v').blk e.k = some b → g.blk e.k = some b ∧ b < w.heap.size ∧ g.blk k ≠ some b := fun i e b hne he hd hk => by
    rw [(h.ob i e he).blkUp hd (g.push_le v')] at hk
    exact ⟨hk, (h.own i e b he hd hk).2.1, fun h2 => h.sep i q e _ b he hq hne hd hl hk h2⟩
  refine ⟨h.fr.trans' hf (fun b hb' hk => ?_), hfro, fun i e he => ?_, fun i e b he hd hk => ?_, fun i j e f b he hf' hne hd hd' hk => ?_⟩
  · rcases (h.own q _ b hq hl hk).1 with h1 | h1
    · exact h1
    · omega
  · rcases setEn_get _ _ _ _ _ he with ⟨_, rfl⟩ | ⟨hne, he⟩
    · exact ho
    · exact ((h.ob i e he).keep hf (fun hd b hb1 hb2 => h.sep i q e _ b he hq hne hd hl hb1 hb2)).up (g.push_le v')
  · rcases setEn_get _ _ _ _ _ he with ⟨_, rfl⟩ | ⟨hne, he⟩
    · rw [G.push_blk] at hk
      have h1 := hb b hk
      rcases h1.1 with h2 | h2
      · have := h.own q _ b hq hl h2
        exact ⟨this.1, h1.2, this.2.2⟩
      · refine ⟨.inr (Nat.le_trans h.fr.size h2), h1.2, ?_⟩
        cases hF : (g.push v').F b with
        | none => rfl
        | some o => have := Array.getElem?_eq_some_iff.1 (h.fro b o hF); have := this.1; omega
    · obtain ⟨h1, h2, _⟩ := hold i e b hne he hd hk
      have := h.own i e b he hd h1
      exact ⟨this.1, Nat.lt_of_lt_of_le h2 hf.size, this.2.2⟩
  · rcases setEn_get _ _ _ _ _ he with ⟨e1, rfl⟩ | ⟨hni, he⟩
    · rw [G.push_blk] at hk
      rcases setEn_get _ _ _ _ _ hf' with ⟨e2, rfl⟩ | ⟨hnj, hf'⟩
      · exact absurd (e1.trans e2.symm) hne
      · intro h3
        obtain ⟨h4, h5, h6⟩ := hold j f b hnj hf' hd' h3
        rcases (hb b hk).1 with h7 | h7
        · exact h6 h7
        · omega
    · obtain ⟨h1, h2, h3⟩ := hold i e b hni he hd hk
      rcases setEn_get _ _ _ _ _ hf' with ⟨e2, rfl⟩ | ⟨hnj, hf'⟩
      · rw [G.push_blk]; intro h4
        rcases (hb b h4).1 with h7 | h7
        · exact h3 h7
        · omega
      · intro h4
        exact h.sep i j e f b he hf' hne hd hd' h1 (hold j f b hnj hf' hd' h4).1

theorem run_append_nil_arg {T ty e : TypeId} {ti : TypeInfo} {w : World} (ht : P.underlying T = some (.slice e)) (hi : P.info? e = some ti) {v : Value} {m s : Nat} {xs : List Value} (ho : w.ownsRow 0 e s v m xs) :
    (Builtin.append_ #[T, T] ty #[v, .slice none 0 0]).run P w = .ok v w := by
  rcases ho.2 with ⟨rfl, rfl⟩ | ⟨b, cap, cur, rfl, _, _, h1, _⟩
  · simp [Builtin.append_, underlying, ht, sizeOf, typeInfo, hi, Builtin.lenOf, Builtin.firstCells]
  · simp [Builtin.append_, underlying, ht, sizeOf, typeInfo, hi, Builtin.lenOf, Builtin.firstCells, h1, storeCells]

theorem mo_append {W : List Nat} {t : Tmp} {x y : Operand} {T e : TypeId} {ti : TypeInfo} {z : Value} {s q k : Nat} {xs ys : List A} (ht : P.underlying T = some (.slice e)) (hi : P.info? e = some ti) (hz : ti.zero = some z) (hs : ti.size = s) (hzs : z.cells.size = s) (h0 : 0 < s) (hby : ti.bytes ≤ 100000)
    (hx : ea n α x = .osl k) (hq : Hs[q]? = some ⟨k, .row e s xs⟩) (hy : ea n α y = .sl ys) (hsz : ∀ a ∈ ys, sz a = s) (h63 : xs.length + ys.length ≤ 1000000000) (hdn : Nat.blt t n = true) (hW : W.contains q = true)
    (h : ∀ k', next (setEn Hs q ⟨k', .row e s (xs ++ ys)⟩) (ua α t (.osl k'))) (ho : okC x = true := by rfl) (ho' : okC y = true := by rfl) : MO P n W ⟨some t, .call { callee := .builtin .append, args := #[x, y], argTypes := #[T, T] }, ty, pos, af, gd⟩ Hs α next := .of fun w0 S0 g ρ w kk hH hE => by
  have hxr := hE.ev n x ho
  rw [hx] at hxr
  have hyr := hE.ev n y ho'
  rw [hy] at hyr
  obtain ⟨v, cs, hm, hown, hr, hxs⟩ := hH.ob q _ hq
  have hv : ev n ρ x = v := by
    generalize ev n ρ x = u at hxr
    cases hxr with
    | osl h => rw [hm] at h; cases h; rfl
  have hbk : ∀ b, g.blk k = some b ↔ ownB v b := fun b => by
    rw [G.blk, hm]
    rcases hown.2 with ⟨rfl, _⟩ | ⟨q, cap, cur, rfl, _⟩ <;> exact Iff.rfl
  have fin : ∀ v' w' ds, w'.ownsRow 0 e s v' (xs.length + ys.length) (cs ++ ds) → RL g ys ds → Fr (ownB v) w w' → (v'.ownBlock = v.ownBlock ∨ ∀ b, ownB v' b → w.heap.size ≤ b) → lftW w0 S0 g Hs W w next [] (upd ρ t v') w' := by
    intro v' w' ds hown' hrd hf hfresh
    have hbv : ∀ b, blkV v' = some b → (g.blk k = some b ∨ w.heap.size ≤ b) ∧ b < w'.heap.size := fun b hb => by
      have hb' : ownB v' b := by
        rcases hown'.2 with ⟨rfl, _⟩ | ⟨q, cap, cur, rfl, _⟩ <;> exact hb
      refine ⟨?_, ?_⟩
      · rcases hfresh with h1 | h1
        · left; rw [hbk]; unfold ownB at *; rw [← h1]; exact hb'
        · right; exact h1 b hb'
      · rcases hown'.2 with ⟨rfl, _⟩ | ⟨q, cap, cur, rfl, _, hh, _⟩
        · simp [ownB, Value.ownBlock] at hb'
        · simp only [ownB, Value.ownBlock, Option.some.injEq] at hb'
          subst hb'; exact (Array.getElem?_eq_some_iff.1 hh).1
    have hone : v'.oneCell' = true := by rcases hown'.2 with ⟨rfl, _⟩ | ⟨_, _, _, rfl, _⟩ <;> rfl
    refine ⟨rfl, g.push v', _, _, ⟨g.push_le _, fun _ _ _ h => h⟩, hH.repl (ob' := .row e s (xs ++ ys)) hq trivial (hf.mono fun b _ hb => (hbk b).2 hb) ⟨v', cs ++ ds, g.push_at _, by rw [List.length_append]; exact hown', (RL.append hr hrd).up (g.push_le _), fun a ha => ?_⟩ hbv,
      (hE.up (g.push_le _)).put t (.osl (g.push_at _) hone), h g.lim, hf.mono fun b _ hb => ⟨q, _, hW, hq, trivial, (hbk b).2 hb⟩, fun i f hf' hi' => setEn_of hf' (fun e => by subst e; rw [hW] at hi'; cases hi')⟩
    rcases List.mem_append.1 ha with ha | ha
    · exact hxs a ha
    · exact hsz a ha
  generalize hu : ev n ρ y = u at hyr
  cases hyr with
  | nil =>
    have hrun : (execOp (ev n ρ) ⟨some t, .call { callee := .builtin .append, args := #[x, y], argTypes := #[T, T] }, ty, pos, af, gd⟩).run P w = .ok (.value v) w := by
      simp only [execOp, resolve, invoke, builtin, Sem.run_bind, Sem.run_pure, Result.andThen_ok, List.map_toArray, List.map_cons, List.map_nil, hv, hu, run_append_nil_arg ht hi hown]
    exact ow_value hrun rfl hdn (fin v w [] (by simpa using hown) .nil (.refl _ _) (.inl rfl))
  | sl s' a c hc hs' hcs hl =>
    rename_i ds
    exact ow_append ht hi hz hs hzs h0 hby hv hown hu (by rw [hl.len, szL_uni hsz]) (hH.fro.cs hcs) hl.one (by omega) hdn (fun v' w' h1 h2 h3 _ => fin v' w' ds h1 hl h2 h3)

/-! ### Calls -/
/-- A contract: from these objects, at these arguments, f returns, leaves objects and an answer. -/
structure MF (P : Program) (f : FuncId) (args : List A) (Hin : List En) (post : List En → A → Prop) : Prop where
  of ::
  out : ∀ g w vs S0, HR w S0 g Hin w → RVs g args vs → Ret P f vs.toArray w (fun v w' => ∃ g' Hs' a, GL w S0 g g' ∧ HR w S0 g' Hs' w' ∧ RV g' a v ∧ post Hs' a)

def okP (ps : List Nat) (m : Nat) : Bool := decide ps.Nodup && ps.all fun q => Nat.blt q m
theorem okP_spec {ps : List Nat} {m : Nat} (h : okP ps m = true) : ps.Nodup ∧ ∀ q ∈ ps, q < m := by
  simp only [okP, Bool.and_eq_true, decide_eq_true_eq, List.all_eq_true] at h
  exact ⟨h.1, fun q hq => Nat.le_of_ble_eq_true (h.2 q hq)⟩
theorem mo_call {f : FuncId} {t : Tmp} {x : Operand} {xs : List Operand} {ls first caps : List A} {tys : Array TypeId} {post : List En → A → Prop} (ps : List Nat) (hf : FnOk P f) (hx : ea n α x = .fn (.func f) first caps) (hxs : first ++ xs.map (ea n α) ++ caps = ls)
    (hc : MF P f ls (pick Hs ps) post) (hps : okP ps Hs.length = true) (hdn : Nat.blt t n = true) (h : ∀ Hs' a, post Hs' a → next (killAt ps Hs 0 ++ Hs') (ua α t a)) {args : Array Operand} (ha : args = xs.toArray := by rfl) (ho : okC x = true := by rfl) (ho' : xs.all okC = true := by rfl) :
    MO P n ps ⟨some t, .call { callee := .value x, args := args, argTypes := tys }, ty, pos, af, gd⟩ Hs α next := .of fun w0 S0 g ρ w k hH hE => by
  subst ha
  have hr := hE.ev n x ho
  rw [hx] at hr
  generalize hv : ev n ρ x = v at hr
  have hev := hE.evs n xs ho'
  cases hr with
  | fn h1 h2 =>
    rename_i vs us
    have hvs : RVs g ls (vs ++ xs.map (ev n ρ) ++ us) := by
      rw [← hxs]
      exact (h1.append hev).append h2
    have hret := hc.out g w _ (blks g Hs ps) (hH.part ps (okP_spec hps).1 (okP_spec hps).2) hvs
    refine ow_callv (first := vs.toArray) (cap := us.toArray) (vs := (vs ++ xs.map (ev n ρ) ++ us).toArray) hf hv (by simp) hdn hret (kret_ret ?_)
    rintro v' w' ⟨g', Hs', a, l, hH', hv', hp⟩
    obtain ⟨hj, hl⟩ := hH.join ps l hH'
    exact ⟨rfl, g', _, _, hl, hj, (hE.up l.le).put t hv', h Hs' a hp, hH'.fr, fun i e he hi => get_app (killAt_of ps Hs 0 i e he (by simpa using hi))⟩

/-! ### Entering and leaving -/
/-- What a result reads as. -/
structure MRes (P : Program) (fn : Func) (n : Nat) (Hs : List En) (α : Nat → A) (a : A) : Prop where
  of ::
  out : ∀ w0 S0 g ρ w, HR w0 S0 g Hs w → ER g α ρ → ∃ v, Res P fn n ρ w v ∧ RV g a v
def mFn (P : Program) (fn : Func) (n : Nat) (post : List En → A → Prop) : MK where
  N := fun Hs α => ∃ a, MRes P fn n Hs α a ∧ post Hs a
  X := fun _ _ _ => False
  R := fun Hs α => ∃ a, MRes P fn n Hs α a ∧ post Hs a

theorem RVs.getD {g : G} : ∀ {ls : List A} {vs : List Value}, RVs g ls vs → ∀ t, RV g (ls.getD t .dead) (vs.getD t undef)
  | _, _, .nil, t => by simpa using .dead _
  | _, _, .cons h h', 0 => by simpa using h
  | _, _, .cons h h', t + 1 => by simpa using RVs.getD h' t
theorem m_enter {f : FuncId} {fn : Func} {c : Code} {args : List A} {Hin : List En} {post : List En → A → Prop} (hf : P.funcs[f]? = some fn) (hb : fn.body = some c) (hn : fn.ntmps = n) (ha : Nat.ble args.length n = true)
    (h : MC P n c (mFn P fn n post) Hin (fun t => args.getD t .dead)) : MF P f args Hin post := .of fun g w vs S0 hH hr => by
  refine k_enter hf hb hn (by simpa [hr.length] using ha) ?_
  have hE : ER g (fun t => args.getD t .dead) (fun t => vs.toArray.getD t undef) := fun t => by
    have e : vs.toArray.getD t undef = vs.getD t undef := by
      simp only [Array.getD, List.getD, List.size_toArray]
      split
      · rename_i h; simp [h]
      · rename_i h; simp [List.getElem?_eq_none (Nat.le_of_not_lt h)]
    show RV g (args.getD t .dead) (vs.toArray.getD t undef)
    rw [e]; exact hr.getD t
  refine k_mono (h.out w S0 g _ w hH hE) ?_ (fun _ _ _ _ h => by obtain ⟨_, _, _, _, _, _, _, h⟩ := h; exact h.elim) ?_ (fun _ _ _ _ h => h.elim)
  · rintro ds ρ w' ⟨rfl, g', Hs', α', l, hH', hE', a, hres, hp⟩
    obtain ⟨v, hv, hrv⟩ := hres.out _ _ _ _ _ hH' hE'
    exact ⟨rfl, v, hv, v, rfl, g', Hs', a, l, hH', hrv, hp⟩
  · rintro ds ρ w' ⟨rfl, g', Hs', α', l, hH', hE', a, hres, hp⟩
    obtain ⟨v, hv, hrv⟩ := hres.out _ _ _ _ _ hH' hE'
    exact ⟨rfl, v, hv, v, rfl, g', Hs', a, l, hH', hrv, hp⟩

variable {fn : Func}
theorem mres0 (hr : fn.results = #[]) : MRes P fn n Hs α (.tup []) := .of fun _ _ _ _ _ _ _ => ⟨_, results_none hr _ _ _, .tup (vs := []) .nil⟩
theorem mres1 {t : Tmp} {a : A} (hr : fn.results = #[.tmp t]) (ha : ea n α (.tmp t) = a) : MRes P fn n Hs α a := .of fun _ _ _ _ _ _ hE => ⟨_, res1 hr rfl, ha ▸ hE.ev n (.tmp t) rfl⟩
theorem mres2 {t u : Tmp} {a b : A} (hr : fn.results = #[.tmp t, .tmp u]) (ha : ea n α (.tmp t) = a) (hb : ea n α (.tmp u) = b) : MRes P fn n Hs α (.tup [a, b]) := .of fun _ _ _ _ _ _ hE =>
  ⟨_, res2 hr rfl rfl, .tup (vs := [_, _]) (.cons (ha ▸ hE.ev n (.tmp t) rfl) (.cons (hb ▸ hE.ev n (.tmp u) rfl) .nil))⟩
theorem mres3 {t u s : Tmp} {a b c : A} (hr : fn.results = #[.tmp t, .tmp u, .tmp s]) (ha : ea n α (.tmp t) = a) (hb : ea n α (.tmp u) = b) (hc : ea n α (.tmp s) = c) : MRes P fn n Hs α (.tup [a, b, c]) := .of fun _ _ _ _ _ _ hE =>
  ⟨_, res3 hr rfl rfl rfl, .tup (vs := [_, _, _]) (.cons (ha ▸ hE.ev n (.tmp t) rfl) (.cons (hb ▸ hE.ev n (.tmp u) rfl) (.cons (hc ▸ hE.ev n (.tmp s) rfl) .nil)))⟩
theorem my_func {f : Fn} {fs cs : List Operand} {as1 as2 : List A} (h1 : fs.map (ea n α) = as1) (h2 : cs.map (ea n α) = as2) {first cap : Array Operand} (hf : first = fs.toArray := by rfl) (hc : cap = cs.toArray := by rfl) (ho : fs.all okC = true := by rfl) (ho' : cs.all okC = true := by rfl) :
    MY P n Hs Rs α ⟨d, .makeFunc f first cap, ty, pos, af, gd⟩ (.fn f as1 as2) := my_of fun g ρ hE => by
  subst hf hc
  refine ⟨_, .fn (h1 ▸ hE.evs n fs ho) (h2 ▸ hE.evs n cs ho'), fun w => y_func (by simp) (by simp)⟩
theorem getA_row {n' s i : Nat} {xs : List A} {el : A} {p : List Nat} (h : xs[i]? = some el) : getA (.arr n' s xs) (i :: p) = getA el p := by simp only [getA, h]
theorem offA_row {n' s i : Nat} {xs : List A} {el : A} {p : List Nat} (h : xs[i]? = some el) : offA (.arr n' s xs) (i :: p) = i * s + offA el p := by simp only [offA, h]
theorem my_loadR {t E : TypeId} {x : Operand} {u : TypeDesc} {m k off q i s : Nat} {p : List Nat} {xs : List A} {el a : A} (hu : P.underlying t = some u) (hx : ea n α x = .ptr k (i :: p) off) (hq : Hs[q]? = some ⟨k, .row E s xs⟩) (hel : xs[i]? = some el) (hg : getA el p = some a) (hoff : i * s + offA el p = off)
    (hag : aggU u = aggA a) (hi : aggA a = true → ∃ ti, P.info? t = some ti ∧ ti.size = m) (hm : sz a = m) (hR : Rs q = true) (ho : okC x = true := by rfl) : MY P n Hs Rs α ⟨d, .load t x, ty, pos, af, gd⟩ a :=
  my_load hu hx hq rfl (by rw [getA_row hel]; exact hg) (by rw [offA_row hel]; exact hoff) hag hi hm hR ho
/-- xs == nil: either way. -/
theorem ml_eqNil {ops : Array Oper} {k : MK} {rest : List Oper} {t : Tmp} {x : Operand} {T T' e : TypeId} {xs : List A} (hu : P.underlying T = some (.slice e)) (hx : ea n α x = .sl xs) (hdn : Nat.blt t n = true)
    (h : ∀ b, (b = true → xs = []) → ML P n ops k rest Hs (ua α t (tv b))) (ho : okC x = true := by rfl) : ML P n ops k (⟨some t, .binOp .eql T x (.const (.slice none 0 0)) T', ty, pos, af, none⟩ :: rest) Hs α := .of fun w0 S0 g0 g ρ w l hH hE => by
  have hr := hE.ev n x ho
  rw [hx] at hr
  generalize hv : ev n ρ x = v at hr
  obtain ⟨a, m, c, rfl, hn⟩ : ∃ a m c, v = .slice a m c ∧ (a.isNone = true → xs = []) := by
    cases hr with
    | nil => exact ⟨_, _, _, rfl, fun _ => rfl⟩
    | sl s a c => exact ⟨_, _, _, rfl, fun h => by simp at h⟩
  have he : ∀ m', (Op.equalIn (m' + 1) T (.slice a m c) (.slice none 0 0)).run P w = .ok a.isNone w := fun m' => by
    unfold Op.equalIn
    cases a <;> simp [underlying, hu]
  have hb : (binOp .eql T (.slice a m c) (.slice none 0 0)).run P w = .ok (.bool a.isNone) w := by
    unfold binOp Op.equal
    have := he (Op.maxDepth - 1)
    rw [show Op.maxDepth - 1 + 1 = Op.maxDepth from rfl] at this
    simp [this]
  have hg : (eqGuard .eql T x (.const (.slice none 0 0)) (.slice a m c) (.slice none 0 0)).run P w = .ok () w := by unfold eqGuard; rfl
  refine kl_val (v := .bool a.isNone) ⟨?_⟩ rfl rfl hdn ((h a.isNone hn).out w0 S0 g0 g _ w l hH (hE.put t (.v _ rfl)))
  have h2 : ev n ρ (.const (.slice none 0 0)) = .slice none 0 0 := rfl
  simp only [execOp, hv, h2, Sem.run_bind, hg, Result.andThen_ok, hb, Sem.run_pure]
/-- p == nil of a pointer to an object. -/
theorem my_eqlPtr {x : Operand} {T T' e : TypeId} {k : Nat} {p : List Nat} {off : Nat} (hu : P.underlying T = some (.pointer e)) (hx : ea n α x = .ptr k p off) (ho : okC x = true := by rfl) : MY P n Hs Rs α ⟨d, .binOp .eql T x (.const (.pointer none)) T', ty, pos, af, gd⟩ (tv false) := my_of fun g ρ hE => by
  have hr := hE.ev n x ho
  rw [hx] at hr
  obtain ⟨b, o, hv, _⟩ := ptr_at hr
  refine ⟨_, .v (.bool false) rfl, fun w => ⟨?_⟩⟩
  have he : ∀ m', (Op.equalIn (m' + 1) T (.pointer (some ⟨b, o + off, none⟩)) (.pointer none)).run P w = .ok false w := fun m' => by
    unfold Op.equalIn
    simp [underlying, hu]
  have hb : (binOp .eql T (.pointer (some ⟨b, o + off, none⟩)) (.pointer none)).run P w = .ok (.bool false) w := by
    unfold binOp Op.equal
    have := he (Op.maxDepth - 1)
    rw [show Op.maxDepth - 1 + 1 = Op.maxDepth from rfl] at this
    simp [this]
  have hg : (eqGuard .eql T x (.const (.pointer none)) (.pointer (some ⟨b, o + off, none⟩)) (.pointer none)).run P w = .ok () w := by unfold eqGuard; rfl
  have h2 : K.ev n ρ (.const (.pointer none)) = .pointer none := rfl
  simp only [execOp, hv, h2, Sem.run_bind, hg, Result.andThen_ok, hb, Sem.run_pure]
theorem MRes.weak {fn : Func} {a a' : A} (h : MRes P fn n Hs α a) (hw : ∀ g v, RV g a v → RV g a' v) : MRes P fn n Hs α a' := .of fun w0 S0 g ρ w hH hE => by
  obtain ⟨v, h1, h2⟩ := h.out w0 S0 g ρ w hH hE
  exact ⟨v, h1, hw g v h2⟩
theorem rv_nl (g : G) (v : Value) (h : RV g .nl v) : RV g (.sl []) v := by cases h; exact .nil
theorem rv_tnl (b : A) (g : G) (v : Value) (h : RV g (.tup [.nl, b]) v) : RV g (.tup [.sl [], b]) v := by
  cases h with
  | tup h => cases h with | cons h h' => exact .tup (.cons (rv_nl _ _ h) h')
/-- s[:h] of a text -/
theorem my_strHi {t : TypeId} {x hi : Operand} {kk : IntKind} {i : Int} {a : ByteArray} (hu : P.underlying t = some .string) (hx : ea n α x = sv a) (hh : ea n α hi = iv kk i) (h0 : 0 ≤ i) (h1 : i ≤ a.size) (ho : okC x = true := by rfl) (ho' : okC hi = true := by rfl) :
    MY P n Hs Rs α ⟨d, .slice t x none (some hi) none, ty, pos, af, gd⟩ (sv (a.extract 0 i.toNat)) := my_of fun g ρ hE => ⟨_, .v _ rfl, fun w => ⟨by
  have h2 := ea_v hE hx ho
  have h3 := ea_v hE hh ho'
  simp only [execOp, Instr.sliceAt, Instr.slice, Instr.sliceBounds, underlying, hu, h2, h3, Sem.run_bind, run_program, Result.andThen_ok, Sem.run_pure, Option.map_some, Option.map_none]
  simp only [Option.isSome_none, Bool.false_eq_true, if_false, Sem.run_bind, Sem.run_pure, Result.andThen_ok]
  rw [run_sliceBound h0 h1]
  simp⟩⟩
theorem sh_frz (t : Nat) {q k s : Nat} {E : TypeId} {xs : List A} (hq : Hs[q]? = some ⟨k, .row E s xs⟩) (ht : α t = .osl k) : Shift Hs α (setOb Hs q .dead) (ua α t (.sl xs)) := sh_freeze hq fun u => by
  by_cases e : u = t
  · subst e; right; exact ⟨ht, ua_same _ _ _⟩
  · left; exact ua_ne _ _ e
theorem ml_norm {ops : Array Oper} {k : MK} {l : List Oper} (f : List Nat) (Hs' : List En) (hf : f.Nodup) (he : pick Hs f = Hs') (h : ML P n ops k l Hs' α) : ML P n ops k l Hs α := ml_pre (he ▸ sh_pick f hf) h
theorem mr_norm {ops : Array Oper} {k : MK} {wv : List Nat} {r : List (Nat × Bool)} (f : List Nat) (Hs' : List En) (hf : f.Nodup) (he : pick Hs f = Hs') (hr : ∀ i, Rs i = true → Hs'[i]? = Hs[i]?) (h : MR P n ops k Rs wv r Hs' α) : MR P n ops k Rs wv r Hs α := .of fun w0 S0 g0 g ρ w l hH hE => by
  have hs := sh_pick (Hs := Hs) (α := α) f hf w0 S0 g w ρ hH hE
  rw [he] at hs
  have hH' : HR w0 S0 g Hs' w := by
    have : ∃ f' : List Nat, f'.Nodup ∧ (∀ q ∈ f', q < Hs.length) ∧ pick Hs f = pick Hs f' := by
      refine ⟨f.filter (· < Hs.length), hf.filter _, fun q hq => by simpa using (List.mem_filter.1 hq).2, ?_⟩
      unfold pick
      clear hf he
      induction f with
      | nil => rfl
      | cons q f ih =>
        by_cases h : q < Hs.length
        · rw [List.filter_cons_of_pos (by simpa using h), List.filterMap_cons, List.filterMap_cons, ih]
        · rw [List.filter_cons_of_neg (by simpa using h), List.filterMap_cons, List.getElem?_eq_none (by omega), ih]
    obtain ⟨f', h1, h2, h3⟩ := this
    rw [← he, h3]
    have hp := hH.part f' h1 h2
    refine ⟨hH.fr, hp.fro, hp.ob, fun i e b he hd hb => ?_, hp.sep⟩
    have := hp.own i e b he hd hb
    refine ⟨?_, this.2⟩
    rcases this.1 with ⟨j, e', _, hj, hd', hb'⟩ | h4
    · exact (hH.own j e' b hj hd' hb').1
    · exact .inr (Nat.le_trans hH.fr.size h4)
  have hS : Stab g Hs Rs w = Stab g Hs' Rs w := by
    funext w'
    refine propext ⟨fun h => ⟨h.fro, fun i e b hR hi hl hb => h.ob i e b hR (by rw [← hr i hR]; exact hi) hl hb⟩, fun h => ⟨h.fro, fun i e b hR hi hl hb => h.ob i e b hR (by rw [hr i hR]; exact hi) hl hb⟩⟩
  rw [hS]
  exact h.out w0 S0 g0 g ρ w l hH' hE
theorem m_norm {c : Code} {k : MK} (f : List Nat) (Hs' : List En) (hf : f.Nodup) (he : pick Hs f = Hs') (h : MC P n c k Hs' α) : MC P n c k Hs α := m_pre (he ▸ sh_pick f hf) h
/-- Arguments that read as less. -/
inductive Wk : List A → List A → Prop
  | nil : Wk [] []
  | cons1 {a : A} {l m : List A} (h : Wk l m) : Wk (a :: l) (a :: m)
  | consN {l m : List A} (h : Wk l m) : Wk (.nl :: l) (.sl [] :: m)
theorem Wk.rvs {g : G} : ∀ {l m : List A} {vs : List Value}, Wk l m → RVs g l vs → RVs g m vs
  | _, _, _, .nil, .nil => .nil
  | _, _, _, .cons1 h, .cons h1 h2 => .cons h1 (h.rvs h2)
  | _, _, _, .consN h, .cons h1 h2 => .cons (by cases h1; exact .nil) (h.rvs h2)
theorem mf_args {f : FuncId} {args args' : List A} {Hin : List En} {post : List En → A → Prop} (h : MF P f args Hin post) (hw : Wk args' args) : MF P f args' Hin post := .of fun g w vs S0 hH hr => h.out g w vs S0 hH (hw.rvs hr)
theorem mf_post {f : FuncId} {args : List A} {Hin : List En} {post post' : List En → A → Prop} (h : MF P f args Hin post) (hp : ∀ Hs a, post Hs a → post' Hs a) : MF P f args Hin post' := .of fun g w vs S0 hH hr =>
  (h.out g w vs S0 hH hr).mono fun _ _ ⟨g', Hs', a, h1, h2, h3, h4⟩ => ⟨g', Hs', a, h1, h2, h3, hp _ _ h4⟩
/-- []byte("..") -/
theorem mo_convB {W : List Nat} {t : Tmp} {T e : TypeId} {x : Operand} {q k s : Nat} {xs : List A} (ht : P.underlying T = some (.slice e)) (he : P.underlying e = some (.int .u8)) (hx : ea n α x = .osl k) (hq : Hs[q]? = some ⟨k, .row e s xs⟩) (hne : xs ≠ []) (hW : W.contains q = true) (hdn : Nat.blt t n = true)
    (h : next (setOb Hs q .dead) (ua α t (.sl xs))) (ho : okC x = true := by rfl) : MO P n W ⟨some t, .convert T T x, ty, pos, af, gd⟩ Hs α next := .of fun w0 S0 g ρ w kk hH hE => by
  have hxr := hE.ev n x ho
  rw [hx] at hxr
  obtain ⟨v, cs, hm, hown, hr, hsz⟩ := hH.ob q _ hq
  have hv : ev n ρ x = v := by
    generalize ev n ρ x = u at hxr
    cases hxr with
    | osl h => rw [hm] at h; cases h; rfl
  rcases hown.2 with ⟨_, h0⟩ | ⟨b, cap, cur, rfl, _, hh, hcap, _, hcs, htake⟩
  · exact absurd (List.eq_nil_of_length_eq_zero h0) hne
  have hsh : w.shape? b = some (e, cur.size) := by unfold World.shape?; rw [hh]
  let w' : World := w.freeze ⟨b, cur.size, none⟩ 1
  have hw' : w'.heap = w.heap.modify b fun
      | .cells c elem (lo, hi) => .cells c elem (if lo == hi then (cur.size, cur.size + 1) else (min lo cur.size, max hi (cur.size + 1)))
      | o => o := rfl
  have hb' : w'.heap[b]? = some (.cells cur e (cur.size, cur.size + 1)) := by
    rw [hw', Array.getElem?_modify, if_pos rfl, hh]; rfl
  have hfr : Fr (· = b) w w' := ⟨rfl, rfl, rfl, by rw [hw']; simp, fun i _ hi => by rw [hw', Array.getElem?_modify, if_neg (fun h => hi h.symm)]⟩
  have hbk : g.blk k = some b := by rw [G.blk, hm]; rfl
  have hoq := hH.own q _ b hq trivial hbk
  let g' : G := ⟨fun x => if x = b then some (.cells cur e (cur.size, cur.size + 1)) else g.F x, g.m, g.lim, g.fin⟩
  have hle : g.le g' := ⟨fun x o hx => by
    show (if x = b then _ else _) = _
    rw [if_neg (fun e => by rw [e, hoq.2.2] at hx; cases hx)]; exact hx, fun _ _ h => h⟩
  have hgl : GL w0 S0 g g' := ⟨hle, fun x h1 h2 h3 => by
    show (if x = b then _ else _) = _
    rw [if_neg (fun e => by
      subst e
      rcases hoq.1 with h | h
      · exact h2 h
      · omega)]; exact h3⟩
  have hdead : HR w0 S0 g (setOb Hs q .dead) w' := hH.set hq trivial (hfr.mono fun i _ hi => by rw [hbk, hi]) trivial
  have hfro : g'.fro w' := fun x o hx => by
    have hx' : (if x = b then some (.cells cur e (cur.size, cur.size + 1)) else g.F x) = some o := hx
    by_cases e : x = b
    · rw [if_pos e] at hx'; cases hx'; rw [e]; exact hb'
    · rw [if_neg e] at hx'; exact hdead.fro x o hx'
  have hrun : (execOp (K.ev n ρ) ⟨some t, .convert T T x, ty, pos, af, gd⟩).run P w = .ok (.value (.slice (some ⟨b, 0, none⟩) xs.length cap)) w' := by
    have hc : (convert T T (.slice (some ⟨b, 0, none⟩) xs.length cap)).run P w = .ok (.slice (some ⟨b, 0, none⟩) xs.length cap) w' := by
      simp [convert, run_underlying ht, run_underlying he, markStringish, hsh]
      rfl
    simp only [execOp, Sem.run_bind, hv, hc, Result.andThen_ok, Sem.run_pure]
  refine ow_value hrun rfl hdn ⟨rfl, g', _, _, hgl, hdead.up hle hfro (fun i f c hi hd hb => ?_), (hE.up hle).put t (.sl s _ cap hcap hsz (fun j u hj => ?_) (hr.up hle)), h, hfr.mono fun i _ hi => ⟨q, _, hW, hq, trivial, by rw [hbk, hi]⟩, fun i f hf hi => setOb_of hf (fun e => by subst e; rw [hW] at hi; cases hi)⟩
  · show (if c = b then _ else _) = _
    rcases setOb_get _ _ _ _ _ hi with ⟨_, e', _, rfl⟩ | ⟨hne, hi⟩
    · exact absurd hd (fun h => h)
    · rw [if_neg (fun e2 => by subst e2; exact hH.sep i q f _ c hi hq hne hd trivial hb hbk)]
      exact (hH.own i f c hi hd hb).2.2
  · rw [add_mk, Nat.zero_add]
    have hF : g'.F b = some (.cells cur e (cur.size, cur.size + 1)) := by show (if b = b then _ else _) = _; rw [if_pos rfl]
    simp only [G.cell?, hF]
    rw [← htake, List.getElem?_take] at hj
    split at hj
    · simpa using hj
    · cases hj
def u8A (b : UInt8) : A := .v (.int .u8 b.toNat)
theorem rep_u8 (m : Nat) : (List.replicate m (0 : UInt8)).map u8A = List.replicate m (.v (.int .u8 0)) := by rw [List.map_replicate]; rfl
theorem my_b2s {T D e : TypeId} {x : Operand} {l : List UInt8} (hs : P.underlying T = some (.slice e)) (he : P.underlying e = some (.int .u8)) (hd : P.underlying D = some .string) (hx : ea n α x = .sl (l.map u8A)) (ho : okC x = true := by rfl) :
    MY P n Hs Rs α ⟨d, .convert T D x, ty, pos, af, gd⟩ (sv ⟨l.toArray⟩) := .of fun w0 S0 g ρ w hH hE => by
  have h := hE.ev n x ho
  rw [hx] at h
  have key : ∀ (l : List UInt8) (cs : List Value), RL g (l.map u8A) cs → cs = (l.map fun b => (b.toNat : Int)).map (Value.int .u8) := by
    intro l
    induction l with
    | nil => intro cs h; cases h; rfl
    | cons b l ih =>
      intro cs h
      cases h with
      | cons h h' => cases h with | v _ _ => rw [ih _ h']; rfl
  refine ⟨.string ⟨l.toArray⟩, .v _ rfl, fun w' hS => ?_⟩
  have hrun : (convert T D (K.ev n ρ x)).run P w' = .ok (.string ⟨l.toArray⟩) w' := by
    generalize K.ev n ρ x = v at h
    generalize hl : l.map u8A = xs at h
    cases h with
    | nil =>
      rw [run_convert_bytes_string w' T D e none 0 0 hs he hd]
      have : l = [] := by simpa using hl
      subst this
      rfl
    | sl s a c hc hs' hcs hr =>
      rw [run_convert_bytes_string w' T D e (some a) _ c hs he hd]
      subst hl
      have e2 := key l _ hr
      have hl := run_loadCells (P := P) (hS.fro.cs hcs)
      rw [e2] at hl
      simp only [List.length_map] at hl ⊢
      rw [run_bytesToString w' a l.length c (l.map fun b => (b.toNat : Int)) hl, Go.foldl_push_bytes]
      have e3 : (ByteArray.empty.data ++ (List.map (fun n => UInt8.ofNat n.toNat) (l.map fun b => (b.toNat : Int))).toArray) = l.toArray := by
        simp [List.map_map, Function.comp_def]
      rw [e3]
  refine ⟨?_⟩
  simp only [execOp, Sem.run_bind, hrun, Result.andThen_ok, Sem.run_pure]
end
end Go.Proofs.Ytlklapledogdcaa.K
