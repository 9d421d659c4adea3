/- An object laid anew: in its old block or in a new one. Each operation of the abstract machine is the model's, 6: append, copy, make. Each operation of the abstract machine is the model's, 7: append, copy, make, slices built. Each operation of the abstract machine is the model's, 8: '==' of structs and arrays; make; slices built. Each operation of the abstract machine is the model's, 9: make, slices built. Each operation of the abstract machine but a call is the model's: all of them at once. Calls: what a callee's contract gives its caller. Objects given other numbers. Calls that hand the caller's objects over. One operation of a region, calls too. -/
import Derived.Test.YthbhafgdbndamaaAmA
import Derived.Laws.Append
import Derived.IntWalk
import Derived.Orders
set_option linter.unusedVariables false
set_option linter.unusedSimpArgs false
namespace Go.Proofs.Am
open Go

section
variable {w0 : World} {B M U : Nat → Prop} {w w' : World} {μ : Nat → Value} {ob : Heap}

/-- the block that an object has now -/
def HasBlock (ob : Heap) (μ : Nat → Value) (o b : Nat) : Prop := ∃ x, ob o = some x ∧ blockOf (μ o) = some b

theorem Rel.put (R : Rel B w0 M U w μ ob) (o : Nat) (hold : (∃ x, ob o = some x ∧ muta x = true) ∨ ¬ U o) (x' : Obj) (val : Value)
    (hos : w'.os = w.os) (htape : w'.tape = w.tape) (hout : w'.output = w.output) (hsize : w.heap.size ≤ w'.heap.size)
    (hheap : ∀ b, b < w.heap.size → ¬ HasBlock ob μ o b → w'.heap[b]? = w.heap[b]?)
    (hval : ∀ b, blockOf val = some b → HasBlock ob μ o b ∨ w.heap.size ≤ b)
    (hrefs : ∀ o' ∈ refsO (some x'), U o' ∨ o' = o) (hkeepo : U o → Keep ob μ (upd ob o (some x')) (upd μ o val) o)
    (hok : ∀ (ob' : Heap) (μ' : Nat → Value), μ' o = val → (∀ b, Imm B w ob μ b → Imm B w' ob' μ' b) → (∀ b, Imm B w ob μ b → w'.heap[b]? = w.heap[b]?) → (∀ o, U o → Keep ob μ ob' μ' o) → ObjOK w' (Imm B w' ob' μ') ob' μ' o x') :
    Step B w0 M U (fun o' => U o' ∨ o' = o) w w' μ (upd μ o val) ob (upd ob o (some x')) := by
  have hnb : ∀ b, Imm B w ob μ b → ¬ HasBlock ob μ o b := fun b hb ⟨x, hx, he⟩ => by
    rcases hold with ⟨y, hy, hm⟩ | hU
    · rw [hx] at hy
      cases hy
      exact hb.2.1 o x hx hm he
    · exact hU (R.used o x hx).1
  have hI : ∀ b, Imm B w ob μ b → Imm B w' (upd ob o (some x')) (upd μ o val) b := fun b hb => by
    refine ⟨by have := hb.1; omega, fun o' z hz hm he => ?_, hb.2.2⟩
    rcases upd_some hz with ⟨rfl, _⟩ | ⟨ho, hz⟩
    · rw [upd_eq] at he
      rcases hval b he with h | h
      · exact hnb b hb h
      · have := hb.1; omega
    · rw [upd_ne _ _ ho] at he
      exact hb.2.1 o' z hz hm he
  have hw : ∀ b, Imm B w ob μ b → w'.heap[b]? = w.heap[b]? := fun b hb => hheap b hb.1 (hnb b hb)
  have hk : ∀ o', U o' → Keep ob μ (upd ob o (some x')) (upd μ o val) o' := fun o' ho' => by
    by_cases e : o' = o
    · subst e; exact hkeepo ho'
    · exact Keep.same (upd_ne _ _ e) (upd_ne _ _ e)
  have hother : ∀ o' z b, o' ≠ o → ob o' = some z → blockOf (μ o') = some b → ¬ HasBlock ob μ o b := fun o' z b hne hz hb ⟨x, hx, he⟩ => hne (R.inj o' o z x b hz hx hb he)
  refine ⟨R.change ⟨hos.trans R.fr.os, htape.trans R.fr.tape, hout.trans R.fr.output, Nat.le_trans R.fr.size hsize, fun b hb hM => ?_⟩ (fun _ h => .inl h) hI hw hk (fun o' z hz => ?_) ?_, fun _ h => .inl h, hI, hw, hk, fun o' ho' h0 => (upd_ne _ _ fun e => by
    subst e
    rcases hold with ⟨y, hy, _⟩ | hU
    · rw [hy] at h0; cases h0
    · exact hU ho').trans h0⟩
  · rw [hheap b (Nat.lt_of_lt_of_le hb R.fr.size) fun ⟨x, hx, he⟩ => ?_]
    · exact R.fr.block b hb hM
    · rcases hold with ⟨y, hy, hm⟩ | hU
      · rw [hx] at hy
        cases hy
        rcases R.own o x b hx he with h | h
        · exact hM h
        · omega
      · exact hU (R.used o x hx).1
  · rcases upd_some hz with ⟨rfl, he⟩ | ⟨ho, hz⟩
    · cases he
      refine .inr ⟨.inr rfl, hrefs, hok _ _ (upd_eq _ _ _) hI hw hk, fun b hb => ?_, fun b hb => ?_⟩
      rotate_left
      · rw [upd_eq] at hb
        rcases hval b hb with ⟨x, hx, he⟩ | h
        · exact R.inB _ x b hx he
        · exact R.new b (Nat.le_trans R.fr.size h)
      rw [upd_eq] at hb
      rcases hval b hb with ⟨x, hx, he⟩ | h
      · rcases hold with ⟨y, hy, hm⟩ | hU
        · rw [hx] at hy
          cases hy
          exact R.own o' x b hx he
        · exact absurd (R.used o' x hx).1 hU
      · exact .inr (Nat.le_trans R.fr.size h)
    · refine .inl ⟨hz, upd_ne _ _ ho, fun b hb => hheap b (R.lt hz hb) (hother o' z b ho hz hb)⟩
  · intro o1 o2 z z' b h1 h2 hb hb'
    rcases upd_some h1 with ⟨e1, _⟩ | ⟨h1', h3⟩ <;> rcases upd_some h2 with ⟨e2, _⟩ | ⟨h2', h4⟩
    · rw [e1, e2]
    · rw [e1, upd_eq] at hb
      rw [upd_ne _ _ h2'] at hb'
      rcases hval b hb with h | h
      · exact absurd h (hother o2 z' b h2' h4 hb')
      · have := R.lt h4 hb'; omega
    · rw [e2, upd_eq] at hb'
      rw [upd_ne _ _ h1'] at hb
      rcases hval b hb' with h | h
      · exact absurd h (hother o1 z b h1' h3 hb)
      · have := R.lt h3 hb; omega
    · rw [upd_ne _ _ h1'] at hb
      rw [upd_ne _ _ h2'] at hb'
      exact R.inj o1 o2 z z' b h3 h4 hb hb'
end

/-! ### flat rows, written -/
theorem flat_set {s : Nat} : ∀ {elems : List (List D)} (h : ∀ e ∈ elems, e.length = s) {i j : Nat} {e ds : List D}, elems[i]? = some e → j + ds.length ≤ s →
    flatD (elems.set i (setCells e j ds)) = (flatD elems).take (i * s + j) ++ ds ++ (flatD elems).drop (i * s + j + ds.length)
  | [], _, i, j, e, ds, h1, _ => by simp at h1
  | x :: r, h, i, j, e, ds, h1, h2 => by
    have hx := h x (by simp)
    cases i with
    | zero =>
      simp at h1
      subst h1
      simp only [List.set_cons_zero, flatD, List.flatten_cons, Nat.zero_mul, Nat.zero_add]
      rw [setCells_eq _ _ _ (by omega)]
      rw [List.take_append_of_le_length (by omega), List.drop_append_of_le_length (by omega)]
      simp
    | succ i =>
      simp at h1
      have ih := flat_set (elems := r) (fun y hy => h y (by simp [hy])) h1 h2
      simp only [flatD] at ih
      simp only [List.set_cons_succ, flatD, List.flatten_cons, ih]
      have e1 : (i + 1) * s + j = x.length + (i * s + j) := by rw [hx, Nat.add_mul]; omega
      have e2 : (i + 1) * s + j + ds.length = x.length + (i * s + j + ds.length) := by rw [e1]; omega
      rw [e2, e1, List.take_length_add_append, List.drop_length_add_append]
      simp

theorem RepDs.part {w : World} {I : Nat → Prop} {vs : List Value} {ds : List D} (h : RepDs w I vs ds) : (∀ k, RepDs w I (vs.take k) (ds.take k)) ∧ ∀ k, RepDs w I (vs.drop k) (ds.drop k) := by
  refine ⟨fun k => RepDs.mk (by simp [h.length]) fun i v x h1 h2 => ?_, fun k => RepDs.mk (by simp [h.length]) fun i v x h1 h2 => ?_⟩
  · rw [List.getElem?_take] at h1 h2
    split at h1
    · rename_i hi
      rw [if_pos hi] at h2
      obtain ⟨u, hu, hr⟩ := h.at i x h2
      rw [hu] at h1
      cases h1
      exact hr
    · cases h1
  · rw [List.getElem?_drop] at h1 h2
    obtain ⟨u, hu, hr⟩ := h.at _ x h2
    rw [hu] at h1
    cases h1
    exact hr

theorem updAll_other : ∀ (l : List (Nat × Obj)) (ob : Heap) (o : Nat), (∀ p ∈ l, p.1 ≠ o) → updAll ob l o = ob o
  | [], _, _, _ => rfl
  | (q, x) :: l, ob, o, h => by
    simp only [updAll]
    rw [updAll_other l _ o fun p hp => h p (by simp [hp]), upd_ne _ _ (Ne.symm (h (q, x) (by simp)))]

section
variable {P : Program} {o : Oper} {a : Act} {w0 : World} {B M U : Nat → Prop} {w : World} {μ : Nat → Value} {ob : Heap} {id : Nat}

theorem ObjOK.row_mk {w' : World} {I : Nat → Prop} {ob' : Heap} {μ' : Nat → Value} {o v s : Nat} {f : Bool} {elems : List (List D)} {xs : List Value} (hs : 0 < s) (hl : ∀ e ∈ elems, e.length = s) (hown : OwnRow w' s (μ' o) elems.length xs) (hr : RepDs w' I xs (flatD elems)) :
    ObjOK w' I ob' μ' o (.row v f s elems) := ⟨hs, hl, xs, hown, hr⟩

/-- cells of a row of the call's own are written -/
theorem Rel.rowWrite (R : Rel B w0 M U w μ ob) {o v s : Nat} {elems elems' : List (List D)} (hx : ob o = some (.row v false s elems)) {b n c : Nat} (hm : μ o = .slice (some ⟨b, 0, none⟩) n c)
    (k : Nat) {us : List Value} {ds : List D} (hr : RepDs w (Imm B w ob μ) us ds) (hk : k + us.length ≤ elems.length * s) (hlen : elems'.length = elems.length) (hl : ∀ e ∈ elems', e.length = s)
    (hflat : flatD elems' = (flatD elems).take k ++ ds ++ (flatD elems).drop (k + ds.length)) :
    ∃ cur e, w.heap[b]? = some (.cells cur e (0, 0)) ∧ k + us.length ≤ cur.size ∧
      Step B w0 M U U w (w.setRow b (cur.toList.take k ++ us ++ cur.toList.drop (k + us.length)).toArray) μ μ ob (upd ob o (some (.row v false s elems'))) := by
  obtain ⟨hs, hel, xs, hown, hrep⟩ := R.row hx
  obtain ⟨cur, e, hcur, hsz, hown'⟩ := hown.setRow hm k us hk
  refine ⟨cur, e, hcur, hsz, ?_⟩
  refine R.write o _ _ hx rfl b (by rw [hm]; rfl) _ (by simp [refsO]) ?_ fun w' ob' hw' hI hw hkp => ?_
  · unfold Keep
    rw [hx, upd_eq]
    simp
  · subst hw'
    refine ObjOK.row_mk hs hl (by rw [hlen]; exact hown') ?_
    rw [hflat, ← hr.length]
    exact (((hrep.part.1 k).append hr).append (hrep.part.2 _)).mono hI hw

theorem good_store_row (R : Rel B w0 M U w μ ob) {t : TypeId} {x y : Operand} {n o' ver i j s : Nat} {elems : List (List D)} {e : List D} {cs : List V} {vy : V} {r : List D × List (Nat × Obj)} (ho : o.op = .store t x y) (hn : sizeT P t = some n)
    (hx : Val B U w μ ob (a.eval x) (.ref o' ver i j)) (hob : ob o' = some (.row ver false s elems)) (hy : Val B U w μ ob (a.eval y) vy) (hc : cellsOf vy = some cs) (hl : cs.length = n) (hj : j + n ≤ s) (he : elems[i]? = some e)
    (hr : rowCells ob cs = some r) (hnot : ∀ p ∈ r.2, p.1 ≠ o') :
    Good P o a B w0 M U w μ ob id .undef (r.2 ++ [(o', .row ver false s (elems.set i (setCells e j r.1)))]) := by
  have h1 := hx.1
  simp only [RepV, hob] at h1
  obtain ⟨b, n', c, hm, hval⟩ := h1.2.2 trivial
  have hcells := hy.1.cells hc
  have hrefs : ∀ o ∈ refsL cs, U o := fun o ho => hy.2 o (by rw [← refs_cells hc]; exact ho)
  obtain ⟨S1, hds, hlen, hob1⟩ := R.rowCells hr hcells hrefs
  have hob' : updAll ob r.2 o' = some (.row ver false s elems) := (updAll_other _ _ _ hnot).trans hob
  have hel := (R.row hob).2.1
  have hsz : (a.eval y).cells.size = n := by have := hcells.length; simp at this; omega
  have hrl : r.1.length = n := by rw [hlen, hl]
  have hi : i < elems.length := (List.getElem?_eq_some_iff.1 he).1
  have hbig : i * s + j + n ≤ elems.length * s := by
    have : (i + 1) * s ≤ elems.length * s := Nat.mul_le_mul_right s hi
    rw [Nat.add_mul] at this
    omega
  obtain ⟨cur, te, hcur, hcsz, S2⟩ := S1.rel.rowWrite hob' hm (i * s + j) (us := (a.eval y).cells.toList) hds (elems' := elems.set i (setCells e j r.1)) (by simp [hsz]; omega) (by simp)
    (fun e' he' => by
      rcases List.mem_or_eq_of_mem_set he' with h | rfl
      · exact hel e' h
      · rw [setCells_length]; exact hel e (List.mem_of_getElem? he))
    (flat_set hel he (by omega))
  have hrun := run_storeVar' (P := P) (w := w) hn b (i * s + j) te (a.eval y) hsz cur hcur (by simp [hsz] at hcsz; omega) hcells.one
  have S := S1.trans S2
  have hups : updAll ob (r.2 ++ [(o', .row ver false s (elems.set i (setCells e j r.1)))]) = upd (updAll ob r.2) o' (some (.row ver false s (elems.set i (setCells e j r.1)))) := by
    rw [updAll_append]
    rfl
  refine ⟨.skip, undef, w.setRow b (cur.toList.take (i * s + j) ++ (a.eval y).cells.toList ++ cur.toList.drop (i * s + j + n)).toArray, μ, by simp [execOp, ho, Instr.storeAt, hval, Instr.sureAddr, hrun], .inr ⟨rfl, rfl⟩, ?_, by simp [RepV], by simp [refsV]⟩
  rw [hups]
  have hsz' : (a.eval y).cells.toList.length = n := by simp [hsz]
  rw [hsz'] at S
  exact S.newU fun o ho => .inl ho
end
end Go.Proofs.Am
set_option linter.unusedVariables false
set_option linter.unusedSimpArgs false
namespace Go.Proofs.Am
open Go

section
variable {P : Program} {o : Oper} {a : Act} {w0 : World} {B M U : Nat → Prop} {w : World} {μ : Nat → Value} {ob : Heap} {id : Nat}

/-- the world, other draws -/
def drawnTo (w : World) (d : Nat) : World := { w with drawn := d }

/-- the elements of a slice or string, in memory -/
structure Reads (P : Program) (w : World) (I : Nat → Prop) (s : Nat) (y : Value) (e : List (List D)) (news : List Value) : Prop where
  rep : RepDs w I news (flatD e)
  len : ∀ W, (Builtin.lenOf y).run P W = .ok e.length W
  first : ∀ d m, m ≤ e.length → (Builtin.firstCells s m y).run P (drawnTo w d) = .ok (news.take (m * s)).toArray (drawnTo w d)

theorem reads_cells {I : Nat → Prop} {s : Nat} {b off n c : Nat} {e : List (List D)} {news : List Value} (hn : n = e.length) (hrep : RepDs w I news (flatD e)) (hl : news.length = n * s)
    (hcell : ∀ (k : Nat) u, news[k]? = some u → w.cell? ⟨b, off + k, none⟩ = some u) : Reads P w I s (.slice (some ⟨b, off, none⟩) n c) e news := by
  refine ⟨hrep, fun W => by simp [Builtin.lenOf, hn], fun d m hm => ?_⟩
  have hms : m * s ≤ news.length := by rw [hl, hn]; exact Nat.mul_le_mul_right s hm
  have := run_loadCells_list (P := P) (drawnTo w d) ⟨b, off, none⟩ (news.take (m * s)) fun j v hj => by
    rw [add_none]
    rw [List.getElem?_take] at hj
    split at hj
    · exact hcell j v hj
    · cases hj
  rw [List.length_take, Nat.min_eq_left hms] at this
  simp [Builtin.firstCells, this]

theorem reads_none {I : Nat → Prop} {s : Nat} {A : Option Addr} {c : Nat} : Reads P w I s (.slice A 0 c) [] [] := by
  refine ⟨by simp [RepDs, flatD], fun W => by simp [Builtin.lenOf], fun d m hm => ?_⟩
  simp at hm
  subst hm
  cases A with
  | none => simp [Builtin.firstCells]
  | some ad => simp [Builtin.firstCells, loadCells, loadCellsFrom]

theorem reads_row (R : Rel B w0 M U w μ ob) {o v s : Nat} {f : Bool} {elems : List (List D)} (hx : ob o = some (.row v f s elems)) {b n c : Nat} (hm : μ o = .slice (some ⟨b, 0, none⟩) n c) (off len c' : Nat) (hl : off + len ≤ elems.length) :
    ∃ news, Reads P w (Imm B w ob μ) s (.slice (some ⟨b, off * s, none⟩) len c') (rowPart elems off len) news := by
  obtain ⟨hs, hel, xs, hown, hrep⟩ := R.row hx
  have hxl : xs.length = elems.length * s := hown.1
  refine ⟨part xs (off * s) (len * s), reads_cells (by simp [rowPart]; omega) ?_ ?_ fun k u hu => ?_⟩
  · have hf : flatD (rowPart elems off len) = part (flatD elems) (off * s) (len * s) := by
      have h1 : ∀ (l : List (List D)) (k : Nat), (∀ e ∈ l, e.length = s) → flatD (l.drop k) = (flatD l).drop (k * s) := by
        intro l
        induction l with
        | nil => intro k _; simp [flatD]
        | cons x r ih =>
          intro k hl
          cases k with
          | zero => simp
          | succ k =>
            have := ih k fun e he => hl e (by simp [he])
            simp only [List.drop_succ_cons, flatD, List.flatten_cons] at this ⊢
            rw [this, Nat.add_mul, Nat.one_mul, Nat.add_comm, ← List.drop_drop]
            congr 1
            rw [← hl x (by simp)]
            simp
      have h2 : ∀ (l : List (List D)) (k : Nat), (∀ e ∈ l, e.length = s) → flatD (l.take k) = (flatD l).take (k * s) := by
        intro l
        induction l with
        | nil => intro k _; simp [flatD]
        | cons x r ih =>
          intro k hl
          cases k with
          | zero => simp [flatD]
          | succ k =>
            have := ih k fun e he => hl e (by simp [he])
            simp only [List.take_succ_cons, flatD, List.flatten_cons] at this ⊢
            rw [this, Nat.add_mul, Nat.one_mul, Nat.add_comm, ← hl x (by simp), List.take_length_add_append]
      simp only [rowPart, part]
      rw [h2 _ _ fun e he => hel e (List.mem_of_mem_drop he), h1 _ _ hel]
    rw [hf]
    exact (hrep.part.2 _).part.1 _
  · simp only [part, List.length_take, List.length_drop, hxl]
    have : (off + len) * s ≤ elems.length * s := Nat.mul_le_mul_right s hl
    rw [Nat.add_mul] at this
    omega
  · simp only [part, List.getElem?_take] at hu
    split at hu
    · rw [List.getElem?_drop] at hu
      exact (hown.cell hm).2 _ _ hu
    · cases hu

theorem elems_reads (R : Rel B w0 M U w μ ob) {x : V} {v : Value} {e : List (List D)} {s : Nat} (hx : Val B U w μ ob v x) (h : elemsOf ob x = some e) (hall : ∀ c ∈ e, c.length = s) :
    ∃ news, Reads P w (Imm B w ob μ) s v e news := by
  unfold elemsOf at h
  split at h
  · cases h
    have := hx.1
    simp only [RepV] at this
    subst this
    exact ⟨[], reads_none⟩
  · cases h
    have h1 := hx.repD.1
    cases h1 with
    | slE a c => exact ⟨[], reads_none⟩
    | sl b off n c s' elems vs hn hcap hI hel hcell hr =>
      subst hn
      rcases Nat.eq_zero_or_pos e.length with h0 | h0
      · obtain rfl : e = [] := List.eq_nil_of_length_eq_zero h0
        exact ⟨[], reads_none⟩
      · have hss : s' = s := by
          obtain ⟨c0, hc0⟩ : ∃ c0, e[0]? = some c0 := ⟨e[0], List.getElem?_eq_getElem h0⟩
          rw [← hel c0 (List.mem_of_getElem? hc0)]
          exact hall c0 (List.mem_of_getElem? hc0)
        subst hss
        have hfl := flat_length hall
        -- cell number k is that of an element
        have hdiv : ∀ k d, (flatD e)[k]? = some d → ∃ ed, e[k / s']? = some ed ∧ ed[k % s']? = some d := fun k d hk => by
          have hlt := (List.getElem?_eq_some_iff.1 hk).1
          rw [hfl] at hlt
          have hs0 : 0 < s' := by
            rcases Nat.eq_zero_or_pos s' with h | h
            · subst h; simp at hlt
            · exact h
          have hi : k / s' < e.length := Nat.div_lt_of_lt_mul (by rw [Nat.mul_comm]; exact hlt)
          have hed := List.getElem?_eq_getElem hi
          have hj : k % s' < (e[k / s']).length := by rw [hall _ (List.getElem_mem hi)]; exact Nat.mod_lt _ hs0
          have hd := List.getElem?_eq_getElem hj
          have := flat_at hall hed hd
          rw [Nat.div_add_mod' k s'] at this
          rw [hk] at this
          exact ⟨_, hed, hd.trans this.symm⟩
        refine ⟨(List.range (flatD e).length).map vs, reads_cells rfl (RepDs.mk (by simp) fun i u d h1 h2 => ?_) (by simp [hfl]) fun k u hu => ?_⟩
        · simp only [List.getElem?_map, Option.map_eq_some_iff] at h1
          obtain ⟨i', hi', rfl⟩ := h1
          have hlt := (List.getElem?_eq_some_iff.1 h2).1
          have : i' = i := by simpa [List.getElem?_range, hlt] using hi'.symm
          subst this
          obtain ⟨ed, h3, h4⟩ := hdiv _ d h2
          have hc := hcell _ _ _ _ h3 h4
          have hr' := hr _ _ _ _ h3 h4
          rw [Nat.div_add_mod' i' s'] at hc hr'
          exact ⟨hr', hc.2⟩
        · simp only [List.getElem?_map, Option.map_eq_some_iff] at hu
          obtain ⟨i', hi', rfl⟩ := hu
          have hlt : k < (flatD e).length := by
            have := (List.getElem?_eq_some_iff.1 hi').1
            simpa using this
          have : i' = k := by simpa [List.getElem?_range, hlt] using hi'.symm
          subst this
          obtain ⟨ed, h3, h4⟩ := hdiv i' _ (List.getElem?_eq_getElem hlt)
          have hc := hcell _ _ _ _ h3 h4
          rw [Nat.div_add_mod' i' s'] at hc
          exact hc.1
  · rename_i bs
    cases h
    have hv := RepV.str hx.1
    subst hv
    rcases Nat.eq_zero_or_pos (bytesD bs).length with h0 | h0
    · refine ⟨[], ?_, fun W => ?_, fun d m hm => ?_⟩
      · have : bytesD bs = [] := List.eq_nil_of_length_eq_zero h0
        rw [this]; simp [flatD, RepDs]
      · simp [bytesD] at h0
        simp [Builtin.lenOf, bytesD]
      · have hm0 : m = 0 := by omega
        subst hm0
        simp [Builtin.firstCells]
    · have hs1 : s = 1 := by
        have := hall ((bytesD bs)[0]) (List.getElem_mem h0)
        simp [bytesD] at this
        exact this.symm
      subst hs1
      refine ⟨bs.data.toList.map fun b => .int .u8 b.toNat, RepDs.mk (by rw [flat_length hall]; simp [bytesD]) fun i u d h1 h2 => ?_, fun W => by simp [Builtin.lenOf, bytesD], fun d m hm => ?_⟩
      · have hf : flatD (bytesD bs) = bs.data.toList.map fun b => .int .u8 b.toNat := by
          simp only [flatD, bytesD]
          generalize bs.data.toList = l
          induction l with
          | nil => rfl
          | cons x r ih => simp [ih]
        rw [hf] at h2
        simp only [List.getElem?_map, Option.map_eq_some_iff] at h1 h2
        obtain ⟨b1, hb1, rfl⟩ := h1
        obtain ⟨b2, hb2, rfl⟩ := h2
        rw [hb1] at hb2
        cases hb2
        exact ⟨.int _ _, rfl⟩
      · simp only [Builtin.firstCells, Sem.run_pure, Nat.mul_one]
        congr 1
        apply Array.ext'
        simp [bytesD] at hm
        simp [ByteArray.data_extract, List.map_take, Array.toList_extract]
  · rename_i o' ver
    split at h
    · rename_i v' f s' e' hob
      split at h
      · rename_i hver
        cases h
        subst hver
        obtain ⟨hv, h1 | ⟨b, c, h1, hcap⟩⟩ := own_addr R hx.1 hob
        · rw [h1.2, h1.1]; exact ⟨[], reads_none⟩
        · rcases Nat.eq_zero_or_pos e.length with h0 | h0
          · obtain rfl : e = [] := List.eq_nil_of_length_eq_zero h0
            rw [h1]
            exact ⟨[], reads_none⟩
          · have hss : s' = s := by
              obtain ⟨c0, hc0⟩ : ∃ c0, e[0]? = some c0 := ⟨e[0], List.getElem?_eq_getElem h0⟩
              rw [← (R.row hob).2.1 c0 (List.mem_of_getElem? hc0)]
              exact hall c0 (List.mem_of_getElem? hc0)
            subst hss
            obtain ⟨news, hn⟩ := reads_row (P := P) R hob (hv.symm.trans h1) 0 e.length c (by omega)
            rw [Nat.zero_mul, rowPart_all] at hn
            rw [h1]
            exact ⟨news, hn⟩
      · cases h
    · cases h
  · rename_i o' ver off len
    split at h
    · rename_i v' f s' e' hob
      split at h
      · rename_i hver
        cases h
        have h1 := hx.1
        simp only [RepV, hob] at h1
        obtain ⟨A, c, hval, hcap, hA⟩ := h1.2.2 hver.1
        rcases Nat.eq_zero_or_pos len with h0 | h0
        · subst h0
          rw [hval]
          simp only [rowPart, List.take_zero]
          exact ⟨[], reads_none⟩
        · obtain ⟨b, n', c', hm, rfl⟩ := hA.resolve_left (by omega)
          have hss : s' = s := by
            have hlt : off < e'.length := by omega
            have hc0 : (rowPart e' off len)[0]? = some (e'[off]) := by
              simp [rowPart, List.getElem?_take, h0, hlt]
            rw [← (R.row hob).2.1 _ (List.getElem_mem hlt)]
            exact hall _ (List.mem_of_getElem? hc0)
          subst hss
          rw [hval]
          exact reads_row (P := P) R hob hm off len c hver.2
      · cases h
    · cases h
  · cases h
end
end Go.Proofs.Am
set_option linter.unusedVariables false
set_option linter.unusedSimpArgs false
namespace Go.Proofs.Am
open Go

section
variable {P : Program} {o : Oper} {a : Act} {w0 : World} {B M U : Nat → Prop} {w : World} {μ : Nat → Value} {ob : Heap} {id : Nat}

theorem info_all {e : TypeId} {s b : Nat} {z : Value} (hs : sizeT P e = some s) (hb : bytesT P e = some b) (hz : zeroT P e = some z) : ∃ i, P.info? e = some i ∧ i.size = s ∧ i.bytes = b ∧ i.zero = some z := by
  unfold sizeT at hs
  unfold bytesT at hb
  unfold zeroT at hz
  cases hi : P.info? e with
  | none => simp [hi] at hs
  | some i => exact ⟨i, rfl, by simpa [hi] using hs, by simpa [hi] using hb, by simpa [hi] using hz⟩

theorem Reads.all {w : World} {I : Nat → Prop} {s : Nat} {y : Value} {e : List (List D)} {news : List Value} (h : Reads P w I s y e news) (hall : ∀ c ∈ e, c.length = s) (d : Nat) :
    (Builtin.firstCells s e.length y).run P (drawnTo w d) = .ok news.toArray (drawnTo w d) := by
  rw [h.first d e.length (Nat.le_refl _)]
  congr 2
  rw [List.take_of_length_le]
  rw [h.rep.length, flat_length hall]
  exact Nat.le_refl _

theorem not_int {d : TypeDesc} (h : (∃ el, d = .slice el) ∨ d = .string) : (match d with | .int _ => true | _ => false) = false := by
  rcases h with ⟨el, rfl⟩ | rfl <;> rfl

/-- append in its room -/
theorem append_room {ts : Array TypeId} {t xt e : TypeId} (ht0 : ts[0]? = some t) (ht1 : ts[1]? = some xt) {d : TypeDesc} {s : Nat} (ht : P.underlying t = some (.slice e)) (hxt : P.underlying xt = some d) (hd : (∃ el, d = .slice el) ∨ d = .string) (hs : sizeT P e = some s) (ty : TypeId)
    {base : Option Addr} {n cap m : Nat} {y : Value} {new : Array Value} {w' : World} (hlen : (Builtin.lenOf y).run P w = .ok m w) (hnew : (Builtin.firstCells s m y).run P w = .ok new w) (hroom : n + m ≤ cap)
    (hst : (match base with | some ad => storeCells (ad.add (n * s)) new.toList | none => pure () : Sem Unit).run P w = .ok () w') :
    (Builtin.append_ ts ty #[.slice base n cap, y]).run P w = .ok (.slice base (n + m) cap) w' := by
  have hni := not_int hd
  cases base with
  | none =>
    simp only [Sem.run_pure, Result.ok.injEq, true_and] at hst
    subst hst
    rcases hd with ⟨el, rfl⟩ | rfl <;> simp [Builtin.append_, ht0, ht1, run_und ht, run_und hxt, run_sizeT hs, hlen, hnew, hroom]
  | some ad =>
    rcases hd with ⟨el, rfl⟩ | rfl <;> simp [Builtin.append_, ht0, ht1, run_und ht, run_und hxt, run_sizeT hs, hlen, hnew, hroom, hst]

/-- append into a new block -/
theorem append_grow {ts : Array TypeId} {t xt e : TypeId} (ht0 : ts[0]? = some t) (ht1 : ts[1]? = some xt) {d : TypeDesc} {s b : Nat} {z : Value} (ht : P.underlying t = some (.slice e)) (hxt : P.underlying xt = some d) (hd : (∃ el, d = .slice el) ∨ d = .string) (hs : sizeT P e = some s) (hb : bytesT P e = some b) (hz : zeroT P e = some z) (hb0 : b ≠ 0) (ty : TypeId)
    {base : Option Addr} {n cap m : Nat} {y : Value} {old new : Array Value} (hlen : (Builtin.lenOf y).run P w = .ok m w)
    (hold : ∀ k, (Builtin.firstCells s n (.slice base n cap)).run P (drawnTo w k) = .ok old (drawnTo w k)) (hnew : ∀ k, (Builtin.firstCells s m y).run P (drawnTo w k) = .ok new (drawnTo w k)) (hroom : ¬ n + m ≤ cap)
    (hbytes : (n + m) * b ≤ 140737488355328) :
    ∃ c, n + m ≤ c ∧ c ≤ maxLen ∧ (Builtin.append_ ts ty #[.slice base n cap, y]).run P w =
      .ok (.slice (some ⟨w.heap.size, 0, none⟩) (n + m) c) (w.drew.alloc (.cells (old ++ new ++ Builtin.zeroCells z.cells (c - (n + m))) e)) := by
  have hni := not_int hd
  obtain ⟨i, hi, h1, h2, h3⟩ := info_all hs hb hz
  have hbig : n + m ≤ 140737488355328 := Nat.le_trans (Nat.le_mul_of_pos_right _ (by omega)) hbytes
  have hmax : n + m ≤ maxLen := by simp only [maxLen]; omega
  have hfit := growslice_fits (need := n + m) (old := cap) (bytes := b) (by omega) hbytes
  refine ⟨grownCap w (n + m) cap e, grownCap_ge w _ _ _, grownCap_le_maxLen w _ _ _ hmax, ?_⟩
  have hfit' : ¬ Builtin.nextslicecap (n + m) cap * i.bytes > 2 ^ 48 := by rw [h2]; omega
  have hpow : ¬ (2 : Nat) ^ 48 < Builtin.nextslicecap (n + m) cap * i.bytes := by omega
  have hi64 : ¬ ((n + m : Nat) : Int) > IntKind.i64.max := by
    have : IntKind.i64.max = 9223372036854775807 := by decide
    omega
  have hi64' : ¬ IntKind.i64.max < (n : Int) + (m : Int) := by
    have : IntKind.i64.max = 9223372036854775807 := by decide
    omega
  have ho : (Builtin.firstCells s n (.slice base n cap)).run P w.drew = .ok old w.drew := hold (w.drawn + 1)
  have hn : (Builtin.firstCells s m y).run P w.drew = .ok new w.drew := hnew (w.drawn + 1)
  have hzr : ∀ W, (zeroValue e).run P W = .ok z W := fun W => run_zeroT hz
  rcases hd with ⟨el, rfl⟩ | rfl
  all_goals
    simp [Builtin.append_, ht0, ht1, run_und ht, run_und hxt, run_sizeT hs, hlen, hroom, run_info hi, hi64', hpow, Question.forced, ho, hn, hzr, newRow, grownCap]
    intro hbad
    exact absurd hbad (by omega)

theorem drawnTo_self (w : World) : drawnTo w w.drawn = w := rfl

/-- what append gives at a row of the call's own -/
theorem append_own {ts : Array TypeId} {t xt e : TypeId} (ht0 : ts[0]? = some t) (ht1 : ts[1]? = some xt) {d : TypeDesc} {s b : Nat} {z : Value} (ht : P.underlying t = some (.slice e)) (hxt : P.underlying xt = some d) (hd : (∃ el, d = .slice el) ∨ d = .string) (hs : sizeT P e = some s) (hb : bytesT P e = some b) (hz : zeroT P e = some z) (hzs : z.cells.size = s) (hs0 : 0 < s) (hb0 : b ≠ 0) (ty : TypeId)
    {v : Value} {n : Nat} {xs : List Value} (hown : OwnRow w s v n xs) {y : Value} {m : Nat} {news : List Value} (hlen : (Builtin.lenOf y).run P w = .ok m w) (hnl : news.length = m * s) (h1 : ∀ u ∈ news, u.oneCell' = true)
    (hnew : ∀ k, (Builtin.firstCells s m y).run P (drawnTo w k) = .ok news.toArray (drawnTo w k)) (hbytes : (n + m) * b ≤ 140737488355328) :
    ∃ v' w', (Builtin.append_ ts ty #[v, y]).run P w = .ok v' w' ∧ OwnRow w' s v' (n + m) (xs ++ news) ∧ v'.oneCell' = true ∧
      w'.os = w.os ∧ w'.tape = w.tape ∧ w'.output = w.output ∧ w.heap.size ≤ w'.heap.size ∧
      (∀ k, k < w.heap.size → blockOf v ≠ some k → w'.heap[k]? = w.heap[k]?) ∧ (∀ k, blockOf v' = some k → blockOf v = some k ∨ w.heap.size ≤ k) ∧ (v = .slice none 0 0 → m = 0 → v' = .slice none 0 0) ∧ (v = .slice none 0 0 → m ≠ 0 → ∃ c, v' = .slice (some ⟨w.heap.size, 0, none⟩) m c) := by
  have hxl : (xs ++ news).length = (n + m) * s := by rw [List.length_append, hown.1, hnl, Nat.add_mul]
  have hgrown : ∀ (base : Option Addr) (cap : Nat), v = .slice base n cap → ¬ n + m ≤ cap → (∀ k, (Builtin.firstCells s n (.slice base n cap)).run P (drawnTo w k) = .ok xs.toArray (drawnTo w k)) →
      ∃ v' w', (Builtin.append_ ts ty #[v, y]).run P w = .ok v' w' ∧ OwnRow w' s v' (n + m) (xs ++ news) ∧ v'.oneCell' = true ∧
      w'.os = w.os ∧ w'.tape = w.tape ∧ w'.output = w.output ∧ w.heap.size ≤ w'.heap.size ∧
      (∀ k, k < w.heap.size → blockOf v ≠ some k → w'.heap[k]? = w.heap[k]?) ∧ (∀ k, blockOf v' = some k → blockOf v = some k ∨ w.heap.size ≤ k) ∧ (v = .slice none 0 0 → m = 0 → v' = .slice none 0 0) ∧ (v = .slice none 0 0 → m ≠ 0 → ∃ c, v' = .slice (some ⟨w.heap.size, 0, none⟩) m c) := by
    intro base cap hv hroom hold
    obtain ⟨c, hc1, hc2, hrun⟩ := append_grow (w := w) ht0 ht1 ht hxt hd hs hb hz hb0 ty hlen hold hnew hroom hbytes
    subst hv
    refine ⟨_, _, hrun, ⟨hxl, .inr ⟨w.heap.size, c, xs.toArray ++ news.toArray ++ Builtin.zeroCells z.cells (c - (n + m)), e, rfl, ?_, hc1, hc2, ?_, ?_⟩⟩, rfl, rfl, rfl, rfl, ?_, fun k hk _ => ?_, fun k hk => ?_, fun hv hm => ?_, fun hv hm => ?_⟩
    · exact (by show (w.heap.push _)[w.heap.size]? = _; simp)
    · have e1 : (xs.toArray ++ news.toArray ++ Builtin.zeroCells z.cells (c - (n + m))).size = (xs ++ news).length + (c - (n + m)) * z.cells.size := by
        simp [Builtin.zeroCells, Nat.add_assoc]
      rw [e1, hxl, hzs, ← Nat.add_mul]
      congr 1
      omega
    · simp only [Array.toList_append, List.append_assoc]
      rw [← List.append_assoc, ← hxl]
      exact List.take_left
    · simp
    · show (w.heap.push _)[k]? = _
      rw [Array.getElem?_push, if_neg (by omega)]
    · simp [blockOf] at hk
      omega
    · cases hv
      simp at hroom
      omega
    · cases hv
      exact ⟨c, by simp⟩
  obtain ⟨hl, h | ⟨g, cap, cur, te, h3, h4, h5, h6, h7, h8⟩⟩ := hown
  · obtain ⟨rfl, rfl⟩ := h
    have hx : xs = [] := List.eq_nil_of_length_eq_zero (by simpa using hl)
    subst hx
    rcases Nat.eq_zero_or_pos m with h0 | h0
    · subst h0
      have hn : news = [] := List.eq_nil_of_length_eq_zero (by simpa using hnl)
      subst hn
      have hrun := append_room (w := w) (w' := w) (base := none) (n := 0) (cap := 0) (m := 0) (new := #[]) ht0 ht1 ht hxt hd hs ty hlen (by have := hnew w.drawn; rw [drawnTo_self] at this; exact this) (by omega) (by simp)
      refine ⟨_, _, hrun, ⟨by simp, .inl ⟨rfl, rfl⟩⟩, rfl, rfl, rfl, rfl, Nat.le_refl _, fun k _ _ => rfl, fun k hk => .inl hk, fun _ _ => rfl, fun _ h => absurd rfl h⟩
    · exact hgrown none 0 rfl (by omega) fun k => by simp [Builtin.firstCells]
  · by_cases hroom : n + m ≤ cap
    · have hfit : n * s + news.length ≤ cur.size := by rw [hnl, h7, ← Nat.add_mul]; exact Nat.mul_le_mul_right _ hroom
      have hst := run_storeCells_at P g (n * s) te news 0 cur w h4 (by simpa using hfit) h1
      simp only [Nat.add_zero] at hst
      have hrun := append_room (w := w) (base := some ⟨g, 0, none⟩) (n := n) (cap := cap) (m := m) (new := news.toArray) ht0 ht1 ht hxt hd hs ty hlen (by have := hnew w.drawn; rw [drawnTo_self] at this; exact this) hroom
        (w' := w.setRow g (cur.toList.take (n * s) ++ news ++ cur.toList.drop (n * s + news.length)).toArray) (by simpa [add_none] using hst)
      subst h3
      refine ⟨_, _, hrun, ⟨hxl, .inr ⟨g, cap, (cur.toList.take (n * s) ++ news ++ cur.toList.drop (n * s + news.length)).toArray, te, rfl, setRow_heap w g cur _ te _ h4, hroom, h6, ?_, ?_⟩⟩, rfl, rfl, rfl, rfl, by simp, fun k _ hk => setRow_other w g k _ fun e => hk (by simp [blockOf, e]), fun k hk => .inl hk, (by intro h; cases h), (by intro h; cases h)⟩
      · simp only [List.size_toArray, List.length_append, List.length_take, List.length_drop, Array.length_toList]
        omega
      · rw [h8, ← hxl]
        exact List.take_left
    · refine hgrown (some ⟨g, 0, none⟩) cap h3 hroom fun k => ?_
      have hcells := run_loadCells_list (P := P) (drawnTo w k) ⟨g, 0, none⟩ xs fun j u hj => by
        rw [add_none, Nat.zero_add]
        have : OwnRow w s v n xs := ⟨hl, .inr ⟨g, cap, cur, te, h3, h4, h5, h6, h7, h8⟩⟩
        exact (this.cell h3).2 j u hj
      rw [hl] at hcells
      simp [Builtin.firstCells, hcells]

theorem flat_app_len {s : Nat} {a b : List (List D)} (ha : ∀ e ∈ a, e.length = s) (hb : ∀ e ∈ b, e.length = s) : ∀ e ∈ a ++ b, e.length = s := fun e he => by
  rcases List.mem_append.1 he with h | h
  · exact ha e h
  · exact hb e h

/-- append at a row of the call's own -/
theorem good_append_own (R : Rel B w0 M U w μ ob) {c : Go.Call} {x y : Operand} {t xt e : TypeId} {d : TypeDesc} {s b ver o' : Nat} {z : Value} {vy : V} {elems new : List (List D)} (ho : o.op = .call c) (hc : c.callee = .builtin .append) (hargs : c.args = #[x, y]) (ht0 : c.argTypes[0]? = some t) (ht1 : c.argTypes[1]? = some xt)
    (ht : P.underlying t = some (.slice e)) (hxt : P.underlying xt = some d) (hd : (∃ el, d = .slice el) ∨ d = .string) (hs : sizeT P e = some s) (hb : bytesT P e = some b) (hz : zeroT P e = some z) (hzs : z.cells.size = s) (hb0 : b ≠ 0)
    (hx : Val B U w μ ob (a.eval x) (.own o' ver)) (hob : ob o' = some (.row ver false s elems)) (hy : Val B U w μ ob (a.eval y) vy) (hnew : elemsOf ob vy = some new) (hall : ∀ e ∈ new, e.length = s) (hbytes : (elems.length + new.length) * b ≤ 140737488355328) :
    Good P o a B w0 M U w μ ob id (.own o' (ver + 1)) [(o', .row (ver + 1) false s (elems ++ new))] := by
  obtain ⟨hs0, hel, xs, hown, hrep⟩ := R.row hob
  obtain ⟨hv, _⟩ := own_addr R hx.1 hob
  obtain ⟨news, hreads⟩ := elems_reads (P := P) R hy hnew hall
  have hnl : news.length = new.length * s := by rw [hreads.rep.length, flat_length hall]
  have h1 : ∀ u ∈ news, u.oneCell' = true := fun u hu => by
    obtain ⟨i, hi⟩ := List.getElem?_of_mem hu
    have hlt : i < (flatD new).length := by rw [← hreads.rep.length]; exact (List.getElem?_eq_some_iff.1 hi).1
    obtain ⟨u', h2, h3⟩ := hreads.rep.at i _ (List.getElem?_eq_getElem hlt)
    rw [hi] at h2
    cases h2
    exact h3.2
  obtain ⟨v', w', hrun, hown', hone, hos, htape, hout, hsize, hheap, hblk, _, _⟩ := append_own (P := P) ht0 ht1 ht hxt hd hs hb hz hzs hs0 hb0 o.type hown (hreads.len w) hnl h1 (fun k => hreads.all hall k) hbytes
  have S := R.put o' (.inl ⟨_, hob, rfl⟩) (.row (ver + 1) false s (elems ++ new)) v' hos htape hout hsize (fun k hk hn => hheap k hk fun he => hn ⟨_, hob, he⟩)
    (fun k hk => (hblk k hk).imp (fun h => ⟨_, hob, h⟩) _root_.id) (by simp [refsO]) (fun _ => by unfold Keep; rw [hob, upd_eq]; simp)
    (fun ob' μ' hm hI hw hk => ObjOK.row_mk hs0 (flat_app_len hel hall) (by rw [hm]; simpa using hown') (by rw [flat_append]; exact (hrep.append hreads.rep).mono hI hw))
  refine ⟨.value v', v', w', _, ?_, .inl rfl, S.newU fun o'' h => ?_, ⟨?_, fun o'' h => ?_⟩⟩
  · simp only [execOp, ho, resolve, hc, hargs, invoke, builtin, Sem.run_bind, Sem.run_pure, Result.andThen_ok, List.map_toArray, List.map_cons, List.map_nil, hv, hrun]
  · rcases h with h | rfl
    · exact .inl h
    · exact .inl (R.used _ _ hob).1
  · simp only [updAll, RepV, upd_eq]
    exact ⟨hone, Nat.le_refl _, fun _ => trivial⟩
  · simp [refsV] at h
    subst h
    exact .inl (R.used _ _ hob).1

/-- append at nil -/
theorem good_append_nsl (R : Rel B w0 M U w μ ob) (hid : ∀ j, j < bound → ¬ U (id + j)) {c : Go.Call} {x y : Operand} {t xt e : TypeId} {d : TypeDesc} {s b : Nat} {z : Value} {vy : V} {new : List (List D)} (ho : o.op = .call c) (hc : c.callee = .builtin .append) (hargs : c.args = #[x, y]) (ht0 : c.argTypes[0]? = some t) (ht1 : c.argTypes[1]? = some xt)
    (ht : P.underlying t = some (.slice e)) (hxt : P.underlying xt = some d) (hd : (∃ el, d = .slice el) ∨ d = .string) (hs : sizeT P e = some s) (hb : bytesT P e = some b) (hz : zeroT P e = some z) (hzs : z.cells.size = s) (hs0 : 0 < s) (hb0 : b ≠ 0)
    (hx : Val B U w μ ob (a.eval x) .nsl) (hy : Val B U w μ ob (a.eval y) vy) (hnew : elemsOf ob vy = some new) (hall : ∀ e ∈ new, e.length = s) (hbytes : new.length * b ≤ 140737488355328) :
    Good P o a B w0 M U w μ ob id (if new.isEmpty then .nsl else .own id 0) (if new.isEmpty then [] else [(id, .row 0 false s new)]) := by
  have hv := hx.1
  simp only [RepV] at hv
  have h0 : ¬ U id := by simpa using hid 0 (by simp [bound])
  obtain ⟨news, hreads⟩ := elems_reads (P := P) R hy hnew hall
  have hnl : news.length = new.length * s := by rw [hreads.rep.length, flat_length hall]
  have h1 : ∀ u ∈ news, u.oneCell' = true := fun u hu => by
    obtain ⟨i, hi⟩ := List.getElem?_of_mem hu
    have hlt : i < (flatD new).length := by rw [← hreads.rep.length]; exact (List.getElem?_eq_some_iff.1 hi).1
    obtain ⟨u', h2, h3⟩ := hreads.rep.at i _ (List.getElem?_eq_getElem hlt)
    rw [hi] at h2
    cases h2
    exact h3.2
  obtain ⟨v', w', hrun, hown', hone, hos, htape, hout, hsize, hheap, hblk, hnil, hnnil⟩ := append_own (P := P) (w := w) (v := .slice none 0 0) (n := 0) (xs := []) ht0 ht1 ht hxt hd hs hb hz hzs hs0 hb0 o.type ⟨by simp, .inl ⟨rfl, rfl⟩⟩ (hreads.len w) hnl h1 (fun k => hreads.all hall k) (by simpa using hbytes)
  have hexec : (execOp a.eval o).run P w = .ok (.value v') w' := by
    simp only [execOp, ho, resolve, hc, hargs, invoke, builtin, Sem.run_bind, Sem.run_pure, Result.andThen_ok, List.map_toArray, List.map_cons, List.map_nil, hv, hrun]
  have S := R.put id (.inr h0) (.row 0 false s new) v' hos htape hout hsize (fun k hk hn => hheap k hk (by simp [blockOf]))
    (fun k hk => (hblk k hk).elim (fun h => by simp [blockOf] at h) .inr) (by simp [refsO]) (fun h => absurd h h0)
    (fun ob' μ' hm hI hw hk => ObjOK.row_mk hs0 hall (by rw [hm]; simpa using hown') (hreads.rep.mono hI hw))
  by_cases hemp : new = []
  · subst hemp
    have hv' := hnil rfl rfl
    -- nothing has turned
    have hw' : ∀ k, k < w.heap.size → w'.heap[k]? = w.heap[k]? := fun k hk => hheap k hk (by simp [blockOf])
    have S0 : Step B w0 M U (NewU U id) w w' μ μ ob ob := by
      have hI : ∀ b, Imm B w ob μ b → Imm B w' ob μ b := fun b hb => ⟨Nat.lt_of_lt_of_le hb.1 hsize, hb.2⟩
      refine ⟨(R.change (U' := U) ⟨hos.trans R.fr.os, htape.trans R.fr.tape, hout.trans R.fr.output, Nat.le_trans R.fr.size hsize, fun b hb hM => (hw' b (Nat.lt_of_lt_of_le hb R.fr.size)).trans (R.fr.block b hb hM)⟩ (fun _ h => h) hI (fun b hb => hw' b hb.1) (fun o _ => Keep.refl ob μ o) (fun o x hx => .inl ⟨hx, rfl, fun b hb => hw' b (R.lt hx hb)⟩) R.inj).weaken fun _ h => .inl h, fun _ h => .inl h, hI, fun b hb => hw' b hb.1, fun o _ => Keep.refl ob μ o, fun _ _ h => h⟩
    refine ⟨.value v', v', w', μ, hexec, .inl rfl, by simpa [updAll] using S0, ?_, by simp [refsV]⟩
    simp only [List.isEmpty_nil, if_true, RepV]
    exact hv'
  · have he : new.isEmpty = false := by cases new <;> simp_all
    rw [he]
    refine ⟨.value v', v', w', _, hexec, .inl rfl, by simpa [updAll] using S.newU (id := id) fun o'' h => h.imp _root_.id fun e => by subst e; exact ⟨Nat.le_refl _, by simp [bound]⟩, ?_, fun o'' h => ?_⟩
    · simp only [updAll, RepV, upd_eq, Bool.false_eq_true, if_false]
      exact ⟨hone, Nat.le_refl _, fun _ => trivial⟩
    · simp [refsV] at h
      subst h
      exact .inr ⟨Nat.le_refl _, by simp [bound]⟩

/-! ### copy -/
theorem good_copy (R : Rel B w0 M U w μ ob) {c : Go.Call} {x y : Operand} {t e : TypeId} {s ver o' : Nat} {vy : V} {elems src : List (List D)} (ho : o.op = .call c) (hc : c.callee = .builtin .copy) (hargs : c.args = #[x, y]) (hts : c.argTypes[0]? = some t)
    (ht : P.underlying t = some (.slice e)) (hs : sizeT P e = some s)
    (hx : Val B U w μ ob (a.eval x) (.own o' ver)) (hob : ob o' = some (.row ver false s elems)) (hy : Val B U w μ ob (a.eval y) vy) (hsrc : elemsOf ob vy = some src) (hall : ∀ e ∈ src, e.length = s) :
    Good P o a B w0 M U w μ ob id (.d (.int .i64 (min src.length elems.length : Nat))) [(o', .row ver false s (src.take elems.length ++ elems.drop src.length))] := by
  obtain ⟨hs0, hel, xs, hown, hrep⟩ := R.row hob
  obtain ⟨hv, hblk⟩ := own_addr R hx.1 hob
  obtain ⟨news, hreads⟩ := elems_reads (P := P) R hy hsrc hall
  have hnl : news.length = src.length * s := by rw [hreads.rep.length, flat_length hall]
  have hm : min src.length elems.length ≤ src.length := Nat.min_le_left _ _
  have hm2 : min src.length elems.length ≤ elems.length := Nat.min_le_right _ _
  have hfirst := hreads.first w.drawn _ hm
  rw [drawnTo_self] at hfirst
  have hlen' : ∀ e' ∈ src.take elems.length ++ elems.drop src.length, e'.length = s := fun e' he => by
    rcases List.mem_append.1 he with h | h
    · exact hall e' (List.mem_of_mem_take h)
    · exact hel e' (List.mem_of_mem_drop h)
  have hll : (src.take elems.length ++ elems.drop src.length).length = elems.length := by simp; omega
  have htake : ∀ (l : List (List D)) (k : Nat), (∀ e ∈ l, e.length = s) → flatD (l.take k) = (flatD l).take (k * s) := by
    intro l
    induction l with
    | nil => intro k _; simp [flatD]
    | cons x r ih =>
      intro k hl
      cases k with
      | zero => simp [flatD]
      | succ k =>
        have := ih k fun e he => hl e (by simp [he])
        simp only [List.take_succ_cons, flatD, List.flatten_cons] at this ⊢
        rw [this, Nat.add_mul, Nat.one_mul, Nat.add_comm, ← hl x (by simp), List.take_length_add_append]
  have hdrop : ∀ (l : List (List D)) (k : Nat), (∀ e ∈ l, e.length = s) → flatD (l.drop k) = (flatD l).drop (k * s) := by
    intro l
    induction l with
    | nil => intro k _; simp [flatD]
    | cons x r ih =>
      intro k hl
      cases k with
      | zero => simp
      | succ k =>
        have := ih k fun e he => hl e (by simp [he])
        simp only [List.drop_succ_cons, flatD, List.flatten_cons] at this ⊢
        rw [this, Nat.add_mul, Nat.one_mul, Nat.add_comm, ← List.drop_drop]
        congr 1
        rw [← hl x (by simp)]
        simp
  have hus : (news.take (min src.length elems.length * s)).length = min src.length elems.length * s := by
    rw [List.length_take, hnl]
    exact Nat.min_eq_left (Nat.mul_le_mul_right s hm)
  have hds : RepDs w (Imm B w ob μ) (news.take (min src.length elems.length * s)) (flatD (src.take elems.length)) := by
    have := hreads.rep.part.1 (min src.length elems.length * s)
    rw [← htake _ _ hall] at this
    have e1 : src.take (min src.length elems.length) = src.take elems.length := by
      rcases Nat.le_total src.length elems.length with h | h
      · rw [Nat.min_eq_left h, List.take_of_length_le (Nat.le_refl _), List.take_of_length_le h]
      · rw [Nat.min_eq_right h]
    rwa [e1] at this
  have hdl : (flatD (src.take elems.length)).length = min src.length elems.length * s := by rw [← hds.length, hus]
  have hflat : flatD (src.take elems.length ++ elems.drop src.length) = (flatD elems).take 0 ++ flatD (src.take elems.length) ++ (flatD elems).drop (0 + (flatD (src.take elems.length)).length) := by
    rw [flat_append, hdrop _ _ hel, hdl]
    simp only [List.take_zero, List.nil_append, Nat.zero_add]
    congr 1
    rcases Nat.le_total src.length elems.length with h | h
    · rw [Nat.min_eq_left h]
    · rw [Nat.min_eq_right h, List.drop_of_length_le, List.drop_of_length_le]
      · rw [flat_length hel]; exact Nat.le_refl _
      · rw [flat_length hel]; exact Nat.mul_le_mul_right s h
  rcases hblk with ⟨hval, rfl⟩ | ⟨b, cp, hval, hcap⟩
  · -- nothing to write into
    have hzero : min src.length ([] : List (List D)).length = 0 := by simp
    have hrow : Step B w0 M U U w w μ μ ob (upd ob o' (some (.row ver false s (src.take ([] : List (List D)).length ++ ([] : List (List D)).drop src.length)))) := by
      have e0 : (src.take ([] : List (List D)).length ++ ([] : List (List D)).drop src.length) = [] := by simp
      rw [e0]
      have : upd ob o' (some (.row ver false s [])) = ob := by
        funext q
        unfold upd
        split
        · rename_i h; rw [h]; exact hob.symm
        · rfl
      rw [this]
      exact Step.refl R
    refine ⟨.value (.int .i64 0), .int .i64 0, w, μ, ?_, .inl rfl, hrow.newU fun _ h => .inl h, ?_⟩
    · have hfc : (Builtin.firstCells s 0 (a.eval y)).run P w = .ok #[] w := by simpa using hfirst
      simp [execOp, ho, resolve, hc, hargs, invoke, builtin, Builtin.copy_, hts, run_und ht, hval, hreads.len w, run_sizeT hs, hfc, goInt]
    · simp only [List.length_nil, Nat.min_zero]
      exact (Val.mkInt .i64 0)
  · obtain ⟨cur, te, hcur, hcsz, S⟩ := R.rowWrite hob (hv.symm.trans hval) 0 (us := news.take (min src.length elems.length * s)) (ds := flatD (src.take elems.length)) (elems' := src.take elems.length ++ elems.drop src.length) hds
      (by rw [hus, Nat.zero_add]; exact Nat.mul_le_mul_right s hm2) hll hlen' hflat
    have h1 : ∀ u ∈ news.take (min src.length elems.length * s), u.oneCell' = true := fun u hu => by
      obtain ⟨i, hi⟩ := List.getElem?_of_mem hu
      have hlt : i < (flatD (src.take elems.length)).length := by rw [← hds.length]; exact (List.getElem?_eq_some_iff.1 hi).1
      obtain ⟨u', h2, h3⟩ := hds.at i _ (List.getElem?_eq_getElem hlt)
      rw [hi] at h2
      cases h2
      exact h3.2
    have hst := run_storeCells_at P b 0 te (news.take (min src.length elems.length * s)) 0 cur w hcur (by simpa using hcsz) h1
    simp only [Nat.add_zero, Nat.zero_add] at hst
    simp only [Nat.zero_add] at S
    refine ⟨.value (.int .i64 (min src.length elems.length : Nat)), _, _, μ, ?_, .inl rfl, S.newU fun _ h => .inl h, Val.mkInt _ _⟩
    have hmin : Nat.min src.length elems.length = min src.length elems.length := rfl
    simp only [execOp, ho, resolve, hc, hargs, invoke, builtin, Builtin.copy_, hts, Sem.run_bind, Sem.run_pure, Result.andThen_ok, List.map_toArray, List.map_cons, List.map_nil, hval, run_und ht, hreads.len w, run_sizeT hs, hmin, hfirst, hst, goInt]
    simp [hreads.len w, hmin, hfirst, hst, run_und ht, run_sizeT hs]
end
end Go.Proofs.Am
set_option linter.unusedVariables false
set_option linter.unusedSimpArgs false
namespace Go.Proofs.Am
open Go

def leafV (k : LK) (x y : Value) : Option Bool :=
  match k, x, y with
  | .int, .int k a, .int k' b => if k = k' then some (a == b) else none
  | .bool, .bool a, .bool b => some (a == b)
  | .str, .string a, .string b => some (a.toList == b.toList)
  | _, _, _ => none
def leavesV : List (Nat × LK) → Array Value → Array Value → Option Bool
  | [], _, _ => some true
  | (o, k) :: r, xs, ys => (xs[o]?).bind fun x => (ys[o]?).bind fun y => (leafV k x y).bind fun b => (leavesV r xs ys).bind fun c => some (b && c)

theorem leavesV_append (xs ys : Array Value) : ∀ (a b : List (Nat × LK)), leavesV (a ++ b) xs ys = (leavesV a xs ys).bind fun x => (leavesV b xs ys).bind fun y => some (x && y)
  | [], b => by simp [leavesV]
  | (o, k) :: r, b => by
    simp only [List.cons_append, leavesV, leavesV_append xs ys r b]
    cases xs[o]? with
    | none => rfl
    | some x => cases ys[o]? with
      | none => rfl
      | some y => simp only [Option.bind_some]; cases leafV k x y with
        | none => rfl
        | some c => simp only [Option.bind_some]; cases leavesV r xs ys with
          | none => rfl
          | some d => simp only [Option.bind_some]; cases leavesV b xs ys with
            | none => rfl
            | some e => simp [Bool.and_assoc]
theorem leavesV_shift (xs ys : Array Value) (off s : Nat) : ∀ (ls : List (Nat × LK)), (ls.all fun p => decide (p.1 < s)) = true →
    leavesV (ls.map fun p => (off + p.1, p.2)) xs ys = leavesV ls (xs.extract off (off + s)) (ys.extract off (off + s))
  | [], _ => rfl
  | (o, k) :: r, h => by
    simp only [List.all_cons, Bool.and_eq_true, decide_eq_true_eq] at h
    have hget : ∀ zs : Array Value, (zs.extract off (off + s))[o]? = zs[off + o]? := fun zs => by
      rw [Array.getElem?_extract]
      split
      · rfl
      · rename_i hh
        rw [Array.getElem?_eq_none]
        omega
    simp only [List.map_cons, leavesV, hget, leavesV_shift xs ys off s r h.2]

section
variable {P : Program} {o : Oper} {a : Act} {w0 : World} {B M U : Nat → Prop} {w : World} {μ : Nat → Value} {ob : Heap} {id : Nat}

theorem leaf_rep {I : Nat → Prop} {k : LK} {x y : V} {b : Bool} {u v : Value} (hu : RepV w I ob μ u x) (hv : RepV w I ob μ v y) (h : eqLeaf k x y = some b) : leafV k u v = some b := by
  unfold eqLeaf at h
  split at h
  · rw [RepV.int hu, RepV.int hv]; exact h
  · rw [RepV.bool hu, RepV.bool hv]; exact h
  · rw [RepV.str hu, RepV.str hv]; exact h
  · cases h
theorem leaves_rep {I : Nat → Prop} {xs ys : Array Value} {cs ds : List V} (hx : RepL w I ob μ xs.toList cs) (hy : RepL w I ob μ ys.toList ds) : ∀ (ls : List (Nat × LK)) (b : Bool), eqLeaves ls cs ds = some b → leavesV ls xs ys = some b
  | [], b, h => h
  | (o, k) :: r, b, h => by
    simp only [eqLeaves, Option.bind_eq_some_iff] at h
    obtain ⟨x, h1, y, h2, c, h3, d, h4, h5⟩ := h
    have hget : ∀ {zs : Array Value} {es : List V} (hz : RepL w I ob μ zs.toList es) {x : V}, es[o]? = some x → ∃ u, zs[o]? = some u ∧ RepV w I ob μ u x := fun {zs es} hz {x} hx => by
      have hlt : o < zs.toList.length := by rw [hz.length]; exact (List.getElem?_eq_some_iff.1 hx).1
      refine ⟨zs.toList[o], ?_, (hz.at o _ x (List.getElem?_eq_getElem hlt) hx).1⟩
      rw [← Array.getElem?_toList]
      exact List.getElem?_eq_getElem hlt
    obtain ⟨u, hu, hu'⟩ := hget hx h1
    obtain ⟨v, hv, hv'⟩ := hget hy h2
    simp only [leavesV, hu, hv, Option.bind_some, leaf_rep hu' hv' h3, leaves_rep hx hy r d h4, h5]

theorem part_agg {t : TypeId} {n : Nat} (hn : sizeT P t = some n) (hg : isAggT P t = some true) (cs : Array Value) (off : Nat) : (Go.part t cs off).run P w = .ok (.agg (cs.extract off (off + n))) w := by
  simp [Go.part, run_isAggT hg, run_sizeT hn]
theorem part_one {t : TypeId} (hg : isAggT P t = some false) {cs : Array Value} {off : Nat} {v : Value} (hv : cs[off]? = some v) : (Go.part t cs off).run P w = .ok v w := by
  simp [Go.part, run_isAggT hg, hv]

/-- '==' of values of a type with leaves -/
theorem equalIn_leaves : ∀ (n : Nat) (t : TypeId) (ls : List (Nat × LK)), leaves P n t = some ls → ∀ (d : Nat), n ≤ d → ∀ (b : Bool),
    (∀ xs ys, isAggT P t = some true → leavesV ls xs ys = some b → (Op.equalIn d t (.agg xs) (.agg ys)).run P w = .ok b w) ∧
    (∀ k x y, isAggT P t = some false → ls = [(0, k)] → leafV k x y = some b → (Op.equalIn d t x y).run P w = .ok b w) ∧
    (isAggT P t = some false → ∃ k, ls = [(0, k)]) ∧ (∃ g, isAggT P t = some g) := by
  intro n
  induction n with
  | zero => intro t ls h; simp [leaves] at h
  | succ n ih =>
    intro t ls h d hd b
    obtain ⟨d, rfl⟩ : ∃ m, d = m + 1 := ⟨d - 1, by omega⟩
    simp only [leaves] at h
    -- one part of a struct or an array
    have piece : ∀ (e : TypeId) (le : List (Nat × LK)) (s off : Nat) (xs ys : Array Value) (c : Bool), leaves P n e = some le → sizeT P e = some s → (le.all fun p => decide (p.1 < s)) = true →
        leavesV (le.map fun p => (off + p.1, p.2)) xs ys = some c →
        ∃ u v, (Go.part e xs off).run P w = .ok u w ∧ (Go.part e ys off).run P w = .ok v w ∧ (Op.equalIn d e u v).run P w = .ok c w := by
      intro e le s off xs ys c hle hs hall hc
      obtain ⟨hA, hS, hS1, g, hg⟩ := ih e le hle d (by omega) c
      cases g with
      | true =>
        rw [leavesV_shift _ _ _ _ _ hall] at hc
        exact ⟨_, _, part_agg hs hg xs off, part_agg hs hg ys off, hA _ _ hg hc⟩
      | false =>
        obtain ⟨k, rfl⟩ := hS1 hg
        simp only [List.map_cons, List.map_nil, Nat.add_zero, leavesV, Option.bind_eq_some_iff] at hc
        obtain ⟨u, hu, v, hv, c', hc', _, h1, h2⟩ := hc
        cases h1
        simp at h2
        subst h2
        exact ⟨u, v, part_one hg hu, part_one hg hv, hS k u v hg rfl hc'⟩
    split at h
    · rename_i hu
      cases h
      have hg : isAggT P t = some false := by simp [isAggT, hu]
      refine ⟨fun xs ys h => (by rw [hg] at h; cases h), fun k x y _ hk hl => ?_, fun _ => ⟨_, rfl⟩, _, hg⟩
      cases hk
      unfold leafV at hl
      split at hl
      · contradiction
      · cases hl; exact run_equalIn_bool' w d t _ _ hu
      · contradiction
      · cases hl
    · rename_i kk hu
      cases h
      have hg : isAggT P t = some false := by simp [isAggT, hu]
      refine ⟨fun xs ys h => (by rw [hg] at h; cases h), fun k x y _ hk hl => ?_, fun _ => ⟨_, rfl⟩, _, hg⟩
      cases hk
      unfold leafV at hl
      split at hl
      · split at hl
        · rename_i he
          subst he
          cases hl
          exact run_equalIn_int w d t _ _ _ _ hu
        · cases hl
      all_goals first | contradiction | cases hl
    · rename_i hu
      cases h
      have hg : isAggT P t = some false := by simp [isAggT, hu]
      refine ⟨fun xs ys h => (by rw [hg] at h; cases h), fun k x y _ hk hl => ?_, fun _ => ⟨_, rfl⟩, _, hg⟩
      cases hk
      unfold leafV at hl
      split at hl
      · contradiction
      · contradiction
      · cases hl; exact run_equalIn_string w d t _ _ hu
      · cases hl
    · rename_i fs hu
      split at h
      · cases h
      · rename_i hst
        have hg : isAggT P t = some true := by simp [isAggT, hu]
        refine ⟨fun xs ys _ hl => ?_, fun k x y h => (by rw [hg] at h; cases h), fun h => (by rw [hg] at h; cases h), _, hg⟩
        have hfo : P.fieldsOf t = fs := by simp [Program.fieldsOf, hu]
        rw [run_equalIn_struct w d t xs ys (by rw [hfo]; exact hu) (by simpa using hst), hfo]
        obtain ⟨lss, hlss, rfl⟩ := Option.map_eq_some_iff.1 h
        clear h hu hfo
        revert lss b
        generalize fs.toList = l
        induction l with
        | nil =>
          intro b lss hm hl
          simp [mapO] at hm
          subst hm
          simp [leavesV] at hl
          subst hl
          simp [Op.eqFields]
        | cons f r ih2 =>
          intro b lss hm hl
          simp only [mapO, Option.bind_eq_some_iff] at hm
          obtain ⟨lf, hf, lr, hr, hm⟩ := hm
          cases hm
          split at hf
          · cases hf
          · rename_i hname
            simp only [Option.bind_eq_some_iff] at hf
            obtain ⟨le, hle, s, hs, hf⟩ := hf
            split at hf
            · rename_i hall
              cases hf
              simp only [List.flatten_cons, leavesV_append, Option.bind_eq_some_iff] at hl
              obtain ⟨c, hc, c2, hc2, hb⟩ := hl
              cases hb
              obtain ⟨u, v, h1, h2, h3⟩ := piece f.type le s f.offset xs ys c hle hs hall hc
              have hn : f.name ≠ "_" := by simpa using hname
              simp only [Op.eqFields, if_pos hn, Sem.run_bind, h1, h2, h3, Result.andThen_ok]
              cases c
              · simp
              · simpa using ih2 c2 lr hr hc2
            · cases hf
    · rename_i m e hu
      simp only [Option.bind_eq_some_iff] at h
      obtain ⟨le, hle, s, hs, h⟩ := h
      split at h
      · rename_i hall
        cases h
        have hg : isAggT P t = some true := by simp [isAggT, hu]
        refine ⟨fun xs ys _ hl => ?_, fun k x y h => (by rw [hg] at h; cases h), fun h => (by rw [hg] at h; cases h), _, hg⟩
        simp only [Op.equalIn, Sem.run_bind, run_und hu, Result.andThen_ok, run_sizeT hs]
        simp only [Std.Legacy.Range.forIn_eq_forIn_range', Std.Legacy.Range.size, Nat.sub_zero, Nat.add_sub_cancel, Nat.div_one]
        rw [← List.range_eq_range']
        generalize hR : List.range m = R at hl ⊢
        clear hR
        revert b
        induction R with
        | nil =>
          intro b hl
          simp [leavesV] at hl
          subst hl
          simp
        | cons i r ih2 =>
          intro b hl
          simp only [List.flatMap_cons, leavesV_append, Option.bind_eq_some_iff] at hl
          obtain ⟨c, hc, c2, hc2, hb⟩ := hl
          cases hb
          obtain ⟨u, v, h1, h2, h3⟩ := piece e le s (i * s) xs ys c hle hs hall hc
          simp only [List.forIn_cons, Sem.run_bind, h1, h2, h3, Result.andThen_ok]
          cases c
          · simp
          · have := ih2 c2 hc2
            simpa using this
      · cases h
    · cases h

theorem good_aeq (R : Rel B w0 M U w μ ob) {op : BinOp} {ne : Bool} {t t' : TypeId} {x y : Operand} {ls : List (Nat × LK)} {cs ds : List V} {b : Bool} (ho : o.op = .binOp op t x y t') (hop : op = if ne then .neq else .eql) (hguard : P.eqGuardType P.depth t = false)
    (hls : leaves P 10 t = some ls) (hg : isAggT P t = some true)
    (hx : Val B U w μ ob (a.eval x) (.agg cs)) (hy : Val B U w μ ob (a.eval y) (.agg ds)) (h : eqLeaves ls cs ds = some b) :
    Good P o a B w0 M U w μ ob id (.d (.bool (if ne then !b else b))) [] := by
  have h1 := hx.1
  have h2 := hy.1
  simp only [RepV] at h1 h2
  obtain ⟨xs, hxs, hxl⟩ := h1
  obtain ⟨ys, hys, hyl⟩ := h2
  have hl := leaves_rep hxl hyl ls b h
  have he : (Op.equal t (.agg xs) (.agg ys)).run P w = .ok b w := (equalIn_leaves (P := P) (w := w) 10 t ls hls Op.maxDepth (by simp [Op.maxDepth]) b).1 xs ys hg hl
  have hgd := run_eqGuard_agg (P := P) w op t x y xs ys hguard
  refine Good.quiet R (val := .bool (if ne then !b else b)) ?_ (Val.mkBool _)
  subst hop
  cases ne
  · simp only [Bool.false_eq_true, if_false] at hgd ho ⊢
    simp [execOp, ho, hxs, hys, hgd, binOp, he]
  · simp only [if_true] at hgd ho ⊢
    simp [execOp, ho, hxs, hys, hgd, binOp, he]
end
end Go.Proofs.Am
set_option linter.unusedVariables false
set_option linter.unusedSimpArgs false
namespace Go.Proofs.Am
open Go

theorem flat_replicate {z : List D} : ∀ (n k : Nat), k < n * z.length → (flatD (List.replicate n z))[k]? = z[k % z.length]?
  | 0, k, h => by simp at h
  | n + 1, k, h => by
    simp only [List.replicate_succ, flatD, List.flatten_cons]
    by_cases hk : k < z.length
    · rw [List.getElem?_append_left hk, Nat.mod_eq_of_lt hk]
    · rw [List.getElem?_append_right (by omega)]
      have ih := flat_replicate (z := z) n (k - z.length) (by rw [Nat.add_mul] at h; omega)
      simp only [flatD] at ih
      rw [ih, ← Nat.mod_eq_sub_mod (by omega)]

theorem map_range0 {α : Type} (f g : Nat → α) : (Array.range 0).map f = (Array.range 0).map g := by apply Array.ext <;> simp

section
variable {P : Program} {o : Oper} {a : Act} {w0 : World} {B M U : Nat → Prop} {w : World} {μ : Nat → Value} {ob : Heap} {id : Nat}

/-- zero cells, so many elements of them -/
theorem zero_cells {I : Nat → Prop} {z : Value} {zD : List D} (hm : mapO valD z.cells.toList = some zD) (m n : Nat) (hn : n ≤ m * zD.length) (hs0 : 0 < zD.length) (k : Nat) (hk : k * zD.length ≤ n) :
    RepDs w I (((Array.range n).map (z.cells[· % z.cells.size]!)).toList.take (k * zD.length)) (flatD (List.replicate k zD)) := by
  have hzl : z.cells.size = zD.length := by have := mapO_length hm; simpa using this.symm
  have hfl : (flatD (List.replicate k zD)).length = k * zD.length := by
    rw [flat_length (s := zD.length)]
    · simp
    · intro e he; rw [List.eq_of_mem_replicate he]
  refine RepDs.mk ?_ fun i u d h1 h2 => ?_
  · rw [hfl]; simp; omega
  · have hi : i < k * zD.length := by rw [← hfl]; exact (List.getElem?_eq_some_iff.1 h2).1
    rw [flat_replicate k i hi] at h2
    rw [List.getElem?_take_of_lt hi, Array.getElem?_toList, Array.getElem?_map] at h1
    have hin : i < n := by omega
    have hr : (Array.range n)[i]? = some i := by rw [Array.getElem?_eq_getElem (by simpa using hin)]; simp
    rw [hr] at h1
    simp only [Option.map_some, Option.some.injEq] at h1
    obtain ⟨v, hv, hvd⟩ := mapO_at' hm h2
    have hlt : i % z.cells.size < z.cells.size := Nat.mod_lt _ (by omega)
    rw [getElem!_pos z.cells _ hlt] at h1
    rw [← hzl, Array.getElem?_toList, Array.getElem?_eq_getElem hlt] at hv
    cases hv
    rw [← h1]
    exact valD_rep hvd

theorem wrap_small {c : Int} (h0 : 0 ≤ c) (h1 : c ≤ 140737488355328) : IntKind.i64.wrap c = c := IntWalk.i64_in _ (by omega)

theorem good_mksl (R : Rel B w0 M U w μ ob) (hid : ∀ j, j < bound → ¬ U (id + j)) {t e : TypeId} {x y : Operand} {s b : Nat} {zD : List D} {k1 k2 : IntKind} {l c : Int} (ho : o.op = .makeSlice t x y) (ht : P.underlying t = some (.slice e)) (hs : sizeT P e = some s) (hb : bytesT P e = some b) (hz : zeroD P e = some zD) (hs0 : s ≠ 0) (hb0 : b ≠ 0)
    (hsz : zD.length = s) (hx : Val B U w μ ob (a.eval x) (.d (.int k1 l))) (hy : Val B U w μ ob (a.eval y) (.d (.int k2 c))) (h0 : 0 ≤ l) (h1 : l ≤ c) (h2 : c * b ≤ 140737488355328) :
    Good P o a B w0 M U w μ ob id (.own id 0) [(id, .row 0 false s (List.replicate l.toNat zD))] := by
  have hc0 : 0 ≤ c := by omega
  have hcb : c ≤ 140737488355328 := by
    have : c * 1 ≤ c * b := Int.mul_le_mul_of_nonneg_left (by omega) hc0
    omega
  simp only [zeroD, Option.bind_eq_some_iff] at hz
  obtain ⟨z, hz, hm⟩ := hz
  obtain ⟨i, hi, hi1, hi2, hi3⟩ := info_all hs hb hz
  have e1 := RepV.int hx.1
  have e2 := RepV.int hy.1
  have hid0 : ¬ U id := by simpa using hid 0 (by simp [bound])
  subst hsz
  have hw1 : IntKind.i64.wrap l = l := wrap_small h0 (by omega)
  have hw2 : IntKind.i64.wrap c = c := wrap_small hc0 hcb
  have hbc : ¬ ((b : Int) * c > 2 ^ 48) := by rw [Int.mul_comm]; omega
  have hrun : (Instr.makeSlice t (.int k1 l) (.int k2 c)).run P w = .ok (.slice (some ⟨w.heap.size, 0, none⟩) l.toNat c.toNat) (w.alloc (.cells ((Array.range (c.toNat * zD.length)).map (z.cells[· % z.cells.size]!)) e)) := by
    have hlarge : (decide (c < 0) || decide (281474976710656 < (b : Int) * c)) = false := by simp; omega
    by_cases hn0 : c.toNat * zD.length = 0
    · have hc1 : c = 0 := by
        rcases Nat.mul_eq_zero.1 hn0 with h | h
        · omega
        · exact absurd h hs0
      subst hc1
      have hl0 : l = 0 := by omega
      subst hl0
      simp [Instr.makeSlice, run_und ht, asInt, asIntOf, run_info hi, hi2, hw1, run_sizeT hs, newRow]
      rw [map_range0]
    · simp [Instr.makeSlice, run_und ht, asInt, asIntOf, run_info hi, hi2, hw1, hw2, hlarge, run_sizeT hs, hn0, run_zeroT hz, newRow, show ¬ (l < 0) by omega, show ¬ (c < l) by omega]
      intro hbad
      exact absurd hbad (by omega)
  have hln : l.toNat * zD.length ≤ c.toNat * zD.length := Nat.mul_le_mul_right _ (by omega)
  have S := R.put id (w' := w.alloc (.cells ((Array.range (c.toNat * zD.length)).map (z.cells[· % z.cells.size]!)) e)) (.inr hid0) (.row 0 false zD.length (List.replicate l.toNat zD)) (.slice (some ⟨w.heap.size, 0, none⟩) l.toNat c.toNat)
    rfl rfl rfl (by simp) (fun k hk _ => by show (w.heap.push _)[k]? = _; rw [Array.getElem?_push, if_neg (by omega)])
    (fun k hk => by simp [blockOf] at hk; omega) (by simp [refsO]) (fun h => absurd h hid0)
    (fun ob' μ' hm' hI hw hk => ObjOK.row_mk (xs := ((Array.range (c.toNat * zD.length)).map (z.cells[· % z.cells.size]!)).toList.take (l.toNat * zD.length)) (by omega) (fun e' he => by rw [List.eq_of_mem_replicate he])
      (by
        rw [hm']
        refine ⟨by rw [List.length_take, Nat.min_eq_left (by simpa using hln)]; simp, .inr ⟨w.heap.size, c.toNat, (Array.range (c.toNat * zD.length)).map (z.cells[· % z.cells.size]!), e, by simp, ?_, by simp; omega, by simp only [maxLen]; omega, ?_, by simp⟩⟩
        · exact (by show (w.heap.push _)[w.heap.size]? = _; simp)
        · simp)
      ((zero_cells (w := w) (I := Imm B w ob μ) hm (c.toNat) _ (Nat.le_refl _) (by omega) l.toNat hln).mono hI hw))
  refine ⟨.value (.slice (some ⟨w.heap.size, 0, none⟩) l.toNat c.toNat), _, _, _, ?_, .inl rfl, S.newU (fun o'' h => h.imp _root_.id fun e => by subst e; exact ⟨Nat.le_refl _, by simp [bound]⟩), ?_, fun o'' h => ?_⟩
  · simp only [execOp, ho, e1, e2, Sem.run_bind, hrun, Result.andThen_ok, Sem.run_pure]
  · simp only [updAll, RepV, upd_eq]
    exact ⟨rfl, Nat.le_refl _, fun _ => trivial⟩
  · simp [refsV] at h
    subst h
    exact .inr ⟨Nat.le_refl _, by simp [bound]⟩

/-! ### slices built -/
theorem setCells_whole {α : Type} {e ds : List α} (h : ds.length = e.length) : setCells e 0 ds = ds := by
  rw [setCells_eq _ _ _ (by omega)]
  simp [List.drop_of_length_le, h]

theorem RepDs.set {I : Nat → Prop} {us vs : List Value} {elems : List (List D)} {ds : List D} {s i : Nat} (h : RepDs w I vs (flatD elems)) (hel : ∀ e ∈ elems, e.length = s) (hi : i < elems.length) (k : RepDs w I us ds) (hd : ds.length = s) :
    RepDs w I (setCells vs (i * s) us) (flatD (elems.set i ds)) := by
  have he := List.getElem?_eq_getElem hi
  have hf := flat_set hel he (j := 0) (ds := ds) (by omega)
  rw [setCells_whole (by rw [hd]; exact (hel _ (List.getElem_mem hi)).symm), Nat.add_zero] at hf
  have hvl : vs.length = elems.length * s := by rw [h.length, flat_length hel]
  have hbig : (i + 1) * s ≤ elems.length * s := Nat.mul_le_mul_right s hi
  rw [Nat.add_mul] at hbig
  rw [hf, setCells_eq _ _ _ (by rw [hvl, k.length]; omega)]
  rw [k.length]
  exact ((h.part.1 _).append k).append (h.part.2 _)

/-- what is known of the parts of a slice that is built -/
def partsOK (w : World) (I : Nat → Prop) (ev : Operand → Value) (s n : Nat) : List (Nat × Operand) → List (Nat × List D × List (Nat × Obj)) → Prop
  | [], [] => True
  | p :: ps, q :: qs => (p.1 = q.1 ∧ p.1 < n ∧ RepDs w I (ev p.2).cells.toList q.2.1 ∧ q.2.1.length = s) ∧ partsOK w I ev s n ps qs
  | _, _ => False

theorem fill_rows {I : Nat → Prop} {s n : Nat} : ∀ (ps : List (Nat × Operand)) (qs : List (Nat × List D × List (Nat × Obj))) (c : Array Value) (elems : List (List D)), partsOK w I a.eval s n ps qs →
    RepDs w I c.toList (flatD elems) → (∀ e ∈ elems, e.length = s) → elems.length = n →
    ∃ c', Instr.fill (fun i => some (i * s, s)) c (ps.map fun p => (p.1, a.eval p.2)) = some c' ∧ RepDs w I c'.toList (flatD (qs.foldl (fun e p => e.set p.1 p.2.1) elems)) ∧
      (∀ e ∈ qs.foldl (fun e p => e.set p.1 p.2.1) elems, e.length = s) ∧ (qs.foldl (fun e p => e.set p.1 p.2.1) elems).length = n
  | [], [], c, elems, _, h, hl, hn => ⟨c, rfl, h, hl, hn⟩
  | [], _ :: _, _, _, h, _, _, _ => by simp [partsOK] at h
  | _ :: _, [], _, _, h, _, _, _ => by simp [partsOK] at h
  | p :: ps, q :: qs, c, elems, hp, h, hl, hn => by
    simp only [partsOK] at hp
    obtain ⟨⟨h1, h2, h3, h4⟩, hp⟩ := hp
    have hsz : (a.eval p.2).cells.size = s := by have := h3.length; rw [h4] at this; simpa using this
    have hcs : c.size = n * s := by have := h.length; rw [flat_length hl, hn] at this; simpa using this
    have hbig : (p.1 + 1) * s ≤ n * s := Nat.mul_le_mul_right s h2
    rw [Nat.add_mul] at hbig
    have hfill : Instr.fill (fun i => some (i * s, s)) c ((p :: ps).map fun p => (p.1, a.eval p.2)) = Instr.fill (fun i => some (i * s, s)) ((a.eval p.2).cells.zipIdx.foldl (fun cs (x : Value × Nat) => cs.setIfInBounds (p.1 * s + x.2) x.1) c) (ps.map fun p => (p.1, a.eval p.2)) := by
      simp only [List.map_cons, Instr.fill]
      rw [if_neg (by simp [hsz]; omega)]
    rw [hfill]
    simp only [List.foldl_cons]
    refine fill_rows ps qs _ _ hp ?_ ?_ ?_
    · rw [fill_one, ← h1]
      exact h.set hl (by omega) h3 h4
    · intro e he
      rcases List.mem_or_eq_of_mem_set he with h | rfl
      · exact hl e h
      · exact h4
    · simp [hn]

theorem freezes_append {ids1 ids2 : List Nat} : ∀ {f1 f2 : List (Nat × Obj)}, freezes ob ids1 = some f1 → freezes ob ids2 = some f2 → freezes ob (ids1 ++ ids2) = some (f1 ++ f2) := by
  induction ids1 with
  | nil => intro f1 f2 h1 h2; simp [freezes] at h1; subst h1; simpa using h2
  | cons i r ih =>
    intro f1 f2 h1 h2
    simp only [freezes] at h1
    split at h1
    · rename_i v f s e hx
      obtain ⟨l, hl, rfl⟩ := Option.map_eq_some_iff.1 h1
      simp only [List.cons_append, freezes, hx]
      rw [ih hl h2]
      rfl
    · cases h1

theorem good_bslice (R : Rel B w0 M U w μ ob) (hid : ∀ j, j < bound → ¬ U (id + j)) {st : St} {t e : TypeId} {len s : Nat} {parts : Array (Nat × Operand)} {zD : List D} {ps : List (Nat × X)} {l : List (Nat × List D × List (Nat × Obj))} (ho : o.op = .buildSlice t len parts) (ht : P.underlying t = some (.slice e)) (hs : sizeT P e = some s) (hz : zeroD P e = some zD) (hs0 : s ≠ 0) (hbig : len * s ≤ 2 ^ 24) (hsz : zD.length = s)
    (hsl : Slots B U w μ ob a.tmps st.sl) (hp : mapO (fun (p : Nat × Operand) => (compX p.2).map fun x => (p.1, x)) parts.toList = some ps)
    (hl : mapO (fun (p : Nat × X) => (cellsOf (st.val p.2)).bind fun cs => if p.1 < len ∧ cs.length = s then (rowCells ob cs).map fun r => (p.1, r) else none) ps = some l) :
    Good P o a B w0 M U w μ ob id (.own id 0) ((l.flatMap fun p => p.2.2) ++ [(id, .row 0 false s (l.foldl (fun e p => e.set p.1 p.2.1) (List.replicate len zD)))]) := by
  simp only [zeroD, Option.bind_eq_some_iff] at hz
  obtain ⟨z, hz, hm⟩ := hz
  subst hsz
  have hid0 : ¬ U id := by simpa using hid 0 (by simp [bound])
  -- all parts' rows are frozen at once
  have hall : ∀ (qs : List (Nat × Operand)) (ps : List (Nat × X)) (l : List (Nat × List D × List (Nat × Obj))), mapO (fun (p : Nat × Operand) => (compX p.2).map fun x => (p.1, x)) qs = some ps →
      mapO (fun (p : Nat × X) => (cellsOf (st.val p.2)).bind fun cs => if p.1 < len ∧ cs.length = zD.length then (rowCells ob cs).map fun r => (p.1, r) else none) ps = some l →
      ∃ ids, freezes ob ids = some (l.flatMap fun p => p.2.2) ∧ ∀ (I' : Nat → Prop), (∀ b, Imm B w ob μ b → I' b) → (∀ o x b, o ∈ ids → ob o = some x → blockOf (μ o) = some b → I' b) → partsOK w I' a.eval zD.length len qs l := by
    intro qs
    induction qs with
    | nil =>
      intro ps l h1 h2
      simp [mapO] at h1
      subst h1
      simp [mapO] at h2
      subst h2
      exact ⟨[], rfl, fun _ _ _ => by simp [partsOK]⟩
    | cons q qs ih =>
      intro ps l h1 h2
      simp only [mapO, Option.bind_eq_some_iff, Option.map_eq_some_iff] at h1
      obtain ⟨p, ⟨x, hx, rfl⟩, ps', hps, h1⟩ := h1
      cases h1
      simp only [mapO, Option.bind_eq_some_iff] at h2
      obtain ⟨r, ⟨cs, hcs, hr⟩, l', hl', h2⟩ := h2
      cases h2
      split at hr
      · rename_i hc
        obtain ⟨rr, hrr, rfl⟩ := Option.map_eq_some_iff.1 hr
        obtain ⟨ids, hids, hok⟩ := ih ps' l' hps hl'
        have hv := compX_val (a := a) hsl hx
        have hcells := hv.1.cells hcs
        have hrr' := hrr
        simp only [Am.rowCells, Option.bind_eq_some_iff, Option.map_eq_some_iff] at hrr
        obtain ⟨ds, hds, fs, hfs, hrr⟩ := hrr
        subst hrr
        refine ⟨refsL cs ++ ids, freezes_append hfs hids, fun I' hI hV => ?_⟩
        simp only [partsOK]
        refine ⟨⟨by trivial, hc.1, ?_, by rw [mapO_length hds]; exact hc.2⟩, hok I' hI fun o x b ho => hV o x b (List.mem_append.2 (.inr ho))⟩
        refine RepDs.mk (by rw [hcells.length, mapO_length hds]) fun i u d h3 h4 => ?_
        obtain ⟨y, hy, hvy⟩ := mapO_at' hds h4
        have huy := hcells.at i u y h3 hy
        refine ⟨?_, huy.2⟩
        refine view_rep (Vis := fun o => o ∈ refsL cs) R hI (fun o x b ho hx hb => hV o x b (List.mem_append.2 (.inl ho)) hx hb) (fun o cells ho hy' => ?_) _ y u d hvy huy.1 fun o ho => refsL_mem (List.mem_of_getElem? hy) o ho
        obtain ⟨v, f, s, e, h5⟩ := freezes_mem hfs o ho
        rw [h5] at hy'
        cases hy'
      · cases hr
  obtain ⟨ids, hids, hok⟩ := hall parts.toList ps l hp hl
  obtain ⟨S1, h3, h4⟩ := R.freezes hids
  have hpok := hok (Imm B w (updAll ob (l.flatMap fun p => p.2.2)) μ) S1.hI fun o x b ho hx hb => by
    obtain ⟨v, s', e', h5⟩ := h4 o ho
    refine ⟨R.lt hx hb, fun o' y' hy' hm' hb' => ?_, R.inB _ _ _ hx hb⟩
    have := S1.rel.inj o o' _ y' b h5 hy' hb hb'
    subst this
    rw [h5] at hy'
    cases hy'
    simp [muta] at hm'
  have hz0 := zero_cells (w := w) (I := Imm B w (updAll ob (l.flatMap fun p => p.2.2)) μ) hm len (len * zD.length) (Nat.le_refl _) (by omega) len (Nat.le_refl _)
  rw [List.take_of_length_le (by simp)] at hz0
  obtain ⟨c', hfill, hrep, hlen, hll⟩ := fill_rows (a := a) parts.toList l _ _ hpok hz0 (fun e' he => by rw [List.eq_of_mem_replicate he]) (by simp)
  have hcs : c'.size = len * zD.length := by have := hrep.length; rw [flat_length hlen, hll] at this; simpa using this
  have hrun : (execOp a.eval o).run P w = .ok (.value (.slice (some ⟨w.heap.size, 0, none⟩) len len)) (w.alloc (.cells c' e)) := by
    have hpm : (parts.map fun (p : Nat × Operand) => (p.1, a.eval p.2)).toList = parts.toList.map fun p => (p.1, a.eval p.2) := by simp
    have hb2 : ¬ (len * zD.length > 2 ^ 24) := by omega
    by_cases h0 : len * zD.length = 0
    · have hl0 : len = 0 := (Nat.mul_eq_zero.1 h0).resolve_right hs0
      have hf0 : (Array.range (len * zD.length)).map (fun x => (#[] : Array Value)[x % 0]!) = (Array.range (len * zD.length)).map (z.cells[· % z.cells.size]!) := by rw [h0]; exact map_range0 _ _
      simp only [execOp, ho, Instr.buildSlice, Sem.run_bind, run_und ht, run_sizeT hs, Result.andThen_ok, if_neg hb2, if_pos h0, Sem.run_pure, hpm]
      have hf1 : (Array.range (len * zD.length)).map (fun x => (#[] : Array Value)[x % (#[] : Array Value).size]!) = (Array.range (len * zD.length)).map (z.cells[· % z.cells.size]!) := hf0
      simp only [hf1, hfill]
      simp [newRow]
    · simp only [execOp, ho, Instr.buildSlice, Sem.run_bind, run_und ht, run_sizeT hs, Result.andThen_ok, if_neg hb2, if_neg h0, Sem.run_pure, hpm, run_zeroT hz, hfill]
      simp [newRow]
  have S2 := S1.rel.put id (w' := w.alloc (.cells c' e)) (.inr hid0) (.row 0 false zD.length (l.foldl (fun e p => e.set p.1 p.2.1) (List.replicate len zD))) (.slice (some ⟨w.heap.size, 0, none⟩) len len)
    rfl rfl rfl (by simp) (fun k hk _ => by show (w.heap.push _)[k]? = _; rw [Array.getElem?_push, if_neg (by omega)])
    (fun k hk => by simp [blockOf] at hk; omega) (by simp [refsO]) (fun h => absurd h hid0)
    (fun ob' μ' hm' hI hw hk => ObjOK.row_mk (xs := c'.toList) (by omega) hlen
      (by
        rw [hm', hll]
        refine ⟨by simpa using hcs, .inr ⟨w.heap.size, len, c', e, rfl, ?_, Nat.le_refl _, ?_, hcs, ?_⟩⟩
        · exact (by show (w.heap.push _)[w.heap.size]? = _; simp)
        · simp only [maxLen]
          have : len * 1 ≤ len * zD.length := Nat.mul_le_mul_left len (by omega)
          omega
        · rw [List.take_of_length_le]; simp [hcs])
      (hrep.mono hI hw))
  have S := S1.trans S2
  refine ⟨.value (.slice (some ⟨w.heap.size, 0, none⟩) len len), _, _, upd μ id (.slice (some ⟨w.heap.size, 0, none⟩) len len), hrun, .inl rfl, ?_, ?_, fun o'' h => ?_⟩
  · rw [updAll_append]
    exact S.newU fun o'' h => h.imp _root_.id fun e => by subst e; exact ⟨Nat.le_refl _, by simp [bound]⟩
  · rw [updAll_append]
    simp only [updAll, RepV, upd_eq]
    exact ⟨rfl, Nat.le_refl _, fun _ => trivial⟩
  · simp [refsV] at h
    subst h
    exact .inr ⟨Nat.le_refl _, by simp [bound]⟩
end
end Go.Proofs.Am
set_option linter.unusedVariables false
set_option linter.unusedSimpArgs false
namespace Go.Proofs.Am
open Go

def isCall : AOp → Bool
  | .call _ _ _ => true
  | .callv _ _ _ => true
  | _ => false

section
variable {P : Program} {o : Oper} {a : Act} {w0 : World} {B M U : Nat → Prop} {w : World} {μ : Nat → Value} {s : St} {id : Nat}

theorem optX_bound {ob : Heap} {lo : Option Operand} {lx : Option X} {n : Int} {l : Int} (hs : Slots B U w μ ob a.tmps s.sl) (h : optX lo = some lx) (hl : bnd s.val lx n = some l) :
    boundIs a lo l ∧ (lo = none → l = n) := by
  cases lo with
  | none =>
    simp [optX] at h
    subst h
    simp [bnd] at hl
    exact ⟨trivial, fun _ => hl.symm⟩
  | some x =>
    simp only [optX, Option.map_eq_some_iff] at h
    obtain ⟨y, hy, rfl⟩ := h
    have hv := compX_val (a := a) hs hy
    obtain ⟨kk, hk⟩ := asIdx_val hv hl
    exact ⟨⟨kk, hk⟩, fun h => by cases h⟩

theorem args_rep {ob : Heap} {l : List Operand} {xs : List X} (hs : Slots B U w μ ob a.tmps s.sl) (h : mapO compX l = some xs) : ∀ (i : Nat) v x, l[i]? = some v → xs[i]? = some x → Val B U w μ ob (a.eval v) (s.val x) := fun i v x h1 h2 => by
  obtain ⟨y, h3, h4⟩ := mapO_at h h1
  rw [h2] at h3
  cases h3
  exact compX_val (a := a) hs h4

theorem pv_cases {ob : Heap} {vx : V} {k : Nat} {v : V} {ups : List (Nat × Obj)} (h : (match vx with
    | .ref o ver i j => if liveRef ob o ver then some (V.ref o ver i (j + k), ([] : List (Nat × Obj))) else none
    | .d (.ptr c j) => some (.d (.ptr c (j + k)), [])
    | _ => none) = some (v, ups)) : ups = [] ∧ v = shiftV k vx ∧ ((∃ o ver i j, vx = .ref o ver i j ∧ liveRef ob o ver = true) ∨ ∃ c j, vx = .d (.ptr c j)) := by
  split at h
  · split at h
    · rename_i hl
      cases h
      exact ⟨rfl, rfl, .inl ⟨_, _, _, _, rfl, hl⟩⟩
    · cases h
  · cases h
    exact ⟨rfl, rfl, .inr ⟨_, _, rfl⟩⟩
  · cases h

set_option maxHeartbeats 1000000 in
theorem op_good (call : CallT) (R : Rel B w0 M U w μ s.ob) (hs : Slots B U w μ s.ob a.tmps s.sl) (hid : ∀ j, j < bound → ¬ U (id + j)) {hs1 hs2 : List Hint} {ao : AOp} (hc : compOp P o.op hs1 = some (ao, hs2)) (hnc : isCall ao = false)
    {v : V} {ups : List (Nat × Obj)} (h : opEval call s.val s.ob id ao = some (v, ups)) : Good P o a B w0 M U w μ s.ob id v ups := by
  generalize ho : o.op = op at hc
  unfold compOp at hc
  split at hc
  · -- move
    rename_i x
    obtain ⟨y, hy, hc⟩ := Option.map_eq_some_iff.1 hc
    cases hc
    simp only [opEval, Option.some.injEq, Prod.mk.injEq] at h
    obtain ⟨rfl, rfl⟩ := h
    exact good_mov R (.inl ho) (compX_val hs hy)
  · -- assign
    rename_i x
    obtain ⟨y, hy, hc⟩ := Option.map_eq_some_iff.1 hc
    cases hc
    simp only [opEval, Option.some.injEq, Prod.mk.injEq] at h
    obtain ⟨rfl, rfl⟩ := h
    exact good_mov R (.inr ho) (compX_val hs hy)
  · -- pick
    rename_i c x y
    simp only [Option.bind_eq_some_iff, Option.map_eq_some_iff] at hc
    obtain ⟨c', hc', x', hx', y', hy', hc⟩ := hc
    cases hc
    simp only [opEval] at h
    split at h
    · rename_i t ht
      cases h
      have h1 := compX_val (a := a) hs hc'
      rw [ht] at h1
      exact good_pick R ho h1 (compX_val hs hx') (compX_val hs hy')
    · cases h
  · -- box
    rename_i t x
    simp only [Option.bind_eq_some_iff, Option.map_eq_some_iff] at hc
    obtain ⟨n, hn, x', hx', hc⟩ := hc
    cases hc
    simp only [opEval, Option.bind_eq_some_iff] at h
    obtain ⟨cs, hcs, h⟩ := h
    split at h
    · cases h
      exact good_box R hid ho (compX_val hs hx') hcs
    · cases h
  · -- alloc
    rename_i t
    obtain ⟨cs, hcs, hc⟩ := Option.map_eq_some_iff.1 hc
    cases hc
    simp only [opEval, Option.some.injEq, Prod.mk.injEq] at h
    obtain ⟨rfl, rfl⟩ := h
    exact good_alloc R hid ho hcs
  · -- build
    rename_i t parts
    simp only [Option.bind_eq_some_iff] at hc
    obtain ⟨z, hz, hc⟩ := hc
    split at hc
    · rename_i fs hu
      split at hc
      · cases hc
      · rename_i hall
        obtain ⟨ps, hps, hc⟩ := Option.map_eq_some_iff.1 hc
        cases hc
        simp only [opEval, Option.map_eq_some_iff] at h
        obtain ⟨cs, hcs, h⟩ := h
        cases h
        exact good_build R ho hs hz (.inl ⟨fs, hu, eq_true_of_ne_false hall, hps⟩) hcs
    · rename_i m e hu
      simp only [Option.bind_eq_some_iff, Option.map_eq_some_iff] at hc
      obtain ⟨n, hn, ps, hps, hc⟩ := hc
      cases hc
      simp only [opEval, Option.map_eq_some_iff] at h
      obtain ⟨cs, hcs, h⟩ := h
      cases h
      exact good_build R ho hs hz (.inr ⟨m, e, n, hu, hn, hps⟩) hcs
    · cases hc
  · -- buildSlice
    rename_i t len parts
    simp only [Option.bind_eq_some_iff] at hc
    obtain ⟨e, he, n, hn, z, hz, hc⟩ := hc
    split at hc
    · cases hc
    · rename_i hcond
      obtain ⟨ps, hps, hc⟩ := Option.map_eq_some_iff.1 hc
      cases hc
      simp only [opEval, Option.map_eq_some_iff] at h
      obtain ⟨l, hl, h⟩ := h
      cases h
      exact good_bslice R hid ho (und_of_slice he) hn hz (by omega) (by omega) (by omega) hs hps hl
  · -- load
    rename_i t x
    simp only [Option.bind_eq_some_iff, Option.map_eq_some_iff] at hc
    obtain ⟨g, hg, n, hn, x', hx', hc⟩ := hc
    cases hc
    exact good_load R ho hg hn (compX_val hs hx') rfl h
  · -- store
    rename_i t x y
    simp only [Option.bind_eq_some_iff, Option.map_eq_some_iff] at hc
    obtain ⟨n, hn, x', hx', y', hy', hc⟩ := hc
    cases hc
    have hx := compX_val (a := a) hs hx'
    have hy := compX_val (a := a) hs hy'
    simp only [opEval] at h
    split at h
    · rename_i o' ver i j hv
      rw [hv] at hx
      split at h
      · rename_i cells hob
        simp only [Option.bind_eq_some_iff] at h
        obtain ⟨cs, hcs, h⟩ := h
        split at h
        · rename_i hcond
          cases h
          obtain ⟨rfl, h2, h3⟩ := hcond
          exact good_store_box R ho hn hx hob hy hcs h2 h3
        · cases h
      · rename_i v' esz elems hob
        simp only [Option.bind_eq_some_iff] at h
        obtain ⟨cs, hcs, h⟩ := h
        split at h
        · rename_i hcond
          obtain ⟨rfl, h2, h3⟩ := hcond
          simp only [Option.bind_eq_some_iff] at h
          obtain ⟨e, he, r, hr, h⟩ := h
          split at h
          · cases h
          · rename_i hnot
            cases h
            refine good_store_row R ho hn hx hob hy hcs h2 h3 he hr fun p hp e => hnot ?_
            simp only [List.contains_eq_any_beq, List.any_eq_true, beq_iff_eq]
            exact ⟨p.1, List.mem_map_of_mem hp, e.symm⟩
        · cases h
      · cases h
    · cases h
  · -- nilCheck
    rename_i x
    obtain ⟨y, hy, hc⟩ := Option.map_eq_some_iff.1 hc
    cases hc
    have hx := compX_val (a := a) hs hy
    simp only [opEval] at h
    split at h
    · rename_i hv
      split at h
      · rename_i hl
        cases h
        rw [hv] at hx
        exact good_nilchk R ho hx (.inl ⟨_, _, _, _, rfl, hl⟩)
      · cases h
    · rename_i hv
      cases h
      rw [hv] at hx
      exact good_nilchk R ho hx (.inr (.inl ⟨_, _, rfl⟩))
    · rename_i hv
      cases h
      rw [hv] at hx
      exact good_nilchk R ho hx (.inr (.inr (.inl ⟨_, _, rfl⟩)))
    · rename_i hv
      cases h
      rw [hv] at hx
      exact good_nilchk R ho hx (.inr (.inr (.inr ⟨_, _, rfl⟩)))
    · cases h
  · -- binOp
    rename_i op t x y t'
    simp only [Option.bind_eq_some_iff] at hc
    obtain ⟨x', hx', y', hy', hc⟩ := hc
    have hx := compX_val (a := a) hs hx'
    have hy := compX_val (a := a) hs hy'
    have hbeq : ∀ ne : Bool, ao = .beq ne x' y' → op = (if ne then .neq else .eql) → P.underlying t = some .bool → Good P o a B w0 M U w μ s.ob id v ups := by
      intro ne h1 h2 h3
      subst h1
      simp only [opEval] at h
      split at h
      · rename_i e1 e2
        cases h
        rw [e1] at hx
        rw [e2] at hy
        exact good_beq R ho h2 h3 hx hy
      · cases h
    have haeq : ∀ (ne : Bool) (ls : List (Nat × LK)), ao = .aeq ne ls x' y' → op = (if ne then .neq else .eql) → isAggT P t = some true → P.eqGuardType P.depth t = false → leaves P 10 t = some ls → Good P o a B w0 M U w μ s.ob id v ups := by
      intro ne ls h1 h2 h3 h4 h5
      subst h1
      simp only [opEval] at h
      split at h
      · rename_i e1 e2
        obtain ⟨r, hr, h⟩ := Option.map_eq_some_iff.1 h
        cases h
        rw [e1] at hx
        rw [e2] at hy
        exact good_aeq R ho h2 h4 h5 h3 hx hy hr
      · cases h
    split at hc
    · rename_i hu; cases hc; exact hbeq false rfl rfl hu
    · rename_i hu; cases hc; exact hbeq true rfl rfl hu
    · rename_i hu
      split at hc
      · cases hc
      · rename_i hg
        obtain ⟨ls, hls, hc⟩ := Option.map_eq_some_iff.1 hc
        cases hc
        exact haeq false ls rfl rfl (by simp [isAggT, hu]) (by simpa using hg) hls
    · rename_i hu
      split at hc
      · cases hc
      · rename_i hg
        obtain ⟨ls, hls, hc⟩ := Option.map_eq_some_iff.1 hc
        cases hc
        exact haeq false ls rfl rfl (by simp [isAggT, hu]) (by simpa using hg) hls
    · rename_i hu
      split at hc
      · cases hc
      · rename_i hg
        obtain ⟨ls, hls, hc⟩ := Option.map_eq_some_iff.1 hc
        cases hc
        exact haeq true ls rfl rfl (by simp [isAggT, hu]) (by simpa using hg) hls
    · rename_i hu
      split at hc
      · cases hc
      · rename_i hg
        obtain ⟨ls, hls, hc⟩ := Option.map_eq_some_iff.1 hc
        cases hc
        exact haeq true ls rfl rfl (by simp [isAggT, hu]) (by simpa using hg) hls
    · cases hc
      simp only [opEval] at h
      split at h
      · rename_i e1 e2
        obtain ⟨z, hz, h⟩ := Option.map_eq_some_iff.1 h
        cases h
        rw [e1] at hx
        rw [e2] at hy
        exact good_bin R ho hx hy hz
      · cases h
  · -- unOp
    rename_i op t x
    obtain ⟨y, hy, hc⟩ := Option.map_eq_some_iff.1 hc
    cases hc
    have hx := compX_val (a := a) hs hy
    simp only [opEval] at h
    split at h
    · rename_i e1
      obtain ⟨z, hz, h⟩ := Option.map_eq_some_iff.1 h
      cases h
      rw [e1] at hx
      exact good_un R ho hx hz
    · cases h
  · -- convert
    rename_i src dst x
    simp only [Option.bind_eq_some_iff] at hc
    obtain ⟨y, hy, hc⟩ := hc
    have hx := compX_val (a := a) hs hy
    have key : ∀ (c : Cv) (ds dd : TypeDesc), ao = .conv c y → P.underlying src = some ds → P.underlying dst = some dd → ((∃ k, c = .toInt k ∧ dd = .int k) ∨ (∃ k, c = .toFlt k ∧ dd = .float k) ∨ (c = .same ∧ dd = .string)) → Good P o a B w0 M U w μ s.ob id v ups := by
      intro c ds dd h1 h2 h3 h4
      subst h1
      simp only [opEval] at h
      split at h
      · rename_i e1
        obtain ⟨z, hz, h⟩ := Option.map_eq_some_iff.1 h
        cases h
        rw [e1] at hx
        exact good_conv R ho hx h2 h3 h4 hz
      · cases h
    split at hc
    · rename_i h2 h3; cases hc; exact key _ _ _ rfl h2 h3 (.inl ⟨_, rfl, rfl⟩)
    · rename_i h2 h3; cases hc; exact key _ _ _ rfl h2 h3 (.inl ⟨_, rfl, rfl⟩)
    · rename_i h2 h3; cases hc; exact key _ _ _ rfl h2 h3 (.inr (.inl ⟨_, rfl, rfl⟩))
    · rename_i h2 h3; cases hc; exact key _ _ _ rfl h2 h3 (.inr (.inr ⟨rfl, rfl⟩))
    · cases hc
  · -- makeFunc
    rename_i f first captured
    split at hc
    · rename_i hemp
      obtain ⟨xs, hxs, hc⟩ := Option.map_eq_some_iff.1 hc
      cases hc
      simp only [opEval] at h
      split at h
      · rename_i hall
        cases h
        have hf : first = #[] := by simpa using hemp
        subst hf
        refine good_mkfn R ho (RepL.mk (by simp [mapO_length hxs]) fun i u x h1 h2 => ?_) fun q hq => ?_
        · simp only [List.getElem?_map, Option.map_eq_some_iff] at h1 h2
          obtain ⟨c, hc, rfl⟩ := h1
          obtain ⟨y, hy, rfl⟩ := h2
          have hv := args_rep (a := a) hs hxs i c y hc hy
          exact ⟨hv.1, hv.1.one1 (List.all_eq_true.1 hall _ (List.mem_map_of_mem (List.mem_of_getElem? hy)))⟩
        · obtain ⟨x, hx, hq⟩ := refsL_of hq
          obtain ⟨y, hy, rfl⟩ := List.mem_map.1 hx
          obtain ⟨i, hi⟩ := List.getElem?_of_mem hy
          obtain ⟨c, hc, _⟩ := mapO_at' hxs hi
          exact (args_rep (a := a) hs hxs i c y hc hi).2 q hq
      · cases h
    · cases hc
  · -- makeSlice
    rename_i t len cap
    simp only [Option.bind_eq_some_iff] at hc
    obtain ⟨e, he, n, hn, b, hb, z, hz, hc⟩ := hc
    split at hc
    · cases hc
    · rename_i hcond
      simp only [Option.bind_eq_some_iff, Option.map_eq_some_iff] at hc
      obtain ⟨l, hl, c, hcc, hc⟩ := hc
      cases hc
      have hx := compX_val (a := a) hs hl
      have hy := compX_val (a := a) hs hcc
      simp only [opEval] at h
      split at h
      · rename_i e1 e2
        split at h
        · rename_i hb'
          cases h
          rw [e1] at hx
          rw [e2] at hy
          exact good_mksl R hid ho (und_of_slice he) hn hb hz (by omega) (by omega) (by omega) hx hy hb'.1 hb'.2.1 hb'.2.2
        · cases h
      · cases h
  · -- slice
    rename_i t x lo hi
    split at hc
    · rename_i e hu
      simp only [Option.bind_eq_some_iff, Option.map_eq_some_iff] at hc
      obtain ⟨n, hn, x', hx', lo', hlo', hi', hhi', hc⟩ := hc
      cases hc
      have hx := compX_val (a := a) hs hx'
      simp only [opEval, Option.bind_eq_some_iff] at h
      obtain ⟨l, hl, h⟩ := h
      obtain ⟨hbl, hdl⟩ := optX_bound hs hlo' hl
      split at h
      · rename_i el hv
        rw [hv] at hx
        simp only [Option.bind_eq_some_iff] at h
        obtain ⟨hh, hhh, h⟩ := h
        obtain ⟨hbh, hdh⟩ := optX_bound hs hhi' hhh
        split at h
        · rename_i hb
          cases h
          exact good_slice_d R ho hu hn hx hbl hbh hdl hdh hb.1 hb.2.1 hb.2.2.1 hb.2.2.2
        · cases h
      · rename_i hv
        rw [hv] at hx
        simp only [Option.bind_eq_some_iff] at h
        obtain ⟨hh, hhh, h⟩ := h
        obtain ⟨hbh, hdh⟩ := optX_bound hs hhi' hhh
        split at h
        · rename_i hb
          cases h
          obtain ⟨rfl, rfl⟩ := hb
          exact good_slice_nsl R ho hu hn hx hbl hbh
        · cases h
      · rename_i o' ver hv
        rw [hv] at hx
        split at h
        · rename_i v' f sz el hob
          simp only [Option.bind_eq_some_iff] at h
          obtain ⟨hh, hhh, h⟩ := h
          obtain ⟨hbh, hdh⟩ := optX_bound hs hhi' hhh
          split at h
          · rename_i hb
            cases h
            obtain ⟨rfl, rfl, hb⟩ := hb
            exact good_slice_own R ho hu hn hx hob hbl hbh hdl hdh hb.1 hb.2.1 hb.2.2
          · cases h
        · cases h
      · rename_i o' ver off len hv
        rw [hv] at hx
        simp only [Option.bind_eq_some_iff] at h
        obtain ⟨hh, hhh, h⟩ := h
        obtain ⟨hbh, hdh⟩ := optX_bound hs hhi' hhh
        split at h
        · rename_i hb
          cases h
          have hlr := hb.1
          unfold liveRow at hlr
          split at hlr
          · rename_i v' f sz el hob
            simp only [Bool.and_eq_true, beq_iff_eq] at hlr
            obtain ⟨rfl, rfl⟩ := hlr
            exact good_slice_osl R ho hu hn hx hob hbl hbh hdl hdh hb.2.1 hb.2.2.1 hb.2.2.2
          · cases hlr
        · cases h
      · cases h
    · rename_i hu
      simp only [Option.bind_eq_some_iff, Option.map_eq_some_iff] at hc
      obtain ⟨x', hx', lo', hlo', hi', hhi', hc⟩ := hc
      cases hc
      have hx := compX_val (a := a) hs hx'
      simp only [opEval, Option.bind_eq_some_iff] at h
      obtain ⟨l, hl, h⟩ := h
      obtain ⟨hbl, hdl⟩ := optX_bound hs hlo' hl
      split at h
      · rename_i st hv
        rw [hv] at hx
        simp only [Option.bind_eq_some_iff] at h
        obtain ⟨hh, hhh, h⟩ := h
        obtain ⟨hbh, hdh⟩ := optX_bound hs hhi' hhh
        split at h
        · rename_i hb
          cases h
          exact good_slice_str R ho hu hx hbl hbh hdl hdh hb.1 hb.2.1 hb.2.2
        · cases h
      · cases h
    · cases hc
  · -- fieldAddr
    rename_i t x f
    split at hc
    · rename_i fs hu
      simp only [fieldsAt, Option.bind_eq_some_iff, Option.map_eq_some_iff] at hc
      obtain ⟨p, ⟨fl, hfl, n, hn, rfl⟩, hc⟩ := hc
      split at hc
      · cases hc
      · rename_i hn0
        obtain ⟨y, hy, hc⟩ := Option.map_eq_some_iff.1 hc
        cases hc
        have hx := compX_val (a := a) hs hy
        simp only [opEval] at h
        obtain ⟨rfl, rfl, hv⟩ := pv_cases h
        exact good_fa R ho hu hfl hn hn0 hx hv
    · cases hc
  · -- field
    rename_i t x f
    split at hc
    · rename_i fs hu
      simp only [Option.bind_eq_some_iff, Option.map_eq_some_iff] at hc
      obtain ⟨fl, hfl, n, hn, g, hg, y, hy, hc⟩ := hc
      cases hc
      have hx := compX_val (a := a) hs hy
      simp only [opEval] at h
      split at h
      · rename_i cells hv
        rw [hv] at hx
        obtain ⟨v', hv', h⟩ := Option.map_eq_some_iff.1 h
        cases h
        exact good_fld R ho hu hfl hn hg hx hv'
      · cases h
    · cases hc
  · -- indexAddr
    rename_i t x i
    simp only [Option.bind_eq_some_iff] at hc
    obtain ⟨x', hx', i', hi', hc⟩ := hc
    have hx := compX_val (a := a) hs hx'
    have hi := compX_val (a := a) hs hi'
    split at hc
    · rename_i e hu
      simp only [Option.bind_eq_some_iff] at hc
      obtain ⟨n, hn, hc⟩ := hc
      split at hc
      · cases hc
      · cases hc
        simp only [opEval] at h
        split at h
        · cases h
        · rename_i k hk
          split at h
          · rename_i el hv
            rw [hv] at hx
            split at h
            · rename_i h0
              simp only [Option.bind_eq_some_iff] at h
              obtain ⟨c, hcell, h⟩ := h
              split at h
              · rename_i hlen
                cases h
                exact good_ia_d R ho hu hn hx hi hk h0 hcell hlen
              · cases h
            · cases h
          · rename_i o' ver hv
            rw [hv] at hx
            split at h
            · rename_i v' f sz el hob
              split at h
              · rename_i hb
                cases h
                obtain ⟨rfl, rfl, h0, h1⟩ := hb
                exact good_ia_own R ho hu hn hx hob hi hk h0 h1
              · cases h
            · cases h
          · rename_i o' ver off len hv
            rw [hv] at hx
            split at h
            · rename_i v' f sz el hob
              split at h
              · rename_i hb
                cases h
                obtain ⟨rfl, rfl, h0, h1, _⟩ := hb
                exact good_ia_osl R ho hu hn hx hob hi hk h0 h1
              · cases h
            · cases h
          · cases h
    · rename_i n e hu
      obtain ⟨sz, hsz, hc⟩ := Option.map_eq_some_iff.1 hc
      cases hc
      simp only [opEval] at h
      split at h
      · cases h
      · rename_i k hk
        split at h
        · rename_i hb
          obtain ⟨rfl, rfl, hv⟩ := pv_cases h
          exact good_iaa R ho hu hsz hx hi hk hb.1 hb.2 hv
        · cases h
    · cases hc
  · -- index
    rename_i t x i
    simp only [Option.bind_eq_some_iff] at hc
    obtain ⟨x', hx', i', hi', hc⟩ := hc
    have hx := compX_val (a := a) hs hx'
    have hi := compX_val (a := a) hs hi'
    split at hc
    · rename_i hu
      cases hc
      simp only [opEval] at h
      split at h
      · rename_i st k hv hk
        rw [hv] at hx
        split at h
        · rename_i h0
          obtain ⟨b, hb, h⟩ := Option.map_eq_some_iff.1 h
          cases h
          exact good_idxs R ho hu hx hi hk h0 hb
        · cases h
      · cases h
    · rename_i n e hu
      simp only [Option.bind_eq_some_iff, Option.map_eq_some_iff] at hc
      obtain ⟨sz, hsz, g, hg, hc⟩ := hc
      cases hc
      simp only [opEval] at h
      split at h
      · rename_i cells k hv hk
        rw [hv] at hx
        split at h
        · rename_i hb
          obtain ⟨v', hv', h⟩ := Option.map_eq_some_iff.1 h
          cases h
          exact good_idxa R ho hu hsz hg hx hi hk hb.1 hb.2 hv'
        · cases h
      · cases h
    · cases hc
  · -- extract
    rename_i x i
    obtain ⟨y, hy, hc⟩ := Option.map_eq_some_iff.1 hc
    cases hc
    have hx := compX_val (a := a) hs hy
    simp only [opEval] at h
    split at h
    · rename_i vs hv
      rw [hv] at hx
      obtain ⟨v', hv', h⟩ := Option.map_eq_some_iff.1 h
      cases h
      exact good_ext R ho hx hv'
    · cases h
  · -- call
    rename_i c
    simp only [Option.bind_eq_some_iff] at hc
    obtain ⟨xs, hxs, hc⟩ := hc
    have hargs := args_rep (a := a) hs hxs
    have hlen := mapO_length hxs
    -- the arguments, by their number
    have one : ∀ x, xs = [x] → ∃ y, c.args = #[y] ∧ Val B U w μ s.ob (a.eval y) (s.val x) := fun x hx => by
      subst hx
      match hcl : c.args.toList with
      | [] => rw [hcl] at hlen; simp at hlen
      | [y] => exact ⟨y, by rw [← Array.toArray_toList (xs := c.args), hcl], hargs 0 y x (by rw [hcl]; rfl) rfl⟩
      | _ :: _ :: _ => rw [hcl] at hlen; simp at hlen
    have two : ∀ x1 x2, xs = [x1, x2] → ∃ y1 y2, c.args = #[y1, y2] ∧ Val B U w μ s.ob (a.eval y1) (s.val x1) ∧ Val B U w μ s.ob (a.eval y2) (s.val x2) := fun x1 x2 hx => by
      subst hx
      match hcl : c.args.toList with
      | [] => rw [hcl] at hlen; simp at hlen
      | [_] => rw [hcl] at hlen; simp at hlen
      | [y1, y2] => exact ⟨y1, y2, by rw [← Array.toArray_toList (xs := c.args), hcl], hargs 0 y1 x1 (by rw [hcl]; rfl) rfl, hargs 1 y2 x2 (by rw [hcl]; rfl) rfl⟩
      | _ :: _ :: _ :: _ => rw [hcl] at hlen; simp at hlen
    have three : ∀ x1 x2 x3, xs = [x1, x2, x3] → ∃ y1 y2 y3, c.args = #[y1, y2, y3] ∧ Val B U w μ s.ob (a.eval y1) (s.val x1) ∧ Val B U w μ s.ob (a.eval y2) (s.val x2) ∧ Val B U w μ s.ob (a.eval y3) (s.val x3) := fun x1 x2 x3 hx => by
      subst hx
      match hcl : c.args.toList with
      | [] => rw [hcl] at hlen; simp at hlen
      | [_] => rw [hcl] at hlen; simp at hlen
      | [_, _] => rw [hcl] at hlen; simp at hlen
      | [y1, y2, y3] => exact ⟨y1, y2, y3, by rw [← Array.toArray_toList (xs := c.args), hcl], hargs 0 y1 x1 (by rw [hcl]; rfl) rfl, hargs 1 y2 x2 (by rw [hcl]; rfl) rfl, hargs 2 y3 x3 (by rw [hcl]; rfl) rfl⟩
      | _ :: _ :: _ :: _ :: _ => rw [hcl] at hlen; simp at hlen
    have hmm : ∀ mx : Bool, c.callee = .builtin (if mx then .max else .min) → ao = .minmax mx xs → Good P o a B w0 M U w μ s.ob id v ups := by
      intro mx hcal h1
      subst h1
      simp only [opEval] at h
      split at h
      · rename_i k m k' n hxx
        match hxl : xs with
        | [] => simp at hxx
        | [_] => simp at hxx
        | [x1, x2] =>
          simp at hxx
          obtain ⟨y1, y2, h1, h2, h3⟩ := two x1 x2 rfl
          rw [hxx.1] at h2
          rw [hxx.2] at h3
          cases h
          exact good_minmax2 R ho hcal h1 h2 h3
        | _ :: _ :: _ :: _ => simp at hxx
      · rename_i k m k' n k'' q hxx
        match hxl : xs with
        | [] => simp at hxx
        | [_] => simp at hxx
        | [_, _] => simp at hxx
        | [x1, x2, x3] =>
          simp at hxx
          obtain ⟨y1, y2, y3, h1, h2, h3, h4⟩ := three x1 x2 x3 rfl
          rw [hxx.1] at h2
          rw [hxx.2.1] at h3
          rw [hxx.2.2] at h4
          cases h
          exact good_minmax3 R ho hcal h1 h2 h3 h4
        | _ :: _ :: _ :: _ :: _ => simp at hxx
      · cases h
    have hri : ∀ (im : Bool) (x : X), c.callee = .builtin (if im then .imag else .real) → xs = [x] → ao = .reim im x → Good P o a B w0 M U w μ s.ob id v ups := by
      intro im x hcal hx h1
      subst h1
      obtain ⟨y, h1, h2⟩ := one x hx
      simp only [opEval] at h
      split at h
      · rename_i e1
        cases h
        rw [e1] at h2
        exact good_reim R ho hcal h1 h2
      · cases h
    split at hc
    · split at hc
      · cases hc; simp [isCall] at hnc
      · cases hc
    · simp only [Option.bind_eq_some_iff] at hc
      obtain ⟨fx, _, hc⟩ := hc
      split at hc
      · cases hc; simp [isCall] at hnc
      · cases hc
    · rename_i hcal
      split at hc
      · rename_i x el hu
        cases hc
        obtain ⟨y, h1, h2⟩ := one x rfl
        obtain ⟨t, ht, hu⟩ := Option.bind_eq_some_iff.1 hu
        simp only [opEval] at h
        split at h
        · cases h
        · rename_i hns
          obtain ⟨e, he, h⟩ := Option.map_eq_some_iff.1 h
          cases h
          exact good_len R ho hcal h1 ht hu h2 (fun st e => hns st e) he
      · rename_i x hu
        cases hc
        obtain ⟨y, h1, h2⟩ := one x rfl
        obtain ⟨t, ht, hu⟩ := Option.bind_eq_some_iff.1 hu
        simp only [opEval] at h
        split at h
        · rename_i hv
          cases h
          rw [hv] at h2
          exact good_slen R ho hcal h1 ht hu h2
        · cases h
      · rename_i x n e hu
        cases hc
        obtain ⟨y, h1, _⟩ := one x rfl
        obtain ⟨t, ht, hu⟩ := Option.bind_eq_some_iff.1 hu
        simp only [opEval, Option.some.injEq, Prod.mk.injEq] at h
        obtain ⟨rfl, rfl⟩ := h
        exact good_lenc R ho hcal h1 ht hu
      · cases hc
    · rename_i hcal
      have key : ∀ (x1 x2 : X) (t : TypeId) (d : TypeDesc), xs = [x1, x2] → c.argTypes[0]? = some t → (c.argTypes[1]?).bind P.underlying = some d → ((∃ el, d = .slice el) ∨ d = .string) →
          ((sliceE P t).bind fun e => (sizeT P e).bind fun n => (bytesT P e).bind fun b => (zeroT P e).bind fun z => if n = 0 ∨ b = 0 ∨ z.cells.size ≠ n then none else some (AOp.append n b x1 x2, hs1)) = some (ao, hs2) → Good P o a B w0 M U w μ s.ob id v ups := by
        intro x1 x2 t d hx ht hxt hd hc
        simp only [Option.bind_eq_some_iff] at hc
        obtain ⟨e, he, n, hn, b, hb, z, hz, hc⟩ := hc
        split at hc
        · cases hc
        · rename_i hcond
          cases hc
          obtain ⟨y1, y2, h1, h2, h3⟩ := two x1 x2 hx
          obtain ⟨xt, hxt1, hxt2⟩ := Option.bind_eq_some_iff.1 hxt
          simp only [opEval, Option.bind_eq_some_iff] at h
          obtain ⟨new, hnew, h⟩ := h
          split at h
          · cases h
          · rename_i hall
            have hall' : ∀ e ∈ new, e.length = n := by
              have := eq_true_of_ne_false hall
              simpa using this
            split at h
            · rename_i hv
              rw [hv] at h2
              split at h
              · rename_i hbytes
                have := good_append_nsl R hid ho hcal h1 ht hxt1 (und_of_slice he) hxt2 hd hn hb hz (by omega) (by omega) (by omega) h2 h3 hnew hall' hbytes
                split at h
                · rename_i hemp
                  cases h
                  simpa [hemp] using this
                · rename_i hemp
                  cases h
                  simpa [hemp] using this
              · cases h
            · rename_i o' ver hv
              rw [hv] at h2
              split at h
              · rename_i v' sz el hob
                split at h
                · rename_i hb'
                  cases h
                  obtain ⟨rfl, rfl, hbytes⟩ := hb'
                  exact good_append_own R ho hcal h1 ht hxt1 (und_of_slice he) hxt2 hd hn hb hz (by omega) (by omega) h2 hob h3 hnew hall' hbytes
                · cases h
              · cases h
            · cases h
      split at hc
      · rename_i x1 x2 t el ht hxt
        exact key x1 x2 t _ rfl ht hxt (.inl ⟨_, rfl⟩) hc
      · rename_i x1 x2 t ht hxt
        exact key x1 x2 t _ rfl ht hxt (.inr rfl) hc
      · cases hc
    · rename_i hcal
      split at hc
      · rename_i d1 s1 e he
        simp only [Option.bind_eq_some_iff] at hc
        obtain ⟨n, hn, hc⟩ := hc
        split at hc
        · cases hc
        · cases hc
          obtain ⟨y1, y2, h1, h2, h3⟩ := two d1 s1 rfl
          obtain ⟨t, ht, he⟩ := Option.bind_eq_some_iff.1 he
          simp only [opEval, Option.bind_eq_some_iff] at h
          obtain ⟨src, hsrc, h⟩ := h
          split at h
          · cases h
          · rename_i hall
            have hall' : ∀ e ∈ src, e.length = n := by
              have := eq_true_of_ne_false hall
              simpa using this
            split at h
            · rename_i o' ver hv
              rw [hv] at h2
              split at h
              · rename_i v' sz el hob
                split at h
                · rename_i hb'
                  cases h
                  obtain ⟨rfl, rfl⟩ := hb'
                  exact good_copy R ho hcal h1 ht (und_of_slice he) hn h2 hob h3 hsrc hall'
                · cases h
              · cases h
            · cases h
      · cases hc
    · rename_i hcal
      cases hc
      exact hmm true hcal rfl
    · rename_i hcal
      cases hc
      exact hmm false hcal rfl
    · rename_i hcal
      split at hc
      · cases hc
        exact hri false _ hcal rfl rfl
      · cases hc
    · rename_i hcal
      split at hc
      · cases hc
        exact hri true _ hcal rfl rfl
      · cases hc
    · rename_i hcal
      split at hc
      · rename_i x1 x2
        cases hc
        obtain ⟨y1, y2, h1, h2, h3⟩ := two x1 x2 rfl
        simp only [opEval] at h
        split at h
        · rename_i k1 m k2 n e1 e2
          split at h
          · rename_i hk
            cases h
            subst hk
            rw [e1] at h2
            rw [e2] at h3
            exact good_mkcpx R ho hcal h1 h2 h3
          · cases h
        · cases h
      · cases hc
    · cases hc
  · -- panic
    cases hc
    simp [opEval] at h
  · cases hc
end
end Go.Proofs.Am
set_option linter.unusedVariables false
set_option linter.unusedSimpArgs false
namespace Go.Proofs.Am
open Go

def MutB (ob : Heap) (μ : Nat → Value) (b : Nat) : Prop := ∃ o x, ob o = some x ∧ blockOf (μ o) = some b

/-- Whatever 'call' answers, the model's call of that function answers. -/
def CallOK (P : Program) (call : CallT) : Prop := ∀ f args objs r, call f args objs = some r →
  (∀ vals w, (callFunc f vals).run P w = .ok (.enter f vals) w) ∧
  ∀ (B : Nat → Prop) (w : World) (μ : Nat → Value) (vals : Array Value),
    Rel B w (MutB (argOb 0 objs) μ) (fun o => o < objs.length) w μ (argOb 0 objs) → vals.size = args.length →
    (∀ (i : Nat) v x, vals[i]? = some v → args[i]? = some x → Val B (fun o => o < objs.length) w μ (argOb 0 objs) v x) →
    Calls P f vals w fun e w' => ∃ v μ', e = .returned v ∧ r.2.1.length = objs.length ∧
      Step B w (MutB (argOb 0 objs) μ) (fun o => o < objs.length) (fun o => o < objs.length + r.2.2.length) w w' μ μ' (argOb 0 objs) (argOb 0 (r.2.1 ++ r.2.2)) ∧
      Val B (fun o => o < objs.length + r.2.2.length) w' μ' (argOb 0 (r.2.1 ++ r.2.2)) v r.1

mutual
theorem scalar_d {w w' : World} {I I' : Nat → Prop} : ∀ (d : D) (v : Value), scalarD d = true → RepD w I v d → RepD w' I' v d
  | .int k n, v, _, h => by cases h; exact .int k n
  | .bool b, v, _, h => by cases h; exact .bool b
  | .str s, v, _, h => by cases h; exact .str s
  | .flt k b, v, _, h => by cases h; exact .flt k b
  | .cpx k a b, v, _, h => by cases h; exact .cpx k a b
  | .agg ds, v, hs, h => by
    simp only [scalarD] at hs
    cases h with
    | agg cs ds hl h1 hh => exact .agg cs ds hl h1 (scalar_ds ds cs.toList hs (by simpa using hl) (fun i v d h2 h3 => hh i v d (by rw [← Array.getElem?_toList]; exact h2) h3) |> fun k i v d h2 h3 => k i v d (by rw [Array.getElem?_toList]; exact h2) h3)
  | .sl _, v, hs, h => by simp [scalarD] at hs
  | .ptr _ _, v, hs, h => by simp [scalarD] at hs
  | .fn _ _, v, hs, h => by simp [scalarD] at hs
  | .nilp, v, _, h => by cases h; exact .nilp
  | .nilf, v, _, h => by cases h; exact .nilf
  | .nilif, v, _, h => by cases h; exact .nilif
  | .iface t d, v, hs, h => by
    simp only [scalarD] at hs
    cases h with
    | iface t v d h => exact .iface t v d (scalar_d d v hs h)
theorem scalar_ds {w w' : World} {I I' : Nat → Prop} : ∀ (ds : List D) (cs : List Value), scalarDs ds = true → cs.length = ds.length →
    (∀ (i : Nat) v d, cs[i]? = some v → ds[i]? = some d → RepD w I v d) → ∀ (i : Nat) v d, cs[i]? = some v → ds[i]? = some d → RepD w' I' v d
  | [], cs, _, _, _, i, v, d, _, h => by simp at h
  | d :: ds, [], _, hl, _, i, v, e, h, _ => by simp at h
  | d :: ds, c :: cs, hs, hl, h, i, v, e, h1, h2 => by
    simp only [scalarDs, Bool.and_eq_true] at hs
    cases i with
    | zero =>
      simp at h1 h2
      subst h1
      subst h2
      exact scalar_d d c hs.1 (h 0 c d rfl rfl)
    | succ i => exact scalar_ds ds cs hs.2 (by simpa using hl) (fun i v d h3 h4 => h (i + 1) v d (by simpa using h3) (by simpa using h4)) i v e (by simpa using h1) (by simpa using h2)
end

mutual
theorem scalar_v {w w' : World} {I I' : Nat → Prop} {ob ob' : Heap} {μ μ' : Nat → Value} : ∀ (x : V) (v : Value), scalarV x = true → RepV w I ob μ v x → RepV w' I' ob' μ' v x ∧ refsV x = []
  | .d d, v, hs, h => by simp only [scalarV] at hs; simp only [RepV, refsV, and_true] at h ⊢; exact ⟨scalar_d d v hs h.1, h.2⟩
  | .nsl, v, _, h => by simp only [RepV, refsV, and_true] at h ⊢; exact h
  | .agg cs, v, hs, h => by
    simp only [scalarV] at hs
    simp only [RepV, refsV] at h ⊢
    obtain ⟨c, hv, hl⟩ := h
    have := scalar_l (w' := w') (I' := I') (ob' := ob') (μ' := μ') cs c.toList hs hl
    exact ⟨⟨c, hv, this.1⟩, this.2⟩
  | .ref _ _ _ _, v, hs, h => by simp [scalarV] at hs
  | .own _ _, v, hs, h => by simp [scalarV] at hs
  | .osl _ _ _ _, v, hs, h => by simp [scalarV] at hs
  | .fn _ _, v, hs, h => by simp [scalarV] at hs
  | .tup cs, v, hs, h => by
    simp only [scalarV] at hs
    simp only [RepV, refsV] at h ⊢
    obtain ⟨c, hv, hl⟩ := h
    have := scalar_t (w' := w') (I' := I') (ob' := ob') (μ' := μ') cs c.toList hs hl
    exact ⟨⟨c, hv, this.1⟩, this.2⟩
  | .undef, v, _, h => by simp only [RepV, refsV, and_true] at h ⊢; exact h
  | .dead, v, _, h => by simp only [RepV, refsV, and_true]
theorem scalar_l {w w' : World} {I I' : Nat → Prop} {ob ob' : Heap} {μ μ' : Nat → Value} : ∀ (xs : List V) (vs : List Value), scalarVs xs = true → RepL w I ob μ vs xs → RepL w' I' ob' μ' vs xs ∧ refsL xs = []
  | [], [], _, _ => by simp [RepL, refsL]
  | [], _ :: _, _, h => by simp [RepL] at h
  | _ :: _, [], _, h => by simp [RepL] at h
  | x :: xs, v :: vs, hs, h => by
    simp only [scalarVs, Bool.and_eq_true] at hs
    simp only [RepL, refsL] at h ⊢
    have h1 := scalar_v (w' := w') (I' := I') (ob' := ob') (μ' := μ') x v hs.1 h.1.1
    have h2 := scalar_l (w' := w') (I' := I') (ob' := ob') (μ' := μ') xs vs hs.2 h.2
    exact ⟨⟨⟨h1.1, h.1.2⟩, h2.1⟩, by simp [h1.2, h2.2]⟩
theorem scalar_t {w w' : World} {I I' : Nat → Prop} {ob ob' : Heap} {μ μ' : Nat → Value} : ∀ (xs : List V) (vs : List Value), scalarVs xs = true → RepT w I ob μ vs xs → RepT w' I' ob' μ' vs xs ∧ refsL xs = []
  | [], [], _, _ => by simp [RepT, refsL]
  | [], _ :: _, _, h => by simp [RepT] at h
  | _ :: _, [], _, h => by simp [RepT] at h
  | x :: xs, v :: vs, hs, h => by
    simp only [scalarVs, Bool.and_eq_true] at hs
    simp only [RepT, refsL] at h ⊢
    have h1 := scalar_v (w' := w') (I' := I') (ob' := ob') (μ' := μ') x v hs.1 h.1
    have h2 := scalar_t (w' := w') (I' := I') (ob' := ob') (μ' := μ') xs vs hs.2 h.2
    exact ⟨⟨h1.1, h2.1⟩, by simp [h1.2, h2.2]⟩
end

section
variable {P : Program} {B : Nat → Prop} {w0 : World} {M U : Nat → Prop} {w w' : World} {μ μ' : Nat → Value} {ob ob' : Heap}

/-- data as a value of a slot -/
theorem toV_rep {I : Nat → Prop} {d : D} {v : Value} (h : RepD w I v d) (h1 : (∀ cs, d ≠ .agg cs) → v.oneCell' = true) : RepV w I ob μ v (toV d) ∧ refsV (toV d) = [] := by
  cases d with
  | agg ds =>
    cases h with
    | agg cs ds hl hone hh =>
      simp only [toV, RepV, refsV, refsL_d, and_true]
      refine ⟨cs, rfl, RepL.mk (by simp [hl]) fun i u x h2 h3 => ?_⟩
      simp only [List.getElem?_map, Option.map_eq_some_iff] at h3
      obtain ⟨d, hd, rfl⟩ := h3
      have hu : cs[i]? = some u := by rw [← Array.getElem?_toList]; exact h2
      simp only [RepV]
      exact ⟨⟨hh i u d hu hd, hone i u hu⟩, hone i u hu⟩
  | _ => simp only [toV, RepV, refsV, and_true]; exact ⟨h, h1 (by simp)⟩

theorem view_one {I : Nat → Prop} {n : Nat} {x : V} {v : Value} {d : D} (h : view ob n x = some d) (hr : RepV w I ob μ v x) (hd : ∀ cs, d ≠ .agg cs) : v.oneCell' = true := by
  cases n with
  | zero => simp [view] at h
  | succ n =>
    cases x <;> simp only [view, reduceCtorEq] at h <;> simp only [RepV] at hr
    · exact hr.2
    · subst hr; rfl
    · obtain ⟨l, _, rfl⟩ := Option.map_eq_some_iff.1 h
      exact absurd rfl (hd l)
    · exact hr.1
    · exact hr.1
    · exact hr.1
    · obtain ⟨cs, rfl, _⟩ := hr; rfl

/-- An argument that is handed over as data. -/
theorem pureV_rep (R : Rel B w0 M U w μ ob) {I' : Nat → Prop} {Vis : Nat → Prop} (hI : ∀ b, Imm B w ob μ b → I' b)
    (hV : ∀ o x b, Vis o → ob o = some x → blockOf (μ o) = some b → I' b) (hC : ∀ o cells, Vis o → ob o = some (.box cells) → ∀ o' ∈ refsL cells, Vis o')
    {x y : V} {v : Value} (h : pureV ob x = some y) (hr : RepV w (Imm B w ob μ) ob μ v x) (hvis : ∀ o ∈ refsV x, Vis o) (ob' : Heap) (μ' : Nat → Value) : RepV w I' ob' μ' v y ∧ refsV y = [] := by
  have one : ∀ (x : V) (v : Value) (y : V), (view ob deep x).map toV = some y → RepV w (Imm B w ob μ) ob μ v x → (∀ o ∈ refsV x, Vis o) → RepV w I' ob' μ' v y ∧ refsV y = [] := by
    intro x v y h hr hvis
    obtain ⟨d, hd, rfl⟩ := Option.map_eq_some_iff.1 h
    exact toV_rep (view_rep R hI hV hC deep x v d hd hr hvis) fun hda => view_one hd hr hda
  cases x with
  | tup vs =>
    simp only [pureV] at h
    obtain ⟨l, hl, rfl⟩ := Option.map_eq_some_iff.1 h
    simp only [RepV] at hr
    obtain ⟨cs, hv, ht⟩ := hr
    have : RepT w I' ob' μ' cs.toList l ∧ refsL l = [] := by
      have hvis' : ∀ o ∈ refsL vs, Vis o := by simpa [refsV] using hvis
      clear hvis hv h
      generalize cs.toList = us at ht
      induction vs generalizing l us with
      | nil =>
        simp [mapO] at hl
        subst hl
        cases us with
        | nil => simp [RepT, refsL]
        | cons _ _ => simp [RepT] at ht
      | cons x vs ih =>
        cases us with
        | nil => simp [RepT] at ht
        | cons u us =>
          simp only [mapO, Option.bind_eq_some_iff] at hl
          obtain ⟨y, hy, l', hl', h⟩ := hl
          cases h
          simp only [RepT, refsL] at ht ⊢
          have h1 := one x u y hy ht.1 fun o ho => hvis' o (by simp only [refsL, List.mem_append]; exact .inl ho)
          have h2 := ih l' hl' (fun o ho => hvis' o (by simp only [refsL, List.mem_append]; exact .inr ho)) us ht.2
          exact ⟨⟨h1.1, h2.1⟩, by simp [h1.2, h2.2]⟩
    simp only [RepV, refsV]
    exact ⟨⟨cs, hv, this.1⟩, this.2⟩
  | _ => exact one _ v y (by simpa only [pureV] using h) hr hvis

theorem empty_rel (hB : ∀ b, w.heap.size ≤ b → B b) : Rel B w (MutB (argOb 0 []) μ) (fun o => o < ([] : List Obj).length) w μ (argOb 0 []) where
  fr := Fr.refl _ _
  used := fun o x h => by simp [argOb] at h
  ok := fun o x h => by simp [argOb] at h
  own := fun o x b h => by simp [argOb] at h
  new := hB
  inB := fun o x b h => by simp [argOb] at h
  inj := fun o o' x x' b h => by simp [argOb] at h

/-- The world has grown; all that was there is as it was. -/
theorem Rel.grown (R : Rel B w0 M U w μ ob) (hos : w'.os = w.os) (htape : w'.tape = w.tape) (hout : w'.output = w.output) (hsize : w.heap.size ≤ w'.heap.size) (hw' : ∀ k, k < w.heap.size → w'.heap[k]? = w.heap[k]?) :
    Step B w0 M U U w w' μ μ ob ob := by
  have hI : ∀ b, Imm B w ob μ b → Imm B w' ob μ b := fun b hb => ⟨Nat.lt_of_lt_of_le hb.1 hsize, hb.2⟩
  exact ⟨R.change ⟨hos.trans R.fr.os, htape.trans R.fr.tape, hout.trans R.fr.output, Nat.le_trans R.fr.size hsize, fun b hb hM => (hw' b (Nat.lt_of_lt_of_le hb R.fr.size)).trans (R.fr.block b hb hM)⟩ (fun _ h => h) hI (fun b hb => hw' b hb.1) (fun o _ => Keep.refl ob μ o) (fun o x hx => .inl ⟨hx, rfl, fun b hb => hw' b (R.lt hx hb)⟩) R.inj, fun _ h => h, hI, fun b hb => hw' b hb.1, fun o _ => Keep.refl ob μ o, fun _ _ h => h⟩

/-- A call that hands data over, and gets data. -/
theorem pure_call {call : CallT} (hok : CallOK P call) (R : Rel B w0 M U w μ ob) {f : Nat} {args : List V} {vals : Array Value} {id : Nat} {v : V} {ups : List (Nat × Obj)} (hsz : vals.size = args.length)
    (hv : ∀ (i : Nat) u x, vals[i]? = some u → args[i]? = some x → Val B U w μ ob u x) (h : doCall call ob id .pure f args = some (v, ups)) :
    (∀ vals w, (callFunc f vals).run P w = .ok (.enter f vals) w) ∧ Calls P f vals w fun e w' => ∃ val μ', e = .returned val ∧ Step B w0 M U (NewU U id) w w' μ μ' ob (updAll ob ups) ∧ Val B (NewU U id) w' μ' (updAll ob ups) val v := by
  simp only [doCall, Option.bind_eq_some_iff] at h
  obtain ⟨as, has, r, hr, h⟩ := h
  obtain ⟨hcall, hok⟩ := hok f as [] r hr
  refine ⟨hcall, ?_⟩
  split at h
  · cases h
  rename_i hnil
  have hnil : r.2.2 = [] := by simpa using hnil
  -- the call, whichever blocks are looked at
  have go : ∀ (B' : Nat → Prop), (∀ b, w.heap.size ≤ b → B' b) → (∀ (i : Nat) u y, vals[i]? = some u → as[i]? = some y → RepV w (Imm B' w (argOb 0 []) μ) (argOb 0 []) μ u y ∧ refsV y = []) →
      Calls P f vals w fun e w' => ∃ val, e = .returned val ∧ (w'.os = w.os ∧ w'.tape = w.tape ∧ w'.output = w.output ∧ w.heap.size ≤ w'.heap.size ∧ ∀ k, k < w.heap.size → w'.heap[k]? = w.heap[k]?) ∧
        refsV r.1 = [] ∧ ∀ (I' : Nat → Prop) ob2 μ2, (∀ b, b < w'.heap.size → B' b → I' b) → RepV w' I' ob2 μ2 val r.1 := by
    intro B' hB hargs
    refine (hok B' w μ vals (empty_rel hB) (by rw [hsz, mapO_length has]) fun i u y h1 h2 => ⟨(hargs i u y h1 h2).1, by simp [(hargs i u y h1 h2).2]⟩).mono ?_
    rintro e w' ⟨val, μ', rfl, hlen, S, hval⟩
    have hrefs : refsV r.1 = [] := by
      refine List.eq_nil_iff_forall_not_mem.2 fun o ho => ?_
      have := hval.2 o ho
      simp [hnil] at this
    refine ⟨val, rfl, ⟨S.rel.fr.os, S.rel.fr.tape, S.rel.fr.output, S.rel.fr.size, fun k hk => S.rel.fr.block k hk ?_⟩, hrefs, fun I' ob2 μ2 hI => ?_⟩
    · rintro ⟨o, x, hx, _⟩
      simp [argOb] at hx
    · exact RepV.mono (fun b hb => hI b hb.1 hb.2.2) (fun _ _ => rfl) r.1 val (by simp [hrefs]) hval.1
  -- arguments
  have arg : ∀ (I' Vis : Nat → Prop) ob2, (∀ b, Imm B w ob μ b → I' b) → (∀ o x b, Vis o → ob o = some x → blockOf (μ o) = some b → I' b) → (∀ o cells, Vis o → ob o = some (.box cells) → ∀ o' ∈ refsL cells, Vis o') → (∀ o ∈ refsL args, Vis o) →
      ∀ (i : Nat) u y, vals[i]? = some u → as[i]? = some y → RepV w I' ob2 μ u y ∧ refsV y = [] := by
    intro I' Vis ob2 hI hV hC hvis i u y h1 h2
    obtain ⟨x, hx, hy⟩ := mapO_at' has h2
    exact pureV_rep R hI hV hC hy (hv i u x h1 hx).1 (fun o ho => hvis o (refsL_mem (List.mem_of_getElem? hx) o ho)) _ _
  have grow : ∀ {ob1 : Heap} {w' : World}, Rel B w0 M U w μ ob1 → (w'.os = w.os ∧ w'.tape = w.tape ∧ w'.output = w.output ∧ w.heap.size ≤ w'.heap.size ∧ ∀ k, k < w.heap.size → w'.heap[k]? = w.heap[k]?) → Step B w0 M U (NewU U id) w w' μ μ ob1 ob1 :=
    fun R1 hh => (R1.grown hh.1 hh.2.1 hh.2.2.1 hh.2.2.2.1 hh.2.2.2.2).newU fun _ h => .inl h
  have imm : ∀ {ob1 : Heap} {w' : World}, Rel B w0 M U w μ ob1 → w.heap.size ≤ w'.heap.size → ∀ b, b < w'.heap.size → (b < w.heap.size → Imm B w ob1 μ b) → Imm B w' ob1 μ b := by
    intro ob1 w' R1 hsize b hb hh
    by_cases hlt : b < w.heap.size
    · exact ⟨hb, (hh hlt).2⟩
    · exact ⟨hb, fun o x hx _ e => hlt (R1.lt hx e), R1.new b (by have := R1.fr.size; omega)⟩
  split at h
  · rename_i hcond
    cases h
    simp only [updAll]
    rcases Bool.or_eq_true _ _ ▸ hcond with hsc | hno
    · refine (go (fun _ => True) (fun _ _ => trivial) (arg _ (fun _ => True) _ (fun b hb => ⟨hb.1, by simp [argOb], trivial⟩) (fun o x b _ hx hb => ⟨R.lt hx hb, by simp [argOb], trivial⟩) (fun _ _ _ _ _ _ => trivial) (fun _ _ => trivial))).mono ?_
      rintro e w' ⟨val, rfl, hh, hrefs, hval⟩
      refine ⟨val, μ, rfl, grow R hh, (scalar_v r.1 val hsc (hval (fun _ => True) ob μ fun _ _ _ => trivial)).1, by simp [hrefs]⟩
    · have hno : refsL args = [] := by simpa using hno
      refine (go (fun b => b < w.heap.size → Imm B w ob μ b) (fun b hb hlt => by omega) (arg _ (fun _ => False) _ (fun b hb => ⟨hb.1, by simp [argOb], fun _ => hb⟩) (fun _ _ _ hF => hF.elim) (fun _ _ hF => hF.elim) (by simp [hno]))).mono ?_
      rintro e w' ⟨val, rfl, hh, hrefs, hval⟩
      exact ⟨val, μ, rfl, grow R hh, hval _ _ _ fun b hb hB => imm R hh.2.2.2.1 b hb hB, by simp [hrefs]⟩
  · split at h
    · rename_i hall
      obtain ⟨fs, hfs, h⟩ := Option.map_eq_some_iff.1 h
      cases h
      obtain ⟨S, h3, h4⟩ := R.freezes hfs
      refine (go (fun b => b < w.heap.size → Imm B w (updAll ob ups) μ b) (fun b hb hlt => by omega) (arg _ (fun o => o ∈ reach ob 100 [] (refsL args)) _ (fun b hb => ⟨hb.1, by simp [argOb], fun _ => S.hI b hb⟩) ?_ ?_ ?_)).mono ?_
      · intro o y b ho hy hb
        obtain ⟨v, s, e, h5⟩ := h4 o ho
        refine ⟨R.lt hy hb, by simp [argOb], fun _ => ⟨R.lt hy hb, fun o' y' hy' hm' hb' => ?_, R.inB _ _ _ hy hb⟩⟩
        have := S.rel.inj o o' _ y' b h5 hy' hb hb'
        subst this
        rw [h5] at hy'
        cases hy'
        simp [muta] at hm'
      · intro o cells ho hy
        obtain ⟨v, f, s, e, h5⟩ := freezes_mem hfs o ho
        rw [h5] at hy
        cases hy
      · intro o ho
        have := List.all_eq_true.1 hall o ho
        simpa using this
      · rintro e w' ⟨val, rfl, hh, hrefs, hval⟩
        refine ⟨val, μ, rfl, S.trans (grow S.rel hh), hval _ _ _ fun b hb hB => imm S.rel hh.2.2.2.1 b hb hB, by simp [hrefs]⟩
    · cases h
end
end Go.Proofs.Am
set_option linter.unusedVariables false
set_option linter.unusedSimpArgs false
namespace Go.Proofs.Am
open Go

mutual
theorem refs_ren (f : Nat → Nat) : ∀ x : V, refsV (renV f x) = (refsV x).map f
  | .ref o v i j => by simp [renV, refsV]
  | .own o v => by simp [renV, refsV]
  | .osl o v a b => by simp [renV, refsV]
  | .agg cs => by simp only [renV, refsV]; exact refs_renL f cs
  | .fn g cs => by simp only [renV, refsV]; exact refs_renL f cs
  | .tup cs => by simp only [renV, refsV]; exact refs_renL f cs
  | .d x => by simp [renV, refsV]
  | .nsl => by simp [renV, refsV]
  | .undef => by simp [renV, refsV]
  | .dead => by simp [renV, refsV]
theorem refs_renL (f : Nat → Nat) : ∀ xs : List V, refsL (renL f xs) = (refsL xs).map f
  | [] => by simp [renL, refsL]
  | x :: xs => by simp [renL, refsL, refs_ren f x, refs_renL f xs]
end

theorem refs_renO (f : Nat → Nat) (x : Obj) : refsO (some (renO f x)) = (refsO (some x)).map f := by
  cases x <;> simp [renO, refsO, refs_renL]

theorem renL_length (f : Nat → Nat) : ∀ xs : List V, (renL f xs).length = xs.length
  | [] => rfl
  | x :: xs => by simp [renL, renL_length f xs]
theorem renL_at (f : Nat → Nat) : ∀ (xs : List V) (i : Nat), (renL f xs)[i]? = (xs[i]?).map (renV f)
  | [], i => by simp [renL]
  | x :: xs, 0 => by simp [renL]
  | x :: xs, i + 1 => by simp [renL, renL_at f xs i]
theorem muta_ren (f : Nat → Nat) (x : Obj) : muta (renO f x) = muta x := by cases x <;> rfl

section
variable {w : World} {I I' : Nat → Prop} {ob ob' : Heap} {μ μ' : Nat → Value} {f : Nat → Nat}

/-- a reference leads to the same thing under its new number -/
def Same (f : Nat → Nat) (ob : Heap) (μ : Nat → Value) (ob' : Heap) (μ' : Nat → Value) (o : Nat) : Prop := ob' (f o) = (ob o).map (renO f) ∧ μ' (f o) = μ o

mutual
theorem ren_v (hI : ∀ b, I b → I' b) : ∀ (x : V) (v : Value), (∀ o ∈ refsV x, Same f ob μ ob' μ' o) → RepV w I ob μ v x → RepV w I' ob' μ' v (renV f x)
  | .d x, v, hk, h => by
    simp only [RepV, renV] at h ⊢
    exact ⟨h.1.mono hI fun _ _ => rfl, h.2⟩
  | .nsl, v, hk, h => by simp only [RepV, renV] at h ⊢; exact h
  | .agg cells, v, hk, h => by
    simp only [RepV, renV] at h ⊢
    obtain ⟨cs, hv, hl⟩ := h
    exact ⟨cs, hv, ren_l hI cells cs.toList (by simpa only [refsV] using hk) hl⟩
  | .ref o ver i j, v, hk, h => by
    obtain ⟨h1, h2⟩ := hk o (by simp [refsV])
    simp only [RepV, renV] at h ⊢
    rw [h1, h2]
    refine ⟨h.1, ?_⟩
    replace h := h.2
    cases hx : ob o with
    | none => trivial
    | some x => rw [hx] at h; cases x <;> exact h
  | .own o ver, v, hk, h => by
    obtain ⟨h1, h2⟩ := hk o (by simp [refsV])
    simp only [RepV, renV] at h ⊢
    rw [h1, h2]
    refine ⟨h.1, ?_⟩
    replace h := h.2
    cases hx : ob o with
    | none => trivial
    | some x => rw [hx] at h; cases x <;> exact h
  | .osl o ver off len, v, hk, h => by
    obtain ⟨h1, h2⟩ := hk o (by simp [refsV])
    simp only [RepV, renV] at h ⊢
    rw [h1, h2]
    refine ⟨h.1, ?_⟩
    replace h := h.2
    cases hx : ob o with
    | none => trivial
    | some x => rw [hx] at h; cases x <;> exact h
  | .fn g caps, v, hk, h => by
    simp only [RepV, renV] at h ⊢
    obtain ⟨cs, hv, hl⟩ := h
    exact ⟨cs, hv, ren_l hI caps cs.toList (by simpa only [refsV] using hk) hl⟩
  | .tup vs, v, hk, h => by
    simp only [RepV, renV] at h ⊢
    obtain ⟨cs, hv, hl⟩ := h
    exact ⟨cs, hv, ren_t hI vs cs.toList (by simpa only [refsV] using hk) hl⟩
  | .undef, v, hk, h => by simp only [RepV, renV] at h ⊢; exact h
  | .dead, v, hk, h => by simp only [RepV, renV]
theorem ren_l (hI : ∀ b, I b → I' b) : ∀ (xs : List V) (vs : List Value), (∀ o ∈ refsL xs, Same f ob μ ob' μ' o) → RepL w I ob μ vs xs → RepL w I' ob' μ' vs (renL f xs)
  | [], [], hk, h => by simp only [RepL, renL]
  | [], v :: vs, hk, h => by simp [RepL] at h
  | x :: xs, [], hk, h => by simp [RepL] at h
  | x :: xs, v :: vs, hk, h => by
    simp only [RepL, renL] at h ⊢
    simp only [refsL, List.mem_append] at hk
    exact ⟨⟨ren_v hI x v (fun o ho => hk o (.inl ho)) h.1.1, h.1.2⟩, ren_l hI xs vs (fun o ho => hk o (.inr ho)) h.2⟩
theorem ren_t (hI : ∀ b, I b → I' b) : ∀ (xs : List V) (vs : List Value), (∀ o ∈ refsL xs, Same f ob μ ob' μ' o) → RepT w I ob μ vs xs → RepT w I' ob' μ' vs (renL f xs)
  | [], [], hk, h => by simp only [RepT, renL]
  | [], v :: vs, hk, h => by simp [RepT] at h
  | x :: xs, [], hk, h => by simp [RepT] at h
  | x :: xs, v :: vs, hk, h => by
    simp only [RepT, renL] at h ⊢
    simp only [refsL, List.mem_append] at hk
    exact ⟨ren_v hI x v (fun o ho => hk o (.inl ho)) h.1, ren_t hI xs vs (fun o ho => hk o (.inr ho)) h.2⟩
end

theorem ren_o (hI : ∀ b, I b → I' b) {o : Nat} {x : Obj} (hm : μ' (f o) = μ o) (hk : ∀ o ∈ refsO (some x), Same f ob μ ob' μ' o) (h : ObjOK w I ob μ o x) : ObjOK w I' ob' μ' (f o) (renO f x) := by
  cases x with
  | box cells =>
    obtain ⟨b, c, e, h1, h2, h3⟩ := h
    exact ⟨b, c, e, hm.trans h1, h2, ren_l hI cells _ hk h3⟩
  | row v fr s elems =>
    obtain ⟨h1, h2, xs, h3, h5⟩ := h
    exact ⟨h1, h2, xs, hm ▸ h3, h5.mono hI fun _ _ => rfl⟩
end

/-! ### Lists of numbers -/
theorem idxOf_lt {ids : List Nat} {o : Nat} (h : o ∈ ids) : idxOf ids o < ids.length := by
  induction ids with
  | nil => cases h
  | cons a r ih =>
    simp only [idxOf]
    split
    · simp
    · rename_i hne
      have := ih ((List.mem_cons.1 h).resolve_left fun e => hne e.symm)
      simp; omega
theorem idxOf_get {ids : List Nat} {o : Nat} (h : o ∈ ids) : ids[idxOf ids o]? = some o := by
  induction ids with
  | nil => cases h
  | cons a r ih =>
    simp only [idxOf]
    split
    · rename_i e; simp [e]
    · rename_i hne
      have := ih ((List.mem_cons.1 h).resolve_left fun e => hne e.symm)
      simpa using this
theorem idxOf_at {ids : List Nat} (hn : ids.Nodup) {i o : Nat} (h : ids[i]? = some o) : idxOf ids o = i := by
  have h1 := idxOf_get (List.mem_of_getElem? h)
  have hi := (List.getElem?_eq_some_iff.1 h).1
  have hj := idxOf_lt (List.mem_of_getElem? h)
  exact (List.getElem?_inj hj hn).1 (h1.trans h.symm)

theorem reach_spec (ob : Heap) : ∀ (n : Nat) (seen todo : List Nat), seen.Nodup → (reach ob n seen todo).Nodup ∧ ∃ l, reach ob n seen todo = seen ++ l
  | 0, seen, todo, h => ⟨by simpa [reach] using h, [], by simp [reach]⟩
  | n + 1, seen, [], h => ⟨by simpa [reach] using h, [], by simp [reach]⟩
  | n + 1, seen, o :: todo, h => by
    simp only [reach]
    split
    · exact reach_spec ob n seen todo h
    · rename_i hc
      have h2 : (seen ++ [o]).Nodup := by
        rw [List.nodup_append]
        refine ⟨h, by simp, fun a ha b hb => ?_⟩
        simp at hb
        subst hb
        intro e
        subst e
        exact hc (by simpa using ha)
      obtain ⟨h3, l, h4⟩ := reach_spec ob n (seen ++ [o]) (refsO (ob o) ++ todo) h2
      exact ⟨h3, o :: l, by rw [h4]; simp⟩

theorem argOb_at : ∀ (objs : List Obj) (k o : Nat), argOb k objs o = if k ≤ o then objs[o - k]? else none
  | [], k, o => by simp [argOb]
  | x :: r, k, o => by
    simp only [argOb, upd]
    split
    · rename_i e; subst e; simp
    · rename_i hne
      rw [argOb_at r (k + 1) o]
      by_cases hk : k ≤ o
      · rw [if_pos (by omega), if_pos hk]
        obtain ⟨d, hd⟩ : ∃ d, o - k = d + 1 := ⟨o - k - 1, by omega⟩
        rw [hd]
        have : o - (k + 1) = d := by omega
        simp [this]
      · rw [if_neg (by omega), if_neg hk]
theorem argOb_0 (objs : List Obj) (o : Nat) : argOb 0 objs o = objs[o]? := by simp [argOb_at]

theorem closed_objs {ob : Heap} {ids roots : List Nat} (h : closed ob ids roots = true) : (∀ o ∈ ids, ∀ o' ∈ refsO (ob o), o' ∈ ids) ∧ ∀ o ∈ roots, o ∈ ids := by
  simp only [closed, Bool.and_eq_true, List.all_eq_true] at h
  exact ⟨fun o ho o' ho' => by simpa using h.1 o ho o' ho', fun o ho => by simpa using h.2 o ho⟩

section
variable {B : Nat → Prop} {w0 : World} {M U : Nat → Prop} {w w' : World} {μ μ' : Nat → Value} {ob : Heap}

/-- THE PART of the objects that are numbered anew from 0 on. -/
structure Part (ob : Heap) (μ : Nat → Value) (ids : List Nat) (ob2 : Heap) (μ2 : Nat → Value) : Prop where
  nodup : ids.Nodup
  some' : ∀ o ∈ ids, ∃ x, ob o = some x ∧ ob2 (idxOf ids o) = some (renO (idxOf ids) x) ∧ μ2 (idxOf ids o) = μ o ∧ ∀ o' ∈ refsO (some x), o' ∈ ids
  only : ∀ i y, ob2 i = some y → ∃ o ∈ ids, idxOf ids o = i

def muPart (μ : Nat → Value) (ids : List Nat) (i : Nat) : Value := μ (ids.getD i 0)

theorem Part.mk' {ids : List Nat} (hn : ids.Nodup) {roots : List Nat} (hc : closed ob ids roots = true) {objs : List Obj} (ho : mapO ob ids = some objs) : Part ob μ ids (argOb 0 (objs.map (renO (idxOf ids)))) (muPart μ ids) where
  nodup := hn
  some' := fun o h => by
    have hi := idxOf_get h
    obtain ⟨x, hx, hob⟩ := mapO_at ho hi
    refine ⟨x, hob, ?_, ?_, fun o' ho' => (closed_objs hc).1 o h o' (by rw [hob]; exact ho')⟩
    · rw [argOb_0, List.getElem?_map, hx]; rfl
    · simp [muPart, List.getD_eq_getElem?_getD, hi]
  only := fun i y h => by
    rw [argOb_0, List.getElem?_map] at h
    obtain ⟨x, hx, _⟩ := Option.map_eq_some_iff.1 h
    obtain ⟨o, h1, h2⟩ := mapO_at' ho hx
    exact ⟨o, List.mem_of_getElem? h1, idxOf_at hn h1⟩

theorem Part.same {ids : List Nat} {ob2 : Heap} {μ2 : Nat → Value} (H : Part ob μ ids ob2 μ2) {o : Nat} (h : o ∈ ids) : Same (idxOf ids) ob μ ob2 μ2 o := by
  obtain ⟨x, h1, h2, h3, _⟩ := H.some' o h
  exact ⟨by rw [h1, h2]; rfl, h3⟩

theorem Part.back {ids : List Nat} {ob2 : Heap} {μ2 : Nat → Value} (H : Part ob μ ids ob2 μ2) {i : Nat} {y : Obj} (h : ob2 i = some y) : ∃ o ∈ ids, ∃ x, idxOf ids o = i ∧ ob o = some x ∧ y = renO (idxOf ids) x ∧ μ2 i = μ o ∧ ∀ o' ∈ refsO (some x), o' ∈ ids := by
  obtain ⟨o, ho, rfl⟩ := H.only i y h
  obtain ⟨x, h1, h2, h3, h4⟩ := H.some' o ho
  rw [h2] at h
  cases h
  exact ⟨o, ho, x, rfl, h1, rfl, h3, h4⟩

theorem Part.imm {ids : List Nat} {ob2 : Heap} {μ2 : Nat → Value} (H : Part ob μ ids ob2 μ2) {B2 : Nat → Prop} {b : Nat} (h : Imm B w ob μ b) (hB : B2 b) : Imm B2 w ob2 μ2 b :=
  ⟨h.1, fun i y hy hm he => by
    obtain ⟨o, ho, x, _, h1, rfl, h3, _⟩ := H.back hy
    rw [muta_ren] at hm
    exact h.2.1 o x h1 hm (h3 ▸ he), hB⟩

theorem Part.val {ids : List Nat} {ob2 : Heap} {μ2 : Nat → Value} (H : Part ob μ ids ob2 μ2) {I' : Nat → Prop} (hI : ∀ b, Imm B w ob μ b → I' b) {v : Value} {x : V} (h : RepV w (Imm B w ob μ) ob μ v x) (hx : ∀ o ∈ refsV x, o ∈ ids) :
    RepV w I' ob2 μ2 v (renV (idxOf ids) x) ∧ ∀ o ∈ refsV (renV (idxOf ids) x), o < ids.length :=
  ⟨ren_v hI x v (fun o ho => H.same (hx o ho)) h, fun o ho => by
    rw [refs_ren] at ho
    obtain ⟨o', ho', rfl⟩ := List.mem_map.1 ho
    exact idxOf_lt (hx o' ho')⟩

/-- The part is an abstract store of its own. -/
theorem Part.rel {ids : List Nat} {ob2 : Heap} {μ2 : Nat → Value} (H : Part ob μ ids ob2 μ2) (R : Rel B w0 M U w μ ob) {B2 : Nat → Prop} {w1 : World} {M2 : Nat → Prop} (hfr : Fr w1 w M2)
    (hB : ∀ b, Imm B w ob μ b → B2 b) (hown : ∀ o ∈ ids, ∀ b, blockOf (μ o) = some b → (M2 b ∨ w1.heap.size ≤ b) ∧ B2 b) (hnew : ∀ b, w1.heap.size ≤ b → B2 b) :
    Rel B2 w1 M2 (fun o => o < ids.length) w μ2 ob2 where
  fr := hfr
  used := fun i y hy => by
    obtain ⟨o, ho, x, rfl, h1, rfl, h3, h4⟩ := H.back hy
    refine ⟨idxOf_lt ho, fun o' ho' => ?_⟩
    rw [refs_renO] at ho'
    obtain ⟨o2, h5, rfl⟩ := List.mem_map.1 ho'
    exact idxOf_lt (h4 o2 h5)
  ok := fun i y hy => by
    obtain ⟨o, ho, x, rfl, h1, rfl, h3, h4⟩ := H.back hy
    exact ren_o (fun b hb => H.imm hb (hB b hb)) h3 (fun o' ho' => H.same (h4 o' ho')) (R.ok o x h1)
  own := fun i y b hy hb => by
    obtain ⟨o, ho, x, rfl, h1, rfl, h3, h4⟩ := H.back hy
    exact (hown o ho b (h3 ▸ hb)).1
  new := hnew
  inB := fun i y b hy hb => by
    obtain ⟨o, ho, x, rfl, h1, rfl, h3, h4⟩ := H.back hy
    exact (hown o ho b (h3 ▸ hb)).2
  inj := fun i i' y y' b hy hy' hb hb' => by
    obtain ⟨o, ho, x, rfl, h1, rfl, h3, h4⟩ := H.back hy
    obtain ⟨o', ho', x', rfl, h1', rfl, h3', h4'⟩ := H.back hy'
    rw [R.inj o o' x x' b h1 h1' (h3 ▸ hb) (h3' ▸ hb')]
end
end Go.Proofs.Am
set_option linter.unusedVariables false
set_option linter.unusedSimpArgs false
namespace Go.Proofs.Am
open Go

theorem updAll_new : ∀ (l : List Obj) (ob : Heap) (id o : Nat), updAll ob (newUpd id l) o = if id ≤ o ∧ o < id + l.length then l[o - id]? else ob o
  | [], ob, id, o => by simp only [newUpd, updAll, List.length_nil]; rw [if_neg (by omega)]
  | x :: r, ob, id, o => by
    simp only [newUpd, updAll, List.length_cons]
    rw [updAll_new r _ (id + 1) o]
    by_cases h : o = id
    · subst h
      rw [if_neg (by omega), upd_eq, if_pos (by omega)]
      simp
    · rw [upd_ne _ _ h]
      by_cases h2 : id ≤ o ∧ o < id + (r.length + 1)
      · rw [if_pos (by omega), if_pos h2]
        obtain ⟨d, hd⟩ : ∃ d, o - id = d + 1 := ⟨o - id - 1, by omega⟩
        have : o - (id + 1) = d := by omega
        simp [this, hd]
      · rw [if_neg (by omega), if_neg h2]

theorem updAll_zip : ∀ (ids : List Nat) (l : List Obj) (ob : Heap) (o : Nat), ids.Nodup → l.length = ids.length → updAll ob (ids.zip l) o = if o ∈ ids then l[idxOf ids o]? else ob o
  | [], l, ob, o, _, _ => by simp [updAll]
  | a :: r, [], ob, o, _, h => by simp at h
  | a :: r, x :: l, ob, o, hn, h => by
    simp only [List.zip_cons_cons, updAll]
    rw [updAll_zip r l _ o (List.nodup_cons.1 hn).2 (by simpa using h)]
    simp only [idxOf, List.mem_cons]
    by_cases e : o = a
    · subst e
      rw [if_neg (List.nodup_cons.1 hn).1, upd_eq]
      simp
    · have e' : ¬ a = o := fun h => e h.symm
      rw [upd_ne _ _ e]
      by_cases h2 : o ∈ r
      · simp [h2, e']
      · simp [h2, e]

section
variable {P : Program} {B : Nat → Prop} {w0 : World} {M U : Nat → Prop} {w w' : World} {μ μ' : Nat → Value} {ob ob' : Heap}

theorem keep_ren {f g : Nat → Nat} {ob1 ob2 ob3 ob4 : Heap} {μ1 μ2 μ3 μ4 : Nat → Value} {a b c d : Nat}
    (h1 : ob2 b = (ob1 a).map (renO f)) (m1 : μ2 b = μ1 a) (h2 : ob4 d = (ob3 c).map (renO g)) (m2 : μ4 d = μ3 c) (hk : Keep ob1 μ1 ob3 μ3 a → True) (k : match ob2 b, ob3 c with
      | _, none => True
      | some (.box _), some (.box _) => μ3 c = μ2 b
      | some (.row v _ s _), some (.row v' _ s' _) => v ≤ v' ∧ (v' = v → s' = s ∧ μ3 c = μ2 b)
      | _, _ => False) : match ob1 a, ob4 d with
      | _, none => True
      | some (.box _), some (.box _) => μ4 d = μ1 a
      | some (.row v _ s _), some (.row v' _ s' _) => v ≤ v' ∧ (v' = v → s' = s ∧ μ4 d = μ1 a)
      | _, _ => False := by
  rw [h1] at k
  rw [h2, m2]
  rw [m1] at k
  cases h : ob3 c with
  | none => cases ob1 a <;> trivial
  | some y =>
    rw [h] at k
    cases h' : ob1 a with
    | none => simp [h'] at k
    | some x =>
      rw [h'] at k
      cases x <;> cases y <;> first | exact k | simp [renO] at k

/-- A call that hands objects over. -/
theorem byref_call {call : CallT} (hok : CallOK P call) (R : Rel B w0 M U w μ ob) {f : Nat} {args : List V} {vals : Array Value} {id : Nat} {v : V} {ups : List (Nat × Obj)} (hsz : vals.size = args.length)
    (hid : ∀ j, j < bound → ¬ U (id + j))
    (hv : ∀ (i : Nat) u x, vals[i]? = some u → args[i]? = some x → Val B U w μ ob u x) (h : doCall call ob id .byref f args = some (v, ups)) :
    (∀ vals w, (callFunc f vals).run P w = .ok (.enter f vals) w) ∧ Calls P f vals w fun e w' => ∃ val μ', e = .returned val ∧ Step B w0 M U (NewU U id) w w' μ μ' ob (updAll ob ups) ∧ Val B (NewU U id) w' μ' (updAll ob ups) val v := by
  simp only [doCall] at h
  generalize hids : reach ob 100 [] (refsL args) = ids at h
  have hn : ids.Nodup := hids ▸ (reach_spec ob 100 [] _ List.nodup_nil).1
  split at h
  · cases h
  rename_i hc
  have hc : closed ob ids (refsL args) = true := by simpa using hc
  simp only [Option.bind_eq_some_iff] at h
  obtain ⟨objs, hobjs, r, hr, h⟩ := h
  split at h
  · rename_i hlens
    obtain ⟨hlen, hbound⟩ := hlens
    simp only [Option.some.injEq, Prod.mk.injEq] at h
    obtain ⟨hvv, hups⟩ := h
    obtain ⟨hcall, hok⟩ := hok _ _ _ r hr
    refine ⟨hcall, ?_⟩
    have H := Part.mk' (μ := μ) hn hc hobjs
    have hol : (objs.map (renO (idxOf ids))).length = ids.length := by simp [mapO_length hobjs]
    generalize objs.map (renO (idxOf ids)) = objs' at H hol hok hr
    let Bc : Nat → Prop := fun b => b < w.heap.size → Imm B w ob μ b ∨ ∃ o ∈ ids, blockOf (μ o) = some b
    let μc := muPart μ ids
    have hUids : ∀ o ∈ ids, U o := fun o ho => by
      obtain ⟨x, hx, _⟩ := H.some' o ho
      exact (R.used o x hx).1
    have R2 : Rel Bc w (MutB (argOb 0 objs') μc) (fun o => o < objs'.length) w μc (argOb 0 objs') := by
      rw [hol]
      refine H.rel R (Fr.refl _ _) (fun b hb _ => .inl hb) (fun o ho b hb => ?_) fun b hb hlt => by omega
      obtain ⟨x, hx, h2, h3, _⟩ := H.some' o ho
      exact ⟨.inl ⟨_, _, h2, (congrArg blockOf h3).trans hb⟩, fun _ => .inr ⟨o, ho, hb⟩⟩
    refine (hok Bc w μc vals R2 (by rw [hsz, renL_length]) fun i u y h1 h2 => ?_).mono ?_
    · rw [renL_at] at h2
      obtain ⟨x, hx, rfl⟩ := Option.map_eq_some_iff.1 h2
      have hval := hv i u x h1 hx
      have := H.val (I' := Imm Bc w (argOb 0 objs') μc) (fun b hb => H.imm hb fun _ => .inl hb) hval.1 fun o ho => (closed_objs hc).2 o (refsL_mem (List.mem_of_getElem? hx) o ho)
      exact ⟨this.1, fun o ho => hol ▸ this.2 o ho⟩
    rintro e w' ⟨val, μ', rfl, hl2, S, hval⟩
    let n := ids.length
    let news := r.2.2.length
    let back := backId ids id
    let obc' := argOb 0 (r.2.1 ++ r.2.2)
    let μ'' : Nat → Value := fun o => if o ∈ ids then μ' (idxOf ids o) else if id ≤ o ∧ o < id + news then μ' (n + (o - id)) else μ o
    have hnew : ∀ o, id ≤ o → o < id + news → ¬ U o := fun o h1 h2 => by
      have := hid (o - id) (by omega)
      rwa [show id + (o - id) = o by omega] at this
    have hob' : ∀ o, updAll ob ups o = if id ≤ o ∧ o < id + news then (r.2.2.map (renO back))[o - id]? else if o ∈ ids then (r.2.1.map (renO back))[idxOf ids o]? else ob o := fun o => by
      rw [← hups, updAll_append, updAll_new, enumUpd, updAll_zip _ _ _ _ hn (by simpa using hlen)]
      simp only [List.length_map]
      rfl
    have hback : ∀ i, i < n + news → (i < n ∧ ids[i]? = some (back i)) ∨ (n ≤ i ∧ back i = id + (i - n)) := fun i hi => by
      by_cases h : i < n
      · refine .inl ⟨h, ?_⟩
        have hb : back i = ids.getD i 0 := if_pos h
        rw [hb, List.getD_eq_getElem?_getD, List.getElem?_eq_getElem h]
        rfl
      · exact .inr ⟨by omega, if_neg h⟩
    have hsame : ∀ i, i < n + news → Same back obc' μ' (updAll ob ups) μ'' i := fun i hi => by
      rcases hback i hi with ⟨h1, h2⟩ | ⟨h1, h2⟩
      · have hm := List.mem_of_getElem? h2
        have hx := idxOf_at hn h2
        have hnn : ¬ (id ≤ back i ∧ back i < id + news) := fun h => hnew _ h.1 h.2 (hUids _ hm)
        refine ⟨?_, ?_⟩
        · rw [hob', if_neg hnn, if_pos hm, hx, List.getElem?_map]
          simp only [obc', argOb_0]
          rw [List.getElem?_append_left (by omega)]
        · simp only [μ'']
          rw [if_pos hm, hx]
      · have hnm : back i ∉ ids := fun hm => hnew (back i) (by omega) (by omega) (hUids _ hm)
        refine ⟨?_, ?_⟩
        · rw [hob', if_pos (by omega), List.getElem?_map]
          simp only [obc', argOb_0]
          rw [List.getElem?_append_right (by omega)]
          have : back i - id = i - r.2.1.length := by omega
          rw [this]
        · simp only [μ'']
          rw [if_neg hnm, if_pos (by omega)]
          have : n + (back i - id) = i := by omega
          rw [this]
    have hcov : ∀ o, (∃ i, i < n + news ∧ back i = o) ∨ (o ∉ ids ∧ updAll ob ups o = ob o ∧ μ'' o = μ o) := fun o => by
      by_cases h1 : o ∈ ids
      · have := idxOf_get h1
        have hlt := idxOf_lt h1
        refine .inl ⟨idxOf ids o, by omega, ?_⟩
        rcases hback (idxOf ids o) (by omega) with ⟨_, h⟩ | ⟨h, _⟩
        · rw [h] at this; exact Option.some.inj this
        · omega
      · by_cases h2 : id ≤ o ∧ o < id + news
        · refine .inl ⟨n + (o - id), by omega, ?_⟩
          have hb : back (n + (o - id)) = id + (n + (o - id) - n) := if_neg (by omega)
          omega
        · exact .inr ⟨h1, by rw [hob', if_neg h2, if_neg h1], by simp only [μ'']; rw [if_neg h1, if_neg h2]⟩
    have hobc : ∀ i, i < n + news → ∃ y, obc' i = some y := fun i hi => by
      simp only [obc', argOb_0]
      exact ⟨_, List.getElem?_eq_getElem (by simp; omega)⟩
    -- an object behind the call
    have hcases : ∀ o z, updAll ob ups o = some z → (∃ i y, i < n + news ∧ back i = o ∧ obc' i = some y ∧ z = renO back y ∧ μ'' o = μ' i) ∨ (o ∉ ids ∧ ob o = some z ∧ μ'' o = μ o) := fun o z hz => by
      rcases hcov o with ⟨i, hi, rfl⟩ | ⟨h1, h2, h3⟩
      · obtain ⟨h4, h5⟩ := hsame i hi
        rw [hz] at h4
        obtain ⟨y, h6, h7⟩ := Option.map_eq_some_iff.1 h4.symm
        exact .inl ⟨i, y, hi, rfl, h6, h7.symm, h5⟩
      · exact .inr ⟨h1, h2 ▸ hz, h3⟩
    have hother : ∀ o z b, o ∉ ids → ob o = some z → blockOf (μ o) = some b → b < w.heap.size ∧ ¬ MutB (argOb 0 objs') μc b ∧ ∀ i y, obc' i = some y → blockOf (μ' i) ≠ some b := fun o z b hno hz hb => by
      have hlt := R.lt hz hb
      have hnm : ¬ MutB (argOb 0 objs') μc b := by
        rintro ⟨i, y, hy, hb'⟩
        obtain ⟨o2, ho2, x2, _, h2, _, h3, _⟩ := H.back hy
        exact hno (R.inj o o2 z x2 b hz h2 hb (h3 ▸ hb') ▸ ho2)
      refine ⟨hlt, hnm, fun i y hy hb' => ?_⟩
      rcases S.rel.own i y b hy hb' with h | h
      · exact hnm h
      · omega
    have hImc : ∀ b, Imm B w ob μ b → Imm Bc w (argOb 0 objs') μc b := fun b hb => H.imm hb fun _ => .inl hb
    have hIm' : ∀ b, Imm Bc w' obc' μ' b → Imm B w' (updAll ob ups) μ'' b := fun b hb => by
      refine ⟨hb.1, fun o z hz hm he => ?_, ?_⟩
      · rcases hcases o z hz with ⟨i, y, hi, rfl, hy, rfl, hμ⟩ | ⟨hno, hz', hμ⟩
        · rw [muta_ren] at hm
          exact hb.2.1 i y hy hm (hμ ▸ he)
        · rw [hμ] at he
          rcases hb.2.2 (R.lt hz' he) with h | ⟨o2, ho2, hb2⟩
          · exact h.2.1 o z hz' hm he
          · obtain ⟨x2, hx2, _⟩ := H.some' o2 ho2
            exact hno (R.inj o o2 z x2 b hz' hx2 he hb2 ▸ ho2)
      · by_cases hlt : b < w.heap.size
        · rcases hb.2.2 hlt with h | ⟨o2, ho2, hb2⟩
          · exact h.2.2
          · obtain ⟨x2, hx2, _⟩ := H.some' o2 ho2
            exact R.inB o2 x2 b hx2 hb2
        · exact R.new b (by have := R.fr.size; omega)
    have hI : ∀ b, Imm B w ob μ b → Imm B w' (updAll ob ups) μ'' b := fun b hb => hIm' b (S.hI b (hImc b hb))
    have hw : ∀ b, Imm B w ob μ b → w'.heap[b]? = w.heap[b]? := fun b hb => S.hw b (hImc b hb)
    have hbackU : ∀ i, i < n + news → NewU U id (back i) := fun i hi => by
      rcases hback i hi with ⟨_, h2⟩ | ⟨h1, h2⟩
      · exact .inl (hUids _ (List.mem_of_getElem? h2))
      · exact .inr ⟨by omega, by omega⟩
    have hkeep : ∀ o, U o → Keep ob μ (updAll ob ups) μ'' o := fun o ho => by
      rcases hcov o with ⟨i, hi, rfl⟩ | ⟨h1, h2, h3⟩
      · rcases hback i hi with ⟨h1, h2⟩ | ⟨h1, h2⟩
        · have hm := List.mem_of_getElem? h2
          have hx := idxOf_at hn h2
          obtain ⟨h4, h5⟩ := H.same hm
          obtain ⟨h6, h7⟩ := hsame i hi
          have hk := S.hkeep i (show i < objs'.length by omega)
          unfold Keep at hk ⊢
          rw [hx] at h4 h5
          exact keep_ren h4 h5 h6 h7 (fun _ => trivial) hk
        · exact absurd ho (hnew _ (by omega) (by omega))
      · exact Keep.same h2 h3
    refine ⟨val, μ'', rfl, ⟨⟨?_, ?_, ?_, ?_, R.new, ?_, ?_⟩, fun o ho => .inl ho, hI, hw, hkeep, ?_⟩, ?_⟩
    · refine ⟨S.rel.fr.os.trans R.fr.os, S.rel.fr.tape.trans R.fr.tape, S.rel.fr.output.trans R.fr.output, Nat.le_trans R.fr.size S.rel.fr.size, fun b hb hM => ?_⟩
      rw [S.rel.fr.block b (Nat.lt_of_lt_of_le hb R.fr.size) ?_]
      · exact R.fr.block b hb hM
      · rintro ⟨i, y, hy, hb'⟩
        obtain ⟨o2, ho2, x2, _, h2, _, h3, _⟩ := H.back hy
        rcases R.own o2 x2 b h2 (h3 ▸ hb') with h | h
        · exact hM h
        · omega
    · intro o z hz
      rcases hcases o z hz with ⟨i, y, hi, rfl, hy, rfl, hμ⟩ | ⟨hno, hz', hμ⟩
      · refine ⟨hbackU i hi, fun o' ho' => ?_⟩
        rw [refs_renO] at ho'
        obtain ⟨j, hj, rfl⟩ := List.mem_map.1 ho'
        exact hbackU j (by have := (S.rel.used i y hy).2 j hj; omega)
      · exact ⟨.inl (R.used o z hz').1, fun o' ho' => .inl ((R.used o z hz').2 o' ho')⟩
    · intro o z hz
      rcases hcases o z hz with ⟨i, y, hi, rfl, hy, rfl, hμ⟩ | ⟨hno, hz', hμ⟩
      · exact ren_o hIm' hμ (fun j hj => hsame j (by have := (S.rel.used i y hy).2 j hj; omega)) (S.rel.ok i y hy)
      · refine ObjOK.mono (ob := ob) hI hw (fun b hb => ?_) hμ (fun o' ho' => hkeep o' ((R.used o z hz').2 o' ho')) (R.ok o z hz')
        obtain ⟨h1, h2, _⟩ := hother o z b hno hz' hb
        exact S.rel.fr.block b h1 h2
    · intro o z b hz hb
      rcases hcases o z hz with ⟨i, y, hi, rfl, hy, rfl, hμ⟩ | ⟨hno, hz', hμ⟩
      · rcases S.rel.own i y b hy (hμ ▸ hb) with ⟨j, x, hj, hbj⟩ | h
        · obtain ⟨o2, ho2, x2, _, h2, _, h3, _⟩ := H.back hj
          exact R.own o2 x2 b h2 (h3 ▸ hbj)
        · exact .inr (Nat.le_trans R.fr.size h)
      · exact R.own o z b hz' (hμ ▸ hb)
    · intro o z b hz hb
      rcases hcases o z hz with ⟨i, y, hi, rfl, hy, rfl, hμ⟩ | ⟨hno, hz', hμ⟩
      · rcases S.rel.own i y b hy (hμ ▸ hb) with ⟨j, x, hj, hbj⟩ | h
        · obtain ⟨o2, ho2, x2, _, h2, _, h3, _⟩ := H.back hj
          exact R.inB o2 x2 b h2 (h3 ▸ hbj)
        · exact R.new b (Nat.le_trans R.fr.size h)
      · exact R.inB o z b hz' (hμ ▸ hb)
    · intro o1 o2 z1 z2 b hz1 hz2 hb1 hb2
      rcases hcases o1 z1 hz1 with ⟨i1, y1, hi1, rfl, hy1, rfl, hμ1⟩ | ⟨hno1, hz1', hμ1⟩ <;> rcases hcases o2 z2 hz2 with ⟨i2, y2, hi2, rfl, hy2, rfl, hμ2⟩ | ⟨hno2, hz2', hμ2⟩
      · rw [S.rel.inj i1 i2 y1 y2 b hy1 hy2 (hμ1 ▸ hb1) (hμ2 ▸ hb2)]
      · exact absurd (hμ1 ▸ hb1) ((hother o2 z2 b hno2 hz2' (hμ2 ▸ hb2)).2.2 i1 y1 hy1)
      · exact absurd (hμ2 ▸ hb2) ((hother o1 z1 b hno1 hz1' (hμ1 ▸ hb1)).2.2 i2 y2 hy2)
      · exact R.inj o1 o2 z1 z2 b hz1' hz2' (hμ1 ▸ hb1) (hμ2 ▸ hb2)
    · intro o ho h0
      rcases hcov o with ⟨i, hi, rfl⟩ | ⟨h1, h2, h3⟩
      · rcases hback i hi with ⟨h1, h2⟩ | ⟨h1, h2⟩
        · obtain ⟨x, hx, _⟩ := H.some' _ (List.mem_of_getElem? h2)
          rw [hx] at h0; cases h0
        · exact absurd ho (hnew _ (by omega) (by omega))
      · rw [h2]; exact h0
    · rw [← hvv]
      refine ⟨ren_v hIm' r.1 val (fun o ho => hsame o (by have := hval.2 o ho; omega)) hval.1, fun o ho => ?_⟩
      rw [refs_ren] at ho
      obtain ⟨i, hi, rfl⟩ := List.mem_map.1 ho
      exact hbackU i (by have := hval.2 i hi; omega)
  · cases h
end
end Go.Proofs.Am
set_option linter.unusedVariables false
set_option linter.unusedSimpArgs false
namespace Go.Proofs.Am
open Go

theorem all_bind {α β : Type} {o : Option α} {f : α → Option β} {p : β → Bool} (h : ∀ a, (f a).all p = true) : (o.bind f).all p = true := by
  cases o <;> simp_all
theorem all_map {α β : Type} {o : Option α} {f : α → β} {p : β → Bool} (h : ∀ a, p (f a) = true) : (o.map f).all p = true := by
  cases o <;> simp_all

/-- what compiles to a call is a call -/
theorem compOp_call {P : Program} {op : Op} {hs hs' : List Hint} {ao : AOp} (h : compOp P op hs = some (ao, hs')) (hc : isCall ao = true) :
    ∃ c xs, op = .call c ∧ mapO compX c.args.toList = some xs ∧ ((∃ f m, c.callee = .value (.func f) ∧ ao = .call m f xs) ∨ ∃ g gx m, c.callee = .value g ∧ compX g = some gx ∧ ao = .callv m gx xs) := by
  have key : (∀ c, op ≠ .call c) → (compOp P op hs).all (fun r => !isCall r.1) = true := by
    intro hn
    cases op with
    | call c => exact absurd rfl (hn c)
    | _ => unfold compOp <;> (repeat' (first | rfl | contradiction | (apply all_bind; intro _) | (apply all_map; intro _) | split))
  cases op with
  | call c =>
    simp only [compOp, Option.bind_eq_some_iff] at h
    obtain ⟨xs, hxs, h⟩ := h
    refine ⟨c, xs, rfl, hxs, ?_⟩
    split at h
    · rename_i f hf
      split at h
      · cases h; exact .inl ⟨f, _, hf, rfl⟩
      · cases h
    · rename_i g _ hg
      obtain ⟨gx, hgx, h⟩ := Option.bind_eq_some_iff.1 h
      split at h
      · cases h; exact .inr ⟨g, gx, _, hg, hgx, rfl⟩
      · cases h
    all_goals
      exfalso
      have hall : (some (ao, hs')).all (fun r => !isCall r.1) = true := by
        rw [← h]
        repeat' (first | rfl | (apply all_bind; intro _) | (apply all_map; intro _) | split)
      simp [hc] at hall
  | _ =>
    exfalso
    have := key (by intro c e; cases e)
    rw [h] at this
    simp [hc] at this

section
variable {P : Program} {n : Nat} {B : Nat → Prop} {w0 : World} {M U U' : Nat → Prop} {a : Act} {w w' : World} {μ μ' : Nat → Value} {s : St} {ob' : Heap}

/-- An activation, a world, and the abstract state that stands for them. -/
structure Now (n : Nat) (B : Nat → Prop) (w0 : World) (M U : Nat → Prop) (a : Act) (w : World) (μ : Nat → Value) (s : St) : Prop where
  rel : Rel B w0 M U w μ s.ob
  sl : Slots B U w μ s.ob a.tmps s.sl
  size : n ≤ a.tmps.size
  defers : a.defers = []

theorem Now.put (H : Now n B w0 M U a w μ s) (S : Step B w0 M U U' w w' μ μ' s.ob ob') {v : Value} {x : V} (hv : Val B U' w' μ' ob' v x) {dst : Option Nat} (hd : ∀ d, dst = some d → d < n) :
    Now n B w0 M U' (a.put dst v) w' μ' ({ s with ob := ob' }.put dst x) := by
  cases dst with
  | none => exact ⟨S.rel, fun t => S.val (H.sl t), H.size, H.defers⟩
  | some d =>
    refine ⟨S.rel, fun t => ?_, by simpa [Act.put] using H.size, H.defers⟩
    simp only [Act.put, St.put]
    by_cases e : t = d
    · subst e
      rw [upd_eq, Array.getD_eq_getD_getElem?, Array.getElem?_setIfInBounds_self_of_lt (Nat.lt_of_lt_of_le (hd t rfl) H.size)]
      exact hv
    · rw [upd_ne _ _ e, Array.getD_eq_getD_getElem?, Array.getElem?_setIfInBounds_ne (by omega), ← Array.getD_eq_getD_getElem?]
      exact S.val (H.sl t)

theorem do_call {call : CallT} (hok : CallOK P call) (R : Rel B w0 M U w μ s.ob) (m : Mode) {f : Nat} {args : List V} {vals : Array Value} {id : Nat} {v : V} {ups : List (Nat × Obj)} (hsz : vals.size = args.length)
    (hid : ∀ j, j < bound → ¬ U (id + j))
    (hv : ∀ (i : Nat) u x, vals[i]? = some u → args[i]? = some x → Val B U w μ s.ob u x) (h : doCall call s.ob id m f args = some (v, ups)) :
    (∀ vals w, (callFunc f vals).run P w = .ok (.enter f vals) w) ∧ Calls P f vals w fun e w' => ∃ val μ', e = .returned val ∧ Step B w0 M U (NewU U id) w w' μ μ' s.ob (updAll s.ob ups) ∧ Val B (NewU U id) w' μ' (updAll s.ob ups) val v := by
  cases m with
  | pure => exact pure_call hok R hsz hv h
  | byref => exact byref_call hok R hsz hid hv h

/-- what an operation does, whatever it is -/
theorem op_wp {call : CallT} (hok : CallOK P call) (H : Now n B w0 M U a w μ s) {id : Nat} (hid : ∀ j, j < bound → ¬ U (id + j)) {o : Oper} {hs1 hs2 : List Hint} {ao : AOp} (hc : compOp P o.op hs1 = some (ao, hs2))
    {v : V} {ups : List (Nat × Obj)} (h : opEval call s.val s.ob id ao = some (v, ups)) {K : Act → World → Prop} {Q : Exit → Act → World → Prop}
    (hK : ∀ val w' μ', Step B w0 M U (NewU U id) w w' μ μ' s.ob (updAll s.ob ups) → Val B (NewU U id) w' μ' (updAll s.ob ups) val v → K (a.put o.dst val) w') : o.wp P a w K Q := by
  cases hcall : isCall ao with
  | false =>
    obtain ⟨nx, val, w', μ', hrun, hnx, S, hval⟩ := op_good call H.rel H.sl hid hc hcall h
    unfold Oper.wp
    rw [hrun]
    rcases hnx with rfl | ⟨rfl, rfl⟩
    · exact hK val w' μ' S hval
    · exact hK undef w' μ' S hval
  | true =>
    obtain ⟨c, xs, hop, hxs, hcase⟩ := compOp_call hc hcall
    have hargs : ∀ (i : Nat) u x, (c.args.map a.eval)[i]? = some u → (xs.map s.val)[i]? = some x → Val B U w μ s.ob u x := fun i u x h1 h2 => by
      simp only [Array.getElem?_map, List.getElem?_map, Option.map_eq_some_iff] at h1 h2
      obtain ⟨o1, h1, rfl⟩ := h1
      obtain ⟨x1, h2, rfl⟩ := h2
      exact args_rep (a := a) H.sl hxs i o1 x1 (by rw [Array.getElem?_toList]; exact h1) h2
    have hlen : (c.args.map a.eval).size = (xs.map s.val).length := by simp [mapO_length hxs]
    have fin : ∀ (f : Nat) (vals : Array Value), (execOp a.eval o).run P w = (callFunc f vals).run P w →
        ((∀ vals w, (callFunc f vals).run P w = .ok (.enter f vals) w) ∧ Calls P f vals w fun e w' => ∃ val μ', e = .returned val ∧ Step B w0 M U (NewU U id) w w' μ μ' s.ob (updAll s.ob ups) ∧ Val B (NewU U id) w' μ' (updAll s.ob ups) val v) → o.wp P a w K Q := by
      intro f vals hrun ⟨hent, hcalls⟩
      unfold Oper.wp
      rw [hrun, hent, Oper.upon_enter]
      refine hcalls.mono ?_
      rintro e w' ⟨val, μ', rfl, S, hval⟩
      exact hK val w' μ' S hval
    rcases hcase with ⟨f, m, hcal, rfl⟩ | ⟨g, gx, m, hcal, hgx, rfl⟩
    · simp only [opEval] at h
      refine fin f (c.args.map a.eval) ?_ (do_call hok H.rel m hlen hid hargs h)
      simp [execOp, hop, resolve, hcal, Act.eval, Deferred.ofValue, invoke]
    · have hg := compX_val (a := a) H.sl hgx
      simp only [opEval] at h
      have go : ∀ (cs : Array Value) (caps : List V) (f : Nat), a.eval g = .func (.func f) #[] cs → (∀ (i : Nat) u x, cs[i]? = some u → caps[i]? = some x → Val B U w μ s.ob u x) → cs.size = caps.length →
          doCall call s.ob id m f (xs.map s.val ++ caps) = some (v, ups) → o.wp P a w K Q := by
        intro cs caps f hev hcs hsz h
        refine fin f (c.args.map a.eval ++ cs) ?_ (do_call hok H.rel m ?_ hid (fun i u x h1 h2 => ?_) h)
        · simp [execOp, hop, resolve, hcal, hev, Deferred.ofValue, invoke]
        · simp only [Array.size_append, List.length_append, hlen, hsz]
        · by_cases hi : i < (c.args.map a.eval).size
          · rw [Array.getElem?_append_left hi] at h1
            rw [List.getElem?_append_left (by omega)] at h2
            exact hargs i u x h1 h2
          · rw [Array.getElem?_append_right (by omega)] at h1
            rw [List.getElem?_append_right (by omega), ← hlen] at h2
            exact hcs _ u x h1 h2
      split at h
      · rename_i f caps hx
        rw [hx] at hg
        obtain ⟨hg1, hg2⟩ := hg
        simp only [RepV] at hg1
        obtain ⟨cs, hv, hl⟩ := hg1
        refine go cs caps f hv (fun i u x h1 h2 => ⟨(hl.at i u x (by rw [Array.getElem?_toList]; exact h1) h2).1, fun o ho => hg2 o ?_⟩) (by simpa using hl.length) h
        simp only [refsV]
        exact refsL_mem (List.mem_of_getElem? h2) o ho
      · rename_i f caps hx
        rw [hx] at hg
        obtain ⟨hg1, hg2⟩ := hg
        simp only [RepV] at hg1
        generalize a.eval g = vg at hg1 go
        cases hg1.1 with
        | fn _ cs ds hl h1 hh =>
          refine go cs (caps.map .d) f rfl (fun i u x h3 h4 => ?_) (by simpa using hl) h
          simp only [List.getElem?_map, Option.map_eq_some_iff] at h4
          obtain ⟨d, hd, rfl⟩ := h4
          exact Val.d (hh i u d h3 hd) (h1 i u h3)
      · cases h
end
end Go.Proofs.Am
