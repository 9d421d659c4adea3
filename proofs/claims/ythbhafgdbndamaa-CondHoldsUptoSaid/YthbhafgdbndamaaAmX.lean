/- Regions. Which operations may change places. What writing operations lay anew; and that an operation sees what it is led to alone. An operation sees what it is led to alone. Two operations change places. Regions whose operations come in any order. The interpreter of the abstract machine is sound. Functions: what the abstract machine answers, a call answers. The abstract machine without fuel. Running the abstract machine forwards, without fuel, step by step: rules for simp. -/
import Derived.Test.YthbhafgdbndamaaAmB
import Derived.LoopN
import Derived.Scope
set_option linter.unusedVariables false
set_option linter.unusedSimpArgs false
namespace Go.Proofs.Am
open Go

/-- number k of a region's operations compiles so -/
def Comp (P : Program) (n : Nat) (os : Array Oper) (k : Nat) (ao : AOper) : Prop := ∃ o hs1 hs2, os[k]? = some o ∧ compOper P n os o hs1 = some (ao, hs2)

section
variable {P : Program} {n : Nat} {B : Nat → Prop} {w0 : World} {M U U' : Nat → Prop} {a : Act} {w w' : World} {μ μ' : Nat → Value} {s s' : St} {ob' : Heap}

theorem wanted_slot (H : Now n B w0 M U a w μ s) {os : Array Oper} {o : Oper} {j : Nat} {want : Bool} {t : Nat} (hg : o.guard = some (j, want)) (ht : (os[j]?).bind (·.dst) = some t) :
    (∀ b, s.sl t = .d (.bool b) → Region.wanted o (yielded os a.tmps) = (b == want)) ∧ (s.sl t = .undef → Region.wanted o (yielded os a.tmps) = false) := by
  have h := (H.sl t).1
  refine ⟨fun b hb => ?_, fun hb => ?_⟩
  · rw [hb] at h
    have := h.bool
    have hx : a.tmps[t]? = some (.bool b) := by
      rw [Array.getD_eq_getD_getElem?] at this
      cases hq : a.tmps[t]? with
      | none => rw [hq] at this; simp [undef] at this
      | some v => rw [hq] at this; simpa using this
    simp [Region.wanted, hg, yielded, ht, hx]
  · rw [hb] at h
    simp only [RepV] at h
    have hx : ∀ b, a.tmps[t]? ≠ some (.bool b) := fun b hq => by
      rw [Array.getD_eq_getD_getElem?, hq] at h
      simp [undef] at h
    simp [Region.wanted, hg, yielded, ht, Option.bind_some, hx]

/-- One operation, guarded or not. -/
theorem opStep_wp {call : CallT} (hok : CallOK P call) (H : Now n B w0 M U a w μ s) {os : Array Oper} {base k : Nat} {ao : AOper} (hid : ∀ j, j < bound → ¬ U (base + k * bound + j)) (hc : Comp P n os k ao)
    (h : opStep call base k ao s = some s') {K : Act → World → Prop} {Q : Exit → Act → World → Prop}
    (hK : ∀ a' w' μ', Now n B w0 M (NewU U (base + k * bound)) a' w' μ' s' → Step B w0 M U (NewU U (base + k * bound)) w w' μ μ' s.ob s'.ob → K a' w') : wpOp P os Q k K a w := by
  obtain ⟨o, hs1, hs2, ho, hc⟩ := hc
  unfold compOper at hc
  split at hc
  · cases hc
  rename_i hdst
  have hd : ∀ d, o.dst = some d → d < n := fun d hd => by simpa [hd] using hdst
  obtain ⟨r, hr, hc⟩ := Option.bind_eq_some_iff.1 hc
  split at hc
  · cases hc
  -- it runs
  have go : ∀ p, opEval call s.val s.ob (base + k * bound) r.1 = some p → s' = { s with ob := updAll s.ob p.2 }.put o.dst p.1 → o.wp P a w K Q := fun p hp hs' => by
    refine op_wp hok H hid hr (v := p.1) (ups := p.2) hp fun val w' μ' S hval => ?_
    have hob : s'.ob = updAll s.ob p.2 := by rw [hs']; cases o.dst <;> rfl
    refine hK _ w' μ' ?_ (hob ▸ S)
    rw [hs']
    exact H.put S hval hd
  -- it is passed over
  have skip : s' = s.put o.dst .undef → K (a.put o.dst undef) w := fun hs' => by
    have hob : s'.ob = s.ob := by rw [hs']; cases o.dst <;> rfl
    have S : Step B w0 M U (NewU U (base + k * bound)) w w μ μ s.ob s.ob := (Step.refl H.rel).newU fun _ h => .inl h
    refine hK _ w μ ?_ (hob ▸ S)
    rw [hs']
    exact H.put (ob' := s.ob) S (v := undef) (x := .undef) ⟨by simp only [RepV], by simp [refsV]⟩ hd
  unfold wpOp
  rw [ho]
  simp only
  cases hg : o.guard with
  | none =>
    rw [hg] at hc
    simp only [Option.some.injEq, Prod.mk.injEq] at hc
    obtain ⟨rfl, _⟩ := hc
    simp only [opStep, Option.map_eq_some_iff] at h
    obtain ⟨p, hp, rfl⟩ := h
    rw [if_pos (by simp [Region.wanted, hg])]
    exact .inl (go p hp rfl)
  | some jb =>
    obtain ⟨j, want⟩ := jb
    rw [hg] at hc
    simp only [Option.map_eq_some_iff, Prod.mk.injEq] at hc
    obtain ⟨t, ht, rfl, _⟩ := hc
    simp only [opStep] at h
    obtain ⟨h1, h2⟩ := wanted_slot H hg ht
    split at h
    · rename_i b hb
      have hw := h1 b hb
      split at h
      · rename_i e
        obtain ⟨p, hp, rfl⟩ := Option.map_eq_some_iff.1 h
        rw [if_pos (by rw [hw]; simp [e])]
        exact .inl (go p hp rfl)
      · rename_i e
        rw [if_neg (by rw [hw]; simp [e])]
        exact skip (Option.some.inj h).symm
    · rename_i hb
      rw [if_neg (by rw [h2 hb]; simp)]
      exact skip (Option.some.inj h).symm
    · cases h

/-- numbers that have been given out: those before, and those of some operations -/
def RegU (U : Nat → Prop) (base : Nat) (ks : List Nat) : Nat → Prop := fun o => U o ∨ ∃ k ∈ ks, base + k * bound ≤ o ∧ o < base + k * bound + bound

theorem ops_wp {call : CallT} (hok : CallOK P call) {os : Array Oper} {base : Nat} {Q : Exit → Act → World → Prop} (r : List (Nat × AOper)) : ∀ {U : Nat → Prop} {a : Act} {w : World} {μ : Nat → Value} {s s' : St},
    Now n B w0 M U a w μ s → (∀ p ∈ r, Comp P n os p.1 p.2) → (r.map (·.1)).Nodup → (∀ p ∈ r, ∀ j, j < bound → ¬ U (base + p.1 * bound + j)) → ops call base r s = some s' →
    (∀ a' w' μ', Now n B w0 M (RegU U base (r.map (·.1))) a' w' μ' s' → Step B w0 M U (RegU U base (r.map (·.1))) w w' μ μ' s.ob s'.ob → Q .normal a' w') → wpOps P os Q (r.map (·.1)) a w := by
  induction r with
  | nil =>
    intro U a w μ s s' H _ _ _ h hQ
    simp only [ops, Option.some.injEq] at h
    subst h
    have S : Step B w0 M U (RegU U base (([] : List (Nat × AOper)).map (·.1))) w w μ μ s.ob s.ob := by
      have S := Step.refl H.rel
      exact ⟨S.rel.weaken fun _ h => .inl h, fun _ h => .inl h, S.hI, S.hw, S.hkeep, S.hnone⟩
    exact hQ a w μ ⟨S.rel, fun t => S.val (H.sl t), H.size, H.defers⟩ S
  | cons p r ih =>
    intro U a w μ s s' H hc hn hid h hQ
    obtain ⟨k, ao⟩ := p
    simp only [ops, Option.bind_eq_some_iff] at h
    obtain ⟨s1, h1, h⟩ := h
    simp only [List.map_cons, List.nodup_cons] at hn
    rw [List.map_cons, wpOps_cons]
    refine opStep_wp hok H (hid (k, ao) (by simp)) (hc (k, ao) (by simp)) h1 fun a1 w1 μ1 H1 S1 => ?_
    refine ih H1 (fun p hp => hc p (by simp [hp])) hn.2 (fun p hp j hj hU => ?_) h fun a' w' μ' H' S' => ?_
    · rcases hU with hU | ⟨h3, h4⟩
      · exact hid p (by simp [hp]) j hj hU
      · have hne : p.1 ≠ k := fun e => hn.1 (e ▸ List.mem_map.2 ⟨p, hp, rfl⟩)
        simp only [bound] at h3 h4 hj
        omega
    · have hU : ∀ o, RegU (NewU U (base + k * bound)) base (r.map (·.1)) o → RegU U base (((k, ao) :: r).map (·.1)) o := fun o ho => by
        rcases ho with (h | h) | ⟨k', hk', h⟩
        · exact .inl h
        · exact .inr ⟨k, by simp, h⟩
        · exact .inr ⟨k', by simp only [List.map_cons, List.mem_cons]; exact .inr hk', h⟩
      have S2 := S1.trans S'
      refine hQ a' w' μ' ⟨H'.rel.weaken hU, fun t => (H'.sl t).weaken hU, H'.size, H'.defers⟩ ⟨S2.rel.weaken hU, fun o ho => .inl ho, S2.hI, S2.hw, S2.hkeep, S2.hnone⟩
end

theorem enum_fst : ∀ (l : List AOper) (k : Nat), (enum k l).map (·.1) = List.range' k l.length
  | [], k => rfl
  | o :: r, k => by simp only [enum, List.map_cons, List.length_cons, List.range'_succ]; rw [enum_fst r (k + 1)]

theorem compOps_comp {P : Program} {n : Nat} {os : Array Oper} : ∀ (l : List Oper) (k : Nat) (hs hs' : List Hint) (as : List AOper), (∀ i o, l[i]? = some o → os[k + i]? = some o) → compOps P n os l hs = some (as, hs') →
    as.length = l.length ∧ ∀ p ∈ enum k as, Comp P n os p.1 p.2
  | [], k, hs, hs', as, _, h => by
    simp only [compOps, Option.some.injEq, Prod.mk.injEq] at h
    obtain ⟨rfl, _⟩ := h
    simp [enum]
  | o :: r, k, hs, hs', as, hl, h => by
    simp only [compOps, Option.bind_eq_some_iff, Option.map_eq_some_iff] at h
    obtain ⟨x, hx, y, hy, h⟩ := h
    cases h
    obtain ⟨h1, h2⟩ := compOps_comp r (k + 1) x.2 y.2 y.1 (fun i o ho => by have := hl (i + 1) o (by simpa using ho); rwa [show k + 1 + i = k + (i + 1) by omega]) hy
    refine ⟨by simp [h1], fun p hp => ?_⟩
    simp only [enum, List.mem_cons] at hp
    rcases hp with rfl | hp
    · exact ⟨o, hs, x.2, hl 0 o rfl, hx⟩
    · exact h2 p hp
end Go.Proofs.Am
set_option linter.unusedVariables false
set_option linter.unusedSimpArgs false
namespace Go.Proofs.Am
open Go

theorem map_congr_xs {ρ ρ' : X → V} {xs : List X} (h : ∀ x ∈ xs, ρ x = ρ' x) : xs.map ρ = xs.map ρ' := List.map_congr_left h

theorem mapO_congr {α β : Type} {f g : α → Option β} : ∀ {l : List α}, (∀ x ∈ l, f x = g x) → mapO f l = mapO g l
  | [], _ => rfl
  | a :: r, h => by simp only [mapO]; rw [h a (by simp), mapO_congr fun x hx => h x (by simp [hx])]

theorem bnd_congr {ρ ρ' : X → V} {o : Option X} {d : Int} (h : ∀ x ∈ o.toList, ρ x = ρ' x) : bnd ρ o d = bnd ρ' o d := by
  cases o with
  | none => rfl
  | some x => simp only [bnd]; rw [h x (by simp)]

/-- an operation's answer hangs on its operands alone -/
theorem opEval_congr {call : CallT} {ρ ρ' : X → V} {ob : Heap} {id : Nat} {op : AOp} (h : ∀ x ∈ xsOf op, ρ x = ρ' x) : opEval call ρ ob id op = opEval call ρ' ob id op := by
  cases op with
  | build z parts =>
    simp only [opEval]
    rw [List.map_congr_left (g := fun p => (p.1, p.2.1, ρ' p.2.2)) fun p hp => by rw [h p.2.2 (by simp only [xsOf, List.mem_map]; exact ⟨p, hp, rfl⟩)]]
  | bslice e n z parts =>
    simp only [opEval]
    rw [mapO_congr (g := fun (p : Nat × X) => (cellsOf (ρ' p.2)).bind fun cs => if p.1 < n ∧ cs.length = e then (rowCells ob cs).map fun r => (p.1, r) else none) fun p hp => by rw [h p.2 (by simp only [xsOf, List.mem_map]; exact ⟨p, hp, rfl⟩)]]
  | mkfn f caps => simp only [opEval, map_congr_xs (ρ := ρ) (ρ' := ρ') (xs := caps) h]
  | minmax m xs => simp only [opEval, map_congr_xs (ρ := ρ) (ρ' := ρ') (xs := xs) h]
  | call m f args => simp only [opEval, map_congr_xs (ρ := ρ) (ρ' := ρ') (xs := args) h]
  | callv m f args =>
    have h1 := h f (by simp [xsOf])
    have h2 := map_congr_xs (ρ := ρ) (ρ' := ρ') (xs := args) fun x hx => h x (by simp [xsOf, hx])
    simp only [opEval, h1, h2]
  | slice e x lo hi =>
    have h1 := h x (by simp [xsOf])
    have h2 : ∀ d, bnd ρ lo d = bnd ρ' lo d := fun d => bnd_congr fun y hy => h y (by simp only [xsOf, List.mem_cons, List.mem_append]; exact .inr (.inl hy))
    have h3 : ∀ d, bnd ρ hi d = bnd ρ' hi d := fun d => bnd_congr fun y hy => h y (by simp only [xsOf, List.mem_cons, List.mem_append]; exact .inr (.inr hy))
    simp only [opEval, h1, h2, h3]
  | sslice x lo hi =>
    have h1 := h x (by simp [xsOf])
    have h2 : ∀ d, bnd ρ lo d = bnd ρ' lo d := fun d => bnd_congr fun y hy => h y (by simp only [xsOf, List.mem_cons, List.mem_append]; exact .inr (.inl hy))
    have h3 : ∀ d, bnd ρ hi d = bnd ρ' hi d := fun d => bnd_congr fun y hy => h y (by simp only [xsOf, List.mem_cons, List.mem_append]; exact .inr (.inr hy))
    simp only [opEval, h1, h2, h3]
  | pick c a b =>
    have h1 := h c (by simp [xsOf]); have h2 := h a (by simp [xsOf]); have h3 := h b (by simp [xsOf])
    simp only [opEval, h1, h2, h3]
  | alloc | lenc | none => rfl
  | mov x | box _ x | load _ _ x | nilchk x | un _ x | conv _ x | fa _ x | fld _ _ _ x | len x | slen x | reim _ x | ext _ x =>
    have h1 := h x (by simp [xsOf])
    simp only [opEval, h1]
  | store _ x y | bin _ x y | beq _ x y | aeq _ _ x y | mksl _ _ _ x y | ia _ x y | iaa _ _ x y | idxs x y | idxa _ _ _ x y | append _ _ x y | copy _ x y | mkcpx x y =>
    have h1 := h x (by simp [xsOf]); have h2 := h y (by simp [xsOf])
    simp only [opEval, h1, h2]

theorem free_eval {call : CallT} {ρ : X → V} {ob ob' : Heap} {id id' : Nat} {op : AOp} (h : isFree op = true) : opEval call ρ ob id op = opEval call ρ ob' id' op := by
  cases op <;> first | rfl | simp [isFree] at h

theorem maker_eval {call : CallT} {ρ : X → V} {ob ob' : Heap} {id : Nat} {op : AOp} (h : isMaker op = true) : opEval call ρ ob id op = opEval call ρ ob' id op := by
  cases op <;> first | rfl | simp [isMaker] at h
theorem maker_ups {call : CallT} {ρ : X → V} {ob : Heap} {id : Nat} {op : AOp} (h : isMaker op = true) {v : V} {ups : List (Nat × Obj)} (he : opEval call ρ ob id op = some (v, ups)) : ∃ x, ups = [(id, x)] := by
  cases op with
  | box n x =>
    simp only [opEval, Option.bind_eq_some_iff] at he
    obtain ⟨cs, _, he⟩ := he
    split at he
    · cases he; exact ⟨_, rfl⟩
    · cases he
  | alloc cells =>
    simp only [opEval, Option.some.injEq, Prod.mk.injEq] at he
    exact ⟨_, he.2.symm⟩
  | mksl e b z l c =>
    simp only [opEval] at he
    split at he
    · split at he
      · cases he; exact ⟨_, rfl⟩
      · cases he
    · cases he
  | _ => simp [isMaker] at h

/-! ### Reading operations -/
/-- alike but for what the cells hold -/
def ShapeO : Option Obj → Option Obj → Prop
  | none, none => True
  | some (.box _), some (.box _) => True
  | some (.row v _ s e), some (.row v' _ s' e') => v = v' ∧ s = s' ∧ e.length = e'.length
  | _, _ => False
/-- alike but for the freezing -/
def SoftO : Option Obj → Option Obj → Prop
  | none, none => True
  | some (.box c), some (.box c') => c = c'
  | some (.row v _ s e), some (.row v' _ s' e') => v = v' ∧ s = s' ∧ e = e'
  | _, _ => False
theorem SoftO.refl (x : Option Obj) : SoftO x x := by
  cases x with
  | none => trivial
  | some x => cases x <;> simp [SoftO]
theorem SoftO.shape {x y : Option Obj} (h : SoftO x y) : ShapeO x y := by
  cases x with
  | none => cases y with
    | none => trivial
    | some y => cases y <;> exact h
  | some x => cases y with
    | none => cases x <;> exact h
    | some y => cases x <;> cases y <;> simp only [SoftO, ShapeO] at h ⊢; exact ⟨h.1, h.2.1, by rw [h.2.2]⟩

theorem liveRef_shape {ob ob' : Heap} {o ver : Nat} (h : ShapeO (ob o) (ob' o)) : liveRef ob' o ver = liveRef ob o ver := by
  unfold liveRef
  cases h1 : ob o with
  | none => cases h2 : ob' o with
    | none => rfl
    | some y => rw [h1, h2] at h; cases y <;> exact h.elim
  | some x => cases h2 : ob' o with
    | none => rw [h1, h2] at h; cases x <;> exact h.elim
    | some y => rw [h1, h2] at h; cases x <;> cases y <;> simp_all [ShapeO]
theorem liveRow_shape {ob ob' : Heap} {o ver esz : Nat} (h : ShapeO (ob o) (ob' o)) : liveRow ob' o ver esz = liveRow ob o ver esz := by
  unfold liveRow
  cases h1 : ob o with
  | none => cases h2 : ob' o with
    | none => rfl
    | some y => rw [h1, h2] at h; cases y <;> exact h.elim
  | some x => cases h2 : ob' o with
    | none => rw [h1, h2] at h; cases x <;> exact h.elim
    | some y => rw [h1, h2] at h; cases x <;> cases y <;> simp_all [ShapeO]

theorem ShapeO.cases {x y : Option Obj} (h : ShapeO x y) : (x = none ∧ y = none) ∨ (∃ c c', x = some (.box c) ∧ y = some (.box c')) ∨ ∃ v f f' s e e', x = some (.row v f s e) ∧ y = some (.row v f' s e') ∧ e.length = e'.length := by
  cases x with
  | none => cases y with
    | none => exact .inl ⟨rfl, rfl⟩
    | some y => cases y <;> exact h.elim
  | some x => cases y with
    | none => cases x <;> exact h.elim
    | some y =>
      cases x <;> cases y <;> simp only [ShapeO] at h
      · exact .inr (.inl ⟨_, _, rfl, rfl⟩)
      · obtain ⟨rfl, rfl, h3⟩ := h
        exact .inr (.inr ⟨_, _, _, _, _, _, rfl, rfl, h3⟩)

/-- how long what is read is -/
theorem elemsOf_shape {ob ob' : Heap} {v : V} (h : ∀ o ∈ refsV v, ShapeO (ob o) (ob' o)) : (elemsOf ob' v).map List.length = (elemsOf ob v).map List.length := by
  cases v with
  | own o ver =>
    rcases (h o (by simp [refsV])).cases with ⟨h1, h2⟩ | ⟨c, c', h1, h2⟩ | ⟨v, f, f', s, e, e', h1, h2, h3⟩ <;> simp only [elemsOf, h1, h2]
    split <;> simp [h3]
  | osl o ver off len =>
    rcases (h o (by simp [refsV])).cases with ⟨h1, h2⟩ | ⟨c, c', h1, h2⟩ | ⟨v, f, f', s, e, e', h1, h2, h3⟩ <;> simp only [elemsOf, h1, h2]
    rw [h3]
    split <;> simp [rowPart, h3]
  | d x => cases x <;> rfl
  | _ => rfl

theorem shape_eval {call : CallT} {ρ : X → V} {ob ob' : Heap} {id id' : Nat} {op : AOp} (hr : isShape op = true) (h : ∀ x ∈ xsOf op, ∀ o ∈ refsV (ρ x), ShapeO (ob o) (ob' o)) : opEval call ρ ob' id' op = opEval call ρ ob id op := by
  cases op with
  | nilchk x =>
    have h1 := h x (by simp [xsOf])
    simp only [opEval]
    split
    · rename_i hx; rw [hx] at h1; rw [liveRef_shape (h1 _ (by simp [refsV]))]
    all_goals rfl
  | fa off x =>
    have h1 := h x (by simp [xsOf])
    simp only [opEval]
    split
    · rename_i hx; rw [hx] at h1; rw [liveRef_shape (h1 _ (by simp [refsV]))]
    all_goals rfl
  | iaa n e x i =>
    have h1 := h x (by simp [xsOf])
    simp only [opEval]
    split
    · rfl
    · split
      · split
        · rename_i hx; rw [hx] at h1; rw [liveRef_shape (h1 _ (by simp [refsV]))]
        all_goals rfl
      · rfl
  | ia esz x i =>
    have h1 := h x (by simp [xsOf])
    simp only [opEval]
    split
    · rfl
    · split
      · rfl
      · rename_i o ver hx
        rw [hx] at h1
        rcases (h1 o (by simp [refsV])).cases with ⟨h1, h2⟩ | ⟨c, c', h1, h2⟩ | ⟨v, f, f', s, e, e', h1, h2, h3⟩ <;> simp only [h1, h2]
        rw [h3]
      · rename_i o ver off len hx
        rw [hx] at h1
        rcases (h1 o (by simp [refsV])).cases with ⟨h1, h2⟩ | ⟨c, c', h1, h2⟩ | ⟨v, f, f', s, e, e', h1, h2, h3⟩ <;> simp only [h1, h2]
        rw [h3]
      · rfl
  | slice esz x lo hi =>
    have h1 := h x (by simp [xsOf])
    simp only [opEval]
    cases bnd ρ lo 0 with
    | none => rfl
    | some l =>
      simp only [Option.bind_some]
      split
      · rfl
      · rfl
      · rename_i o ver hx
        rw [hx] at h1
        rcases (h1 o (by simp [refsV])).cases with ⟨h1, h2⟩ | ⟨c, c', h1, h2⟩ | ⟨v, f, f', s, e, e', h1, h2, h3⟩ <;> simp only [h1, h2]
        rw [h3]
      · rename_i o ver off len hx
        rw [hx] at h1
        simp only [liveRow_shape (h1 o (by simp [refsV]))]
      · rfl
  | len x =>
    have h1 := elemsOf_shape (h x (by simp [xsOf]))
    simp only [opEval]
    split
    · rfl
    · cases h2 : elemsOf ob (ρ x) with
      | none => rw [h2] at h1; cases h3 : elemsOf ob' (ρ x) with
        | none => rfl
        | some e => rw [h3] at h1; simp at h1
      | some e => rw [h2] at h1; cases h3 : elemsOf ob' (ρ x) with
        | none => rw [h3] at h1; simp at h1
        | some e' => rw [h3] at h1; simp at h1; simp [h1]
  | _ => simp [isShape] at hr

theorem read_eval {call : CallT} {ρ : X → V} {ob ob' : Heap} {id id' : Nat} {op : AOp} (hr : isRead op = true) (h : ∀ x ∈ xsOf op, ∀ o ∈ refsV (ρ x), SoftO (ob o) (ob' o)) : opEval call ρ ob' id' op = opEval call ρ ob id op := by
  cases hs : isShape op with
  | true => exact shape_eval hs fun x hx o ho => (h x hx o ho).shape
  | false =>
    cases op with
    | load g n x =>
      have h1 := h x (by simp [xsOf])
      simp only [opEval]
      split
      · rfl
      · rename_i o ver i j hx
        rw [hx] at h1
        have h2 := h1 o (by simp [refsV])
        cases h3 : ob o with
        | none => cases h4 : ob' o with
          | none => rfl
          | some y => rw [h3, h4] at h2; cases y <;> exact h2.elim
        | some y => cases h4 : ob' o with
          | none => rw [h3, h4] at h2; cases y <;> exact h2.elim
          | some z =>
            rw [h3, h4] at h2
            cases y <;> cases z <;> simp only [SoftO] at h2
            · subst h2; rfl
            · obtain ⟨rfl, rfl, rfl⟩ := h2; rfl
      · rfl
    | _ => simp [isRead, isShape] at hr hs

theorem read_ups {call : CallT} {ρ : X → V} {ob : Heap} {id : Nat} {op : AOp} (hr : isRead op = true) {v : V} {ups : List (Nat × Obj)} (he : opEval call ρ ob id op = some (v, ups)) : ups = [] := by
  have key : (opEval call ρ ob id op).all (fun p => p.2.isEmpty) = true := by
    cases op with
    | load g n x => simp only [opEval]; repeat' (first | rfl | (apply all_bind; intro _) | (apply all_map; intro _) | split)
    | nilchk x => simp only [opEval]; repeat' (first | rfl | (apply all_bind; intro _) | (apply all_map; intro _) | split)
    | fa off x => simp only [opEval]; repeat' (first | rfl | (apply all_bind; intro _) | (apply all_map; intro _) | split)
    | iaa n e x i => simp only [opEval]; repeat' (first | rfl | (apply all_bind; intro _) | (apply all_map; intro _) | split)
    | ia e x i => simp only [opEval]; repeat' (first | rfl | (apply all_bind; intro _) | (apply all_map; intro _) | split)
    | slice e x lo hi => simp only [opEval]; repeat' (first | rfl | (apply all_bind; intro _) | (apply all_map; intro _) | split)
    | len x => simp only [opEval]; repeat' (first | rfl | (apply all_bind; intro _) | (apply all_map; intro _) | split)
    | _ => simp [isRead, isShape] at hr
  rw [he] at key
  simpa using key

theorem free_ups {call : CallT} {ρ : X → V} {ob : Heap} {id : Nat} {op : AOp} (hr : isFree op = true) {v : V} {ups : List (Nat × Obj)} (he : opEval call ρ ob id op = some (v, ups)) : ups = [] := by
  have key : (opEval call ρ ob id op).all (fun p => p.2.isEmpty) = true := by
    cases op with
    | box | alloc | bslice | load | store | nilchk | mksl | slice | fa | ia | iaa | len | append | copy | call | callv => simp [isFree] at hr
    | _ => simp only [opEval]; repeat' (first | rfl | (apply all_bind; intro _) | (apply all_map; intro _) | split)
  rw [he] at key
  simpa using key
end Go.Proofs.Am
set_option linter.unusedVariables false
set_option linter.unusedSimpArgs false
namespace Go.Proofs.Am
open Go

/-- an update: of a new object, a freezing, or of one of some objects -/
def UpOK (ob : Heap) (id : Nat) (tgt : List Nat) (p : Nat × Obj) : Prop :=
  (id ≤ p.1 ∧ p.1 < id + bound) ∨ (∃ v f s e, ob p.1 = some (.row v f s e) ∧ p.2 = .row v true s e) ∨ p.1 ∈ tgt

theorem freezes_form {ob : Heap} : ∀ {ids : List Nat} {fs : List (Nat × Obj)}, Am.freezes ob ids = some fs → ∀ p ∈ fs, p.1 ∈ ids ∧ ∃ v f s e, ob p.1 = some (.row v f s e) ∧ p.2 = .row v true s e
  | [], fs, h, p, hp => by simp only [Am.freezes, Option.some.injEq] at h; subst h; cases hp
  | o :: r, fs, h, p, hp => by
    simp only [Am.freezes] at h
    split at h
    · rename_i v f s e hx
      obtain ⟨l, hl, rfl⟩ := Option.map_eq_some_iff.1 h
      rcases List.mem_cons.1 hp with rfl | hp
      · exact ⟨by simp, v, f, s, e, hx, rfl⟩
      · obtain ⟨h1, h2⟩ := freezes_form hl p hp
        exact ⟨by simp [h1], h2⟩
    · cases h

theorem rowCells_form {ob : Heap} {vs : List V} {r : List D × List (Nat × Obj)} (h : Am.rowCells ob vs = some r) : ∀ p ∈ r.2, p.1 ∈ refsL vs ∧ ∃ v f s e, ob p.1 = some (.row v f s e) ∧ p.2 = .row v true s e := by
  simp only [Am.rowCells, Option.bind_eq_some_iff, Option.map_eq_some_iff] at h
  obtain ⟨ds, _, fs, hfs, rfl⟩ := h
  exact freezes_form hfs

theorem mapO_mem {α β : Type} {f : α → Option β} : ∀ {l : List α} {r : List β}, mapO f l = some r → ∀ b ∈ r, ∃ a ∈ l, f a = some b
  | [], r, h, b, hb => by simp only [mapO, Option.some.injEq] at h; subst h; cases hb
  | a :: l, r, h, b, hb => by
    simp only [mapO, Option.bind_eq_some_iff, Option.some.injEq] at h
    obtain ⟨c, hc, t, ht, rfl⟩ := h
    rcases List.mem_cons.1 hb with rfl | hb
    · exact ⟨a, by simp, hc⟩
    · obtain ⟨x, h1, h2⟩ := mapO_mem ht b hb
      exact ⟨x, by simp [h1], h2⟩

theorem doCall_form {call : CallT} {ob : Heap} {id f : Nat} {args : List V} {v : V} {ups : List (Nat × Obj)} (h : doCall call ob id .pure f args = some (v, ups)) :
    ∀ p ∈ ups, p.1 ∈ reach ob 100 [] (refsL args) ∧ ∃ v f s e, ob p.1 = some (.row v f s e) ∧ p.2 = .row v true s e := by
  simp only [doCall, Option.bind_eq_some_iff] at h
  obtain ⟨as, _, r, _, h⟩ := h
  split at h
  · cases h
  · split at h
    · cases h
      intro p hp; cases hp
    · split at h
      · obtain ⟨fs, hfs, h⟩ := Option.map_eq_some_iff.1 h
        cases h
        exact freezes_form hfs
      · cases h

theorem bslice_form {ob : Heap} {ρ : X → V} {esz n : Nat} {parts : List (Nat × X)} {l : List (Nat × List D × List (Nat × Obj))}
    (h : mapO (fun (p : Nat × X) => (cellsOf (ρ p.2)).bind fun cs => if p.1 < n ∧ cs.length = esz then (Am.rowCells ob cs).map fun r => (p.1, r) else none) parts = some l) :
    ∀ q ∈ l.flatMap (fun p => p.2.2), (∃ x ∈ parts, q.1 ∈ refsV (ρ x.2)) ∧ ∃ v f s e, ob q.1 = some (.row v f s e) ∧ q.2 = .row v true s e := by
  intro q hq
  obtain ⟨b, hb, hq⟩ := List.mem_flatMap.1 hq
  obtain ⟨x, hx, hx2⟩ := mapO_mem h b hb
  simp only [Option.bind_eq_some_iff] at hx2
  obtain ⟨cs, hcs, hx2⟩ := hx2
  split at hx2
  · obtain ⟨r, hr, rfl⟩ := Option.map_eq_some_iff.1 hx2
    obtain ⟨h1, h2⟩ := rowCells_form hr q hq
    exact ⟨⟨x, hx, refs_cells hcs ▸ h1⟩, h2⟩
  · cases hx2

theorem writer_form {call : CallT} {ρ : X → V} {ob : Heap} {id : Nat} {op : AOp} (hw : isWriter op = true) {v : V} {ups : List (Nat × Obj)} (h : opEval call ρ ob id op = some (v, ups)) :
    ∀ p ∈ ups, UpOK ob id ((tgtX op).flatMap fun x => refsV (ρ x)) p := by
  have hnew : ∀ x : Obj, UpOK ob id ((tgtX op).flatMap fun x => refsV (ρ x)) (id, x) := fun x => .inl ⟨Nat.le_refl _, by simp [bound]⟩
  cases hm : isMaker op with
  | true =>
    obtain ⟨x, rfl⟩ := maker_ups hm h
    intro p hp
    rw [List.mem_singleton.1 hp]
    exact hnew x
  | false =>
    cases op with
    | bslice esz n z parts =>
      simp only [opEval] at h
      obtain ⟨l, hl, h⟩ := Option.map_eq_some_iff.1 h
      cases h
      intro p hp
      rcases List.mem_append.1 hp with hp | hp
      · exact .inr (.inl (bslice_form hl p hp).2)
      · rw [List.mem_singleton.1 hp]; exact hnew _
    | store n a x =>
      simp only [opEval] at h
      split at h
      · rename_i o ver i j ha
        have ht : o ∈ (tgtX (.store n a x)).flatMap fun x => refsV (ρ x) := by simp [tgtX, ha, refsV]
        split at h
        · obtain ⟨cs, _, h⟩ := Option.bind_eq_some_iff.1 h
          split at h
          · cases h
            intro p hp
            rw [List.mem_singleton.1 hp]
            exact .inr (.inr ht)
          · cases h
        · obtain ⟨cs, hcs, h⟩ := Option.bind_eq_some_iff.1 h
          split at h
          · obtain ⟨e, _, h⟩ := Option.bind_eq_some_iff.1 h
            obtain ⟨r, hr, h⟩ := Option.bind_eq_some_iff.1 h
            split at h
            · cases h
            · cases h
              intro p hp
              rcases List.mem_append.1 hp with hp | hp
              · exact .inr (.inl (rowCells_form hr p hp).2)
              · rw [List.mem_singleton.1 hp]; exact .inr (.inr ht)
          · cases h
        · cases h
      · cases h
    | append esz bytes s x =>
      simp only [opEval] at h
      obtain ⟨new, _, h⟩ := Option.bind_eq_some_iff.1 h
      split at h
      · cases h
      · split at h
        · split at h
          · split at h
            · cases h; intro p hp; cases hp
            · cases h; intro p hp; rw [List.mem_singleton.1 hp]; exact hnew _
          · cases h
        · rename_i o ver hs
          have ht : o ∈ (tgtX (.append esz bytes s x)).flatMap fun x => refsV (ρ x) := by simp [tgtX, hs, refsV]
          split at h
          · split at h
            · cases h; intro p hp; rw [List.mem_singleton.1 hp]; exact .inr (.inr ht)
            · cases h
          · cases h
        · cases h
    | copy esz d s =>
      simp only [opEval] at h
      obtain ⟨src, _, h⟩ := Option.bind_eq_some_iff.1 h
      split at h
      · cases h
      · split at h
        · rename_i o ver hs
          have ht : o ∈ (tgtX (.copy esz d s)).flatMap fun x => refsV (ρ x) := by simp [tgtX, hs, refsV]
          split at h
          · split at h
            · cases h; intro p hp; rw [List.mem_singleton.1 hp]; exact .inr (.inr ht)
            · cases h
          · cases h
        · cases h
    | call m f args =>
      cases m with
      | pure =>
        simp only [opEval] at h
        intro p hp
        exact .inr (.inl (doCall_form h p hp).2)
      | byref => simp [isWriter] at hw
    | callv m f args =>
      cases m with
      | pure =>
        simp only [opEval] at h
        split at h
        · intro p hp; exact .inr (.inl (doCall_form h p hp).2)
        · intro p hp; exact .inr (.inl (doCall_form h p hp).2)
        · cases h
      | byref => simp [isWriter] at hw
    | _ => simp [isWriter, isMaker] at hw hm

theorem shape_form {call : CallT} {ρ : X → V} {ob : Heap} {id : Nat} {op : AOp} (hw : keepsShape op = true) {v : V} {ups : List (Nat × Obj)} (h : opEval call ρ ob id op = some (v, ups)) :
    ∀ p ∈ ups, ShapeO (ob p.1) (some p.2) := by
  have hfr : ∀ {p : Nat × Obj}, (∃ v f s e, ob p.1 = some (.row v f s e) ∧ p.2 = .row v true s e) → ShapeO (ob p.1) (some p.2) := fun ⟨v, f, s, e, h1, h2⟩ => by rw [h1, h2]; simp [ShapeO]
  cases op with
  | store n a x =>
    simp only [opEval] at h
    split at h
    · rename_i o ver i j ha
      split at h
      · rename_i cells hob
        obtain ⟨cs, _, h⟩ := Option.bind_eq_some_iff.1 h
        split at h
        · cases h
          intro p hp
          rw [List.mem_singleton.1 hp, hob]
          trivial
        · cases h
      · rename_i v' esz elems hob
        obtain ⟨cs, hcs, h⟩ := Option.bind_eq_some_iff.1 h
        split at h
        · obtain ⟨e, _, h⟩ := Option.bind_eq_some_iff.1 h
          obtain ⟨r, hr, h⟩ := Option.bind_eq_some_iff.1 h
          split at h
          · cases h
          · cases h
            intro p hp
            rcases List.mem_append.1 hp with hp | hp
            · exact hfr (rowCells_form hr p hp).2
            · rw [List.mem_singleton.1 hp, hob]; simp [ShapeO]
        · cases h
      · cases h
    · cases h
  | copy esz d s =>
    simp only [opEval] at h
    obtain ⟨src, _, h⟩ := Option.bind_eq_some_iff.1 h
    split at h
    · cases h
    · split at h
      · rename_i o ver hs
        split at h
        · rename_i v' sz e hob
          split at h
          · cases h
            intro p hp
            rw [List.mem_singleton.1 hp, hob]
            simp [ShapeO]
            omega
          · cases h
        · cases h
      · cases h
  | _ => simp [keepsShape] at hw

theorem ShapeO.refl (x : Option Obj) : ShapeO x x := (SoftO.refl x).shape

theorem updAll_shape {ob0 : Heap} : ∀ (ups : List (Nat × Obj)) (ob : Heap), (∀ p ∈ ups, ShapeO (ob0 p.1) (some p.2)) → (∀ o, ShapeO (ob0 o) (ob o)) → ∀ o, ShapeO (ob0 o) (updAll ob ups o)
  | [], ob, _, h, o => h o
  | (k, x) :: r, ob, hp, h, o => by
    simp only [updAll]
    refine updAll_shape r _ (fun p hp' => hp p (by simp [hp'])) (fun o' => ?_) o
    by_cases e : o' = k
    · subst e; rw [upd_eq]; exact hp (o', x) (by simp)
    · rw [upd_ne _ _ e]; exact h o'

theorem updAll_soft {ob0 : Heap} {id : Nat} {tgt : List Nat} {o : Nat} (h1 : ¬ (id ≤ o ∧ o < id + bound)) (h2 : o ∉ tgt) : ∀ (ups : List (Nat × Obj)) (ob : Heap), (∀ p ∈ ups, UpOK ob0 id tgt p) → SoftO (ob0 o) (ob o) → SoftO (ob0 o) (updAll ob ups o)
  | [], ob, _, h => h
  | (k, x) :: r, ob, hp, h => by
    simp only [updAll]
    refine updAll_soft h1 h2 r _ (fun p hp' => hp p (by simp [hp'])) ?_
    by_cases e : o = k
    · subst e
      rw [upd_eq]
      rcases hp (o, x) (by simp) with h3 | ⟨v, f, s, e, h3, h4⟩ | h3
      · exact absurd h3 h1
      · simp only at h3 h4
        rw [h3, h4]; simp [SoftO]
      · exact absurd h3 h2
    · rw [upd_ne _ _ e]; exact h
end Go.Proofs.Am
set_option linter.unusedVariables false
set_option linter.unusedSimpArgs false
namespace Go.Proofs.Am
open Go

section
variable {U : Nat → Prop} {ob ob' : Heap}

/-- two heaps that are one on some objects, which lead nowhere else -/
structure Agree (U : Nat → Prop) (ob ob' : Heap) : Prop where
  eq : ∀ o, U o → ob' o = ob o
  clo : ∀ o, U o → ∀ o' ∈ refsO (ob o), U o'

theorem Agree.view (A : Agree U ob ob') : ∀ (n : Nat) (x : V), (∀ o ∈ refsV x, U o) → view ob' n x = view ob n x := by
  intro n
  induction n with
  | zero => intro x _; rfl
  | succ n ih =>
    intro x hx
    have hl : ∀ cs : List V, (∀ o ∈ refsL cs, U o) → mapO (Am.view ob' n) cs = mapO (Am.view ob n) cs := fun cs hcs => mapO_congr fun c hc => ih c fun o ho => hcs o (refsL_mem hc o ho)
    cases x with
    | d x => rfl
    | nsl => rfl
    | tup vs => rfl
    | undef => rfl
    | dead => rfl
    | own o ver => simp only [Am.view, A.eq o (hx o (by simp [refsV]))]
    | osl o ver a b => simp only [Am.view, A.eq o (hx o (by simp [refsV]))]
    | ref o ver i j =>
      have hU := hx o (by simp [refsV])
      simp only [Am.view, A.eq o hU]
      split
      · rename_i cells hob
        rw [hl cells fun o' ho' => A.clo o hU o' (by rw [hob]; exact ho')]
      · rfl
    | agg cs => simp only [Am.view]; rw [hl cs (by simpa only [refsV] using hx)]
    | fn f cs => simp only [Am.view]; rw [hl cs (by simpa only [refsV] using hx)]

theorem Agree.pureV (A : Agree U ob ob') {x : V} (hx : ∀ o ∈ refsV x, U o) : pureV ob' x = pureV ob x := by
  cases x with
  | tup vs =>
    simp only [Am.pureV]
    rw [mapO_congr fun c hc => by rw [A.view deep c fun o ho => hx o (by simp only [refsV]; exact refsL_mem hc o ho)]]
  | _ => simp only [Am.pureV]; rw [A.view deep _ hx]

theorem Agree.freezes (A : Agree U ob ob') : ∀ {l : List Nat}, (∀ o ∈ l, U o) → Am.freezes ob' l = Am.freezes ob l
  | [], _ => rfl
  | o :: r, h => by
    simp only [Am.freezes, A.eq o (h o (by simp))]
    rw [Agree.freezes A fun o ho => h o (by simp [ho])]

theorem Agree.rowCells (A : Agree U ob ob') {vs : List V} (h : ∀ o ∈ refsL vs, U o) : Am.rowCells ob' vs = Am.rowCells ob vs := by
  simp only [Am.rowCells]
  rw [A.freezes h, mapO_congr fun c hc => A.view deep c fun o ho => h o (refsL_mem hc o ho)]

theorem Agree.reach (A : Agree U ob ob') : ∀ (n : Nat) (seen todo : List Nat), (∀ o ∈ todo, U o) → Am.reach ob' n seen todo = Am.reach ob n seen todo
  | 0, _, _, _ => rfl
  | n + 1, seen, [], _ => rfl
  | n + 1, seen, o :: todo, h => by
    have hU := h o (by simp)
    simp only [Am.reach, A.eq o hU]
    split
    · exact Agree.reach A n _ _ fun o ho => h o (by simp [ho])
    · refine Agree.reach A n _ _ fun o' ho' => ?_
      rcases List.mem_append.1 ho' with h1 | h1
      · exact A.clo o hU o' h1
      · exact h o' (by simp [h1])

theorem reach_in (hclo : ∀ o, U o → ∀ o' ∈ refsO (ob o), U o') : ∀ (n : Nat) (seen todo : List Nat), (∀ o ∈ seen, U o) → (∀ o ∈ todo, U o) → ∀ o ∈ Am.reach ob n seen todo, U o
  | 0, seen, todo, h, _, o, ho => h o (by simpa [Am.reach] using ho)
  | n + 1, seen, [], h, _, o, ho => h o (by simpa [Am.reach] using ho)
  | n + 1, seen, a :: todo, h, h2, o, ho => by
    simp only [Am.reach] at ho
    split at ho
    · exact reach_in hclo n _ _ h (fun o ho => h2 o (by simp [ho])) o ho
    · refine reach_in hclo n _ _ (fun o' ho' => ?_) (fun o' ho' => ?_) o ho
      · rcases List.mem_append.1 ho' with h1 | h1
        · exact h o' h1
        · rw [List.mem_singleton.1 h1]; exact h2 a (by simp)
      · rcases List.mem_append.1 ho' with h1 | h1
        · exact hclo a (h2 a (by simp)) o' h1
        · exact h2 o' (by simp [h1])

theorem Agree.closed (A : Agree U ob ob') {ids roots : List Nat} (h : ∀ o ∈ ids, U o) : Am.closed ob' ids roots = Am.closed ob ids roots := by
  simp only [Am.closed]
  congr 1
  rw [Bool.eq_iff_iff, List.all_eq_true, List.all_eq_true]
  exact ⟨fun k o ho => by rw [← A.eq o (h o ho)]; exact k o ho, fun k o ho => by rw [A.eq o (h o ho)]; exact k o ho⟩

theorem Agree.elemsOf (A : Agree U ob ob') {x : V} (h : ∀ o ∈ refsV x, U o) : Am.elemsOf ob' x = Am.elemsOf ob x := by
  cases x with
  | own o ver => simp only [Am.elemsOf, A.eq o (h o (by simp [refsV]))]
  | osl o ver a b => simp only [Am.elemsOf, A.eq o (h o (by simp [refsV]))]
  | d x => cases x <;> rfl
  | _ => rfl

theorem Agree.doCall (A : Agree U ob ob') {call : CallT} {id : Nat} {m : Mode} {f : Nat} {args : List V} (h : ∀ o ∈ refsL args, U o) : Am.doCall call ob' id m f args = Am.doCall call ob id m f args := by
  have hreach := A.reach 100 [] (refsL args) h
  have hin := reach_in A.clo 100 [] (refsL args) (by simp) h
  cases m with
  | pure =>
    simp only [Am.doCall]
    rw [mapO_congr fun c hc => A.pureV fun o ho => h o (refsL_mem hc o ho), hreach, A.freezes hin]
  | byref =>
    simp only [Am.doCall]
    rw [hreach, A.closed hin, mapO_congr fun o ho => A.eq o (hin o ho)]

theorem Agree.opEval (A : Agree U ob ob') {call : CallT} {ρ : X → V} {id : Nat} {op : AOp} (h : ∀ x ∈ xsOf op, ∀ o ∈ refsV (ρ x), U o) : Am.opEval call ρ ob' id op = Am.opEval call ρ ob id op := by
  have hargs : ∀ args : List X, (∀ x ∈ args, ∀ o ∈ refsV (ρ x), U o) → ∀ o ∈ refsL (args.map ρ), U o := fun args ha o ho => by
    obtain ⟨x, hx, hxo⟩ := refsL_of ho
    obtain ⟨y, hy, rfl⟩ := List.mem_map.1 hx
    exact ha y hy o hxo
  cases hr : isRead op with
  | true => exact read_eval hr fun x hx o ho => by rw [A.eq o (h x hx o ho)]; exact SoftO.refl _
  | false =>
    cases op with
    | bslice e n z parts =>
      simp only [Am.opEval]
      rw [mapO_congr (g := fun (p : Nat × X) => (cellsOf (ρ p.2)).bind fun cs => if p.1 < n ∧ cs.length = e then (Am.rowCells ob cs).map fun r => (p.1, r) else none) fun p hp => ?_]
      cases hcs : cellsOf (ρ p.2) with
      | none => rfl
      | some cs =>
        simp only [Option.bind_some]
        rw [A.rowCells fun o ho => h p.2 (by simp only [xsOf, List.mem_map]; exact ⟨p, hp, rfl⟩) o (refs_cells hcs ▸ ho)]
    | store n a x =>
      have h1 := h a (by simp [xsOf])
      have h2 := h x (by simp [xsOf])
      simp only [Am.opEval]
      split
      · rename_i o ver i j ha
        rw [ha] at h1
        rw [A.eq o (h1 o (by simp [refsV]))]
        split
        · rfl
        · cases hcs : cellsOf (ρ x) with
          | none => rfl
          | some cs =>
            simp only [Option.bind_some]
            rw [A.rowCells fun o ho => h2 o (refs_cells hcs ▸ ho)]
        · rfl
      · rfl
    | append e b s x =>
      have h1 := h s (by simp [xsOf])
      have h2 := h x (by simp [xsOf])
      simp only [Am.opEval, A.elemsOf h2]
      cases Am.elemsOf ob (ρ x) with
      | none => rfl
      | some new =>
        simp only [Option.bind_some]
        split
        · rfl
        · split
          · rfl
          · rename_i o ver hs
            rw [hs] at h1
            rw [A.eq o (h1 o (by simp [refsV]))]
          · rfl
    | copy e d s =>
      have h1 := h d (by simp [xsOf])
      have h2 := h s (by simp [xsOf])
      simp only [Am.opEval, A.elemsOf h2]
      cases Am.elemsOf ob (ρ s) with
      | none => rfl
      | some new =>
        simp only [Option.bind_some]
        split
        · rfl
        · split
          · rename_i o ver hs
            rw [hs] at h1
            rw [A.eq o (h1 o (by simp [refsV]))]
          · rfl
    | call m f args =>
      simp only [Am.opEval]
      exact A.doCall (hargs args h)
    | callv m f args =>
      have h1 := h f (by simp [xsOf])
      have h2 := hargs args fun x hx => h x (by simp [xsOf, hx])
      simp only [Am.opEval]
      split
      · rename_i g caps hf
        rw [hf] at h1
        refine A.doCall fun o ho => ?_
        rw [refsL_append] at ho
        rcases List.mem_append.1 ho with ho | ho
        · exact h2 o ho
        · exact h1 o (by simpa only [refsV] using ho)
      · refine A.doCall fun o ho => ?_
        rw [refsL_append, refsL_d, List.append_nil] at ho
        exact h2 o ho
      · rfl
    | load | nilchk | slice | fa | ia | iaa | len => simp [isRead, isShape] at hr
    | _ => rfl

/-- what is laid anew was known, or is new -/
theorem op_keys (hsome : ∀ o x, ob o = some x → U o) {call : CallT} {ρ : X → V} {id : Nat} {op : AOp} (hu : ∀ x ∈ xsOf op, ∀ o ∈ refsV (ρ x), U o) {v : V} {ups : List (Nat × Obj)} (h : Am.opEval call ρ ob id op = some (v, ups)) (hw : isWriter op = true) :
    ∀ p ∈ ups, U p.1 ∨ (id ≤ p.1 ∧ p.1 < id + bound) := by
  intro p hp
  rcases writer_form hw h p hp with h1 | ⟨w', f, s, e, h1, h2⟩ | h1
  · exact .inr h1
  · exact .inl (hsome _ _ h1)
  · obtain ⟨x, hx, hxo⟩ := List.mem_flatMap.1 h1
    refine .inl (hu x ?_ p.1 hxo)
    cases op <;> simp_all [tgtX, xsOf]
end
end Go.Proofs.Am
set_option linter.unusedVariables false
set_option linter.unusedSimpArgs false
namespace Go.Proofs.Am
open Go

/-- an operation's answer, be it guarded or not -/
def resA (call : CallT) (base k : Nat) (x : AOper) (s : St) : Option (V × List (Nat × Obj)) :=
  match x.guard with
  | none => opEval call s.val s.ob (base + k * bound) x.op
  | some (g, want) => match s.sl g with
    | .d (.bool b) => if b = want then opEval call s.val s.ob (base + k * bound) x.op else some (.undef, [])
    | .undef => some (.undef, [])
    | _ => none

theorem opStep_res (call : CallT) (base k : Nat) (x : AOper) (s : St) : opStep call base k x s = (resA call base k x s).map fun p => { s with ob := updAll s.ob p.2 }.put x.dst p.1 := by
  cases hg : x.guard with
  | none => simp only [opStep, resA, hg]
  | some p =>
    obtain ⟨g, want⟩ := p
    simp only [opStep, resA, hg]
    generalize s.sl g = v
    cases v with
    | d d => cases d with
      | bool b =>
        by_cases h : b = want
        · simp only [h, if_true]
        · simp only [h, if_false]; rfl
      | _ => rfl
    | undef => rfl
    | _ => rfl

theorem resA_or {call : CallT} {base k : Nat} {x : AOper} {s : St} {v : V} {u : List (Nat × Obj)} (h : resA call base k x s = some (v, u)) : u = [] ∨ opEval call s.val s.ob (base + k * bound) x.op = some (v, u) := by
  simp only [resA] at h
  split at h
  · exact .inr h
  · split at h
    · split at h
      · exact .inr h
      · cases h; exact .inl rfl
    · cases h; exact .inl rfl
    · cases h

theorem val_agree {s s' : St} {x : AOper} (h : ∀ t ∈ readsA x, s'.sl t = s.sl t) : ∀ X ∈ xsOf x.op, s'.val X = s.val X := fun X hX => by
  cases X with
  | t n => exact h n (by simp only [readsA, List.mem_append, List.mem_filterMap]; exact .inl ⟨.t n, hX, rfl⟩)
  | c v => rfl

theorem resA_congr {call : CallT} {base k : Nat} {x : AOper} {s s' : St} (h : ∀ t ∈ readsA x, s'.sl t = s.sl t) (he : opEval call s.val s'.ob (base + k * bound) x.op = opEval call s.val s.ob (base + k * bound) x.op) : resA call base k x s' = resA call base k x s := by
  have h1 : opEval call s'.val s'.ob (base + k * bound) x.op = opEval call s.val s.ob (base + k * bound) x.op := (opEval_congr (val_agree h)).trans he
  simp only [resA]
  cases hg : x.guard with
  | none => exact h1
  | some p =>
    obtain ⟨g, want⟩ := p
    have h2 : s'.sl g = s.sl g := h g (by simp [readsA, hg])
    simp only [h2, h1]

/-- what holds where a region's operation is about to run -/
structure Inv (U : Nat → Prop) (s : St) : Prop where
  some' : ∀ o x, s.ob o = some x → U o
  clo : ∀ o, U o → ∀ o' ∈ refsO (s.ob o), U o'
  sl : ∀ t, ∀ o ∈ refsV (s.sl t), U o

theorem Inv.val {U : Nat → Prop} {s : St} (I : Inv U s) {x : AOper} (hc : (xsOf x.op).all constOK = true) : ∀ X ∈ xsOf x.op, ∀ o ∈ refsV (s.val X), U o := fun X hX o ho => by
  cases X with
  | t n => exact I.sl n o ho
  | c v =>
    have := List.all_eq_true.1 hc _ hX
    simp only [constOK, List.isEmpty_iff] at this
    simp only [St.val] at ho
    rw [this] at ho
    cases ho

/-- may these two change places? -/
def Cls (ρ : X → V) (x y : AOp) : Prop := statOK x y = true ∨ disjA ρ x y = true ∨ disjA ρ y x = true

theorem disj_spec {ρ : X → V} {x y : AOp} (h : disjA ρ x y = true) : isRead x = true ∧ isWriter y = true ∧ ∀ a ∈ xsOf x, ∀ o ∈ refsV (ρ a), o ∉ (tgtX y).flatMap fun b => refsV (ρ b) := by
  simp only [disjA, Bool.and_eq_true, List.all_eq_true] at h
  refine ⟨h.1.1, h.1.2, fun a ha o ho hm => ?_⟩
  obtain ⟨b, hb, hbo⟩ := List.mem_flatMap.1 hm
  have := h.2 a ha o ho b hb
  simp [hbo] at this

section
variable {call : CallT} {U : Nat → Prop} {s : St} {idx idy : Nat} {x y : AOper}

theorem updAll_upd {ob : Heap} {k : Nat} {z : Option Obj} : ∀ (u : List (Nat × Obj)) (ob : Heap), (∀ p ∈ u, p.1 ≠ k) → updAll (upd ob k z) u = upd (updAll ob u) k z
  | [], ob, _ => rfl
  | (j, w) :: r, ob, h => by
    simp only [updAll]
    rw [upd_comm ob z (some w) (fun e => h (j, w) (by simp) e.symm)]
    exact updAll_upd (ob := ob) r _ fun p hp => h p (by simp [hp])

/-- the second answers behind the first what it answers without it -/
theorem ins (I : Inv U s) (hcy : (xsOf y.op).all constOK = true) (hfx : ∀ j, j < bound → ¬ U (idx + j)) {vx : V} {ux : List (Nat × Obj)} (hx : ux = [] ∨ opEval call s.val s.ob idx x.op = some (vx, ux))
    (hc : Cls s.val x.op y.op) : opEval call s.val (updAll s.ob ux) idy y.op = opEval call s.val s.ob idy y.op := by
  rcases hx with rfl | hx
  · rfl
  have hread : isRead x.op = true → opEval call s.val (updAll s.ob ux) idy y.op = opEval call s.val s.ob idy y.op := fun hr => by rw [read_ups hr hx]; rfl
  have hnew : ∀ X ∈ xsOf y.op, ∀ o ∈ refsV (s.val X), ¬ (idx ≤ o ∧ o < idx + bound) := fun X hX o ho hh => by
    refine hfx (o - idx) (by omega) ?_
    rw [show idx + (o - idx) = o by omega]
    exact I.val hcy X hX o ho
  have hrw : isRead y.op = true → isWriter x.op = true → (∀ X ∈ xsOf y.op, ∀ o ∈ refsV (s.val X), o ∉ (tgtX x.op).flatMap fun b => refsV (s.val b)) → opEval call s.val (updAll s.ob ux) idy y.op = opEval call s.val s.ob idy y.op := fun hr hw hd =>
    read_eval hr fun X hX o ho => updAll_soft (hnew X hX o ho) (hd X hX o ho) ux _ (writer_form hw hx) (SoftO.refl _)
  rcases hc with h | h | h
  · simp only [statOK, Bool.or_eq_true, Bool.and_eq_true, readWrite] at h
    rcases h with (((((h | h) | h) | h) | h) | h) | h
    · rw [free_ups h hx]; rfl
    · exact free_eval h
    · exact hread h.1
    · exact hread h.1.1
    · rcases h.2 with h2 | h2
      · exact hrw h.1.1 h.1.2 fun X hX o ho => by simp [List.isEmpty_iff.1 h2]
      · exact shape_eval h2.1 fun X hX o ho => updAll_shape ux _ (shape_form h2.2 hx) (fun o => ShapeO.refl _) o
    · obtain ⟨z, rfl⟩ := maker_ups h.1 hx
      have A : Agree U s.ob (updAll s.ob [(idx, z)]) := ⟨fun o ho => upd_ne _ _ fun e => hfx 0 (by simp [bound]) (e ▸ ho), I.clo⟩
      exact A.opEval (I.val hcy)
    · exact maker_eval h.1
  · exact hread (disj_spec h).1
  · obtain ⟨h1, h2, h3⟩ := disj_spec h
    exact hrw h1 h2 h3

theorem Cls.symm {ρ : X → V} {x y : AOp} (h : Cls ρ x y) : Cls ρ y x := by
  rcases h with h | h | h
  · left
    simp only [statOK, Bool.or_eq_true, Bool.and_eq_true] at h ⊢
    rcases h with (((((h | h) | h) | h) | h) | h) | h
    · exact .inl (.inl (.inl (.inl (.inl (.inr h)))))
    · exact .inl (.inl (.inl (.inl (.inl (.inl h)))))
    · exact .inl (.inl (.inl (.inl (.inr ⟨h.2, h.1⟩))))
    · exact .inl (.inl (.inr h))
    · exact .inl (.inl (.inl (.inr h)))
    · exact .inr h
    · exact .inl (.inr h)
  · exact .inr (.inr h)
  · exact .inr (.inl h)

theorem upds_comm (I : Inv U s) (hcx : (xsOf x.op).all constOK = true) (hcy : (xsOf y.op).all constOK = true) (hfx : ∀ j, j < bound → ¬ U (idx + j)) (hfy : ∀ j, j < bound → ¬ U (idy + j)) (hap : idx + bound ≤ idy ∨ idy + bound ≤ idx)
    {vx vy : V} {ux uy : List (Nat × Obj)} (hx : ux = [] ∨ opEval call s.val s.ob idx x.op = some (vx, ux)) (hy : uy = [] ∨ opEval call s.val s.ob idy y.op = some (vy, uy)) (hc : Cls s.val x.op y.op) :
    updAll (updAll s.ob ux) uy = updAll (updAll s.ob uy) ux := by
  have e1 : ux = [] → updAll (updAll s.ob ux) uy = updAll (updAll s.ob uy) ux := fun h => by subst h; rfl
  have e2 : uy = [] → updAll (updAll s.ob ux) uy = updAll (updAll s.ob uy) ux := fun h => by subst h; rfl
  rcases hx with hx | hx
  · exact e1 hx
  rcases hy with hy | hy
  · exact e2 hy
  rcases hc with h | h | h
  · simp only [statOK, Bool.or_eq_true, Bool.and_eq_true, readWrite] at h
    rcases h with (((((h | h) | h) | h) | h) | h) | h
    · exact e1 (free_ups h hx)
    · exact e2 (free_ups h hy)
    · exact e1 (read_ups h.1 hx)
    · exact e1 (read_ups h.1.1 hx)
    · exact e2 (read_ups h.1.1 hy)
    · obtain ⟨z, rfl⟩ := maker_ups h.1 hx
      simp only [updAll]
      refine updAll_upd (ob := s.ob) uy _ fun p hp e => ?_
      rcases op_keys I.some' (I.val hcy) hy h.2 p hp with h1 | h1
      · exact hfx 0 (by simp [bound]) (by rw [Nat.add_zero, ← e]; exact h1)
      · have : 0 < bound := by simp [bound]
        omega
    · obtain ⟨z, rfl⟩ := maker_ups h.1 hy
      simp only [updAll]
      refine (updAll_upd (ob := s.ob) ux _ fun p hp e => ?_).symm
      rcases op_keys I.some' (I.val hcx) hx h.2 p hp with h1 | h1
      · exact hfy 0 (by simp [bound]) (by rw [Nat.add_zero, ← e]; exact h1)
      · have : 0 < bound := by simp [bound]
        omega
  · exact e1 (read_ups (disj_spec h).1 hx)
  · exact e2 (read_ups (disj_spec h).1 hy)
end

theorem apart_spec {x y : AOper} (h : apartA x y = true) : (∀ d, x.dst = some d → d ∉ readsA y ∧ y.dst ≠ some d) ∧ ∀ d, y.dst = some d → d ∉ readsA x := by
  simp only [apartA, Bool.and_eq_true] at h
  refine ⟨fun d hd => ?_, fun d hd => ?_⟩
  · have := h.1
    simp [hd] at this
    exact this
  · have := h.2
    simp [hd] at this
    exact this

theorem put_sl {s : St} {dst : Option Nat} {v : V} {t : Nat} (h : ∀ d, dst = some d → t ≠ d) : (s.put dst v).sl t = s.sl t := by
  cases dst with
  | none => rfl
  | some d => exact upd_ne _ _ (h d rfl)

theorem put_put {s : St} {dx dy : Option Nat} {vx vy : V} {ob1 ob2 : Heap} (h : ∀ d, dx = some d → dy ≠ some d) :
    ({ ({ s with ob := ob1 }.put dx vx) with ob := ob2 }.put dy vy) = ({ ({ s with ob := ob1 }.put dy vy) with ob := ob2 }.put dx vx) := by
  cases dx with
  | none => cases dy <;> rfl
  | some d => cases dy with
    | none => rfl
    | some e =>
      simp only [St.put]
      rw [upd_comm _ _ _ fun e' => h d rfl (by rw [e'])]

theorem swap {call : CallT} {U : Nat → Prop} {s sx sxy : St} {base kx ky : Nat} {x y : AOper} (I : Inv U s) (hcx : (xsOf x.op).all constOK = true) (hcy : (xsOf y.op).all constOK = true)
    (hfx : ∀ j, j < bound → ¬ U (base + kx * bound + j)) (hfy : ∀ j, j < bound → ¬ U (base + ky * bound + j)) (hne : kx ≠ ky) (hap : apartA x y = true) (hc : Cls s.val x.op y.op)
    (h1 : opStep call base kx x s = some sx) (h2 : opStep call base ky y sx = some sxy) : ∃ sy, opStep call base ky y s = some sy ∧ opStep call base kx x sy = some sxy := by
  rw [opStep_res] at h1 h2
  obtain ⟨⟨vx, ux⟩, hx, rfl⟩ := Option.map_eq_some_iff.1 h1
  obtain ⟨⟨vy, uy⟩, hy, rfl⟩ := Option.map_eq_some_iff.1 h2
  obtain ⟨ap1, ap2⟩ := apart_spec hap
  have hob : ∀ (s : St) d v, (s.put d v).ob = s.ob := fun s d v => by cases d <;> rfl
  have hy' : resA call base ky y s = some (vy, uy) := by
    rw [← hy]
    refine (resA_congr (fun t ht => ?_) ?_).symm
    · exact put_sl fun d hd e => (ap1 d hd).1 (e ▸ ht)
    · rw [hob]; exact ins I hcy hfx (resA_or hx) hc
  refine ⟨_, by rw [opStep_res, hy']; rfl, ?_⟩
  have hx' : resA call base kx x ({ s with ob := updAll s.ob uy }.put y.dst vy) = some (vx, ux) := by
    rw [← hx]
    refine resA_congr (fun t ht => ?_) ?_
    · exact put_sl fun d hd e => ap2 d hd (e ▸ ht)
    · rw [hob]; exact ins I hcx hfy (resA_or hy') hc.symm
  rw [opStep_res, hx']
  have hcomm := upds_comm I hcx hcy hfx hfy (by simp only [bound]; omega) (resA_or hx) (resA_or hy') hc
  simp only [Option.map_some, Option.some.injEq, hob]
  rw [← hcomm]
  have := put_put (s := s) (vx := vx) (vy := vy) (ob1 := updAll s.ob ux) (ob2 := updAll (updAll s.ob ux) uy) (dx := x.dst) (dy := y.dst) fun d hd => (ap1 d hd).2
  have hre : ∀ (s : St) ob1 ob2 d v, ({ ({ s with ob := ob1 } : St).put d v with ob := ob2 } : St) = ({ s with ob := ob2 } : St).put d v := fun s ob1 ob2 d v => by cases d <;> rfl
  rw [hre] at this ⊢
  rw [hre] at this ⊢
  exact this.symm
end Go.Proofs.Am
set_option linter.unusedVariables false
set_option linter.unusedSimpArgs false
namespace Go.Proofs.Am
open Go

theorem wpOp_exists {P : Program} {os : Array Oper} {i : Nat} {K : Act → World → Prop} {a : Act} {w : World} (h : wpOp P os (fun _ _ _ => False) i K a w) : ∃ a' w', K a' w' := by
  have hlet : ¬ LetsOut (fun _ _ _ => False) := fun ⟨_, _, h⟩ => h
  unfold wpOp at h
  split at h
  · exact ⟨a, w, h⟩
  · split at h
    · have h := h.resolve_right fun h => hlet h.2
      unfold Oper.wp at h
      generalize (execOp a.eval _).run P w = r at h
      cases r with
      | ok nx w' =>
        cases nx <;> simp only [Oper.upon] at h <;> first
          | exact ⟨_, _, h⟩
          | exact h.elim
          | skip
        · obtain ⟨e, w'', fr, hR, _⟩ := h []
          cases e with
          | returned v => exact ⟨_, _, hR⟩
          | panicked c => exact hR.elim
          | outgrown => exact absurd hR hlet
        · obtain ⟨v, w'', hR, _⟩ := h default []
          exact ⟨_, _, hR⟩
      | halt x w' => cases x <;> simp only [Oper.upon] at h
    · exact ⟨_, _, h⟩

section
variable {P : Program} {n : Nat} {B : Nat → Prop} {w0 : World} {M : Nat → Prop} {call : CallT} {os : Array Oper} {base : Nat}

theorem Now.inv {U : Nat → Prop} {a : Act} {w : World} {μ : Nat → Value} {s : St} (H : Now n B w0 M U a w μ s) : Inv U s where
  some' := fun o x h => (H.rel.used o x h).1
  clo := fun o ho o' ho' => by
    cases h : s.ob o with
    | none => rw [h] at ho'; simp [refsO] at ho'
    | some x => rw [h] at ho'; exact (H.rel.used o x h).2 o' ho'
  sl := fun t => (H.sl t).2

theorem Comp.const {k : Nat} {ao : AOper} (h : Comp P n os k ao) : (xsOf ao.op).all constOK = true := by
  obtain ⟨o, hs1, hs2, _, h⟩ := h
  unfold compOper at h
  split at h
  · cases h
  · obtain ⟨r, _, h⟩ := Option.bind_eq_some_iff.1 h
    split at h
    · cases h
    · rename_i hc
      have hc : (xsOf r.1).all constOK = true := by simpa using hc
      split at h
      · simp only [Option.some.injEq, Prod.mk.injEq] at h
        rw [← h.1]; exact hc
      · obtain ⟨t, _, h⟩ := Option.map_eq_some_iff.1 h
        simp only [Prod.mk.injEq] at h
        rw [← h.1]; exact hc

/-- each operation leads, when its turn comes, where F says -/
def FootAt (call : CallT) (base : Nat) (F : Nat → List Nat × List Nat) : List (Nat × AOper) → St → Prop
  | [], _ => True
  | (k, o) :: r, s => fpA s.val o = F k ∧ ∀ s', opStep call base k o s = some s' → FootAt call base F r s'

theorem foots_at {F : Nat → List Nat × List Nat} : ∀ {l : List AOper} {k : Nat} {s : St} {t : List (List Nat × List Nat)}, foots call base (enum k l) s = some t → (∀ i, i < t.length → F (k + i) = t.getD i ([], [])) → FootAt call base F (enum k l) s
  | [], k, s, t, h, hF => trivial
  | x :: r, k, s, t, h, hF => by
    simp only [enum, foots, Option.bind_eq_some_iff, Option.map_eq_some_iff] at h
    obtain ⟨s', h1, t', h2, rfl⟩ := h
    refine ⟨by simpa using (hF 0 (by simp)).symm, fun s2 h3 => ?_⟩
    rw [h1] at h3
    cases h3
    exact foots_at h2 fun i hi => by
      have := hF (i + 1) (by simp; omega)
      rw [show k + 1 + i = k + (i + 1) by omega, this]
      simp [List.getD_eq_getElem?_getD]

theorem fp_congr {ρ ρ' : X → V} {x : AOper} (h : ∀ X ∈ xsOf x.op, ρ' X = ρ X) : fpA ρ' x = fpA ρ x := by
  have ht : ∀ X ∈ tgtX x.op, X ∈ xsOf x.op := fun X hX => by
    cases hx : x.op <;> simp_all [tgtX, xsOf]
  have h1 : (xsOf x.op).flatMap (fun a => refsV (ρ' a)) = (xsOf x.op).flatMap fun a => refsV (ρ a) := by
    rw [List.flatMap_def, List.flatMap_def, List.map_congr_left fun a ha => by rw [h a ha]]
  have h2 : (tgtX x.op).flatMap (fun a => refsV (ρ' a)) = (tgtX x.op).flatMap fun a => refsV (ρ a) := by
    rw [List.flatMap_def, List.flatMap_def, List.map_congr_left fun a ha => by rw [h a (ht a ha)]]
  simp only [fpA, h1, h2]

theorem clsF_cls {ρ : X → V} {x y : AOper} (h : clsF x.op y.op (fpA ρ x) (fpA ρ y) = true) : disjA ρ x.op y.op = true ∨ disjA ρ y.op x.op = true := by
  have go : ∀ x y : AOper, (isRead x.op && isWriter y.op && (fpA ρ x).1.all fun o => !(fpA ρ y).2.contains o) = true → disjA ρ x.op y.op = true := by
    intro x y h
    simp only [Bool.and_eq_true, List.all_eq_true, fpA] at h
    simp only [disjA, Bool.and_eq_true, List.all_eq_true]
    refine ⟨h.1, fun a ha o ho b hb => ?_⟩
    have := h.2 o (List.mem_flatMap.2 ⟨a, ha, ho⟩)
    simp only [Bool.not_eq_true', List.contains_eq_mem, decide_eq_false_iff_not, List.mem_flatMap, not_exists, not_and] at this ⊢
    exact this b hb
  simp only [clsF, Bool.or_eq_true] at h
  exact h.imp (go x y) (go y x)

theorem opStep_keep {k : Nat} {x : AOper} {s s' : St} {t : Nat} (h : opStep call base k x s = some s') (ht : ∀ d, x.dst = some d → t ≠ d) : s'.sl t = s.sl t := by
  rw [opStep_res] at h
  obtain ⟨p, _, rfl⟩ := Option.map_eq_some_iff.1 h
  exact put_sl ht
theorem ops_keep : ∀ {l : List (Nat × AOper)} {s s' : St} {t : Nat}, ops call base l s = some s' → (∀ p ∈ l, ∀ d, p.2.dst = some d → t ≠ d) → s'.sl t = s.sl t
  | [], s, s', t, h, _ => by simp only [ops, Option.some.injEq] at h; rw [h]
  | (k, x) :: r, s, s', t, h, ht => by
    simp only [ops, Option.bind_eq_some_iff] at h
    obtain ⟨s1, h1, h⟩ := h
    rw [ops_keep h fun p hp => ht p (by simp [hp]), opStep_keep h1 (ht (k, x) (by simp))]

/-- THE MOVE TO THE FRONT -/
theorem bubble (hok : CallOK P call) {F : Nat → List Nat × List Nat} {i : Nat} {ai : AOper} (hci : Comp P n os i ai) {s1 : St} {l2 : List (Nat × AOper)} (l1 : List (Nat × AOper)) : ∀ {U : Nat → Prop} {a : Act} {w : World} {μ : Nat → Value} {s : St},
    Now n B w0 M U a w μ s → (∀ p ∈ l1, Comp P n os p.1 p.2) → ((l1 ++ [(i, ai)]).map (·.1)).Nodup → (∀ p ∈ l1 ++ [(i, ai)], ∀ j, j < bound → ¬ U (base + p.1 * bound + j)) →
    (∀ p ∈ l1, apartA p.2 ai = true ∧ (statOK p.2.op ai.op = true ∨ clsF p.2.op ai.op (F p.1) (F i) = true)) → FootAt call base F (l1 ++ (i, ai) :: l2) s → ops call base (l1 ++ (i, ai) :: l2) s = some s1 →
    ∃ si, opStep call base i ai s = some si ∧ ops call base (l1 ++ l2) si = some s1 ∧ fpA s.val ai = F i ∧ FootAt call base F (l1 ++ l2) si := by
  induction l1 with
  | nil =>
    intro U a w μ s H _ _ _ _ hF h
    simp only [List.nil_append, ops, Option.bind_eq_some_iff] at h
    obtain ⟨si, h1, h2⟩ := h
    exact ⟨si, h1, h2, hF.1, hF.2 si h1⟩
  | cons p l1 ih =>
    intro U a w μ s H hc hn hf hcls hF h
    obtain ⟨k, ak⟩ := p
    simp only [List.cons_append, ops, Option.bind_eq_some_iff] at h
    obtain ⟨sp, hp, h⟩ := h
    simp only [List.cons_append, List.map_cons, List.nodup_cons] at hn
    -- where things stand behind it
    obtain ⟨a', w', μ', H'⟩ : ∃ a' w' μ', Now n B w0 M (NewU U (base + k * bound)) a' w' μ' sp :=
      wpOp_exists (opStep_wp hok H (hf (k, ak) (by simp)) (hc (k, ak) (by simp)) hp (K := fun a' w' => ∃ μ', Now n B w0 M (NewU U (base + k * bound)) a' w' μ' sp) fun a' w' μ' H' _ => ⟨μ', H'⟩)
    obtain ⟨spi, h2, h3, hfi, hF3⟩ := ih H' (fun p hp => hc p (by simp [hp])) hn.2 (fun p hp j hj hU => by
      rcases hU with hU | ⟨h4, h5⟩
      · exact hf p (by simp only [List.cons_append, List.mem_cons]; exact .inr hp) j hj hU
      · have hne : p.1 ≠ k := fun e => hn.1 (e ▸ List.mem_map.2 ⟨p, hp, rfl⟩)
        simp only [bound] at h4 h5 hj
        omega) (fun p hp => hcls p (by simp [hp])) (hF.2 sp hp) h
    obtain ⟨hap, hcl⟩ := hcls (k, ak) (by simp)
    obtain ⟨ap1, ap2⟩ := apart_spec hap
    have hfi' : fpA s.val ai = F i := by
      rw [← hfi]
      exact (fp_congr (val_agree (s := s) (s' := sp) fun t ht => opStep_keep hp fun d hd e => (ap1 d hd).1 (e ▸ ht))).symm
    have hcl' : Cls s.val ak.op ai.op := by
      rcases hcl with h | h
      · exact .inl h
      · rw [← hfi', ← hF.1] at h
        exact .inr (clsF_cls h)
    obtain ⟨si, h4, h5⟩ := swap H.inv (hc (k, ak) (by simp)).const hci.const (hf (k, ak) (by simp)) (hf (i, ai) (by simp)) (fun e => hn.1 (by have e : k = i := e; rw [e]; simp)) hap hcl' hp h2
    refine ⟨si, h4, by simp only [List.cons_append, ops, h5, Option.bind_some]; exact h3, hfi', ?_, fun s' hs' => ?_⟩
    · rw [← hF.1]
      exact fp_congr (val_agree (s := s) (s' := si) fun t ht => opStep_keep h4 fun d hd e => ap2 d hd (e ▸ ht))
    · rw [h5] at hs'
      cases hs'
      exact hF3

/-! ### What surely comes before -/
theorem closure_spec {L : Nat → Prop} (hL : ∀ k o, L k → os[k]? = some o → ∀ j ∈ direct o, L j) : ∀ (r : List Oper) (acc : List (List Nat)),
    (∀ q o, r[q]? = some o → os[acc.length + q]? = some o) → (∀ i o, i < acc.length → os[i]? = some o → (∀ j ∈ direct o, L j) → ∀ j ∈ acc.getD i [], L j) → (∀ i, i < acc.length → ∃ o, os[i]? = some o) →
    ∀ i o, os[i]? = some o → i < acc.length + r.length → (∀ j ∈ direct o, L j) → ∀ j ∈ (closure acc r).getD i [], L j
  | [], acc, _, h, _, i, o, ho, hi, hd, j, hj => h i o (by simpa using hi) ho hd j hj
  | x :: r, acc, hr, h, hsome, i, o, ho, hi, hd, j, hj => by
    simp only [closure] at hj
    refine closure_spec hL r (acc ++ [direct x ++ (direct x).flatMap fun j => acc.getD j []]) (fun q o hq => ?_) (fun i' o' hi' ho' hd' j' hj' => ?_) (fun i' hi' => ?_) i o ho (by simp at hi ⊢; omega) hd j hj
    · have := hr (q + 1) o (by simpa using hq)
      simp only [List.length_append, List.length_cons, List.length_nil]
      rwa [show acc.length + (0 + 1) + q = acc.length + (q + 1) by omega]
    · simp only [List.length_append, List.length_cons, List.length_nil] at hi'
      rw [List.getD_eq_getElem?_getD] at hj'
      by_cases hlt : i' < acc.length
      · rw [List.getElem?_append_left hlt, ← List.getD_eq_getElem?_getD] at hj'
        exact h i' o' hlt ho' hd' j' hj'
      · have hi2 : i' = acc.length := by omega
        subst hi2
        rw [List.getElem?_append_right (Nat.le_refl _)] at hj'
        simp only [Nat.sub_self, List.getElem?_cons_zero, Option.getD_some, List.mem_append, List.mem_flatMap] at hj'
        have hx : os[acc.length]? = some x := by simpa using hr 0 x rfl
        rw [hx] at ho'
        cases ho'
        rcases hj' with h1 | ⟨k, hk, h1⟩
        · exact hd' j' h1
        · by_cases hkl : k < acc.length
          · obtain ⟨ok, hok⟩ := hsome k hkl
            exact h k ok hkl hok (fun q hq => hL k ok (hd' k hk) hok q hq) j' h1
          · rw [List.getD_eq_getElem?_getD, List.getElem?_eq_none (by omega)] at h1
            cases h1
    · simp only [List.length_append, List.length_cons, List.length_nil] at hi'
      by_cases hlt : i' < acc.length
      · exact hsome i' hlt
      · have : i' = acc.length := by omega
        subst this
        exact ⟨x, by simpa using hr 0 x rfl⟩

theorem least {p : Nat → Prop} : ∀ {k : Nat}, p k → ∃ m, p m ∧ ∀ j, j < m → ¬ p j := by
  intro k
  induction k using Nat.strongRecOn with
  | _ k ih =>
    intro h
    by_cases hx : ∃ j, j < k ∧ p j
    · obtain ⟨j, h1, h2⟩ := hx
      exact ih j h1 h2
    · exact ⟨k, h, fun j hj hp => hx ⟨j, hj, hp⟩⟩

theorem binds_any {md : Region.Mode} {e : Edge} (h : Region.binds .any e = true) : Region.binds md e = true := by
  unfold Region.binds at *
  split <;> simp_all

/-- what a region's compiled form says of its operations, in any order -/
structure DrawOK (P : Program) (n : Nat) (os : Array Oper) (l : List AOper) (F : Nat → List Nat × List Nat) : Prop where
  comp : ∀ p ∈ enum 0 l, Comp P n os p.1 p.2
  len : l.length = os.size
  back : ∀ md : Region.Mode, ∃ rank : Nat → Nat, ∀ (i : Nat) (o : Oper), os[i]? = some o → ∀ e ∈ o.after, Region.binds md e = true → e.on < os.size ∧ rank e.on < rank i
  pair : ∀ (i j : Nat) (ai aj : AOper), j < i → l[i]? = some ai → l[j]? = some aj → j ∉ (closure [] os.toList).getD i [] → apartA aj ai = true ∧ (statOK aj.op ai.op = true ∨ clsF aj.op ai.op (F j) (F i) = true)

theorem enum_get : ∀ (l : List AOper) (k : Nat) (p : Nat × AOper), p ∈ enum k l ↔ k ≤ p.1 ∧ l[p.1 - k]? = some p.2
  | [], k, p => by simp [enum]
  | x :: r, k, p => by
    simp only [enum, List.mem_cons, enum_get r (k + 1) p]
    constructor
    · rintro (rfl | ⟨h1, h2⟩)
      · simp
      · refine ⟨by omega, ?_⟩
        obtain ⟨d, hd⟩ : ∃ d, p.1 - k = d + 1 := ⟨p.1 - k - 1, by omega⟩
        rw [hd]
        rw [show p.1 - (k + 1) = d by omega] at h2
        simpa using h2
    · rintro ⟨h1, h2⟩
      by_cases e : p.1 = k
      · left
        rw [e, Nat.sub_self] at h2
        simp at h2
        exact Prod.ext e h2.symm
      · right
        obtain ⟨d, hd⟩ : ∃ d, p.1 - k = d + 1 := ⟨p.1 - k - 1, by omega⟩
        rw [hd] at h2
        refine ⟨by omega, ?_⟩
        rw [show p.1 - (k + 1) = d by omega]
        simpa using h2

theorem enum_sorted : ∀ (l : List AOper) (k : Nat), (enum k l).Pairwise fun p q => p.1 < q.1
  | [], k => .nil
  | x :: r, k => by
    simp only [enum, List.pairwise_cons]
    refine ⟨fun p hp => ?_, enum_sorted r (k + 1)⟩
    have := ((enum_get r (k + 1) p).1 hp).1
    omega

theorem any_wp (hok : CallOK P call) {l : List AOper} {s1 : St} {F : Nat → List Nat × List Nat} (D : DrawOK P n os l F) (md : Region.Mode) {U0 : Nat → Prop} {ws : World} {μs : Nat → Value} {obs : Heap} {Q : Exit → Act → World → Prop}
    (hQ : ∀ a' w' μ' U', (∀ o, U' o → U0 o ∨ (base ≤ o ∧ o < base + l.length * bound)) → Now n B w0 M U' a' w' μ' s1 → Step B w0 M U0 U' ws w' μs μ' obs s1.ob → Q .normal a' w') :
    ∀ (fuel : Nat) (listed : Array Bool) (rem : List (Nat × AOper)) {U : Nat → Prop} {a : Act} {w : World} {μ : Nat → Value} {s : St}, Now n B w0 M U a w μ s → Step B w0 M U0 U ws w μs μ obs s.ob →
    (∀ o, U o → U0 o ∨ (base ≤ o ∧ o < base + l.length * bound)) → listed.size = os.size →
    rem.Sublist (enum 0 l) → (∀ k ak, l[k]? = some ak → ((k, ak) ∈ rem ↔ listed.getD k true = false)) → (∀ p ∈ rem, ∀ j, j < bound → ¬ U (base + p.1 * bound + j)) → rem.length ≤ fuel →
    (∀ k o, listed.getD k false = true → os[k]? = some o → ∀ j ∈ direct o, listed.getD j false = true) → FootAt call base F rem s → ops call base rem s = some s1 →
    wpAny P md os Q fuel listed a w := by
  have hk : ∀ k, k < os.size → ∃ ak, l[k]? = some ak := fun k hk => ⟨_, List.getElem?_eq_getElem (by rw [D.len]; exact hk)⟩
  have hnot : ∀ {listed : Array Bool} {k : Nat}, listed.size = os.size → k < os.size → (¬ listed.getD k true = false ↔ listed.getD k false = true) := fun {listed k} hs hk => by
    have : listed[k]? = some listed[k] := Array.getElem?_eq_getElem (by omega)
    simp [Array.getD_eq_getD_getElem?, this]
  intro fuel
  -- no operation is ready any more: none is left
  have done : ∀ (listed : Array Bool) (rem : List (Nat × AOper)), listed.size = os.size → rem.Sublist (enum 0 l) → (∀ k ak, l[k]? = some ak → ((k, ak) ∈ rem ↔ listed.getD k true = false)) → Region.ready md os listed = [] → rem = [] := by
    intro listed rem hs hsub hmem hready
    cases rem with
    | nil => rfl
    | cons p r =>
      exfalso
      have hp := (enum_get l 0 p).1 (hsub.subset (by simp))
      have hpl := (hmem p.1 p.2 (by simpa using hp.2)).1 (by simp)
      have hplt : p.1 < os.size := by rw [← D.len]; exact (List.getElem?_eq_some_iff.1 (by simpa using hp.2)).1
      obtain ⟨rank, hrank⟩ := D.back md
      obtain ⟨r, ⟨k, hk1, hk2, rfl⟩, hk3⟩ := least (p := fun r => ∃ k, k < os.size ∧ listed.getD k true = false ∧ rank k = r) (k := rank p.1) ⟨p.1, hplt, hpl, rfl⟩
      have : k ∈ Region.ready md os listed := by
        rw [mem_ready]
        refine ⟨hk2, os[k], Array.getElem?_eq_getElem hk1, fun e he hb => ?_⟩
        obtain ⟨hlt, hrk⟩ := hrank k os[k] (Array.getElem?_eq_getElem hk1) e he hb
        exact (hnot hs hlt).1 fun h => hk3 (rank e.on) hrk ⟨e.on, hlt, h, rfl⟩
      rw [hready] at this
      cases this
  induction fuel with
  | zero =>
    intro listed rem U a w μ s H S hU hs hsub hmem hfr hlen hclo hF h
    have hrem : rem = [] := List.length_eq_zero_iff.1 (Nat.le_zero.1 hlen)
    subst hrem
    simp only [ops, Option.some.injEq] at h
    subst h
    refine ⟨?_, hQ a w μ U hU H S⟩
    refine List.eq_nil_iff_forall_not_mem.2 fun i hi => ?_
    rw [mem_ready] at hi
    obtain ⟨hi1, o, ho, _⟩ := hi
    obtain ⟨ak, hak⟩ := hk i (Array.getElem?_eq_some_iff.1 ho).1
    have := (hmem i ak hak).2 hi1
    cases this
  | succ fuel ih =>
    intro listed rem U a w μ s H S hU hs hsub hmem hfr hlen hclo hF h
    refine ⟨fun hr => ?_, fun i hi => ?_⟩
    · have hrem := done listed rem hs hsub hmem hr
      subst hrem
      simp only [ops, Option.some.injEq] at h
      subst h
      exact hQ a w μ U hU H S
    · rw [mem_ready] at hi
      obtain ⟨hil, o, ho, hafter⟩ := hi
      have hilt : i < os.size := (Array.getElem?_eq_some_iff.1 ho).1
      obtain ⟨ai, hai⟩ := hk i hilt
      have him := (hmem i ai hai).2 hil
      obtain ⟨l1, l2, rfl⟩ := List.append_of_mem him
      have hsorted := (enum_sorted l 0).sublist hsub
      have hndup : ((l1 ++ (i, ai) :: l2).map (·.1)).Nodup := by
        rw [List.nodup_iff_pairwise_ne, List.pairwise_map]
        exact hsorted.imp fun h => Nat.ne_of_lt h
      have hcomp : ∀ p ∈ l1 ++ (i, ai) :: l2, Comp P n os p.1 p.2 := fun p hp => D.comp p (hsub.subset hp)
      have hdirect : ∀ j ∈ direct o, listed.getD j false = true := fun j hj => by
        simp only [direct, List.mem_map, List.mem_filter] at hj
        obtain ⟨e, ⟨he, hb⟩, rfl⟩ := hj
        exact hafter e (by simpa using he) (binds_any hb)
      have hcl : ∀ j ∈ (closure [] os.toList).getD i [], listed.getD j false = true := closure_spec (L := fun k => listed.getD k false = true) (fun k o h1 h2 j hj => hclo k o h1 h2 j hj) os.toList [] (fun q o hq => by simpa using hq) (fun i o hi => by simp at hi) (fun i hi => by simp at hi) i o ho (by simpa using hilt) hdirect
      have hloose : ∀ p ∈ l1, p.1 < i ∧ l[p.1]? = some p.2 ∧ p.1 ∉ (closure [] os.toList).getD i [] := fun p hp => by
        have hpi : p.1 < i := by
          rw [List.pairwise_append] at hsorted
          exact hsorted.2.2 p hp (i, ai) (by simp)
        have hpe := (enum_get l 0 p).1 (hsub.subset (by simp [hp]))
        have hpl : l[p.1]? = some p.2 := by simpa using hpe.2
        refine ⟨hpi, hpl, fun hm => ?_⟩
        have h1 := hcl p.1 hm
        have h2 := (hmem p.1 p.2 hpl).1 (by simp [hp])
        exact (hnot hs (by omega)).2 h1 h2
      have hl1 : ∀ p ∈ l1, apartA p.2 ai = true ∧ (statOK p.2.op ai.op = true ∨ clsF p.2.op ai.op (F p.1) (F i) = true) := fun p hp => D.pair i p.1 ai p.2 (hloose p hp).1 hai (hloose p hp).2.1 (hloose p hp).2.2
      obtain ⟨si, h1, h2, _, hF2⟩ := bubble hok (hcomp (i, ai) (by simp)) l1 H (fun p hp => hcomp p (by simp [hp])) (hndup.sublist (by
          rw [List.map_append, List.map_append]
          exact List.Sublist.append (List.Sublist.refl _) (by simp))) (fun p hp => hfr p (by
          rcases List.mem_append.1 hp with h | h
          · simp [h]
          · rw [List.mem_singleton.1 h]; simp)) hl1 hF h
      · refine opStep_wp hok H (hfr (i, ai) (by simp)) (hcomp (i, ai) (by simp)) h1 fun a' w' μ' H' S' => ?_
        have hset : ∀ k d, k ≠ i → (listed.setIfInBounds i true).getD k d = listed.getD k d := fun k d hne => getD_set_ne d (Ne.symm hne)
        have hseti : ∀ d, (listed.setIfInBounds i true).getD i d = true := fun d => by
          rw [Array.getD_eq_getD_getElem?, Array.getElem?_setIfInBounds_self_of_lt (by omega)]; rfl
        refine ih (listed.setIfInBounds i true) (l1 ++ l2) H' (S.trans S') (fun o' ho' => ?_) (by simpa using hs) (List.Sublist.trans (List.Sublist.append (List.Sublist.refl _) (List.sublist_cons_self _ _)) hsub) (fun k ak hak => ?_) (fun p hp j hj hUj => ?_) (by simp at hlen ⊢; omega) (fun k ok hkl hkok j hj => ?_) hF2 h2
        · rcases ho' with h | ⟨h3, h4⟩
          · exact hU o' h
          · right
            simp only at h3 h4
            have hle : (i + 1) * bound ≤ l.length * bound := Nat.mul_le_mul_right _ (by rw [D.len]; exact hilt)
            rw [Nat.succ_mul] at hle
            have : base ≤ base + i * bound := Nat.le_add_right _ _
            exact ⟨by omega, by omega⟩
        · have hnm : (i, ai) ∉ l1 ++ l2 := fun hm => by
            rw [List.map_append, List.map_cons, List.nodup_append] at hndup
            rcases List.mem_append.1 hm with hm | hm
            · exact hndup.2.2 i (List.mem_map.2 ⟨_, hm, rfl⟩) i (by simp) rfl
            · exact (List.nodup_cons.1 hndup.2.1).1 (List.mem_map.2 ⟨_, hm, rfl⟩)
          by_cases e : k = i
          · subst e
            rw [hseti]
            rw [hai] at hak
            cases hak
            simp [hnm]
          · rw [hset k true e, ← hmem k ak hak]
            simp [e]
        · rcases hUj with hUj | ⟨h3, h4⟩
          · exact hfr p (by
              rcases List.mem_append.1 hp with h | h
              · simp [h]
              · simp [h]) j hj hUj
          · have hne : p.1 ≠ i := fun e => by
              rw [List.map_append, List.map_cons, List.nodup_append] at hndup
              rcases List.mem_append.1 hp with hm | hm
              · exact hndup.2.2 p.1 (List.mem_map.2 ⟨_, hm, rfl⟩) i (by simp) e
              · exact (List.nodup_cons.1 hndup.2.1).1 (e ▸ List.mem_map.2 ⟨_, hm, rfl⟩)
            simp only [bound] at h3 h4 hj
            omega
        · by_cases ej : j = i
          · subst ej; exact hseti _
          · rw [hset j false ej]
            by_cases e : k = i
            · subst e
              rw [ho] at hkok
              cases hkok
              exact hdirect j hj
            · rw [hset k false e] at hkl
              exact hclo k ok hkl hkok j hj
end
end Go.Proofs.Am
set_option linter.unusedVariables false
set_option linter.unusedSimpArgs false
namespace Go.Proofs.Am
open Go

theorem put_nx (s : St) (d : Option Nat) (v : V) : (s.put d v).nx = s.nx ∧ (s.put d v).m = s.m ∧ (s.put d v).ob = s.ob := by cases d <;> exact ⟨rfl, rfl, rfl⟩

theorem opStep_nx {call : CallT} {base k : Nat} {o : AOper} {s s' : St} (h : opStep call base k o s = some s') : s'.nx = s.nx ∧ s'.m = s.m := by
  simp only [opStep] at h
  have hp : ∀ (q : Option (V × List (Nat × Obj))), (q.map fun p => ({ s with ob := updAll s.ob p.2 } : St).put o.dst p.1) = some s' → s'.nx = s.nx ∧ s'.m = s.m := fun q h => by
    obtain ⟨p, _, rfl⟩ := Option.map_eq_some_iff.1 h
    exact ⟨(put_nx _ _ _).1, (put_nx _ _ _).2.1⟩
  have hk : some (s.put o.dst .undef) = some s' → s'.nx = s.nx ∧ s'.m = s.m := fun h => by
    cases h
    exact ⟨(put_nx _ _ _).1, (put_nx _ _ _).2.1⟩
  split at h
  · exact hp _ h
  · split at h
    · split at h
      · exact hp _ h
      · exact hk h
    · exact hk h
    · cases h

theorem ops_nx {call : CallT} {base : Nat} : ∀ {r : List (Nat × AOper)} {s s' : St}, ops call base r s = some s' → s'.nx = s.nx ∧ s'.m = s.m
  | [], s, s', h => by simp only [ops, Option.some.injEq] at h; subst h; exact ⟨rfl, rfl⟩
  | (k, o) :: r, s, s', h => by
    simp only [ops, Option.bind_eq_some_iff] at h
    obtain ⟨s1, h1, h⟩ := h
    have e1 := opStep_nx h1
    have e2 := ops_nx h
    exact ⟨e2.1.trans e1.1, e2.2.trans e1.2⟩

section
variable {P : Program} {n : Nat} {B : Nat → Prop} {w0 : World} {M : Nat → Prop} {m : Nat} {obe : Heap} {μe : Nat → Value} {a : Act} {w w' : World} {μ μ' : Nat → Value} {s s' : St}

/-- where a function's body stands; behind it, what came in is kept -/
structure At (n : Nat) (B : Nat → Prop) (w0 : World) (M : Nat → Prop) (m : Nat) (obe : Heap) (μe : Nat → Value) (a : Act) (w : World) (μ : Nat → Value) (s : St) : Prop where
  now : Now n B w0 M (fun o => o < s.nx) a w μ s
  step : Step B w0 M (fun o => o < m) (fun o => o < s.nx) w0 w μe μ obe s.ob
  hm : s.m = m

theorem At.next {a' : Act} (H : At n B w0 M m obe μe a w μ s) (N : Now n B w0 M (fun o => o < s'.nx) a' w' μ' s') (S : Step B w0 M (fun o => o < s.nx) (fun o => o < s'.nx) w w' μ μ' s.ob s'.ob) (hm : s'.m = s.m) : At n B w0 M m obe μe a' w' μ' s' :=
  ⟨N, H.step.trans S, hm.trans H.hm⟩

/-! ### Regions -/
theorem regU_lt {nx len : Nat} {ks : List Nat} (hk : ∀ k ∈ ks, k < len) : ∀ o, RegU (fun o => o < nx) nx ks o → o < nx + len * bound := fun o ho => by
  rcases ho with h | ⟨k, h1, h2, h3⟩
  · omega
  · have := hk k h1
    have h4 : (k + 1) * bound ≤ len * bound := Nat.mul_le_mul_right _ this
    rw [Nat.succ_mul] at h4
    omega

theorem Now.weaken {U U' : Nat → Prop} (H : Now n B w0 M U a w μ s) (h : ∀ o, U o → U' o) : Now n B w0 M U' a w μ s := ⟨H.rel.weaken h, fun t => (H.sl t).weaken h, H.size, H.defers⟩
theorem Step.weaken {U U1 U2 : Nat → Prop} {ob ob' : Heap} (S : Step B w0 M U U1 w w' μ μ' ob ob') (h : ∀ o, U1 o → U2 o) : Step B w0 M U U2 w w' μ μ' ob ob' := ⟨S.rel.weaken h, fun o ho => h o (S.hU o ho), S.hI, S.hw, S.hkeep, S.hnone⟩

theorem reg_wp {call : CallT} (hok : CallOK P call) (H : At n B w0 M m obe μe a w μ s) {id : Nat} {os : Array Oper} {l : List AOper} {chk : List (Nat × Nat)} {hs hs' : List Hint} (hc : compOps P n os os.toList hs = some (l, hs'))
    (h : execReg call l chk s = some s') {Q : Exit → Act → World → Prop} (hQ : ∀ a' w' μ', At n B w0 M m obe μe a' w' μ' s' → Q .normal a' w') : (Code.region id os false).wp P Q a w := by
  obtain ⟨hlen, hcomp⟩ := compOps_comp os.toList 0 hs hs' l (fun i o h => by rw [Array.getElem?_toList] at h; rwa [Nat.zero_add]) hc
  simp only [execReg, Option.bind_eq_some_iff] at h
  obtain ⟨s1, h1, h⟩ := h
  split at h
  · cases h
    have hrange : (enum 0 l).map (·.1) = List.range os.size := by rw [enum_fst l 0, hlen, Array.length_toList, List.range_eq_range']
    refine wp_region ?_
    rw [← hrange]
    refine ops_wp hok (enum 0 l) H.now hcomp (by rw [hrange]; exact List.nodup_range) (fun p hp j hj => by omega) h1 fun a' w' μ' N S => ?_
    rw [hrange] at N S
    have hU := regU_lt (nx := s.nx) (len := l.length) (ks := List.range os.size) (fun k hk => by rw [hlen]; simpa using hk)
    have N' := N.weaken hU
    exact hQ _ _ _ (H.next (s' := { s1 with nx := s.nx + l.length * bound }) ⟨N'.rel, N'.sl, N'.size, N'.defers⟩ (S.weaken hU) (ops_nx h1).2)
  · cases h

theorem foots_some {call : CallT} {base : Nat} : ∀ {r : List (Nat × AOper)} {s s' : St} (ops_eq : ops call base r s = some s'), ∃ t, foots call base r s = some t
  | [], s, s', h => ⟨[], rfl⟩
  | (k, o) :: r, s, s', h => by
    simp only [ops, Option.bind_eq_some_iff] at h
    obtain ⟨s1, h1, h⟩ := h
    obtain ⟨t, ht⟩ := foots_some h
    exact ⟨fpA s.val o :: t, by simp only [foots, h1, Option.bind_some, ht, Option.map_some]⟩

theorem loose_mem {os : Array Oper} {i j : Nat} (hi : i < os.size) (hj : j < i) (h : j ∉ (closure [] os.toList).getD i []) : (j, i) ∈ loose os := by
  simp only [loose, List.mem_flatMap, List.mem_range, List.mem_filterMap]
  refine ⟨i, hi, j, hj, ?_⟩
  rw [if_neg (by simpa using h)]

theorem draw_wp {call : CallT} (hok : CallOK P call) (H : At n B w0 M m obe μe a w μ s) {id : Nat} {os : Array Oper} {l : List AOper} {chk : List (Nat × Nat)} {hs hs' : List Hint} (hc : compOps P n os os.toList hs = some (l, hs'))
    (hd : drawn os l = some chk) (h : execReg call l chk s = some s') {Q : Exit → Act → World → Prop} (hQ : ∀ a' w' μ', At n B w0 M m obe μe a' w' μ' s' → Q .normal a' w') : (Code.region id os true).wp P Q a w := by
  obtain ⟨hlen, hcomp⟩ := compOps_comp os.toList 0 hs hs' l (fun i o h => by rw [Array.getElem?_toList] at h; rwa [Nat.zero_add]) hc
  have hlen' : l.length = os.size := by simpa using hlen
  simp only [execReg, Option.bind_eq_some_iff] at h
  obtain ⟨s1, h1, h⟩ := h
  split at h
  · rename_i hchk
    cases h
    simp only [drawn] at hd
    split at hd
    · rename_i hall
      simp only [Option.some.injEq] at hd
      simp only [Bool.and_eq_true, List.all_eq_true, Bool.or_eq_true] at hall
      obtain ⟨F, hF, hdyn⟩ : ∃ F, FootAt call s.nx F (enum 0 l) s ∧ ∀ i j ai aj, (j, i) ∈ chk → l[i]? = some ai → l[j]? = some aj → clsF aj.op ai.op (F j) (F i) = true := by
        obtain ⟨t, ht⟩ := foots_some (ops_eq := h1)
        refine ⟨fun i => t.getD i ([], []), foots_at ht fun i _ => by simp, fun i j ai aj hm hi hj => ?_⟩
        cases chk with
        | nil => cases hm
        | cons c cs =>
          simp only [chkOK, ht] at hchk
          have := List.all_eq_true.1 hchk _ hm
          simpa only [dynF, hi, hj] using this
      have D : DrawOK P n os l F := by
        have hac : ∀ md, acyc md os = true := fun md => by
          cases md with
          | text => exact hall.2.1.2
          | gc => exact hall.2.2
          | any => exact hall.2.1.1
        refine ⟨hcomp, hlen', fun md => ⟨idxOf (Region.linearise md os 0), fun i o ho e he hb => ?_⟩, fun i j ai aj hj hi hj' hn => ?_⟩
        · have hi : i < os.size := (Array.getElem?_eq_some_iff.1 ho).1
          have := List.all_eq_true.1 (hac md) i (by simpa using hi)
          rw [ho] at this
          simp only [Option.map_some, Option.getD_some, Array.all_eq_true_iff_forall_mem] at this
          have := this e he
          simpa [hb] using this
        · have hi' : i < os.size := hlen' ▸ (List.getElem?_eq_some_iff.1 hi).1
          have hm := loose_mem hi' hj hn
          have hap := hall.1 _ hm
          simp only [pairA, hi, hj'] at hap
          refine ⟨hap, ?_⟩
          cases hst : statOK aj.op ai.op with
          | true => exact .inl rfl
          | false =>
            have hmc : (j, i) ∈ chk := by
              rw [← hd, List.mem_filter]
              exact ⟨hm, by simp [pairA, hi, hj', hst]⟩
            exact .inr (hdyn i j ai aj hmc hi hj')
      refine wp_region_draw fun t => ?_
      have S0 := H.now.rel.drew (w.drawn + 1)
      have N0 : Now n B w0 M (fun o => o < s.nx) a { w with drawn := w.drawn + 1 } μ s := ⟨S0.rel, fun t => S0.val (H.now.sl t), H.now.size, H.now.defers⟩
      have key : ∀ md t', wpOps P os Q (Region.linearise md os t') a { w with drawn := w.drawn + 1 } := fun md t' => by
        refine wpAny_sound os.size t' _ a _ (any_wp hok D md (base := s.nx) (U0 := fun o => o < s.nx) (fun a' w' μ' U' hU N S => ?_) os.size _ (enum 0 l) N0 S0 (fun o ho => .inl ho) (by simp) (List.Sublist.refl _) (fun k ak hak => ?_) (fun p hp j hj => by omega) ?_ (fun k o hk => ?_) hF h1)
        · have hU' : ∀ o, U' o → o < s.nx + l.length * bound := fun o ho => by
            rcases hU o ho with h | h
            · omega
            · exact h.2
          have N' := N.weaken hU'
          exact hQ _ _ _ (H.next (s' := { s1 with nx := s.nx + l.length * bound }) ⟨N'.rel, N'.sl, N'.size, N'.defers⟩ (S.weaken hU') (ops_nx h1).2)
        · have hk : k < os.size := hlen' ▸ (List.getElem?_eq_some_iff.1 hak).1
          rw [enum_get]
          simp [hak, Array.getD_eq_getD_getElem?, Array.getElem?_replicate, hk]
        · have : (enum 0 l).length = l.length := by
            rw [← List.length_map (f := fun p : Nat × AOper => p.1), enum_fst]; simp
          omega
        · exfalso
          rw [Array.getD_eq_getD_getElem?, Array.getElem?_replicate] at hk
          split at hk <;> simp at hk
      simp only [Region.schedule]
      split
      · exact key _ _
      · exact key _ _
    · cases hd
  · cases h

/-! ### Loop heads -/
theorem maxId_lt : ∀ {ids : List Nat} {o : Nat}, o ∈ ids → o < maxId ids
  | a :: r, o, h => by
    simp only [maxId]
    rcases List.mem_cons.1 h with rfl | h
    · omega
    · have := maxId_lt h; omega

theorem keepOb_at : ∀ (ids : List Nat) (f : Heap) (o : Nat), keepOb f ids o = if o ∈ ids then f o else none
  | [], f, o => by simp [keepOb]
  | a :: r, f, o => by
    simp only [keepOb, upd, List.mem_cons]
    by_cases e : o = a
    · subst e; simp
    · rw [if_neg e, keepOb_at r f o]; simp [e]
theorem keepSl_at : ∀ (ids : List Nat) (f : Nat → V) (o : Nat), keepSl f ids o = if o ∈ ids then f o else .dead
  | [], f, o => by simp [keepSl]
  | a :: r, f, o => by
    simp only [keepSl, upd, List.mem_cons]
    by_cases e : o = a
    · subst e; simp
    · rw [if_neg e, keepSl_at r f o]; simp [e]

theorem clean_at (H : At n B w0 M m obe μe a w μ s) {live : List Nat} (h : clean live s = some s') : At n B w0 M m obe μe a w μ s' := by
  simp only [clean] at h
  generalize hids : reach s.ob 100 (List.range s.m) _ = ids at h
  split at h
  · rename_i hc
    cases h
    obtain ⟨hc1, hc2⟩ := closed_objs hc
    have hpre : ∀ o, o < m → o ∈ ids := fun o ho => by
      obtain ⟨_, l, hl⟩ := reach_spec s.ob 100 (List.range s.m) (refsL (live.map s.sl) ++ heldBy s.ob s.m) List.nodup_range
      rw [hids] at hl
      rw [hl]
      simp [H.hm, ho]
    have hlt : ∀ o ∈ ids, o < max s.m (maxId ids) := fun o ho => by have := maxId_lt ho; omega
    have S := H.now.rel.drop (ob' := keepOb s.ob ids) fun o x hx => by
      rw [keepOb_at] at hx
      split at hx
      · exact hx
      · cases hx
    have R : Rel B w0 M (fun o => o < max s.m (maxId ids)) w μ (keepOb s.ob ids) := by
      refine ⟨S.rel.fr, fun o x hx => ?_, S.rel.ok, S.rel.own, S.rel.new, S.rel.inB, S.rel.inj⟩
      rw [keepOb_at] at hx
      split at hx
      · rename_i ho
        exact ⟨hlt o ho, fun o' ho' => hlt o' (hc1 o ho o' (by rw [hx]; exact ho'))⟩
      · cases hx
    refine ⟨⟨R, fun t => ?_, H.now.size, H.now.defers⟩, ?_, H.hm⟩
    · show Val B _ w μ _ _ (keepSl s.sl live t)
      rw [keepSl_at]
      split
      · rename_i ht
        refine ⟨(S.val (H.now.sl t)).1, fun o ho => hlt o (hc2 o (refsL_mem (List.mem_map.2 ⟨t, ht, rfl⟩) o ho))⟩
      · exact ⟨by simp only [RepV], by simp [refsV]⟩
    · have S2 := H.step.trans S
      exact ⟨R, fun o ho => hlt o (hpre o ho), S2.hI, S2.hw, S2.hkeep, S2.hnone⟩
  · cases h

/-- an object that no block holds yet: an empty row -/
theorem ownRow_step (H : At n B w0 M m obe μe a w μ s) {esz : Nat} (hz : esz ≠ 0) : Step B w0 M (fun o => o < s.nx) (fun o => o < s.nx + 1) w w μ (upd μ s.nx (.slice none 0 0)) s.ob (ownRow s esz).ob := by
  have S := H.now.rel.put (w' := w) s.nx (.inr (Nat.lt_irrefl _)) (.row 0 false esz []) (.slice none 0 0) rfl rfl rfl (Nat.le_refl _) (fun _ _ _ => rfl) (fun b hb => by simp [blockOf] at hb) (by simp [refsO]) (fun h => absurd h (Nat.lt_irrefl _))
    fun ob' μ' hm _ _ _ => ⟨Nat.pos_of_ne_zero hz, by simp, [], ⟨by simp, .inl ⟨hm, rfl⟩⟩, by simp [flatD, RepDs]⟩
  exact S.weaken fun o ho => by rcases ho with h | rfl <;> omega

theorem ownAt_at (l : List OwnAt) : ∀ {s s' : St} {μ : Nat → Value}, At n B w0 M m obe μe a w μ s → ownAt s l = some s' → ∃ μ', At n B w0 M m obe μe a w μ' s' := by
  induction l with
  | nil => intro s s' μ H h; simp only [ownAt, Option.some.injEq] at h; subst h; exact ⟨μ, H⟩
  | cons x r ih =>
    intro s s' μ H h
    cases x with
    | slot t esz =>
      simp only [ownAt] at h
      split at h
      · rename_i ht
        split at h
        · cases h
        rename_i hz
        have S := ownRow_step H hz
        refine ih (H.next (s' := { ownRow s esz with sl := upd s.sl t (.own s.nx 0) }) ⟨S.rel, fun t' => ?_, H.now.size, H.now.defers⟩ S rfl) h
        show Val B _ w _ _ _ (upd s.sl t (.own s.nx 0) t')
        by_cases e : t' = t
        · subst e
          rw [upd_eq]
          have hv := (H.now.sl t').1
          rw [ht] at hv
          simp only [RepV] at hv
          refine ⟨?_, by simp [refsV, ownRow]⟩
          simp only [RepV, ownRow, upd_eq]
          exact ⟨by rw [hv]; rfl, Nat.le_refl _, fun _ => hv⟩
        · rw [upd_ne _ _ e]
          exact S.val (H.now.sl t')
      · exact ih H h
    | cell t j esz =>
      simp only [ownAt] at h
      split at h
      · rename_i o ver k ht
        split at h
        · rename_i cells hx
          split at h
          · rename_i hcell
            split at h
            · cases h
            rename_i hz
            have S := ownRow_step H hz
            have hne : o ≠ s.nx := fun e => Nat.lt_irrefl _ (e ▸ (H.now.rel.used o _ hx).1)
            have hx1 : (ownRow s esz).ob o = some (.box cells) := (upd_ne _ _ hne).trans hx
            obtain ⟨b, c, e, hm, hb, hl⟩ := S.rel.ok o _ hx1
            have S2 := S.rel.put (w' := w) o (.inl ⟨_, hx1, rfl⟩) (.box (cells.set (k + j) (.own s.nx 0))) (upd μ s.nx (.slice none 0 0) o) rfl rfl rfl (Nat.le_refl _) (fun _ _ _ => rfl) (fun b hb => .inl ⟨_, hx1, hb⟩) (fun o' ho' => ?_) (fun _ => by unfold Keep; rw [hx1, upd_eq]; simp [upd_eq]) fun ob' μ' hμ hI hw hk => ?_
            · have hμ : upd (upd μ s.nx (.slice none 0 0)) o (upd μ s.nx (.slice none 0 0) o) = upd μ s.nx (.slice none 0 0) := by funext q; simp only [upd]; split <;> simp_all
              rw [hμ] at S2
              have S3 := S.trans (S2.weaken (U2 := fun q => q < s.nx + 1) fun q hq => by
                rcases hq with h | h
                · exact h
                · exact h ▸ (S.rel.used o _ hx1).1)
              exact ih (H.next (s' := { ownRow s esz with ob := upd (ownRow s esz).ob o (some (.box (cells.set (k + j) (.own s.nx 0)))) }) ⟨S3.rel, fun t' => S3.val (H.now.sl t'), H.now.size, H.now.defers⟩ S3 rfl) h
            · obtain ⟨x, hxm, hxo⟩ := refsL_of (l := cells.set (k + j) (.own s.nx 0)) (by simpa [refsO] using ho')
              rcases List.mem_or_eq_of_mem_set hxm with h | rfl
              · exact .inl ((S.rel.used o _ hx1).2 o' (refsL_mem h o' hxo))
              · simp only [refsV, List.mem_singleton] at hxo
                subst hxo
                exact .inl (Nat.lt_succ_self _)
            · have hl' := RepL.mono hI hw cells _ (fun o' ho' => hk o' ((S.rel.used o _ hx1).2 o' (by simpa [refsO] using ho'))) hl
              refine ⟨b, c, e, hμ.trans hm, hb, RepL.mk (by rw [hl'.length]; simp) fun i v y h1 h2 => ?_⟩
              rw [List.getElem?_set] at h2
              split at h2
              · rename_i hi
                split at h2
                · cases h2
                  have hcv := (hl.at i v .nsl h1 (hi ▸ hcell))
                  have hv : v = .slice none 0 0 := by simpa only [RepV] using hcv.1
                  have hko := hk s.nx (Nat.lt_succ_self _)
                  refine ⟨?_, hcv.2⟩
                  simp only [RepV]
                  refine ⟨hcv.2, ?_⟩
                  unfold Keep at hko
                  have hrow : (ownRow s esz).ob s.nx = some (.row 0 false esz []) := upd_eq _ _ _
                  rw [hrow] at hko
                  split
                  · rename_i v' f' s'' e' hob'
                    rw [hob'] at hko
                    simp only at hko
                    exact ⟨hko.1, fun e0 => by rw [hv, (hko.2 e0.symm).2, upd_eq]⟩
                  · trivial
                · cases h2
              · exact hl'.at i v y h1 h2
          · exact ih H h
        · exact ih H h
      · exact ih H h

/-! ### Code -/
def exOf : Ex → Exit
  | .normal => .normal
  | .exit id => .exit id
  | .ret => .ret

theorem exec_wp {call : CallT} (hok : CallOK P call) {fuel : Nat} (c : Code) : ∀ {ac : ACode} {hs hs' : List Hint} {s s' : St} {ex : Ex} {a : Act} {w : World} {μ : Nat → Value} {Q : Exit → Act → World → Prop},
    compC P n c hs = some (ac, hs') → At n B w0 M m obe μe a w μ s → exec call fuel ac s = some (ex, s') →
    (∀ a' w' μ', At n B w0 M m obe μe a' w' μ' s' → Q (exOf ex) a' w') → c.wp P Q a w := by
  induction c with
  | skip =>
    intro ac hs hs' s s' ex a w μ Q hc H h hQ
    simp only [compC, Option.some.injEq, Prod.mk.injEq] at hc
    obtain ⟨rfl, _⟩ := hc
    simp only [exec, Option.some.injEq, Prod.mk.injEq] at h
    obtain ⟨rfl, rfl⟩ := h
    exact wp_skip (hQ a w μ H)
  | label l =>
    intro ac hs hs' s s' ex a w μ Q hc H h hQ
    simp only [compC, Option.some.injEq, Prod.mk.injEq] at hc
    obtain ⟨rfl, _⟩ := hc
    simp only [exec, Option.some.injEq, Prod.mk.injEq] at h
    obtain ⟨rfl, rfl⟩ := h
    exact wp_label (hQ a w μ H)
  | exit id =>
    intro ac hs hs' s s' ex a w μ Q hc H h hQ
    simp only [compC, Option.some.injEq, Prod.mk.injEq] at hc
    obtain ⟨rfl, _⟩ := hc
    simp only [exec, Option.some.injEq, Prod.mk.injEq] at h
    obtain ⟨rfl, rfl⟩ := h
    exact wp_exit (hQ a w μ H)
  | ret =>
    intro ac hs hs' s s' ex a w μ Q hc H h hQ
    simp only [compC, Option.some.injEq, Prod.mk.injEq] at hc
    obtain ⟨rfl, _⟩ := hc
    simp only [exec, Option.some.injEq, Prod.mk.injEq] at h
    obtain ⟨rfl, rfl⟩ := h
    exact wp_ret (hQ a w μ H)
  | region id os draw =>
    intro ac hs hs' s s' ex a w μ Q hc H h hQ
    simp only [compC, Option.bind_eq_some_iff] at hc
    obtain ⟨r, hr, hc⟩ := hc
    cases draw with
    | false =>
      simp only [Bool.false_eq_true, if_false, Option.some.injEq, Prod.mk.injEq] at hc
      obtain ⟨rfl, _⟩ := hc
      simp only [exec, Option.map_eq_some_iff, Prod.mk.injEq] at h
      obtain ⟨s1, h1, rfl, rfl⟩ := h
      exact reg_wp hok H hr h1 hQ
    | true =>
      simp only [if_true, Option.map_eq_some_iff, Prod.mk.injEq] at hc
      obtain ⟨chk, hd, rfl, _⟩ := hc
      simp only [exec, Option.map_eq_some_iff, Prod.mk.injEq] at h
      obtain ⟨s1, h1, rfl, rfl⟩ := h
      exact draw_wp hok H hr hd h1 hQ
  | seq x y ihx ihy =>
    intro ac hs hs' s s' ex a w μ Q hc H h hQ
    simp only [compC, Option.bind_eq_some_iff, Option.map_eq_some_iff, Prod.mk.injEq] at hc
    obtain ⟨cx, hx, cy, hy, rfl, _⟩ := hc
    simp only [exec, Option.bind_eq_some_iff] at h
    obtain ⟨r, hr, h⟩ := h
    refine wp_seq (ihx hx H hr fun a1 w1 μ1 H1 => ?_)
    split at h
    · rename_i e1
      rw [e1]
      exact ihy hy H1 h hQ
    · rename_i e1
      simp only [Option.some.injEq, Prod.mk.injEq] at h
      obtain ⟨rfl, rfl⟩ := h
      cases e2 : r.1 with
      | normal => exact absurd e2 e1
      | exit id => have := hQ a1 w1 μ1 H1; rw [e2] at this; exact this
      | ret => have := hQ a1 w1 μ1 H1; rw [e2] at this; exact this
  | cond c x y ihx ihy =>
    intro ac hs hs' s s' ex a w μ Q hc H h hQ
    simp only [compC, Option.bind_eq_some_iff, Option.map_eq_some_iff, Prod.mk.injEq] at hc
    obtain ⟨cc, hcc, cx, hx, cy, hy, rfl, _⟩ := hc
    simp only [exec] at h
    split at h
    · rename_i t ht
      have hv := compX_val (a := a) H.now.sl hcc
      rw [ht] at hv
      refine wp_cond hv.1.bool ?_
      cases t with
      | true => exact ihx hx H (by simpa using h) hQ
      | false => exact ihy hy H (by simpa using h) hQ
    · cases h
  | block id x ih =>
    intro ac hs hs' s s' ex a w μ Q hc H h hQ
    simp only [compC, Option.map_eq_some_iff, Prod.mk.injEq] at hc
    obtain ⟨cx, hx, rfl, _⟩ := hc
    simp only [exec, Option.map_eq_some_iff] at h
    obtain ⟨r, hr, h⟩ := h
    refine wp_block (ih hx H hr fun a1 w1 μ1 H1 => ?_)
    split at h
    · rename_i j e1
      rw [e1]
      simp only [exOf, Exit.inBlock]
      split at h
      · rename_i hj
        simp only [Prod.mk.injEq] at h
        obtain ⟨rfl, rfl⟩ := h
        rw [if_pos hj]
        exact hQ a1 w1 μ1 H1
      · rename_i hj
        simp only [Prod.mk.injEq] at h
        obtain ⟨rfl, rfl⟩ := h
        rw [if_neg hj]
        exact hQ a1 w1 μ1 H1
    · rename_i e1
      simp only [Prod.mk.injEq] at h
      obtain ⟨rfl, rfl⟩ := h
      cases e2 : r.1 with
      | normal => have := hQ a1 w1 μ1 H1; rw [e2] at this; exact this
      | exit id => exact absurd e2 (e1 id)
      | ret => have := hQ a1 w1 μ1 H1; rw [e2] at this; exact this
  | scope x ih =>
    intro ac hs hs' s s' ex a w μ Q hc H h hQ
    simp only [compC, Option.map_eq_some_iff, Prod.mk.injEq] at hc
    obtain ⟨cx, hx, rfl, _⟩ := hc
    simp only [exec] at h
    refine wp_scope_straight (ih hx H h fun a1 w1 μ1 H1 => ?_)
    have := hQ a1 w1 μ1 H1
    cases ex <;> exact this
  | loop x ih =>
    intro ac hs hs' s s' ex a w μ Q hc H h hQ
    simp only [compC] at hc
    split at hc
    · rename_i own live hs0
      simp only [Option.map_eq_some_iff, Prod.mk.injEq] at hc
      obtain ⟨cx, hx, rfl, _⟩ := hc
      simp only [exec, Option.bind_eq_some_iff] at h
      obtain ⟨s1, h1, h⟩ := h
      obtain ⟨μ1, H1⟩ := ownAt_at _ H h1
      refine wp_loop_rounds fuel ?_
      have key : ∀ k {s : St} {a : Act} {w : World} {μ : Nat → Value}, At n B w0 M m obe μe a w μ s → iter (exec call fuel cx.1) live k s = some (ex, s') → Code.rounds P x Q k a w := by
        intro k
        induction k with
        | zero => intro s a w μ H h; simp [iter] at h
        | succ k ihk =>
          intro s a w μ H h
          simp only [iter, Option.bind_eq_some_iff] at h
          obtain ⟨s2, h2, r, hr, h⟩ := h
          rw [rounds_succ]
          refine ih hx (clean_at H h2) hr fun a3 w3 μ3 H3 => ?_
          split at h
          · rename_i e1
            rw [e1]
            exact ihk H3 h
          · rename_i e1
            simp only [Option.some.injEq, Prod.mk.injEq] at h
            obtain ⟨rfl, rfl⟩ := h
            cases e2 : r.1 with
            | normal => exact absurd e2 e1
            | exit id => have := hQ a3 w3 μ3 H3; rw [e2] at this; exact this
            | ret => have := hQ a3 w3 μ3 H3; rw [e2] at this; exact this
      exact key fuel H1 h
    · cases hc
  | rangeFunc => intro ac hs hs' s s' ex a w μ Q hc; simp [compC] at hc
  | goto l => intro ac hs hs' s s' ex a w μ Q hc; simp [compC] at hc
  | refuse l => intro ac hs hs' s s' ex a w μ Q hc; simp [compC] at hc
end
end Go.Proofs.Am
set_option linter.unusedVariables false
set_option linter.unusedSimpArgs false
namespace Go.Proofs.Am
open Go

section
variable {P : Program} {n : Nat} {B : Nat → Prop} {w0 : World} {M U : Nat → Prop} {a : Act} {w : World} {μ : Nat → Value} {s : St}

/-- one result -/
theorem rv_run (H : Now n B w0 M U a w μ s) {rvar : ResultVar} {x : RV} (hc : compR P rvar = some x) {v : V} (h : rv s x = some v) :
    ∃ val, (match rvar with | .tmp t => (pure (a.tmps.getD t undef) : Sem Value) | .cell b t => do loadVar t (← asAddr (a.tmps.getD b undef))).run P w = .ok val w ∧ Val B U w μ s.ob val v := by
  cases rvar with
  | tmp t =>
    simp only [compR, Option.some.injEq] at hc
    subst hc
    simp only [rv, Option.some.injEq] at h
    subst h
    exact ⟨_, rfl, H.sl t⟩
  | cell b t =>
    simp only [compR, Option.bind_eq_some_iff, Option.map_eq_some_iff] at hc
    obtain ⟨k, hk, g, hg, rfl⟩ := hc
    simp only [rv] at h
    split at h
    · rename_i o ver j hx
      split at h
      · rename_i cells hob
        have hlen := loadFrom_len h
        have hx1 := (H.sl b).1
        rw [hx] at hx1
        simp only [RepV, hob] at hx1
        obtain ⟨_, b1, _, hm, hval⟩ := hx1
        obtain ⟨b', c, e, h1, h2, h3⟩ := H.rel.ok o _ hob
        rw [hm] at h1
        cases h1
        have hl := h3.part j k
        refine ⟨_, ?_, loadFrom_val h hl fun o' ho' => (H.rel.used o _ hob).2 o' (refsL_part cells j k o' ho')⟩
        simp only [hval]
        have := run_loadVar' (P := P) (w := w) hg hk ⟨b1, j, none⟩ (part c.toList j k) (by rw [hl.length]; exact hlen.1) (fun q u hu => by
          rw [add_none]
          simp only [part, List.getElem?_take] at hu
          split at hu
          · rw [List.getElem?_drop] at hu
            simp only [World.cell?, h2]
            simpa using hu
          · cases hu) hlen.2
        simpa [asAddr] using this
      · cases h
    · cases h

theorem mapS_run {α β : Type} {f : α → Sem β} {w : World} (l : List α) : ∀ {R : α → β → Prop}, (∀ x ∈ l, ∃ v, (f x).run P w = .ok v w ∧ R x v) → ∃ vs, (l.mapM f).run P w = .ok vs w ∧ vs.length = l.length ∧ ∀ (i : Nat) x v, l[i]? = some x → vs[i]? = some v → R x v := by
  induction l with
  | nil => intro R h; exact ⟨[], by simp, rfl, fun i x v h => by simp at h⟩
  | cons x r ih =>
    intro R h
    obtain ⟨v, hv, hR⟩ := h x (by simp)
    obtain ⟨vs, hvs, hl, hh⟩ := ih (R := R) fun y hy => h y (by simp [hy])
    refine ⟨v :: vs, by simp [List.mapM_cons, hv, hvs], by simp [hl], fun i y u h1 h2 => ?_⟩
    cases i with
    | zero => simp at h1 h2; subst h1; subst h2; exact hR
    | succ i => exact hh i y u (by simpa using h1) (by simpa using h2)

theorem RepT.mk {I : Nat → Prop} {ob : Heap} : ∀ {vs : List Value} {xs : List V}, vs.length = xs.length → (∀ (i : Nat) v x, vs[i]? = some v → xs[i]? = some x → RepV w I ob μ v x) → RepT w I ob μ vs xs
  | [], [], _, _ => by simp only [RepT]
  | [], _ :: _, h, _ => by simp at h
  | _ :: _, [], h, _ => by simp at h
  | a :: vs, b :: xs, h, hh => by
    simp only [RepT]
    exact ⟨hh 0 a b rfl rfl, RepT.mk (by simpa using h) fun i v x h1 h2 => hh (i + 1) v x (by simpa using h1) (by simpa using h2)⟩

theorem results_run (H : Now n B w0 M U a w μ s) {fn : Func} {rs : List RV} (hc : mapO (compR P) fn.results.toList = some rs) {vs : List V} (h : mapO (rv s) rs = some vs) :
    ∃ val, (results fn a.tmps).run P w = .ok val w ∧ Val B U w μ s.ob val (tupOf vs) := by
  have hx : ∀ (i : Nat) r, fn.results.toList[i]? = some r → ∃ x v, rs[i]? = some x ∧ compR P r = some x ∧ vs[i]? = some v ∧ rv s x = some v := fun i r hr => by
    obtain ⟨x, h1, h2⟩ := mapO_at hc hr
    obtain ⟨v, h3, h4⟩ := mapO_at h h1
    exact ⟨x, v, h1, h2, h3, h4⟩
  obtain ⟨us, hrun, hl, hR⟩ := mapS_run (P := P) (w := w) (f := fun (r : ResultVar) => (match r with | .tmp t => (pure (a.tmps.getD t undef) : Sem Value) | .cell b t => do loadVar t (← asAddr (a.tmps.getD b undef)))) fn.results.toList
    (R := fun r u => ∀ x, compR P r = some x → ∀ v, rv s x = some v → Val B U w μ s.ob u v) fun r hr => by
      obtain ⟨i, hi⟩ := List.mem_iff_getElem?.1 hr
      obtain ⟨x, v, h1, h2, h3, h4⟩ := hx i r hi
      obtain ⟨val, h5, h6⟩ := rv_run H h2 h4
      refine ⟨val, h5, fun x' hx' v' hv' => ?_⟩
      rw [h2] at hx'
      cases hx'
      rw [h4] at hv'
      cases hv'
      exact h6
  have hlen : us.length = vs.length := by rw [hl, mapO_length h, mapO_length hc]
  have hall : ∀ (i : Nat) u v, us[i]? = some u → vs[i]? = some v → Val B U w μ s.ob u v := fun i u v h1 h2 => by
    have hi : i < fn.results.toList.length := hl ▸ (List.getElem?_eq_some_iff.1 h1).1
    obtain ⟨x, v', h3, h4, h5, h6⟩ := hx i _ (List.getElem?_eq_getElem hi)
    rw [h2] at h5
    cases h5
    exact hR i _ u (List.getElem?_eq_getElem hi) h1 x h4 v h6
  have hres : (results fn a.tmps).run P w = .ok (if h : us.toArray.size = 1 then us.toArray[0] else .tuple us.toArray) w := by
    simp only [results]
    rw [Array.mapM_eq_mapM_toList]
    simp only [map_eq_pure_bind, bind_assoc, pure_bind, Sem.run_bind]
    erw [hrun]
    rfl
  refine ⟨_, hres, ?_⟩
  cases vs with
  | nil =>
    cases us with
    | nil => simp [tupOf, Val, RepV, RepT, refsV, refsL]
    | cons _ _ => simp at hlen
  | cons v r =>
    cases us with
    | nil => simp at hlen
    | cons u t =>
      cases r with
      | nil =>
        cases t with
        | nil => simpa [tupOf] using hall 0 u v rfl rfl
        | cons _ _ => simp at hlen
      | cons v2 r =>
        cases t with
        | nil => simp at hlen
        | cons u2 t =>
          rw [dif_neg (by simp)]
          refine ⟨?_, fun o ho => ?_⟩
          · simp only [tupOf, RepV]
            exact ⟨_, rfl, RepT.mk hlen fun i u v h1 h2 => (hall i u v h1 h2).1⟩
          · simp only [tupOf, refsV] at ho
            obtain ⟨x, hx, hxo⟩ := refsL_of ho
            obtain ⟨i, hi⟩ := List.mem_iff_getElem?.1 hx
            have hi' : i < (u :: u2 :: t).length := hlen ▸ (List.getElem?_eq_some_iff.1 hi).1
            exact (hall i _ x (List.getElem?_eq_getElem hi') hi).2 o hxo

theorem argSl_at : ∀ (args : List V) (k t : Nat), argSl k args t = if k ≤ t then (args[t - k]?).getD .undef else .undef
  | [], k, t => by simp [argSl]
  | x :: r, k, t => by
    simp only [argSl, upd]
    split
    · rename_i e; subst e; simp
    · rename_i hne
      rw [argSl_at r (k + 1) t]
      by_cases hk : k ≤ t
      · rw [if_pos (by omega), if_pos hk]
        obtain ⟨d, hd⟩ : ∃ d, t - k = d + 1 := ⟨t - k - 1, by omega⟩
        rw [hd]
        have : t - (k + 1) = d := by omega
        simp [this]
      · rw [if_neg (by omega), if_neg hk]

/-- the code of some functions, as it is in the program -/
def Linked (P : Program) (PF : Nat → Option AFunc) : Prop := ∀ f af, PF f = some af → ∃ fn hs, P.funcs[f]? = some fn ∧ (fn.name == "runtime.NumGoroutine") = false ∧ compF P fn hs = some af

/-- the end of a function -/
theorem finish_ok {m : Nat} {obe : Heap} {μe : Nat → Value} (H : At n B w0 M m obe μe a w μ s) (hobe : ∀ o, o < m → obe o ≠ none) {val : Value} {v : V} (hval : Val B (fun o => o < s.nx) w μ s.ob val v) {r : V × List Obj × List Obj} (h : finish m v s = some r) :
    ∃ μ', r.2.1.length = m ∧ Step B w0 M (fun o => o < m) (fun o => o < m + r.2.2.length) w0 w μe μ' obe (argOb 0 (r.2.1 ++ r.2.2)) ∧ Val B (fun o => o < m + r.2.2.length) w μ' (argOb 0 (r.2.1 ++ r.2.2)) val r.1 := by
  simp only [finish] at h
  split at h
  · rename_i hm
    subst hm
    obtain ⟨v', hv', rfl⟩ := Option.map_eq_some_iff.1 h
    have S := H.now.rel.drop (ob' := argOb 0 []) fun o x hx => by simp [argOb] at hx
    have R : Rel B w0 M (fun o => o < 0) w μ (argOb 0 []) := ⟨S.rel.fr, fun o x hx => by simp [argOb] at hx, S.rel.ok, S.rel.own, S.rel.new, S.rel.inB, S.rel.inj⟩
    have S2 := H.step.trans S
    have hp := pureV_rep (I' := Imm B w (argOb 0 []) μ) (Vis := fun _ => True) H.now.rel (fun b hb => S.hI b hb) (fun o x b _ hx hb => ⟨H.now.rel.lt hx hb, fun o x hx => by simp [argOb] at hx, H.now.rel.inB o x b hx hb⟩) (fun _ _ _ _ _ _ => trivial) hv' hval.1 (fun _ _ => trivial) (argOb 0 []) μ
    exact ⟨μ, rfl, ⟨R, fun o ho => ho, S2.hI, S2.hw, fun o ho => absurd ho (Nat.not_lt_zero o), fun o ho => absurd ho (Nat.not_lt_zero o)⟩, hp.1, by simp [hp.2]⟩
  · generalize hids : reach s.ob 100 (List.range m) _ = ids at h
    split at h
    · rename_i hc
      obtain ⟨objs, hobjs, rfl⟩ := Option.map_eq_some_iff.1 h
      obtain ⟨hn, l, hl⟩ := reach_spec s.ob 100 (List.range m) (refsV v ++ heldBy s.ob m) List.nodup_range
      rw [hids] at hn hl
      have hH := Part.mk' (μ := μ) hn hc hobjs
      have hlen := mapO_length hobjs
      have hidl : ids.length = m + l.length := by rw [hl]; simp
      have happ : (objs.take m).map (renO (idxOf ids)) ++ (objs.drop m).map (renO (idxOf ids)) = objs.map (renO (idxOf ids)) := by rw [← List.map_append, List.take_append_drop]
      have hcnt : ((objs.drop m).map (renO (idxOf ids))).length = l.length := by simp [hlen, hidl]
      refine ⟨muPart μ ids, by simp [hlen, hidl], ?_, ?_⟩
      · simp only [happ, hcnt, ← hidl]
        have R2 := hH.rel H.now.rel H.now.rel.fr (B2 := B) (fun b hb => hb.2.2) (fun o ho b hb => by
          obtain ⟨x, hx, _⟩ := hH.some' o ho
          exact ⟨H.now.rel.own o x b hx hb, H.now.rel.inB o x b hx hb⟩) H.now.rel.new
        have hat : ∀ o, o < m → o ∈ ids ∧ idxOf ids o = o := fun o ho => by
          have hi : ids[o]? = some o := by rw [hl, List.getElem?_append_left (by simpa using ho)]; simp [ho]
          exact ⟨List.mem_of_getElem? hi, idxOf_at hn hi⟩
        refine ⟨R2, fun o ho => by omega, fun b hb => hH.imm (H.step.hI b hb) hb.2.2, H.step.hw, fun o ho => ?_, fun o ho h0 => absurd h0 (hobe o ho)⟩
        obtain ⟨h1, h2⟩ := hat o ho
        obtain ⟨h3, h4⟩ := hH.same h1
        rw [h2] at h3 h4
        have hk := H.step.hkeep o ho
        unfold Keep at hk ⊢
        rw [h3, h4]
        cases h5 : s.ob o with
        | none => cases obe o <;> trivial
        | some y =>
          rw [h5] at hk
          cases h6 : obe o with
          | none => exact absurd h6 (hobe o ho)
          | some x =>
            rw [h6] at hk
            cases x <;> cases y <;> exact hk
      · simp only [happ, hcnt, ← hidl]
        exact hH.val (fun b hb => hH.imm hb hb.2.2) hval.1 fun o ho => (closed_objs hc).2 o ho
    · cases h

theorem run_ok {PF : Nat → Option AFunc} (hP : Linked P PF) {spec : CallT} (hspec : CallOK P spec) : ∀ k, CallOK P (run PF spec k) := by
  intro k
  induction k with
  | zero => intro f args objs r h; simp [run] at h
  | succ k ih =>
    intro f args objs r h
    simp only [run] at h
    cases hf : PF f with
    | none => rw [hf] at h; exact hspec f args objs r h
    | some af =>
      rw [hf] at h
      obtain ⟨fn, hs, hfn, hname, hcomp⟩ := hP f af hf
      unfold compF at hcomp
      obtain ⟨c, hbody, hcomp⟩ := Option.bind_eq_some_iff.1 hcomp
      obtain ⟨x, hx, hcomp⟩ := Option.bind_eq_some_iff.1 hcomp
      split at hcomp
      · obtain ⟨rs, hrs, rfl⟩ := Option.map_eq_some_iff.1 hcomp
        refine ⟨fun vals w => ?_, fun B w μ vals R hsz hv => ?_⟩
        · have hname' : ¬ fn.name = "runtime.NumGoroutine" := by simpa using hname
          simp [callFunc, hfn, hname', hbody]
        · simp only [runF, Option.bind_eq_some_iff] at h
          obtain ⟨e, he, h⟩ := h
          refine calls_of_wp hfn hbody (exec_wp ih c hx (m := objs.length) (obe := argOb 0 objs) (μe := μ) (μ := μ) (B := B) (w0 := w) (M := MutB (argOb 0 objs) μ) ⟨⟨R, fun t => ?_, by simp; omega, rfl⟩, Step.refl R, rfl⟩ he fun a' w' μ' H => ?_)
          · show Val B _ w μ _ ((vals ++ Array.replicate (fn.ntmps - vals.size) undef).getD t undef) (argSl 0 args t)
            rw [argSl_at, if_pos (Nat.zero_le _), Nat.sub_zero]
            cases hargs : args[t]? with
            | none =>
              have ht : vals.size ≤ t := by rw [hsz]; exact List.getElem?_eq_none_iff.1 hargs
              have hu : (vals ++ Array.replicate (fn.ntmps - vals.size) undef).getD t undef = undef := by
                rw [Array.getD_eq_getD_getElem?, Array.getElem?_append_right ht]
                simp only [Array.getElem?_replicate]
                split <;> rfl
              rw [hu]
              exact ⟨by simp only [Option.getD_none, RepV], by simp [refsV]⟩
            | some x =>
              have ht : t < vals.size := by rw [hsz]; exact (List.getElem?_eq_some_iff.1 hargs).1
              rw [Array.getD_eq_getD_getElem?, Array.getElem?_append_left ht, Array.getElem?_eq_getElem ht]
              exact hv t _ x (Array.getElem?_eq_getElem ht) hargs
          · have fin : ∀ vs, mapO (rv e.2) rs = some vs → finish objs.length (tupOf vs) e.2 = some r → a'.defers = [] ∧ ∃ v, (results fn a'.tmps).run P w' = .ok v w' ∧ (∃ v1 μ1, Ending.returned v = .returned v1 ∧ r.2.1.length = objs.length ∧
                Step B w (MutB (argOb 0 objs) μ) (fun o => o < objs.length) (fun o => o < objs.length + r.2.2.length) w w' μ μ1 (argOb 0 objs) (argOb 0 (r.2.1 ++ r.2.2)) ∧ Val B (fun o => o < objs.length + r.2.2.length) w' μ1 (argOb 0 (r.2.1 ++ r.2.2)) v1 r.1) := by
              intro vs hvs hfin
              obtain ⟨val, hrun, hval⟩ := results_run H.now hrs hvs
              obtain ⟨μ1, h1, h2, h3⟩ := finish_ok H (fun o ho => by rw [argOb_0]; simp [ho]) hval hfin
              exact ⟨H.now.defers, val, hrun, val, μ1, rfl, h1, h2, h3⟩
            cases hex : e.1 with
            | exit id => rw [hex] at h; simp at h
            | normal =>
              rw [hex] at h
              obtain ⟨vs, hvs, h⟩ := Option.bind_eq_some_iff.1 h
              exact fin vs hvs h
            | ret =>
              rw [hex] at h
              obtain ⟨vs, hvs, h⟩ := Option.bind_eq_some_iff.1 h
              exact fin vs hvs h
      · cases hcomp
end
end Go.Proofs.Am
set_option linter.unusedVariables false
set_option linter.unusedSimpArgs false
namespace Go.Proofs.Am
open Go

def Le (c c' : CallT) : Prop := ∀ f a o r, c f a o = some r → c' f a o = some r

section
variable {c c' : CallT}

theorem doCall_mono (h : Le c c') {ob : Heap} {id : Nat} {m : Mode} {f : Nat} {args : List V} {x : V × List (Nat × Obj)} (hx : doCall c ob id m f args = some x) : doCall c' ob id m f args = some x := by
  cases m with
  | pure =>
    simp only [doCall, Option.bind_eq_some_iff] at hx ⊢
    obtain ⟨as, has, r, hr, hx⟩ := hx
    exact ⟨as, has, r, h _ _ _ _ hr, hx⟩
  | byref =>
    simp only [doCall] at hx ⊢
    split at hx
    · cases hx
    · rename_i hc
      rw [if_neg hc]
      simp only [Option.bind_eq_some_iff] at hx ⊢
      obtain ⟨objs, ho, r, hr, hx⟩ := hx
      exact ⟨objs, ho, r, h _ _ _ _ hr, hx⟩

theorem opEval_mono (h : Le c c') {ρ : X → V} {ob : Heap} {id : Nat} {op : AOp} {x : V × List (Nat × Obj)} (hx : opEval c ρ ob id op = some x) : opEval c' ρ ob id op = some x := by
  cases op with
  | call m f args => simp only [opEval] at hx ⊢; exact doCall_mono h hx
  | callv m f args =>
    simp only [opEval] at hx ⊢
    split at hx
    · exact doCall_mono h hx
    · exact doCall_mono h hx
    · cases hx
  | _ => exact hx

theorem opStep_mono (h : Le c c') {base k : Nat} {o : AOper} {s s' : St} (hx : opStep c base k o s = some s') : opStep c' base k o s = some s' := by
  rw [opStep_res] at hx ⊢
  obtain ⟨p, hp, rfl⟩ := Option.map_eq_some_iff.1 hx
  refine Option.map_eq_some_iff.2 ⟨p, ?_, rfl⟩
  simp only [resA] at hp ⊢
  split at hp
  · exact opEval_mono h hp
  · split at hp
    · split at hp
      · rename_i e; rw [if_pos e]; exact opEval_mono h hp
      · rename_i e; rw [if_neg e]; exact hp
    · exact hp
    · cases hp

theorem ops_mono (h : Le c c') {base : Nat} : ∀ {r : List (Nat × AOper)} {s s' : St}, ops c base r s = some s' → ops c' base r s = some s'
  | [], s, s', hx => hx
  | (k, o) :: r, s, s', hx => by
    simp only [ops, Option.bind_eq_some_iff] at hx ⊢
    obtain ⟨s1, h1, hx⟩ := hx
    exact ⟨s1, opStep_mono h h1, ops_mono h hx⟩

theorem foots_mono (h : Le c c') {base : Nat} : ∀ {r : List (Nat × AOper)} {s : St} {t : List (List Nat × List Nat)}, foots c base r s = some t → foots c' base r s = some t
  | [], s, t, hx => hx
  | (k, o) :: r, s, t, hx => by
    simp only [foots, Option.bind_eq_some_iff, Option.map_eq_some_iff] at hx ⊢
    obtain ⟨s1, h1, t', h2, rfl⟩ := hx
    exact ⟨s1, opStep_mono h h1, t', foots_mono h h2, rfl⟩

theorem execReg_mono (h : Le c c') {l : List AOper} {chk : List (Nat × Nat)} {s s' : St} (hx : execReg c l chk s = some s') : execReg c' l chk s = some s' := by
  simp only [execReg, Option.bind_eq_some_iff] at hx ⊢
  obtain ⟨s1, h1, hx⟩ := hx
  refine ⟨s1, ops_mono h h1, ?_⟩
  split at hx
  · rename_i hc
    rw [if_pos ?_]
    · exact hx
    · cases chk with
      | nil => rfl
      | cons p r =>
        simp only [chkOK] at hc ⊢
        split at hc
        · rename_i t ht
          rw [foots_mono h ht]
          exact hc
        · cases hc
  · cases hx

theorem iter_mono {b b' : St → Option (Ex × St)} (h : ∀ s r, b s = some r → b' s = some r) {live : List Nat} : ∀ {n n' : Nat} {s : St} {r : Ex × St}, n ≤ n' → iter b live n s = some r → iter b' live n' s = some r
  | 0, n', s, r, _, hx => by simp [iter] at hx
  | n + 1, 0, s, r, hn, _ => by omega
  | n + 1, n' + 1, s, r, hn, hx => by
    simp only [iter, Option.bind_eq_some_iff] at hx ⊢
    obtain ⟨s1, h1, q, h2, hx⟩ := hx
    refine ⟨s1, h1, q, h _ _ h2, ?_⟩
    split at hx
    · exact iter_mono h (by omega) hx
    · exact hx

theorem exec_mono (h : Le c c') {n n' : Nat} (hn : n ≤ n') : ∀ (code : ACode) {s : St} {r : Ex × St}, exec c n code s = some r → exec c' n' code s = some r
  | .skip, s, r, hx => hx
  | .exit _, s, r, hx => hx
  | .ret, s, r, hx => hx
  | .reg l chk, s, r, hx => by
    simp only [exec, Option.map_eq_some_iff] at hx ⊢
    obtain ⟨s1, h1, hx⟩ := hx
    exact ⟨s1, execReg_mono h h1, hx⟩
  | .seq a b, s, r, hx => by
    simp only [exec, Option.bind_eq_some_iff] at hx ⊢
    obtain ⟨q, h1, hx⟩ := hx
    refine ⟨q, exec_mono h hn a h1, ?_⟩
    split at hx
    · exact exec_mono h hn b hx
    · exact hx
  | .cond x a b, s, r, hx => by
    simp only [exec] at hx ⊢
    split at hx
    · split at hx
      · rename_i e; rw [if_pos e]; exact exec_mono h hn a hx
      · rename_i e; rw [if_neg e]; exact exec_mono h hn b hx
    · cases hx
  | .block id a, s, r, hx => by
    simp only [exec, Option.map_eq_some_iff] at hx ⊢
    obtain ⟨q, h1, hx⟩ := hx
    exact ⟨q, exec_mono h hn a h1, hx⟩
  | .loop own live a, s, r, hx => by
    simp only [exec, Option.bind_eq_some_iff] at hx ⊢
    obtain ⟨s1, h1, hx⟩ := hx
    exact ⟨s1, h1, iter_mono (fun s r => exec_mono h hn a) hn hx⟩
  | .scope a, s, r, hx => by
    simp only [exec] at hx ⊢
    exact exec_mono h hn a hx

theorem runF_mono (h : Le c c') {n n' : Nat} (hn : n ≤ n') {af : AFunc} {args : List V} {objs : List Obj} {r : V × List Obj × List Obj} (hx : runF c n af args objs = some r) : runF c' n' af args objs = some r := by
  simp only [runF, Option.bind_eq_some_iff] at hx ⊢
  obtain ⟨q, h1, hx⟩ := hx
  exact ⟨q, exec_mono h hn _ h1, hx⟩
end

section
variable {PF : Nat → Option AFunc} {spec : CallT}

theorem run_succ (k : Nat) : Le (run PF spec k) (run PF spec (k + 1)) := by
  induction k with
  | zero => intro f a o r h; simp [run] at h
  | succ k ih =>
    intro f a o r h
    simp only [run] at h ⊢
    cases hf : PF f with
    | none => rw [hf] at h; exact h
    | some af =>
      rw [hf] at h
      have := runF_mono ih (Nat.le_succ k) h
      simpa only [run] using this

theorem run_le {k k' : Nat} (h : k ≤ k') : Le (run PF spec k) (run PF spec k') := by
  induction h with
  | refl => exact fun f a o r h => h
  | step _ ih => exact fun f a o r h => run_succ _ f a o r (ih f a o r h)

/-- the answer at some fuel, and from there on -/
noncomputable def L (PF : Nat → Option AFunc) (spec : CallT) : CallT := fun f a o => open Classical in if h : ∃ k r, run PF spec k f a o = some r then some h.choose_spec.choose else none

theorem L_iff {f : Nat} {a : List V} {o : List Obj} {r : V × List Obj × List Obj} : L PF spec f a o = some r ↔ ∃ k, run PF spec k f a o = some r := by
  constructor
  · intro h
    unfold L at h
    split at h
    · rename_i hh
      cases h
      exact ⟨_, hh.choose_spec.choose_spec⟩
    · cases h
  · rintro ⟨k, h⟩
    have hh : ∃ k r, run PF spec k f a o = some r := ⟨k, r, h⟩
    unfold L
    rw [dif_pos hh]
    have h2 := hh.choose_spec.choose_spec
    rcases Nat.le_total k hh.choose with hle | hle
    · exact h2.symm.trans (run_le hle f a o r h)
    · exact (run_le hle f a o _ h2).symm.trans h

theorem L_ok {P : Program} (hP : Linked P PF) (hspec : CallOK P spec) : CallOK P (L PF spec) := fun f args objs r h => by
  obtain ⟨k, h⟩ := L_iff.1 h
  exact run_ok hP hspec k f args objs r h

theorem doCall_cont {ob : Heap} {id : Nat} {m : Mode} {f : Nat} {args : List V} {x : V × List (Nat × Obj)} (hx : doCall (L PF spec) ob id m f args = some x) : ∃ k, doCall (run PF spec k) ob id m f args = some x := by
  cases m with
  | pure =>
    simp only [doCall, Option.bind_eq_some_iff] at hx ⊢
    obtain ⟨as, has, r, hr, hx⟩ := hx
    obtain ⟨k, hk⟩ := L_iff.1 hr
    exact ⟨k, as, has, r, hk, hx⟩
  | byref =>
    simp only [doCall] at hx ⊢
    split at hx
    · cases hx
    · rename_i hc
      simp only [if_neg hc]
      simp only [Option.bind_eq_some_iff] at hx ⊢
      obtain ⟨objs, ho, r, hr, hx⟩ := hx
      obtain ⟨k, hk⟩ := L_iff.1 hr
      exact ⟨k, objs, ho, r, hk, hx⟩

theorem opEval_cont {ρ : X → V} {ob : Heap} {id : Nat} {op : AOp} {x : V × List (Nat × Obj)} (hx : opEval (L PF spec) ρ ob id op = some x) : ∃ k, opEval (run PF spec k) ρ ob id op = some x := by
  cases op with
  | call m f args => simp only [opEval] at hx ⊢; exact doCall_cont hx
  | callv m f args =>
    simp only [opEval] at hx ⊢
    split at hx
    · exact doCall_cont hx
    · exact doCall_cont hx
    · cases hx
  | _ => exact ⟨0, hx⟩

theorem opStep_cont {base k : Nat} {o : AOper} {s s' : St} (hx : opStep (L PF spec) base k o s = some s') : ∃ q, opStep (run PF spec q) base k o s = some s' := by
  rw [opStep_res] at hx
  simp only [opStep_res]
  obtain ⟨p, hp, rfl⟩ := Option.map_eq_some_iff.1 hx
  suffices h : ∃ q, resA (run PF spec q) base k o s = some p by
    obtain ⟨q, hq⟩ := h
    exact ⟨q, Option.map_eq_some_iff.2 ⟨p, hq, rfl⟩⟩
  simp only [resA] at hp ⊢
  split at hp
  · exact opEval_cont hp
  · split at hp
    · split at hp
      · rename_i e; simp only [if_pos e]; exact opEval_cont hp
      · rename_i e; simp only [if_neg e]; exact ⟨0, hp⟩
    · exact ⟨0, hp⟩
    · cases hp

theorem ops_cont {base : Nat} : ∀ {r : List (Nat × AOper)} {s s' : St}, ops (L PF spec) base r s = some s' → ∃ q, ops (run PF spec q) base r s = some s'
  | [], s, s', hx => ⟨0, hx⟩
  | (k, o) :: r, s, s', hx => by
    simp only [ops, Option.bind_eq_some_iff] at hx ⊢
    obtain ⟨s1, h1, hx⟩ := hx
    obtain ⟨q1, h1⟩ := opStep_cont h1
    obtain ⟨q2, h2⟩ := ops_cont hx
    exact ⟨max q1 q2, s1, opStep_mono (run_le (Nat.le_max_left _ _)) h1, ops_mono (run_le (Nat.le_max_right _ _)) h2⟩

theorem foots_cont {base : Nat} : ∀ {r : List (Nat × AOper)} {s : St} {t : List (List Nat × List Nat)}, foots (L PF spec) base r s = some t → ∃ q, foots (run PF spec q) base r s = some t
  | [], s, s', hx => ⟨0, hx⟩
  | (k, o) :: r, s, s', hx => by
    simp only [foots, Option.bind_eq_some_iff, Option.map_eq_some_iff] at hx ⊢
    obtain ⟨s1, h1, t, hx, rfl⟩ := hx
    obtain ⟨q1, h1⟩ := opStep_cont h1
    obtain ⟨q2, h2⟩ := foots_cont hx
    exact ⟨max q1 q2, s1, opStep_mono (run_le (Nat.le_max_left _ _)) h1, t, foots_mono (run_le (Nat.le_max_right _ _)) h2, rfl⟩

theorem execReg_cont {l : List AOper} {chk : List (Nat × Nat)} {s s' : St} (hx : execReg (L PF spec) l chk s = some s') : ∃ q, execReg (run PF spec q) l chk s = some s' := by
  simp only [execReg, Option.bind_eq_some_iff] at hx ⊢
  obtain ⟨s1, h1, hx⟩ := hx
  obtain ⟨q1, h1⟩ := ops_cont h1
  split at hx
  · rename_i hc
    cases chk with
    | nil => exact ⟨q1, s1, h1, hx⟩
    | cons p r =>
      simp only [chkOK] at hc
      split at hc
      · rename_i t ht
        obtain ⟨q2, h2⟩ := foots_cont ht
        refine ⟨max q1 q2, s1, ops_mono (run_le (Nat.le_max_left _ _)) h1, ?_⟩
        rw [if_pos ?_]
        · exact hx
        · simp only [chkOK, foots_mono (run_le (Nat.le_max_right q1 q2)) h2]
          exact hc
      · cases hc
  · cases hx

theorem exec_cont {n : Nat} : ∀ (code : ACode) {s : St} {r : Ex × St}, exec (L PF spec) n code s = some r → ∃ q, exec (run PF spec q) n code s = some r
  | .skip, s, r, hx => ⟨0, hx⟩
  | .exit _, s, r, hx => ⟨0, hx⟩
  | .ret, s, r, hx => ⟨0, hx⟩
  | .reg l chk, s, r, hx => by
    simp only [exec, Option.map_eq_some_iff] at hx ⊢
    obtain ⟨s1, h1, hx⟩ := hx
    obtain ⟨q, h1⟩ := execReg_cont h1
    exact ⟨q, s1, h1, hx⟩
  | .seq a b, s, r, hx => by
    simp only [exec, Option.bind_eq_some_iff] at hx ⊢
    obtain ⟨x, h1, hx⟩ := hx
    obtain ⟨q1, h1⟩ := exec_cont a h1
    split at hx
    · rename_i e
      obtain ⟨q2, h2⟩ := exec_cont b hx
      refine ⟨max q1 q2, x, exec_mono (run_le (Nat.le_max_left _ _)) (Nat.le_refl _) a h1, ?_⟩
      rw [e]
      exact exec_mono (run_le (Nat.le_max_right _ _)) (Nat.le_refl _) b h2
    · rename_i e
      refine ⟨q1, x, h1, ?_⟩
      split
      · rename_i e2; exact absurd e2 e
      · exact hx
  | .cond x a b, s, r, hx => by
    simp only [exec] at hx ⊢
    split at hx
    · split at hx
      · rename_i e; simp only [if_pos e]; exact exec_cont a hx
      · rename_i e; simp only [if_neg e]; exact exec_cont b hx
    · cases hx
  | .block id a, s, r, hx => by
    simp only [exec, Option.map_eq_some_iff] at hx ⊢
    obtain ⟨x, h1, hx⟩ := hx
    obtain ⟨q, h1⟩ := exec_cont a h1
    exact ⟨q, x, h1, hx⟩
  | .scope a, s, r, hx => by
    simp only [exec] at hx ⊢
    exact exec_cont a hx
  | .loop own live a, s, r, hx => by
    simp only [exec, Option.bind_eq_some_iff] at hx ⊢
    obtain ⟨s1, h1, hx⟩ := hx
    suffices h : ∀ (k : Nat) {s : St} {r : Ex × St}, iter (exec (L PF spec) n a) live k s = some r → ∃ q, iter (exec (run PF spec q) n a) live k s = some r by
      obtain ⟨q, hq⟩ := h n hx
      exact ⟨q, s1, h1, hq⟩
    intro k
    induction k with
    | zero => intro s r h; simp [iter] at h
    | succ k ih =>
      intro s r h
      simp only [iter, Option.bind_eq_some_iff] at h ⊢
      obtain ⟨s2, h2, x, h3, h⟩ := h
      obtain ⟨q1, h3⟩ := exec_cont a h3
      split at h
      · rename_i e
        obtain ⟨q2, h4⟩ := ih h
        refine ⟨max q1 q2, s2, h2, x, exec_mono (run_le (Nat.le_max_left _ _)) (Nat.le_refl _) a h3, ?_⟩
        rw [e]
        exact iter_mono (fun s r => exec_mono (run_le (Nat.le_max_right _ _)) (Nat.le_refl _) a) (Nat.le_refl _) h4
      · rename_i e
        refine ⟨q1, s2, h2, x, h3, ?_⟩
        split
        · rename_i e2; exact absurd e2 e
        · exact h

/-- THE EQUATION OF A FUNCTION -/
theorem L_of {f : Nat} {af : AFunc} (hf : PF f = some af) {n : Nat} {args : List V} {objs : List Obj} {r : V × List Obj × List Obj} (h : runF (L PF spec) n af args objs = some r) : L PF spec f args objs = some r := by
  simp only [runF, Option.bind_eq_some_iff] at h
  obtain ⟨q, h1, h⟩ := h
  obtain ⟨k, hk⟩ := exec_cont _ h1
  refine L_iff.2 ⟨max k n + 1, ?_⟩
  simp only [run, hf]
  refine runF_mono (run_le (Nat.le_max_left k n)) (Nat.le_max_right k n) (c := run PF spec k) ?_
  simp only [runF, Option.bind_eq_some_iff]
  exact ⟨q, hk, h⟩
theorem L_spec {f : Nat} (hf : PF f = none) {args : List V} {objs : List Obj} {r : V × List Obj × List Obj} (h : spec f args objs = some r) : L PF spec f args objs = some r :=
  L_iff.2 ⟨1, by simp only [run, hf]; exact h⟩
end
end Go.Proofs.Am
set_option linter.unusedVariables false
set_option linter.unusedSimpArgs false
namespace Go.Proofs.Am
open Go

/-- what is left to be done behind a piece of code -/
inductive Fm where
  | seq (b : ACode)
  | block (id : Nat)
  | loop (live : List Nat) (a : ACode)

def thru (c : CallT) (n : Nat) : List Fm → Ex → St → Option (Ex × St)
  | [], e, s => some (e, s)
  | .seq b :: fs, e, s => match e with
    | .normal => (exec c n b s).bind fun r => thru c n fs r.1 r.2
    | e => thru c n fs e s
  | .block id :: fs, e, s => match e with
    | .exit j => if j = id then thru c n fs .normal s else thru c n fs (.exit j) s
    | e => thru c n fs e s
  | .loop live a :: fs, e, s => match e with
    | .normal => (iter (exec c n a) live n s).bind fun r => thru c n fs r.1 r.2
    | e => thru c n fs e s

theorem thru_mono {c : CallT} {n n' : Nat} (hn : n ≤ n') : ∀ {fs : List Fm} {e : Ex} {s : St} {r : Ex × St}, thru c n fs e s = some r → thru c n' fs e s = some r
  | [], e, s, r, h => h
  | .seq b :: fs, e, s, r, h => by
    cases e with
    | normal =>
      simp only [thru, Option.bind_eq_some_iff] at h ⊢
      obtain ⟨q, h1, h2⟩ := h
      exact ⟨q, exec_mono (fun _ _ _ _ h => h) hn b h1, thru_mono hn h2⟩
    | exit j => simp only [thru] at h ⊢; exact thru_mono hn h
    | ret => simp only [thru] at h ⊢; exact thru_mono hn h
  | .block id :: fs, e, s, r, h => by
    cases e with
    | exit j =>
      simp only [thru] at h ⊢
      split at h
      · rename_i hj; rw [if_pos hj]; exact thru_mono hn h
      · rename_i hj; rw [if_neg hj]; exact thru_mono hn h
    | normal => simp only [thru] at h ⊢; exact thru_mono hn h
    | ret => simp only [thru] at h ⊢; exact thru_mono hn h
  | .loop live a :: fs, e, s, r, h => by
    cases e with
    | normal =>
      simp only [thru, Option.bind_eq_some_iff] at h ⊢
      obtain ⟨q, h1, h2⟩ := h
      exact ⟨q, iter_mono (fun s r => exec_mono (fun _ _ _ _ h => h) hn a) hn h1, thru_mono hn h2⟩
    | exit j => simp only [thru] at h ⊢; exact thru_mono hn h
    | ret => simp only [thru] at h ⊢; exact thru_mono hn h

/-- coming out of a piece of code -/
def Uw (c : CallT) (fs : List Fm) (Q : Ex → St → Prop) (e : Ex) (s : St) : Prop := ∃ n r, thru c n fs e s = some r ∧ Q r.1 r.2
/-- running a piece of code -/
def Ev (c : CallT) (a : ACode) (fs : List Fm) (Q : Ex → St → Prop) (s : St) : Prop := ∃ n r, ((exec c n a s).bind fun r => thru c n fs r.1 r.2) = some r ∧ Q r.1 r.2
/-- a round of a loop begins, behind its head -/
def Lh (c : CallT) (live : List Nat) (a : ACode) (fs : List Fm) (Q : Ex → St → Prop) (s : St) : Prop := Ev c a (.loop live a :: fs) Q s
/-- at a loop's head -/
def Lc (c : CallT) (live : List Nat) (a : ACode) (fs : List Fm) (Q : Ex → St → Prop) : Option St → Prop
  | some s => Lh c live a fs Q s
  | none => False
/-- operations -/
def Os (c : CallT) (r : List AOper) (k base nx : Nat) (fs : List Fm) (Q : Ex → St → Prop) (s : St) : Prop :=
  ∃ s', ops c base (enum k r) s = some s' ∧ Uw c fs Q .normal { s' with nx := nx }
/-- behind an operation that has an answer -/
def Af (c : CallT) (d : Option Nat) (r : List AOper) (k base nx : Nat) (fs : List Fm) (Q : Ex → St → Prop) (s : St) : Option (V × List (Nat × Obj)) → Prop
  | some p => Os c r k base nx fs Q ({ s with ob := updAll s.ob p.2 }.put d p.1)
  | none => False
/-- an operation under a guard -/
def Gd (c : CallT) (d : Option Nat) (op : AOp) (r : List AOper) (k base nx : Nat) (fs : List Fm) (Q : Ex → St → Prop) (s : St) : V → Bool → Prop
  | .d (.bool b), w => if b = w then Af c d r (k + 1) base nx fs Q s (opEval c s.val s.ob (base + k * bound) op) else Os c r (k + 1) base nx fs Q (s.put d .undef)
  | .undef, _ => Os c r (k + 1) base nx fs Q (s.put d .undef)
  | _, _ => False
/-- a branch -/
def Br (c : CallT) (a b : ACode) (fs : List Fm) (Q : Ex → St → Prop) (s : St) (v : V) : Prop := match v with
  | .d (.bool t) => (t = true → Ev c a fs Q s) ∧ (t = false → Ev c b fs Q s)
  | _ => False

section
variable {c : CallT} {fs : List Fm} {Q : Ex → St → Prop} {s : St} {a b : ACode}

theorem Br_true : Br c a b fs Q s (.d (.bool true)) = Ev c a fs Q s := by simp [Br]
theorem Br_false : Br c a b fs Q s (.d (.bool false)) = Ev c b fs Q s := by simp [Br]
theorem Br_mk {x : Bool} (h1 : x = true → Ev c a fs Q s) (h2 : x = false → Ev c b fs Q s) : Br c a b fs Q s (.d (.bool x)) := ⟨h1, h2⟩
section
variable {k base nx : Nat} {r : List AOper} {op : AOp} {d : Option Nat}
theorem Gd_tt : Gd c d op r k base nx fs Q s (.d (.bool true)) true = Af c d r (k + 1) base nx fs Q s (opEval c s.val s.ob (base + k * bound) op) := by simp [Gd]
theorem Gd_ff : Gd c d op r k base nx fs Q s (.d (.bool false)) false = Af c d r (k + 1) base nx fs Q s (opEval c s.val s.ob (base + k * bound) op) := by simp [Gd]
theorem Gd_tf : Gd c d op r k base nx fs Q s (.d (.bool true)) false = Os c r (k + 1) base nx fs Q (s.put d .undef) := by simp [Gd]
theorem Gd_ft : Gd c d op r k base nx fs Q s (.d (.bool false)) true = Os c r (k + 1) base nx fs Q (s.put d .undef) := by simp [Gd]
theorem Gd_undef {w : Bool} : Gd c d op r k base nx fs Q s .undef w = Os c r (k + 1) base nx fs Q (s.put d .undef) := by simp [Gd]
theorem Gd_mk {x : Bool} {w : Bool} (h1 : x = true → Gd c d op r k base nx fs Q s (.d (.bool true)) w) (h2 : x = false → Gd c d op r k base nx fs Q s (.d (.bool false)) w) : Gd c d op r k base nx fs Q s (.d (.bool x)) w := by
  cases x
  · exact h2 rfl
  · exact h1 rfl
end

theorem Uw_nil {e : Ex} : Uw c [] Q e s = Q e s := by simp [Uw, thru]
theorem Uw_seq : Uw c (.seq b :: fs) Q .normal s = Ev c b fs Q s := rfl
theorem Uw_seq_ret : Uw c (.seq b :: fs) Q .ret s = Uw c fs Q .ret s := rfl
theorem Uw_seq_exit {j : Nat} : Uw c (.seq b :: fs) Q (.exit j) s = Uw c fs Q (.exit j) s := rfl
theorem Uw_block {i : Nat} : Uw c (.block i :: fs) Q .normal s = Uw c fs Q .normal s := rfl
theorem Uw_block_ret {i : Nat} : Uw c (.block i :: fs) Q .ret s = Uw c fs Q .ret s := rfl
theorem Uw_block_exit {i j : Nat} : Uw c (.block i :: fs) Q (.exit j) s = if j = i then Uw c fs Q .normal s else Uw c fs Q (.exit j) s := by
  simp only [Uw, thru]; split <;> rfl
theorem Uw_loop_ret {live : List Nat} : Uw c (.loop live a :: fs) Q .ret s = Uw c fs Q .ret s := rfl
theorem Uw_loop_exit {live : List Nat} {j : Nat} : Uw c (.loop live a :: fs) Q (.exit j) s = Uw c fs Q (.exit j) s := rfl

theorem Ev_skip : Ev c .skip fs Q s = Uw c fs Q .normal s := rfl
theorem Ev_ret : Ev c .ret fs Q s = Uw c fs Q .ret s := rfl
theorem Ev_exit {j : Nat} : Ev c (.exit j) fs Q s = Uw c fs Q (.exit j) s := rfl
theorem Ev_scope : Ev c (.scope a) fs Q s = Ev c a fs Q s := rfl
theorem Ev_seq : Ev c (.seq a b) fs Q s = Ev c a (.seq b :: fs) Q s := by
  unfold Ev
  congr; funext n; congr; funext r; congr 2
  simp only [exec]
  cases exec c n a s with
  | none => rfl
  | some q =>
    obtain ⟨e, s'⟩ := q
    cases e <;> rfl
theorem Ev_block {i : Nat} : Ev c (.block i a) fs Q s = Ev c a (.block i :: fs) Q s := by
  unfold Ev
  congr; funext n; congr; funext r; congr 2
  simp only [exec]
  cases exec c n a s with
  | none => rfl
  | some q =>
    obtain ⟨e, s'⟩ := q
    cases e with
    | exit j => simp only [Option.map_some, Option.bind_some, thru]; split <;> rfl
    | _ => rfl
theorem Ev_cond {x : X} : Ev c (.cond x a b) fs Q s = Br c a b fs Q s (s.val x) := by
  unfold Ev
  simp only [exec]
  generalize s.val x = v
  cases v with
  | d y =>
    cases y with
    | bool t => cases t <;> simp [Br, Ev]
    | _ => simp [Br]
  | _ => simp [Br]
theorem Uw_loop {live : List Nat} : Uw c (.loop live a :: fs) Q .normal s = Lc c live a fs Q (clean live s) := by
  apply propext
  constructor
  · rintro ⟨n, r, h, hq⟩
    simp only [thru] at h
    cases n with
    | zero => simp [iter] at h
    | succ n =>
      simp only [iter] at h
      cases hc : clean live s with
      | none => rw [hc] at h; simp at h
      | some s1 =>
        rw [hc] at h
        simp only [Option.bind_some] at h
        refine ⟨n + 1, r, ?_, hq⟩
        cases hb : exec c (n + 1) a s1 with
        | none => rw [hb] at h; simp at h
        | some q =>
          rw [hb] at h
          obtain ⟨e, s2⟩ := q
          cases e with
          | normal =>
            simp only [Option.bind_some, thru] at h ⊢
            cases hi : iter (exec c (n + 1) a) live n s2 with
            | none => rw [hi] at h; simp at h
            | some q =>
              rw [hi] at h
              rw [iter_mono (fun _ _ h => h) (Nat.le_succ n) hi]
              exact h
          | exit j => simpa [thru] using h
          | ret => simpa [thru] using h
  · intro h
    cases hc : clean live s with
    | none => rw [hc] at h; exact h.elim
    | some s1 =>
      rw [hc] at h
      obtain ⟨n, r, h, hq⟩ := h
      refine ⟨n + 1, r, ?_, hq⟩
      simp only [thru, iter, hc, Option.bind_some]
      cases hb : exec c n a s1 with
      | none => rw [hb] at h; simp at h
      | some q =>
        rw [hb] at h
        rw [exec_mono (fun _ _ _ _ h => h) (Nat.le_succ n) a hb]
        obtain ⟨e, s2⟩ := q
        cases e with
        | normal =>
          simp only [Option.bind_some, thru] at h ⊢
          cases hi : iter (exec c n a) live n s2 with
          | none => rw [hi] at h; simp at h
          | some q =>
            rw [hi] at h
            rw [iter_mono (fun s r => exec_mono (fun _ _ _ _ h => h) (Nat.le_succ n) a) (Nat.le_refl _) hi]
            exact thru_mono (Nat.le_succ n) h
        | exit j => simp only [Option.bind_some, thru] at h ⊢; exact thru_mono (Nat.le_succ n) h
        | ret => simp only [Option.bind_some, thru] at h ⊢; exact thru_mono (Nat.le_succ n) h
theorem Lc_some {live : List Nat} : Lc c live a fs Q (some s) = Lh c live a fs Q s := rfl
/-- the loop's head: what it starts from -/
def Lo (c : CallT) (live : List Nat) (a : ACode) (fs : List Fm) (Q : Ex → St → Prop) : Option St → Prop
  | some s => Uw c (.loop live a :: fs) Q .normal s
  | none => False
theorem Ev_loop {own : List OwnAt} {live : List Nat} : Ev c (.loop own live a) fs Q s = Lo c live a fs Q (ownAt s own) := by
  unfold Ev
  simp only [exec]
  cases ownAt s own with
  | none => simp [Lo]
  | some s => rfl
theorem Lo_some {live : List Nat} : Lo c live a fs Q (some s) = Uw c (.loop live a :: fs) Q .normal s := rfl

theorem Ev_reg {l : List AOper} : Ev c (.reg l []) fs Q s = Os c l 0 s.nx (s.nx + l.length * bound) fs Q s := by
  apply propext
  simp only [Ev, exec, execReg, chkOK, if_true, Os, Uw]
  constructor
  · rintro ⟨n, r, h, hq⟩
    cases ho : ops c s.nx (enum 0 l) s with
    | none => rw [ho] at h; simp at h
    | some s' => rw [ho] at h; exact ⟨s', rfl, n, r, by simpa using h, hq⟩
  · rintro ⟨s', ho, n, r, h, hq⟩
    exact ⟨n, r, by simpa [ho] using h, hq⟩
theorem Ev_reg_chk {l : List AOper} {p : Nat × Nat} {q : List (Nat × Nat)} : Ev c (.reg l (p :: q)) fs Q s = (chkOK c l (p :: q) s = true ∧ Os c l 0 s.nx (s.nx + l.length * bound) fs Q s) := by
  apply propext
  simp only [Ev, exec, execReg, Os, Uw]
  constructor
  · rintro ⟨n, r, h, hq⟩
    cases ho : ops c s.nx (enum 0 l) s with
    | none => rw [ho] at h; simp at h
    | some s' =>
      rw [ho] at h
      simp only [Option.bind_some] at h
      split at h
      · rename_i hk; exact ⟨hk, s', rfl, n, r, by simpa using h, hq⟩
      · simp at h
  · rintro ⟨hk, s', ho, n, r, h, hq⟩
    exact ⟨n, r, by simpa [ho, hk] using h, hq⟩

variable {k base nx : Nat} {r : List AOper} {op : AOp} {d : Option Nat}
theorem Os_nil : Os c [] k base nx fs Q s = Uw c fs Q .normal ⟨s.sl, s.ob, nx, s.m⟩ := by simp [Os, ops, enum]
theorem Os_cons : Os c (⟨d, op, none⟩ :: r) k base nx fs Q s = Af c d r (k + 1) base nx fs Q s (opEval c s.val s.ob (base + k * bound) op) := by
  simp only [Os, enum, ops, opStep]
  cases opEval c s.val s.ob (base + k * bound) op with
  | none => simp [Af]
  | some p => rfl
theorem Os_guard {g : Nat} {w : Bool} : Os c (⟨d, op, some (g, w)⟩ :: r) k base nx fs Q s = Gd c d op r k base nx fs Q s (s.sl g) w := by
  simp only [Os, enum, ops, opStep]
  generalize s.sl g = v
  cases v with
  | d y =>
    cases y with
    | bool b =>
      simp only [Gd]
      split
      · cases opEval c s.val s.ob (base + k * bound) op with
        | none => simp [Af]
        | some p => rfl
      · rfl
    | _ => simp [Gd]
  | undef => rfl
  | _ => simp [Gd]
theorem Af_some {t : Nat} {p : V × List (Nat × Obj)} {sl : Nat → V} {ob : Heap} {nx0 m : Nat} : Af c (some t) r k base nx fs Q ⟨sl, ob, nx0, m⟩ (some p) = Os c r k base nx fs Q ⟨upd sl t p.1, updAll ob p.2, nx0, m⟩ := rfl
theorem Af_none {p : V × List (Nat × Obj)} {sl : Nat → V} {ob : Heap} {nx0 m : Nat} : Af c none r k base nx fs Q ⟨sl, ob, nx0, m⟩ (some p) = Os c r k base nx fs Q ⟨sl, updAll ob p.2, nx0, m⟩ := rfl
theorem put_undef {t : Nat} {v : V} {sl : Nat → V} {ob : Heap} {nx0 m : Nat} : (St.mk sl ob nx0 m).put (some t) v = ⟨upd sl t v, ob, nx0, m⟩ := rfl
theorem put_none {v : V} {sl : Nat → V} {ob : Heap} {nx0 m : Nat} : (St.mk sl ob nx0 m).put none v = ⟨sl, ob, nx0, m⟩ := rfl
theorem val_t {t : Nat} : s.val (.t t) = s.sl t := rfl
theorem val_c {v : V} : s.val (.c v) = v := rfl
theorem upd_lit {α : Type} (f : Nat → α) (n m : Nat) (a : α) : upd f n a m = if m = n then a else f m := rfl

/-- the end of a function: its answer -/
def Fin (rs : List RV) (m : Nat) (R : V × List Obj × List Obj) (e : Ex) (s : St) : Prop := match e with
  | .exit _ => False
  | _ => ((mapO (rv s) rs).bind fun vs => finish m (tupOf vs) s) = some R
theorem Fin_ret {rs : List RV} {m : Nat} {R : V × List Obj × List Obj} : Fin rs m R .ret s = (((mapO (rv s) rs).bind fun vs => finish m (tupOf vs) s) = some R) := rfl
theorem Fin_normal {rs : List RV} {m : Nat} {R : V × List Obj × List Obj} : Fin rs m R .normal s = (((mapO (rv s) rs).bind fun vs => finish m (tupOf vs) s) = some R) := rfl
end

/-- the end of a function: what holds of its answer -/
def FinP (rs : List RV) (m : Nat) (P : V × List Obj × List Obj → Prop) (e : Ex) (s : St) : Prop := match e with
  | .exit _ => False
  | _ => ∃ R, ((mapO (rv s) rs).bind fun vs => finish m (tupOf vs) s) = some R ∧ P R
theorem FinP_ret {rs : List RV} {m : Nat} {P : V × List Obj × List Obj → Prop} {s : St} : FinP rs m P .ret s = ∃ R, ((mapO (rv s) rs).bind fun vs => finish m (tupOf vs) s) = some R ∧ P R := rfl
theorem FinP_normal {rs : List RV} {m : Nat} {P : V × List Obj × List Obj → Prop} {s : St} : FinP rs m P .normal s = ∃ R, ((mapO (rv s) rs).bind fun vs => finish m (tupOf vs) s) = some R ∧ P R := rfl

/-- a state at a loop's head: the live slots' values -/
def hd (live : List Nat) (vs : List V) (obs : List (Nat × Obj)) (nx m : Nat) : St := ⟨(live.zip vs).foldr (fun p f => upd f p.1 p.2) (fun _ => .dead), obs.foldr (fun p f => upd f p.1 (some p.2)) (fun _ => none), nx, m⟩

/-- A LOOP: its states at the head, a measure, and what is kept -/
theorem Lh_ind {α : Type} (I : α → St) (μ : α → Nat) (P : α → Prop) (x0 : α) {c : CallT} {live : List Nat} {a : ACode} {fs : List Fm} {Q : Ex → St → Prop} {s : St} (hs : s = I x0) (h0 : P x0)
    (step : ∀ x, P x → (∀ y, μ y < μ x → P y → Lh c live a fs Q (I y)) → Ev c a (.loop live a :: fs) Q (I x)) : Lh c live a fs Q s := by
  subst hs
  suffices h : ∀ n x, μ x < n → P x → Lh c live a fs Q (I x) from h _ x0 (Nat.lt_succ_self _) h0
  intro n
  induction n with
  | zero => intro x h; omega
  | succ n ih => intro x hx hp; exact step x hp fun y hy hpy => ih y (by omega) hpy

/-- A LOOP OVER A LIST: its states at the head, what is kept of the part that is left -/
theorem Lh_list {α β : Type} (l : List β) (I : Nat → α → St) (P : Nat → α → List β → Prop) (a0 : α) {c : CallT} {live : List Nat} {code : ACode} {fs : List Fm} {Q : Ex → St → Prop} {s : St} (hl : l.length ≤ 4611686018427387904) (hs : s = I 0 a0) (h0 : P 0 a0 l)
    (step : ∀ (i : Nat) x r a (hi : i < l.length), l[i] = x → l[i]? = some x → x ∈ l → IntKind.i64.wrap ((i : Int) + 1) = (i : Int) + 1 → P i a (x :: r) → (∀ a', P (i + 1) a' r → Lh c live code fs Q (I (i + 1) a')) → Ev c code (.loop live code :: fs) Q (I i a))
    (last : ∀ a, P l.length a [] → Ev c code (.loop live code :: fs) Q (I l.length a)) : Lh c live code fs Q s := by
  subst hs
  suffices h : ∀ (r : List β) (i : Nat) a, i ≤ l.length → l.drop i = r → P i a r → Lh c live code fs Q (I i a) from h l 0 a0 (Nat.zero_le _) rfl h0
  intro r
  induction r with
  | nil =>
    intro i a hi hd hp
    have : i = l.length := by
      have := congrArg List.length hd
      simp at this
      omega
    subst this
    exact last a hp
  | cons x r ih =>
    intro i a hi hd hp
    have hlt : i < l.length := by
      have := congrArg List.length hd
      simp at this
      omega
    have hx : l[i]? = some x := by
      have := congrArg (·[0]?) hd
      simpa using this
    refine step i x r a hlt (by rw [List.getElem?_eq_getElem hlt] at hx; exact Option.some.inj hx) hx (List.mem_of_getElem? hx) ?_ hp fun a' hp' => ih (i + 1) a' hlt ?_ hp'
    · simp only [IntKind.wrap, IntKind.bits, IntKind.signed]
      simp
      omega
    · rw [← List.tail_drop, hd, List.tail_cons]

/-- A FUNCTION's EQUATION, by running its code -/
theorem G_of {PF : Nat → Option AFunc} {spec : CallT} {f : Nat} {rs : List RV} {body : ACode} (hf : PF f = some ⟨rs, body⟩) {args : List V} {objs : List Obj} {R : V × List Obj × List Obj}
    (h : Ev (L PF spec) body [] (Fin rs objs.length R) ⟨argSl 0 args, argOb 0 objs, objs.length, objs.length⟩) : L PF spec f args objs = some R := by
  obtain ⟨n, r, h, hq⟩ := h
  refine L_of hf (n := n) ?_
  simp only [runF]
  simp only [thru] at h
  cases he : exec (L PF spec) n body ⟨argSl 0 args, argOb 0 objs, objs.length, objs.length⟩ with
  | none => rw [he] at h; simp at h
  | some q =>
    rw [he] at h
    simp only [Option.bind_some, Option.some.injEq] at h
    subst h
    simp only [Option.bind_some]
    cases hx : q.1 with
    | exit j => rw [hx] at hq; exact hq.elim
    | normal => rw [hx] at hq; exact hq
    | ret => rw [hx] at hq; exact hq

theorem G_ex {PF : Nat → Option AFunc} {spec : CallT} {f : Nat} {rs : List RV} {body : ACode} (hf : PF f = some ⟨rs, body⟩) {args : List V} {objs : List Obj} {P : V × List Obj × List Obj → Prop}
    (h : Ev (L PF spec) body [] (FinP rs objs.length P) ⟨argSl 0 args, argOb 0 objs, objs.length, objs.length⟩) : ∃ R, L PF spec f args objs = some R ∧ P R := by
  obtain ⟨n, r, h, hq⟩ := h
  have hq' : ∃ R, Fin rs objs.length R r.1 r.2 ∧ P R := by
    cases he : r.1 with
    | exit j => rw [he] at hq; exact hq.elim
    | normal => rw [he] at hq; obtain ⟨R, h1, h2⟩ := hq; exact ⟨R, h1, h2⟩
    | ret => rw [he] at hq; obtain ⟨R, h1, h2⟩ := hq; exact ⟨R, h1, h2⟩
  obtain ⟨R, h1, h2⟩ := hq'
  exact ⟨R, G_of hf ⟨n, r, h, h1⟩, h2⟩

def iand (k : IntKind) (a b : Int) : Int := k.wrap (BitVec.ofInt k.bits a &&& BitVec.ofInt k.bits b).toNat
def ior (k : IntKind) (a b : Int) : Int := k.wrap (BitVec.ofInt k.bits a ||| BitVec.ofInt k.bits b).toNat
def ixor (k : IntKind) (a b : Int) : Int := k.wrap (BitVec.ofInt k.bits a ^^^ BitVec.ofInt k.bits b).toNat
section
variable {k : IntKind} {a b : Int}
theorem bi_add : binInt .add k a b = some (.int k (k.wrap (a + b))) := rfl
theorem bi_sub : binInt .sub k a b = some (.int k (k.wrap (a - b))) := rfl
theorem bi_mul : binInt .mul k a b = some (.int k (k.wrap (a * b))) := rfl
theorem bi_quo : binInt .quo k a b = if b = 0 then none else some (.int k (k.wrap (a.tdiv b))) := rfl
theorem bi_rem : binInt .rem k a b = if b = 0 then none else some (.int k (a.tmod b)) := rfl
theorem bi_and : binInt .and k a b = some (.int k (iand k a b)) := rfl
theorem bi_or : binInt .or k a b = some (.int k (ior k a b)) := rfl
theorem bi_xor : binInt .xor k a b = some (.int k (ixor k a b)) := rfl
theorem bi_eql : binInt .eql k a b = some (.bool (decide (a = b))) := rfl
theorem bi_neq : binInt .neq k a b = some (.bool (!decide (a = b))) := rfl
theorem bi_lss : binInt .lss k a b = some (.bool (decide (a < b))) := rfl
theorem bi_leq : binInt .leq k a b = some (.bool (decide (a ≤ b))) := rfl
theorem bi_gtr : binInt .gtr k a b = some (.bool (decide (b < a))) := rfl
theorem bi_geq : binInt .geq k a b = some (.bool (decide (b ≤ a))) := rfl
end
theorem view_ds (ob : Heap) (n : Nat) (ds : List D) : mapO (view ob (n + 1)) (ds.map .d) = some ds := by
  induction ds with
  | nil => rfl
  | cons d r ih => simp [mapO, view, ih]
theorem pureV_ds (ob : Heap) (ds : List D) : mapO (pureV ob) (ds.map .d) = some (ds.map toV) := by
  induction ds with
  | nil => rfl
  | cons d r ih => simp [mapO, view, pureV, deep, ih]
theorem refsL_ds (ds : List D) : refsL (ds.map .d) = [] := by
  induction ds with
  | nil => rfl
  | cons d r ih => simp [refsL, refsV, ih]

/-- each element of so many cells? -/
def allLen (esz : Nat) (l : List (List D)) : Bool := l.all fun c => c.length == esz
theorem allLen_fold {esz : Nat} {l : List (List D)} : (l.all fun c => c.length == esz) = allLen esz l := rfl
theorem allLen_nil {esz : Nat} : allLen esz [] = true := rfl
theorem allLen_cons {esz : Nat} {c : List D} {l : List (List D)} : allLen esz (c :: l) = (c.length == esz && allLen esz l) := rfl
theorem allLen_append {esz : Nat} {a b : List (List D)} : allLen esz (a ++ b) = (allLen esz a && allLen esz b) := List.all_append
theorem allLen_map {α : Type} {f : α → List D} {esz : Nat} {l : List α} (h : ∀ a, (f a).length = esz) : allLen esz (l.map f) = true := by
  simp [allLen, h]
/-- an answer that is a bool -/
def IsB (R : V × List Obj × List Obj) : Prop := ∃ b, R = (.d (.bool b), [], [])
attribute [simp] chkOK foots fpA dynF clsF isRead isShape isWriter xsOf tgtX enum opStep
attribute [simp] allLen_fold allLen_nil allLen_cons allLen_append allLen_map
attribute [simp] Br_true Br_false Gd_tt Gd_ff Gd_tf Gd_ft Gd_undef Uw_nil Uw_seq Uw_seq_ret Uw_seq_exit Uw_block Uw_block_ret Uw_block_exit Uw_loop_ret Uw_loop_exit Ev_skip Ev_ret Ev_exit Ev_scope Ev_seq Ev_block Ev_cond Uw_loop Lc_some Ev_loop Lo_some Ev_reg Ev_reg_chk Os_nil Os_cons Os_guard Af_some Af_none put_undef put_none val_t val_c upd_lit Fin_ret Fin_normal FinP_ret FinP_normal opEval updAll bound argSl argOb cellsOf loadFrom Am.part binD bi_add bi_sub bi_mul bi_quo bi_rem bi_and bi_or bi_xor bi_eql bi_neq bi_lss bi_leq bi_gtr bi_geq shiftInt unD convD pickV rv mapO tupOf finish pureV view deep toV liveRef elemsOf ownAt clean refsL refsV reach closed keepSl keepOb maxId heldBy doCall asIdx hd view_ds pureV_ds refsL_ds scalarV scalarD scalarVs scalarDs refsO setCells buildOn bnd lenOK rowPart liveRow one1 eqLeaf eqLeaves freezes rowCells ownRow renV renL renO idxOf backId enumUpd newUpd
end Go.Proofs.Am
