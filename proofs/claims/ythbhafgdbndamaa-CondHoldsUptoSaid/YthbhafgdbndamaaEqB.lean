/- Equations: matching, the program's own way: where a part can end. Equations: matching, the document's way (places as a row of bools). Equations: conditions. Equations: copies, and what is the same. -/
import Derived.Test.YthbhafgdbndamaaEqA
import Derived.Test.YthbhafgdbndamaaAmD
set_option linter.unusedVariables false
set_option linter.unusedSimpArgs false
set_option maxRecDepth 10000
namespace Go.Proofs.Ythbhafgdbndamaa
open Go Go.Proofs.Am Go.Proofs.Dr

/-- what 'ends' answers -/
def EndsP (w : List Int) (p : Pt) (x : Pl) (R : V × List Am.Obj × List Am.Obj) : Prop := ∃ y : Pl, R = (.agg y.enc, [], []) ∧ y.ok ∧ ∀ j, y.has j = true ↔ img (p.rel w) (fun i => x.has i = true) j

theorem e_pat_ends (w : List Int) (hw : nums w) (hn : w.length ≤ 255) {p : Pt} (hp : p.wf) : p.fits = true → ∀ x : Pl, x.ok → (∀ i, x.has i = true → i ≤ w.length) →
    ∃ R, G n_pat_ends [.agg [.d (.int .i64 p.kind), .d (.sl (p.set.map Spn.enc)), .d (.sl (p.subs.map Pt.enc))], .d (.sl (w.map num)), .agg x.enc] [] = some R ∧ EndsP w p x R := by
  induction hp with
  | @mk k set subs hk hset hlen hsubs ih =>
  intro hf x hx hxw
  simp only [Pt.fits, Pt.fitsL_all] at hf
  refine G_ex rfl ?_
  by_cases k1 : k = 1
  · subst k1
    simp [Pl.enc]
    refine Lh_list (α := Pl) w (fun i y => hd [3, 5, 6, 7, 19, 20, 21] [.ref 0 0 0 0, .ref 64 0 0 0, .ref 128 0 0 0, .ref 192 0 0 0, .d (.sl (w.map num)), .d (.int .i64 w.length), .d (.int .i64 i)]
      [(0, .box [.d (.int .i64 1), .d (.sl (set.map Spn.enc)), .d (.sl (subs.map Pt.enc))]), (64, .box x.enc), (128, .box Pl.zero.enc), (192, .box y.enc)] 193 0)
      (fun i y r => y.ok ∧ ∀ j, y.has j = true ↔ ∃ m, m < i ∧ x.has m = true ∧ (∃ v, w[m]? = some v ∧ spnIn set v = true) ∧ j = m + 1) Pl.zero (len_of hw.1) (by simp [Pl.enc, Pl.zero]) ⟨by simp [Pl.ok, Pl.zero], fun j => by simp [Pl.has_zero]⟩ ?_ ?_
    · rintro i v r y hi hg hv hm hw2 ⟨hy, hq⟩ ih2
      have e1 := e_pat_places_has x hx i (by omega)
      have e2 := e_pat_places_put y hy (i + 1) (by omega)
      simp [Pl.enc] at e1 e2
      simp [hi, hg, Pl.enc, e1]
      have no : ¬ (x.has i = true ∧ spnIn set v = true) → ∀ j, y.has j = true ↔ ∃ m, m < i + 1 ∧ x.has m = true ∧ (∃ v, w[m]? = some v ∧ spnIn set v = true) ∧ j = m + 1 := fun hno j => by
        rw [hq]
        constructor
        · rintro ⟨m, h1, h2⟩; exact ⟨m, by omega, h2⟩
        · rintro ⟨m, h1, h2, ⟨v', h3, h4⟩, h5⟩
          refine ⟨m, ?_, h2, ⟨v', h3, h4⟩, h5⟩
          rcases Nat.lt_or_ge m i with h | h
          · exact h
          · have : m = i := by omega
            subst this
            rw [hv] at h3
            cases h3
            exact absurd ⟨h2, h4⟩ hno
      refine Gd_mk (fun g => ?_) (fun g => ?_) <;> simp [g, e_span_In set v hset]
      · refine Br_mk (fun g2 => ?_) (fun g2 => ?_) <;> simp [g2, hw2, e2]
        · refine ih2 (y.put (i + 1)) ⟨Pl.put_ok hy _, fun j => ?_⟩
          rw [Pl.has_put _ _ _ (by omega), Bool.or_eq_true, hq]
          constructor
          · rintro (⟨m, h1, h2⟩ | h)
            · exact ⟨m, by omega, h2⟩
            · simp at h
              exact ⟨i, by omega, g, ⟨v, hv, g2⟩, h.symm⟩
          · rintro ⟨m, h1, h2, h3, h4⟩
            rcases Nat.lt_or_ge m i with h | h
            · exact .inl ⟨m, h, h2, h3, h4⟩
            · exact .inr (by simp; omega)
        · exact ih2 y ⟨hy, no (by simp [g2])⟩
      · simp [hw2]
        exact ih2 y ⟨hy, no (by simp [g])⟩
    · rintro y ⟨hy, hq⟩
      simp [Pl.enc]
      refine ⟨y, rfl, hy, fun j => ?_⟩
      rw [hq]
      simp only [img, Pt.rel, if_true]
      constructor
      · rintro ⟨m, h1, h2, ⟨v, h3, h4⟩, h5⟩; exact ⟨m, h2, h5, v, h3, h4⟩
      · rintro ⟨m, h2, h5, v, h3, h4⟩; exact ⟨m, (List.getElem?_eq_some_iff.1 h3).1, h2, ⟨v, h3, h4⟩, h5⟩
  · by_cases k2 : k = 2
    · subst k2
      simp at hf
      simp [Pl.enc]
      refine Lh_list (α := Pl) subs (fun i y => hd [1, 6, 7, 43, 44, 45] [.d (.sl (w.map num)), .ref 128 0 0 0, .ref 192 0 0 0, .d (.sl (subs.map Pt.enc)), .d (.int .i64 subs.length), .d (.int .i64 i)]
        [(128, .box Pl.zero.enc), (192, .box y.enc)] 193 0)
        (fun i y r => y.ok ∧ (∀ j, y.has j = true → j ≤ w.length) ∧ ∀ j, img (Pt.catR w subs) (fun i => x.has i = true) j ↔ img (Pt.catR w r) (fun i => y.has i = true) j) x (len_of hlen) (by simp [Pl.enc, Pl.zero]) ⟨hx, hxw, fun j => Iff.rfl⟩ ?_ ?_
      · rintro i q r y hi hg hv hm hw2 ⟨hy, hyw, hq⟩ ih2
        obtain ⟨R, hR, z, rfl, hz, hzz⟩ := ih q hm (hf.2 q hm) y hy hyw
        simp [Pl.enc] at hR
        simp [hi, hg, Pl.enc, hR, hw2]
        refine ih2 z ⟨hz, fun j hj => ?_, fun j => ?_⟩
        · obtain ⟨m, h1, h2⟩ := (hzz j).1 hj
          exact Pt.rel_le w q m j h2 (hyw m h1)
        · rw [hq]
          simp only [img, Pt.catR]
          constructor
          · rintro ⟨m, h1, l, h2, h3⟩; exact ⟨l, (hzz l).2 ⟨m, h1, h2⟩, h3⟩
          · rintro ⟨l, h1, h3⟩
            obtain ⟨m, h4, h5⟩ := (hzz l).1 h1
            exact ⟨m, h4, l, h5, h3⟩
      · rintro y ⟨hy, hyw, hq⟩
        simp [Pl.enc]
        refine ⟨y, rfl, hy, fun j => ?_⟩
        simp only [img, Pt.rel] at hq ⊢
        simp
        rw [hq]
        simp [Pt.catR]
    · by_cases k3 : k = 3
      · subst k3
        simp at hf
        simp [Pl.enc]
        refine Lh_list (α := Pl) subs (fun i y => hd [1, 5, 6, 7, 57, 58, 59] [.d (.sl (w.map num)), .ref 64 0 0 0, .ref 128 0 0 0, .ref 192 0 0 0, .d (.sl (subs.map Pt.enc)), .d (.int .i64 subs.length), .d (.int .i64 i)]
          [(64, .box x.enc), (128, .box Pl.zero.enc), (192, .box y.enc)] 193 0)
          (fun i y r => y.ok ∧ ∀ j, img (Pt.altR w subs) (fun i => x.has i = true) j ↔ y.has j = true ∨ img (Pt.altR w r) (fun i => x.has i = true) j) Pl.zero (len_of hlen) (by simp [Pl.enc, Pl.zero]) ⟨by simp [Pl.ok, Pl.zero], fun j => by simp [Pl.has_zero]⟩ ?_ ?_
        · rintro i q r y hi hg hv hm hw2 ⟨hy, hq⟩ ih2
          obtain ⟨R, hR, z, rfl, hz, hzz⟩ := ih q hm (hf.2 q hm) x hx hxw
          have e1 := e_pat_places_with y z hy hz
          simp [Pl.enc] at hR e1
          simp [hi, hg, Pl.enc, hR, e1, hw2]
          refine ih2 (y.join z) ⟨Pl.join_ok hy hz, fun j => ?_⟩
          rw [hq, Pl.has_join, Bool.or_eq_true, hzz]
          simp only [img, Pt.altR]
          constructor
          · rintro (h | ⟨m, h1, h | h⟩)
            · exact .inl (.inl h)
            · exact .inl (.inr ⟨m, h1, h⟩)
            · exact .inr ⟨m, h1, h⟩
          · rintro ((h | ⟨m, h1, h⟩) | ⟨m, h1, h⟩)
            · exact .inl h
            · exact .inr ⟨m, h1, .inl h⟩
            · exact .inr ⟨m, h1, .inr h⟩
        · rintro y ⟨hy, hq⟩
          simp [Pl.enc]
          refine ⟨y, rfl, hy, fun j => ?_⟩
          simp only [img, Pt.rel, Pt.altR] at hq ⊢
          simp at hq ⊢
          rw [hq]
      · by_cases k4 : k = 4
        · subst k4
          simp at hf
          obtain ⟨q, rfl⟩ : ∃ q, subs = [q] := List.length_eq_one_iff.1 hf.1.2
          have hqf := hf.2 q (by simp)
          simp [Pl.enc]
          refine Lh_ind (α := Pl) (fun y => hd [1, 3, 6, 7] [.d (.sl (w.map num)), .ref 0 0 0 0, .ref 128 0 0 0, .ref 192 0 0 0]
            [(0, .box [.d (.int .i64 4), .d (.sl (set.map Spn.enc)), .d (.sl [[.int .i64 q.kind, .sl (q.set.map Spn.enc), .sl (q.subs.map Pt.enc)]])]), (128, .box Pl.zero.enc), (192, .box y.enc)] 193 0)
            (fun y => out y.has (w.length + 1)) (fun y => y.ok ∧ (∀ i, x.has i = true → y.has i = true) ∧ ∀ j, y.has j = true → img (Star (q.rel w)) (fun i => x.has i = true) j) x (by simp [Pl.enc, Pl.zero, Pt.enc_eq]) ⟨hx, fun _ h => h, fun j hj => ⟨j, hj, .refl j⟩⟩ ?_
          rintro y ⟨hy, h0, h1⟩ ih2
          have hyw : ∀ j, y.has j = true → j ≤ w.length := fun j hj => by
            obtain ⟨m, h2, h3⟩ := h1 j hj
            exact Star.le (Pt.rel_le w q) h3 (hxw m h2)
          obtain ⟨R, hR, z, rfl, hz, hzz⟩ := ih q (by simp) hqf y hy hyw
          have e1 := e_pat_places_with y z hy hz
          simp [Pl.enc] at hR e1
          simp [Pl.enc, hR, e1]
          refine Br_mk (fun g => ?_) (fun g => ?_)
          · simp
            have hj : y.join z = y := by
              simp at g
              obtain ⟨g1, g2, g3, g4⟩ := g
              generalize hj : y.join z = j at *
              cases j; cases y
              simp at g1 g2 g3 g4
              congr 1 <;> omega
            refine ⟨y, rfl, hy, fun j => ?_⟩
            have := img_star (R := q.rel w) (S := fun i => x.has i = true) (T := fun i => y.has i = true) h0 h1 (fun i j hi hij => by
              show y.has j = true
              rw [← hj, Pl.has_join, Bool.or_eq_true]
              exact .inr ((hzz j).2 ⟨i, hi, hij⟩)) j
            have e : Pt.headR w [q] = q.rel w := by funext i j; simp [Pt.headR]
            rw [this]
            simp only [img, Pt.rel, e]
            simp
          · simp
            refine ih2 (y.join z) ?_ ⟨Pl.join_ok hy hz, fun i hi => by rw [Pl.has_join, h0 i hi]; rfl, fun j hj => ?_⟩
            · have hne : ¬ ∀ i, i < 256 → y.has i = (y.join z).has i := fun h => by
                have := Pl.ext_has hy (Pl.join_ok hy hz) h
                rw [← this] at g
                simp at g
              have : ∃ i, i < 256 ∧ y.has i ≠ (y.join z).has i := by
                apply Classical.byContradiction
                intro h
                exact hne fun i hi => Classical.byContradiction fun h2 => h ⟨i, hi, h2⟩
              obtain ⟨i, hi, hd⟩ := this
              rw [Pl.has_join] at hd
              have hy0 : y.has i = false := by
                cases h : y.has i
                · rfl
                · rw [h] at hd; simp at hd
              have hz1 : z.has i = true := by
                rw [hy0] at hd
                simpa using hd
              obtain ⟨m, h2, h3⟩ := (hzz i).1 hz1
              have := Pt.rel_le w q m i h3 (hyw m h2)
              refine out_lt (fun j hj => by rw [Pl.has_join, hj]; rfl) hy0 (by rw [Pl.has_join, hz1]; simp) _ (by omega)
            · rw [Pl.has_join, Bool.or_eq_true] at hj
              rcases hj with hj | hj
              · exact h1 j hj
              · obtain ⟨m, h2, h3⟩ := (hzz j).1 hj
                obtain ⟨l, h4, h5⟩ := h1 m h2
                exact ⟨l, h4, h5.snoc h3⟩
        · simp [k1, k2, k3, k4] at hf
/-- does a right pattern take a path? -/
theorem e_pat_Match (w : List Int) (hw : nums w) (p : Pt) (hp : p.wf) (hb : p.parts ≤ 1048576) : G n_pat_Match [.agg [.d (.int .i64 p.kind), .d (.sl (p.set.map Spn.enc)), .d (.sl (p.subs.map Pt.enc))], .d (.sl (w.map num))] [] = some (.d (.bool (p.takes w)), [], []) := by
  refine BoolP.eq ?_ (p.takes_iff w)
  refine G_ex rfl ?_
  simp [e_pat_Right p hp hb]
  cases hr : p.right
  · simp
    exact ⟨_, rfl, by simp⟩
  · simp
    refine Br_mk (fun g => ?_) (fun g => ?_)
    · simp at g
      simp
      exact ⟨_, rfl, by simp; intro h; omega⟩
    · simp at g
      have hfit : p.fits = true := by simp [Pt.right] at hr; exact hr.2
      have hz : Pl.zero.ok := by simp [Pl.ok, Pl.zero]
      have hput : ∀ i, (Pl.zero.put 0).has i = true ↔ i = 0 := fun i => by rw [Pl.has_put _ _ _ (by decide), Pl.has_zero]; simp; omega
      obtain ⟨R, hR, y, rfl, hy, hyy⟩ := e_pat_ends w hw (by omega) hp hfit (Pl.zero.put 0) (Pl.put_ok hz 0) (fun i hi => by have := (hput i).1 hi; omega)
      have e1 := e_pat_places_put Pl.zero hz 0 (by decide)
      have e2 := e_pat_places_has y hy w.length (by omega)
      simp [Pl.enc, Pl.zero] at e1 e2 hR
      simp [e1, hR, e2]
      refine ⟨_, rfl, ?_⟩
      rw [hyy]
      have hl : w.length ≤ 255 := by omega
      simp only [hl, true_and, img]
      constructor
      · rintro ⟨i, h1, h2⟩
        have := (hput i).1 h1
        subst this
        exact h2
      · intro h2
        exact ⟨0, (hput 0).2 rfl, h2⟩
end Go.Proofs.Ythbhafgdbndamaa
set_option linter.unusedVariables false
set_option linter.unusedSimpArgs false
set_option maxRecDepth 10000
namespace Go.Proofs.Ythbhafgdbndamaa
open Go Go.Proofs.Am Go.Proofs.Dr

def encB (b : Bool) : List D := [.bool b]
attribute [local simp] encB
theorem rep_no (n j : Nat) : ¬ (List.replicate n false)[j]? = some true := by simp [List.getElem?_replicate]
def EndsB (w : List Int) (p : Pt) (x : List Bool) (R : V × List Am.Obj × List Am.Obj) : Prop := ∃ y : List Bool, R = (.own 1 0, [.row 0 false 1 (x.map encB)], [.row 0 false 1 (y.map encB)]) ∧ y.length = w.length + 1 ∧ ∀ j, y[j]? = some true ↔ img (p.rel w) (fun i => x[i]? = some true) j

theorem e_r05_ends (w : List Int) (hw : nums w) {p : Pt} (hp : p.wf) : p.fits = true → ∀ x : List Bool, x.length = w.length + 1 →
    ∃ R, G n_r05_ends [.agg [.d (.int .i64 p.kind), .d (.sl (p.set.map Spn.enc)), .d (.sl (p.subs.map Pt.enc))], .d (.sl (w.map num)), .own 0 0] [.row 0 false 1 (x.map encB)] = some R ∧ EndsB w p x R := by
  induction hp with
  | @mk k set subs hk hset hlen hsubs ih =>
  intro hf x hx
  simp only [Pt.fits, Pt.fitsL_all] at hf
  have hwl := hw.1
  simp only [len32] at hwl
  have c1 : IntKind.i64.wrap 1 = 1 := by decide
  have hb : ((x.length : Int) ≤ 140737488355328) = True := by simp; omega
  have htake : List.take x.length (x.map encB) = x.map encB := by rw [List.take_of_length_le]; simp
  refine G_ex rfl ?_
  by_cases k1 : k = 1
  · subst k1
    simp [hb]
    refine Lh_list (α := List Bool) w (fun i y => hd [2, 3, 7, 26, 27, 28] [.own 0 0, .ref 1 0 0 0, .own 257 0, .d (.sl (w.map num)), .d (.int .i64 w.length), .d (.int .i64 i)]
      [(0, .row 0 false 1 (x.map encB)), (1, .box [.d (.int .i64 1), .d (.sl (set.map Spn.enc)), .d (.sl (subs.map Pt.enc))]), (257, .row 0 false 1 (y.map encB))] 258 1)
      (fun i y r => y.length = w.length + 1 ∧ ∀ j, y[j]? = some true ↔ ∃ m, m < i ∧ x[m]? = some true ∧ (∃ v, w[m]? = some v ∧ spnIn set v = true) ∧ j = m + 1) (List.replicate x.length false) (len_of hw.1) (by simp) ⟨by simp [hx], fun j => by simp [rep_no]⟩ ?_ ?_
    · rintro i v r y hi hg hv hm hw2 ⟨hy, hq⟩ ih2
      have hix : i < x.length := by omega
      obtain ⟨b, hbx⟩ : ∃ b, x[i] = b := ⟨_, rfl⟩
      have hbx2 : x[i]? = some b := by rw [List.getElem?_eq_getElem hix, hbx]
      simp [hi, hg, hix, hbx]
      have no : ¬ (b = true ∧ spnIn set v = true) → ∀ j, y[j]? = some true ↔ ∃ m, m < i + 1 ∧ x[m]? = some true ∧ (∃ v, w[m]? = some v ∧ spnIn set v = true) ∧ j = m + 1 := fun hno j => by
        rw [hq]
        constructor
        · rintro ⟨m, h1, h2⟩; exact ⟨m, by omega, h2⟩
        · rintro ⟨m, h1, h2, ⟨v', h3, h4⟩, h5⟩
          refine ⟨m, ?_, h2, ⟨v', h3, h4⟩, h5⟩
          rcases Nat.lt_or_ge m i with h | h
          · exact h
          · have : m = i := by omega
            subst this
            rw [hv] at h3
            cases h3
            rw [hbx2] at h2
            exact absurd ⟨Option.some.inj h2, h4⟩ hno
      cases b
      · simp [hw2]
        exact ih2 y ⟨hy, no (by simp)⟩
      · simp [e_r01_In set v hset]
        refine Br_mk (fun g2 => ?_) (fun g2 => ?_) <;> simp [g2, hw2]
        · have h3 : ((i : Int) + 1 < y.length) = True := by simp; omega
          have h4 : (0 ≤ (i : Int) + 1) = True := by simp; omega
          have h5 : i + 1 < y.length := by omega
          simp [h3, h4, h5, hw2]
          have := ih2 (y.set (i + 1) true) ⟨by simp [hy], fun j => ?_⟩
          · simpa [List.map_set] using this
          · rw [List.getElem?_set]
            constructor
            · intro h
              split at h
              · rename_i e
                exact ⟨i, by omega, hbx2, ⟨v, hv, g2⟩, e.symm⟩
              · obtain ⟨m, h1, h2⟩ := (hq j).1 h
                exact ⟨m, by omega, h2⟩
            · rintro ⟨m, h1, h2, h3, h4⟩
              split
              · simp [h5]
              · refine (hq j).2 ⟨m, by omega, h2, h3, h4⟩
        · exact ih2 y ⟨hy, no (by simp [g2])⟩
    · rintro y ⟨hy, hq⟩
      simp
      refine ⟨y, rfl, hy, fun j => ?_⟩
      rw [hq]
      simp only [img, Pt.rel, if_true]
      constructor
      · rintro ⟨m, h1, h2, ⟨v, h3, h4⟩, h5⟩; exact ⟨m, h2, h5, v, h3, h4⟩
      · rintro ⟨m, h2, h5, v, h3, h4⟩; exact ⟨m, (List.getElem?_eq_some_iff.1 h3).1, h2, ⟨v, h3, h4⟩, h5⟩
  · by_cases k2 : k = 2
    · subst k2
      simp at hf
      simp [hb, htake]
      refine Lh_list (α := List Bool × Nat) subs (fun i a => hd [1, 7, 54, 55, 56] [.d (.sl (w.map num)), .own (a.2 + 1) 0, .d (.sl (subs.map Pt.enc)), .d (.int .i64 subs.length), .d (.int .i64 i)]
        [(0, .row 0 false 1 (x.map encB)), (a.2 + 1, .row 0 false 1 (a.1.map encB))] (a.2 + 2) 1)
        (fun i a r => a.1.length = w.length + 1 ∧ ∀ j, img (Pt.catR w subs) (fun i => x[i]? = some true) j ↔ img (Pt.catR w r) (fun i => a.1[i]? = some true) j) (x, 256) (len_of hlen) (by simp) ⟨hx, fun j => Iff.rfl⟩ ?_ ?_
      · rintro i q r ⟨y, o⟩ hi hg hv hm hw2 ⟨hy, hq⟩ ih2
        simp only at hy hq
        obtain ⟨R, hR, z, rfl, hz, hzz⟩ := ih q hm (hf.2 q hm) y hy
        have hfin : img (Pt.catR w (q :: r)) (fun i => y[i]? = some true) = img (Pt.catR w r) (fun i => z[i]? = some true) := by
          funext j
          apply propext
          simp only [img, Pt.catR]
          constructor
          · rintro ⟨m, h1, l, h2, h3⟩; exact ⟨l, (hzz l).2 ⟨m, h1, h2⟩, h3⟩
          · rintro ⟨l, h1, h3⟩
            obtain ⟨m, h4, h5⟩ := (hzz l).1 h1
            exact ⟨m, h4, l, h5, h3⟩
        simp [hi, hg, hR, hw2]
        exact ih2 (z, o + 513) ⟨hz, fun j => by rw [hq, hfin]⟩
      · rintro ⟨y, o⟩ ⟨hy, hq⟩
        simp only at hy hq
        have hfin : EndsB w ⟨2, set, subs⟩ x (.own 1 0, [.row 0 false 1 (x.map encB)], [.row 0 false 1 (y.map encB)]) := by
          refine ⟨y, rfl, hy, fun j => ?_⟩
          have := hq j
          simp only [img, Pt.rel] at this ⊢
          simp
          rw [this]
          simp [Pt.catR]
        simp
        exact hfin
    · by_cases k3 : k = 3
      · subst k3
        simp at hf
        simp [hb]
        refine Lh_list (α := List Bool) subs (fun i y => hd [1, 2, 7, 68, 69, 70] [.d (.sl (w.map num)), .own 0 0, .own 257 0, .d (.sl (subs.map Pt.enc)), .d (.int .i64 subs.length), .d (.int .i64 i)]
          [(0, .row 0 false 1 (x.map encB)), (257, .row 0 false 1 (y.map encB))] 258 1)
          (fun i y r => y.length = w.length + 1 ∧ ∀ j, img (Pt.altR w subs) (fun i => x[i]? = some true) j ↔ y[j]? = some true ∨ img (Pt.altR w r) (fun i => x[i]? = some true) j) (List.replicate x.length false) (len_of hlen) (by simp) ⟨by simp [hx], fun j => by simp [rep_no]⟩ ?_ ?_
        · rintro i q r y hi hg hv hm hw2 ⟨hy, hq⟩ ih2
          obtain ⟨R, hR, z, rfl, hz, hzz⟩ := ih q hm (hf.2 q hm) x hx
          simp [hi, hg, hR]
          refine Lh_list (α := List Bool) z (fun j u => hd [1, 2, 7, 68, 69, 70, 77, 78, 79] [.d (.sl (w.map num)), .own 0 0, .own 257 0, .d (.sl (subs.map Pt.enc)), .d (.int .i64 subs.length), .d (.int .i64 i), .own 770 0, .d (.int .i64 z.length), .d (.int .i64 j)]
            [(0, .row 0 false 1 (x.map encB)), (257, .row 0 false 1 (u.map encB)), (770, .row 0 false 1 (z.map encB))] 771 1)
            (fun j u r => u.length = w.length + 1 ∧ ∀ m, u[m]? = some true ↔ y[m]? = some true ∨ (m < j ∧ z[m]? = some true)) y (by omega) (by simp) ⟨hy, fun m => by simp⟩ ?_ ?_
          · rintro j b s u hj hgj hbj _ hw3 ⟨hu, huq⟩ ih3
            have hju : j < u.length := by omega
            obtain ⟨c, hc⟩ : ∃ c, u[j] = c := ⟨_, rfl⟩
            have hc2 : u[j]? = some c := by rw [List.getElem?_eq_getElem hju, hc]
            simp [hj, hgj, hju, hc, hw3]
            have key : (u.set j (c || b)).length = w.length + 1 ∧ ∀ m, (u.set j (c || b))[m]? = some true ↔ y[m]? = some true ∨ (m < j + 1 ∧ z[m]? = some true) := by
              refine ⟨by simp [hu], fun m => ?_⟩
              rw [List.getElem?_set]
              split
              · rename_i e
                subst e
                have := huq j
                rw [hc2] at this
                simp [hju, hbj]
                simp at this
                rw [this]
              · rw [huq m]
                constructor
                · rintro (h | ⟨h1, h2⟩)
                  · exact .inl h
                  · exact .inr ⟨by omega, h2⟩
                · rintro (h | ⟨h1, h2⟩)
                  · exact .inl h
                  · exact .inr ⟨by omega, h2⟩
            cases c
            · simp [hju, hw3]
              simpa [List.map_set, hw3] using ih3 (u.set j b) (by simpa using key)
            · simp [hju, hw3]
              simpa [List.map_set, hw3] using ih3 (u.set j true) (by simpa using key)
          · rintro u ⟨hu, huq⟩
            simp [hw2]
            refine ih2 u ⟨hu, fun j => ?_⟩
            rw [hq, huq]
            have hzl : j < z.length ∧ z[j]? = some true ↔ z[j]? = some true := ⟨fun h => h.2, fun h => ⟨(List.getElem?_eq_some_iff.1 h).1, h⟩⟩
            rw [hzl, hzz]
            simp only [img, Pt.altR]
            constructor
            · rintro (h | ⟨m, h1, h | h⟩)
              · exact .inl (.inl h)
              · exact .inl (.inr ⟨m, h1, h⟩)
              · exact .inr ⟨m, h1, h⟩
            · rintro ((h | ⟨m, h1, h⟩) | ⟨m, h1, h⟩)
              · exact .inl h
              · exact .inr ⟨m, h1, .inl h⟩
              · exact .inr ⟨m, h1, .inr h⟩
        · rintro y ⟨hy, hq⟩
          simp
          refine ⟨y, rfl, hy, fun j => ?_⟩
          simp only [img, Pt.rel, Pt.altR] at hq ⊢
          simp at hq ⊢
          rw [hq]
      · by_cases k4 : k = 4
        · subst k4
          simp at hf
          obtain ⟨q, rfl⟩ : ∃ q, subs = [q] := List.length_eq_one_iff.1 hf.1.2
          have hqf := hf.2 q (by simp)
          simp [hb, htake]
          refine Lh_ind (α := List Bool × Bool) (fun a => hd [1, 3, 7, 16] [.d (.sl (w.map num)), .ref 1 0 0 0, .own 257 0, .d (.bool a.2)]
            [(0, .row 0 false 1 (x.map encB)), (1, .box [.d (.int .i64 4), .d (.sl (set.map Spn.enc)), .d (.sl [[.int .i64 q.kind, .sl (q.set.map Spn.enc), .sl (q.subs.map Pt.enc)]])]), (257, .row 0 false 1 (a.1.map encB))] 258 1)
            (fun a => 2 * out (fun i => a.1[i]? == some true) (w.length + 1) + if a.2 then 1 else 0)
            (fun a => a.1.length = w.length + 1 ∧ (∀ i : Nat, x[i]? = some true → a.1[i]? = some true) ∧ (∀ j : Nat, a.1[j]? = some true → img (Star (q.rel w)) (fun i => x[i]? = some true) j) ∧
              (a.2 = false → ∀ i j, a.1[i]? = some true → q.rel w i j → a.1[j]? = some true)) (x, true) (by simp [Pt.enc_eq]) ⟨hx, fun _ h => h, fun j hj => ⟨j, hj, .refl j⟩, by simp⟩ ?_
          rintro ⟨y, o⟩ ⟨hy, h0, h1, h2⟩ ih2
          simp only at hy h0 h1 h2
          cases o
          · simp
            refine ⟨y, rfl, hy, fun j => ?_⟩
            have := img_star (R := q.rel w) (S := fun i => x[i]? = some true) (T := fun i => y[i]? = some true) h0 h1 (h2 rfl) j
            have e : Pt.headR w [q] = q.rel w := by funext i j; simp [Pt.headR]
            rw [this]
            simp only [img, Pt.rel, e]
            simp
          · obtain ⟨R, hR, z, rfl, hz, hzz⟩ := ih q (by simp) hqf y hy
            simp [hR]
            refine Lh_list (α := List Bool × Bool) z (fun j a => hd [1, 3, 7, 16, 108, 109, 110] [.d (.sl (w.map num)), .ref 1 0 0 0, .own 257 0, .d (.bool a.2), .own 770 0, .d (.int .i64 z.length), .d (.int .i64 j)]
              [(0, .row 0 false 1 (x.map encB)), (1, .box [.d (.int .i64 4), .d (.sl (set.map Spn.enc)), .d (.sl [[.int .i64 q.kind, .sl (q.set.map Spn.enc), .sl (q.subs.map Pt.enc)]])]), (257, .row 0 false 1 (a.1.map encB)), (770, .row 0 false 1 (z.map encB))] 771 1)
              (fun j a r => a.1.length = w.length + 1 ∧ (∀ m : Nat, a.1[m]? = some true ↔ y[m]? = some true ∨ (m < j ∧ z[m]? = some true)) ∧ (a.2 = true ↔ ∃ m, m < j ∧ z[m]? = some true ∧ ¬ y[m]? = some true)) (y, false) (by omega) (by simp) ⟨hy, fun m => by simp, by simp⟩ ?_ ?_
            · rintro j b s ⟨u, mo⟩ hj hgj hbj _ hw3 ⟨hu, huq, hmo⟩ ih3
              simp only at hu huq hmo
              have hju : j < u.length := by omega
              obtain ⟨c, hc⟩ : ∃ c, u[j] = c := ⟨_, rfl⟩
              have hc2 : u[j]? = some c := by rw [List.getElem?_eq_getElem hju, hc]
              have hyj : y[j]? = some true ↔ c = true := by
                have := huq j
                rw [hc2] at this
                simp at this
                exact this.symm
              simp [hj, hgj, hju, hc, hw3]
              have stay : ¬ (b = true ∧ c = false) → u.length = w.length + 1 ∧ (∀ m : Nat, u[m]? = some true ↔ y[m]? = some true ∨ (m < j + 1 ∧ z[m]? = some true)) ∧ (mo = true ↔ ∃ m, m < j + 1 ∧ z[m]? = some true ∧ ¬ y[m]? = some true) := fun hn => by
                refine ⟨hu, fun m => ?_, ?_⟩
                · rw [huq m]
                  constructor
                  · rintro (h | ⟨h3, h4⟩)
                    · exact .inl h
                    · exact .inr ⟨by omega, h4⟩
                  · rintro (h | ⟨h3, h4⟩)
                    · exact .inl h
                    · rcases Nat.lt_or_ge m j with h | h
                      · exact .inr ⟨h, h4⟩
                      · have : m = j := by omega
                        subst this
                        rw [hbj] at h4
                        refine .inl (hyj.2 ?_)
                        cases c
                        · exact absurd ⟨Option.some.inj h4, rfl⟩ hn
                        · rfl
                · rw [hmo]
                  constructor
                  · rintro ⟨m, h3, h4⟩; exact ⟨m, by omega, h4⟩
                  · rintro ⟨m, h3, h4, h5⟩
                    rcases Nat.lt_or_ge m j with h | h
                    · exact ⟨m, h, h4, h5⟩
                    · have : m = j := by omega
                      subst this
                      rw [hbj] at h4
                      cases c
                      · exact absurd ⟨Option.some.inj h4, rfl⟩ hn
                      · exact absurd (hyj.2 rfl) h5
              cases b
              · simp [hw3]
                exact ih3 (u, mo) (stay (by simp))
              · cases c
                · simp [hju, hc, hw3]
                  have := ih3 (u.set j true, true) ⟨by simp [hu], fun m => ?_, ?_⟩
                  · simpa [List.map_set] using this
                  · simp only
                    rw [List.getElem?_set]
                    split
                    · rename_i e
                      subst e
                      simp [hju, hbj]
                    · rw [huq m]
                      constructor
                      · rintro (h | ⟨h3, h4⟩)
                        · exact .inl h
                        · exact .inr ⟨by omega, h4⟩
                      · rintro (h | ⟨h3, h4⟩)
                        · exact .inl h
                        · exact .inr ⟨by omega, h4⟩
                  · simp only [true_iff]
                    exact ⟨j, by omega, hbj, fun h => by have := hyj.1 h; cases this⟩
                · simp [hju, hc, hw3]
                  exact ih3 (u, mo) (stay (by simp))
            · rintro ⟨u, mo⟩ ⟨hu, huq, hmo⟩
              simp only at hu huq hmo
              simp
              have hzl : ∀ m : Nat, (m < z.length ∧ z[m]? = some true) ↔ z[m]? = some true := fun m => ⟨fun h => h.2, fun h => ⟨(List.getElem?_eq_some_iff.1 h).1, h⟩⟩
              have hu2 : ∀ m : Nat, u[m]? = some true ↔ y[m]? = some true ∨ z[m]? = some true := fun m => by rw [huq, hzl]
              have hsub : ∀ i, (fun i => y[i]? == some true) i = true → (fun i => u[i]? == some true) i = true := fun i hi => by
                simp only [beq_iff_eq] at hi ⊢
                exact (hu2 i).2 (.inl hi)
              refine ih2 (u, mo) ?_ ⟨hu, fun i hi => (hu2 i).2 (.inl (h0 i hi)), fun j hj => ?_, ?_⟩
              · simp only [if_true]
                cases mo
                · have := out_le hsub (w.length + 1)
                  simp only [Bool.false_eq_true, if_false]
                  omega
                · obtain ⟨m, h3, h4, h5⟩ := hmo.1 rfl
                  have := out_lt hsub (k := m) (by simpa using h5) (by simpa using (hu2 m).2 (.inr h4)) (w.length + 1) (by omega)
                  simp only [if_true]
                  omega
              · rcases (hu2 j).1 hj with h | h
                · exact h1 j h
                · obtain ⟨m, h3, h4⟩ := (hzz j).1 h
                  obtain ⟨l, h5, h6⟩ := h1 m h3
                  exact ⟨l, h5, h6.snoc h4⟩
              · intro hmf i j hi hij
                have hmf : mo = false := hmf
                have hyi : y[i]? = some true := by
                  rcases (hu2 i).1 hi with h | h
                  · exact h
                  · apply Classical.byContradiction
                    intro hn
                    have := hmo.2 ⟨i, (List.getElem?_eq_some_iff.1 h).1, h, hn⟩
                    rw [hmf] at this
                    cases this
                exact (hu2 j).2 (.inr ((hzz j).2 ⟨i, hyi, hij⟩))
        · simp [k1, k2, k3, k4] at hf
theorem e_r05_Match (w : List Int) (hw : nums w) (hn : w.length ≤ 255) (p : Pt) (hp : p.wf) (hf : p.fits = true) : ∃ R, G n_r05_Match [.agg [.d (.int .i64 p.kind), .d (.sl (p.set.map Spn.enc)), .d (.sl (p.subs.map Pt.enc))], .d (.sl (w.map num))] [] = some R ∧ BoolP (p.rel w 0 w.length) R := by
  refine G_ex rfl ?_
  have h1 : IntKind.i64.wrap ((w.length : Int) + 1) = (w.length : Int) + 1 := by rw [wrap_i64] <;> omega
  have h2 : (0 ≤ (w.length : Int) + 1) = True := by simp; omega
  have h3 : ((w.length : Int) + 1 ≤ 140737488355328) = True := by simp; omega
  have h4 : ((w.length : Int) + 1).toNat = w.length + 1 := by omega
  obtain ⟨R, hR, y, rfl, hy, hyy⟩ := e_r05_ends w hw hp hf ((List.replicate (w.length + 1) false).set 0 true) (by simp)
  simp [List.map_set] at hR
  have h5 : w.length < y.length := by omega
  obtain ⟨b, hb⟩ : ∃ b, y[w.length] = b := ⟨_, rfl⟩
  have hb2 : y[w.length]? = some b := by rw [List.getElem?_eq_getElem h5, hb]
  simp [h1, h2, h3, h4, hR, h5, hb]
  refine ⟨b, rfl, ?_⟩
  have := hyy w.length
  rw [hb2] at this
  simp only [Option.some.injEq] at this
  rw [this]
  have h6 : ∀ i : Nat, ((List.replicate (w.length + 1) false).set 0 true)[i]? = some true ↔ i = 0 := fun i => by
    rw [List.getElem?_set]
    split
    · rename_i e
      simp [← e]
    · rename_i e
      simp only [rep_no, false_iff]
      omega
  simp only [img, h6]
  constructor
  · rintro ⟨i, rfl, h⟩; exact h
  · intro h; exact ⟨0, rfl, h⟩
theorem e_r05_Takes (w : List Int) (hw : nums w) (p : Pt) (hp : p.wf) (hb : p.parts ≤ 1048576) : G n_r05_Takes [.agg [.d (.int .i64 p.kind), .d (.sl (p.set.map Spn.enc)), .d (.sl (p.subs.map Pt.enc))], .d (.sl (w.map num))] [] = some (.d (.bool (p.takes w)), [], []) := by
  refine BoolP.eq ?_ (p.takes_iff w)
  refine G_ex rfl ?_
  simp [e_r05_Right p hp hb]
  cases hr : p.right
  · simp
    exact ⟨_, rfl, by simp⟩
  · simp
    refine Gd_mk (fun g => ?_) (fun g => ?_)
    · simp at g
      have hfit : p.fits = true := by simp [Pt.right] at hr; exact hr.2
      obtain ⟨R, hR, b, rfl, hbb⟩ := e_r05_Match w hw (by omega) p hp hfit
      have hl : w.length ≤ 255 := by omega
      simp [g, hR]
      exact ⟨_, rfl, by simp [hbb, hl]⟩
    · have g0 := g
      simp at g
      have hl : ¬ w.length ≤ 255 := by omega
      simp [g0]
      exact ⟨_, rfl, by simp [hl]⟩
end Go.Proofs.Ythbhafgdbndamaa
set_option linter.unusedVariables false
set_option linter.unusedSimpArgs false
set_option maxRecDepth 10000
namespace Go.Proofs.Ythbhafgdbndamaa
open Go Go.Proofs.Am Go.Proofs.Dr

theorem e_cond_TakesPath_1 (l : List PathE) (w : List Int) (hl : PathE.wfs l) (hw : nums w) (i : Nat) (e : PathE) (hi : i < l.length) (he : l[i] = e) : G n_cond_TakesPath_1 [.d (.int .i64 i), .d (.ptr [.sl (l.map PathE.enc)] 0), .d (.ptr [.sl (w.map num)] 0)] [] = some (.d (.bool (e.pat.takes w)), [], []) := by
  refine G_of rfl ?_
  have hm : e ∈ l := by rw [← he]; exact List.getElem_mem hi
  have hx := hl.2 e hm
  simp [hi, he, e_pat_Match w hw e.pat hx.1 hx.2]
theorem e_cond_TakesPath_2 (l : List PathE) (i : Nat) (e : PathE) (hi : i < l.length) (he : l[i] = e) : G n_cond_TakesPath_2 [.d (.int .i64 i), .d (.ptr [.sl (l.map PathE.enc)] 0)] [] = some (.d (.bool e.deny), [], []) := by
  refine G_of rfl ?_
  simp [hi, he]
theorem e_cond_TakesPath (l : List PathE) (w : List Int) (hl : PathE.wfs l) (hw : nums w) : G n_cond_TakesPath [.d (.sl (l.map PathE.enc)), .d (.sl (w.map num))] [] = some (.d (.bool (pathTakes l w)), [], []) := by
  refine G_of rfl ?_
  have h := e_cond_first l (fun e => e.pat.takes w) (fun e => e.deny) n_cond_TakesPath_1 n_cond_TakesPath_2 [.ptr [.sl (l.map PathE.enc)] 0, .ptr [.sl (w.map num)] 0] [.ptr [.sl (l.map PathE.enc)] 0] hl.1
    (fun i x hi hx => e_cond_TakesPath_1 l w hl hw i x hi hx) (fun i x hi hx => e_cond_TakesPath_2 l i x hi hx)
  simp [h, pathTakes]
theorem e_r11_TakesPath (l : List PathE) (w : List Int) (hl : PathE.wfs l) (hw : nums w) : G n_r11_TakesPath [.d (.sl (l.map PathE.enc)), .d (.sl (w.map num))] [] = some (.d (.bool (pathTakes l w)), [], []) := by
  refine G_of rfl ?_
  simp
  refine Lh_list (α := Unit) l (fun i _ => hd [1, 7, 8, 9] [.d (.sl (w.map num)), .d (.sl (l.map PathE.enc)), .d (.int .i64 l.length), .d (.int .i64 i)] [] 0 0) (fun i _ r => pathTakes l w = pathTakes r w) () (len_of hl.1) (by simp) rfl ?_ ?_
  · intro i x r _ hi hg hx hm hw2 hq ih
    have hx := hl.2 x hm
    simp [hi, hg, e_r05_Takes w hw x.pat hx.1 hx.2]
    refine Br_mk (fun h => ?_) (fun h => ?_)
    · simp
      rw [hq]; simp [pathTakes, fst1, h]
    · simp [hw2]
      exact ih () (by rw [hq]; simp [pathTakes, fst1, h])
  · intro _ hq
    simp
    rw [hq]; rfl

theorem not_any_not {α : Type} (l : List α) (p : α → Bool) : (!l.any fun x => !p x) = l.all p := by rw [List.all_eq_not_any_not]

theorem e_cond_Right (k lo hi : Int) (pf : List PfxE) (pa : List PathE) (co : List CommE) (h1 : PfxE.wfs pf) (h2 : PathE.wfs pa) (h3 : CommE.wfs co) :
    G n_cond_Right [.agg [.d (.int .i64 k), .d (.sl (pf.map PfxE.enc)), .d (.sl (pa.map PathE.enc)), .d (.sl (co.map CommE.enc)), .d (.int .u32 lo), .d (.int .u32 hi)]] [] = some (.d (.bool (cndRight ⟨k, pf, pa, co, lo, hi⟩)), [], []) := by
  have a1 : ∀ x ∈ pf, G n_cond_Right_1 [.agg (x.enc.map .d)] [] = some (.d (.bool (!rngRight x.rng)), [], []) := fun x hx => by
    refine G_of rfl ?_
    simp [e_pfx_Right _ _ x.rng.ge x.rng.le (h1.2 x hx).1.1 (h1.2 x hx).1.2]
  have a2 : ∀ x ∈ pa, G n_cond_Right_2 [.agg (x.enc.map .d)] [] = some (.d (.bool (!x.pat.right)), [], []) := fun x hx => by
    refine G_of rfl ?_
    simp [e_pat_Right x.pat (h2.2 x hx).1 (h2.2 x hx).2]
  have a3 : ∀ x ∈ co, G n_cond_Right_3 [.agg (x.enc.map .d)] [] = some (.d (.bool (!decide (x.all.length ≤ 64))), [], []) := fun x hx => by
    refine G_of rfl ?_
    have : decide ((64 : Int) < x.all.length) = !decide (x.all.length ≤ 64) := by rw [← decide_not]; apply decide_eq_decide.2; omega
    simp [this]
  have b1 := has_of (sp := sp) (h := n_sl_ContainsFunc_PfxEntry) (f := n_sl_IndexFunc_PfxEntry) (g := n_cond_Right_1) (caps := []) (arg := fun e => .agg (e.enc.map .d)) (p := fun b : PfxE => !rngRight b.rng) (enc := PfxE.enc) (l := pf) rfl (show PF n_sl_IndexFunc_PfxEntry = some (aIdx true 5) from rfl) (len_of h1.1) (fun b hb => ⟨by simp, by simp, fun _ => by simp, by simp, by simpa using a1 b hb⟩)
  have b2 := has_of (sp := sp) (h := n_sl_ContainsFunc_PathEntry) (f := n_sl_IndexFunc_PathEntry) (g := n_cond_Right_2) (caps := []) (arg := fun e => .agg (e.enc.map .d)) (p := fun b : PathE => !b.pat.right) (enc := PathE.enc) (l := pa) rfl (show PF n_sl_IndexFunc_PathEntry = some (aIdx true 4) from rfl) (len_of h2.1) (fun b hb => ⟨by simp, by simp, fun _ => by simp, by simp, by simpa using a2 b hb⟩)
  have b3 := has_of (sp := sp) (h := n_sl_ContainsFunc_CommEntry) (f := n_sl_IndexFunc_CommEntry) (g := n_cond_Right_3) (caps := []) (arg := fun e => .agg (e.enc.map .d)) (p := fun b : CommE => !decide (b.all.length ≤ 64)) (enc := CommE.enc) (l := co) rfl (show PF n_sl_IndexFunc_CommEntry = some (aIdx true 2) from rfl) (len_of h3.1) (fun b hb => ⟨by simp, by simp, fun _ => by simp, by simp, by simpa using a3 b hb⟩)
  have c1 : ((pf.length : Int) ≤ 64) = (pf.length ≤ 64) := by apply propext; omega
  have c2 : ((pa.length : Int) ≤ 64) = (pa.length ≤ 64) := by apply propext; omega
  have c3 : ((co.length : Int) ≤ 64) = (co.length ≤ 64) := by apply propext; omega
  refine G_of rfl ?_
  simp only [cndRight, commRight]
  simp only [← not_any_not]
  by_cases k1 : k = 1
  · subst k1
    simp [c1]
    refine Gd_mk (fun g => ?_) (fun g => ?_) <;> simp [g, b1]
    all_goals (have g' := g; simp at g'; simp [g'])
  · by_cases k7 : k = 7
    · subst k7
      simp [c1]
      refine Gd_mk (fun g => ?_) (fun g => ?_) <;> simp [g, b1]
      all_goals (have g' := g; simp at g'; simp [g'])
    · by_cases k2 : k = 2
      · subst k2
        simp [c2]
        refine Gd_mk (fun g => ?_) (fun g => ?_) <;> simp [g, b2]
        all_goals (have g' := g; simp at g'; simp [g'])
      · by_cases k3 : k = 3
        · subst k3
          simp [c3]
          refine Gd_mk (fun g => ?_) (fun g => ?_) <;> simp [g, b3]
          all_goals (have g' := g; simp at g'; simp [g'])
        · by_cases k4 : k = 4
          · subst k4; simp
          · by_cases k5 : k = 5
            · subst k5; simp
            · by_cases k6 : k = 6
              · subst k6; simp
              · have : ¬ (4 ≤ k ∧ k ≤ 6) := by omega
                simp [k1, k7, k2, k3, k4, k5, k6]
                intro h; omega
theorem e_r11_Right (k lo hi : Int) (pf : List PfxE) (pa : List PathE) (co : List CommE) (h1 : PfxE.wfs pf) (h2 : PathE.wfs pa) (h3 : CommE.wfs co) :
    G n_r11_Right [.agg [.d (.int .i64 k), .d (.sl (pf.map PfxE.enc)), .d (.sl (pa.map PathE.enc)), .d (.sl (co.map CommE.enc)), .d (.int .u32 lo), .d (.int .u32 hi)]] [] = some (.d (.bool (cndRight ⟨k, pf, pa, co, lo, hi⟩)), [], []) := by
  refine G_of rfl ?_
  by_cases k1 : k = 1 ∨ k = 7
  · have hs : cndRight ⟨k, pf, pa, co, lo, hi⟩ = (decide (pf.length ≤ 64) && pf.all fun e => rngRight e.rng) := by simp only [cndRight, k1, if_true]
    rw [hs]
    generalize hB : (pf.all fun e => rngRight e.rng) = B
    rcases k1 with rfl | rfl
    all_goals
      simp
      refine Br_mk (fun g => ?_) (fun g => ?_)
      · simp at g
        have : ¬ pf.length ≤ 64 := by omega
        simp [this]
      · simp at g
        have hl : pf.length ≤ 64 := by omega
        simp [hl]
        refine Lh_list (α := Unit) pf (fun i _ => hd [17, 18, 19] [.d (.sl (pf.map PfxE.enc)), .d (.int .i64 pf.length), .d (.int .i64 i)] [] 0 0) (fun i _ r => B = r.all fun e => rngRight e.rng) () (len_of h1.1) (by simp) hB.symm ?_ ?_
        · intro i x r _ hi hg hx hm hw hq ih
          simp [hi, hg, e_r04_Right _ _ x.rng.ge x.rng.le (h1.2 x hm).1.1 (h1.2 x hm).1.2]
          refine Br_mk (fun h => ?_) (fun h => ?_)
          · simp
            simp at h
            rw [hq, List.all_cons, h]; rfl
          · simp [hw]
            simp at h
            exact ih () (by rw [hq, List.all_cons, h]; rfl)
        · intro _ hq
          simp
          rw [hq]; rfl
  · have k1' : ¬ k = 1 := fun h => k1 (.inl h)
    have k7' : ¬ k = 7 := fun h => k1 (.inr h)
    by_cases k2 : k = 2
    · subst k2
      have hs : cndRight ⟨2, pf, pa, co, lo, hi⟩ = (decide (pa.length ≤ 64) && pa.all fun e => e.pat.right) := rfl
      rw [hs]
      generalize hB : (pa.all fun e => e.pat.right) = B
      simp
      refine Br_mk (fun g => ?_) (fun g => ?_)
      · simp at g
        have : ¬ pa.length ≤ 64 := by omega
        simp [this]
      · simp at g
        have hl : pa.length ≤ 64 := by omega
        simp [hl]
        refine Lh_list (α := Unit) pa (fun i _ => hd [35, 36, 37] [.d (.sl (pa.map PathE.enc)), .d (.int .i64 pa.length), .d (.int .i64 i)] [] 0 0) (fun i _ r => B = r.all fun e => e.pat.right) () (len_of h2.1) (by simp) hB.symm ?_ ?_
        · intro i x r _ hi hg hx hm hw hq ih
          simp [hi, hg, e_r05_Right x.pat (h2.2 x hm).1 (h2.2 x hm).2]
          refine Br_mk (fun h => ?_) (fun h => ?_)
          · simp
            simp at h
            rw [hq, List.all_cons, h]; rfl
          · simp [hw]
            simp at h
            exact ih () (by rw [hq, List.all_cons, h]; rfl)
        · intro _ hq
          simp
          rw [hq]; rfl
    · by_cases k3 : k = 3
      · subst k3
        simp [cndRight, e_r11_CommsRight co h3]
      · simp [k1', k7', k2, k3, cndRight]
        refine Gd_mk (fun g => ?_) (fun g => ?_) <;> (have g' := g; simp at g'; simp [g])
        all_goals (intro h; omega)
theorem e_cond_Holds_1 (n : Int) (k lo hi : Int) (a b c : D) : G n_cond_Holds_1 [.d (.int .u32 n), .d (.ptr [.int .i64 k, a, b, c, .int .u32 lo, .int .u32 hi] 0)] [] = some (.d (.bool (decide (lo ≤ n) && decide (n ≤ hi))), [], []) := by
  refine G_of rfl ?_
  simp
  refine Gd_mk (fun g => ?_) (fun g => ?_) <;> simp [g]
theorem e_cond_Holds (c : Cnd) (r : Rt) (hc : c.wf) (hr : r.wf) : G n_cond_Holds [.agg (c.enc.map .d), .agg (r.enc.map .d)] [] = some (.d (.bool (cndHolds c r)), [], []) := by
  refine G_of rfl ?_
  have e1 := e_cond_Right c.kind c.lo c.hi c.pfx c.path c.comm hc.pfx hc.path hc.comm
  simp [e1]
  simp only [cndHolds]
  cases hR : cndRight c
  · simp
  · simp
    by_cases k1 : c.kind = 1
    · simp [k1, e_pfx_Match c.pfx _ _ hc.pfx hr.pfx]
    · by_cases k2 : c.kind = 2
      · simp [k2, e_cond_TakesPath c.path r.path hc.path hr.path]
      · by_cases k3 : c.kind = 3
        · simp [k3, e_cond_TakesComms c.comm r.comms hc.comm hr.comms]
        · by_cases k4 : c.kind = 4
          · simp [k4, e_cond_Holds_1]
          · by_cases k5 : c.kind = 5
            · simp [k5, e_cond_Holds_1]
            · by_cases k6 : c.kind = 6
              · simp [k6]
                have ho := hc.hi.2
                refine Gd_mk (fun g => ?_) (fun g => ?_) <;> simp [g]
                have g1 := g
                simp at g1
                refine Gd_mk (fun g2 => ?_) (fun g2 => ?_) <;> simp [g2]
                · simp at g2
                  have w1 : IntKind.u32.wrap r.origin = r.origin := wrap_u32 g1 g2
                  simp [w1, e_cond_Holds_1]
                · simp at g2
                  intro h
                  omega
              · simp [k1, k2, k3, k4, k5, k6, e_pfx_Match c.pfx r.hop 32 hc.pfx ⟨hr.hop, by simp [isI64]⟩]
end Go.Proofs.Ythbhafgdbndamaa
set_option linter.unusedVariables false
set_option linter.unusedSimpArgs false
set_option maxRecDepth 10000
namespace Go.Proofs.Ythbhafgdbndamaa
open Go Go.Proofs.Am Go.Proofs.Dr

theorem len_le {α : Type} {l : List α} (h : len32 l) : l.length ≤ 1048576 := h
theorem e_r03_Copy (a n pref med origin hop : Int) (path comms : List Int) (h1 : nums path) (h2 : nums comms) : G n_r03_Copy [.agg [.d (.int .u32 a), .d (.int .i64 n), .d (.sl (path.map num)), .d (.sl (comms.map num)), .d (.int .u32 pref), .d (.int .u32 med), .d (.int .i64 origin), .d (.int .u32 hop)]] [] =
    some (.agg [.d (.int .u32 a), .d (.int .i64 n), .d (.sl (path.map num)), .d (.sl (comms.map num)), .d (.int .u32 pref), .d (.int .u32 med), .d (.int .i64 origin), .d (.int .u32 hop)], [], []) := by
  refine G_of rfl ?_
  have b1 := len_le h1.1
  have b2 := len_le h2.1
  have c1 : (path.length * 4 ≤ 140737488355328) = True := by simp; omega
  have c2 : (comms.length * 4 ≤ 140737488355328) = True := by simp; omega
  simp [c1, c2]
theorem e_r11_CopyComms (l : List CommE) (hl : CommE.wfs l) : G n_r11_CopyComms [.d (.sl (l.map CommE.enc))] [] = some (.d (.sl (l.map CommE.enc)), [], []) := by
  refine G_of rfl ?_
  have b0 := len_le hl.1
  simp
  refine Lh_list (α := List CommE) l (fun i a => hd [3, 6, 7, 8] [.own 320 i, .d (.sl (l.map CommE.enc)), .d (.int .i64 l.length), .d (.int .i64 i)] [(320, .row i false 2 (a.map CommE.enc))] 321 0) (fun i a r => a ++ r = l ∧ a.length = i) [] (len_of hl.1) (by simp) (by simp) ?_ ?_
  · rintro i x r a hi hg hx hm hw ⟨h1, h2⟩ ih
    have b1 := len_le (hl.2 x hm).1
    have c1 : (x.all.length * 8 ≤ 140737488355328) = True := by simp; omega
    have c2 : ((a.length + 1) * 32 ≤ 140737488355328) = True := by simp; omega
    simp [hi, hg, hw, c1, c2]
    simpa using ih (a ++ [x]) ⟨by simp [h1], by simp [h2]⟩
  · rintro a ⟨h1, h2⟩
    simp at h1
    simp [h1]
theorem e_r05_Copy {p : Pt} (hw : p.wf) : G n_r05_Copy [.agg [.d (.int .i64 p.kind), .d (.sl (p.set.map Spn.enc)), .d (.sl (p.subs.map Pt.enc))]] [] = some (.agg [.d (.int .i64 p.kind), .d (.sl (p.set.map Spn.enc)), .d (.sl (p.subs.map Pt.enc))], [], []) := by
  induction hw with
  | @mk k set subs hk hset hlen _ ih =>
  refine G_of rfl ?_
  have b1 := len_le hset.1
  have c1 : (set.length * 8 ≤ 140737488355328) = True := by simp; omega
  simp [c1]
  refine Lh_list (α := List Pt) subs (fun i a => hd [2, 3, 14, 15, 16] [.ref 64 0 0 0, .ref 576 0 0 0, .d (.sl (subs.map Pt.enc)), .d (.int .i64 subs.length), .d (.int .i64 i)]
    [(64, .box [.d (.int .i64 0), .nsl, .nsl]), (576, .box [.d (.int .i64 k), .own 256 1, .own 960 i]), (256, .row 1 false 2 (set.map Spn.enc)), (960, .row i false 3 (a.map Pt.enc))] 961 0) (fun i a r => a ++ r = subs ∧ a.length = i) [] (len_of hlen) (by simp) (by simp) ?_ ?_
  · rintro i x r a hi hg hx hm hw ⟨h1, h2⟩ ih2
    have b2 := len_le hlen
    have c2 : ((a.length + 1) * 56 ≤ 140737488355328) = True := by simp; omega
    simp [hi, hg, hw, ih x hm, c2]
    simpa using ih2 (a ++ [x]) ⟨by simp [h1], by simp [h2]⟩
  · rintro a ⟨h1, h2⟩
    simp at h1
    simp [h1]
theorem e_r11_Copy (k lo hi : Int) (pf : List PfxE) (pa : List PathE) (co : List CommE) (h1 : PfxE.wfs pf) (h2 : PathE.wfs pa) (h3 : CommE.wfs co) :
    G n_r11_Copy [.agg [.d (.int .i64 k), .d (.sl (pf.map PfxE.enc)), .d (.sl (pa.map PathE.enc)), .d (.sl (co.map CommE.enc)), .d (.int .u32 lo), .d (.int .u32 hi)]] [] = some (.agg [.d (.int .i64 k), .d (.sl (pf.map PfxE.enc)), .d (.sl (pa.map PathE.enc)), .d (.sl (co.map CommE.enc)), .d (.int .u32 lo), .d (.int .u32 hi)], [], []) := by
  refine G_of rfl ?_
  have b1 := len_le h1.1
  have b2 := len_le h2.1
  have c1 : (pf.length * 40 ≤ 140737488355328) = True := by simp; omega
  simp [c1, e_r11_CopyComms co h3]
  refine Lh_list (α := List PathE) pa (fun i a => hd [2, 3, 21, 22, 23] [.ref 64 0 0 0, .ref 1024 0 0 0, .d (.sl (pa.map PathE.enc)), .d (.int .i64 pa.length), .d (.int .i64 i)]
    [(64, .box [.d (.int .i64 0), .nsl, .nsl, .nsl, .d (.int .u32 0), .d (.int .u32 0)]), (1024, .box [.d (.int .i64 k), .own 512 1, .own 1408 i, .d (.sl (co.map CommE.enc)), .d (.int .u32 lo), .d (.int .u32 hi)]), (512, .row 1 false 5 (pf.map PfxE.enc)), (1408, .row i false 4 (a.map PathE.enc))] 1409 0) (fun i a r => a ++ r = pa ∧ a.length = i) [] (len_of h2.1) (by simp) (by simp) ?_ ?_
  · rintro i x r a hi hg hx hm hw ⟨h4, h5⟩ ih2
    have c2 : ((a.length + 1) * 64 ≤ 140737488355328) = True := by simp; omega
    simp [hi, hg, hw, e_r05_Copy (h2.2 x hm).1, c2]
    simpa using ih2 (a ++ [x]) ⟨by simp [h4], by simp [h5]⟩
  · rintro a ⟨h4, h5⟩
    simp at h4
    simp [h4]
/-! ### The same: of one thing twice -/
theorem e_r01_Same (l : List Spn) (hl : len32 l) : G n_r01_Same [.d (.sl (l.map Spn.enc)), .d (.sl (l.map Spn.enc))] [] = some (.d (.bool true), [], []) := by
  refine G_of rfl ?_
  simp
  refine Lh_list (α := Unit) l (fun i _ => hd [0, 1, 12, 13] [.d (.sl (l.map Spn.enc)), .d (.sl (l.map Spn.enc)), .d (.int .i64 l.length), .d (.int .i64 i)] [] 0 0) (fun i _ r => True) () (len_of hl) (by simp) trivial ?_ ?_
  · intro i x r _ hi hg hx hm hw hq ih
    simp [hi, hg, hw]
    exact ih () trivial
  · intro _ hq
    simp
theorem e_r11_SamePfx (l : List PfxE) (hl : len32 l) : G n_r11_SamePfx [.d (.sl (l.map PfxE.enc)), .d (.sl (l.map PfxE.enc))] [] = some (.d (.bool true), [], []) := by
  refine G_of rfl ?_
  simp
  refine Lh_list (α := Unit) l (fun i _ => hd [0, 1, 12, 13] [.d (.sl (l.map PfxE.enc)), .d (.sl (l.map PfxE.enc)), .d (.int .i64 l.length), .d (.int .i64 i)] [] 0 0) (fun i _ r => True) () (len_of hl) (by simp) trivial ?_ ?_
  · intro i x r _ hi hg hx hm hw hq ih
    simp [hi, hg, hw]
    exact ih () trivial
  · intro _ hq
    simp
theorem e_r05_Same {p : Pt} (hp : p.wf) : G n_r05_Same [.agg [.d (.int .i64 p.kind), .d (.sl (p.set.map Spn.enc)), .d (.sl (p.subs.map Pt.enc))], .agg [.d (.int .i64 p.kind), .d (.sl (p.set.map Spn.enc)), .d (.sl (p.subs.map Pt.enc))]] [] = some (.d (.bool true), [], []) := by
  induction hp with
  | @mk k set subs hk hset hlen _ ih =>
  refine G_of rfl ?_
  simp [e_r01_Same set hset.1]
  refine Lh_list (α := Unit) subs (fun i _ => hd [2, 3, 30, 31] [.ref 0 0 0 0, .ref 64 0 0 0, .d (.int .i64 subs.length), .d (.int .i64 i)] [(0, .box [.d (.int .i64 k), .d (.sl (set.map Spn.enc)), .d (.sl (subs.map Pt.enc))]), (64, .box [.d (.int .i64 k), .d (.sl (set.map Spn.enc)), .d (.sl (subs.map Pt.enc))])] 65 0) (fun i _ r => True) () (len_of hlen) (by simp) trivial ?_ ?_
  · intro i x r _ hi hg hx hm hw hq ih2
    simp [hi, hg, hw, ih x hm]
    exact ih2 () trivial
  · intro _ hq
    simp
theorem e_r11_SamePath (l : List PathE) (hl : PathE.wfs l) : G n_r11_SamePath [.d (.sl (l.map PathE.enc)), .d (.sl (l.map PathE.enc))] [] = some (.d (.bool true), [], []) := by
  refine G_of rfl ?_
  simp
  refine Lh_list (α := Unit) l (fun i _ => hd [0, 1, 12, 13] [.d (.sl (l.map PathE.enc)), .d (.sl (l.map PathE.enc)), .d (.int .i64 l.length), .d (.int .i64 i)] [] 0 0) (fun i _ r => True) () (len_of hl.1) (by simp) trivial ?_ ?_
  · intro i x r _ hi hg hx hm hw hq ih
    simp [hi, hg, hw, e_r05_Same (hl.2 x hm).1]
    exact ih () trivial
  · intro _ hq
    simp
theorem e_r11_SameComms (l : List CommE) (hl : CommE.wfs l) : G n_r11_SameComms [.d (.sl (l.map CommE.enc)), .d (.sl (l.map CommE.enc))] [] = some (.d (.bool true), [], []) := by
  refine G_of rfl ?_
  simp
  refine Lh_list (α := Unit) l (fun i _ => hd [0, 1, 13, 14] [.d (.sl (l.map CommE.enc)), .d (.sl (l.map CommE.enc)), .d (.int .i64 l.length), .d (.int .i64 i)] [] 0 0) (fun i _ r => True) () (len_of hl.1) (by simp) trivial ?_ ?_
  · intro i x r _ hi hg hx hm hw hq ih
    simp [hi, hg]
    refine Lh_list (α := Unit) x.all (fun j _ => hd [0, 1, 5, 13, 14, 48, 49] [.d (.sl (l.map CommE.enc)), .d (.sl (l.map CommE.enc)), .d (.int .i64 i), .d (.int .i64 l.length), .d (.int .i64 i), .d (.int .i64 x.all.length), .d (.int .i64 j)] [] 0 0) (fun i _ r => True) () (len_of (hl.2 x hm).1) (by simp) trivial ?_ ?_
    · intro j y s _ hj hgy hy hym hw2 _ ih2
      simp [hi, hg, hj, hgy, hw2]
      exact ih2 () trivial
    · intro _ _
      simp [hw]
      exact ih () trivial
  · intro _ hq
    simp
theorem e_r11_Same (k lo hi : Int) (pf : List PfxE) (pa : List PathE) (co : List CommE) (h1 : PfxE.wfs pf) (h2 : PathE.wfs pa) (h3 : CommE.wfs co) :
    G n_r11_Same [.agg [.d (.int .i64 k), .d (.sl (pf.map PfxE.enc)), .d (.sl (pa.map PathE.enc)), .d (.sl (co.map CommE.enc)), .d (.int .u32 lo), .d (.int .u32 hi)], .agg [.d (.int .i64 k), .d (.sl (pf.map PfxE.enc)), .d (.sl (pa.map PathE.enc)), .d (.sl (co.map CommE.enc)), .d (.int .u32 lo), .d (.int .u32 hi)]] [] = some (.d (.bool true), [], []) := by
  refine G_of rfl ?_
  simp [e_r11_SamePfx pf h1.1, e_r11_SamePath pa h2, e_r11_SameComms co h3]
theorem e_r03_number (n : Int) : G n_r03_number [.d (.int .i64 n), .d (.int .i64 n)] [] = some (.d (.int .i64 0), [], []) := by
  refine G_of rfl ?_
  simp
theorem e_r03_list (l : List Int) (hl : len32 l) : G n_r03_list [.d (.sl (l.map num)), .d (.sl (l.map num))] [] = some (.d (.int .i64 0), [], []) := by
  refine G_of rfl ?_
  simp
  refine Lh_list (α := Unit) l (fun i _ => hd [0, 1, 5] [.d (.sl (l.map num)), .d (.sl (l.map num)), .d (.int .i64 i)] [] 0 0) (fun i _ r => True) () (len_of hl) (by simp) trivial ?_ ?_
  · intro i x r _ hi hg hx hm hw hq ih
    simp [hi, hg, hw]
    exact ih () trivial
  · intro _ hq
    simp [e_r03_number]
theorem e_r03_Cmp (a n pref med origin hop : Int) (path comms : List Int) (h1 : nums path) (h2 : nums comms) : G n_r03_Cmp [.agg [.d (.int .u32 a), .d (.int .i64 n), .d (.sl (path.map num)), .d (.sl (comms.map num)), .d (.int .u32 pref), .d (.int .u32 med), .d (.int .i64 origin), .d (.int .u32 hop)], .agg [.d (.int .u32 a), .d (.int .i64 n), .d (.sl (path.map num)), .d (.sl (comms.map num)), .d (.int .u32 pref), .d (.int .u32 med), .d (.int .i64 origin), .d (.int .u32 hop)]] [] = some (.d (.int .i64 0), [], []) := by
  refine G_of rfl ?_
  have c : ∀ k : Nat, k < 9 → IntKind.i64.wrap ((k : Int) + 1) = (k : Int) + 1 := fun k hk => by rw [wrap_i64] <;> omega
  have w1 : IntKind.i64.wrap 1 = 1 := by decide
  have w2 : IntKind.i64.wrap 2 = 2 := by decide
  have w3 : IntKind.i64.wrap 3 = 3 := by decide
  have w4 : IntKind.i64.wrap 4 = 4 := by decide
  have w5 : IntKind.i64.wrap 5 = 5 := by decide
  have w6 : IntKind.i64.wrap 6 = 6 := by decide
  have w7 : IntKind.i64.wrap 7 = 7 := by decide
  have w8 : IntKind.i64.wrap 8 = 8 := by decide
  simp [e_r03_number, e_r03_list path h1.1, e_r03_list comms h2.1]
  simp [Lh, w1, w2, w3, w4, w5, w6, w7, w8]
theorem e_r03_Great (a n pref med origin hop : Int) (path comms : List Int) : ∃ R, G n_r03_Great [.agg [.d (.int .u32 a), .d (.int .i64 n), .d (.sl (path.map num)), .d (.sl (comms.map num)), .d (.int .u32 pref), .d (.int .u32 med), .d (.int .i64 origin), .d (.int .u32 hop)]] [] = some R ∧ IsB R := by
  refine G_ex rfl ?_
  simp
  refine Gd_mk (fun g => ?_) (fun g => ?_) <;> simp [g] <;> exact ⟨_, rfl⟩
theorem e_r11_Great (k lo hi : Int) (pf : List PfxE) (pa : List PathE) (co : List CommE) (h1 : PfxE.wfs pf) (h2 : PathE.wfs pa) (h3 : CommE.wfs co) :
    ∃ R, G n_r11_Great [.agg [.d (.int .i64 k), .d (.sl (pf.map PfxE.enc)), .d (.sl (pa.map PathE.enc)), .d (.sl (co.map CommE.enc)), .d (.int .u32 lo), .d (.int .u32 hi)]] [] = some R ∧ IsB R := by
  refine G_ex rfl ?_
  simp
  refine Lh_list (α := Nat) pa (fun i a => hd [1, 3, 11, 12, 13] [.ref 0 0 0 0, .d (.int .i64 a), .d (.sl (pa.map PathE.enc)), .d (.int .i64 pa.length), .d (.int .i64 i)]
    [(0, .box [.d (.int .i64 k), .d (.sl (pf.map PfxE.enc)), .d (.sl (pa.map PathE.enc)), .d (.sl (co.map CommE.enc)), .d (.int .u32 lo), .d (.int .u32 hi)])] 1 0) (fun i a r => a ≤ 3000) 0 (len_of h2.1) (by simp) (by decide) ?_ ?_
  · rintro i x r a hi hg hx hm hw h4 ih2
    have hs := e_r05_Size (h2.2 x hm).1 (h2.2 x hm).2
    have hy : min x.pat.parts 1000000 ≤ 1000000 := by omega
    generalize min x.pat.parts 1000000 = y at *
    have w1 : IntKind.i64.wrap ((a : Int) + y) = (a : Int) + y := by rw [wrap_i64] <;> omega
    simp [hi, hg, hw, hs, w1]
    refine Gd_mk (fun g => ?_) (fun g => ?_) <;> simp [g]
    · exact ⟨_, rfl⟩
    · refine Br_mk (fun g2 => ?_) (fun g2 => ?_) <;> simp [g2]
      · exact ⟨_, rfl⟩
      · simp at g2
        simp [hw]
        simpa using ih2 (a + y) (by omega)
  · intro a _
    simp
    refine Lh_list (α := Nat) co (fun i a => hd [1, 3, 35, 36, 37] [.ref 0 0 0 0, .d (.int .i64 a), .d (.sl (co.map CommE.enc)), .d (.int .i64 co.length), .d (.int .i64 i)]
      [(0, .box [.d (.int .i64 k), .d (.sl (pf.map PfxE.enc)), .d (.sl (pa.map PathE.enc)), .d (.sl (co.map CommE.enc)), .d (.int .u32 lo), .d (.int .u32 hi)])] 1 0) (fun i a r => a ≤ 3000) 0 (len_of h3.1) (by simp) (by decide) ?_ ?_
    · rintro i x r a hi hg hx hm hw h4 ih2
      have w0 : (if (10000 : Int) < x.all.length then 10000 else (x.all.length : Int)) = ((min x.all.length 10000 : Nat) : Int) := by split <;> omega
      have hy : min x.all.length 10000 ≤ 10000 := by omega
      generalize min x.all.length 10000 = y at *
      have w1 : IntKind.i64.wrap ((a : Int) + y) = (a : Int) + y := by rw [wrap_i64] <;> omega
      simp [hi, hg, hw, w0, w1]
      refine Gd_mk (fun g => ?_) (fun g => ?_) <;> simp [g]
      · exact ⟨_, rfl⟩
      · refine Br_mk (fun g2 => ?_) (fun g2 => ?_) <;> simp [g2]
        · exact ⟨_, rfl⟩
        · simp at g2
          simp [hw]
          simpa using ih2 (a + y) (by omega)
    · intro a _
      simp
      exact ⟨_, rfl⟩
end Go.Proofs.Ythbhafgdbndamaa
