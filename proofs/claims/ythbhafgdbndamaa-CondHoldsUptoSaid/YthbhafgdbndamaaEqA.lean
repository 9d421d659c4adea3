/- Equations: prefixes. Equations: sets of numbers, boxes, communities. Equations: patterns, their sizes and kinds. Equations: matching, the program's own way (places as four words). -/
import Derived.Test.YthbhafgdbndamaaAmP
import Derived.Test.YthbhafgdbndamaaAmD
set_option linter.unusedVariables false
set_option linter.unusedSimpArgs false
set_option maxRecDepth 10000
namespace Go.Proofs.Ythbhafgdbndamaa
open Go Go.Proofs.Am Go.Proofs.Dr
def sp : CallT := fun _ _ _ => none
noncomputable abbrev G : CallT := L PF sp
abbrev u (n : Int) : V := .d (.int .u32 n)
abbrev i (n : Int) : V := .d (.int .i64 n)

theorem clamp_eq (n : Int) : (if 0 < if 32 < n then 32 else n then if 32 < n then 32 else n else 0) = cl32 n := by
  simp only [cl32]; split <;> split <;> omega
theorem e_route_Mask (a n : Int) (ha : isU32 a) (hn : isI64 n) : G n_route_Mask [.agg [.d (.int .u32 a), .d (.int .i64 n)]] [] = some (.agg [.d (.int .u32 (mask ⟨a, n⟩).addr), .d (.int .i64 (mask ⟨a, n⟩).len)], [], []) := by
  refine G_of rfl ?_
  have hb := cl32_bounds n
  have w1 : IntKind.i64.wrap (32 - cl32 n) = 32 - cl32 n := wrap_i64 (by omega) (by omega)
  have w2 : (32 - cl32 n < 0) = False := by simp; omega
  have w3 : IntKind.u64.wrap a = a := wrap_u64 ha.1 (by have := ha.2; omega)
  have w4 : min (32 - cl32 n).toNat IntKind.u64.bits = (32 - cl32 n).toNat := by simp only [IntKind.bits]; omega
  have hs : (2 : Int) ^ (32 - cl32 n).toNat = step32 n := rfl
  have w5 : a.fdiv (step32 n) = a / step32 n := Int.fdiv_eq_ediv_of_nonneg _ (Int.le_of_lt (step32_pos n))
  have hm := mask_addr a n ha
  have := ha.2
  have w6 : IntKind.u64.wrap (a / step32 n * step32 n) = a / step32 n * step32 n := wrap_u64 hm.1 (by omega)
  have w7 : IntKind.u32.wrap (a / step32 n * step32 n) = a / step32 n * step32 n := wrap_u32 hm.1 (by omega)
  simp only [argSl, argOb, List.length_nil]
  simp [clamp_eq, w1, w2, w3, w4, hs, w5, w6, w7, mask]
theorem e_r03_Mask (a n : Int) (ha : isU32 a) (hn : isI64 n) : G n_r03_Mask [.agg [.d (.int .u32 a), .d (.int .i64 n)]] [] = some (.agg [.d (.int .u32 (mask ⟨a, n⟩).addr), .d (.int .i64 (mask ⟨a, n⟩).len)], [], []) := by
  refine G_of rfl ?_
  have hb := cl32_bounds n
  have hm := mask_addr a n ha
  have := ha.2
  have w3 : IntKind.u64.wrap a = a := wrap_u64 ha.1 (by have := ha.2; omega)
  have hs : (2 : Int) ^ (32 - cl32 n).toNat = step32 n := rfl
  have w6 : IntKind.u64.wrap (a / step32 n * step32 n) = a / step32 n * step32 n := wrap_u64 hm.1 (by omega)
  have w7 : IntKind.u32.wrap (a / step32 n * step32 n) = a / step32 n * step32 n := wrap_u32 hm.1 (by omega)
  have hp := step32_pos n
  have hl := step32_le n
  simp [clamp_eq]
  refine Lh_ind (fun k : Nat => hd [1, 2, 3, 4, 5] [.ref 0 0 0 0, .ref 64 0 0 0, .d (.int .i64 (cl32 n)), .d (.int .u64 (2 ^ k)), .d (.int .i64 (cl32 n + k))] [(0, .box [.d (.int .u32 a), .d (.int .i64 n)]), (64, .box [.d (.int .u32 0), .d (.int .i64 0)])] 65 0) (fun k => 33 - k) (fun k => cl32 n + k ≤ 32) 0 (by simp) (by omega) ?_
  intro k hk ih
  simp
  by_cases h : cl32 n + k < 32
  · have w8 : IntKind.u64.wrap (2 * 2 ^ k) = 2 ^ (k + 1) := by
      rw [wrap_u64]
      · rw [Int.pow_succ]; omega
      · have : (0 : Int) < 2 ^ k := Int.pow_pos (by decide)
        omega
      · have h1 : 2 ^ k ≤ 2 ^ 32 := Nat.pow_le_pow_right (by decide) (by omega)
        have h2 : ((2 ^ k : Nat) : Int) = (2 : Int) ^ k := by simp
        omega
    have w9 : IntKind.i64.wrap (cl32 n + k + 1) = cl32 n + (k + 1 : Nat) := by rw [wrap_i64] <;> omega
    simp [h, w8, w9]
    exact ih (k + 1) (by omega) (by omega)
  · have hk2 : (2 : Int) ^ k = step32 n := by simp only [step32]; congr 1; omega
    have h0 : step32 n ≠ 0 := by omega
    have w5 : a.tdiv (step32 n) = a / step32 n := Int.tdiv_eq_ediv_of_nonneg ha.1
    have w10 : IntKind.u64.wrap (a / step32 n) = a / step32 n := wrap_u64 (Int.ediv_nonneg ha.1 (by omega)) (by have := Int.ediv_le_self (step32 n) ha.1; omega)
    simp [h, w3, hk2, h0, w5, w6, w7, w10, mask]

theorem e_pfx_Right (a n ge le : Int) (ha : isU32 a) (hn : isI64 n) : G n_pfx_Right [.agg [.d (.int .u32 a), .d (.int .i64 n), .d (.int .i64 ge), .d (.int .i64 le)]] [] = some (.d (.bool (rngRight ⟨⟨a, n⟩, ge, le⟩)), [], []) := by
  refine G_of rfl ?_
  simp [e_route_Mask a n ha hn, Pfx.eqb_mk]
  repeat' (first | (refine Gd_mk (fun h => ?_) (fun h => ?_) <;> simp [h]))
  all_goals simp_all [rngRight]
  all_goals omega
theorem e_r03_Right (a n : Int) (ha : isU32 a) (hn : isI64 n) : G n_r03_Right [.agg [.d (.int .u32 a), .d (.int .i64 n)]] [] = some (.d (.bool (Pfx.eqb ⟨a, n⟩ (mask ⟨a, n⟩))), [], []) := by
  refine G_of rfl ?_
  simp [e_r03_Mask a n ha hn, Pfx.eqb_mk]
theorem e_r04_Right (a n ge le : Int) (ha : isU32 a) (hn : isI64 n) : G n_r04_Right [.agg [.d (.int .u32 a), .d (.int .i64 n), .d (.int .i64 ge), .d (.int .i64 le)]] [] = some (.d (.bool (rngRight ⟨⟨a, n⟩, ge, le⟩)), [], []) := by
  refine G_of rfl ?_
  simp [e_r03_Right a n ha hn]
  repeat' (first | (refine Gd_mk (fun h => ?_) (fun h => ?_) <;> simp [h]))
  all_goals simp_all [rngRight]
  all_goals omega
theorem e_r04_cut (a n : Int) (ha : isU32 a) (hn : isI64 n) : G n_r04_cut [.d (.int .u32 a), .d (.int .i64 n)] [] = some (.d (.int .u32 (a / step32 n * step32 n)), [], []) := by
  refine G_of rfl ?_
  simp [e_r03_Mask a n ha hn, mask]
theorem e_pfx_begins (a b n : Int) (ha : isU32 a) (hb : isU32 b) (hn : 0 ≤ n ∧ n ≤ 32) : G n_pfx_begins [.d (.int .u32 a), .agg [.d (.int .u32 b), .d (.int .i64 n)]] [] = some (.d (.bool (decide (a / step32 n = b / step32 n))), [], []) := by
  refine G_of rfl ?_
  have w1 : IntKind.i64.wrap (32 - n) = 32 - n := wrap_i64 (by omega) (by omega)
  have w2 : (32 - n < 0) = False := by simp; omega
  have w4 : min (32 - n).toNat IntKind.u64.bits = (32 - n).toNat := by simp only [IntKind.bits]; omega
  have hs : (2 : Int) ^ (32 - n).toNat = step32 n := (step32_of hn).symm
  have hz := xor32_u32 a b
  have h2 := hz.2
  have w6 : IntKind.u64.wrap (xor32 a b) = xor32 a b := wrap_u64 hz.1 (by omega)
  have w7 : (xor32 a b).fdiv (step32 n) = xor32 a b / step32 n := Int.fdiv_eq_ediv_of_nonneg _ (Int.le_of_lt (step32_pos n))
  rw [← begins_eq ha hb hn]
  simp [w1, w2, w4, hs, w6, w7]
theorem e_pfx_In (a n ge le b m : Int) (ha : isU32 a) (hn : isI64 n) (hb : isU32 b) (hm : isI64 m) : G n_pfx_In [.agg [.d (.int .u32 a), .d (.int .i64 n), .d (.int .i64 ge), .d (.int .i64 le)], .agg [.d (.int .u32 b), .d (.int .i64 m)]] [] = some (.d (.bool (rngIn ⟨⟨a, n⟩, ge, le⟩ ⟨b, m⟩)), [], []) := by
  refine G_of rfl ?_
  simp [e_pfx_Right a n ge le ha hn]
  cases hr : rngRight ⟨⟨a, n⟩, ge, le⟩
  · simp [rngIn, hr]
  · have hbase : a = (mask ⟨a, n⟩).addr ∧ n = (mask ⟨a, n⟩).len := by simp [rngRight, Pfx.eqb] at hr; exact hr.1.1.1
    have hn2 : 0 ≤ n ∧ n ≤ 32 := by have := cl32_bounds n; simp only [mask] at hbase; omega
    simp only [mask] at hbase
    simp [e_route_Mask b m hb hm, Pfx.eqb_mk]
    repeat' (first | (refine Gd_mk (fun h => ?_) (fun h => ?_) <;> simp [h, e_pfx_begins b a n hb ha hn2, step32_dvd hbase.1]))
    all_goals clear hbase
    all_goals simp_all [rngIn]
    all_goals omega
theorem e_r04_In (a n ge le b m : Int) (ha : isU32 a) (hn : isI64 n) (hb : isU32 b) (hm : isI64 m) : G n_r04_In [.agg [.d (.int .u32 a), .d (.int .i64 n), .d (.int .i64 ge), .d (.int .i64 le)], .agg [.d (.int .u32 b), .d (.int .i64 m)]] [] = some (.d (.bool (rngIn ⟨⟨a, n⟩, ge, le⟩ ⟨b, m⟩)), [], []) := by
  refine G_of rfl ?_
  simp [e_r04_Right a n ge le ha hn]
  repeat' (first | (refine Gd_mk (fun h => ?_) (fun h => ?_) <;> simp [h, e_r03_Right b m hb hm, e_r04_cut b n hb hn]))
  all_goals simp_all [rngIn]
  all_goals omega
theorem e_pfx_Match_1 (e : PfxE) (p : Pfx) (he : e.rng.wf) (hp : p.wf) : G n_pfx_Match_1 [.agg (e.enc.map .d), .d (.ptr p.enc 0)] [] = some (.d (.bool (rngIn e.rng p)), [], []) := by
  refine G_of rfl ?_
  simp [e_pfx_In _ _ _ _ _ _ he.1.1 he.1.2 hp.1 hp.2]
theorem e_pfx_Match (l : List PfxE) (b m : Int) (hl : PfxE.wfs l) (hp : Pfx.wf ⟨b, m⟩) : G n_pfx_Match [.d (.sl (l.map PfxE.enc)), .agg [.d (.int .u32 b), .d (.int .i64 m)]] [] = some (.d (.bool (pfxTakes l ⟨b, m⟩)), [], []) := by
  refine G_of rfl ?_
  have h := idx_of (sp := sp) (f := n_sl_IndexFunc_PfxEntry) (g := n_pfx_Match_1) (caps := [.ptr (Pfx.enc ⟨b, m⟩) 0]) (arg := fun e => .agg (e.enc.map .d)) (p := fun e : PfxE => rngIn e.rng ⟨b, m⟩) (enc := PfxE.enc) (l := l) (show PF n_sl_IndexFunc_PfxEntry = some (aIdx true 5) from rfl) (by have := hl.1; simp only [len32] at this; omega) (fun e he => ⟨rfl, rfl, fun _ => by simp, by simp, e_pfx_Match_1 e ⟨b, m⟩ (hl.2 e he) hp⟩)
  simp at h
  simp [h]
  rcases idxI_cases (fun e : PfxE => rngIn e.rng ⟨b, m⟩) l with ⟨h1, h2, h3⟩ | ⟨k, x, h1, h2, h3, h4, h5, h6⟩
  · simp [h3, pfxTakes, fst1_find, h1]
  · simp [h6, pfxTakes, fst1_find, h4, h2]
theorem e_r04_Match (l : List PfxE) (b m : Int) (hl : PfxE.wfs l) (hp : Pfx.wf ⟨b, m⟩) : G n_r04_Match [.d (.sl (l.map PfxE.enc)), .agg [.d (.int .u32 b), .d (.int .i64 m)]] [] = some (.d (.bool (pfxTakes l ⟨b, m⟩)), [], []) := by
  refine G_of rfl ?_
  simp
  refine Lh_list (α := Unit) l (fun i _ => hd [3, 7, 8, 9] [.ref 0 0 0 0, .d (.sl (l.map PfxE.enc)), .d (.int .i64 l.length), .d (.int .i64 i)] [(0, .box [.d (.int .u32 b), .d (.int .i64 m)])] 1 0) (fun i _ r => pfxTakes l ⟨b, m⟩ = pfxTakes r ⟨b, m⟩) () (by have := hl.1; simp only [len32] at this; omega) (by simp) rfl ?_ ?_
  · intro i x r _ hi hg hx hm hw hq ih
    have hr := hl.2 x hm
    simp [hi, hg]
    simp [e_r04_In _ _ _ _ _ _ hr.1.1 hr.1.2 hp.1 hp.2]
    simp only [pfxTakes, fst1] at hq
    refine Br_mk (fun h => ?_) (fun h => ?_)
    · simp
      simp [pfxTakes, hq, h]
    · simp [hw]
      exact ih () (by simp [pfxTakes, hq, h])
  · intro _ hq
    simp
    rw [hq]
    rfl
end Go.Proofs.Ythbhafgdbndamaa
set_option linter.unusedVariables false
set_option linter.unusedSimpArgs false
set_option maxRecDepth 10000
namespace Go.Proofs.Ythbhafgdbndamaa
open Go Go.Proofs.Am Go.Proofs.Dr

theorem len_of {α : Type} {l : List α} (h : len32 l) : l.length ≤ 4611686018427387904 := by simp only [len32] at h; omega

theorem e_span_In_1 (x lo hi : Int) : G n_span_In_1 [.agg [.d (.int .u32 lo), .d (.int .u32 hi)], .d (.ptr [.int .u32 x] 0)] [] = some (.d (.bool (decide (lo ≤ x) && decide (x ≤ hi))), [], []) := by
  refine G_of rfl ?_
  simp
  refine Gd_mk (fun h => ?_) (fun h => ?_) <;> simp [h]
theorem e_span_In (l : List Spn) (n : Int) (hl : Spn.wfs l) : G n_span_In [.d (.sl (l.map Spn.enc)), .d (.int .u32 n)] [] = some (.d (.bool (spnIn l n)), [], []) := by
  refine G_of rfl ?_
  have h := has_of (sp := sp) (h := n_sl_ContainsFunc_Span) (f := n_sl_IndexFunc_Span) (g := n_span_In_1) (caps := [.ptr [.int .u32 n] 0]) (arg := fun e => .agg (e.enc.map .d)) (p := fun s : Spn => decide (s.lo ≤ n) && decide (n ≤ s.hi)) (enc := Spn.enc) (l := l) rfl (show PF n_sl_IndexFunc_Span = some (aIdx true 2) from rfl) (len_of hl.1) (fun e he => ⟨rfl, rfl, fun _ => by simp, by simp, by simp [e_span_In_1]⟩)
  simp [h, spnIn]
theorem e_r01_In (l : List Spn) (n : Int) (hl : Spn.wfs l) : G n_r01_In [.d (.sl (l.map Spn.enc)), .d (.int .u32 n)] [] = some (.d (.bool (spnIn l n)), [], []) := by
  refine G_of rfl ?_
  simp
  refine Lh_list (α := Unit) l (fun i _ => hd [1, 7, 8, 9] [.d (.int .u32 n), .d (.sl (l.map Spn.enc)), .d (.int .i64 l.length), .d (.int .i64 i)] [] 0 0) (fun i _ r => spnIn l n = spnIn r n) () (len_of hl.1) (by simp) rfl ?_ ?_
  · intro i x r _ hi hg hx hm hw hq ih
    simp [hi, hg]
    refine Gd_mk (fun h => ?_) (fun h => ?_) <;> simp [h]
    · refine Br_mk (fun h2 => ?_) (fun h2 => ?_) <;> simp [h2]
      · rw [hq]; simp only [spnIn, List.any_cons, h, h2]; rfl
      · simp [hw]
        exact ih () (by rw [hq]; simp only [spnIn, List.any_cons, h, h2]; rfl)
    · simp [hw]
      exact ih () (by rw [hq]; simp only [spnIn, List.any_cons, h]; rfl)
  · intro _ hq
    simp
    rw [hq]; rfl

/-! ### Boxes -/
def pt (c : Int) : D := .cpx .f64 (FloatKind.f64.nearest (c / 65536)) (FloatKind.f64.nearest (c % 65536))
theorem e_plane_point (c : Int) (hc : isU32 c) : G n_plane_point [.d (.int .u32 c)] [] = some (.d (pt c), [], []) := by
  refine G_of rfl ?_
  have h2 := hc.2
  have w1 : c.tdiv 65536 = c / 65536 := Int.tdiv_eq_ediv_of_nonneg hc.1
  have w2 : c.tmod 65536 = c % 65536 := Int.tmod_eq_emod_of_nonneg hc.1
  have w3 : IntKind.u32.wrap (c / 65536) = c / 65536 := wrap_u32 (Int.ediv_nonneg hc.1 (by decide)) (by omega)
  simp [w1, w2, w3, pt]
theorem near_sub {a b : Int} (ha : 0 ≤ a ∧ a < 65536) (hb : 0 ≤ b ∧ b < 65536) : ∃ r, FloatKind.f64.format.sub (FloatKind.f64.nearest a) (FloatKind.f64.nearest b) = some r ∧
    (FloatKind.f64.format.order r 0 == some .gt || FloatKind.f64.format.order r 0 == some .eq) = decide (b ≤ a) := by
  obtain ⟨x, rfl⟩ := Int.eq_ofNat_of_zero_le ha.1
  obtain ⟨y, rfl⟩ := Int.eq_ofNat_of_zero_le hb.1
  have e : ∀ n : Nat, FloatKind.f64.nearest (n : Int) = Ieee.double.nearest false n 0 := fun n => by
    have h : decide ((n : Int) < 0) = false := by simp
    show Ieee.double.nearest (decide ((n : Int) < 0)) (n : Int).natAbs 0 = _
    rw [h]; simp
  rw [e, e]
  obtain ⟨r, h1, h2⟩ := Flt.sub_geq (a := x) (b := y) (by omega) (by omega)
  exact ⟨r, h1, h2.trans (decide_eq_decide.2 (by omega))⟩
theorem e_plane_within (c lo hi : Int) (hc : isU32 c) (hlo : isU32 lo) (hhi : isU32 hi) : G n_plane_within [.d (pt c), .d (pt lo), .d (pt hi)] [] = some (.d (.bool (boxIn ⟨lo, hi⟩ c)), [], []) := by
  refine G_of rfl ?_
  have q1 := hc.1
  have q2 := hc.2
  have q3 := hlo.1
  have q4 := hlo.2
  have q5 := hhi.1
  have q6 := hhi.2
  obtain ⟨r1, h1, g1⟩ := near_sub (a := c / 65536) (b := lo / 65536) (by omega) (by omega)
  obtain ⟨r2, h2, g2⟩ := near_sub (a := c % 65536) (b := lo % 65536) (by omega) (by omega)
  obtain ⟨r3, h3, g3⟩ := near_sub (a := hi / 65536) (b := c / 65536) (by omega) (by omega)
  obtain ⟨r4, h4, g4⟩ := near_sub (a := hi % 65536) (b := c % 65536) (by omega) (by omega)
  simp [pt, h1, h2, h3, h4, binFlt, g1, g2, g3, g4]
  repeat' (first | (refine Gd_mk (fun h => ?_) (fun h => ?_) <;> simp [h, binFlt, g1, g2, g3, g4]))
  all_goals simp_all [boxIn]
  all_goals omega
theorem e_plane_In (lo hi c : Int) (hc : isU32 c) (hlo : isU32 lo) (hhi : isU32 hi) : G n_plane_In [.agg [.d (.int .u32 lo), .d (.int .u32 hi)], .d (.int .u32 c)] [] = some (.d (.bool (boxIn ⟨lo, hi⟩ c)), [], []) := by
  refine G_of rfl ?_
  have h := e_plane_within c lo hi hc hlo hhi
  simp [pt] at h
  simp [e_plane_point, hc, hlo, hhi, pt, h]
theorem e_r02_In (lo hi c : Int) (hc : isU32 c) (hlo : isU32 lo) (hhi : isU32 hi) : G n_r02_In [.agg [.d (.int .u32 lo), .d (.int .u32 hi)], .d (.int .u32 c)] [] = some (.d (.bool (boxIn ⟨lo, hi⟩ c)), [], []) := by
  refine G_of rfl ?_
  have w : ∀ x, isU32 x → x.tdiv 65536 = x / 65536 ∧ x.tmod 65536 = x % 65536 ∧ IntKind.u32.wrap (x / 65536) = x / 65536 := fun x hx => by
    have h2 := hx.2
    exact ⟨Int.tdiv_eq_ediv_of_nonneg hx.1, Int.tmod_eq_emod_of_nonneg hx.1, wrap_u32 (Int.ediv_nonneg hx.1 (by decide)) (by omega)⟩
  have a1 := w c hc
  have a2 := w lo hlo
  have a3 := w hi hhi
  simp [a1, a2, a3]
  repeat' (first | (refine Gd_mk (fun h => ?_) (fun h => ?_) <;> simp [h, a1, a2, a3]))
  all_goals simp_all [boxIn]
  all_goals omega

/-! ### Communities -/
theorem e_cond_has_1 (b : Spn) (c : Int) (hb : b.wf) (hc : isU32 c) : G n_cond_has_1 [.d (.int .u32 c), .d (.ptr [.int .u32 b.lo, .int .u32 b.hi] 0)] [] = some (.d (.bool (boxIn b c)), [], []) := by
  refine G_of rfl ?_
  simp [e_plane_In _ _ _ hc hb.1 hb.2]
theorem e_cond_has (lo hi : Int) (l : List Int) (hb : Spn.wf ⟨lo, hi⟩) (hl : nums l) : G n_cond_has [.agg [.d (.int .u32 lo), .d (.int .u32 hi)], .d (.sl (l.map num))] [] = some (.d (.bool (l.any (boxIn ⟨lo, hi⟩))), [], []) := by
  refine G_of rfl ?_
  have h := has_of (sp := sp) (h := n_sl_ContainsFunc_uint32) (f := n_sl_IndexFunc_uint32) (g := n_cond_has_1) (caps := [.ptr [.int .u32 lo, .int .u32 hi] 0]) (arg := fun n => .d (.int .u32 n)) (p := boxIn ⟨lo, hi⟩) (enc := num) (l := l) rfl (show PF n_sl_IndexFunc_uint32 = some (aIdx false 1) from rfl) (len_of hl.1) (fun e he => ⟨rfl, rfl, fun _ => by simp, by simp, by simpa using e_cond_has_1 ⟨lo, hi⟩ e hb (hl.2 e he)⟩)
  simp [h]
theorem e_cond_TakesComms_1_1 (lo hi : Int) (l : List Int) (hb : Spn.wf ⟨lo, hi⟩) (hl : nums l) : G n_cond_TakesComms_1_1 [.agg [.d (.int .u32 lo), .d (.int .u32 hi)], .d (.ptr [.sl (l.map num)] 0)] [] = some (.d (.bool (!l.any (boxIn ⟨lo, hi⟩))), [], []) := by
  refine G_of rfl ?_
  simp [e_cond_has lo hi l hb hl]
theorem e_cond_TakesComms_1 (l : List CommE) (cs : List Int) (hl : CommE.wfs l) (hc : nums cs) (i : Nat) (e : CommE) (hi : i < l.length) (he : l[i] = e) : G n_cond_TakesComms_1 [.d (.int .i64 i), .d (.ptr [.sl (l.map CommE.enc)] 0), .d (.ptr [.sl (cs.map num)] 0)] [] = some (.d (.bool (commAll e.all cs)), [], []) := by
  refine G_of rfl ?_
  have hm : e ∈ l := by rw [← he]; exact List.getElem_mem hi
  have hw := hl.2 e hm
  have h := has_of (sp := sp) (h := n_sl_ContainsFunc_Box) (f := n_sl_IndexFunc_Box) (g := n_cond_TakesComms_1_1) (caps := [.ptr [.sl (cs.map num)] 0]) (arg := fun e => .agg (e.enc.map .d)) (p := fun b : Spn => !cs.any (boxIn b)) (enc := Spn.enc) (l := e.all) rfl (show PF n_sl_IndexFunc_Box = some (aIdx true 2) from rfl) (len_of hw.1) (fun b hb => ⟨rfl, rfl, fun _ => by simp, by simp, by simpa using e_cond_TakesComms_1_1 b.lo b.hi cs (hw.2 b hb) hc⟩)
  simp [hi, he, h]
  simp only [commAll, List.all_eq_not_any_not, Bool.not_not]
theorem e_cond_TakesComms_2 (l : List CommE) (i : Nat) (e : CommE) (hi : i < l.length) (he : l[i] = e) : G n_cond_TakesComms_2 [.d (.int .i64 i), .d (.ptr [.sl (l.map CommE.enc)] 0)] [] = some (.d (.bool e.deny), [], []) := by
  refine G_of rfl ?_
  simp [hi, he]
theorem e_cond_first {α : Type} (l : List α) (p q : α → Bool) (g1 g2 : Nat) (c1 c2 : List D) (hl : len32 l)
    (hp : ∀ (i : Nat) x (hi : i < l.length), l[i] = x → G g1 (.d (.int .i64 i) :: c1.map toV) [] = some (.d (.bool (p x)), [], []))
    (hq : ∀ (i : Nat) x (hi : i < l.length), l[i] = x → G g2 (.d (.int .i64 i) :: c2.map toV) [] = some (.d (.bool (q x)), [], [])) :
    G n_cond_first [.d (.int .i64 l.length), .d (.fn g1 c1), .d (.fn g2 c2)] [] = some (.d (.bool (fst1 p q l)), [], []) := by
  refine G_of rfl ?_
  simp
  refine Lh_list (α := Unit) l (fun i _ => hd [1, 2, 8, 9] [.d (.fn g1 c1), .d (.fn g2 c2), .d (.int .i64 l.length), .d (.int .i64 i)] [] 0 0) (fun i _ r => fst1 p q l = fst1 p q r) () (len_of hl) (by simp) rfl ?_ ?_
  · intro i x r _ hi hg hx hm hw hf ih
    simp [hi, hp i x hi hg]
    refine Br_mk (fun h2 => ?_) (fun h2 => ?_)
    · simp [hq i x hi hg]
      simp [hf, fst1, h2]
    · simp [hw]
      exact ih () (by rw [hf]; simp [fst1, h2])
  · intro _ hf
    simp
    rw [hf]; rfl
theorem e_cond_TakesComms (l : List CommE) (cs : List Int) (hl : CommE.wfs l) (hc : nums cs) : G n_cond_TakesComms [.d (.sl (l.map CommE.enc)), .d (.sl (cs.map num))] [] = some (.d (.bool (commTakes l cs)), [], []) := by
  refine G_of rfl ?_
  have h := e_cond_first l (fun e => commAll e.all cs) (fun e => e.deny) n_cond_TakesComms_1 n_cond_TakesComms_2 [.ptr [.sl (l.map CommE.enc)] 0, .ptr [.sl (cs.map num)] 0] [.ptr [.sl (l.map CommE.enc)] 0] hl.1
    (fun i x hi hx => e_cond_TakesComms_1 l cs hl hc i x hi hx) (fun i x hi hx => e_cond_TakesComms_2 l i x hi hx)
  simp [h, commTakes]
theorem e_r11_all (l : List Spn) (cs : List Int) (hl : Spn.wfs l) (hc : nums cs) : G n_r11_all [.d (.sl (l.map Spn.enc)), .d (.sl (cs.map num))] [] = some (.d (.bool (commAll l cs)), [], []) := by
  refine G_of rfl ?_
  simp
  refine Lh_list (α := Unit) l (fun i _ => hd [1, 10, 11, 12] [.d (.sl (cs.map num)), .d (.sl (l.map Spn.enc)), .d (.int .i64 l.length), .d (.int .i64 i)] [] 0 0) (fun i _ r => commAll l cs = commAll r cs) () (len_of hl.1) (by simp) rfl ?_ ?_
  · intro i x r _ hi hg hx hm hw hq ih
    have hxw := hl.2 x hm
    simp [hi, hg]
    refine Lh_list (α := Bool) cs (fun j b => hd [1, 6, 7, 10, 11, 12, 16, 17, 18] [.d (.sl (cs.map num)), .ref 192 0 0 0, .d (.bool b), .d (.sl (l.map Spn.enc)), .d (.int .i64 l.length), .d (.int .i64 i), .d (.sl (cs.map num)), .d (.int .i64 cs.length), .d (.int .i64 j)] [(192, .box [.d (.int .u32 x.lo), .d (.int .u32 x.hi)])] 193 0) (fun j b r => cs.any (boxIn x) = (b || r.any (boxIn x))) false (len_of hc.1) (by simp) (by simp) ?_ ?_
    · intro j y s b hj hgy _ hym hw2 hb ih2
      simp [hj, hgy]
      cases b
      · simp [e_r02_In _ _ _ (hc.2 y hym) hxw.1 hxw.2, hw2]
        exact ih2 _ (by rw [hb]; simp)
      · simp [hw2]
        exact ih2 _ (by rw [hb]; simp)
    · intro b hb
      simp
      cases b
      · simp
        rw [hq]; simp only [commAll, List.all_cons, hb]; rfl
      · simp [hw]
        exact ih () (by rw [hq]; simp only [commAll, List.all_cons, hb]; rfl)
  · intro _ hq
    simp
    rw [hq]; rfl
theorem e_r11_TakesComms (l : List CommE) (cs : List Int) (hl : CommE.wfs l) (hc : nums cs) : G n_r11_TakesComms [.d (.sl (l.map CommE.enc)), .d (.sl (cs.map num))] [] = some (.d (.bool (commTakes l cs)), [], []) := by
  refine G_of rfl ?_
  simp
  refine Lh_list (α := Unit) l (fun i _ => hd [1, 7, 8, 9] [.d (.sl (cs.map num)), .d (.sl (l.map CommE.enc)), .d (.int .i64 l.length), .d (.int .i64 i)] [] 0 0) (fun i _ r => commTakes l cs = commTakes r cs) () (len_of hl.1) (by simp) rfl ?_ ?_
  · intro i x r _ hi hg hx hm hw hq ih
    simp [hi, hg, e_r11_all x.all cs (hl.2 x hm) hc]
    refine Br_mk (fun h => ?_) (fun h => ?_)
    · simp
      rw [hq]; simp [commTakes, fst1, h]
    · simp [hw]
      exact ih () (by rw [hq]; simp [commTakes, fst1, h])
  · intro _ hq
    simp
    rw [hq]; rfl
theorem e_r11_CommsRight (l : List CommE) (hl : CommE.wfs l) : G n_r11_CommsRight [.d (.sl (l.map CommE.enc))] [] = some (.d (.bool (commRight l)), [], []) := by
  refine G_of rfl ?_
  simp
  refine Br_mk (fun h => ?_) (fun h => ?_)
  · simp at h
    simp [commRight]
    omega
  · simp at h
    simp
    refine Lh_list (α := Unit) l (fun i _ => hd [8, 9, 10] [.d (.sl (l.map CommE.enc)), .d (.int .i64 l.length), .d (.int .i64 i)] [] 0 0) (fun i _ r => commRight l = r.all fun e => decide (e.all.length ≤ 64)) () (len_of hl.1) (by simp) (by rw [commRight, decide_eq_true (show l.length ≤ 64 by omega)]; rfl) ?_ ?_
    · intro i x r _ hi hg hx hm hw hq ih
      simp [hi, hg]
      refine Br_mk (fun h2 => ?_) (fun h2 => ?_) <;> simp at h2
      · simp
        rw [hq]
        have : decide (x.all.length ≤ 64) = false := by simp; omega
        simp only [List.all_cons, this, Bool.false_and]
      · simp [hw]
        refine ih () ?_
        rw [hq]
        have : decide (x.all.length ≤ 64) = true := by simp; omega
        simp only [List.all_cons, this, Bool.true_and]
    · intro _ hq
      simp
      rw [hq]; rfl
end Go.Proofs.Ythbhafgdbndamaa
set_option linter.unusedVariables false
set_option linter.unusedSimpArgs false
set_option maxRecDepth 10000
namespace Go.Proofs.Ythbhafgdbndamaa
open Go Go.Proofs.Am Go.Proofs.Dr

theorem e_pat_Size {p : Pt} (hw : p.wf) : p.parts ≤ 1048576 → G n_pat_Size [.agg [.d (.int .i64 p.kind), .d (.sl (p.set.map Spn.enc)), .d (.sl (p.subs.map Pt.enc))]] [] = some (.tup [.d (.int .i64 p.parts), .d (.int .i64 p.deep)], [], []) := by
  induction hw with
  | @mk k set subs hk hset hlen _ ih =>
  intro hb
  simp only [Pt.parts_eq] at hb
  have hdp := Pt.deepL_le subs
  refine G_of rfl ?_
  simp
  refine Lh_list (α := Nat × Nat) subs (fun i a => hd [2, 3, 9, 10, 11] [.d (.int .i64 a.1), .d (.int .i64 a.2), .d (.sl (subs.map Pt.enc)), .d (.int .i64 subs.length), .d (.int .i64 i)] [] 0 0) (fun i a r => a.1 + Pt.partsL r = Pt.partsL subs + 1 ∧ max a.2 (Pt.deepL r) = Pt.deepL subs) (1, 0) (len_of hlen) (by simp) (by simp; omega) ?_ ?_
  · rintro i x r ⟨a, b⟩ hi hg hx hm hw ⟨h1, h2⟩ ih2
    have hx1 := Pt.parts_mem hm
    have hc := ih x hm (by omega)
    simp only [Pt.partsL, Pt.deepL] at h1 h2
    have hd2 := Pt.deep_le x
    have w1 : IntKind.i64.wrap ((a : Int) + x.parts) = ((a + x.parts : Nat) : Int) := by rw [wrap_i64] <;> omega
    have w2 : (if b < x.deep then (x.deep : Int) else b) = ((max b x.deep : Nat) : Int) := by split <;> omega
    simp [hi, hg, hc, w1, w2, hw]
    exact ih2 (a + x.parts, max b x.deep) ⟨by simp only; omega, by simp only; omega⟩
  · rintro ⟨a, b⟩ ⟨h1, h2⟩
    simp only [Pt.partsL, Pt.deepL] at h1 h2
    have w1 : IntKind.i64.wrap ((b : Int) + 1) = (b : Int) + 1 := by rw [wrap_i64] <;> omega
    simp [w1, Pt.parts_eq, Pt.deep_eq]
    omega
theorem e_r05_Size {p : Pt} (hw : p.wf) : p.parts ≤ 1048576 → G n_r05_Size [.agg [.d (.int .i64 p.kind), .d (.sl (p.set.map Spn.enc)), .d (.sl (p.subs.map Pt.enc))]] [] = some (.tup [.d (.int .i64 (min p.parts 1000000 : Nat)), .d (.int .i64 p.deep)], [], []) := by
  induction hw with
  | @mk k set subs hk hset hlen _ ih =>
  intro hb
  simp only [Pt.parts_eq] at hb
  have hdp := Pt.deepL_le subs
  refine G_of rfl ?_
  simp
  refine Lh_list (α := Nat × Nat) subs (fun i a => hd [4, 5, 11, 12, 13] [.d (.int .i64 a.1), .d (.int .i64 a.2), .d (.sl (subs.map Pt.enc)), .d (.int .i64 subs.length), .d (.int .i64 i)] [] 0 0) (fun i a r => a.1 ≤ 1000000 ∧ min (a.1 + Pt.partsL r) 1000000 = min (Pt.partsL subs + 1) 1000000 ∧ max a.2 (Pt.deepL r) = Pt.deepL subs) (1, 0) (len_of hlen) (by simp) (by simp; omega) ?_ ?_
  · rintro i x r ⟨a, b⟩ hi hg hx hm hw ⟨h0, h1, h2⟩ ih2
    have hx1 := Pt.parts_mem hm
    have hc := ih x hm (by omega)
    simp only [Pt.partsL, Pt.deepL] at h0 h1 h2
    have hd2 := Pt.deep_le x
    have hy : min x.parts 1000000 ≤ 1000000 := by omega
    have hz : min (a + x.parts) 1000000 = min (a + min x.parts 1000000) 1000000 := by omega
    generalize min x.parts 1000000 = y at *
    have w1 : IntKind.i64.wrap ((a : Int) + y) = ((a + y : Nat) : Int) := by rw [wrap_i64] <;> omega
    have w2 : (if b < x.deep then (x.deep : Int) else b) = ((max b x.deep : Nat) : Int) := by split <;> omega
    have w3 : (if (1000000 : Int) < (a : Int) + y then 1000000 else (a : Int) + y) = ((min (a + y) 1000000 : Nat) : Int) := by split <;> omega
    simp [hi, hg, hc, w1, w2, w3, hw]
    exact ih2 (min (a + y) 1000000, max b x.deep) ⟨by simp only; omega, by simp only; omega, by simp only; omega⟩
  · rintro ⟨a, b⟩ ⟨h0, h1, h2⟩
    simp only [Pt.partsL, Pt.deepL] at h0 h1 h2
    have w1 : IntKind.i64.wrap ((b : Int) + 1) = (b : Int) + 1 := by rw [wrap_i64] <;> omega
    simp [w1, Pt.parts_eq, Pt.deep_eq]
    omega
theorem e_pat_fits {p : Pt} (hw : p.wf) : G n_pat_fits [.agg [.d (.int .i64 p.kind), .d (.sl (p.set.map Spn.enc)), .d (.sl (p.subs.map Pt.enc))]] [] = some (.d (.bool p.fits), [], []) := by
  induction hw with
  | @mk k set subs hk hset hlen _ ih =>
  have h1 : ∀ x ∈ subs, G n_pat_fits_1 [.agg (x.enc.map .d)] [] = some (.d (.bool (!x.fits)), [], []) := fun x hx => by
    refine G_of rfl ?_
    simp [ih x hx]
  have h := has_of (sp := sp) (h := n_sl_ContainsFunc_Pat) (f := n_sl_IndexFunc_Pat) (g := n_pat_fits_1) (caps := []) (arg := fun e => .agg (e.enc.map .d)) (p := fun b : Pt => !b.fits) (enc := Pt.enc) (l := subs) rfl (show PF n_sl_IndexFunc_Pat = some (aIdx true 3) from rfl) (len_of hlen) (fun b hb => ⟨by simp, by simp, fun _ => by simp, by simp, by simpa using h1 b hb⟩)
  have h2 : (!subs.any fun b => !b.fits) = Pt.fitsL subs := by rw [Pt.fitsL_all, List.all_eq_not_any_not]
  refine G_of rfl ?_
  simp only [Pt.fits]
  rw [← h2]
  by_cases k1 : k = 1
  · subst k1
    simp
    refine Gd_mk (fun g => ?_) (fun g => ?_) <;> simp [g]
    all_goals omega
  · by_cases k2 : k = 2
    · subst k2
      simp
      refine Gd_mk (fun g => ?_) (fun g => ?_) <;> (have g' := g; simp at g'; simp [g, g', h])
    · by_cases k3 : k = 3
      · subst k3
        simp
        refine Gd_mk (fun g => ?_) (fun g => ?_) <;> (have g' := g; simp at g'; simp [g, g', h])
      · by_cases k4 : k = 4
        · subst k4
          simp
          refine Gd_mk (fun g => ?_) (fun g => ?_) <;> (have g' := g; simp at g'; simp [g, g', h])
          · refine Gd_mk (fun g2 => ?_) (fun g2 => ?_)
            · have g3 : subs.length = 1 := by simp at g2; omega
              simp [g3, g', h]
            · have g3 : ¬ subs.length = 1 := by simp at g2; omega
              simp [g2, g3, g', h]
        · simp [k1, k2, k3, k4]
theorem e_pat_Right (p : Pt) (hw : p.wf) (hb : p.parts ≤ 1048576) : G n_pat_Right [.agg [.d (.int .i64 p.kind), .d (.sl (p.set.map Spn.enc)), .d (.sl (p.subs.map Pt.enc))]] [] = some (.d (.bool p.right), [], []) := by
  refine G_of rfl ?_
  simp [e_pat_Size hw hb, e_pat_fits hw]
  repeat' (first | (refine Gd_mk (fun h => ?_) (fun h => ?_) <;> simp [h, e_pat_fits hw]))
  all_goals simp_all [Pt.right]
  all_goals omega
theorem e_r05_kinds {p : Pt} (hw : p.wf) : G n_r05_kinds [.agg [.d (.int .i64 p.kind), .d (.sl (p.set.map Spn.enc)), .d (.sl (p.subs.map Pt.enc))]] [] = some (.d (.bool p.fits), [], []) := by
  induction hw with
  | @mk k set subs hk hset hlen _ ih =>
  refine G_of rfl ?_
  have hn : subs.length = 0 → Pt.fitsL subs = true := fun h => by rw [List.length_eq_zero_iff.1 h]; rfl
  have hs0 := Nat.eq_zero_or_pos subs.length
  have hs1 := Nat.lt_trichotomy subs.length 1
  have hs2 := Nat.eq_zero_or_pos set.length
  have hk4 : k < 1 ∨ k = 1 ∨ k = 2 ∨ k = 3 ∨ k = 4 ∨ 4 < k := by omega
  have hk5 : k < 1 ∨ 4 < k → decide (k = 2) = false ∧ decide (k = 3) = false ∧ decide (k = 4) = false := fun h => by simp; omega
  generalize hB : Pt.fits ⟨k, set, subs⟩ = B
  simp only [Pt.fits] at hB
  simp
  repeat' (first | (refine Gd_mk (fun g => ?_) (fun g => ?_) <;> simp [g]) | (refine Br_mk (fun g => ?_) (fun g => ?_) <;> simp [g]))
  all_goals first
    | (show (_ : Bool) = _; clear ih; grind)
    | (refine Lh_list (α := Unit) subs (fun i _ => hd [46, 47, 48] [.d (.sl (subs.map Pt.enc)), .d (.int .i64 subs.length), .d (.int .i64 i)] [] 0 0) (fun i _ r => B = Pt.fitsL r) () (len_of hlen) (by simp) (by clear ih; grind) ?_ ?_
       · intro i x r _ hi hg hx hm hw hq ih2
         simp [hi, hg, ih x hm]
         refine Br_mk (fun h2 => ?_) (fun h2 => ?_)
         · simp
           rw [hq]
           simp at h2
           simp [Pt.fitsL, h2]
         · simp [hw]
           simp at h2
           exact ih2 () (by rw [hq]; simp [Pt.fitsL, h2])
       · intro _ hq
         simp
         rw [hq]; rfl)
theorem e_r05_Right (p : Pt) (hw : p.wf) (hb : p.parts ≤ 1048576) : G n_r05_Right [.agg [.d (.int .i64 p.kind), .d (.sl (p.set.map Spn.enc)), .d (.sl (p.subs.map Pt.enc))]] [] = some (.d (.bool p.right), [], []) := by
  refine G_of rfl ?_
  have h := e_r05_Size hw hb
  simp [h]
  repeat' (first | (refine Gd_mk (fun h => ?_) (fun h => ?_) <;> simp [h, e_r05_kinds hw]))
  all_goals simp_all [Pt.right]
  all_goals omega
end Go.Proofs.Ythbhafgdbndamaa
set_option linter.unusedVariables false
set_option linter.unusedSimpArgs false
set_option maxRecDepth 10000
namespace Go.Proofs.Ythbhafgdbndamaa
open Go Go.Proofs.Am Go.Proofs.Dr

theorem div64 (i : Nat) (hi : i < 256) : (i : Int).tdiv 64 = ((i / 64 : Nat) : Int) ∧ (i : Int).tmod 64 = ((i % 64 : Nat) : Int) := by
  constructor
  · rw [Int.tdiv_eq_ediv_of_nonneg (by omega)]; omega
  · rw [Int.tmod_eq_emod_of_nonneg (by omega)]; omega
theorem e_pat_places_put (x : Pl) (hx : x.ok) (i : Nat) (hi : i < 256) : G n_pat_places_put [.ref 0 0 0 0, .d (.int .i64 i)] [.box x.enc] = some (.tup [], [.box (x.put i).enc], []) := by
  refine G_of rfl ?_
  obtain ⟨w1, w2⟩ := div64 i hi
  have hr : i % 64 < 64 := Nat.mod_lt _ (by decide)
  have hp := pow_lt64 hr
  obtain ⟨a1, a2, a3, a4⟩ := hx
  have o1 := ior_nat a1 hp
  have o2 := ior_nat a2 hp
  have o3 := ior_nat a3 hp
  have o4 := ior_nat a4 hp
  have hq : i / 64 = 0 ∨ i / 64 = 1 ∨ i / 64 = 2 ∨ i / 64 = 3 := by omega
  simp only [Pl.put]
  generalize i / 64 = q at *
  generalize i % 64 = r at *
  have w3 : IntKind.i64.wrap (q : Int) = q := by rw [wrap_i64] <;> omega
  have w4 : min r IntKind.u64.bits = r := by simp only [IntKind.bits]; omega
  have w6 : ((2 : Int) ^ r) = ((2 ^ r : Nat) : Int) := by simp
  generalize 2 ^ r = z at *
  have w5 : IntKind.u64.wrap (2 ^ r) = (z : Int) := by rw [w6, wrap_u64] <;> omega
  have c0 : IntKind.i64.wrap 0 = 0 := by decide
  have c1 : IntKind.i64.wrap 1 = 1 := by decide
  have c2 : IntKind.i64.wrap 2 = 2 := by decide
  have c3 : IntKind.i64.wrap 3 = 3 := by decide
  rcases hq with h | h | h | h <;> subst h <;> simp [Pl.enc, w1, w2, w3, w4, w5, o1, o2, o3, o4, c0, c1, c2, c3]
theorem e_pat_places_has (x : Pl) (hx : x.ok) (i : Nat) (hi : i < 256) : G n_pat_places_has [.agg x.enc, .d (.int .i64 i)] [] = some (.d (.bool (x.has i)), [], []) := by
  refine G_of rfl ?_
  obtain ⟨w1, w2⟩ := div64 i hi
  have hr : i % 64 < 64 := Nat.mod_lt _ (by decide)
  obtain ⟨a1, a2, a3, a4⟩ := hx
  have hq : i / 64 = 0 ∨ i / 64 = 1 ∨ i / 64 = 2 ∨ i / 64 = 3 := by omega
  simp only [Pl.has]
  generalize i / 64 = q at *
  generalize i % 64 = r at *
  have w3 : IntKind.i64.wrap (q : Int) = q := by rw [wrap_i64] <;> omega
  have w4 : min r IntKind.u64.bits = r := by simp only [IntKind.bits]; omega
  have w5 : ∀ a : Nat, (a : Int).fdiv (2 ^ r) = ((a / 2 ^ r : Nat) : Int) := fun a => by
    have h : (0 : Int) ≤ 2 ^ r := Int.le_of_lt (Int.pow_pos (by decide))
    rw [Int.fdiv_eq_ediv_of_nonneg _ h]
    simp
  have w6 : ∀ a : Nat, a < 18446744073709551616 → iand .u64 ((a / 2 ^ r : Nat) : Int) 1 = ((a / 2 ^ r % 2 : Nat) : Int) := fun a ha => iand_one (Nat.lt_of_le_of_lt (Nat.div_le_self _ _) ha)
  have w7 : ∀ a : Nat, decide (((a / 2 ^ r % 2 : Nat) : Int) = 1) = a.testBit r := fun a => by
    rw [Nat.testBit_eq_decide_div_mod_eq]
    apply decide_eq_decide.2
    omega
  have c0 : IntKind.i64.wrap 0 = 0 := by decide
  have c1 : IntKind.i64.wrap 1 = 1 := by decide
  have c2 : IntKind.i64.wrap 2 = 2 := by decide
  have c3 : IntKind.i64.wrap 3 = 3 := by decide
  have v1 := w6 _ a1
  have v2 := w6 _ a2
  have v3 := w6 _ a3
  have v4 := w6 _ a4
  rcases hq with h | h | h | h <;> subst h <;> simp only [Pl.word]
  · rw [← w7, ← v1, ← w5]; simp [Pl.enc, w1, w2, w3, w4, c0, c1, c2, c3]
  · rw [← w7, ← v2, ← w5]; simp [Pl.enc, w1, w2, w3, w4, c0, c1, c2, c3]
  · rw [← w7, ← v3, ← w5]; simp [Pl.enc, w1, w2, w3, w4, c0, c1, c2, c3]
  · rw [← w7, ← v4, ← w5]; simp [Pl.enc, w1, w2, w3, w4, c0, c1, c2, c3]
theorem e_pat_places_with (x y : Pl) (hx : x.ok) (hy : y.ok) : G n_pat_places_with [.agg x.enc, .agg y.enc] [] = some (.agg (x.join y).enc, [], []) := by
  refine G_of rfl ?_
  obtain ⟨a1, a2, a3, a4⟩ := hx
  obtain ⟨b1, b2, b3, b4⟩ := hy
  have o1 := ior_nat a1 b1
  have o2 := ior_nat a2 b2
  have o3 := ior_nat a3 b3
  have o4 := ior_nat a4 b4
  have w0 : IntKind.i64.wrap 1 = 1 := by decide
  have w1 : IntKind.i64.wrap 2 = 2 := by decide
  have w2 : IntKind.i64.wrap 3 = 3 := by decide
  have w3 : IntKind.i64.wrap 4 = 4 := by decide
  simp [Pl.enc, Pl.join]
  simp [Lh, o1, o2, o3, o4, w0, w1, w2, w3]
end Go.Proofs.Ythbhafgdbndamaa
