/- The law CondHolds: its answer, as the abstract machine gives it. For every condition and route of at most 1048576 values: dragomanlaw11.CondHolds returns true, and both read behind the call as before. -/
import Derived.Test.YthbhafgdbndamaaEqB
import Derived.Test.YthbhafgdbndamaaRows
import Derived.Test.YthbhafgdbndamaaAmD
import Derived.OpenShut
import Derived.JoinedCond
set_option linter.unusedVariables false
set_option linter.unusedSimpArgs false
set_option maxRecDepth 10000
namespace Go.Proofs.Ythbhafgdbndamaa
open Go Go.Proofs.Am Go.Proofs.Dr

theorem e_comm1 : G n_l11_comm [.d (.int .u32 65000), .d (.int .u32 1)] [] = some (.agg [.d (.int .u32 4259840001), .d (.int .u32 4259840001)], [], []) := by
  refine G_of rfl ?_
  have w1 : IntKind.u32.wrap 4259840000 = 4259840000 := by decide
  have w2 : IntKind.u32.wrap 4259840001 = 4259840001 := by decide
  simp [w1, w2]
theorem e_comm2 : G n_l11_comm [.d (.int .u32 65000), .d (.int .u32 2)] [] = some (.agg [.d (.int .u32 4259840002), .d (.int .u32 4259840002)], [], []) := by
  refine G_of rfl ?_
  have w1 : IntKind.u32.wrap 4259840000 = 4259840000 := by decide
  have w2 : IntKind.u32.wrap 4259840002 = 4259840002 := by decide
  simp [w1, w2]
theorem e_alive : G n_l11_alive [] [] = some (.d (.bool true), [], []) := by
  have hl : CommE.wfs [⟨false, [⟨4259840001, 4259840001⟩, ⟨4259840002, 4259840002⟩]⟩] := by simp [CommE.wfs, Spn.wfs, Spn.wf, len32, isU32]
  have t1 := e_cond_TakesComms [⟨false, [⟨4259840001, 4259840001⟩, ⟨4259840002, 4259840002⟩]⟩] [458759, 4259840001, 4259840002] hl (by simp [nums, len32, isU32])
  have t2 := e_cond_TakesComms [⟨false, [⟨4259840001, 4259840001⟩, ⟨4259840002, 4259840002⟩]⟩] [4259840001] hl (by simp [nums, len32, isU32])
  have v1 : commTakes [⟨false, [⟨4259840001, 4259840001⟩, ⟨4259840002, 4259840002⟩]⟩] [458759, 4259840001, 4259840002] = true := by decide
  have v2 : commTakes [⟨false, [⟨4259840001, 4259840001⟩, ⟨4259840002, 4259840002⟩]⟩] [4259840001] = false := by decide
  have hc : Cnd.wf ⟨4, [], [], [], 100, 200⟩ := ⟨by simp [isI64], by simp [PfxE.wfs, len32], by simp [PathE.wfs, len32], by simp [CommE.wfs, len32], by simp [isU32], by simp [isU32]⟩
  have h1 := e_cond_Holds ⟨4, [], [], [], 100, 200⟩ ⟨⟨0, 0⟩, [], [], 200, 0, 0, 0⟩ hc ⟨by simp [Pfx.wf, isU32, isI64], by simp [nums, len32], by simp [nums, len32], by simp [isU32], by simp [isU32], by simp [isI64], by simp [isU32]⟩
  have h2 := e_cond_Holds ⟨4, [], [], [], 100, 200⟩ ⟨⟨0, 0⟩, [], [], 201, 0, 0, 0⟩ hc ⟨by simp [Pfx.wf, isU32, isI64], by simp [nums, len32], by simp [nums, len32], by simp [isU32], by simp [isU32], by simp [isI64], by simp [isU32]⟩
  have g1 : cndHolds ⟨4, [], [], [], 100, 200⟩ ⟨⟨0, 0⟩, [], [], 200, 0, 0, 0⟩ = true := by simp [cndHolds, cndRight]
  have g2 : cndHolds ⟨4, [], [], [], 100, 200⟩ ⟨⟨0, 0⟩, [], [], 201, 0, 0, 0⟩ = false := by simp [cndHolds, cndRight]
  rw [v1] at t1
  rw [v2] at t2
  rw [g1] at h1
  rw [g2] at h2
  simp at t1 t2 h1 h2
  refine G_of rfl ?_
  simp [e_comm1, e_comm2, t1, t2, h1, h2]
theorem e_r11_Holds (c : Cnd) (r : Rt) (hc : c.wf) (hr : r.wf) : G n_r11_Holds [.agg (c.enc.map .d), .agg (r.enc.map .d)] [] = some (.d (.bool (cndHolds c r)), [], []) := by
  refine G_of rfl ?_
  have e1 := e_r11_Right c.kind c.lo c.hi c.pfx c.path c.comm hc.pfx hc.path hc.comm
  have hlo := hc.lo
  have hhi := hc.hi
  simp only [isU32] at hlo hhi
  have w1 : IntKind.i64.wrap c.lo = c.lo := by rw [wrap_i64] <;> omega
  have w2 : IntKind.i64.wrap c.hi = c.hi := by rw [wrap_i64] <;> omega
  simp [e1]
  simp only [cndHolds]
  cases hR : cndRight c
  · simp
  · simp
    by_cases k1 : c.kind = 1
    · simp [k1, e_r04_Match c.pfx _ _ hc.pfx hr.pfx]
    · by_cases k2 : c.kind = 2
      · simp [k2, e_r11_TakesPath c.path r.path hc.path hr.path]
      · by_cases k3 : c.kind = 3
        · simp [k3, e_r11_TakesComms c.comm r.comms hc.comm hr.comms]
        · by_cases k4 : c.kind = 4
          · simp [k4]
            refine Gd_mk (fun g => ?_) (fun g => ?_) <;> simp [g]
          · by_cases k5 : c.kind = 5
            · simp [k5]
              refine Gd_mk (fun g => ?_) (fun g => ?_) <;> simp [g]
            · by_cases k6 : c.kind = 6
              · simp [k6]
                refine Gd_mk (fun g => ?_) (fun g => ?_) <;> simp [g, w1]
                refine Gd_mk (fun g2 => ?_) (fun g2 => ?_) <;> simp [g2, w2]
              · simp [k1, k2, k3, k4, k5, k6, e_r04_Match c.pfx r.hop 32 hc.pfx ⟨hr.hop, by simp [isI64]⟩]
theorem e_law (c : Cnd) (r : Rt) (hc : c.wf) (hr : r.wf) : G n_l11_CondHolds [.agg (c.enc.map .d), .agg (r.enc.map .d)] [] = some (.d (.bool true), [], []) := by
  refine G_of rfl ?_
  obtain ⟨_, hG, b, rfl⟩ := e_r11_Great c.kind c.lo c.hi c.pfx c.path c.comm hc.pfx hc.path hc.comm
  obtain ⟨_, hH, b2, rfl⟩ := e_r03_Great r.pfx.addr r.pfx.len r.pref r.med r.origin r.hop r.path r.comms
  have e1 := e_cond_Holds c r hc hr
  have e2 := e_r11_Holds c r hc hr
  simp at e1 e2
  have e3 := e_cond_Right c.kind c.lo c.hi c.pfx c.path c.comm hc.pfx hc.path hc.comm
  have e4 := e_r11_Right c.kind c.lo c.hi c.pfx c.path c.comm hc.pfx hc.path hc.comm
  have e5 := e_r11_Copy c.kind c.lo c.hi c.pfx c.path c.comm hc.pfx hc.path hc.comm
  have e6 := e_r11_Same c.kind c.lo c.hi c.pfx c.path c.comm hc.pfx hc.path hc.comm
  have e7 := e_r03_Copy r.pfx.addr r.pfx.len r.pref r.med r.origin r.hop r.path r.comms hr.path hr.comms
  have e8 := e_r03_Cmp r.pfx.addr r.pfx.len r.pref r.med r.origin r.hop r.path r.comms hr.path hr.comms
  simp [e_alive, hG]
  cases b
  · simp [hH]
    cases b2
    · simp [e5, e7, e3, e4, e1, e2, e6, e8]
    · simp
  · simp
end Go.Proofs.Ythbhafgdbndamaa
namespace Go.Proofs.Ythbhafgdbndamaa
open Go Go.Proofs.Am Go.Proofs.Dr Go.ChangeShapes Go.WideShapes Go.ChangeAt Go.RowKit
set_option linter.unusedVariables false
set_option linter.unusedSimpArgs false
set_option maxRecDepth 100000

mutual
theorem bulk_eq {H : Type} : ∀ d : DataW H, Rows.uptoBulk d = bulk d
  | .lit (.string _) => rfl
  | .lit (.bool _) => rfl
  | .lit (.int _ _) => rfl
  | .lit (.float _ _) => rfl
  | .lit .nil => rfl
  | .nil => rfl
  | .ptr d => by simp only [Rows.uptoBulk, bulk, bulk_eq d]
  | .slice a b => by simp only [Rows.uptoBulk, bulk, bulkAll_eq a, bulkAll_eq b]
  | .agg a => by simp only [Rows.uptoBulk, bulk, bulkAll_eq a]
  | .iface _ d => by simp only [Rows.uptoBulk, bulk, bulk_eq d]
  | .map e => by simp only [Rows.uptoBulk, bulk, bulkEntries_eq e]
  | .held _ => rfl
theorem bulkAll_eq {H : Type} : ∀ l : List (DataW H), Rows.uptoBulkAll l = bulkAll l
  | [] => rfl
  | d :: r => by simp only [Rows.uptoBulkAll, bulkAll, bulk_eq d, bulkAll_eq r]
theorem bulkEntries_eq {H : Type} : ∀ l : List (Lit × DataW H), Rows.uptoBulkEntries l = bulkEntries l
  | [] => rfl
  | x :: r => by simp only [Rows.uptoBulkEntries, bulkEntries, bulkEntry_eq x, bulkEntries_eq r]
theorem bulkEntry_eq {H : Type} : ∀ x : Lit × DataW H, Rows.uptoBulkEntry x = bulkEntry x
  | (.string _, d) => by simp only [Rows.uptoBulkEntry, bulkEntry, bulk_eq d]
  | (.bool _, d) => by simp only [Rows.uptoBulkEntry, bulkEntry, bulk_eq d]
  | (.int _ _, d) => by simp only [Rows.uptoBulkEntry, bulkEntry, bulk_eq d]
  | (.float _ _, d) => by simp only [Rows.uptoBulkEntry, bulkEntry, bulk_eq d]
  | (.nil, d) => by simp only [Rows.uptoBulkEntry, bulkEntry, bulk_eq d]
end

theorem own : ownKnob Try.prog.godebug = none := by kernel_rfl

/-- the numbers of the types -/
def ids : IdsC := { bool := 4, int := 3, u32 := 25, nums := 30, pfx := 29, rt := 32, spn := 116, spns := 48, rng := 60, pt := 51, pts := 49, pfxe := 62, pfxes := 22, pathe := 53, pathes := 23, box := 42, boxes := 44, comme := 46, commes := 24, cnd := 27 }
theorem idsOk : ids.ok Try.prog where
  bool := by kernel_rfl
  int := by kernel_rfl
  u32 := by kernel_rfl
  nums := by kernel_rfl
  pfx := isStruct_of (by kernel_rfl)
  rt := isStruct_of (by kernel_rfl)
  spn := isStruct_of (by kernel_rfl)
  spns := by kernel_rfl
  rng := isStruct_of (by kernel_rfl)
  pt := isStruct_of (by kernel_rfl)
  pts := by kernel_rfl
  pfxe := isStruct_of (by kernel_rfl)
  pfxes := by kernel_rfl
  pathe := isStruct_of (by kernel_rfl)
  pathes := by kernel_rfl
  box := isStruct_of (by kernel_rfl)
  boxes := by kernel_rfl
  comme := isStruct_of (by kernel_rfl)
  commes := by kernel_rfl
  cnd := isStruct_of (by kernel_rfl)
def S : List TypeId := [4, 3, 25, 30, 29, 32, 116, 48, 60, 51, 49, 62, 22, 53, 23, 42, 44, 46, 24, 27]
theorem hS : okS Try.prog S = true := by kernel_rfl

theorem contract (H : Type) (enc : TypeId × Value → H) (W : World) (base : Nat) (args : Array Value) (ds gs : List (DataW H)) (before : List MemPlace)
    (hval : ∀ (j : Nat) t v, Try.f3.params[j]? = some t → args[j]? = some v → Value.okWide Try.prog W .any base t v)
    (hW : DataW.Whole enc Try.prog Try.f3.params.toList Rows.condHoldsSpec.vars false W args.toList ds gs before)
    (hk : Rows.uptoSmall H (ds ++ gs) = true) :
    Calls Try.prog 3 args W fun e W' => ∃ v, e = .returned v ∧ Rows.condHoldsSpec.post enc Try.prog Try.f3 false true false false W args v W' := by
  have hps : Try.f3.params.toList = [27, 32] := by kernel_rfl
  have hW' := hW
  obtain ⟨p, q, hA, hV, rfl, hfz, hnd⟩ := hW
  obtain ⟨rfl, rfl⟩ := trodVars_none hV
  rw [hps] at hA
  obtain ⟨v0, vs0, d0, ds0, p0, q0, hargs, rfl, rfl, h0, r0⟩ := trodAll_cons hA
  obtain ⟨v1, vs1, d1, ds1, p1, q1, hargs1, rfl, rfl, h1, r1⟩ := trodAll_cons r0
  obtain ⟨rfl, rfl, rfl⟩ := trodAll_nil r1
  have hb : bulkAll [d0, d1] ≤ 1048576 := by
    have := of_decide_eq_true hk
    rw [bulkAll_eq] at this
    simpa using this
  refine law_true (call := G) (L_ok linked (fun _ _ _ _ h => by cases h)) hS (tb := 4) rfl (by kernel_rfl) (by kernel_rfl) (by kernel_rfl) ?_ hval hW' rfl hb ?_
  · rw [hps]
    intro t ht
    simp only [List.mem_cons, List.not_mem_nil, or_false] at ht
    rcases ht with rfl | rfl <;> exact ⟨⟨by kernel_rfl, by kernel_rfl⟩, by decide +kernel⟩
  · rw [hps]
    intro dss hl hty hw
    match dss, hl with
    | [x0, x1], _ =>
      simp only [wtE] at hw
      obtain ⟨n0, t0⟩ := hty 0 27 x0 rfl rfl
      obtain ⟨n1, t1⟩ := hty 1 32 x1 rfl rfl
      obtain ⟨c, rfl, hc⟩ := dec_cnd idsOk (by omega) t0
      obtain ⟨r, rfl, hr⟩ := dec_rt idsOk (by omega) t1
      have u0 : ∃ fs, Try.prog.underlying 27 = some (.struct fs) := let ⟨fs, h, _⟩ := idsOk.cnd; ⟨fs, h⟩
      have u1 : ∃ fs, Try.prog.underlying 32 = some (.struct fs) := let ⟨fs, h, _⟩ := idsOk.rt; ⟨fs, h⟩
      obtain ⟨fs0, u0⟩ := u0
      obtain ⟨fs1, u1⟩ := u1
      have a0 : argV Try.prog 27 c.enc = .agg (c.enc.map .d) := by simp only [argV, u0]
      have a1 : argV Try.prog 32 r.enc = .agg (r.enc.map .d) := by simp only [argV, u1]
      simp only [List.zipWith, a0, a1]
      exact e_law c r hc hr

theorem lifted (os : Os) (started : os.Started) (H : Type) (enc : TypeId × Value → H) (F : Stop.Interp) :
    ReturnsInHanded {} Try.checked os 3 .any ((Rows.OpenSpec.upto Rows.condHoldsSpec).pre6 enc Try.prog Try.f3 Rows.condHoldsUptoRow.domain false) (((Rows.OpenSpec.upto Rows.condHoldsSpec).at F).post enc Try.prog Try.f3 false true false false) := by
  refine returnsInHanded_of_cond (C := Try.checked) (s := Rows.OpenSpec.upto Rows.condHoldsSpec) (k := Rows.uptoSmall) rfl own started (by kernel_rfl) Try.func3
    (OpenSpec.witness (enc := enc) (C := Try.checked) (s := Rows.OpenSpec.upto Rows.condHoldsSpec) (k := Rows.uptoSmall) rfl false ⟨#[], #[.agg #[.int .i64 0, .slice none 0 0, .slice none 0 0, .slice none 0 0, .int .u32 0, .int .u32 0], .agg #[.int .u32 0, .int .i64 0, .slice none 0 0, .slice none 0 0, .int .u32 0, .int .u32 0, .int .i64 0, .int .u32 0]], []⟩ 8 (by kernel_rfl) (by kernel_rfl) (by kernel_rfl)
      (x := ([.agg [.lit (.int .i64 0), .nil, .nil, .nil, .lit (.int .u32 0), .lit (.int .u32 0)], .agg [.agg [.lit (.int .u32 0), .lit (.int .i64 0)], .nil, .nil, .lit (.int .u32 0), .lit (.int .u32 0), .lit (.int .i64 0), .lit (.int .u32 0)]], [], [])) (by kernel_rfl) rfl (by kernel_rfl)) ?_
  intro W base args ds gs before hval hW _ hk _
  exact contract H enc W base args ds gs before hval hW hk

theorem over : Rows.condHoldsUptoRow.holds Try.pinned (Rows.OpenSpec.upto Rows.condHoldsSpec) :=
  OpenClaim.holds_of_cond 3 Try.f3 rfl rfl rfl rfl rfl rfl rfl ⟨rfl, rfl, rfl, rfl, rfl⟩ rfl rfl rfl rfl rfl (by kernel_rfl) Try.func3 (by kernel_rfl)
    (of_decide_eq_true (by kernel_rfl)) (by unfold Func.isWrapper; first | (rw [if_pos (by decide +kernel)]; kernel_rfl) | (rw [if_neg (by decide +kernel)]; exact ⟨rfl, rfl⟩))
    (fun os started H enc _ F => lifted os started H enc F)

theorem condHolds_proved : Rows.CondHoldsUptoSaid :=
  over
end Go.Proofs.Ythbhafgdbndamaa
