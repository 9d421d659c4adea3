/- The functions' numbers, and the table of their code. Made by a program (mkcode2.py). -/
import Derived.Test.YthbhafgdbndamaaAmC1
import Derived.Test.YthbhafgdbndamaaAmC2
import Derived.Test.YthbhafgdbndamaaAmC3
import Derived.Test.YthbhafgdbndamaaAmC4
import Derived.Test.YthbhafgdbndamaaAmX
set_option maxRecDepth 10000
namespace Go.Proofs.Ythbhafgdbndamaa
open Go Go.Proofs.Am
abbrev n_init : Nat := 2
abbrev n_l11_CondHolds : Nat := 3
abbrev n_l11_alive : Nat := 4
abbrev n_r11_Great : Nat := 5
abbrev n_r03_Great : Nat := 6
abbrev n_r11_Copy : Nat := 7
abbrev n_r03_Copy : Nat := 8
abbrev n_cond_Right : Nat := 9
abbrev n_r11_Right : Nat := 10
abbrev n_cond_Holds : Nat := 11
abbrev n_r11_Holds : Nat := 12
abbrev n_r11_Same : Nat := 13
abbrev n_r03_Cmp : Nat := 14
abbrev n_l11_comm : Nat := 15
abbrev n_cond_TakesComms : Nat := 16
abbrev n_r05_Size : Nat := 17
abbrev n_r11_CopyComms : Nat := 18
abbrev n_r05_Copy : Nat := 19
abbrev n_sl_ContainsFunc_PfxEntry : Nat := 20
abbrev n_cond_Right_1 : Nat := 21
abbrev n_pfx_Right : Nat := 22
abbrev n_sl_ContainsFunc_PathEntry : Nat := 23
abbrev n_cond_Right_2 : Nat := 24
abbrev n_pat_Right : Nat := 25
abbrev n_sl_ContainsFunc_CommEntry : Nat := 26
abbrev n_cond_Right_3 : Nat := 27
abbrev n_r04_Right : Nat := 28
abbrev n_r05_Right : Nat := 29
abbrev n_r11_CommsRight : Nat := 30
abbrev n_cond_Holds_1 : Nat := 31
abbrev n_pfx_Match : Nat := 32
abbrev n_cond_TakesPath : Nat := 33
abbrev n_r04_Match : Nat := 34
abbrev n_r11_TakesPath : Nat := 35
abbrev n_r11_TakesComms : Nat := 36
abbrev n_r11_SamePfx : Nat := 37
abbrev n_r11_SamePath : Nat := 38
abbrev n_r11_SameComms : Nat := 39
abbrev n_r03_number : Nat := 40
abbrev n_r03_list : Nat := 41
abbrev n_cond_first : Nat := 42
abbrev n_cond_TakesComms_1 : Nat := 43
abbrev n_sl_ContainsFunc_Box : Nat := 44
abbrev n_cond_TakesComms_1_1 : Nat := 45
abbrev n_cond_has : Nat := 46
abbrev n_cond_TakesComms_2 : Nat := 47
abbrev n_sl_IndexFunc_PfxEntry : Nat := 48
abbrev n_route_Mask : Nat := 49
abbrev n_sl_IndexFunc_PathEntry : Nat := 50
abbrev n_pat_Size : Nat := 51
abbrev n_pat_fits : Nat := 52
abbrev n_sl_IndexFunc_CommEntry : Nat := 53
abbrev n_r03_Right : Nat := 54
abbrev n_r05_kinds : Nat := 55
abbrev n_pfx_Match_1 : Nat := 56
abbrev n_pfx_In : Nat := 57
abbrev n_cond_TakesPath_1 : Nat := 58
abbrev n_pat_Match : Nat := 59
abbrev n_cond_TakesPath_2 : Nat := 60
abbrev n_r04_In : Nat := 61
abbrev n_r05_Takes : Nat := 62
abbrev n_r11_all : Nat := 63
abbrev n_r05_Same : Nat := 64
abbrev n_sl_IndexFunc_Box : Nat := 65
abbrev n_sl_ContainsFunc_uint32 : Nat := 66
abbrev n_cond_has_1 : Nat := 67
abbrev n_plane_In : Nat := 68
abbrev n_sl_ContainsFunc_Pat : Nat := 69
abbrev n_pat_fits_1 : Nat := 70
abbrev n_r03_Mask : Nat := 71
abbrev n_pfx_begins : Nat := 72
abbrev n_pat_places_put : Nat := 73
abbrev n_pat_ends : Nat := 74
abbrev n_pat_places_has : Nat := 75
abbrev n_r04_cut : Nat := 76
abbrev n_r05_Match : Nat := 77
abbrev n_r02_In : Nat := 78
abbrev n_r01_Same : Nat := 79
abbrev n_sl_IndexFunc_uint32 : Nat := 80
abbrev n_plane_within : Nat := 81
abbrev n_plane_point : Nat := 82
abbrev n_sl_IndexFunc_Pat : Nat := 83
abbrev n_span_In : Nat := 84
abbrev n_pat_places_with : Nat := 85
abbrev n_r05_ends : Nat := 86
abbrev n_sl_ContainsFunc_Span : Nat := 87
abbrev n_span_In_1 : Nat := 88
abbrev n_r01_In : Nat := 89
abbrev n_sl_IndexFunc_Span : Nat := 90
def PF : Nat → Option AFunc
  | 2 => some a_init
  | 3 => some a_l11_CondHolds
  | 4 => some a_l11_alive
  | 5 => some a_r11_Great
  | 6 => some a_r03_Great
  | 7 => some a_r11_Copy
  | 8 => some a_r03_Copy
  | 9 => some a_cond_Right
  | 10 => some a_r11_Right
  | 11 => some a_cond_Holds
  | 12 => some a_r11_Holds
  | 13 => some a_r11_Same
  | 14 => some a_r03_Cmp
  | 15 => some a_l11_comm
  | 16 => some a_cond_TakesComms
  | 17 => some a_r05_Size
  | 18 => some a_r11_CopyComms
  | 19 => some a_r05_Copy
  | 20 => some a_sl_ContainsFunc_PfxEntry
  | 21 => some a_cond_Right_1
  | 22 => some a_pfx_Right
  | 23 => some a_sl_ContainsFunc_PathEntry
  | 24 => some a_cond_Right_2
  | 25 => some a_pat_Right
  | 26 => some a_sl_ContainsFunc_CommEntry
  | 27 => some a_cond_Right_3
  | 28 => some a_r04_Right
  | 29 => some a_r05_Right
  | 30 => some a_r11_CommsRight
  | 31 => some a_cond_Holds_1
  | 32 => some a_pfx_Match
  | 33 => some a_cond_TakesPath
  | 34 => some a_r04_Match
  | 35 => some a_r11_TakesPath
  | 36 => some a_r11_TakesComms
  | 37 => some a_r11_SamePfx
  | 38 => some a_r11_SamePath
  | 39 => some a_r11_SameComms
  | 40 => some a_r03_number
  | 41 => some a_r03_list
  | 42 => some a_cond_first
  | 43 => some a_cond_TakesComms_1
  | 44 => some a_sl_ContainsFunc_Box
  | 45 => some a_cond_TakesComms_1_1
  | 46 => some a_cond_has
  | 47 => some a_cond_TakesComms_2
  | 48 => some a_sl_IndexFunc_PfxEntry
  | 49 => some a_route_Mask
  | 50 => some a_sl_IndexFunc_PathEntry
  | 51 => some a_pat_Size
  | 52 => some a_pat_fits
  | 53 => some a_sl_IndexFunc_CommEntry
  | 54 => some a_r03_Right
  | 55 => some a_r05_kinds
  | 56 => some a_pfx_Match_1
  | 57 => some a_pfx_In
  | 58 => some a_cond_TakesPath_1
  | 59 => some a_pat_Match
  | 60 => some a_cond_TakesPath_2
  | 61 => some a_r04_In
  | 62 => some a_r05_Takes
  | 63 => some a_r11_all
  | 64 => some a_r05_Same
  | 65 => some a_sl_IndexFunc_Box
  | 66 => some a_sl_ContainsFunc_uint32
  | 67 => some a_cond_has_1
  | 68 => some a_plane_In
  | 69 => some a_sl_ContainsFunc_Pat
  | 70 => some a_pat_fits_1
  | 71 => some a_r03_Mask
  | 72 => some a_pfx_begins
  | 73 => some a_pat_places_put
  | 74 => some a_pat_ends
  | 75 => some a_pat_places_has
  | 76 => some a_r04_cut
  | 77 => some a_r05_Match
  | 78 => some a_r02_In
  | 79 => some a_r01_Same
  | 80 => some a_sl_IndexFunc_uint32
  | 81 => some a_plane_within
  | 82 => some a_plane_point
  | 83 => some a_sl_IndexFunc_Pat
  | 84 => some a_span_In
  | 85 => some a_pat_places_with
  | 86 => some a_r05_ends
  | 87 => some a_sl_ContainsFunc_Span
  | 88 => some a_span_In_1
  | 89 => some a_r01_In
  | 90 => some a_sl_IndexFunc_Span
  | _ => none
theorem linked : Linked Try.prog PF := by
  intro f af h
  unfold PF at h
  split at h
  · cases h; exact ⟨_, _, Try.func2, c_init.2, c_init.1⟩
  · cases h; exact ⟨_, _, Try.func3, c_l11_CondHolds.2, c_l11_CondHolds.1⟩
  · cases h; exact ⟨_, _, Try.func4, c_l11_alive.2, c_l11_alive.1⟩
  · cases h; exact ⟨_, _, Try.func5, c_r11_Great.2, c_r11_Great.1⟩
  · cases h; exact ⟨_, _, Try.func6, c_r03_Great.2, c_r03_Great.1⟩
  · cases h; exact ⟨_, _, Try.func7, c_r11_Copy.2, c_r11_Copy.1⟩
  · cases h; exact ⟨_, _, Try.func8, c_r03_Copy.2, c_r03_Copy.1⟩
  · cases h; exact ⟨_, _, Try.func9, c_cond_Right.2, c_cond_Right.1⟩
  · cases h; exact ⟨_, _, Try.func10, c_r11_Right.2, c_r11_Right.1⟩
  · cases h; exact ⟨_, _, Try.func11, c_cond_Holds.2, c_cond_Holds.1⟩
  · cases h; exact ⟨_, _, Try.func12, c_r11_Holds.2, c_r11_Holds.1⟩
  · cases h; exact ⟨_, _, Try.func13, c_r11_Same.2, c_r11_Same.1⟩
  · cases h; exact ⟨_, _, Try.func14, c_r03_Cmp.2, c_r03_Cmp.1⟩
  · cases h; exact ⟨_, _, Try.func15, c_l11_comm.2, c_l11_comm.1⟩
  · cases h; exact ⟨_, _, Try.func16, c_cond_TakesComms.2, c_cond_TakesComms.1⟩
  · cases h; exact ⟨_, _, Try.func17, c_r05_Size.2, c_r05_Size.1⟩
  · cases h; exact ⟨_, _, Try.func18, c_r11_CopyComms.2, c_r11_CopyComms.1⟩
  · cases h; exact ⟨_, _, Try.func19, c_r05_Copy.2, c_r05_Copy.1⟩
  · cases h; exact ⟨_, _, Try.func20, c_sl_ContainsFunc_PfxEntry.2, c_sl_ContainsFunc_PfxEntry.1⟩
  · cases h; exact ⟨_, _, Try.func21, c_cond_Right_1.2, c_cond_Right_1.1⟩
  · cases h; exact ⟨_, _, Try.func22, c_pfx_Right.2, c_pfx_Right.1⟩
  · cases h; exact ⟨_, _, Try.func23, c_sl_ContainsFunc_PathEntry.2, c_sl_ContainsFunc_PathEntry.1⟩
  · cases h; exact ⟨_, _, Try.func24, c_cond_Right_2.2, c_cond_Right_2.1⟩
  · cases h; exact ⟨_, _, Try.func25, c_pat_Right.2, c_pat_Right.1⟩
  · cases h; exact ⟨_, _, Try.func26, c_sl_ContainsFunc_CommEntry.2, c_sl_ContainsFunc_CommEntry.1⟩
  · cases h; exact ⟨_, _, Try.func27, c_cond_Right_3.2, c_cond_Right_3.1⟩
  · cases h; exact ⟨_, _, Try.func28, c_r04_Right.2, c_r04_Right.1⟩
  · cases h; exact ⟨_, _, Try.func29, c_r05_Right.2, c_r05_Right.1⟩
  · cases h; exact ⟨_, _, Try.func30, c_r11_CommsRight.2, c_r11_CommsRight.1⟩
  · cases h; exact ⟨_, _, Try.func31, c_cond_Holds_1.2, c_cond_Holds_1.1⟩
  · cases h; exact ⟨_, _, Try.func32, c_pfx_Match.2, c_pfx_Match.1⟩
  · cases h; exact ⟨_, _, Try.func33, c_cond_TakesPath.2, c_cond_TakesPath.1⟩
  · cases h; exact ⟨_, _, Try.func34, c_r04_Match.2, c_r04_Match.1⟩
  · cases h; exact ⟨_, _, Try.func35, c_r11_TakesPath.2, c_r11_TakesPath.1⟩
  · cases h; exact ⟨_, _, Try.func36, c_r11_TakesComms.2, c_r11_TakesComms.1⟩
  · cases h; exact ⟨_, _, Try.func37, c_r11_SamePfx.2, c_r11_SamePfx.1⟩
  · cases h; exact ⟨_, _, Try.func38, c_r11_SamePath.2, c_r11_SamePath.1⟩
  · cases h; exact ⟨_, _, Try.func39, c_r11_SameComms.2, c_r11_SameComms.1⟩
  · cases h; exact ⟨_, _, Try.func40, c_r03_number.2, c_r03_number.1⟩
  · cases h; exact ⟨_, _, Try.func41, c_r03_list.2, c_r03_list.1⟩
  · cases h; exact ⟨_, _, Try.func42, c_cond_first.2, c_cond_first.1⟩
  · cases h; exact ⟨_, _, Try.func43, c_cond_TakesComms_1.2, c_cond_TakesComms_1.1⟩
  · cases h; exact ⟨_, _, Try.func44, c_sl_ContainsFunc_Box.2, c_sl_ContainsFunc_Box.1⟩
  · cases h; exact ⟨_, _, Try.func45, c_cond_TakesComms_1_1.2, c_cond_TakesComms_1_1.1⟩
  · cases h; exact ⟨_, _, Try.func46, c_cond_has.2, c_cond_has.1⟩
  · cases h; exact ⟨_, _, Try.func47, c_cond_TakesComms_2.2, c_cond_TakesComms_2.1⟩
  · cases h; exact ⟨_, _, Try.func48, c_sl_IndexFunc_PfxEntry.2, c_sl_IndexFunc_PfxEntry.1⟩
  · cases h; exact ⟨_, _, Try.func49, c_route_Mask.2, c_route_Mask.1⟩
  · cases h; exact ⟨_, _, Try.func50, c_sl_IndexFunc_PathEntry.2, c_sl_IndexFunc_PathEntry.1⟩
  · cases h; exact ⟨_, _, Try.func51, c_pat_Size.2, c_pat_Size.1⟩
  · cases h; exact ⟨_, _, Try.func52, c_pat_fits.2, c_pat_fits.1⟩
  · cases h; exact ⟨_, _, Try.func53, c_sl_IndexFunc_CommEntry.2, c_sl_IndexFunc_CommEntry.1⟩
  · cases h; exact ⟨_, _, Try.func54, c_r03_Right.2, c_r03_Right.1⟩
  · cases h; exact ⟨_, _, Try.func55, c_r05_kinds.2, c_r05_kinds.1⟩
  · cases h; exact ⟨_, _, Try.func56, c_pfx_Match_1.2, c_pfx_Match_1.1⟩
  · cases h; exact ⟨_, _, Try.func57, c_pfx_In.2, c_pfx_In.1⟩
  · cases h; exact ⟨_, _, Try.func58, c_cond_TakesPath_1.2, c_cond_TakesPath_1.1⟩
  · cases h; exact ⟨_, _, Try.func59, c_pat_Match.2, c_pat_Match.1⟩
  · cases h; exact ⟨_, _, Try.func60, c_cond_TakesPath_2.2, c_cond_TakesPath_2.1⟩
  · cases h; exact ⟨_, _, Try.func61, c_r04_In.2, c_r04_In.1⟩
  · cases h; exact ⟨_, _, Try.func62, c_r05_Takes.2, c_r05_Takes.1⟩
  · cases h; exact ⟨_, _, Try.func63, c_r11_all.2, c_r11_all.1⟩
  · cases h; exact ⟨_, _, Try.func64, c_r05_Same.2, c_r05_Same.1⟩
  · cases h; exact ⟨_, _, Try.func65, c_sl_IndexFunc_Box.2, c_sl_IndexFunc_Box.1⟩
  · cases h; exact ⟨_, _, Try.func66, c_sl_ContainsFunc_uint32.2, c_sl_ContainsFunc_uint32.1⟩
  · cases h; exact ⟨_, _, Try.func67, c_cond_has_1.2, c_cond_has_1.1⟩
  · cases h; exact ⟨_, _, Try.func68, c_plane_In.2, c_plane_In.1⟩
  · cases h; exact ⟨_, _, Try.func69, c_sl_ContainsFunc_Pat.2, c_sl_ContainsFunc_Pat.1⟩
  · cases h; exact ⟨_, _, Try.func70, c_pat_fits_1.2, c_pat_fits_1.1⟩
  · cases h; exact ⟨_, _, Try.func71, c_r03_Mask.2, c_r03_Mask.1⟩
  · cases h; exact ⟨_, _, Try.func72, c_pfx_begins.2, c_pfx_begins.1⟩
  · cases h; exact ⟨_, _, Try.func73, c_pat_places_put.2, c_pat_places_put.1⟩
  · cases h; exact ⟨_, _, Try.func74, c_pat_ends.2, c_pat_ends.1⟩
  · cases h; exact ⟨_, _, Try.func75, c_pat_places_has.2, c_pat_places_has.1⟩
  · cases h; exact ⟨_, _, Try.func76, c_r04_cut.2, c_r04_cut.1⟩
  · cases h; exact ⟨_, _, Try.func77, c_r05_Match.2, c_r05_Match.1⟩
  · cases h; exact ⟨_, _, Try.func78, c_r02_In.2, c_r02_In.1⟩
  · cases h; exact ⟨_, _, Try.func79, c_r01_Same.2, c_r01_Same.1⟩
  · cases h; exact ⟨_, _, Try.func80, c_sl_IndexFunc_uint32.2, c_sl_IndexFunc_uint32.1⟩
  · cases h; exact ⟨_, _, Try.func81, c_plane_within.2, c_plane_within.1⟩
  · cases h; exact ⟨_, _, Try.func82, c_plane_point.2, c_plane_point.1⟩
  · cases h; exact ⟨_, _, Try.func83, c_sl_IndexFunc_Pat.2, c_sl_IndexFunc_Pat.1⟩
  · cases h; exact ⟨_, _, Try.func84, c_span_In.2, c_span_In.1⟩
  · cases h; exact ⟨_, _, Try.func85, c_pat_places_with.2, c_pat_places_with.1⟩
  · cases h; exact ⟨_, _, Try.func86, c_r05_ends.2, c_r05_ends.1⟩
  · cases h; exact ⟨_, _, Try.func87, c_sl_ContainsFunc_Span.2, c_sl_ContainsFunc_Span.1⟩
  · cases h; exact ⟨_, _, Try.func88, c_span_In_1.2, c_span_In_1.1⟩
  · cases h; exact ⟨_, _, Try.func89, c_r01_In.2, c_r01_In.1⟩
  · cases h; exact ⟨_, _, Try.func90, c_sl_IndexFunc_Span.2, c_sl_IndexFunc_Span.1⟩
  · cases h
end Go.Proofs.Ythbhafgdbndamaa
