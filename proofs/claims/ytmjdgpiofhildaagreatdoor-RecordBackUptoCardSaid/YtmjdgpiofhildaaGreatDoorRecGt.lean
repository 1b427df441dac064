/- The chain of contracts up to the laws RecordTexts and RecordBack. -/
import Derived.Test.YtmjdgpiofhildaaGreatDoorTx8
import Derived.Test.YtmjdgpiofhildaaGreatDoorShelf
namespace Go.Proofs
open Go.Shelf
/-- What the laying of strings.Repeat holds of a strings.Builder. -/
theorem Tryz.lays240 : Lays.n240 Tryz.prog Tryz.lays105_ren := {
  mixed := Tryz.lays105.mixed
  f240 := Tryz.lays105.f240
  f276 := Tryz.lays105.f276
  t0 := Tryz.lays105.t0
  a0 := Tryz.lays105.a0
  z0 := Tryz.lays105.z0
  v0 := Tryz.lays105.v0
  t4 := Tryz.lays105.t4
  a4 := Tryz.lays105.a4
  z4 := Tryz.lays105.z4
  v4 := Tryz.lays105.v4
  t9 := Tryz.lays105.t9
  a9 := Tryz.lays105.a9
  z9 := Tryz.lays105.z9
  v9 := Tryz.lays105.v9
  t20 := Tryz.lays105.t20
  a20 := Tryz.lays105.a20
  z20 := Tryz.lays105.z20
  v20 := Tryz.lays105.v20
  t70 := Tryz.lays105.t70
  a70 := Tryz.lays105.a70
  z70 := Tryz.lays105.z70
  v70 := Tryz.lays105.v70
  t72 := Tryz.lays105.t72
  a72 := Tryz.lays105.a72
  z72 := Tryz.lays105.z72
  v72 := Tryz.lays105.v72
  t164 := Tryz.lays105.t164
  a164 := Tryz.lays105.a164
  z164 := Tryz.lays105.z164
  v164 := Tryz.lays105.v164
}
theorem Tryz.copyCheck_used (b : Nat) (w : World) (h0 : w.cell? ⟨b, 0, none⟩ = some (.pointer (some ⟨b, 0, none⟩))) : Calls Tryz.prog 66 #[.pointer (some ⟨b, 0, none⟩)] w fun e w2 => e = .returned (.tuple #[]) ∧ w2 = w := Any.Builder_copyCheck_used Tryz.lays240 Tryz.Builder_Extra_105.toX72 b w h0
theorem Tryz.copyCheck_fresh (b : Nat) (w : World) (h0 : w.cell? ⟨b, 0, none⟩ = some (.pointer none)) (hsh : w.shape? b = some (73, 2)) (hfz : w.frozen? ⟨b, 0, none⟩ = false) :
    Calls Tryz.prog 66 #[.pointer (some ⟨b, 0, none⟩)] w fun e w2 => e = .returned (.tuple #[]) ∧ w2 = w.setCell ⟨b, 0, none⟩ (.pointer (some ⟨b, 0, none⟩)) := Any.Builder_copyCheck_fresh Tryz.lays240 Tryz.Builder_Extra_105.toX72 b w h0 hsh hfz
end Go.Proofs
namespace Go.Proofs.YtmjdgpiofhildaaGreatDoor
open Go.RowKit
noncomputable def Ga0 : Gam := Gam.none
theorem ga0_ok (m : GvP) : GamOK Tryz.prog (gv1 m) Ga0 := gam_none _
noncomputable def Ga1 : Gam := Ga0.add Fn.strings_Split (.pure F_Split)
theorem ga1_ok (m : GvP) : GamOK Tryz.prog (gv1 m) Ga1 := gam_add (ga0_ok m) (by kernel_rfl) (split_pure (g := 0) (ty := 9) rfl (fun s sep w hs hm h1 => Tryz.strings_Split s sep m.m w hs hm h1))
noncomputable def Ga2 : Gam := Ga1.add Fn.strings_Repeat (.pure F_Repeat)
theorem ga2_ok (m : GvP) : GamOK Tryz.prog (gv1 m) Ga2 := gam_add (ga1_ok m) (by kernel_rfl) (repeat_pure (fun s c w h1 h2 => Tryz.strings_Repeat s c w h1 h2))
noncomputable def Ga3 : Gam := Ga2.add Fn.slices_Sort___string_string_ (.gen F_Sort)
theorem ga3_ok (m : GvP) : GamOK Tryz.prog (gv1 m) Ga3 := gam_add (ga2_ok m) (by kernel_rfl) (sort_gen (fun blk off cap ss w a b c => Tryz.slices_Sort_string blk off cap ss w a b c) (fun p cap w => Tryz.slices_Sort_string_none p cap w))
noncomputable def Ga4 : Gam := Ga3.add Fn.slices_Compact___string_string_ (.gen F_Compact)
theorem ga4_ok (m : GvP) : GamOK Tryz.prog (gv1 m) Ga4 := gam_add (ga3_ok m) (by kernel_rfl) (compact_gen (fun blk off cap zs w a b c => Tryz.slices_Compact_string blk off cap zs w a b c) (fun p cap w => Tryz.slices_Compact_string_empty p cap w))
noncomputable def Ga5 : Gam := Ga4.add Fn.tree_part_1 (.pure F_part1)
theorem ga5_ok (m : GvP) : GamOK Tryz.prog (gv1 m) Ga5 := gam_add (ga4_ok m) (by kernel_rfl) (Pure.tree_part_1 (ga4_ok m) (part1_ok _))
noncomputable def Ga6 : Gam := Ga5.add Fn.strings_indexFunc (.gen (lookF (F_indexFunc Ga5)))
theorem ga6_ok (m : GvP) : GamOK Tryz.prog (gv1 m) Ga6 := gam_add (ga5_ok m) (by kernel_rfl) (Look.strings_indexFunc (ga5_ok m) (indexFunc_ok _))
noncomputable def Ga7 : Gam := Ga6.add Fn.strings_IndexFunc (.gen (lookF (F_strIndexFunc Ga5)))
theorem ga7_ok (m : GvP) : GamOK Tryz.prog (gv1 m) Ga7 := gam_add (ga6_ok m) (by kernel_rfl) (Look.strings_IndexFunc (ga6_ok m) (strIndexFunc_ok _ _ rfl))
noncomputable def Ga8 : Gam := Ga7.add Fn.strings_ContainsFunc (.gen (lookF (F_strContainsFunc Ga5)))
theorem ga8_ok (m : GvP) : GamOK Tryz.prog (gv1 m) Ga8 := gam_add (ga7_ok m) (by kernel_rfl) (Look.strings_ContainsFunc (ga7_ok m) (strContainsFunc_ok _ _ rfl))
noncomputable def Ga9 : Gam := Ga8.add Fn.tree_part (.pure F_part)
theorem ga9_ok (m : GvP) : GamOK Tryz.prog (gv1 m) Ga9 := gam_add (ga8_ok m) (by kernel_rfl) (Pure.tree_part (ga8_ok m) (part_ok _ Ga5 rfl rfl))
noncomputable def Ga10 : Gam := Ga9.add Fn.tree_Path_1 (.pure F_Path1)
theorem ga10_ok (m : GvP) : GamOK Tryz.prog (gv1 m) Ga10 := gam_add (ga9_ok m) (by kernel_rfl) (Pure.tree_Path_1 (ga9_ok m) (Path1_ok _ rfl))
noncomputable def Ga11 : Gam := Ga10.add Fn.slices_IndexFunc___string_string_ (.gen (lookF (F_IndexFunc false 1 Ga10)))
theorem ga11_ok (m : GvP) : GamOK Tryz.prog (gv1 m) Ga11 := gam_add (ga10_ok m) (by kernel_rfl) (Look.slices_IndexFunc___string_string_ (ga10_ok m) (idxf_ok_slices_IndexFunc___string_string_ _))
noncomputable def Ga12 : Gam := Ga11.add Fn.slices_ContainsFunc___string_string_ (.gen (lookF (F_ContainsFunc false 1 Ga10)))
theorem ga12_ok (m : GvP) : GamOK Tryz.prog (gv1 m) Ga12 := gam_add (ga11_ok m) (by kernel_rfl) (Look.slices_ContainsFunc___string_string_ (ga11_ok m) (contf_ok_slices_ContainsFunc___string_string_ _ _ rfl))
noncomputable def Ga13 : Gam := Ga12.add Fn.tree_Path (.pure F_Path)
theorem ga13_ok (m : GvP) : GamOK Tryz.prog (gv1 m) Ga13 := gam_add (ga12_ok m) (by kernel_rfl) (Pure.tree_Path (ga12_ok m) (Path_ok _ Ga10 rfl rfl rfl))
noncomputable def Ga14 : Gam := Ga13.add Fn.record_touched (.pure F_touched)
theorem ga14_ok (m : GvP) : GamOK Tryz.prog (gv1 m) Ga14 := gam_add (ga13_ok m) (by kernel_rfl) (Pure.record_touched (ga13_ok m) (touched_ok _ rfl))
noncomputable def Ga15 : Gam := Ga14.add Fn.record_files (.gen (lookF F_files))
theorem ga15_ok (m : GvP) : GamOK Tryz.prog (gv1 m) Ga15 := gam_add (ga14_ok m) (by kernel_rfl) (Look.record_files (ga14_ok m) (files_ok _ rfl))
noncomputable def Ga16 : Gam := Ga15.add Fn.record_Check (.pure F_Check)
theorem ga16_ok (m : GvP) : GamOK Tryz.prog (gv1 m) Ga16 := gam_add (ga15_ok m) (by kernel_rfl) (Pure.record_Check (ga15_ok m) (Check_ok _ rfl))
noncomputable def Ga17 : Gam := Ga16.add Fn.record_Writer_1 (.gen (lookF F_Writer1))
theorem ga17_ok (m : GvP) : GamOK Tryz.prog (gv1 m) Ga17 := gam_add (ga16_ok m) (by kernel_rfl) (Look.record_Writer_1 (ga16_ok m) (Writer1_ok _))
noncomputable def Ga18 : Gam := Ga17.add Fn.slices_IndexFunc_api_Record_api_Done_ (.gen (lookF (F_IndexFunc true 6 Ga17)))
theorem ga18_ok (m : GvP) : GamOK Tryz.prog (gv1 m) Ga18 := gam_add (ga17_ok m) (by kernel_rfl) (Look.slices_IndexFunc_api_Record_api_Done_ (ga17_ok m) (idxf_ok_slices_IndexFunc_api_Record_api_Done_ _))
noncomputable def Ga19 : Gam := Ga18.add Fn.record_Writer (.pure F_Writer)
theorem ga19_ok (m : GvP) : GamOK Tryz.prog (gv1 m) Ga19 := gam_add (ga18_ok m) (by kernel_rfl) (Pure.record_Writer (ga18_ok m) (Writer_ok _ Ga17 rfl rfl rfl))
noncomputable def Ga20 : Gam := Ga19.add Fn.record_needed (.pure F_needed)
theorem ga20_ok (m : GvP) : GamOK Tryz.prog (gv1 m) Ga20 := gam_add (ga19_ok m) (by kernel_rfl) (Pure.record_needed (ga19_ok m) (needed_ok _ rfl))
noncomputable def Ga21 : Gam := Ga20.add Fn.record_Needed (.pure F_Needed)
theorem ga21_ok (m : GvP) : GamOK Tryz.prog (gv1 m) Ga21 := gam_add (ga20_ok m) (by kernel_rfl) (Pure.record_Needed (ga20_ok m) (Needed_ok _ rfl))
noncomputable def Ga22 : Gam := Ga21.add Fn.record_Sources (.pure F_Sources)
theorem ga22_ok (m : GvP) : GamOK Tryz.prog (gv1 m) Ga22 := gam_add (ga21_ok m) (by kernel_rfl) (Pure.record_Sources (ga21_ok m) (Sources_ok _ rfl rfl rfl))
noncomputable def Ga23 : Gam := Ga22.add Fn.record_Affected_1 (.gen (lookF F_Affected1))
theorem ga23_ok (m : GvP) : GamOK Tryz.prog (gv1 m) Ga23 := gam_add (ga22_ok m) (by kernel_rfl) (Look.record_Affected_1 (ga22_ok m) (Affected1_ok _))
noncomputable def Ga24 : Gam := Ga23.add Fn.slices_IndexFunc___api_Touch_api_Touch_ (.gen (lookF (F_IndexFunc true 2 Ga23)))
theorem ga24_ok (m : GvP) : GamOK Tryz.prog (gv1 m) Ga24 := gam_add (ga23_ok m) (by kernel_rfl) (Look.slices_IndexFunc___api_Touch_api_Touch_ (ga23_ok m) (idxf_ok_slices_IndexFunc___api_Touch_api_Touch_ _))
noncomputable def Ga25 : Gam := Ga24.add Fn.slices_ContainsFunc___api_Touch_api_Touch_ (.gen (lookF (F_ContainsFunc true 2 Ga23)))
theorem ga25_ok (m : GvP) : GamOK Tryz.prog (gv1 m) Ga25 := gam_add (ga24_ok m) (by kernel_rfl) (Look.slices_ContainsFunc___api_Touch_api_Touch_ (ga24_ok m) (contf_ok_slices_ContainsFunc___api_Touch_api_Touch_ _ _ rfl))
noncomputable def Ga26 : Gam := Ga25.add Fn.record_Affected (.pure F_Affected)
theorem ga26_ok (m : GvP) : GamOK Tryz.prog (gv1 m) Ga26 := gam_add (ga25_ok m) (by kernel_rfl) (Pure.record_Affected (ga25_ok m) (Affected_ok _ Ga23 rfl rfl rfl))
noncomputable def Ga27 : Gam := Ga26.add Fn.slices_Equal___int_int_ (.pure F_EqualI)
theorem ga27_ok (m : GvP) : GamOK Tryz.prog (gv1 m) Ga27 := gam_add (ga26_ok m) (by kernel_rfl) (Pure.slices_Equal___int_int_ (ga26_ok m) (equalI_ok _))
noncomputable def Ga28 : Gam := Ga27.add Fn.slices_Equal___string_string_ (.pure F_EqualS)
theorem ga28_ok (m : GvP) : GamOK Tryz.prog (gv1 m) Ga28 := gam_add (ga27_ok m) (by kernel_rfl) (Pure.slices_Equal___string_string_ (ga27_ok m) (equalS_ok _))
noncomputable def Ga29 : Gam := Ga28.add Fn.slices_Equal___api_Touch_api_Touch_ (.pure F_EqualT)
theorem ga29_ok (m : GvP) : GamOK Tryz.prog (gv1 m) Ga29 := gam_add (ga28_ok m) (by kernel_rfl) (Pure.slices_Equal___api_Touch_api_Touch_ (ga28_ok m) (equalT_ok _))
noncomputable def Ga30 : Gam := Ga29.add Fn.record_equal (.pure F_equal)
theorem ga30_ok (m : GvP) : GamOK Tryz.prog (gv1 m) Ga30 := gam_add (ga29_ok m) (by kernel_rfl) (Pure.record_equal (ga29_ok m) (equal_ok _ rfl))
noncomputable def Ga31 : Gam := Ga30.add Fn.record_Diverge (.pure F_Diverge)
theorem ga31_ok (m : GvP) : GamOK Tryz.prog (gv1 m) Ga31 := gam_add (ga30_ok m) (by kernel_rfl) (Pure.record_Diverge (ga30_ok m) (recDiverge_ok _ rfl))
noncomputable def Ga32 : Gam := Ga31.add Fn.licitref17_Few (.pure F_Few)
theorem ga32_ok (m : GvP) : GamOK Tryz.prog (gv1 m) Ga32 := gam_add (ga31_ok m) (by kernel_rfl) (Pure.licitref17_Few (ga31_ok m) (Few_ok _))
noncomputable def Ga33 : Gam := Ga32.add Fn.licitlaw17_touch (.pure F_touch)
theorem ga33_ok (m : GvP) : GamOK Tryz.prog (gv1 m) Ga33 := gam_add (ga32_ok m) (by kernel_rfl) (Pure.licitlaw17_touch (ga32_ok m) (touch_ok _ rfl))
noncomputable def Ga34 : Gam := Ga33.add Fn.licitlaw17_example (.pure F_example)
theorem ga34_ok (m : GvP) : GamOK Tryz.prog (gv1 m) Ga34 := gam_add (ga33_ok m) (by kernel_rfl) (Pure.licitlaw17_example (ga33_ok m) (example_ok _ rfl))
noncomputable def Ga35 : Gam := Ga34.add Fn.licitlaw17_awake (.pure F_awake)
theorem ga35_ok (m : GvP) : GamOK Tryz.prog (gv1 m) Ga35 := gam_add (ga34_ok m) (by kernel_rfl) (Pure.licitlaw17_awake (ga34_ok m) (awake_ok _ rfl rfl rfl rfl rfl rfl rfl rfl rfl))
noncomputable def Ga36 : Gam := Ga35.add Fn.licitref16_name (.pure F_name)
theorem ga36_ok (m : GvP) : GamOK Tryz.prog (gv1 m) Ga36 := gam_add (ga35_ok m) (by kernel_rfl) (Pure.licitref16_name (ga35_ok m) (name_ok _))
noncomputable def Ga37 : Gam := Ga36.add Fn.licitref16_Path (.pure F_refPath)
theorem ga37_ok (m : GvP) : GamOK Tryz.prog (gv1 m) Ga37 := gam_add (ga36_ok m) (by kernel_rfl) (Pure.licitref16_Path (ga36_ok m) (refPath_ok _ rfl))
noncomputable def Ga38 : Gam := Ga37.add Fn.licitref17_among (.pure F_among)
theorem ga38_ok (m : GvP) : GamOK Tryz.prog (gv1 m) Ga38 := gam_add (ga37_ok m) (by kernel_rfl) (Pure.licitref17_among (ga37_ok m) (among_ok _))
noncomputable def Ga39 : Gam := Ga38.add Fn.licitref17_touched (.pure F_rtouched)
theorem ga39_ok (m : GvP) : GamOK Tryz.prog (gv1 m) Ga39 := gam_add (ga38_ok m) (by kernel_rfl) (Pure.licitref17_touched (ga38_ok m) (rtouched_ok _))
noncomputable def Ga40 : Gam := Ga39.add Fn.licitref17_step (.pure F_step)
theorem ga40_ok (m : GvP) : GamOK Tryz.prog (gv1 m) Ga40 := gam_add (ga39_ok m) (by kernel_rfl) (Pure.licitref17_step (ga39_ok m) (step_ok _ rfl rfl rfl))
noncomputable def Ga41 : Gam := Ga40.add Fn.licitref17_Check (.pure F_refCheck)
theorem ga41_ok (m : GvP) : GamOK Tryz.prog (gv1 m) Ga41 := gam_add (ga40_ok m) (by kernel_rfl) (Pure.licitref17_Check (ga40_ok m) (refCheck_ok _ rfl))
noncomputable def Ga42 : Gam := Ga41.add Fn.licitref17_Equal (.pure F_equal)
theorem ga42_ok (m : GvP) : GamOK Tryz.prog (gv1 m) Ga42 := gam_add (ga41_ok m) (by kernel_rfl) (Pure.licitref17_Equal (ga41_ok m) (refEqual_ok _))
noncomputable def Ga43 : Gam := Ga42.add Fn.licitref17_Diverge (.pure F_Diverge)
theorem ga43_ok (m : GvP) : GamOK Tryz.prog (gv1 m) Ga43 := gam_add (ga42_ok m) (by kernel_rfl) (Pure.licitref17_Diverge (ga42_ok m) (refDiverge_ok _ rfl))
noncomputable def Ga44 : Gam := Ga43.add Fn.licitlaw17_same (.pure F_same)
theorem ga44_ok (m : GvP) : GamOK Tryz.prog (gv1 m) Ga44 := gam_add (ga43_ok m) (by kernel_rfl) (Pure.licitlaw17_same (ga43_ok m) (same_ok _ rfl))
noncomputable def Ga45 : Gam := Ga44.add Fn.__strings_Builder__copyCheck (.gen (F_copyCheck 73))
theorem ga45_ok (m : GvP) : GamOK Tryz.prog (gv1 m) Ga45 := gam_add (ga44_ok m) (by kernel_rfl) (copyCheck_gen (fun b w h0 h1 h2 => Tryz.copyCheck_fresh b w h0 h1 h2) (fun b w h => Tryz.copyCheck_used b w h))
noncomputable def Ga46 : Gam := Ga45.add Fn.__strings_Builder__WriteString (.gen (F_WriteString 73 5))
theorem ga46_ok (m : GvP) : GamOK Tryz.prog (gv1 m) Ga46 := gam_add (ga45_ok m) (by kernel_rfl) (Gen.__strings_Builder__WriteString (ga45_ok m) (WriteString_ok rfl))
noncomputable def Ga47 : Gam := Ga46.add Fn.__strings_Builder__WriteByte (.gen (F_WriteByte 73 5))
theorem ga47_ok (m : GvP) : GamOK Tryz.prog (gv1 m) Ga47 := gam_add (ga46_ok m) (by kernel_rfl) (Gen.__strings_Builder__WriteByte (ga46_ok m) (WriteByte_ok rfl))
noncomputable def Ga48 : Gam := Ga47.add Fn.__strings_Builder__String (.gen (F_String 5))
theorem ga48_ok (m : GvP) : GamOK Tryz.prog (gv1 m) Ga48 := gam_add (ga47_ok m) (by kernel_rfl) (Gen.__strings_Builder__String (ga47_ok m) String_ok)
noncomputable def Ga49 : Gam := Ga48.add Fn.strconv_Itoa (.pure F_Itoa)
theorem ga49_ok (m : GvP) : GamOK Tryz.prog (gv1 m) Ga49 := gam_add (ga48_ok m) (by kernel_rfl) (itoa_pure (g := 1) (by kernel_rfl) rfl (fun n h0 h1 w ht => Tryz.strconv_Itoa n h0 h1 w ht))
noncomputable def Ga50 : Gam := Ga49.add Fn.strconv_Atoi (.pure (F_Atoi 190))
theorem ga50_ok (m : GvP) : GamOK Tryz.prog (gv1 m) Ga50 := gam_add (ga49_ok m) (by kernel_rfl) (atoi_pure (g4 := 4) (g5 := 5) (e5 := 5) rfl rfl (fun s h v hv w => Tryz.strconv_Atoi_ok s h v hv w) (fun s h hv ev w hc he => (Tryz.strconv_Atoi_syntax s h hv ev w hc he).mono fun e w' ⟨N, h1, _, _, h4⟩ => ⟨⟨N, h1⟩, h4⟩) (fun s h hv ev w hc he => (Tryz.strconv_Atoi_range s h hv ev w hc he).mono fun e w' ⟨N, h1, _, _, h4⟩ => ⟨⟨N, h1⟩, h4⟩))
noncomputable def Ga51 : Gam := Ga50.add Fn.strings_Cut (.pure F_Cut)
theorem ga51_ok (m : GvP) : GamOK Tryz.prog (gv1 m) Ga51 := gam_add (ga50_ok m) (by kernel_rfl) (cut_pure (g := 0) rfl (fun s sep w hs hm => Tryz.strings_Cut s sep m.m w hs hm))
noncomputable def Ga52 : Gam := Ga51.add Fn.strings_IndexByte (.pure F_IndexByte)
theorem ga52_ok (m : GvP) : GamOK Tryz.prog (gv1 m) Ga52 := gam_add (ga51_ok m) (by kernel_rfl) (indexByte_pure (fun s c w => Tryz.strings_IndexByte s c w))
noncomputable def Ga53 : Gam := Ga52.add Fn.digest_Hex_1 (.gen F_Hex1)
theorem ga53_ok (m : GvP) : GamOK Tryz.prog (gv1 m) Ga53 := gam_add (ga52_ok m) (by kernel_rfl) (Gen.digest_Hex_1 (ga52_ok m) (Hex1_ok rfl))
noncomputable def Ga54 : Gam := Ga53.add Fn.digest_Hex (.pure F_Hex)
theorem ga54_ok (m : GvP) : GamOK Tryz.prog (gv1 m) Ga54 := gam_add (ga53_ok m) (by kernel_rfl) (Pure.digest_Hex (ga53_ok m) (Hex_ok rfl rfl))
noncomputable def Ga55 : Gam := Ga54.add Fn.record_Print_1 (.gen F_Print1)
theorem ga55_ok (m : GvP) : GamOK Tryz.prog (gv1 m) Ga55 := gam_add (ga54_ok m) (by kernel_rfl) (Gen.record_Print_1 (ga54_ok m) (Print1_ok rfl rfl))
noncomputable def Ga56 : Gam := Ga55.add Fn.record_Print (.pure F_Print)
theorem ga56_ok (m : GvP) : GamOK Tryz.prog (gv1 m) Ga56 := gam_add (ga55_ok m) (by kernel_rfl) (Pure.record_Print (ga55_ok m) (Print_ok _ rfl rfl rfl rfl rfl))
noncomputable def Ga57 : Gam := Ga56.add Fn.licitref16_Decimal (.pure (F_Dec 1))
theorem ga57_ok (m : GvP) : GamOK Tryz.prog (gv1 m) Ga57 := gam_add (ga56_ok m) (by kernel_rfl) (Pure.licitref16_Decimal (ga56_ok m) (Dec_ok 0 (by omega) (.inl rfl)))
noncomputable def Ga58 : Gam := Ga57.add Fn.licitref16_Decimal (.pure (F_Dec 2))
theorem ga58_ok (m : GvP) : GamOK Tryz.prog (gv1 m) Ga58 := gam_add (ga57_ok m) (by kernel_rfl) (Pure.licitref16_Decimal (ga57_ok m) (Dec_ok 1 (by omega) (.inr rfl)))
noncomputable def Ga59 : Gam := Ga58.add Fn.licitref16_Decimal (.pure (F_Dec 3))
theorem ga59_ok (m : GvP) : GamOK Tryz.prog (gv1 m) Ga59 := gam_add (ga58_ok m) (by kernel_rfl) (Pure.licitref16_Decimal (ga58_ok m) (Dec_ok 2 (by omega) (.inr rfl)))
noncomputable def Ga60 : Gam := Ga59.add Fn.licitref16_Decimal (.pure (F_Dec 4))
theorem ga60_ok (m : GvP) : GamOK Tryz.prog (gv1 m) Ga60 := gam_add (ga59_ok m) (by kernel_rfl) (Pure.licitref16_Decimal (ga59_ok m) (Dec_ok 3 (by omega) (.inr rfl)))
noncomputable def Ga61 : Gam := Ga60.add Fn.licitref17_hex (.pure F_hexR)
theorem ga61_ok (m : GvP) : GamOK Tryz.prog (gv1 m) Ga61 := gam_add (ga60_ok m) (by kernel_rfl) (Pure.licitref17_hex (ga60_ok m) hexr_ok)
noncomputable def Ga62 : Gam := Ga61.add Fn.licitref17_touch (.pure F_touchR)
theorem ga62_ok (m : GvP) : GamOK Tryz.prog (gv1 m) Ga62 := gam_add (ga61_ok m) (by kernel_rfl) (Pure.licitref17_touch (ga61_ok m) (touchR_ok rfl))
noncomputable def Ga63 : Gam := Ga62.add Fn.licitref17_Print (.pure F_refPrint)
theorem ga63_ok (m : GvP) : GamOK Tryz.prog (gv1 m) Ga63 := gam_add (ga62_ok m) (by kernel_rfl) (Pure.licitref17_Print (ga62_ok m) (refPrint_ok _ rfl rfl rfl))
noncomputable def Ga64 : Gam := Ga63.add Fn.record_number (.pure F_number)
theorem ga64_ok (m : GvP) : GamOK Tryz.prog (gv1 m) Ga64 := gam_add (ga63_ok m) (by kernel_rfl) (Pure.record_number (ga63_ok m) (number_ok rfl rfl))
noncomputable def Ga65 : Gam := Ga64.add Fn.record_step (.pure F_stepP)
theorem ga65_ok (m : GvP) : GamOK Tryz.prog (gv1 m) Ga65 := gam_add (ga64_ok m) (by kernel_rfl) (PureK.record_step (ga64_ok m) (stepP_ok rfl))
noncomputable def Ga66 : Gam := Ga65.add Fn.digest_Parse (.pure F_dParse)
theorem ga66_ok (m : GvP) : GamOK Tryz.prog (gv1 m) Ga66 := gam_add (ga65_ok m) (by kernel_rfl) (Pure.digest_Parse (ga65_ok m) (dParse_ok rfl))
noncomputable def Ga67 : Gam := Ga66.add Fn.record_file (.pure F_file)
theorem ga67_ok (m : GvP) : GamOK Tryz.prog (gv1 m) Ga67 := gam_add (ga66_ok m) (by kernel_rfl) (Pure.record_file (ga66_ok m) (file_ok rfl))
noncomputable def Ga68 : Gam := Ga67.add Fn.record_Parse (.pure F_Parse)
theorem ga68_ok (m : GvP) : GamOK Tryz.prog (gv1 m) Ga68 := gam_add (ga67_ok m) (by kernel_rfl) (Pure.record_Parse (ga67_ok m) (Parse_ok rfl rfl rfl rfl rfl))
noncomputable def Ga69 : Gam := Ga68.add Fn.licitref16_Cut (.pure F_CutR)
theorem ga69_ok (m : GvP) : GamOK Tryz.prog (gv1 m) Ga69 := gam_add (ga68_ok m) (by kernel_rfl) (Pure.licitref16_Cut (ga68_ok m) CutR_ok)
noncomputable def Ga70 : Gam := Ga69.add Fn.licitref16_Number (.pure F_NumR)
theorem ga70_ok (m : GvP) : GamOK Tryz.prog (gv1 m) Ga70 := gam_add (ga69_ok m) (by kernel_rfl) (Pure.licitref16_Number (ga69_ok m) NumR_ok)
noncomputable def Ga71 : Gam := Ga70.add Fn.licitref17_head (.pure F_headR)
theorem ga71_ok (m : GvP) : GamOK Tryz.prog (gv1 m) Ga71 := gam_add (ga70_ok m) (by kernel_rfl) (PureK.licitref17_head (ga70_ok m) (headR_ok rfl))
noncomputable def Ga72 : Gam := Ga71.add Fn.licitref17_digit (.pure F_digit)
theorem ga72_ok (m : GvP) : GamOK Tryz.prog (gv1 m) Ga72 := gam_add (ga71_ok m) (by kernel_rfl) (Pure.licitref17_digit (ga71_ok m) digit_ok)
noncomputable def Ga73 : Gam := Ga72.add Fn.licitref17_bytes (.pure F_bytes)
theorem ga73_ok (m : GvP) : GamOK Tryz.prog (gv1 m) Ga73 := gam_add (ga72_ok m) (by kernel_rfl) (Pure.licitref17_bytes (ga72_ok m) (bytes_ok rfl))
noncomputable def Ga74 : Gam := Ga73.add Fn.licitref17_file (.pure F_fileR)
theorem ga74_ok (m : GvP) : GamOK Tryz.prog (gv1 m) Ga74 := gam_add (ga73_ok m) (by kernel_rfl) (Pure.licitref17_file (ga73_ok m) (fileR_ok rfl))
noncomputable def Ga75 : Gam := Ga74.add Fn.licitref17_Parse (.pure F_refParse)
theorem ga75_ok (m : GvP) : GamOK Tryz.prog (gv1 m) Ga75 := gam_add (ga74_ok m) (by kernel_rfl) (Pure.licitref17_Parse (ga74_ok m) (refParse_ok rfl rfl rfl rfl))
noncomputable def Ga76 : Gam := Ga75.add Fn.licitlaw17_RecordTexts (.pure F_RecordTexts)
theorem ga76_ok (m : GvP) : GamOK Tryz.prog (gv1 m) Ga76 := gam_add (ga75_ok m) (by kernel_rfl) (Pure.licitlaw17_RecordTexts (ga75_ok m) (RecordTexts_ok _ rfl rfl rfl rfl rfl rfl rfl))
noncomputable def Ga77 : Gam := Ga76.add Fn.licitlaw17_RecordBack (.pure F_RecordBack)
theorem ga77_ok (m : GvP) : GamOK Tryz.prog (gv1 m) Ga77 := gam_add (ga76_ok m) (by kernel_rfl) (Pure.licitlaw17_RecordBack (ga76_ok m) (RecordBack_ok _ rfl rfl rfl rfl rfl rfl))
end Go.Proofs.YtmjdgpiofhildaaGreatDoor
